/- The law's plain side (UtfCuts): what the printed functions come to; each theorem states its own conditions. -/
import Derived.Test.YtaipokmbgcmciaaDoorPUx1
import Derived.Test.YtaipokmbgcmciaaDoorPUx10
import Derived.Test.YtaipokmbgcmciaaDoorPUx2
import Derived.Test.YtaipokmbgcmciaaDoorPUx3
import Derived.Test.YtaipokmbgcmciaaDoorBUtfScan
import Derived.Test.YtaipokmbgcmciaaDoorBUtfPrev
import Derived.Test.YtaipokmbgcmciaaDoorBUtfSegs
import Derived.Test.YtaipokmbgcmciaaDoorQUtfRef
import Derived.Test.YtaipokmbgcmciaaDoorQUtfRef2
import Derived.Test.YtaipokmbgcmciaaDoorQUtfRef3
import Derived.Test.YtaipokmbgcmciaaDoorQUtfRef4
import Derived.Test.YtaipokmbgcmciaaDoorQUtfRef5
import Derived.Test.YtaipokmbgcmciaaDoorQUtfRef6
import Derived.Test.YtaipokmbgcmciaaDoorQUtfPlays
namespace Go.Proofs.YtaipokmbgcmciaaDoor.Q
open Go.RowKit Go.Proofs.YtaipokmbgcmciaaDoorW.PrintWords Go.Proofs.YtaipokmbgcmciaaDoorW.PrintLast Go.Proofs.YtaipokmbgcmciaaDoorW.PrintMore Go.Proofs.YtaipokmbgcmciaaDoor.PU Go.Proofs.YtaipokmbgcmciaaDoor.B
set_option linter.unusedVariables false
set_option linter.unusedSimpArgs false
open UM
theorem border_yes (s : ByteArray) (at_ : Nat) (ha : at_ ≤ s.size) (h : borderB s at_ = true) : U (s.data.toList.take at_) ++ U (s.data.toList.drop at_) = U s.data.toList := by
  have h' := of_decide_eq_true h
  have ha' : at_ ≤ s.data.toList.length := by rw [size_list]; exact ha
  obtain ⟨us, hs⟩ := Scan.reach at_ ha' (fun p us hp hlt => by
    have hw := dec_width (dropne (l := s.data.toList) (i := p) (by omega))
    refine Classical.byContradiction fun hn => ?_
    have hm : ∀ m, okAt s at_ m → at_ - p = m → False := fun m ho hm => by
      have := ho (by omega)
      rw [show at_ - m = p by omega] at this
      omega
    rcases (show at_ - p = 1 ∨ at_ - p = 2 ∨ at_ - p = 3 by omega) with e | e | e
    · exact hm 1 h'.1 e
    · exact hm 2 h'.2.1 e
    · exact hm 3 h'.2.2 e)
  have hc := hs.cut (Nat.le_refl _) ha'
  have hl : (s.data.toList.take at_).length = at_ := by rw [List.length_take]; omega
  have hwh : us = U (s.data.toList.take at_) := by
    apply Scan.whole
    rw [hl]
    exact hc
  rw [← hwh]
  exact hs.rest
theorem border_no (s : ByteArray) (at_ : Nat) (ha : at_ ≤ s.size) (h : borderB s at_ = false) : U (s.data.toList.take at_) ++ U (s.data.toList.drop at_) ≠ U s.data.toList := by
  have ha' : at_ ≤ s.data.toList.length := by rw [size_list]; exact ha
  have h' : ∃ m, 1 ≤ m ∧ m ≤ at_ ∧ m < (dec (s.data.toList.drop (at_ - m))).2 := by
    refine Classical.byContradiction fun hn => ?_
    have hk : ∀ m, 1 ≤ m → okAt s at_ m := fun m h1 h2 => Nat.le_of_not_lt fun h3 => hn ⟨m, h1, h2, h3⟩
    have : borderB s at_ = true := decide_eq_true ⟨hk 1 (by omega), hk 2 (by omega), hk 3 (by omega)⟩
    rw [h] at this
    exact absurd this (by decide)
  obtain ⟨m, h1, h2, h3⟩ := h'
  have hlt : at_ - m < s.data.toList.length := by omega
  have hd : dec (s.data.toList.drop (at_ - m)) ≠ (65533, 1) := by intro e; rw [e] at h3; simp only at h3; omega
  have hc := chr_dec (dropne hlt) hd
  obtain ⟨us, hs⟩ := Scan.reach (l := s.data.toList) (at_ - m) (by omega) (fun p us hp hpl => by
    refine Classical.byContradiction fun hn => ?_
    by_cases hb : dec (s.data.toList.drop p) = (65533, 1)
    · rw [hb] at hn; simp only at hn; omega
    · have hin := chr_inside (chr_dec (dropne (by omega)) hb) (show 1 ≤ at_ - m - p by omega) (by omega)
      have hle := chr_lead hc
      rw [b_drop] at hin hle
      rw [Nat.add_zero] at hle
      rw [show p + (at_ - m - p) = at_ - m by omega] at hin
      omega)
  have hcut := hs.cut (at_ := at_) (by omega) ha'
  have hl1 : at_ - m < (s.data.toList.take at_).length := by rw [List.length_take]; omega
  intro e
  rw [← hs.rest, ← hcut.rest, U_cons (dropne hlt), U_cons (dropne hl1), List.append_assoc] at e
  have e2 := List.append_cancel_left e
  have e3 := (List.cons.inj e2).1
  have hbad : dec ((s.data.toList.take at_).drop (at_ - m)) = (65533, 1) := by
    refine Classical.byContradiction fun hnb => ?_
    have hx := chr_dec (dropne hl1) hnb
    rw [List.drop_take] at hx
    obtain ⟨hx1, hx2⟩ := chr_of_take hx
    have := dec_chr hx1
    rw [this] at h3
    simp only at h3
    omega
  have b1 := (unit1_bad (dropne hl1)).2 hbad
  have b2 := mt (unit1_bad (dropne hlt)).1 hd
  rw [e3] at b1
  exact b2 b1
theorem border_eq (s : ByteArray) (at_ : Nat) (ha : at_ ≤ s.size) : borderB s at_ = decide (U (s.data.toList.take at_) ++ U (s.data.toList.drop at_) = U s.data.toList) := by
  cases h : borderB s at_ with
  | true => rw [decide_eq_true (border_yes s at_ ha h)]
  | false => rw [decide_eq_false (border_no s at_ ha h)]
theorem textOf_snoc (l : List Int) (i : Nat) (hi : i < l.length) : utfTextOf (l.take i) ++ utfTextOf [l.getD i 0] = utfTextOf (l.take (i + 1)) := by
  have e : l.take (i + 1) = l.take i ++ [l.getD i 0] := by
    rw [List.take_succ_eq_append_getElem hi, List.getD_eq_getElem?_getD, List.getElem?_eq_getElem hi]; rfl
  rw [e]
  unfold utfTextOf
  apply ByteArray.ext
  simp
theorem cuts_loop (us : List Int) (hu : us.length ≤ 16777216) : ∀ (d i : Nat), us.length - i = d → i ≤ us.length → (us.take i).all utfIsUnit = true →
    Ev (fun k => thistlelaw01_UtfCuts.l0 k us (utfTextOf (us.take i)) (i : Int)) true
  | 0, i, hd, hi, ha => by
    obtain rfl : i = us.length := by omega
    rw [List.take_length] at ha ⊢
    have hz := textOf_size us
    have hul := units_len (utfTextOf us)
    refine Ev.step (f := fun k => (thistlelaw01_copied.f us).bind fun t359 => ((utf_Text.f t359).bind fun bt362 => (if bt362.2 = 0 then (if bt362.1.toList = (utfTextOf us).toList then ((thistlelaw01_copied.f us).bind fun t364 => ((utf_Apart.f k t364).bind fun t367 => ((utf_Units.f (utfTextOf us)).bind fun t368 => ((thistlelaw01_same.f k t368 us).bind fun t371 => (some (t367 == t371)))))) else (some false)) else (some false)))) (fun k => ?_) ?_
    · rw [thistlelaw01_UtfCuts.l0, if_neg (by omega)]
    · refine evb0 (copied_is us (by omega)) (evb0 (text_is us (by omega)) ?_)
      rw [if_pos ha]
      refine ev_if_pos rfl (ev_if_pos rfl (evb0 (copied_is us (by omega)) (Ev.bind (utf_apart us hu) ?_)))
      refine evb0 (a := utfFrom (utfTextOf us) (utfTextOf us).size 0) (by unfold utf_Units.f; rw [if_pos (show (utfTextOf us).size ≤ _ by omega)]) ?_
      refine Ev.bind (law_same _ _ (by omega)) ?_
      refine ev_some fun _ => ?_
      unfold apartB
      rw [ha, Bool.true_and, beq_self_eq_true]
  | d + 1, i, hd, hi, ha => by
    have hlt : i < us.length := by omega
    have hz := textOf_size (us.take i)
    have hz1 := textOf_size [us.getD i 0]
    rw [List.length_take] at hz
    rw [List.length_singleton] at hz1
    have h1 := text_is [us.getD i 0] (by simp)
    rw [show ([us.getD i 0] : List Int).all utfIsUnit = utfIsUnit (us.getD i 0) by simp] at h1
    by_cases h : utfIsUnit (us.getD i 0) = true
    · rw [if_pos h] at h1
      refine Ev.step (f := fun k => thistlelaw01_UtfCuts.l0 k us (utfTextOf (us.take (i + 1))) ((i + 1 : Nat) : Int)) (fun k => ?_) ?_
      · rw [thistlelaw01_UtfCuts.l0, if_pos (by omega), if_pos (by omega), rd_nat, h1, Option.bind_some, if_pos rfl, if_pos (by simp only; omega), wrap64_of _ (by omega), Int.natCast_add, textOf_snoc us i hlt]
        rfl
      · refine cuts_loop us hu d (i + 1) (by omega) (by omega) ?_
        rw [utfTake_all us i hlt (us.getD i 0) rfl, ha, h]; rfl
    · rw [if_neg h] at h1
      have hall : us.all utfIsUnit = false := by
        rw [← Bool.not_eq_true]
        intro hx
        rw [List.all_eq_true] at hx
        refine h (hx _ ?_)
        rw [List.getD_eq_getElem?_getD, List.getElem?_eq_getElem hlt]
        exact List.getElem_mem hlt
      refine Ev.step (f := fun k => (thistlelaw01_copied.f us).bind fun t350 => ((utf_Text.f t350).bind fun bt353 => (if bt353.2 = 2 then ((thistlelaw01_copied.f us).bind fun t355 => ((utf_Apart.f k t355).bind fun t358 => (some (!t358)))) else (some false)))) (fun k => ?_) ?_
      · rw [thistlelaw01_UtfCuts.l0, if_pos (by omega), if_pos (by omega), rd_nat, h1, Option.bind_some]
        simp only
        rfl
      · have h2 := text_is us (by omega)
        rw [if_neg (by rw [hall]; decide)] at h2
        refine evb0 (copied_is us (by omega)) (evb0 h2 (ev_if_pos rfl (evb0 (copied_is us (by omega)) (Ev.bind (utf_apart us hu) ?_))))
        refine ev_some fun _ => ?_
        unfold apartB
        rw [hall]; rfl
theorem cuts_j1 (us : List Int) (hu : us.length ≤ 16777216) : Ev (fun k => thistlelaw01_UtfCuts.j1 k us) true := by
  refine Ev.step (f := fun k => thistlelaw01_UtfCuts.l0 k us (⟨#[]⟩ : ByteArray) 0) (fun k => ?_) ?_
  · rw [thistlelaw01_UtfCuts.j1]
  · exact cuts_loop us hu _ 0 rfl (Nat.zero_le _) rfl
theorem cuts_out (s : ByteArray) (a : Int) (us : List Int) (hs : s.size ≤ 16777216) (hu : us.length ≤ 16777216) (h : a < 0 ∨ a > s.size) : Ev (fun k => thistlelaw01_UtfCuts.j0 k s a us true) true := by
  have hn := utf_next s a (by omega)
  rw [if_pos h] at hn
  have hp := utf_prev s a (by omega)
  unfold prevOf at hp
  rw [if_pos h] at hp
  have hb := utf_border s a (by omega)
  rw [if_pos h] at hb
  refine Ev.step (fun k => by rw [thistlelaw01_UtfCuts.j0]) (ev_if_pos rfl ?_)
  exact evb0 hn (Ev.bind hp (Ev.bind hb (ev_if_neg (by decide) (ev_if_pos rfl (ev_if_pos rfl (cuts_j1 us hu))))))
theorem UtfCuts (s : ByteArray) (a : Int) (us : List Int) (hs : s.size ≤ 16777216) (hu : us.length ≤ 16777216) : ∃ k, thistlelaw01_UtfCuts.f k s a us = some true := by
  apply Ev.rounds
  unfold thistlelaw01_UtfCuts.f
  refine evb0 awake_is (ev_if_pos rfl ?_)
  by_cases h1 : a < 0
  · exact ev_if_pos h1 (cuts_out s a us hs hu (.inl h1))
  · refine ev_if_neg h1 ?_
    by_cases h2 : a > s.size
    · rw [decide_eq_true h2]
      exact cuts_out s a us hs hu (.inr h2)
    · rw [decide_eq_false h2]
      obtain ⟨n, rfl⟩ := Int.eq_ofNat_of_zero_le (show 0 ≤ a by omega)
      have hb := utf_border s (n : Int) (by omega)
      rw [if_neg (by omega), Int.toNat_natCast, border_eq s n (by omega)] at hb
      have z1 : (s.extract 0 n).size = n := by rw [ByteArray.size_extract]; omega
      have z2 : (s.extract n s.size).size = s.size - n := by rw [ByteArray.size_extract]; omega
      have u1 : utf_Units.f (s.extract 0 n) = some (U (s.data.toList.take n)) := by unfold utf_Units.f; rw [if_pos (by omega), units_text, extract_take]
      have u2 : utf_Units.f (s.extract n s.size) = some (U (s.data.toList.drop n)) := by unfold utf_Units.f; rw [if_pos (by omega), units_text, extract_drop]
      have u3 : utf_Units.f s = some (U s.data.toList) := by unfold utf_Units.f; rw [if_pos (by omega), units_text]
      have l1 := units_len (s.extract 0 n); rw [units_text, extract_take] at l1
      have l2 := units_len (s.extract n s.size); rw [units_text, extract_drop] at l2
      refine Ev.step (fun k => by rw [thistlelaw01_UtfCuts.j0]) (ev_if_neg (by decide) (ev_if_pos (by omega) (ev_if_pos (by omega) ?_)))
      rw [Int.toNat_natCast]
      refine evb0 u1 (evb0 (copied_is _ (by omega)) (evb0 u2 (ev_if_pos (by omega) (Ev.bind hb (evb0 u3 (Ev.bind (law_same _ _ (by rw [List.length_append]; omega)) ?_))))))
      exact ev_if_neg (by simp) (cuts_j1 us hu)

end Go.Proofs.YtaipokmbgcmciaaDoor.Q
