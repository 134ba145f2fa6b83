/- The law's plain side (UtfBack): what the printed functions come to; each theorem states its own conditions. -/
import Derived.Test.YtaipokmbgcmciaaDoorPUx1
import Derived.Test.YtaipokmbgcmciaaDoorPUx2
import Derived.Test.YtaipokmbgcmciaaDoorPUx3
import Derived.Test.YtaipokmbgcmciaaDoorPUx9
import Derived.Test.YtaipokmbgcmciaaDoorBUtfScan
import Derived.Test.YtaipokmbgcmciaaDoorBUtfPrev
import Derived.Test.YtaipokmbgcmciaaDoorBUtfSegs
import Derived.Test.YtaipokmbgcmciaaDoorQUtfRef
import Derived.Test.YtaipokmbgcmciaaDoorQUtfRef2
import Derived.Test.YtaipokmbgcmciaaDoorQUtfRef3
import Derived.Test.YtaipokmbgcmciaaDoorQUtfRef4
import Derived.Test.YtaipokmbgcmciaaDoorQUtfRef5
import Derived.Test.YtaipokmbgcmciaaDoorQUtfRef6
import Derived.Test.YtaipokmbgcmciaaDoorQUtfPlays
namespace Go.Proofs.YtaipokmbgcmciaaDoor.Q
open Go.RowKit Go.Proofs.YtaipokmbgcmciaaDoorW.PrintWords Go.Proofs.YtaipokmbgcmciaaDoorW.PrintLast Go.Proofs.YtaipokmbgcmciaaDoorW.PrintMore Go.Proofs.YtaipokmbgcmciaaDoor.PU Go.Proofs.YtaipokmbgcmciaaDoor.B
set_option linter.unusedVariables false
set_option linter.unusedSimpArgs false
open UM
theorem scan_border (s : ByteArray) {at_ : Nat} {us : List Int} (h : Scan s.data.toList at_ us) : borderB s at_ = true := by
  have hle := h.le
  rw [size_list] at hle
  have key : ∀ m, 1 ≤ m → okAt s at_ m := by
    intro m hm hma
    by_cases hd : dec (s.data.toList.drop (at_ - m)) = (65533, 1)
    · rw [hd]; exact hm
    · have hc := chr_dec (dropne (by rw [size_list]; omega)) hd
      have := h.outside hc (by omega)
      omega
  unfold borderB
  exact decide_eq_true ⟨key 1 (by omega), key 2 (by omega), key 3 (by omega)⟩
theorem scan_last (l : List UInt8) {at_ : Nat} {us : List Int} (h : Scan l at_ us) (hl : at_ < l.length) : lastUnit (l.take (at_ + (dec (l.drop at_)).2)) = (unit1 (l.drop at_), ((dec (l.drop at_)).2 : Int)) := by
  have hw := dec_width (dropne hl)
  rw [List.length_drop] at hw
  have hlen : (l.take (at_ + (dec (l.drop at_)).2)).length = at_ + (dec (l.drop at_)).2 := by rw [List.length_take]; omega
  by_cases hd : dec (l.drop at_) = (65533, 1)
  · have hno : ∀ c n, n ≤ (l.take (at_ + (dec (l.drop at_)).2)).length → ¬ Chr ((l.take (at_ + (dec (l.drop at_)).2)).drop ((l.take (at_ + (dec (l.drop at_)).2)).length - n)) c n := by
      intro c n hn hc
      rw [hlen] at hn hc
      rw [List.drop_take] at hc
      have hc' := (chr_of_take hc).1
      have h4 := chr_w4 hc'
      rw [hd] at hn hc'
      simp only at hn hc'
      by_cases h1 : n = 1
      · subst h1
        rw [show at_ + 1 - 1 = at_ by omega] at hc'
        exact chr_ne hc' hd
      · have := h.outside hc' (by omega)
        omega
    have hne : l.take (at_ + (dec (l.drop at_)).2) ≠ [] := by intro e; rw [e] at hlen; simp at hlen; omega
    unfold lastUnit
    rw [last_bad _ hne hno, if_pos rfl, hlen]
    unfold unit1
    rw [if_pos hd, hd]
    simp only
    rw [b_take _ _ _ (by omega), b_drop, show at_ + 1 - 1 = at_ + 0 by omega]
    rfl
  · have hc := chr_dec (dropne hl) hd
    have hc' : Chr ((l.take (at_ + (dec (l.drop at_)).2)).drop ((l.take (at_ + (dec (l.drop at_)).2)).length - (dec (l.drop at_)).2)) (dec (l.drop at_)).1 (dec (l.drop at_)).2 := by
      rw [hlen, show at_ + (dec (l.drop at_)).2 - (dec (l.drop at_)).2 = at_ by omega, List.drop_take, show at_ + (dec (l.drop at_)).2 - at_ = (dec (l.drop at_)).2 by omega]
      exact chr_take hc (Nat.le_refl _)
    unfold lastUnit unit1
    rw [last_chr _ _ _ (by rw [hlen]; omega) hc']
    have hd' : ¬ ((dec (l.drop at_)).1, (dec (l.drop at_)).2) = (65533, 1) := fun e => hd e
    rw [if_neg hd', if_neg hd]
theorem units_apart (s : ByteArray) : apartB (U s.data.toList) = true := by
  unfold apartB
  rw [(scan_all _).all_units, text_units, units_text, Bool.true_and, decide_eq_true rfl]
theorem back_end (s : ByteArray) (hs : s.size ≤ 16777216) (there : List Int) (ht : there = U s.data.toList) (p : Int) : Ev (fun k => thistlelaw01_UtfBack.l1 k s there 0 0) true := by
  have hul := units_len s
  rw [units_text] at hul
  subst ht
  refine Ev.step (f := fun k => (utf_Text.f (U s.data.toList)).bind fun bt312 => (if (0 : Int) = 0 then (if bt312.2 = 0 then (if bt312.1.toList = s.toList then ((utf_Apart.f k (U s.data.toList)).bind fun t314 => (if t314 = true then ((utf_Units.f s).bind fun t315 => ((thistlelaw01_same.f k (U s.data.toList) t315).bind fun t318 => (some t318))) else (some false))) else (some false)) else (some false)) else (some false))) (fun k => ?_) ?_
  · rw [thistlelaw01_UtfBack.l1, if_neg (by decide)]
  · refine evb0 (text_is _ (by omega)) ?_
    rw [if_pos (scan_all s.data.toList).all_units, text_units]
    refine ev_if_pos rfl (ev_if_pos rfl (ev_if_pos rfl ?_))
    refine Ev.bind (utf_apart _ (by omega)) (ev_if_pos (units_apart s) ?_)
    refine evb0 (a := utfFrom s s.size 0) (by unfold utf_Units.f; rw [if_pos (show s.size ≤ _ by omega)]) ?_
    refine Ev.bind (law_same _ _ (by omega)) ?_
    rw [units_text, decide_eq_true rfl]
    exact Ev.now _
theorem back_loop (s : ByteArray) (hs : s.size ≤ 16777216) (there : List Int) (ht : there = U s.data.toList) {at_ : Nat} {us : List Int} (h : Scan s.data.toList at_ us) :
    Ev (fun k => thistlelaw01_UtfBack.l1 k s there (at_ : Int) (us.length : Int)) true := by
  induction h with
  | zero => exact back_end s hs there ht 0
  | @step at_ us h hl ih =>
    have hw := dec_width (dropne hl)
    rw [List.length_drop] at hw
    have hl' := hl
    rw [size_list] at hl' hw
    have hfew := h.few
    have hpre : there.getD us.length 0 = unit1 (s.data.toList.drop at_) := by
      rw [ht, ← h.rest, U_cons (dropne hl), List.getD_eq_getElem?_getD, List.getElem?_append_right (by omega), Nat.sub_self]
      rfl
    have htl : us.length < there.length := by
      rw [ht, ← h.rest, U_cons (dropne hl), List.length_append, List.length_cons]; omega
    have hlast := scan_last _ h hl
    have hpv : prevOf s ((at_ + (dec (s.data.toList.drop at_)).2 : Nat) : Int) = (unit1 (s.data.toList.drop at_), ((dec (s.data.toList.drop at_)).2 : Int), 0) := by
      unfold prevOf
      rw [if_neg (by omega), if_neg (by omega), Int.toNat_natCast, hlast]
    rw [List.length_append, List.length_singleton]
    refine Ev.step (f := fun k => (utf_Prev.f k s ((at_ + (dec (s.data.toList.drop at_)).2 : Nat) : Int)).bind fun bt308 => (if bt308.2.2 = 0 then (if bt308.2.1 < 1 then (some false) else (if bt308.2.1 > ((at_ + (dec (s.data.toList.drop at_)).2 : Nat) : Int) then (some false) else (if rd there ((us.length : Nat) : Int) = bt308.1 then (thistlelaw01_UtfBack.l1 k s there (wrap64 (((at_ + (dec (s.data.toList.drop at_)).2 : Nat) : Int) - bt308.2.1)) ((us.length : Nat) : Int)) else (some false)))) else (some false))) (fun k => ?_) ?_
    · rw [thistlelaw01_UtfBack.l1, if_pos (by omega), wrap64_of (((us.length + 1 : Nat) : Int) - 1) (by omega), show (((us.length + 1 : Nat) : Int) - 1) = ((us.length : Nat) : Int) by omega]
      simp only [if_neg (show ¬ ((us.length : Nat) : Int) < 0 by omega), if_pos (show (0 : Int) ≤ ((us.length : Nat) : Int) by omega), if_pos (show ((us.length : Nat) : Int) < (there.length : Int) by omega)]
    · refine Ev.bind (utf_prev s _ (by omega)) ?_
      rw [hpv]
      refine ev_if_pos rfl (ev_if_neg (by first | omega | (simp only; omega)) (ev_if_neg (by first | omega | (simp only; omega)) (ev_if_pos (by rw [rd_nat, hpre]) ?_)))
      simp only
      rw [wrap64_of _ (by omega), show ((at_ + (dec (s.data.toList.drop at_)).2 : Nat) : Int) - ((dec (s.data.toList.drop at_)).2 : Int) = (at_ : Int) by omega]
      exact ih
theorem forth_loop (s : ByteArray) (hs : s.size ≤ 16777216) : ∀ (d at_ : Nat) (us : List Int), s.size - at_ = d → Scan s.data.toList at_ us → Ev (fun k => thistlelaw01_UtfBack.l0 k s us (at_ : Int)) true := by
  intro d
  induction d using Nat.strongRecOn with
  | _ d ih =>
    intro at_ us hd h
    have hle := h.le
    have hfew := h.few
    rw [size_list] at hle
    by_cases hl : at_ < s.size
    · have hl2 : at_ < s.data.toList.length := by rw [size_list]; exact hl
      have hw := dec_width (dropne hl2)
      rw [List.length_drop, size_list] at hw
      have hstep := h.step hl2
      have hn := utf_next s (at_ : Int) (by omega)
      rw [if_neg (by omega), if_neg (by omega), Int.toNat_natCast] at hn
      refine Ev.step (f := fun k => (utf_Border.f k s (at_ : Int)).bind fun t304 => (if t304 = true then (if us.length < 35184372088832 then (thistlelaw01_UtfBack.l0 k s (us ++ [unit1 (s.data.toList.drop at_)]) ((at_ + (dec (s.data.toList.drop at_)).2 : Nat) : Int)) else (none)) else (some false))) (fun k => ?_) ?_
      · rw [thistlelaw01_UtfBack.l0, if_pos (by omega), hn, Option.bind_some]
        unfold unitAt
        simp only
        rw [if_pos trivial, if_neg (by omega), wrap64_of ((s.size : Int) - (at_ : Int)) (by omega), if_neg (by omega), wrap64_of _ (by omega), Int.natCast_add]
      · refine Ev.bind (utf_border s (at_ : Int) (by omega)) ?_
        rw [if_neg (by omega), Int.toNat_natCast, scan_border s h]
        refine ev_if_pos rfl (ev_if_pos (by omega) ?_)
        exact ih _ (by omega) _ _ rfl hstep
    · have e : at_ = s.data.toList.length := by rw [size_list]; omega
      subst e
      refine Ev.step (f := fun k => thistlelaw01_UtfBack.l1 k s us (s.size : Int) (us.length : Int)) (fun k => ?_) ?_
      · rw [thistlelaw01_UtfBack.l0, if_neg (by rw [size_list]; omega)]
      · have := back_loop s hs us h.whole h
        rw [size_list] at this
        exact this
theorem UtfBack (s : ByteArray) (hs : s.size ≤ 16777216) : ∃ k, thistlelaw01_UtfBack.f k s = some true := by
  apply Ev.rounds
  unfold thistlelaw01_UtfBack.f
  refine evb0 awake_is (ev_if_pos rfl ?_)
  exact forth_loop s hs _ 0 [] rfl .zero

end Go.Proofs.YtaipokmbgcmciaaDoor.Q
