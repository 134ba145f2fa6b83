/- The law's plain side (UtfRef3): what the printed functions come to; each theorem states its own conditions. -/
import Derived.Test.YtaipokmbgcmciaaDoorPUx1
import Derived.Test.YtaipokmbgcmciaaDoorPUx4
import Derived.Test.YtaipokmbgcmciaaDoorPUx6
import Derived.Test.YtaipokmbgcmciaaDoorBUtfScan
import Derived.Test.YtaipokmbgcmciaaDoorBUtfPrev
import Derived.Test.YtaipokmbgcmciaaDoorQUtfRef
import Derived.Test.YtaipokmbgcmciaaDoorQUtfRef2
namespace Go.Proofs.YtaipokmbgcmciaaDoor.Q
open Go.RowKit Go.Proofs.YtaipokmbgcmciaaDoorW.PrintWords Go.Proofs.YtaipokmbgcmciaaDoorW.PrintLast Go.Proofs.YtaipokmbgcmciaaDoorW.PrintMore Go.Proofs.YtaipokmbgcmciaaDoor.PU Go.Proofs.YtaipokmbgcmciaaDoor.B
set_option linter.unusedVariables false
set_option linter.unusedSimpArgs false
open UM
/-- Does a character that begins n bytes ahead end by a place? -/
def okAt (s : ByteArray) (at_ m : Nat) : Prop := m ≤ at_ → (dec (s.data.toList.drop (at_ - m))).2 ≤ m
instance (s : ByteArray) (a m : Nat) : Decidable (okAt s a m) := inferInstanceAs (Decidable (_ → _))
def borderB (s : ByteArray) (at_ : Nat) : Bool := decide (okAt s at_ 1 ∧ okAt s at_ 2 ∧ okAt s at_ 3)
theorem chrAt_le (s : ByteArray) (i m : Nat) (hi : i < s.size) (hm : 1 ≤ m) : (chrAt s i).2 ≤ (m : Int) ↔ (dec (s.data.toList.drop i)).2 ≤ m := by
  unfold chrAt
  split
  · rename_i h; rw [h]; simp only; omega
  · simp only; omega
theorem refB_step (s : ByteArray) (at_ n : Nat) (hs : s.size ≤ 1073741824) (ha : at_ ≤ s.size) (h1 : 1 ≤ n) (h3 : n ≤ 3) (r : Bool)
    (h : okAt s at_ n → n ≤ at_ → Ev (fun k => thistleref01_Border.l0 k s (at_ : Int) ((n : Int) + 1)) r) (h0 : ¬ n ≤ at_ → r = true) (hb : ¬ okAt s at_ n → r = false) :
    Ev (fun k => thistleref01_Border.l0 k s (at_ : Int) (n : Int)) r := by
  refine Ev.step (f := fun k => thistleref01_Border.j2 k s (at_ : Int) (n : Int) (decide ((n : Int) ≤ (at_ : Int)))) (fun k => ?_) ?_
  · simp only [thistleref01_Border.l0]
    rw [if_pos (by omega)]
  · by_cases hn : n ≤ at_
    · refine Ev.step (f := fun k => (thistleref01_char.f k s ((at_ - n : Nat) : Int)).bind fun bt164 => (if bt164.2 > (n : Int) then (some false) else (thistleref01_Border.l0 k s (at_ : Int) ((n : Int) + 1)))) (fun k => ?_) ?_
      · simp only [thistleref01_Border.j2]
        rw [if_pos (decide_eq_true (by omega)), wrap64_of _ (by omega), wrap64_of _ (by omega), show ((at_ : Int) - (n : Int)) = ((at_ - n : Nat) : Int) by omega]
      · refine Ev.bind (f := fun k x => (if x.2 > (n : Int) then (some false) else (thistleref01_Border.l0 k s (at_ : Int) ((n : Int) + 1)))) (ref_char_ev s (at_ - n) (by omega) hs) ?_
        have hc := chrAt_le s (at_ - n) n (by omega) h1
        by_cases ho : okAt s at_ n
        · exact ev_if_neg (by have := hc.2 (ho hn); omega) (h ho hn)
        · refine ev_if_pos (by have := mt hc.1 (fun h => ho (fun _ => h)); omega) ?_
          rw [hb ho]
          exact Ev.now _
    · refine Ev.step (f := fun _ => some true) (fun k => ?_) (by rw [h0 hn]; exact Ev.now _)
      simp only [thistleref01_Border.j2]
      rw [if_neg (by rw [decide_eq_false (by omega)]; decide)]
theorem refB_end (s : ByteArray) (at_ : Nat) : Ev (fun k => thistleref01_Border.l0 k s (at_ : Int) 4) true := by
  refine Ev.step (f := fun k => thistleref01_Border.j2 k s (at_ : Int) 4 false) (fun k => ?_) ?_
  · simp only [thistleref01_Border.l0]
    rw [if_neg (by omega)]
  · refine Ev.step (f := fun _ => some true) (fun k => ?_) (Ev.now _)
    simp only [thistleref01_Border.j2]
    rw [if_neg (by decide)]
theorem refB_loop (s : ByteArray) (at_ : Nat) (hs : s.size ≤ 1073741824) (ha : at_ ≤ s.size) : Ev (fun k => thistleref01_Border.l0 k s (at_ : Int) 1) (borderB s at_) := by
  unfold borderB
  by_cases h1 : okAt s at_ 1
  · by_cases h2 : okAt s at_ 2
    · by_cases h3 : okAt s at_ 3
      · rw [decide_eq_true ⟨h1, h2, h3⟩]
        exact refB_step s at_ 1 hs ha (by omega) (by omega) true (fun _ _ => refB_step s at_ 2 hs ha (by omega) (by omega) true (fun _ _ => refB_step s at_ 3 hs ha (by omega) (by omega) true (fun _ _ => refB_end s at_) (fun _ => rfl) (fun h => absurd h3 h)) (fun _ => rfl) (fun h => absurd h2 h)) (fun _ => rfl) (fun h => absurd h1 h)
      · rw [decide_eq_false (fun h => h3 h.2.2)]
        have hn3 : 3 ≤ at_ := by refine Classical.byContradiction fun h => h3 (fun h' => absurd h' h)
        exact refB_step s at_ 1 hs ha (by omega) (by omega) false (fun _ _ => refB_step s at_ 2 hs ha (by omega) (by omega) false (fun _ _ => refB_step s at_ 3 hs ha (by omega) (by omega) false (fun h _ => absurd h h3) (fun h => absurd hn3 h) (fun _ => rfl)) (fun h => absurd (show 2 ≤ at_ by omega) h) (fun _ => rfl)) (fun h => absurd (show 1 ≤ at_ by omega) h) (fun _ => rfl)
    · rw [decide_eq_false (fun h => h2 h.2.1)]
      have hn2 : 2 ≤ at_ := by refine Classical.byContradiction fun h => h2 (fun h' => absurd h' h)
      exact refB_step s at_ 1 hs ha (by omega) (by omega) false (fun _ _ => refB_step s at_ 2 hs ha (by omega) (by omega) false (fun h _ => absurd h h2) (fun h => absurd hn2 h) (fun _ => rfl)) (fun h => absurd (show 1 ≤ at_ by omega) h) (fun _ => rfl)
  · rw [decide_eq_false (fun h => h1 h.1)]
    have hn1 : 1 ≤ at_ := by refine Classical.byContradiction fun h => h1 (fun h' => absurd h' h)
    exact refB_step s at_ 1 hs ha (by omega) (by omega) false (fun h _ => absurd h h1) (fun h => absurd hn1 h) (fun _ => rfl)
theorem ref_border (s : ByteArray) (a : Int) (hs : s.size ≤ 1073741824) : Ev (fun k => thistleref01_Border.f k s a) (if a < 0 ∨ a > s.size then false else borderB s a.toNat) := by
  unfold thistleref01_Border.f
  by_cases h1 : a < 0
  · rw [if_pos (.inl h1)]
    refine ev_if_pos h1 (Ev.step (f := fun _ => some false) (fun k => ?_) (Ev.now _))
    simp only [thistleref01_Border.j0, if_true]
  · refine ev_if_neg h1 ?_
    by_cases h2 : a > s.size
    · rw [if_pos (.inr h2), decide_eq_true h2]
      refine Ev.step (f := fun _ => some false) (fun k => ?_) (Ev.now _)
      simp only [thistleref01_Border.j0, if_true]
    · rw [if_neg (by omega), decide_eq_false h2]
      obtain ⟨n, rfl⟩ := Int.eq_ofNat_of_zero_le (show 0 ≤ a by omega)
      rw [Int.toNat_natCast]
      refine Ev.step (f := fun k => thistleref01_Border.l0 k s (n : Int) 1) (fun k => ?_) (refB_loop s n hs (by omega))
      simp only [thistleref01_Border.j0]
      rfl
/-- The program's own. -/
theorem extract_drop (s : ByteArray) (i : Nat) : (s.extract i s.size).data.toList = s.data.toList.drop i := by
  rw [extract_list]; exact List.take_of_length_le (by rw [List.length_drop, size_list]; omega)
theorem extract_take (s : ByteArray) (i : Nat) : (s.extract 0 i).data.toList = s.data.toList.take i := by
  rw [extract_list]; simp
theorem decodeGo_eq (s : ByteArray) (i : Nat) (hi : i < s.size) : Lib.decodeGo (s.extract i s.size) = dec (s.data.toList.drop i) := by
  unfold Lib.decodeGo
  rw [if_neg (by rw [ByteArray.size_extract]; omega), decode_eq, extract_drop, List.drop_zero]
theorem utfB_eq (s : ByteArray) (at_ i k : Nat) (hs : s.size ≤ 1073741824) (ha : at_ ≤ s.size) (hi : i < at_) : utf_Border.l0 (k + 1) s (at_ : Int) (i : Int) = if (i : Int) + ((dec (s.data.toList.drop i)).2 : Int) > (at_ : Int) then some false else utf_Border.l0 k s (at_ : Int) ((i : Int) + 1) := by
  have hw := dec_width ((drop_ne s i).2 (by omega))
  conv => lhs; unfold utf_Border.l0
  rw [if_pos (by omega), if_pos (by omega), if_pos (by omega), Int.toNat_natCast]
  unfold utf8_DecodeRuneInString.f
  rw [Option.bind_some, decodeGo_eq s i (by omega)]
  rw [wrap64_of _ (by omega), wrap64_of _ (by omega)]
theorem utfB_loop (s : ByteArray) (at_ : Nat) (hs : s.size ≤ 1073741824) (ha : at_ ≤ s.size) : ∀ (d i : Nat) (r : Bool), at_ - i = d →
    (r = true ↔ ∀ j, i ≤ j → j < at_ → j + (dec (s.data.toList.drop j)).2 ≤ at_) → Ev (fun k => utf_Border.l0 k s (at_ : Int) (i : Int)) r := by
  intro d
  induction d with
  | zero =>
    intro i r hi hr
    rw [hr.2 (fun j h1 h2 => by omega)]
    refine Ev.step (f := fun _ => some true) (fun k => ?_) (Ev.now _)
    simp only [utf_Border.l0]
    rw [if_neg (by omega)]
  | succ d ih =>
    intro i r hi hr
    have hw := dec_width ((drop_ne s i).2 (by omega))
    refine Ev.step (f := fun k => if (i : Int) + ((dec (s.data.toList.drop i)).2 : Int) > (at_ : Int) then some false else utf_Border.l0 k s (at_ : Int) ((i : Int) + 1)) (fun k => ?_) ?_
    · exact utfB_eq s at_ i k hs ha (by omega)
    · by_cases h : (i : Int) + ((dec (s.data.toList.drop i)).2 : Int) > (at_ : Int)
      · have e : r = false := by
          rw [← Bool.not_eq_true, hr]
          intro h'
          have := h' i (Nat.le_refl _) (by omega)
          omega
        rw [e]
        exact ev_if_pos h (Ev.now _)
      · refine ev_if_neg h ?_
        rw [show ((i : Int) + 1) = ((i + 1 : Nat) : Int) by omega]
        refine ih (i + 1) r (by omega) (hr.trans ⟨fun h' j h1 h2 => h' j (by omega) h2, fun h' j h1 h2 => ?_⟩)
        rcases Nat.lt_or_ge i j with hj | hj
        · exact h' j hj h2
        · obtain rfl : j = i := by omega
          omega
theorem utf_border (s : ByteArray) (a : Int) (hs : s.size ≤ 1073741824) : Ev (fun k => utf_Border.f k s a) (if a < 0 ∨ a > s.size then false else borderB s a.toNat) := by
  unfold utf_Border.f
  by_cases h1 : a < 0
  · rw [if_pos (.inl h1)]
    refine ev_if_pos h1 (Ev.step (f := fun _ => some false) (fun k => ?_) (Ev.now _))
    simp only [utf_Border.j0, if_true]
  · refine ev_if_neg h1 ?_
    by_cases h2 : a > s.size
    · rw [if_pos (.inr h2), decide_eq_true h2]
      refine Ev.step (f := fun _ => some false) (fun k => ?_) (Ev.now _)
      simp only [utf_Border.j0, if_true]
    · rw [if_neg (by omega), decide_eq_false h2]
      obtain ⟨n, rfl⟩ := Int.eq_ofNat_of_zero_le (show 0 ≤ a by omega)
      rw [Int.toNat_natCast]
      refine Ev.step (f := fun k => utf_Border.l0 k s (n : Int) ((n - 3 : Nat) : Int)) (fun k => ?_) ?_
      · simp only [utf_Border.j0]
        rw [if_neg (by decide), wrap64_of _ (by omega)]
        congr 1
        unfold mx
        split <;> omega
      · refine utfB_loop s n hs (by omega) _ (n - 3) _ rfl ?_
        · unfold borderB
          rw [decide_eq_true_iff]
          constructor
          · rintro ⟨o1, o2, o3⟩ j hj1 hj2
            rcases (show n - j = 1 ∨ n - j = 2 ∨ n - j = 3 by omega) with hd | hd | hd
            · have := o1 (by omega); rw [show n - 1 = j by omega] at this; omega
            · have := o2 (by omega); rw [show n - 2 = j by omega] at this; omega
            · have := o3 (by omega); rw [show n - 3 = j by omega] at this; omega
          · intro h
            exact ⟨fun h1 => by have := h (n - 1) (by omega) (by omega); omega, fun h1 => by have := h (n - 2) (by omega) (by omega); omega, fun h1 => by have := h (n - 3) (by omega) (by omega); omega⟩

end Go.Proofs.YtaipokmbgcmciaaDoor.Q
