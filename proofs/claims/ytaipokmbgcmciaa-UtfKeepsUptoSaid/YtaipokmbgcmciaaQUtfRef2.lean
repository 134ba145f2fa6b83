/- The law's plain side (UtfRef2): what the printed functions come to; each theorem states its own conditions. -/
import Derived.Test.YtaipokmbgcmciaaPKx3
import Derived.Test.YtaipokmbgcmciaaPKx4
import Derived.Test.YtaipokmbgcmciaaBUtfScan
import Derived.Test.YtaipokmbgcmciaaQUtfRef
namespace Go.Proofs.Ytaipokmbgcmciaa.Q
open Go.RowKit Go.Proofs.YtaipokmbgcmciaaW.PrintWords Go.Proofs.YtaipokmbgcmciaaW.PrintLast Go.Proofs.YtaipokmbgcmciaaW.PrintMore Go.Proofs.Ytaipokmbgcmciaa.PK Go.Proofs.Ytaipokmbgcmciaa.B
set_option linter.unusedVariables false
set_option linter.unusedSimpArgs false
open UM
theorem ev_some {α : Type} {g : Nat → Option α} {r : α} (h : ∀ k, g k = some r) : Ev g r := ⟨0, fun k _ => h k⟩
theorem ev_if_pos {α : Type} {g f : Nat → Option α} {r : α} {c : Prop} [Decidable c] (hc : c) (h : Ev g r) : Ev (fun k => if c then g k else f k) r := by
  simp only [if_pos hc]; exact h
theorem ev_if_neg {α : Type} {g f : Nat → Option α} {r : α} {c : Prop} [Decidable c] (hc : ¬ c) (h : Ev f r) : Ev (fun k => if c then g k else f k) r := by
  simp only [if_neg hc]; exact h
/-- The unit at a place, and its width. -/
def unitAt (s : ByteArray) (i : Nat) : Int × Int := (unit1 (s.data.toList.drop i), ((dec (s.data.toList.drop i)).2 : Int))
theorem ref_unit (s : ByteArray) (i : Nat) (hi : i < s.size) (hs : s.size ≤ 1073741824) : Ev (fun k => thistleref01_unit.f k s (i : Int)) (unitAt s i) := by
  unfold thistleref01_unit.f
  refine Ev.bind (ref_char_ev s i hi hs) ?_
  have hl := (drop_ne s i).2 hi
  have hw := dec_width hl
  unfold chrAt unitAt unit1
  by_cases h : dec (s.data.toList.drop i) = (65533, 1)
  · rw [if_pos h, if_pos h, h]
    refine ev_some fun k => ?_
    have hb := b_lt s.data.toList i
    simp only [if_true]
    rw [if_pos (by omega), if_pos (by omega), bt_list, b_drop, Nat.add_zero, wrap64_of (b s.data.toList i : Int) (by omega), wrap64_of _ (by omega), wrap32_of _ (by omega)]
    rfl
  · rw [if_neg h, if_neg h]
    refine ev_some fun k => ?_
    simp only
    rw [if_neg (by omega)]
/-- The places of the units. -/
def placesL : Nat → List UInt8 → Int → List Int
  | 0, _, _ => []
  | f + 1, l, p => if l = [] then [] else p :: placesL f (l.drop (dec l).2) (p + (dec l).2)
theorem places_eq (s : ByteArray) : ∀ (f pos : Nat), utfPlaces s f pos = placesL f (s.data.toList.drop pos) pos
  | 0, _ => rfl
  | f + 1, pos => by
    unfold utfPlaces placesL
    by_cases h : pos < s.size
    · rw [if_pos h, if_neg ((drop_ne s pos).2 h), places_eq s f, decode_eq, List.drop_drop, Int.natCast_add]
    · rw [if_neg h, if_pos (by rw [List.drop_eq_nil_iff, size_list]; omega)]
theorem ref_all0 (s : ByteArray) (hs : s.size ≤ 1073741824) : ∀ (f at_ : Nat) (ps us : List Int), s.size ≤ at_ + f → at_ ≤ s.size → ps.length ≤ at_ → us.length ≤ at_ →
    Ev (fun k => thistleref01_All.l0 k s ps us (at_ : Int)) (ps ++ placesL f (s.data.toList.drop at_) at_, us ++ units f (s.data.toList.drop at_))
  | 0, at_, ps, us, h1, h2, h3, h4 => by
    refine Ev.step (f := fun _ => some (ps, us)) (fun k => ?_) (ev_some fun _ => by simp [placesL, units])
    simp only [thistleref01_All.l0]
    rw [if_neg (by omega)]
  | f + 1, at_, ps, us, h1, h2, h3, h4 => by
    by_cases h : at_ < s.size
    · have hl := (drop_ne s at_).2 h
      have hw := dec_width hl
      rw [List.length_drop, size_list] at hw
      refine Ev.step (f := fun k => (thistleref01_unit.f k s (at_ : Int)).bind fun bt139 => (if ps.length < 17592186044416 then (if us.length < 35184372088832 then (thistleref01_All.l0 k s (ps ++ [(at_ : Int)]) (us ++ [bt139.1]) (wrap64 ((at_ : Int) + bt139.2))) else (none)) else (none))) (fun k => ?_) ?_
      · simp only [thistleref01_All.l0]
        rw [if_pos (by omega)]
      · refine Ev.bind (f := fun k bt139 => (if ps.length < 17592186044416 then (if us.length < 35184372088832 then (thistleref01_All.l0 k s (ps ++ [(at_ : Int)]) (us ++ [bt139.1]) (wrap64 ((at_ : Int) + bt139.2))) else (none)) else (none))) (ref_unit s at_ h hs) ?_
        refine ev_if_pos (by omega) (ev_if_pos (by omega) ?_)
        have ih := ref_all0 s hs f (at_ + (dec (s.data.toList.drop at_)).2) (ps ++ [(at_ : Int)]) (us ++ [unit1 (s.data.toList.drop at_)]) (by omega) (by omega) (by simp; omega) (by simp; omega)
        have e : wrap64 ((at_ : Int) + (unitAt s at_).2) = ((at_ + (dec (s.data.toList.drop at_)).2 : Nat) : Int) := by
          unfold unitAt
          rw [wrap64_of _ (by simp only; omega)]
          simp
        rw [e]
        have e2 : placesL (f + 1) (s.data.toList.drop at_) at_ = (at_ : Int) :: placesL f (s.data.toList.drop (at_ + (dec (s.data.toList.drop at_)).2)) ((at_ + (dec (s.data.toList.drop at_)).2 : Nat) : Int) := by
          conv => lhs; unfold placesL
          rw [if_neg hl, List.drop_drop, Int.natCast_add]
        have e3 : units (f + 1) (s.data.toList.drop at_) = unit1 (s.data.toList.drop at_) :: units f (s.data.toList.drop (at_ + (dec (s.data.toList.drop at_)).2)) := by
          conv => lhs; unfold units
          rw [if_neg hl, List.drop_drop]
        rw [e2, e3]
        simpa [unitAt] using ih
    · refine Ev.step (f := fun _ => some (ps, us)) (fun k => ?_) ?_
      · simp only [thistleref01_All.l0]
        rw [if_neg (by omega)]
      · have hl : s.data.toList.drop at_ = [] := by rw [List.drop_eq_nil_iff, size_list]; omega
        refine ev_some fun _ => ?_
        rw [hl]
        simp [placesL, units]
theorem ref_all (s : ByteArray) (hs : s.size ≤ 1073741824) : Ev (fun k => thistleref01_All.f k s) (utfPlaces s s.size 0, utfFrom s s.size 0) := by
  unfold thistleref01_All.f
  have h := ref_all0 s hs s.size 0 [] [] (by omega) (by omega) (by simp) (by simp)
  rw [places_eq, from_eq]
  exact h
theorem ref_units (s : ByteArray) (hs : s.size ≤ 1073741824) : Ev (fun k => thistleref01_Units.f k s) (utfFrom s s.size 0) := by
  unfold thistleref01_Units.f
  exact Ev.bind (f := fun _ x => some x.2) (ref_all s hs) (ev_some fun _ => rfl)
theorem placesL_len : ∀ (f : Nat) (l : List UInt8) (p : Int), (placesL f l p).length = (units f l).length ∧ (units f l).length ≤ l.length
  | 0, l, p => by simp [placesL, units]
  | f + 1, l, p => by
    unfold placesL units
    by_cases hl : l = []
    · simp [hl]
    · have hw := dec_width hl
      have ih := placesL_len f (l.drop (dec l).2) (p + (dec l).2)
      rw [if_neg hl, if_neg hl]
      simp only [List.length_cons]
      rw [List.length_drop] at ih
      omega
theorem ref_places (s : ByteArray) (hs : s.size ≤ 1073741824) : Ev (fun k => thistleref01_Places.f k s) (utfPlaces s s.size 0 ++ [(s.size : Int)]) := by
  unfold thistleref01_Places.f
  refine Ev.bind (f := fun _ x => if x.1.length < 17592186044416 then (some (x.1 ++ [(s.size : Int)])) else (none)) (ref_all s hs) ?_
  have h := placesL_len s.size (s.data.toList.drop 0) ((0 : Nat) : Int)
  rw [List.length_drop, size_list, ← places_eq] at h
  exact ev_if_pos (show (utfPlaces s s.size 0).length < _ by omega) (ev_some fun _ => rfl)

end Go.Proofs.Ytaipokmbgcmciaa.Q
