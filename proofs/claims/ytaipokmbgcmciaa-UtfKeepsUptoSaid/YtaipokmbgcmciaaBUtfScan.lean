/- Lemmas for the law's contracts (UtfScan); each states its own conditions. -/
import Derived.Test.YtaipokmbgcmciaaWWords
import Derived.Test.YtaipokmbgcmciaaWLast
import Derived.Test.YtaipokmbgcmciaaWTab
import Derived.Test.YtaipokmbgcmciaaWFour
import Derived.Test.YtaipokmbgcmciaaWQPut
import Derived.Test.YtaipokmbgcmciaaWApart
import Derived.Test.YtaipokmbgcmciaaWArr
import Derived.Test.YtaipokmbgcmciaaWZeros
import Derived.Test.YtaipokmbgcmciaaWFoot
import Derived.Test.YtaipokmbgcmciaaWKept
import Derived.Test.YtaipokmbgcmciaaWShare
import Derived.Test.YtaipokmbgcmciaaWN
import Derived.Test.YtaipokmbgcmciaaWFootNe
import Derived.Test.YtaipokmbgcmciaaWAt
import Derived.Test.YtaipokmbgcmciaaWEqStruct
import Derived.Test.YtaipokmbgcmciaaWRepsOne
import Derived.Test.YtaipokmbgcmciaaWInv
import Derived.Test.YtaipokmbgcmciaaWInvWords
import Derived.Test.YtaipokmbgcmciaaWGuard
import Derived.Test.YtaipokmbgcmciaaWNEv
import Derived.Test.YtaipokmbgcmciaaWMore
import Derived.Test.YtaipokmbgcmciaaBUtfMath
namespace Go.Proofs.Ytaipokmbgcmciaa.B
open Go.RowKit Go.Proofs.YtaipokmbgcmciaaW.PrintWords Go.Proofs.YtaipokmbgcmciaaW.PrintLast Go.Proofs.YtaipokmbgcmciaaW.PrintMore
set_option linter.unusedVariables false
set_option linter.unusedSimpArgs false
namespace UM
/-- The units of a list. -/
def units : Nat → List UInt8 → List Int
  | 0, _ => []
  | f + 1, l => if l = [] then [] else unit1 l :: units f (l.drop (dec l).2)
def U (l : List UInt8) : List Int := units l.length l
theorem units_nil (f : Nat) : units f [] = [] := by cases f <;> simp [units]
theorem units_fuel : ∀ (n f : Nat) (l : List UInt8), l.length ≤ n → l.length ≤ f → units f l = units n l
  | 0, f, l, h, _ => by
    have : l = [] := List.eq_nil_of_length_eq_zero (by omega)
    subst this
    rw [units_nil, units_nil]
  | n + 1, 0, l, _, h => by
    have : l = [] := List.eq_nil_of_length_eq_zero (by omega)
    subst this
    rw [units_nil, units_nil]
  | n + 1, f + 1, l, h, h' => by
    unfold units
    by_cases hl : l = []
    · rw [if_pos hl, if_pos hl]
    · rw [if_neg hl, if_neg hl, units_fuel n f (l.drop (dec l).2) (by have := dec_width hl; rw [List.length_drop]; omega) (by have := dec_width hl; rw [List.length_drop]; omega)]
theorem U_nil : U [] = [] := rfl
theorem U_cons {l : List UInt8} (hl : l ≠ []) : U l = unit1 l :: U (l.drop (dec l).2) := by
  have hw := dec_width hl
  have h0 : 0 < l.length := by omega
  unfold U
  obtain ⟨n, hn⟩ : ∃ n, l.length = n + 1 := ⟨l.length - 1, by omega⟩
  rw [hn]
  conv => lhs; unfold units
  rw [if_neg hl]
  congr 1
  exact units_fuel _ _ _ (Nat.le_refl _) (by rw [List.length_drop]; omega)
theorem dec_bad {l : List UInt8} (hl : l ≠ []) : dec l = (65533, 1) ↔ (dec l).1 = 65533 ∧ ¬ l.take 3 = [239, 191, 189] := by
  constructor
  · intro h
    refine ⟨by rw [h], fun e => ?_⟩
    have hlen : 3 ≤ l.length := by
      have := congrArg List.length e
      rw [List.length_take] at this
      simp at this
      omega
    have hb : ∀ k, k < 3 → b l k = ([239, 191, 189].getD k 0 : UInt8).toNat := by
      intro k hk
      rw [← b_take l 3 k hk, e]; rfl
    have h0 := hb 0 (by omega); have h1 := hb 1 (by omega); have h2 := hb 2 (by omega)
    simp at h0 h1 h2
    have : Chr l 65533 3 := ⟨⟨by omega, hlen⟩, .inr (.inr (.inl ⟨rfl, by omega, by omega, by omega, by omega, by omega, by omega, by omega⟩))⟩
    exact chr_ne this h
  · rintro ⟨h1, h2⟩
    refine Classical.byContradiction fun h => ?_
    have hc := chr_dec hl h
    rw [h1] at hc
    refine h2 ?_
    obtain ⟨⟨hw0, hw⟩, hc⟩ := hc
    have h0 := b_lt l 0; have h1' := b_lt l 1
    have hb : b l 0 = 239 ∧ b l 1 = 191 ∧ b l 2 = 189 ∧ 3 ≤ l.length := by
      rcases hc with hc | hc | hc | hc <;> omega
    match l, hb with
    | x :: y :: z :: t, ⟨hx, hy, hz, _⟩ =>
      simp only [b, List.getD_cons_zero, List.getD_cons_succ] at hx hy hz
      simp only [List.take_succ_cons, List.take_zero, List.cons.injEq, and_true]
      exact ⟨UInt8.toNat_inj.1 hx, UInt8.toNat_inj.1 hy, UInt8.toNat_inj.1 hz⟩
    | [], hb => simp at hb
    | [_], hb => simp at hb
    | [_, _], hb => simp at hb
theorem bt_list (s : ByteArray) (i : Nat) : bt s (i : Int) = (b s.data.toList i : Int) := by
  unfold bt b
  simp only [Int.toNat_natCast]
  split
  · rename_i h
    rw [List.getD_eq_getElem?_getD, List.getElem?_eq_getElem (by simpa using h)]
    rfl
  · rename_i h
    rw [List.getD_eq_getElem?_getD, List.getElem?_eq_none (by simpa using h)]
    rfl
theorem size_list (s : ByteArray) : s.data.toList.length = s.size := Array.length_toList
theorem drop_ne (s : ByteArray) (i : Nat) : s.data.toList.drop i ≠ [] ↔ i < s.size := by
  rw [Ne, List.drop_eq_nil_iff, size_list]; omega
theorem extract_list (s : ByteArray) (i j : Nat) : (s.extract i j).data.toList = (s.data.toList.drop i).take (j - i) := by
  rw [ByteArray.data_extract, Array.toList_extract, List.extract_eq_take_drop]
theorem extract3 (s : ByteArray) (i : Nat) : ((s.extract i s.size).extract 0 3).toList = (s.data.toList.drop i).take 3 := by
  have e : (s.data.toList.drop i).take (s.size - i) = s.data.toList.drop i := List.take_of_length_le (by rw [List.length_drop, size_list]; omega)
  rw [ByteArray.toList_eq, extract_list, extract_list, List.drop_zero, e]
theorem unitAt_eq (s : ByteArray) (i : Nat) (hi : i < s.size) : utfUnitAt s i = unit1 (s.data.toList.drop i) := by
  unfold utfUnitAt unit1
  rw [decode_eq, extract3, bt_list]
  have hl := (drop_ne s i).2 hi
  have hb : b (s.data.toList.drop i) 0 = b s.data.toList i := b_drop _ _ _
  rw [hb]
  by_cases h : dec (s.data.toList.drop i) = (65533, 1)
  · rw [if_pos ((dec_bad hl).1 h), if_pos h]
  · rw [if_neg (fun h' => h ((dec_bad hl).2 h')), if_neg h]
theorem from_eq (s : ByteArray) : ∀ (f pos : Nat), utfFrom s f pos = units f (s.data.toList.drop pos)
  | 0, _ => rfl
  | f + 1, pos => by
    unfold utfFrom units
    by_cases h : pos < s.size
    · rw [if_pos h, if_neg ((drop_ne s pos).2 h), unitAt_eq s pos h, from_eq s f, decode_eq, List.drop_drop]
    · rw [if_neg h, if_pos (by rw [List.drop_eq_nil_iff, size_list]; omega)]
theorem units_text (s : ByteArray) : utfFrom s s.size 0 = U s.data.toList := by
  rw [from_eq, List.drop_zero, ← size_list]; rfl
theorem unit1_range {l : List UInt8} (hl : l ≠ []) : utfIsUnit (unit1 l) = true := by
  unfold unit1 utfIsUnit
  apply decide_eq_true
  have h0 := b_lt l 0
  split
  · rename_i h
    by_cases hb : b l 0 < 128
    · exact absurd h (chr_ne (⟨⟨Nat.le_refl _, by cases l with | nil => exact absurd rfl hl | cons => simp⟩, .inl ⟨rfl, hb, rfl⟩⟩ : Chr l (b l 0) 1))
    · omega
  · rename_i h
    have := chr_range (chr_dec hl h)
    omega
theorem unit1_bad {l : List UInt8} (hl : l ≠ []) : unit1 l > 1114111 ↔ dec l = (65533, 1) := by
  unfold unit1
  split
  · rename_i h; simp [h]; omega
  · rename_i h
    have := chr_range (chr_dec hl h)
    simp [h]; omega
end UM

end Go.Proofs.Ytaipokmbgcmciaa.B
