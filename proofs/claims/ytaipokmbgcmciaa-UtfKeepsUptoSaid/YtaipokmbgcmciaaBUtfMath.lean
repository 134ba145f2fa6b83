/- Lemmas for the law's contracts (UtfMath); each states its own conditions. -/
import Derived.Lib.DecodeN
import Derived.Lib.TrimUEq
import Derived.Test.YtaipokmbgcmciaaWWords
import Derived.Test.YtaipokmbgcmciaaWLast
import Derived.Test.YtaipokmbgcmciaaWTab
import Derived.Test.YtaipokmbgcmciaaWFour
import Derived.Test.YtaipokmbgcmciaaWQPut
import Derived.Test.YtaipokmbgcmciaaWApart
import Derived.Test.YtaipokmbgcmciaaWArr
import Derived.Test.YtaipokmbgcmciaaWZeros
import Derived.Test.YtaipokmbgcmciaaWFoot
import Derived.Test.YtaipokmbgcmciaaWKept
import Derived.Test.YtaipokmbgcmciaaWShare
import Derived.Test.YtaipokmbgcmciaaWN
import Derived.Test.YtaipokmbgcmciaaWFootNe
import Derived.Test.YtaipokmbgcmciaaWAt
import Derived.Test.YtaipokmbgcmciaaWEqStruct
import Derived.Test.YtaipokmbgcmciaaWRepsOne
import Derived.Test.YtaipokmbgcmciaaWInv
import Derived.Test.YtaipokmbgcmciaaWInvWords
import Derived.Test.YtaipokmbgcmciaaWGuard
import Derived.Test.YtaipokmbgcmciaaWNEv
import Derived.Test.YtaipokmbgcmciaaWMore
import Derived.Test.YtaipokmbgcmciaaBUtf
namespace Go.Proofs.Ytaipokmbgcmciaa.B
open Go.RowKit Go.Proofs.YtaipokmbgcmciaaW.PrintWords Go.Proofs.YtaipokmbgcmciaaW.PrintLast Go.Proofs.YtaipokmbgcmciaaW.PrintMore
set_option linter.unusedVariables false
set_option linter.unusedSimpArgs false
namespace UM
/-- Byte k of a list. -/
def b (l : List UInt8) (k : Nat) : Nat := (l.getD k 0).toNat
/-- What begins a list of bytes, by the model's own decoder. -/
def dec (l : List UInt8) : Nat × Nat := Lib.decodeN l.length (b l 0) (b l 1) (b l 2) (b l 3)
theorem b_lt (l : List UInt8) (k : Nat) : b l k < 256 := (l.getD k 0).toNat_lt
theorem b_drop (l : List UInt8) (i k : Nat) : b (l.drop i) k = b l (i + k) := by
  unfold b; simp [List.getD_eq_getElem?_getD]
theorem b_take (l : List UInt8) (m k : Nat) (h : k < m) : b (l.take m) k = b l k := by
  unfold b
  simp only [List.getD_eq_getElem?_getD, List.getElem?_take, if_pos h]
/-- The unit that begins a list. -/
def unit1 (l : List UInt8) : Int := if dec l = (65533, 1) then 1114112 + (b l 0 : Int) else ((dec l).1 : Int)
theorem decN_width (n b0 b1 b2 b3 : Nat) (hn : 1 ≤ n) : 1 ≤ (Lib.decodeN n b0 b1 b2 b3).2 ∧ (Lib.decodeN n b0 b1 b2 b3).2 ≤ n ∧ (Lib.decodeN n b0 b1 b2 b3).2 ≤ 4 := by
  unfold Lib.decodeN
  repeat' split
  all_goals simp only
  all_goals omega
/-- What a character is made of. -/
structure IsChar (n b0 b1 b2 b3 c w : Nat) : Prop where
  fits : 1 ≤ w ∧ w ≤ n
  made : (w = 1 ∧ b0 < 128 ∧ c = b0) ∨
    (w = 2 ∧ 192 ≤ b0 ∧ b0 < 224 ∧ (128 ≤ b1 ∧ b1 < 192) ∧ c = (b0 - 192) * 64 + (b1 - 128) ∧ 128 ≤ c) ∨
    (w = 3 ∧ 224 ≤ b0 ∧ b0 < 240 ∧ (128 ≤ b1 ∧ b1 < 192) ∧ (128 ≤ b2 ∧ b2 < 192) ∧ c = (b0 - 224) * 4096 + (b1 - 128) * 64 + (b2 - 128) ∧ 2048 ≤ c ∧ (c < 55296 ∨ 57344 ≤ c)) ∨
    (w = 4 ∧ 240 ≤ b0 ∧ b0 < 248 ∧ (128 ≤ b1 ∧ b1 < 192) ∧ (128 ≤ b2 ∧ b2 < 192) ∧ (128 ≤ b3 ∧ b3 < 192) ∧ c = (b0 - 240) * 262144 + (b1 - 128) * 4096 + (b2 - 128) * 64 + (b3 - 128) ∧ 65536 ≤ c ∧ c ≤ 1114111)
set_option maxHeartbeats 2000000 in
theorem char_or {n b0 b1 b2 b3 : Nat} (hn : 1 ≤ n) : Lib.decodeN n b0 b1 b2 b3 = (65533, 1) ∨ IsChar n b0 b1 b2 b3 (Lib.decodeN n b0 b1 b2 b3).1 (Lib.decodeN n b0 b1 b2 b3).2 := by
  unfold Lib.decodeN
  repeat' split
  all_goals first
    | exact .inl rfl
    | exact .inr ⟨⟨by omega, by omega⟩, .inl ⟨rfl, by omega, rfl⟩⟩
    | exact .inr ⟨⟨by omega, by omega⟩, .inr (.inl ⟨rfl, by omega, by omega, ⟨by omega, by omega⟩, by simp only; omega, by simp only; omega⟩)⟩
    | exact .inr ⟨⟨by omega, by omega⟩, .inr (.inr (.inl ⟨rfl, by omega, by omega, ⟨by omega, by omega⟩, ⟨by omega, by omega⟩, by simp only; omega, by simp only; omega, by simp only; omega⟩))⟩
    | exact .inr ⟨⟨by omega, by omega⟩, .inr (.inr (.inr ⟨rfl, by omega, by omega, ⟨by omega, by omega⟩, ⟨by omega, by omega⟩, ⟨by omega, by omega⟩, by simp only; omega, by simp only; omega, by simp only; omega⟩))⟩
theorem char_of {n b0 b1 b2 b3 : Nat} (hn : 1 ≤ n) (h : Lib.decodeN n b0 b1 b2 b3 ≠ (65533, 1)) : IsChar n b0 b1 b2 b3 (Lib.decodeN n b0 b1 b2 b3).1 (Lib.decodeN n b0 b1 b2 b3).2 := (char_or hn).resolve_left h
set_option maxHeartbeats 2000000 in
theorem of_char {n b0 b1 b2 b3 c w : Nat} (h : IsChar n b0 b1 b2 b3 c w) : Lib.decodeN n b0 b1 b2 b3 = (c, w) := by
  obtain ⟨⟨hw, hn⟩, h⟩ := h
  unfold Lib.decodeN
  repeat' split
  all_goals first | (exfalso; omega) | (apply Prod.ext <;> simp only <;> omega)
theorem not_char {n b0 b1 b2 b3 c w : Nat} (h : IsChar n b0 b1 b2 b3 c w) : ¬ (c = 65533 ∧ w = 1) := by
  obtain ⟨⟨hw, hn⟩, h | h | h | h⟩ := h <;> omega
/-- A character of a list. -/
def Chr (l : List UInt8) (c w : Nat) : Prop := IsChar l.length (b l 0) (b l 1) (b l 2) (b l 3) c w
theorem dec_chr {l : List UInt8} {c w : Nat} (h : Chr l c w) : dec l = (c, w) := of_char h
theorem chr_dec {l : List UInt8} (hl : l ≠ []) (h : dec l ≠ (65533, 1)) : Chr l (dec l).1 (dec l).2 := char_of (by cases l with | nil => exact absurd rfl hl | cons => simp) h
theorem chr_ne {l : List UInt8} {c w : Nat} (h : Chr l c w) : dec l ≠ (65533, 1) := by
  rw [dec_chr h]
  intro e
  simp only [Prod.mk.injEq] at e
  exact not_char h e
theorem dec_width {l : List UInt8} (hl : l ≠ []) : 1 ≤ (dec l).2 ∧ (dec l).2 ≤ l.length ∧ (dec l).2 ≤ 4 := decN_width _ _ _ _ _ (by cases l with | nil => exact absurd rfl hl | cons => simp)
/-- A character stays one where more, or less, stands behind it. -/
theorem chr_take {l : List UInt8} {c w m : Nat} (h : Chr l c w) (hm : w ≤ m) : Chr (l.take m) c w := by
  obtain ⟨⟨h1, h2⟩, h3⟩ := h
  refine ⟨⟨h1, by rw [List.length_take]; omega⟩, ?_⟩
  rcases h3 with h | h | h | h
  · rw [b_take l m 0 (by omega)]; exact .inl h
  · rw [b_take l m 0 (by omega), b_take l m 1 (by omega)]; exact .inr (.inl h)
  · rw [b_take l m 0 (by omega), b_take l m 1 (by omega), b_take l m 2 (by omega)]; exact .inr (.inr (.inl h))
  · rw [b_take l m 0 (by omega), b_take l m 1 (by omega), b_take l m 2 (by omega), b_take l m 3 (by omega)]; exact .inr (.inr (.inr h))
theorem chr_of_take {l : List UInt8} {c w m : Nat} (h : Chr (l.take m) c w) : Chr l c w ∧ w ≤ m := by
  obtain ⟨⟨h1, h2⟩, h3⟩ := h
  rw [List.length_take] at h2
  refine ⟨⟨⟨h1, by omega⟩, ?_⟩, by omega⟩
  rcases h3 with h | h | h | h
  · rw [b_take l m 0 (by omega)] at h; exact .inl h
  · rw [b_take l m 0 (by omega), b_take l m 1 (by omega)] at h; exact .inr (.inl h)
  · rw [b_take l m 0 (by omega), b_take l m 1 (by omega), b_take l m 2 (by omega)] at h; exact .inr (.inr (.inl h))
  · rw [b_take l m 0 (by omega), b_take l m 1 (by omega), b_take l m 2 (by omega), b_take l m 3 (by omega)] at h; exact .inr (.inr (.inr h))
/-- The bytes of a character behind its first are none that one begins with. -/
theorem chr_inside {l : List UInt8} {c w k : Nat} (h : Chr l c w) (h1 : 1 ≤ k) (h2 : k < w) : 128 ≤ b l k ∧ b l k < 192 := by
  obtain ⟨_, h | h | h | h⟩ := h
  · omega
  · obtain rfl : k = 1 := by omega
    omega
  · rcases (show k = 1 ∨ k = 2 by omega) with rfl | rfl <;> omega
  · rcases (show k = 1 ∨ k = 2 ∨ k = 3 by omega) with rfl | rfl | rfl <;> omega
theorem chr_lead {l : List UInt8} {c w : Nat} (h : Chr l c w) : b l 0 < 128 ∨ 192 ≤ b l 0 := by
  obtain ⟨_, h | h | h | h⟩ := h <;> omega
theorem chr_range {l : List UInt8} {c w : Nat} (h : Chr l c w) : c ≤ 1114111 ∧ (c < 55296 ∨ 57343 < c) := by
  have := b_lt l 0
  obtain ⟨_, h | h | h | h⟩ := h <;> omega
theorem chr_width {l : List UInt8} {c w : Nat} (h : Chr l c w) : utfWidthOf (c : Int) = w := by
  have hr := chr_range h
  unfold utfWidthOf
  rw [if_neg (by omega), if_neg (by omega)]
  obtain ⟨_, h | h | h | h⟩ := h
  · rw [if_pos (by omega)]; omega
  · rw [if_neg (by omega), if_pos (by omega)]; omega
  · rw [if_neg (by omega), if_neg (by omega), if_neg (by omega), if_pos (by omega)]; omega
  · rw [if_neg (by omega), if_neg (by omega), if_neg (by omega), if_neg (by omega)]; omega
/-- The text's own decoder at a place. -/
theorem decode_eq (s : ByteArray) (i : Nat) : Utf8.decode s i = dec (s.data.toList.drop i) := by
  rw [Lib.decode_N s i]
  unfold dec
  rw [List.length_drop, b_drop, b_drop, b_drop, b_drop]
  rfl
end UM

end Go.Proofs.Ytaipokmbgcmciaa.B
