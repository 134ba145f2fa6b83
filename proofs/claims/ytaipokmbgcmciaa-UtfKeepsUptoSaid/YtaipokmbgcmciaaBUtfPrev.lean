/- Lemmas for the law's contracts (UtfPrev); each states its own conditions. -/
import Derived.Lib.SpaceU
import Derived.Lib.ValidU
import Derived.Test.YtaipokmbgcmciaaWWords
import Derived.Test.YtaipokmbgcmciaaWLast
import Derived.Test.YtaipokmbgcmciaaWTab
import Derived.Test.YtaipokmbgcmciaaWFour
import Derived.Test.YtaipokmbgcmciaaWQPut
import Derived.Test.YtaipokmbgcmciaaWApart
import Derived.Test.YtaipokmbgcmciaaWArr
import Derived.Test.YtaipokmbgcmciaaWZeros
import Derived.Test.YtaipokmbgcmciaaWFoot
import Derived.Test.YtaipokmbgcmciaaWKept
import Derived.Test.YtaipokmbgcmciaaWShare
import Derived.Test.YtaipokmbgcmciaaWN
import Derived.Test.YtaipokmbgcmciaaWFootNe
import Derived.Test.YtaipokmbgcmciaaWAt
import Derived.Test.YtaipokmbgcmciaaWEqStruct
import Derived.Test.YtaipokmbgcmciaaWRepsOne
import Derived.Test.YtaipokmbgcmciaaWInv
import Derived.Test.YtaipokmbgcmciaaWInvWords
import Derived.Test.YtaipokmbgcmciaaWGuard
import Derived.Test.YtaipokmbgcmciaaWNEv
import Derived.Test.YtaipokmbgcmciaaWMore
import Derived.Test.YtaipokmbgcmciaaBUtfScan
namespace Go.Proofs.Ytaipokmbgcmciaa.B
open Go.RowKit Go.Proofs.YtaipokmbgcmciaaW.PrintWords Go.Proofs.YtaipokmbgcmciaaW.PrintLast Go.Proofs.YtaipokmbgcmciaaW.PrintMore
set_option linter.unusedVariables false
set_option linter.unusedSimpArgs false
namespace UM
theorem decodeL_dec (l : List UInt8) : Lib.decodeL l = dec l := Lib.decodeL_N l
theorem startB (l : List UInt8) (k : Nat) : Lib.runeStartB (l.getD k 0) = true ↔ ¬ (128 ≤ b l k ∧ b l k < 192) := by
  unfold Lib.runeStartB b
  rw [bne_iff_ne]
  omega
theorem startB_no (l : List UInt8) (k : Nat) : Lib.runeStartB (l.getD k 0) = false ↔ (128 ≤ b l k ∧ b l k < 192) := by
  rw [← Bool.not_eq_true, startB]; exact Classical.not_not
theorem chr_w4 {l : List UInt8} {c w : Nat} (h : Chr l c w) : 1 ≤ w ∧ w ≤ 4 := by obtain ⟨⟨h1, _⟩, h⟩ := h; omega
/-- The character that ends a list. -/
theorem last_chr (l : List UInt8) (c n : Nat) (hn : n ≤ l.length) (h : Chr (l.drop (l.length - n)) c n) : Lib.decodeLastL l = (c, n) := by
  have hw := chr_w4 h
  have hl : l ≠ [] := by intro e; subst e; simp at hn; omega
  have hin : ∀ k, 1 ≤ k → k < n → 128 ≤ b l (l.length - n + k) ∧ b l (l.length - n + k) < 192 := fun k h1 h2 => by
    have := chr_inside h h1 h2; rw [b_drop] at this; exact this
  have hlead := chr_lead h
  rw [b_drop, Nat.add_zero] at hlead
  unfold Lib.decodeLastL
  rw [if_neg hl]
  have hb : ∀ k, (l.getD k 0).toNat = b l k := fun _ => rfl
  rw [hb]
  by_cases h1 : n = 1
  · subst h1
    have hc : c = b l (l.length - 1) ∧ b l (l.length - 1) < 128 := by
      obtain ⟨_, h⟩ := h
      rw [b_drop, Nat.add_zero] at h
      omega
    rw [if_pos hc.2, hc.1]
  · have hlast := hin (n - 1) (by omega) (by omega)
    rw [show l.length - n + (n - 1) = l.length - 1 by omega] at hlast
    rw [if_neg (by omega)]
    have hs : Lib.lastStart l = l.length - n := by
      unfold Lib.lastStart
      simp only
      rw [if_neg (by omega)]
      rcases (show n = 2 ∨ n = 3 ∨ n = 4 by omega) with rfl | rfl | rfl
      · rw [if_pos ((startB _ _).2 (by omega))]
      · have h2 := hin 1 (by omega) (by omega)
        rw [show l.length - 3 + 1 = l.length - 2 by omega] at h2
        rw [if_neg (by rw [(startB_no _ _).2 h2]; decide), if_neg (by omega), if_pos ((startB _ _).2 (by omega))]
      · have h2 := hin 2 (by omega) (by omega)
        have h3 := hin 1 (by omega) (by omega)
        rw [show l.length - 4 + 2 = l.length - 2 by omega] at h2
        rw [show l.length - 4 + 1 = l.length - 3 by omega] at h3
        rw [if_neg (by rw [(startB_no _ _).2 h2]; decide), if_neg (by omega), if_neg (by rw [(startB_no _ _).2 h3]; decide), if_neg (by omega), if_pos ((startB _ _).2 (by omega))]
    rw [hs]
    simp only [decodeL_dec, dec_chr h]
    rw [if_pos (by omega)]
theorem last_bad (l : List UInt8) (hl : l ≠ []) (h : ∀ c n, n ≤ l.length → ¬ Chr (l.drop (l.length - n)) c n) : Lib.decodeLastL l = (65533, 1) := by
  unfold Lib.decodeLastL
  have h0 : 0 < l.length := List.length_pos_iff.2 hl
  have hb : ∀ k, (l.getD k 0).toNat = b l k := fun _ => rfl
  rw [if_neg hl, hb, if_neg (fun hlt => h (b l (l.length - 1)) 1 h0 ⟨⟨by omega, by rw [List.length_drop]; omega⟩, .inl ⟨rfl, by rw [b_drop, Nat.add_zero]; exact hlt, by rw [b_drop, Nat.add_zero]⟩⟩)]
  simp only [decodeL_dec]
  have hst : Lib.lastStart l < l.length := by
    unfold Lib.lastStart
    simp only
    repeat' split
    all_goals omega
  by_cases he : Lib.lastStart l + (dec (l.drop (Lib.lastStart l))).2 = l.length
  · rw [if_pos he]
    refine Classical.byContradiction fun hd => ?_
    have hc := chr_dec (by rw [Ne, List.drop_eq_nil_iff]; omega) hd
    have e : Lib.lastStart l = l.length - (dec (l.drop (Lib.lastStart l))).2 := by omega
    rw [e] at hc
    refine h _ _ ?_ (by rw [← e] at hc ⊢; exact hc)
    omega
  · rw [if_neg he]; rfl
end UM

end Go.Proofs.Ytaipokmbgcmciaa.B
