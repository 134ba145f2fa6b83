/- Lemmas for the law's contracts (UtfSegs); each states its own conditions. -/
import Derived.Test.YtaipokmbgcmciaaDoorWWords
import Derived.Test.YtaipokmbgcmciaaDoorWLast
import Derived.Test.YtaipokmbgcmciaaDoorWTab
import Derived.Test.YtaipokmbgcmciaaDoorWFour
import Derived.Test.YtaipokmbgcmciaaDoorWQPut
import Derived.Test.YtaipokmbgcmciaaDoorWApart
import Derived.Test.YtaipokmbgcmciaaDoorWArr
import Derived.Test.YtaipokmbgcmciaaDoorWZeros
import Derived.Test.YtaipokmbgcmciaaDoorWFoot
import Derived.Test.YtaipokmbgcmciaaDoorWKept
import Derived.Test.YtaipokmbgcmciaaDoorWShare
import Derived.Test.YtaipokmbgcmciaaDoorWN
import Derived.Test.YtaipokmbgcmciaaDoorWFootNe
import Derived.Test.YtaipokmbgcmciaaDoorWAt
import Derived.Test.YtaipokmbgcmciaaDoorWEqStruct
import Derived.Test.YtaipokmbgcmciaaDoorWRepsOne
import Derived.Test.YtaipokmbgcmciaaDoorWInv
import Derived.Test.YtaipokmbgcmciaaDoorWInvWords
import Derived.Test.YtaipokmbgcmciaaDoorWGuard
import Derived.Test.YtaipokmbgcmciaaDoorWNEv
import Derived.Test.YtaipokmbgcmciaaDoorWMore
import Derived.Test.YtaipokmbgcmciaaDoorBUtfScan
import Derived.Test.YtaipokmbgcmciaaDoorBUtfPrev
namespace Go.Proofs.YtaipokmbgcmciaaDoor.B
open Go.RowKit Go.Proofs.YtaipokmbgcmciaaDoorW.PrintWords Go.Proofs.YtaipokmbgcmciaaDoorW.PrintLast Go.Proofs.YtaipokmbgcmciaaDoorW.PrintMore
set_option linter.unusedVariables false
set_option linter.unusedSimpArgs false
namespace UM
/-- at_ is come by from the start; us: the units ahead of it. -/
inductive Scan (l : List UInt8) : Nat → List Int → Prop where
  | zero : Scan l 0 []
  | step {at_ : Nat} {us : List Int} (h : Scan l at_ us) (hl : at_ < l.length) : Scan l (at_ + (dec (l.drop at_)).2) (us ++ [unit1 (l.drop at_)])
theorem dropne {l : List UInt8} {i : Nat} (h : i < l.length) : l.drop i ≠ [] := by rw [Ne, List.drop_eq_nil_iff]; omega
theorem Scan.le {l : List UInt8} {at_ : Nat} {us : List Int} (h : Scan l at_ us) : at_ ≤ l.length := by
  induction h with
  | zero => omega
  | step h hl ih => have := dec_width (dropne hl); rw [List.length_drop] at this; omega
theorem Scan.few {l : List UInt8} {at_ : Nat} {us : List Int} (h : Scan l at_ us) : us.length ≤ at_ := by
  induction h with
  | zero => simp
  | step h hl ih => have := dec_width (dropne hl); rw [List.length_append, List.length_singleton]; omega
/-- No place that is come by lies inside a character. -/
theorem Scan.outside {l : List UInt8} {at_ : Nat} {us : List Int} (h : Scan l at_ us) {i c n : Nat} (hc : Chr (l.drop i) c n) (hi : i < at_) : i + n ≤ at_ := by
  induction h with
  | zero => omega
  | @step at_ us h hl ih =>
    by_cases h1 : i < at_
    · have := ih h1; omega
    · by_cases h2 : i = at_
      · subst h2; rw [dec_chr hc]; exact Nat.le_refl _
      · by_cases hd : dec (l.drop at_) = (65533, 1)
        · rw [hd] at hi; simp only at hi; omega
        · have hin := chr_inside (chr_dec (dropne hl) hd) (show 1 ≤ i - at_ by omega) (by omega)
          have hle := chr_lead hc
          rw [b_drop] at hin hle
          rw [Nat.add_zero] at hle
          rw [show at_ + (i - at_) = i by omega] at hin
          omega
theorem Scan.all_units {l : List UInt8} {at_ : Nat} {us : List Int} (h : Scan l at_ us) : us.all utfIsUnit = true := by
  induction h with
  | zero => rfl
  | step h hl ih => rw [List.all_append, ih, List.all_cons, unit1_range (dropne hl)]; rfl
theorem ofNat_b (l : List UInt8) (k : Nat) (h : k < l.length) : UInt8.ofNat (b l k) = l[k] := by
  unfold b
  rw [List.getD_eq_getElem?_getD, List.getElem?_eq_getElem h]
  simp
theorem take_b : ∀ (n : Nat) (l : List UInt8), n ≤ l.length → l.take n = (List.range n).map fun k => UInt8.ofNat (b l k)
  | n, l, h => by
    apply List.ext_getElem
    · simp; omega
    · intro i h1 h2
      simp at h1
      simp [ofNat_b l i (by omega)]
/-- The bytes of a unit are those that it was made of. -/
theorem unit1_bytes {l : List UInt8} (hl : l ≠ []) : utfBytesOf (unit1 l) = l.take (dec l).2 := by
  have hw := dec_width hl
  have h0 := b_lt l 0; have h1 := b_lt l 1; have h2 := b_lt l 2; have h3 := b_lt l 3
  rw [take_b _ _ hw.2.1]
  by_cases h : dec l = (65533, 1)
  · have hb := (unit1_bad hl).2 h
    unfold utfBytesOf
    rw [if_pos hb, h]
    unfold unit1
    rw [if_pos h]
    simp only [List.range_succ, List.range_zero, List.nil_append, List.map_cons, List.map_nil]
    rw [show ((1114112 : Int) + (b l 0 : Int) - 1114112).toNat = b l 0 by omega]
  · have hb := mt (unit1_bad hl).1 h
    unfold utfBytesOf
    rw [if_neg hb]
    unfold unit1
    rw [if_neg h]
    have hc := chr_dec hl h
    generalize (dec l).1 = c at *
    generalize (dec l).2 = w at *
    unfold Lib.encodeRune
    obtain ⟨_, hc | hc | hc | hc⟩ := hc
    · obtain ⟨rfl, hb0, rfl⟩ := hc
      rw [Lib.encodeRuneZ_one (by omega) (by omega)]
      simp [List.range_succ]
    · obtain ⟨rfl, hb0, hb1, hb2, hc, hc2⟩ := hc
      rw [Lib.encodeRuneZ_two (by omega) (by omega)]
      simp only [List.range_succ, List.range_zero, List.nil_append, List.map_cons, List.map_nil, List.cons_append]
      rw [show ((192 : Int) + (c : Int) / 64).toNat = b l 0 by omega, show ((128 : Int) + (c : Int) % 64).toNat = b l 1 by omega]
    · obtain ⟨rfl, hb0, hb1, hb2, hb3, hc, hc2, hc3⟩ := hc
      rw [Lib.encodeRuneZ_three (by omega)]
      simp only [List.range_succ, List.range_zero, List.nil_append, List.map_cons, List.map_nil, List.cons_append]
      rw [show ((224 : Int) + (c : Int) / 4096).toNat = b l 0 by omega, show ((128 : Int) + (c : Int) / 64 % 64).toNat = b l 1 by omega, show ((128 : Int) + (c : Int) % 64).toNat = b l 2 by omega]
    · obtain ⟨rfl, hb0, hb1, hb2, hb3, hb4, hc, hc2, hc3⟩ := hc
      rw [Lib.encodeRuneZ_four (by omega) (by omega)]
      simp only [List.range_succ, List.range_zero, List.nil_append, List.map_cons, List.map_nil, List.cons_append]
      rw [show ((240 : Int) + (c : Int) / 262144).toNat = b l 0 by omega, show ((128 : Int) + (c : Int) / 4096 % 64).toNat = b l 1 by omega, show ((128 : Int) + (c : Int) / 64 % 64).toNat = b l 2 by omega, show ((128 : Int) + (c : Int) % 64).toNat = b l 3 by omega]
theorem Scan.bytes {l : List UInt8} {at_ : Nat} {us : List Int} (h : Scan l at_ us) : us.flatMap utfBytesOf = l.take at_ := by
  induction h with
  | zero => rfl
  | @step at_ us h hl ih => rw [List.flatMap_append, ih, List.flatMap_cons, List.flatMap_nil, List.append_nil, unit1_bytes (dropne hl), List.take_add]
/-- The units from a place on, and those ahead of it. -/
theorem Scan.rest {l : List UInt8} {at_ : Nat} {us : List Int} (h : Scan l at_ us) : us ++ U (l.drop at_) = U l := by
  induction h with
  | zero => rfl
  | @step at_ us h hl ih => rw [← ih, U_cons (dropne hl), List.append_assoc, List.drop_drop]; rfl
theorem Scan.whole {l : List UInt8} {us : List Int} (h : Scan l l.length us) : us = U l := by
  have := h.rest
  rw [List.drop_length, U_nil, List.append_nil] at this
  exact this
/-- From any place that is come by, on to the end. -/
theorem Scan.onward {l : List UInt8} : ∀ (d at_ : Nat) (us : List Int), l.length - at_ = d → Scan l at_ us → Scan l l.length (U l) := by
  intro d
  induction d using Nat.strongRecOn with
  | _ d ih =>
    intro at_ us hd h
    by_cases hl : at_ < l.length
    · have hw := dec_width (dropne hl)
      exact ih _ (by omega) _ _ rfl (h.step hl)
    · have e : at_ = l.length := by have := h.le; omega
      subst e
      rw [← h.whole]; exact h
theorem scan_all (l : List UInt8) : Scan l l.length (U l) := Scan.onward _ 0 [] rfl .zero
theorem text_units (s : ByteArray) : utfTextOf (U s.data.toList) = s := by
  unfold utfTextOf
  rw [(scan_all s.data.toList).bytes, List.take_length]
end UM
namespace UM
theorem Scan.reach {l : List UInt8} (at_ : Nat) (ha : at_ ≤ l.length) (h : ∀ p us, Scan l p us → p < at_ → p + (dec (l.drop p)).2 ≤ at_) : ∃ us, Scan l at_ us := by
  have key : ∀ (d p : Nat) (us : List Int), at_ - p = d → p ≤ at_ → Scan l p us → ∃ us, Scan l at_ us := by
    intro d
    induction d using Nat.strongRecOn with
    | _ d ih =>
      intro p us hd hp hs
      by_cases hl : p < at_
      · have hw := dec_width (dropne (show p < l.length by omega))
        have hn := h p us hs hl
        exact ih _ (by omega) _ _ rfl hn (hs.step (by omega))
      · obtain rfl : p = at_ := by omega
        exact ⟨us, hs⟩
  exact key _ 0 [] rfl (Nat.zero_le _) .zero
theorem dec_take_bad {l : List UInt8} {m : Nat} (hl : l ≠ []) (hm : 1 ≤ m) (h : dec l = (65533, 1)) : dec (l.take m) = (65533, 1) := by
  refine Classical.byContradiction fun hd => ?_
  have hne : l.take m ≠ [] := by
    cases l with
    | nil => exact absurd rfl hl
    | cons x t => cases m with
      | zero => omega
      | succ m => simp
  exact chr_ne (chr_of_take (chr_dec hne hd)).1 h
/-- Ahead of a place, the text up to it is come by likewise. -/
theorem Scan.cut {l : List UInt8} {at_ q : Nat} {us : List Int} (h : Scan l q us) (hq : q ≤ at_) (ha : at_ ≤ l.length) : Scan (l.take at_) q us := by
  induction h with
  | zero => exact .zero
  | @step p us h hl ih =>
    have hw := dec_width (dropne hl)
    have hs := ih (by omega)
    have hlen : p < (l.take at_).length := by rw [List.length_take]; omega
    have hs2 := hs.step hlen
    have hd : dec ((l.take at_).drop p) = dec (l.drop p) := by
      rw [List.drop_take]
      by_cases hb : dec (l.drop p) = (65533, 1)
      · rw [hb]; exact dec_take_bad (dropne hl) (by omega) hb
      · have hc := chr_dec (dropne hl) hb
        rw [dec_chr (chr_take hc (by omega))]
    have hu : unit1 ((l.take at_).drop p) = unit1 (l.drop p) := by
      unfold unit1
      rw [hd, b_drop, b_drop, b_take _ _ _ (by omega)]
    rw [hd, hu] at hs2
    exact hs2
end UM

end Go.Proofs.YtaipokmbgcmciaaDoor.B
