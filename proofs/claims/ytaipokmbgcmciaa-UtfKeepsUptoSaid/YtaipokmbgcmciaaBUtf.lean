/- Lemmas for the law's contracts (Utf); each states its own conditions. -/
import Derived.Lib.RuneBytes
import Derived.Laws.IdiomStrings
import Derived.Laws.Cover4
import Derived.Laws.AppendOwn
import Derived.Lib.OthersKept
import Derived.Laws.RangeAny
import Derived.Test.YtaipokmbgcmciaaWWords
import Derived.Test.YtaipokmbgcmciaaWLast
import Derived.Test.YtaipokmbgcmciaaWTab
import Derived.Test.YtaipokmbgcmciaaWFour
import Derived.Test.YtaipokmbgcmciaaWQPut
import Derived.Test.YtaipokmbgcmciaaWApart
import Derived.Test.YtaipokmbgcmciaaWArr
import Derived.Test.YtaipokmbgcmciaaWZeros
import Derived.Test.YtaipokmbgcmciaaWFoot
import Derived.Test.YtaipokmbgcmciaaWKept
import Derived.Test.YtaipokmbgcmciaaWShare
import Derived.Test.YtaipokmbgcmciaaWN
import Derived.Test.YtaipokmbgcmciaaWFootNe
import Derived.Test.YtaipokmbgcmciaaWAt
import Derived.Test.YtaipokmbgcmciaaWEqStruct
import Derived.Test.YtaipokmbgcmciaaWRepsOne
import Derived.Test.YtaipokmbgcmciaaWInv
import Derived.Test.YtaipokmbgcmciaaWInvWords
import Derived.Test.YtaipokmbgcmciaaWGuard
import Derived.Test.YtaipokmbgcmciaaWNEv
import Derived.Test.YtaipokmbgcmciaaWMore
namespace Go.Proofs.Ytaipokmbgcmciaa.B
open Go.RowKit Go.Proofs.YtaipokmbgcmciaaW.PrintWords Go.Proofs.YtaipokmbgcmciaaW.PrintLast Go.Proofs.YtaipokmbgcmciaaW.PrintMore
set_option linter.unusedVariables false
set_option linter.unusedSimpArgs false
/-- The unit that begins at a place of s. -/
def utfUnitAt (s : ByteArray) (i : Nat) : Int :=
  if (Utf8.decode s i).1 = 65533 ∧ ¬ ((s.extract i s.size).extract 0 3).toList = [239, 191, 189] then 1114112 + bt s i else (Utf8.decode s i).1
/-- The units of s from a place on. -/
def utfFrom (s : ByteArray) : Nat → Nat → List Int
  | 0, _ => []
  | fuel + 1, pos => if pos < s.size then utfUnitAt s pos :: utfFrom s fuel (pos + (Utf8.decode s pos).2) else []
theorem utfFrom_end (s : ByteArray) (fuel pos : Nat) (h : ¬ pos < s.size) : utfFrom s fuel pos = [] := by
  cases fuel with
  | zero => rfl
  | succ f => simp [utfFrom, h]
/-- The places of the units of s from a place on. -/
def utfPlaces (s : ByteArray) : Nat → Nat → List Int
  | 0, _ => []
  | fuel + 1, pos => if pos < s.size then (pos : Int) :: utfPlaces s fuel (pos + (Utf8.decode s pos).2) else []
theorem utfPlaces_end (s : ByteArray) (fuel pos : Nat) (h : ¬ pos < s.size) : utfPlaces s fuel pos = [] := by
  cases fuel with
  | zero => rfl
  | succ f => simp [utfPlaces, h]
theorem utfWidth_pos (s : ByteArray) (pos : Nat) (h : pos < s.size) : 1 ≤ (Utf8.decode s pos).2 := by
  unfold Utf8.decode
  simp only
  repeat' split
  all_goals simp
theorem utfDecode_fits (s : ByteArray) (pos : Nat) (h : pos < s.size) : pos + (Utf8.decode s pos).2 ≤ s.size := by
  unfold Utf8.decode
  simp only [Bool.and_eq_true, decide_eq_true_eq]
  repeat' split
  all_goals simp only
  all_goals omega
theorem utfBt_span (s : ByteArray) (i : Int) : 0 ≤ bt s i ∧ bt s i < 256 := by
  unfold bt
  split
  · rename_i h
    have := (s[i.toNat]'h).toNat_lt
    omega
  · omega
theorem utfKeeps_iter {α : Type} {d : Kd α} {e base : Nat} {w : World} {k : Nat} {v : Value} {xs : List α} (h : d.R e w base (fun q => q ≠ k) v xs) (s : ByteArray) (pos : Nat) : d.R e (w.iterAt k s pos) base (fun q => q ≠ k) v xs :=
  Kd.R_move h (fun q hq => Lib.iterAt_other w k q s pos hq)
theorem utfIter_grown {w w1 : World} {row : Option Nat} {k : Nat} {s : ByteArray} {pos : Nat} (h : w.heap[k]? = some (.stringIter s pos)) (hg : w.grownBy w1 row) (hne : some k ≠ row) : w1.heap[k]? = some (.stringIter s pos) :=
  (hg.block k (Array.getElem?_eq_some_iff.1 h).1 hne).trans h
theorem utfRow_ne {α : Type} {d : Kd α} {e base : Nat} {w : World} {k : Nat} {v : Value} {xs : List α} (h : d.R e w base (fun q => q ≠ k) v xs) : some k ≠ v.ownBlock :=
  fun e => h.1 k e.symm rfl

/-- How many bytes a unit has. -/
def utfWidthOf (u : Int) : Int :=
  if u > 1114111 then 1 else if u < 0 then -1 else if u ≤ 127 then 1 else if u ≤ 2047 then 2 else if 55296 ≤ u ∧ u ≤ 57343 then -1 else if u ≤ 65535 then 3 else 4
/-- The runes of s, as the language tells them. -/
def utfRunes (s : ByteArray) : Nat → Nat → List Int
  | 0, _ => []
  | fuel + 1, pos => if pos < s.size then ((Utf8.decode s pos).1 : Int) :: utfRunes s fuel (pos + (Utf8.decode s pos).2) else []
theorem utfRunes_from (s : ByteArray) : ∀ (fuel pos : Nat) (acc : List Int), (Conv.runesFrom s fuel pos (nums .i32 acc).toArray).toList = nums .i32 (acc ++ utfRunes s fuel pos)
  | 0, pos, acc => by simp [Conv.runesFrom, utfRunes]
  | fuel + 1, pos, acc => by
    unfold Conv.runesFrom utfRunes
    split
    · have h := utfRunes_from s fuel (pos + (Utf8.decode s pos).2) (acc ++ [((Utf8.decode s pos).1 : Int)])
      simp only [nums, List.map_append, List.map_cons, List.map_nil, List.push_toArray, List.append_assoc, List.singleton_append] at h ⊢
      exact h
    · simp
theorem utfRunes_len (s : ByteArray) : (Conv.runesFrom s s.size 0 #[]).size = (utfRunes s s.size 0).length := by
  have h := congrArg List.length (utfRunes_from s s.size 0 [])
  simpa [nums] using h
theorem utfRunes_own (w : World) (e : Nat) (s : ByteArray) (cap : Nat) (hc : (Conv.runesFrom s s.size 0 #[]).size ≤ cap) (hm : cap ≤ maxLen) :
    Kd.R (Kd.int .i32) e (w.drew.alloc (.cells (Conv.runesFrom s s.size 0 #[] ++ Array.replicate (cap - (Conv.runesFrom s s.size 0 #[]).size) (.int .i32 0)) e)) w.heap.size (fun _ => True)
      (.slice (some ⟨w.heap.size, 0, none⟩) (Conv.runesFrom s s.size 0 #[]).size cap) (utfRunes s s.size 0) := by
  refine Kd.R_of_own ?_ (fun _ _ => trivial)
  rw [utfRunes_len] at hc ⊢
  have hl := utfRunes_len s
  have hf := utfRunes_from s s.size 0 []
  simp only [List.nil_append] at hf
  refine ⟨by simp [encs], .inr ⟨w.heap.size, cap, _, rfl, Nat.le_refl _, heap_alloc_new w.drew _, hc, hm, ?_, ?_⟩⟩
  · simp only [Array.size_append, Array.size_replicate, hl]
    omega
  · have hl2 : (Conv.runesFrom s s.size 0 #[]).toList.length = (utfRunes s s.size 0).length := by rw [Array.length_toList]; exact hl
    rw [Array.toList_append, List.take_append_of_le_length (by omega), List.take_of_length_le (by omega)]
    exact hf
/-- The bytes of runes, as the language writes them. -/
theorem utfRunes_bytes (w : World) (e : Nat) (A : Option Addr) (n : Nat) (xs : List Int) (h : Kd.C (Kd.int .i32) w A n xs) : ∀ ad, A = some ad → ∀ j, j < xs.length → 0 < n → w.cell? (ad.add j) = some (.int .i32 (xs.getD j 0)) := by
  intro ad ha j hj hn
  obtain ⟨ad', ha', hc⟩ := h.2.2 hn
  rw [ha] at ha'
  obtain rfl := Option.some.inj ha'
  obtain ⟨c, hs, hr, hcell⟩ := hc j _ (List.getElem?_eq_getElem hj)
  have hr' : c = [Value.int .i32 xs[j]] := hr
  subst hr'
  have := hcell 0 _ rfl
  have hsz : (Kd.int .i32).sz = 1 := rfl
  rw [hsz, Nat.mul_one, Nat.add_zero] at this
  rw [this, List.getD_eq_getElem?_getD, List.getElem?_eq_getElem hj]
  rfl
/-- Is a number a unit's? -/
def utfIsUnit (u : Int) : Bool := decide ((0 ≤ u ∧ u < 55296) ∨ (57343 < u ∧ u ≤ 1114111) ∨ (1114240 ≤ u ∧ u ≤ 1114367))
/-- The bytes of a unit. -/
def utfBytesOf (u : Int) : List UInt8 := if u > 1114111 then [UInt8.ofNat (u - 1114112).toNat] else Lib.encodeRune u
/-- The text of units, one behind the other. -/
def utfTextOf (us : List Int) : ByteArray := ⟨(us.flatMap utfBytesOf).toArray⟩

end Go.Proofs.Ytaipokmbgcmciaa.B
