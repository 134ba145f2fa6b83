/- The library's own sort at rune, walked (S): each function leaves the row as the plain function says. Turned from the kit's worked walks of the same functions at int. -/
import Derived.Test.YtoggmegpodmfnaaDoorBSortP
import Derived.Sort.AssemblyPlain
namespace Go.Proofs.YtoggmegpodmfnaaDoor.B
open Go.Proofs Go.RowKit Go.Sort
set_option linter.unusedVariables false
set_option linter.unusedSimpArgs false
theorem plainR : Plain13 where
  swo := swo_ltInt
  ins := insertionSort_holds
  par := partialInsertionSort_holds
  prt := partition_holds _
  peq := partitionEqual_holds _
  pdq := pdq_sorts _
theorem sortR_eq (zs : List Int) : Sort.sort ltInt zs.toArray = (zs.mergeSort fun x y => decide (x ≤ y)).toArray := by rw [← sortInt zs]
theorem calleesR : CalleesR where
  ins := Rn.insertionSort_int
  brk := Rn.breakPatterns_int
  piv := Rn.choosePivot_int
  par := Rn.partialInsertionSort_int
  peq := Rn.partitionEqualOrdered_int
  prt := Rn.partitionOrdered_int
theorem pdqWalkR : ∀ (blk off cap a b limit : Nat) (d : Array Int) (w : World), Holds encR w blk off d → blk < w.heap.size → a ≤ b → b ≤ d.size → d.size < 4611686018427387904 → limit < 4611686018427387904 → Below ltInt a b d →
    Calls Tryd.prog 58 #[.slice (some ⟨blk, off, none⟩) d.size cap, .int .i64 a, .int .i64 b, .int .i64 limit] w fun e w' => e = .returned (.tuple #[]) ∧ ∃ n os, w' = grow (putRow encR (Sort.ahead w n) blk off (Sort.pdq ltInt d a b limit true true)) os :=
  fun blk off cap a b limit d w hH hb hab hbd hsz hl hB => Rn.pdqsort_int calleesR plainR (b - a + 1) blk off cap a b limit d w (by omega) hH hb hab hbd hsz hl hB
set_option maxRecDepth 100000 in

set_option maxRecDepth 100000 in
theorem Rn.Sort_int (hpdq : ∀ (blk off cap a b limit : Nat) (d : Array Int) (w : World), Holds encR w blk off d → blk < w.heap.size → a ≤ b → b ≤ d.size → d.size < 4611686018427387904 → limit < 4611686018427387904 → Below ltInt a b d → Calls Tryd.prog 58 #[.slice (some ⟨blk, off, none⟩) d.size cap, .int .i64 a, .int .i64 b, .int .i64 limit] w fun e w' => e = .returned (.tuple #[]) ∧ ∃ n os, w' = grow (putRow encR (Sort.ahead w n) blk off (Sort.pdq ltInt d a b limit true true)) os) (blk off cap : Nat) (d : Array Int) (w : World) (hH : Holds encR w blk off d) (hblk : blk < w.heap.size) (hsz : d.size < 4611686018427387904) :
    Calls Tryd.prog 43 #[.slice (some ⟨blk, off, none⟩) d.size cap] w fun e w' => e = .returned (.tuple #[]) ∧ ∃ n os, w' = grow (putRow encR (Sort.ahead w n) blk off (Sort.sort ltInt d)) os := by
  have HH : Hid (Holds encR w blk off d) := hH
  clear hH
  have hLen : ∀ w, Calls Tryd.prog 59 #[.int .u64 (d.size : Int)] w fun e w' => e = .returned (.int .i64 (bitsLen d.size : Nat)) ∧ w' = w := fun w => by
    have h := Rn.bits_Len (d.size : Int) w (by omega) (by omega)
    rwa [Int.toNat_natCast, bitLen_eq _ (by omega)] at h
  have hk : bitsLen d.size ≤ 62 := (bitsLen_le_iff d.size 62).2 (by omega)
  go_enter Tryd.func43, Tryd.ntmps43
  go_wp2_with (first
    | (go_at_call 59; refine (hLen _).mono ?_; rintro e w' ⟨rfl, rfl⟩)
    | (go_at_call 58; refine (hpdq blk off cap 0 d.size (bitsLen d.size) d _ (by exact HH.out) (by exact hblk) (Nat.zero_le _) (Nat.le_refl _) hsz (by omega) (Or.inl rfl)).mono ?_; rintro e w' ⟨rfl, n, os, rfl⟩))
  go_end0
  exact ⟨rfl, n, os, rfl⟩
/-- slices.Sort at runes: the row holds the same numbers, rising. -/
theorem sortRunes (blk off cap : Nat) (zs : List Int) (w : World) (hH : Holds encR w blk off zs.toArray) (hblk : blk < w.heap.size) (hsz : zs.length < 4611686018427387904) :
    Calls Tryd.prog 43 #[.slice (some ⟨blk, off, none⟩) zs.length cap] w fun e w' =>
      e = .returned (.tuple #[]) ∧ ∃ n os, w' = grow (putRow encR (Sort.ahead w n) blk off (zs.mergeSort fun x y => decide (x ≤ y)).toArray) os := by
  have h := Rn.Sort_int pdqWalkR blk off cap zs.toArray w hH hblk (by simpa using hsz)
  rw [sortR_eq] at h
  simpa using h
end Go.Proofs.YtoggmegpodmfnaaDoor.B
