/- Lemmas for the law's contracts (SetsBand); each states its own conditions. -/
import Derived.Test.YtoggmegpodmfnaaGreatDoorProg
import Derived.Test.YtoggmegpodmfnaaGreatDoorWWords
import Derived.Test.YtoggmegpodmfnaaGreatDoorWLast
import Derived.Test.YtoggmegpodmfnaaGreatDoorWTab
import Derived.Test.YtoggmegpodmfnaaGreatDoorWFour
import Derived.Test.YtoggmegpodmfnaaGreatDoorWQPut
import Derived.Test.YtoggmegpodmfnaaGreatDoorWApart
import Derived.Test.YtoggmegpodmfnaaGreatDoorWArr
import Derived.Test.YtoggmegpodmfnaaGreatDoorWZeros
import Derived.Test.YtoggmegpodmfnaaGreatDoorWFoot
import Derived.Test.YtoggmegpodmfnaaGreatDoorWKept
import Derived.Test.YtoggmegpodmfnaaGreatDoorWShare
import Derived.Test.YtoggmegpodmfnaaGreatDoorWN
import Derived.Test.YtoggmegpodmfnaaGreatDoorWFootNe
import Derived.Test.YtoggmegpodmfnaaGreatDoorWAt
import Derived.Test.YtoggmegpodmfnaaGreatDoorWEqStruct
import Derived.Test.YtoggmegpodmfnaaGreatDoorWRepsOne
import Derived.Test.YtoggmegpodmfnaaGreatDoorWInv
import Derived.Test.YtoggmegpodmfnaaGreatDoorWInvWords
import Derived.Test.YtoggmegpodmfnaaGreatDoorWGuard
import Derived.Test.YtoggmegpodmfnaaGreatDoorWNEv
import Derived.Test.YtoggmegpodmfnaaGreatDoorWMore
import Derived.Test.YtoggmegpodmfnaaGreatDoorBGlobSetsT
namespace Go.Proofs.YtoggmegpodmfnaaGreatDoor.B
open Go.RowKit Go.Proofs.YtoggmegpodmfnaaGreatDoorW.PrintWords Go.Proofs.YtoggmegpodmfnaaGreatDoorW.PrintLast Go.Proofs.YtoggmegpodmfnaaGreatDoorW.PrintMore
set_option linter.unusedVariables false
set_option linter.unusedSimpArgs false
def bandOf (u : Int) : Int := if 0 ≤ u ∧ u ≤ 55295 then 0 else if 57344 ≤ u ∧ u ≤ 1114111 then 1 else if 1114240 ≤ u ∧ u ≤ 1114367 then 2 else -1
def inB (lo hi u : Int) : Bool := decide (lo ≤ u ∧ u ≤ hi)
theorem bandOf_0 {u : Int} (h : 0 ≤ u ∧ u ≤ 55295) : bandOf u = 0 := by unfold bandOf; rw [if_pos h]
theorem bandOf_1 {u : Int} (h : 57344 ≤ u ∧ u ≤ 1114111) : bandOf u = 1 := by unfold bandOf; rw [if_neg (by omega), if_pos h]
theorem bandOf_2 {u : Int} (h : 1114240 ≤ u ∧ u ≤ 1114367) : bandOf u = 2 := by unfold bandOf; rw [if_neg (by omega), if_neg (by omega), if_pos h]
theorem bandOf_no {u : Int} (h1 : ¬ (0 ≤ u ∧ u ≤ 55295)) (h2 : ¬ (57344 ≤ u ∧ u ≤ 1114111)) (h3 : ¬ (1114240 ≤ u ∧ u ≤ 1114367)) : bandOf u = -1 := by unfold bandOf; rw [if_neg h1, if_neg h2, if_neg h3]
set_option maxHeartbeats 1000000 in
set_option maxRecDepth 100000 in
theorem bandCl (lo hi u : Int) (b : Nat) (w : World) (hc : w.cell? ⟨b, 0, none⟩ = some (.int .i32 u)) :
    Calls Tryz.prog 80 #[.agg #[.int .i32 lo, .int .i32 hi], .pointer (some ⟨b, 0, none⟩)] w fun e w' => e = .returned (.bool (inB lo hi u)) ∧ Below w.heap.size w w' := by
  have hb := globCell_lt hc; have hc1 : (w.alloc (.cells #[.int .i32 lo, .int .i32 hi] 41)).cell? ⟨b, 0, none⟩ = some (.int .i32 u) := ((below_alloc (Below.refl _ w) _).cell (p := ⟨b, 0, none⟩) hb).trans hc
  by_cases h1 : lo ≤ u
  · have hd1 : decide (lo ≤ u) = true := decide_eq_true h1
    by_cases h2 : u ≤ hi
    · have hI : inB lo hi u = true := decide_eq_true ⟨h1, h2⟩
      have hd2 : decide (u ≤ hi) = true := decide_eq_true h2; go_enter Tryz.func80, Tryz.ntmps80
      go_wp2
      go_ret; exact ⟨by first | rfl | (rw [hI]; rfl), below_alloc (Below.refl _ w) _⟩
    · have hI : inB lo hi u = false := decide_eq_false (fun h => h2 h.2)
      have hd2 : decide (u ≤ hi) = false := decide_eq_false h2; go_enter Tryz.func80, Tryz.ntmps80
      go_wp2
      go_ret; exact ⟨by first | rfl | (rw [hI]; rfl), below_alloc (Below.refl _ w) _⟩
  · have hI : inB lo hi u = false := decide_eq_false (fun h => h1 h.1)
    have hd1 : decide (lo ≤ u) = false := decide_eq_false h1; go_enter Tryz.func80, Tryz.ntmps80
    go_wp2
    go_ret; exact ⟨by first | rfl | (rw [hI]; rfl), below_alloc (Below.refl _ w) _⟩
theorem bandLoad {w : World} (hG : Glob w) (i : Nat) (hi : i < 6) (v : Int) (hv : bandCells.getD i 0 = v) : w.cell? ⟨0, i, none⟩ = some (.int .i32 v) := by rw [hG i hi, hv]
set_option maxHeartbeats 2000000 in
set_option maxRecDepth 100000 in
theorem bandIdx (u : Int) (b : Nat) (w : World) (hG : Glob w) (hc : w.cell? ⟨b, 0, none⟩ = some (.int .i32 u)) :
    Calls Tryz.prog 79 #[.slice (some ⟨0, 0, none⟩) 3 3, .func (.func 80) #[] #[.pointer (some ⟨b, 0, none⟩)]] w fun e w' => e = .returned (.int .i64 (bandOf u)) ∧ Below w.heap.size w w' := by
  have hb := globCell_lt hc; have HG := Aside0.mk hG; have HC := Aside0.mk hc; clear hG hc; go_enter Tryz.func79, Tryz.ntmps79
  go_wp2
  go_loopw [8] (fun i wr => ∃ k : Nat, i = .int .i64 (k : Int) ∧ k ≤ 3 ∧ Aside0 (Below w.heap.size w wr) ∧ Aside0 ((1 ≤ k → ¬ (0 ≤ u ∧ u ≤ 55295)) ∧ (2 ≤ k → ¬ (57344 ≤ u ∧ u ≤ 1114111)) ∧ (3 ≤ k → ¬ (1114240 ≤ u ∧ u ≤ 1114367)))) (fun i _ => 3 - (intOf i).toNat)
  case atStart => exact ⟨0, rfl, by omega, ⟨Below.refl _ w⟩, ⟨by omega⟩⟩
  case round =>
    obtain ⟨k, rfl, hk, HB, HN⟩ := hrel; have hGr := HG.out.of_below HB.out; have hcr := (HB.out.cell (p := ⟨b, 0, none⟩) hb).trans HC.out
    rcases (show k = 0 ∨ k = 1 ∨ k = 2 ∨ k = 3 by omega) with rfl | rfl | rfl | rfl
    · have c0 := bandLoad hGr 0 (by omega) 0 rfl
      have c1 := bandLoad hGr 1 (by omega) 55295 rfl; clear hGr
      by_cases hin : 0 ≤ u ∧ u ≤ 55295
      · have hI : inB 0 55295 u = true := decide_eq_true hin
        have HIN := Aside0.mk hin; clear hin
        go_wp2_with (go_at_call 80; refine (bandCl 0 55295 u b _ hcr).mono ?_; rintro e w1 ⟨rfl, hb1⟩)
        go_ret; exact ⟨by rw [bandOf_0 HIN.out]; rfl, below_step HB.out hb1⟩
      · have hI : inB 0 55295 u = false := decide_eq_false hin
        have HIN := Aside0.mk hin; clear hin
        go_wp2_with (go_at_call 80; refine (bandCl 0 55295 u b _ hcr).mono ?_; rintro e w1 ⟨rfl, hb1⟩)
        go_roundw
        case rel => exact ⟨1, rfl, by omega, ⟨below_step HB.out hb1⟩, ⟨by have := HIN.out; have := HN.out; omega⟩⟩
        case measure => simp [intOf]
    · have c0 := bandLoad hGr 2 (by omega) 57344 rfl
      have c1 := bandLoad hGr 3 (by omega) 1114111 rfl; clear hGr
      by_cases hin : 57344 ≤ u ∧ u ≤ 1114111
      · have hI : inB 57344 1114111 u = true := decide_eq_true hin
        have HIN := Aside0.mk hin; clear hin
        go_wp2_with (go_at_call 80; refine (bandCl 57344 1114111 u b _ hcr).mono ?_; rintro e w1 ⟨rfl, hb1⟩)
        go_ret; exact ⟨by rw [bandOf_1 HIN.out]; rfl, below_step HB.out hb1⟩
      · have hI : inB 57344 1114111 u = false := decide_eq_false hin
        have HIN := Aside0.mk hin; clear hin
        go_wp2_with (go_at_call 80; refine (bandCl 57344 1114111 u b _ hcr).mono ?_; rintro e w1 ⟨rfl, hb1⟩)
        go_roundw
        case rel => exact ⟨2, rfl, by omega, ⟨below_step HB.out hb1⟩, ⟨by have := HIN.out; have := HN.out; omega⟩⟩
        case measure => simp [intOf]
    · have c0 := bandLoad hGr 4 (by omega) 1114240 rfl
      have c1 := bandLoad hGr 5 (by omega) 1114367 rfl; clear hGr
      by_cases hin : 1114240 ≤ u ∧ u ≤ 1114367
      · have hI : inB 1114240 1114367 u = true := decide_eq_true hin
        have HIN := Aside0.mk hin; clear hin
        go_wp2_with (go_at_call 80; refine (bandCl 1114240 1114367 u b _ hcr).mono ?_; rintro e w1 ⟨rfl, hb1⟩)
        go_ret; exact ⟨by rw [bandOf_2 HIN.out]; rfl, below_step HB.out hb1⟩
      · have hI : inB 1114240 1114367 u = false := decide_eq_false hin
        have HIN := Aside0.mk hin; clear hin
        go_wp2_with (go_at_call 80; refine (bandCl 1114240 1114367 u b _ hcr).mono ?_; rintro e w1 ⟨rfl, hb1⟩)
        go_roundw
        case rel => exact ⟨3, rfl, by omega, ⟨below_step HB.out hb1⟩, ⟨by have := HIN.out; have := HN.out; omega⟩⟩
        case measure => simp [intOf]
    · go_wp2
      go_ret; exact ⟨by rw [bandOf_no (HN.out.1 (by omega)) (HN.out.2.1 (by omega)) (HN.out.2.2 (by omega))]; rfl, HB.out⟩
set_option maxHeartbeats 2000000 in
set_option maxRecDepth 100000 in
theorem bandCalls (u : Int) (w : World) (hG : Glob w) : Calls Tryz.prog 50 #[.int .i32 u] w fun e w' => e = .returned (.int .i64 (bandOf u)) ∧ Below w.heap.size w w' := by
  have HG := Aside0.mk hG; clear hG; have hb0 := Aside0.mk (below_alloc (Below.refl _ w) (.cells #[.int .i32 u] 21)); have hlt := HG.out.lt; go_enter Tryz.func50, Tryz.ntmps50
  go_wp2_with (go_at_call 79; refine (bandIdx u w.heap.size _ (HG.out.of_below hb0.out) (by go_simp)).mono ?_; rintro e w1 ⟨rfl, hb1⟩)
  go_ret; exact ⟨rfl, below_step hb0.out hb1⟩
theorem bandIx0 (w : World) : (Instr.index 79 (.agg #[.int .i32 0, .int .i32 55295, .int .i32 57344, .int .i32 1114111, .int .i32 1114240, .int .i32 1114367]) (.int .i64 0)).run Tryz.prog w = .ok (.agg #[.int .i32 0, .int .i32 55295]) w := by
  kernel_rfl
theorem bandIx1 (w : World) : (Instr.index 79 (.agg #[.int .i32 0, .int .i32 55295, .int .i32 57344, .int .i32 1114111, .int .i32 1114240, .int .i32 1114367]) (.int .i64 1)).run Tryz.prog w = .ok (.agg #[.int .i32 57344, .int .i32 1114111]) w := by
  kernel_rfl
theorem bandIx2 (w : World) : (Instr.index 79 (.agg #[.int .i32 0, .int .i32 55295, .int .i32 57344, .int .i32 1114111, .int .i32 1114240, .int .i32 1114367]) (.int .i64 2)).run Tryz.prog w = .ok (.agg #[.int .i32 1114240, .int .i32 1114367]) w := by
  kernel_rfl
end Go.Proofs.YtoggmegpodmfnaaGreatDoor.B
