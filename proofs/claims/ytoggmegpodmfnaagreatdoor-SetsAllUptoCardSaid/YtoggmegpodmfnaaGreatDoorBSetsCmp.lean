/- Lemmas for the law's contracts (SetsCmp); each states its own conditions. -/
import Derived.Test.YtoggmegpodmfnaaGreatDoorProg
import Derived.Test.YtoggmegpodmfnaaGreatDoorWWords
import Derived.Test.YtoggmegpodmfnaaGreatDoorWLast
import Derived.Test.YtoggmegpodmfnaaGreatDoorWTab
import Derived.Test.YtoggmegpodmfnaaGreatDoorWFour
import Derived.Test.YtoggmegpodmfnaaGreatDoorWQPut
import Derived.Test.YtoggmegpodmfnaaGreatDoorWApart
import Derived.Test.YtoggmegpodmfnaaGreatDoorWArr
import Derived.Test.YtoggmegpodmfnaaGreatDoorWZeros
import Derived.Test.YtoggmegpodmfnaaGreatDoorWFoot
import Derived.Test.YtoggmegpodmfnaaGreatDoorWKept
import Derived.Test.YtoggmegpodmfnaaGreatDoorWShare
import Derived.Test.YtoggmegpodmfnaaGreatDoorWN
import Derived.Test.YtoggmegpodmfnaaGreatDoorWFootNe
import Derived.Test.YtoggmegpodmfnaaGreatDoorWAt
import Derived.Test.YtoggmegpodmfnaaGreatDoorWEqStruct
import Derived.Test.YtoggmegpodmfnaaGreatDoorWRepsOne
import Derived.Test.YtoggmegpodmfnaaGreatDoorWInv
import Derived.Test.YtoggmegpodmfnaaGreatDoorWInvWords
import Derived.Test.YtoggmegpodmfnaaGreatDoorWGuard
import Derived.Test.YtoggmegpodmfnaaGreatDoorWNEv
import Derived.Test.YtoggmegpodmfnaaGreatDoorWMore
import Derived.Test.YtoggmegpodmfnaaGreatDoorBGlobSetsT
namespace Go.Proofs.YtoggmegpodmfnaaGreatDoor.B
open Go.RowKit Go.Proofs.YtoggmegpodmfnaaGreatDoorW.PrintWords Go.Proofs.YtoggmegpodmfnaaGreatDoorW.PrintLast Go.Proofs.YtoggmegpodmfnaaGreatDoorW.PrintMore
set_option linter.unusedVariables false
set_option linter.unusedSimpArgs false
def cmpInt (a b : Int) : Int := if a < b then -1 else if b < a then 1 else 0
set_option maxHeartbeats 1000000 in
set_option maxRecDepth 100000 in
theorem isNaNCalls (x : Int) (w : World) : Calls Tryz.prog 93 #[.int .i32 x] w fun e w' => e = .returned (.bool false) ∧ w' = w := by
  go_enter Tryz.func93, Tryz.ntmps93
  go_wp2
  go_ret; exact ⟨by simp, rfl⟩
set_option maxHeartbeats 1000000 in
set_option maxRecDepth 100000 in
theorem compareCalls (x y : Int) (w : World) : Calls Tryz.prog 78 #[.int .i32 x, .int .i32 y] w fun e w' => e = .returned (.int .i64 (cmpInt x y)) ∧ w' = w := by
  by_cases h1 : x < y
  · have hI : cmpInt x y = -1 := if_pos h1
    have d1 : decide (x < y) = true := decide_eq_true h1; go_enter Tryz.func78, Tryz.ntmps78
    go_wp2_with (go_at_call 93; refine (isNaNCalls _ _).mono ?_; rintro e w1 ⟨rfl, rfl⟩)
    go_ret; exact ⟨by rw [hI]; rfl, rfl⟩
  · have d1 : decide (x < y) = false := decide_eq_false h1
    by_cases h2 : y < x
    · have hI : cmpInt x y = 1 := (if_neg h1).trans (if_pos h2)
      have d2 : decide (x > y) = true := decide_eq_true h2; go_enter Tryz.func78, Tryz.ntmps78
      go_wp2_with (go_at_call 93; refine (isNaNCalls _ _).mono ?_; rintro e w1 ⟨rfl, rfl⟩)
      go_ret; exact ⟨by rw [hI]; rfl, rfl⟩
    · have hI : cmpInt x y = 0 := (if_neg h1).trans (if_neg h2)
      have d2 : decide (x > y) = false := decide_eq_false h2; go_enter Tryz.func78, Tryz.ntmps78
      go_wp2_with (go_at_call 93; refine (isNaNCalls _ _).mono ?_; rintro e w1 ⟨rfl, rfl⟩)
      go_ret; exact ⟨by rw [hI]; rfl, rfl⟩
end Go.Proofs.YtoggmegpodmfnaaGreatDoor.B
