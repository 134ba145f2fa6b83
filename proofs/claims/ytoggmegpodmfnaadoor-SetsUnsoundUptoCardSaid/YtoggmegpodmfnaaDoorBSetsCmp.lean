/- Lemmas for the law's contracts (SetsCmp); each states its own conditions. -/
import Derived.Test.YtoggmegpodmfnaaDoorProg
import Derived.Test.YtoggmegpodmfnaaDoorWWords
import Derived.Test.YtoggmegpodmfnaaDoorWLast
import Derived.Test.YtoggmegpodmfnaaDoorWTab
import Derived.Test.YtoggmegpodmfnaaDoorWFour
import Derived.Test.YtoggmegpodmfnaaDoorWQPut
import Derived.Test.YtoggmegpodmfnaaDoorWApart
import Derived.Test.YtoggmegpodmfnaaDoorWArr
import Derived.Test.YtoggmegpodmfnaaDoorWZeros
import Derived.Test.YtoggmegpodmfnaaDoorWFoot
import Derived.Test.YtoggmegpodmfnaaDoorWKept
import Derived.Test.YtoggmegpodmfnaaDoorWShare
import Derived.Test.YtoggmegpodmfnaaDoorWN
import Derived.Test.YtoggmegpodmfnaaDoorWFootNe
import Derived.Test.YtoggmegpodmfnaaDoorWAt
import Derived.Test.YtoggmegpodmfnaaDoorWEqStruct
import Derived.Test.YtoggmegpodmfnaaDoorWRepsOne
import Derived.Test.YtoggmegpodmfnaaDoorWInv
import Derived.Test.YtoggmegpodmfnaaDoorWInvWords
import Derived.Test.YtoggmegpodmfnaaDoorWGuard
import Derived.Test.YtoggmegpodmfnaaDoorWNEv
import Derived.Test.YtoggmegpodmfnaaDoorWMore
import Derived.Test.YtoggmegpodmfnaaDoorBGlobSetsT
namespace Go.Proofs.YtoggmegpodmfnaaDoor.B
open Go.RowKit Go.Proofs.YtoggmegpodmfnaaDoorW.PrintWords Go.Proofs.YtoggmegpodmfnaaDoorW.PrintLast Go.Proofs.YtoggmegpodmfnaaDoorW.PrintMore
set_option linter.unusedVariables false
set_option linter.unusedSimpArgs false
def cmpInt (a b : Int) : Int := if a < b then -1 else if b < a then 1 else 0
set_option maxHeartbeats 1000000 in
set_option maxRecDepth 100000 in
theorem isNaNCalls (x : Int) (w : World) : Calls Tryd.prog 63 #[.int .i32 x] w fun e w' => e = .returned (.bool false) ∧ w' = w := by
  go_enter Tryd.func63, Tryd.ntmps63
  go_wp2
  go_ret
  exact ⟨by simp, rfl⟩
set_option maxHeartbeats 1000000 in
set_option maxRecDepth 100000 in
theorem compareCalls (x y : Int) (w : World) : Calls Tryd.prog 52 #[.int .i32 x, .int .i32 y] w fun e w' => e = .returned (.int .i64 (cmpInt x y)) ∧ w' = w := by
  by_cases h1 : x < y
  · have hI : cmpInt x y = -1 := if_pos h1
    have d1 : decide (x < y) = true := decide_eq_true h1
    go_enter Tryd.func52, Tryd.ntmps52
    go_wp2_with (go_at_call 63; refine (isNaNCalls _ _).mono ?_; rintro e w1 ⟨rfl, rfl⟩)
    go_ret
    exact ⟨by rw [hI]; rfl, rfl⟩
  · have d1 : decide (x < y) = false := decide_eq_false h1
    by_cases h2 : y < x
    · have hI : cmpInt x y = 1 := (if_neg h1).trans (if_pos h2)
      have d2 : decide (x > y) = true := decide_eq_true h2
      go_enter Tryd.func52, Tryd.ntmps52
      go_wp2_with (go_at_call 63; refine (isNaNCalls _ _).mono ?_; rintro e w1 ⟨rfl, rfl⟩)
      go_ret
      exact ⟨by rw [hI]; rfl, rfl⟩
    · have hI : cmpInt x y = 0 := (if_neg h1).trans (if_neg h2)
      have d2 : decide (x > y) = false := decide_eq_false h2
      go_enter Tryd.func52, Tryd.ntmps52
      go_wp2_with (go_at_call 63; refine (isNaNCalls _ _).mono ?_; rintro e w1 ⟨rfl, rfl⟩)
      go_ret
      exact ⟨by rw [hI]; rfl, rfl⟩

end Go.Proofs.YtoggmegpodmfnaaDoor.B
