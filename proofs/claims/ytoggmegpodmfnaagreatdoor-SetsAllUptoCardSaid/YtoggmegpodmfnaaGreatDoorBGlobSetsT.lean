/- Lemmas for the law's contracts (GlobSetsT); each states its own conditions. -/
import Derived.Test.YtoggmegpodmfnaaGreatDoorProg
import Derived.Below
import Derived.WalkKit
import Derived.Lib.AppendIntMem
import Derived.Lib.ItoaNum
import Derived.Test.YtoggmegpodmfnaaGreatDoorWWords
import Derived.Test.YtoggmegpodmfnaaGreatDoorWLast
import Derived.Test.YtoggmegpodmfnaaGreatDoorWTab
import Derived.Test.YtoggmegpodmfnaaGreatDoorWFour
import Derived.Test.YtoggmegpodmfnaaGreatDoorWQPut
import Derived.Test.YtoggmegpodmfnaaGreatDoorWApart
import Derived.Test.YtoggmegpodmfnaaGreatDoorWArr
import Derived.Test.YtoggmegpodmfnaaGreatDoorWZeros
import Derived.Test.YtoggmegpodmfnaaGreatDoorWFoot
import Derived.Test.YtoggmegpodmfnaaGreatDoorWKept
import Derived.Test.YtoggmegpodmfnaaGreatDoorWShare
import Derived.Test.YtoggmegpodmfnaaGreatDoorWN
import Derived.Test.YtoggmegpodmfnaaGreatDoorWFootNe
import Derived.Test.YtoggmegpodmfnaaGreatDoorWAt
import Derived.Test.YtoggmegpodmfnaaGreatDoorWEqStruct
import Derived.Test.YtoggmegpodmfnaaGreatDoorWRepsOne
import Derived.Test.YtoggmegpodmfnaaGreatDoorWInv
import Derived.Test.YtoggmegpodmfnaaGreatDoorWInvWords
import Derived.Test.YtoggmegpodmfnaaGreatDoorWGuard
import Derived.Test.YtoggmegpodmfnaaGreatDoorWNEv
import Derived.Test.YtoggmegpodmfnaaGreatDoorWMore
namespace Go.Proofs.YtoggmegpodmfnaaGreatDoor.B
open Go.RowKit Go.Proofs.YtoggmegpodmfnaaGreatDoorW.PrintWords Go.Proofs.YtoggmegpodmfnaaGreatDoorW.PrintLast Go.Proofs.YtoggmegpodmfnaaGreatDoorW.PrintMore
set_option linter.unusedVariables false
set_option linter.unusedSimpArgs false
def bandCells : List Int := [0, 55295, 57344, 1114111, 1114240, 1114367]
structure Glob (w : World) : Prop where
  cells : ∀ i, i < 6 → w.cell? ⟨0, i, none⟩ = some (.int .i32 (bandCells.getD i 0))
  pow : Lib.TabIs Tryz.prog w "internal/strconv.uint64pow10" .u64 Lib.pow10Tab
instance (w : World) : CoeFun (Glob w) (fun _ => ∀ i, i < 6 → w.cell? ⟨0, i, none⟩ = some (.int .i32 (bandCells.getD i 0))) := ⟨Glob.cells⟩
theorem globCell_lt {w : World} {b o : Nat} {v : Value} (h : w.cell? ⟨b, o, none⟩ = some v) : b < w.heap.size := by
  unfold World.cell? at h
  rcases Nat.lt_or_ge b w.heap.size with h' | h'
  · exact h'
  · simp [Array.getElem?_eq_none h'] at h
theorem Glob.of_below {w w' : World} (hG : Glob w) (hb : Below w.heap.size w w') : Glob w' :=
  ⟨fun i hi => (hb.cell (p := ⟨0, i, none⟩) (globCell_lt (hG.cells i hi))).trans (hG.cells i hi), Lib.tabBelow_of_tabIs hG.pow w' hb⟩
theorem Glob.drewN {w : World} (hG : Glob w) (n : Nat) : Glob (w.drewN n) := ⟨hG.cells, hG.pow⟩
theorem Glob.drew {w : World} (hG : Glob w) : Glob w.drew := ⟨hG.cells, hG.pow⟩
theorem Glob.alloc {w : World} (hG : Glob w) (o : Obj) : Glob (w.alloc o) := hG.of_below (below_alloc (Below.refl _ _) o)
theorem Glob.lt {w : World} (hG : Glob w) : 0 < w.heap.size := globCell_lt (hG 0 (by omega))
end Go.Proofs.YtoggmegpodmfnaaGreatDoor.B
