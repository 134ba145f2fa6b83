/- Lemmas for the law's contracts (GlobSetsT); each states its own conditions. -/
import Derived.Test.YtoggmegpodmfnaaDoorProg
import Derived.Below
import Derived.WalkKit
import Derived.Lib.AppendIntMem
import Derived.Lib.ItoaNum
import Derived.Test.YtoggmegpodmfnaaDoorWWords
import Derived.Test.YtoggmegpodmfnaaDoorWLast
import Derived.Test.YtoggmegpodmfnaaDoorWTab
import Derived.Test.YtoggmegpodmfnaaDoorWFour
import Derived.Test.YtoggmegpodmfnaaDoorWQPut
import Derived.Test.YtoggmegpodmfnaaDoorWApart
import Derived.Test.YtoggmegpodmfnaaDoorWArr
import Derived.Test.YtoggmegpodmfnaaDoorWZeros
import Derived.Test.YtoggmegpodmfnaaDoorWFoot
import Derived.Test.YtoggmegpodmfnaaDoorWKept
import Derived.Test.YtoggmegpodmfnaaDoorWShare
import Derived.Test.YtoggmegpodmfnaaDoorWN
import Derived.Test.YtoggmegpodmfnaaDoorWFootNe
import Derived.Test.YtoggmegpodmfnaaDoorWAt
import Derived.Test.YtoggmegpodmfnaaDoorWEqStruct
import Derived.Test.YtoggmegpodmfnaaDoorWRepsOne
import Derived.Test.YtoggmegpodmfnaaDoorWInv
import Derived.Test.YtoggmegpodmfnaaDoorWInvWords
import Derived.Test.YtoggmegpodmfnaaDoorWGuard
import Derived.Test.YtoggmegpodmfnaaDoorWNEv
import Derived.Test.YtoggmegpodmfnaaDoorWMore
namespace Go.Proofs.YtoggmegpodmfnaaDoor.B
open Go.RowKit Go.Proofs.YtoggmegpodmfnaaDoorW.PrintWords Go.Proofs.YtoggmegpodmfnaaDoorW.PrintLast Go.Proofs.YtoggmegpodmfnaaDoorW.PrintMore
set_option linter.unusedVariables false
set_option linter.unusedSimpArgs false
/-- The cells of the variable sets.bands. -/
def bandCells : List Int := [0, 55295, 57344, 1114111, 1114240, 1114367]
/-- What the package variables hold that are read: sets.bands (block 0), and strconv's powers of ten. -/
structure Glob (w : World) : Prop where
  cells : ∀ i, i < 6 → w.cell? ⟨0, i, none⟩ = some (.int .i32 (bandCells.getD i 0))
  pow : Lib.TabIs Tryd.prog w "internal/strconv.uint64pow10" .u64 Lib.pow10Tab
instance (w : World) : CoeFun (Glob w) (fun _ => ∀ i, i < 6 → w.cell? ⟨0, i, none⟩ = some (.int .i32 (bandCells.getD i 0))) := ⟨Glob.cells⟩
theorem globCell_lt {w : World} {b o : Nat} {v : Value} (h : w.cell? ⟨b, o, none⟩ = some v) : b < w.heap.size := by
  unfold World.cell? at h
  rcases Nat.lt_or_ge b w.heap.size with h' | h'
  · exact h'
  · simp [Array.getElem?_eq_none h'] at h
theorem Glob.of_below {w w' : World} (hG : Glob w) (hb : Below w.heap.size w w') : Glob w' :=
  ⟨fun i hi => (hb.cell (p := ⟨0, i, none⟩) (globCell_lt (hG.cells i hi))).trans (hG.cells i hi), Lib.tabBelow_of_tabIs hG.pow w' hb⟩
theorem Glob.drewN {w : World} (hG : Glob w) (n : Nat) : Glob (w.drewN n) := ⟨hG.cells, hG.pow⟩
theorem Glob.drew {w : World} (hG : Glob w) : Glob w.drew := ⟨hG.cells, hG.pow⟩
theorem Glob.alloc {w : World} (hG : Glob w) (o : Obj) : Glob (w.alloc o) := hG.of_below (below_alloc (Below.refl _ _) o)
theorem Glob.lt {w : World} (hG : Glob w) : 0 < w.heap.size := globCell_lt (hG 0 (by omega))

end Go.Proofs.YtoggmegpodmfnaaDoor.B
