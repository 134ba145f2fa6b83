/- Lemmas for the law's contracts (SetsLaidT); each states its own conditions. -/
import Derived.Test.YtoggmegpodmfnaaGreatDoorProg
import Derived.Lib.LaidU8
import Derived.Lib.LaidTab
import Derived.Test.YtoggmegpodmfnaaGreatDoorWWords
import Derived.Test.YtoggmegpodmfnaaGreatDoorWLast
import Derived.Test.YtoggmegpodmfnaaGreatDoorWTab
import Derived.Test.YtoggmegpodmfnaaGreatDoorWFour
import Derived.Test.YtoggmegpodmfnaaGreatDoorWQPut
import Derived.Test.YtoggmegpodmfnaaGreatDoorWApart
import Derived.Test.YtoggmegpodmfnaaGreatDoorWArr
import Derived.Test.YtoggmegpodmfnaaGreatDoorWZeros
import Derived.Test.YtoggmegpodmfnaaGreatDoorWFoot
import Derived.Test.YtoggmegpodmfnaaGreatDoorWKept
import Derived.Test.YtoggmegpodmfnaaGreatDoorWShare
import Derived.Test.YtoggmegpodmfnaaGreatDoorWN
import Derived.Test.YtoggmegpodmfnaaGreatDoorWFootNe
import Derived.Test.YtoggmegpodmfnaaGreatDoorWAt
import Derived.Test.YtoggmegpodmfnaaGreatDoorWEqStruct
import Derived.Test.YtoggmegpodmfnaaGreatDoorWRepsOne
import Derived.Test.YtoggmegpodmfnaaGreatDoorWInv
import Derived.Test.YtoggmegpodmfnaaGreatDoorWInvWords
import Derived.Test.YtoggmegpodmfnaaGreatDoorWGuard
import Derived.Test.YtoggmegpodmfnaaGreatDoorWNEv
import Derived.Test.YtoggmegpodmfnaaGreatDoorWMore
import Derived.Test.YtoggmegpodmfnaaGreatDoorBGlobSetsT
namespace Go.Proofs.YtoggmegpodmfnaaGreatDoor.B
open Go.RowKit Go.Proofs.YtoggmegpodmfnaaGreatDoorW.PrintWords Go.Proofs.YtoggmegpodmfnaaGreatDoorW.PrintLast Go.Proofs.YtoggmegpodmfnaaGreatDoorW.PrintMore
set_option linter.unusedVariables false
set_option linter.unusedSimpArgs false
def bandPair (a b : Int) : DataW Unit := .agg ([a, b].map fun z => .lit (.int .i32 z))
def bandData : DataW Unit := .agg [bandPair 0 55295, bandPair 57344 1114111, bandPair 1114240 1114367]
theorem glob_elem {w : World} {cs : List Value} {fuel : Nat} {p : List MemPlace} (hd : DataW.trod (fun _ => ()) Tryz.prog w 0 (fun _ => true) false fuel 79 cs = some (bandData, p)) (i : Nat) (hi : i < 3) (a b : Int)
    (hab : ([bandPair 0 55295, bandPair 57344 1114111, bandPair 1114240 1114367] : List (DataW Unit))[i]? = some (bandPair a b)) : cs[2 * i]? = some (.int .i32 a) ∧ cs[2 * i + 1]? = some (.int .i32 b) := by
  have c29 : Tryz.prog.cellsOf 41 = 2 := by kernel_rfl
  have c21 : Tryz.prog.cellsOf 21 = 1 := by kernel_rfl
  obtain ⟨fuel', d, q, hdi, he⟩ := Lib.array_elem Tryz.underlying79 hd i hi; rw [hab] at hdi; obtain rfl := Option.some.inj hdi; rw [c29] at he
  have hcs := Lib.ints_of_struct (k := .i32) (zs := [a, b]) Tryz.underlying41 (fun j f hj => by
    match j, hj with
    | 0, hj => simp at hj; subst hj; exact ⟨Tryz.underlying21, rfl, c21⟩
    | 1, hj => simp at hj; subst hj; exact ⟨Tryz.underlying21, rfl, c21⟩
    | j + 2, hj => simp at hj) (by rw [c29]; rfl) he
  have e0 := congrArg (·[0]?) hcs; have e1 := congrArg (·[1]?) hcs; simp only [List.getElem?_take, List.getElem?_drop] at e0 e1; constructor
  · simpa [Nat.mul_comm] using e0
  · simpa [Nat.mul_comm] using e1
theorem pow_of_reads {w : World} (h : Lib.VarReads Tryz.prog w "internal/strconv.uint64pow10" (Lib.tabData .u64 Lib.pow10Tab)) : Lib.TabIs Tryz.prog w "internal/strconv.uint64pow10" .u64 Lib.pow10Tab := by
  obtain ⟨g, t, cs, fuel, p, hg, hty, hvar, hd⟩ := h; obtain rfl := Option.some.inj ((show Tryz.prog.globalNamed "internal/strconv.uint64pow10" = some 1 by kernel_rfl).symm.trans hg); obtain rfl := Option.some.inj ((show (Tryz.prog.globals[1]?).map (·.type) = some 188 by kernel_rfl).symm.trans hty)
  have he : Tryz.prog.underlying 162 = some (.int .u64) := by kernel_rfl
  have ht : Tryz.prog.underlying 188 = some (.array 20 162) := by kernel_rfl
  have hce : Tryz.prog.cellsOf 162 = 1 := by kernel_rfl
  have hct : Tryz.prog.cellsOf 188 = 20 := by kernel_rfl
  unfold Lib.TabIs; rw [hvar, ← Lib.cells_of_tab ht he hce hct hd]
theorem glob_of_reads {w : World} (h : Lib.VarReads Tryz.prog w "thistle/sets.bands" bandData) (h2 : Lib.VarReads Tryz.prog w "internal/strconv.uint64pow10" (Lib.tabData .u64 Lib.pow10Tab)) : Glob w := by
  refine ⟨?_, pow_of_reads h2⟩; obtain ⟨g, t, cs, fuel, p, hg, hty, hvar, hd⟩ := h; obtain rfl := Option.some.inj ((show Tryz.prog.globalNamed "thistle/sets.bands" = some 0 by kernel_rfl).symm.trans hg); obtain rfl := Option.some.inj ((show (Tryz.prog.globals[0]?).map (·.type) = some 79 by kernel_rfl).symm.trans hty); obtain ⟨a0, a1⟩ := glob_elem hd 0 (by omega) 0 55295 rfl; obtain ⟨b0, b1⟩ := glob_elem hd 1 (by omega) 57344 1114111 rfl; obtain ⟨d0, d1⟩ := glob_elem hd 2 (by omega) 1114240 1114367 rfl; intro i hi; rw [World.var?_cell hg hvar i, ← Array.getElem?_toList]
  match i, hi with
  | 0, _ => exact a0
  | 1, _ => exact a1
  | 2, _ => exact b0
  | 3, _ => exact b1
  | 4, _ => exact d0
  | 5, _ => exact d1
end Go.Proofs.YtoggmegpodmfnaaGreatDoor.B
