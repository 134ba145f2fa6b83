/- Lemmas for the law's contracts (Bld); each states its own conditions. -/
import Derived.Test.YtaipokmbgcmciaaDoorProg
import Derived.Test.YtaipokmbgcmciaaDoorShelf
import Derived.Shelf.Strings.BuilderRune
import Derived.Laws.Externs
import Derived.Test.YtaipokmbgcmciaaDoorWWords
import Derived.Test.YtaipokmbgcmciaaDoorWLast
import Derived.Test.YtaipokmbgcmciaaDoorWTab
import Derived.Test.YtaipokmbgcmciaaDoorWFour
import Derived.Test.YtaipokmbgcmciaaDoorWQPut
import Derived.Test.YtaipokmbgcmciaaDoorWApart
import Derived.Test.YtaipokmbgcmciaaDoorWArr
import Derived.Test.YtaipokmbgcmciaaDoorWZeros
import Derived.Test.YtaipokmbgcmciaaDoorWFoot
import Derived.Test.YtaipokmbgcmciaaDoorWKept
import Derived.Test.YtaipokmbgcmciaaDoorWShare
import Derived.Test.YtaipokmbgcmciaaDoorWN
import Derived.Test.YtaipokmbgcmciaaDoorWFootNe
import Derived.Test.YtaipokmbgcmciaaDoorWAt
import Derived.Test.YtaipokmbgcmciaaDoorWEqStruct
import Derived.Test.YtaipokmbgcmciaaDoorWRepsOne
import Derived.Test.YtaipokmbgcmciaaDoorWInv
import Derived.Test.YtaipokmbgcmciaaDoorWInvWords
import Derived.Test.YtaipokmbgcmciaaDoorWGuard
import Derived.Test.YtaipokmbgcmciaaDoorWNEv
import Derived.Test.YtaipokmbgcmciaaDoorWMore
namespace Go.Proofs.YtaipokmbgcmciaaDoor.B
open Go.RowKit Go.Proofs.YtaipokmbgcmciaaDoorW.PrintWords Go.Proofs.YtaipokmbgcmciaaDoorW.PrintLast Go.Proofs.YtaipokmbgcmciaaDoorW.PrintMore
set_option linter.unusedVariables false
set_option linter.unusedSimpArgs false


theorem bldInfo5 : (Tryd.prog.info? 5).map (fun i => (i.zero, i.size, i.bytes)) = some (some (.int .u8 0), 1, 1) := by kernel_rfl
abbrev bldT : Nat := 56
set_option maxHeartbeats 1000000 in
set_option maxRecDepth 100000 in
theorem bldCheck_used (b : Nat) (w : World) (h0 : w.cell? ⟨b, 0, none⟩ = some (.pointer (some ⟨b, 0, none⟩))) :
    Calls Tryd.prog 63 #[.pointer (some ⟨b, 0, none⟩)] w fun e w' => e = .returned (.tuple #[]) ∧ w' = w := by
  obtain ⟨j, hj, _⟩ := Option.map_eq_some_iff.1 Tryd.Builder_Extra_B.sizeBuilder
  go_enter Tryd.func63, Tryd.ntmps63
  go_wp2
  rw [Lib.run_neq_ptr_same w _ Tryd.underlying53 hj]
  go_wp2
  go_end0
  exact ⟨rfl, rfl⟩
set_option maxHeartbeats 1000000 in
set_option maxRecDepth 100000 in
theorem bldCheck_fresh (b : Nat) (w : World) (h0 : w.cell? ⟨b, 0, none⟩ = some (.pointer none)) (hsh : w.shape? b = some (56, 2)) (hfz : w.frozen? ⟨b, 0, none⟩ = false) :
    Calls Tryd.prog 63 #[.pointer (some ⟨b, 0, none⟩)] w fun e w' => e = .returned (.tuple #[]) ∧ w' = w.setCell ⟨b, 0, none⟩ (.pointer (some ⟨b, 0, none⟩)) := by
  obtain ⟨j, hj, hjs⟩ := Option.map_eq_some_iff.1 Tryd.Builder_Extra_B.sizeBuilder
  go_enter Tryd.func63, Tryd.ntmps63
  go_wp2
  rw [Lib.run_to_unsafe w ⟨b, 0, none⟩ Tryd.underlying53 Tryd.underlying76 hj (by rw [hjs]; decide) hsh (Nat.zero_lt_succ 1)]
  simp only [Result.andThen]
  rw [Oper.upon_value]
  go_wp2
  rw [run_callFunc_extern Tryd.func66 (by kernel_rfl) (by kernel_rfl) (by kernel_rfl) (e := Extern.AbiNoEscape.same) (by kernel_rfl)]
  rw [Lib.run_noEscape]
  simp only [Result.andThen]
  rw [Oper.upon_value]
  go_wp2
  rw [Lib.run_from_unsafe w ⟨b, 0, none⟩ Tryd.underlying76 Tryd.underlying53 hj hsh Tryd.Builder_Extra_B.liesBuilder]
  simp only [Result.andThen]
  rw [Oper.upon_value]
  go_wp2
  go_end0
  exact ⟨rfl, rfl⟩
theorem bldCheck (B b : Nat) (bs : List Value) (w : World) (h : Lib.IsBuilderF 56 5 B b bs w) :
    Calls Tryd.prog 63 #[.pointer (some ⟨b, 0, none⟩)] w fun e w' => e = .returned (.tuple #[]) ∧ (Lib.BuilderAtF 56 5 B b (.pointer (some ⟨b, 0, none⟩)) bs w' ∧ Below B w w' ∧ Lib.OthersKept 5 (some b) w w') := by
  rcases h with h | h
  · refine (bldCheck_fresh b w h.cell0 h.shape h.frozen0).mono ?_
    rintro e w' ⟨rfl, rfl⟩
    exact ⟨rfl, h.used _, (Below.refl B w).setCell (p := ⟨b, 0, none⟩) h.1 _, (Lib.OthersKept.refl _ _ w).setCell ⟨b, 0, none⟩ rfl _⟩
  · refine (bldCheck_used b w h.cell0).mono ?_
    rintro e w' ⟨rfl, rfl⟩
    exact ⟨rfl, h, Below.refl B _, Lib.OthersKept.refl _ _ _⟩
theorem bldLt {w : World} {b : Nat} {o : Obj} (h : w.heap[b]? = some o) : b < w.heap.size := (Array.getElem?_eq_some_iff.1 h).1

end Go.Proofs.YtaipokmbgcmciaaDoor.B
