/- Lemmas for the law's contracts (Bld); each states its own conditions. -/
import Derived.Test.YtaipokmbgcmciaaProg
import Derived.Test.YtaipokmbgcmciaaShelf
import Derived.Shelf.Strings.BuilderRune
import Derived.Laws.Externs
import Derived.Test.YtaipokmbgcmciaaWWords
import Derived.Test.YtaipokmbgcmciaaWLast
import Derived.Test.YtaipokmbgcmciaaWTab
import Derived.Test.YtaipokmbgcmciaaWFour
import Derived.Test.YtaipokmbgcmciaaWQPut
import Derived.Test.YtaipokmbgcmciaaWApart
import Derived.Test.YtaipokmbgcmciaaWArr
import Derived.Test.YtaipokmbgcmciaaWZeros
import Derived.Test.YtaipokmbgcmciaaWFoot
import Derived.Test.YtaipokmbgcmciaaWKept
import Derived.Test.YtaipokmbgcmciaaWShare
import Derived.Test.YtaipokmbgcmciaaWN
import Derived.Test.YtaipokmbgcmciaaWFootNe
import Derived.Test.YtaipokmbgcmciaaWAt
import Derived.Test.YtaipokmbgcmciaaWEqStruct
import Derived.Test.YtaipokmbgcmciaaWRepsOne
import Derived.Test.YtaipokmbgcmciaaWInv
import Derived.Test.YtaipokmbgcmciaaWInvWords
import Derived.Test.YtaipokmbgcmciaaWGuard
import Derived.Test.YtaipokmbgcmciaaWNEv
import Derived.Test.YtaipokmbgcmciaaWMore
namespace Go.Proofs.Ytaipokmbgcmciaa.B
open Go.RowKit Go.Proofs.YtaipokmbgcmciaaW.PrintWords Go.Proofs.YtaipokmbgcmciaaW.PrintLast Go.Proofs.YtaipokmbgcmciaaW.PrintMore
set_option linter.unusedVariables false
set_option linter.unusedSimpArgs false


theorem bldInfo5 : (Try.prog.info? 5).map (fun i => (i.zero, i.size, i.bytes)) = some (some (.int .u8 0), 1, 1) := by kernel_rfl
abbrev bldT : Nat := 41
set_option maxHeartbeats 1000000 in
set_option maxRecDepth 100000 in
theorem bldCheck_used (b : Nat) (w : World) (h0 : w.cell? ⟨b, 0, none⟩ = some (.pointer (some ⟨b, 0, none⟩))) :
    Calls Try.prog 35 #[.pointer (some ⟨b, 0, none⟩)] w fun e w' => e = .returned (.tuple #[]) ∧ w' = w := by
  obtain ⟨j, hj, _⟩ := Option.map_eq_some_iff.1 Try.Builder_Extra_B.sizeBuilder
  go_enter Try.func35, Try.ntmps35
  go_wp2
  rw [Lib.run_neq_ptr_same w _ Try.underlying38 hj]
  go_wp2
  go_end0
  exact ⟨rfl, rfl⟩
set_option maxHeartbeats 1000000 in
set_option maxRecDepth 100000 in
theorem bldCheck_fresh (b : Nat) (w : World) (h0 : w.cell? ⟨b, 0, none⟩ = some (.pointer none)) (hsh : w.shape? b = some (41, 2)) (hfz : w.frozen? ⟨b, 0, none⟩ = false) :
    Calls Try.prog 35 #[.pointer (some ⟨b, 0, none⟩)] w fun e w' => e = .returned (.tuple #[]) ∧ w' = w.setCell ⟨b, 0, none⟩ (.pointer (some ⟨b, 0, none⟩)) := by
  obtain ⟨j, hj, hjs⟩ := Option.map_eq_some_iff.1 Try.Builder_Extra_B.sizeBuilder
  go_enter Try.func35, Try.ntmps35
  go_wp2
  rw [Lib.run_to_unsafe w ⟨b, 0, none⟩ Try.underlying38 Try.underlying59 hj (by rw [hjs]; decide) hsh (Nat.zero_lt_succ 1)]
  simp only [Result.andThen]
  rw [Oper.upon_value]
  go_wp2
  rw [run_callFunc_extern Try.func39 (by kernel_rfl) (by kernel_rfl) (by kernel_rfl) (e := Extern.AbiNoEscape.same) (by kernel_rfl)]
  rw [Lib.run_noEscape]
  simp only [Result.andThen]
  rw [Oper.upon_value]
  go_wp2
  rw [Lib.run_from_unsafe w ⟨b, 0, none⟩ Try.underlying59 Try.underlying38 hj hsh Try.Builder_Extra_B.liesBuilder]
  simp only [Result.andThen]
  rw [Oper.upon_value]
  go_wp2
  go_end0
  exact ⟨rfl, rfl⟩
theorem bldCheck (B b : Nat) (bs : List Value) (w : World) (h : Lib.IsBuilderF 41 5 B b bs w) :
    Calls Try.prog 35 #[.pointer (some ⟨b, 0, none⟩)] w fun e w' => e = .returned (.tuple #[]) ∧ (Lib.BuilderAtF 41 5 B b (.pointer (some ⟨b, 0, none⟩)) bs w' ∧ Below B w w' ∧ Lib.OthersKept 5 (some b) w w') := by
  rcases h with h | h
  · refine (bldCheck_fresh b w h.cell0 h.shape h.frozen0).mono ?_
    rintro e w' ⟨rfl, rfl⟩
    exact ⟨rfl, h.used _, (Below.refl B w).setCell (p := ⟨b, 0, none⟩) h.1 _, (Lib.OthersKept.refl _ _ w).setCell ⟨b, 0, none⟩ rfl _⟩
  · refine (bldCheck_used b w h.cell0).mono ?_
    rintro e w' ⟨rfl, rfl⟩
    exact ⟨rfl, h, Below.refl B _, Lib.OthersKept.refl _ _ _⟩
theorem bldLt {w : World} {b : Nat} {o : Obj} (h : w.heap[b]? = some o) : b < w.heap.size := (Array.getElem?_eq_some_iff.1 h).1

end Go.Proofs.Ytaipokmbgcmciaa.B
