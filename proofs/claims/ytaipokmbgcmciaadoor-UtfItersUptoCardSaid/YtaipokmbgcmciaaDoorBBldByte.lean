/- Lemmas for the law's contracts (BldByte); each states its own conditions. -/
import Derived.Test.YtaipokmbgcmciaaDoorProg
import Derived.Test.YtaipokmbgcmciaaDoorWWords
import Derived.Test.YtaipokmbgcmciaaDoorWLast
import Derived.Test.YtaipokmbgcmciaaDoorWTab
import Derived.Test.YtaipokmbgcmciaaDoorWFour
import Derived.Test.YtaipokmbgcmciaaDoorWQPut
import Derived.Test.YtaipokmbgcmciaaDoorWApart
import Derived.Test.YtaipokmbgcmciaaDoorWArr
import Derived.Test.YtaipokmbgcmciaaDoorWZeros
import Derived.Test.YtaipokmbgcmciaaDoorWFoot
import Derived.Test.YtaipokmbgcmciaaDoorWKept
import Derived.Test.YtaipokmbgcmciaaDoorWShare
import Derived.Test.YtaipokmbgcmciaaDoorWN
import Derived.Test.YtaipokmbgcmciaaDoorWFootNe
import Derived.Test.YtaipokmbgcmciaaDoorWAt
import Derived.Test.YtaipokmbgcmciaaDoorWEqStruct
import Derived.Test.YtaipokmbgcmciaaDoorWRepsOne
import Derived.Test.YtaipokmbgcmciaaDoorWInv
import Derived.Test.YtaipokmbgcmciaaDoorWInvWords
import Derived.Test.YtaipokmbgcmciaaDoorWGuard
import Derived.Test.YtaipokmbgcmciaaDoorWNEv
import Derived.Test.YtaipokmbgcmciaaDoorWMore
import Derived.Test.YtaipokmbgcmciaaDoorBBld
namespace Go.Proofs.YtaipokmbgcmciaaDoor.B
open Go.RowKit Go.Proofs.YtaipokmbgcmciaaDoorW.PrintWords Go.Proofs.YtaipokmbgcmciaaDoorW.PrintLast Go.Proofs.YtaipokmbgcmciaaDoorW.PrintMore
set_option linter.unusedVariables false
set_option linter.unusedSimpArgs false

set_option maxHeartbeats 2000000 in
set_option maxRecDepth 100000 in
theorem bldByte (B b : Nat) (bs : List Value) (c : Int) (w : World) (h : Lib.IsBuilderF 56 5 B b bs w) (hlen : bs.length + 1 ≤ 140737488355328) (hBw : B ≤ w.heap.size) :
    Calls Tryd.prog 49 #[.pointer (some ⟨b, 0, none⟩), .int .u8 c] w fun e w' => e = .returned .nilIface ∧ (Lib.BuilderAtF 56 5 B b (.pointer (some ⟨b, 0, none⟩)) (bs ++ [.int .u8 c]) w' ∧ Below B w w' ∧ Lib.OthersKept 5 (some b) w w') := by
  obtain ⟨i0, hi, hz0, hz1, hz2⟩ := info_parts bldInfo5
  go_enter Tryd.func49, Tryd.ntmps49
  go_wp2_with (go_at_call 63; refine (bldCheck B b bs _ h).mono ?_)
  rintro e w1 ⟨rfl, h1, hb1, hk1⟩
  obtain ⟨hB, v, hbk, hown, hne⟩ := h1
  have c0 : w1.cell? ⟨b, 0, none⟩ = some (.pointer (some ⟨b, 0, none⟩)) := by rw [Lib.cell_of_heap hbk]; rfl
  have c1 : w1.cell? ⟨b, 1, none⟩ = some v := by rw [Lib.cell_of_heap hbk]; rfl
  go_wp2_with (at_builtin; refine wpList_append_ownF _ rfl _ _ 54 rfl B 5 i0 (.int .u8 0) 1 1 Tryd.underlying54 hi hz0 hz1 hz2 rfl (by decide) _ _ _ rfl (hown.alloc _) ⟨w1.heap.size, 0, none⟩ 1 1 [.int .u8 c] rfl rfl ?c1 ?c2 ?c3 ?c4 ?c5 ?_)
  case c1 =>
    intro j u hj
    match j, hj with
    | 0, hj => simp at hj; subst hj; simp [Addr.add]
  case c2 => intro u hu; simp at hu; subst hu; rfl
  case c3 => unfold maxLen; omega
  case c4 => omega
  case c5 => have := hb1.size; simp; omega
  intro v' w2 hown' hgrow _
  have hlt := bldLt hbk
  have hb2 : w2.heap[b]? = some (.cells #[.pointer (some ⟨b, 0, none⟩), v] 56 (0, 0)) := by
    rw [hgrow.block b (by simp; omega) (fun e => hne e.symm), Lib.alloc_old w1 _ b hlt]
    exact hbk
  have d0 : w2.cell? ⟨b, 0, none⟩ = some (.pointer (some ⟨b, 0, none⟩)) := by rw [Lib.cell_of_heap hb2]; rfl
  have d1 : w2.cell? ⟨b, 1, none⟩ = some v := by rw [Lib.cell_of_heap hb2]; rfl
  have f1 : w2.frozen? ⟨b, 1, none⟩ = false := Lib.frozen_of_heap hb2 1
  obtain ⟨g, cap, rfl⟩ : ∃ g cap, v' = .slice (some ⟨g, 0, none⟩) (bs.length + 1) cap := by
    rcases hown'.2 with ⟨_, h0⟩ | ⟨g, cap, cur, fz, hv, _⟩
    · omega
    · exact ⟨g, cap, hv⟩
  go_wp2
  go_ret
  refine ⟨rfl, ?_, ?_, ((hk1.alloc _).grown hgrow (Lib.ownsRowF_kind (hown.alloc _))).setCell ⟨b, 1, none⟩ rfl _⟩
  · exact Lib.BuilderAtF.put (T := 56) (e := 5) hB hb2 (bs' := bs ++ [.int .u8 c]) (by simpa using hown') Tryd.Builder_Extra_B.neB5
  · exact ((hb1.alloc (by have := hb1.size; omega) _).grown hgrow (by have := hb1.size; simp; omega) (fun k hk => (hown.lt k hk).1)).setCell (p := ⟨b, 1, none⟩) hB _

end Go.Proofs.YtaipokmbgcmciaaDoor.B
