/- Lemmas for the law's contracts (GlobUtf); each states its own conditions. -/
import Derived.Shelf.Unicode.DecodeSlow
import Derived.Test.YtaipokmbgcmciaaDoorWWords
import Derived.Test.YtaipokmbgcmciaaDoorWLast
import Derived.Test.YtaipokmbgcmciaaDoorWTab
import Derived.Test.YtaipokmbgcmciaaDoorWFour
import Derived.Test.YtaipokmbgcmciaaDoorWQPut
import Derived.Test.YtaipokmbgcmciaaDoorWApart
import Derived.Test.YtaipokmbgcmciaaDoorWArr
import Derived.Test.YtaipokmbgcmciaaDoorWZeros
import Derived.Test.YtaipokmbgcmciaaDoorWFoot
import Derived.Test.YtaipokmbgcmciaaDoorWKept
import Derived.Test.YtaipokmbgcmciaaDoorWShare
import Derived.Test.YtaipokmbgcmciaaDoorWN
import Derived.Test.YtaipokmbgcmciaaDoorWFootNe
import Derived.Test.YtaipokmbgcmciaaDoorWAt
import Derived.Test.YtaipokmbgcmciaaDoorWEqStruct
import Derived.Test.YtaipokmbgcmciaaDoorWRepsOne
import Derived.Test.YtaipokmbgcmciaaDoorWInv
import Derived.Test.YtaipokmbgcmciaaDoorWInvWords
import Derived.Test.YtaipokmbgcmciaaDoorWGuard
import Derived.Test.YtaipokmbgcmciaaDoorWNEv
import Derived.Test.YtaipokmbgcmciaaDoorWMore
namespace Go.Proofs.YtaipokmbgcmciaaDoor.B
open Go.RowKit Go.Proofs.YtaipokmbgcmciaaDoorW.PrintWords Go.Proofs.YtaipokmbgcmciaaDoorW.PrintLast Go.Proofs.YtaipokmbgcmciaaDoorW.PrintMore
set_option linter.unusedVariables false
set_option linter.unusedSimpArgs false
/-- What the package variables hold: the two tables of unicode/utf8, in blocks 0 and 1. -/
def Glob (w : World) : Prop := Lib.Utf8Tabs 0 1 w
theorem Glob.of_cells {w w' : World} (hG : Glob w) (h : ∀ b o v, w.cell? ⟨b, o, none⟩ = some v → b ≤ 1 → w'.cell? ⟨b, o, none⟩ = some v) : Glob w' :=
  ⟨fun c hc => h 0 c _ (hG.1 c hc) (by omega), fun i hi => ⟨h 1 _ _ (hG.2 i hi).1 (by omega), h 1 _ _ (hG.2 i hi).2 (by omega)⟩⟩
theorem globCell_lt {w : World} {b o : Nat} {v : Value} (h : w.cell? ⟨b, o, none⟩ = some v) : b < w.heap.size := by
  unfold World.cell? at h
  rcases Nat.lt_or_ge b w.heap.size with h' | h'
  · exact h'
  · simp [Array.getElem?_eq_none h'] at h
theorem Glob.of_below {w w' : World} (hG : Glob w) (hb : Below w.heap.size w w') : Glob w' :=
  hG.of_cells fun b o v h _ => (hb.cell (p := ⟨b, o, none⟩) (globCell_lt h)).trans h
theorem Glob.drewN {w : World} (hG : Glob w) (n : Nat) : Glob (w.drewN n) := hG
theorem Glob.drew {w : World} (hG : Glob w) : Glob w.drew := hG
theorem Glob.alloc {w : World} (hG : Glob w) (o : Obj) : Glob (w.alloc o) := hG.of_below (below_alloc (Below.refl _ _) o)

end Go.Proofs.YtaipokmbgcmciaaDoor.B
