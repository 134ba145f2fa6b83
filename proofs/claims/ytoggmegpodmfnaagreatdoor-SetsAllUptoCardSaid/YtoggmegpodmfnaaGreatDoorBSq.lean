/- Lemmas for the law's contracts (Sq); each states its own conditions. -/
import Derived.Test.YtoggmegpodmfnaaGreatDoorWWords
import Derived.Test.YtoggmegpodmfnaaGreatDoorWLast
import Derived.Test.YtoggmegpodmfnaaGreatDoorWTab
import Derived.Test.YtoggmegpodmfnaaGreatDoorWFour
import Derived.Test.YtoggmegpodmfnaaGreatDoorWQPut
import Derived.Test.YtoggmegpodmfnaaGreatDoorWApart
import Derived.Test.YtoggmegpodmfnaaGreatDoorWArr
import Derived.Test.YtoggmegpodmfnaaGreatDoorWZeros
import Derived.Test.YtoggmegpodmfnaaGreatDoorWFoot
import Derived.Test.YtoggmegpodmfnaaGreatDoorWKept
import Derived.Test.YtoggmegpodmfnaaGreatDoorWShare
import Derived.Test.YtoggmegpodmfnaaGreatDoorWN
import Derived.Test.YtoggmegpodmfnaaGreatDoorWFootNe
import Derived.Test.YtoggmegpodmfnaaGreatDoorWAt
import Derived.Test.YtoggmegpodmfnaaGreatDoorWEqStruct
import Derived.Test.YtoggmegpodmfnaaGreatDoorWRepsOne
import Derived.Test.YtoggmegpodmfnaaGreatDoorWInv
import Derived.Test.YtoggmegpodmfnaaGreatDoorWInvWords
import Derived.Test.YtoggmegpodmfnaaGreatDoorWGuard
import Derived.Test.YtoggmegpodmfnaaGreatDoorWNEv
import Derived.Test.YtoggmegpodmfnaaGreatDoorWMore
namespace Go.Proofs.YtoggmegpodmfnaaGreatDoor.B
open Go.RowKit Go.Proofs.YtoggmegpodmfnaaGreatDoorW.PrintWords Go.Proofs.YtoggmegpodmfnaaGreatDoorW.PrintLast Go.Proofs.YtoggmegpodmfnaaGreatDoorW.PrintMore
set_option linter.unusedVariables false
set_option linter.unusedSimpArgs false
class BelC (w W : World) : Prop where
  out : Below w.heap.size w W
instance bc0 {w : World} : BelC w w := ⟨Below.refl _ _⟩
instance bc1 {w W : World} {o : Obj} [h : BelC w W] : BelC w (W.alloc o) := ⟨below_alloc h.out o⟩
instance bc2 {w W : World} {n : Nat} [h : BelC w W] : BelC w (W.drewN n) := ⟨pw_below_drewN h.out n⟩
instance bc3 {w W : World} [h : BelC w W] : BelC w W.drew := ⟨below_drew1 h.out⟩
theorem bw {w W : World} [h : BelC w W] : Below w.heap.size w W := h.out
theorem bz {w W : World} [h : BelC w W] : w.heap.size ≤ W.heap.size := below_size h.out
theorem bs {w W W2 : World} [h : BelC w W] (k : Below W.heap.size W W2) : BelC w W2 := ⟨below_step h.out k⟩
section
variable {α : Type} {d : Kd α} {e : Nat} {w w1 : World} {base : Nat} {ok : Nat → Prop} {v : Value} {xs : List α} {A : Option Addr} {n : Nat}
theorem rl [h1 : BelC w w1] (h : d.R e w base ok v xs) : d.R e w1 base ok v xs := Kd.R_below h h1.out
theorem cl [h1 : BelC w w1] (h : d.C w A n xs) : d.C w1 A n xs := Kd.C_below h h1.out
theorem nl [h1 : BelC w w1] (h : Kd.N d e w base ok v xs) : Kd.N d e w1 base ok v xs := Kd.N_below h h1.out
theorem sl [h1 : BelC w w1] (h : Kd.S d e w base ok v xs) : Kd.S d e w1 base ok v xs := Kd.S_below h h1.out
end
theorem od {p : Prop} [inst : Decidable p] (h : decide p = true) : p := of_decide_eq_true h
def bA (n m : Nat) : Array Bool := ((List.range n).map fun i => m.testBit i).toArray
def upto (n i : Nat) : Array Bool := (List.replicate i true ++ List.replicate (n - i) false).toArray
section
variable {P : Program} {ops : Array Oper} {Q : Exit → Act → World → Prop} {S : World → Prop} {md : Region.Mode} {ds : List Nat} {T : Bool × List (List Nat × List Nat)} {B : List Nat}
end
end Go.Proofs.YtoggmegpodmfnaaGreatDoor.B
