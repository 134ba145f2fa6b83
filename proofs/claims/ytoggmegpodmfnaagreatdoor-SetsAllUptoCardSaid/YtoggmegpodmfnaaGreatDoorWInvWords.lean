import Derived.Test.YtoggmegpodmfnaaGreatDoorWInv
import Derived.Test.YtoggmegpodmfnaaGreatDoorWFootNe
namespace Go.Proofs.YtoggmegpodmfnaaGreatDoorW.PrintWords
open Go.RowKit
end Go.Proofs.YtoggmegpodmfnaaGreatDoorW.PrintWords
namespace Go.Proofs.YtoggmegpodmfnaaGreatDoorW.PrintLast
section
variable {ops : Array Oper} {a : Act} {o og : Oper} {g : Nat} {t : Tmp} {u : Bool}
end
end Go.Proofs.YtoggmegpodmfnaaGreatDoorW.PrintLast
