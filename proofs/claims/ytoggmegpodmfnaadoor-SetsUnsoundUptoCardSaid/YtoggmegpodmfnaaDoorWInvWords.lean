import Derived.Test.YtoggmegpodmfnaaDoorWInv
import Derived.Test.YtoggmegpodmfnaaDoorWFootNe
namespace Go.Proofs.YtoggmegpodmfnaaDoorW.PrintWords
open Go.RowKit
end Go.Proofs.YtoggmegpodmfnaaDoorW.PrintWords
namespace Go.Proofs.YtoggmegpodmfnaaDoorW.PrintLast
section
variable {ops : Array Oper} {a : Act} {o og : Oper} {g : Nat} {t : Tmp} {u : Bool}
end
end Go.Proofs.YtoggmegpodmfnaaDoorW.PrintLast
