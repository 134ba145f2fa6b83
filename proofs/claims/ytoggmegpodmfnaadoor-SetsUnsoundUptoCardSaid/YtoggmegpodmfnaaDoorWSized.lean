import Derived.SizedLaws
import Derived.ChangeSlices
namespace Go.Proofs.YtoggmegpodmfnaaDoorW.PrintWords
open Go.ChangeShapes Go.WideShapes
end Go.Proofs.YtoggmegpodmfnaaDoorW.PrintWords
