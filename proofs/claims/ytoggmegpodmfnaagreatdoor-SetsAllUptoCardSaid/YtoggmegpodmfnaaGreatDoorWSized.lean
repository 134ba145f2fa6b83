import Derived.SizedLaws
import Derived.ChangeSlices
namespace Go.Proofs.YtoggmegpodmfnaaGreatDoorW.PrintWords
open Go.ChangeShapes Go.WideShapes
end Go.Proofs.YtoggmegpodmfnaaGreatDoorW.PrintWords
