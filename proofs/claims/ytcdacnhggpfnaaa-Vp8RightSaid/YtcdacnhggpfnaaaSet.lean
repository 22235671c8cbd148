/- octet.Set. -/
import Derived.Deep.RegionHeld3
import Derived.Test.YtcdacnhggpfnaaaClone
namespace Go.Proofs.Ytcdacnhggpfnaaa
open Go.RowKit


end Go.Proofs.Ytcdacnhggpfnaaa
