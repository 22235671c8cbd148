/- octet.Set. -/
import Derived.Deep.RegionHeld3
import Derived.Test.YthepndimhiieiaaClone
namespace Go.Proofs.Ythepndimhiieiaa
open Go.RowKit


end Go.Proofs.Ythepndimhiieiaa
