/- octet.Signed, PutSigned; a slice of bytes as a string. -/
import Derived.Test.YtcdacnhggpfnaaaSet
import Derived.Test.YtcdacnhggpfnaaaStr
namespace Go.Proofs.Ytcdacnhggpfnaaa
open Go.RowKit

end Go.Proofs.Ytcdacnhggpfnaaa
