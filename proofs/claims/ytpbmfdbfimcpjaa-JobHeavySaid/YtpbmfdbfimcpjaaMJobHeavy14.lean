/- The kinds of this seat's structs, opened out of a row's reading. No conditions. -/
import Derived.Test.YtpbmfdbfimcpjaaMJobHeavy5
import Derived.Test.YtpbmfdbfimcpjaaMJobHeavy3
namespace Go.Proofs.Ytpbmfdbfimcpjaa.Op
open Go.RowKit Go.Proofs.YtpbmfdbfimcpjaaW.PrintWords Go.Proofs.Ytpbmfdbfimcpjaa.X
set_option linter.unusedVariables false
set_option maxRecDepth 100000
end Go.Proofs.Ytpbmfdbfimcpjaa.Op
