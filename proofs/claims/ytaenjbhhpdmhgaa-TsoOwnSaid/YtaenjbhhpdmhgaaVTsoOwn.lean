/-
How the arguments of TsoOwn are read, and its plain statement. Conditions: as stated.
-/
import Derived.Test.YtaenjbhhpdmhgaaPTsoScriptx0
import Derived.Test.YtaenjbhhpdmhgaaOpens
import Derived.KernelRfl
set_option linter.unusedVariables false
namespace Go.Proofs.Ytaenjbhhpdmhgaa.PTsoScript
open Go.RowKit Go.Proofs.YtaenjbhhpdmhgaaW.PrintWords Go.Proofs.YtaenjbhhpdmhgaaW.PrintLast Go.Proofs.YtaenjbhhpdmhgaaW.PrintMore

end Go.Proofs.Ytaenjbhhpdmhgaa.PTsoScript
