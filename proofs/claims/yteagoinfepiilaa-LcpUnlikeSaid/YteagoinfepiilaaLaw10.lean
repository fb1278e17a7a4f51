/- Layer 10: what the statements' first rows come to, and small words. -/
import Derived.Test.YteagoinfepiilaaKas
import Derived.Test.YteagoinfepiilaaPrint3
namespace Go.Proofs.Yteagoinfepiilaa.Ls
open Go.RowKit Go.Proofs.YteagoinfepiilaaW.PrintWords Go.Proofs.YteagoinfepiilaaW.PrintMore Go.Proofs.Yteagoinfepiilaa.Bs Go.Proofs.Yteagoinfepiilaa.Print
set_option linter.unusedVariables false
set_option linter.unusedSimpArgs false
theorem first10 : Ev (fun k => colophonlaw10_first.f k) true := Ev.of (fun k => colophonlaw10_first.mono k) (k := 40) (by decide +kernel)
end Go.Proofs.Yteagoinfepiilaa.Ls
