import Derived.Test.YtdogljnddalgdaaDoorA4P4
/-! The plain law of EscapeNames. -/
namespace Go.Proofs.YtdogljnddalgdaaDoor.Pure
open Go.RowKit Go.Proofs.YtdogljnddalgdaaDoor.A4 Go.Proofs.YtdogljnddalgdaaDoorW.PrintWords Go.Proofs.YtdogljnddalgdaaDoorW.PrintLast
theorem EscapeNames : flonglaw04_EscapeNames.Pure := fun a0 _ => (Ev_EscapeNames a0).rounds
end Go.Proofs.YtdogljnddalgdaaDoor.Pure
