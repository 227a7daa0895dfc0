/- Of what the law StylesSets needs: part 6. -/
import Derived.Test.YtdogljnddalgdaaDoorBSets1
import Derived.Test.YtdogljnddalgdaaDoorBSets5
namespace Go.Proofs.YtdogljnddalgdaaDoorW.PrintLast
end Go.Proofs.YtdogljnddalgdaaDoorW.PrintLast
namespace Go.Proofs.YtdogljnddalgdaaDoorW.PrintMore
end Go.Proofs.YtdogljnddalgdaaDoorW.PrintMore
namespace Go.Proofs.YtdogljnddalgdaaDoorW.PrintWords
end Go.Proofs.YtdogljnddalgdaaDoorW.PrintWords
section
namespace Go.Proofs.YtdogljnddalgdaaDoor
open Go Go.RowKit Go.Proofs.YtdogljnddalgdaaDoorW.PrintWords Go.Proofs.YtdogljnddalgdaaDoorW.PrintLast Go.Proofs.YtdogljnddalgdaaDoorW.PrintMore
section
variable {ops : Array Oper} {o : Oper} {rest : List Oper} {a : Act} {Q : Exit → Act → World → Prop}
theorem gap_step {w0 W : World} (hg : o.guard = none) (hop : o.op = .load 60 (.global 2)) (hG : GL w0) (hB : Below w0.heap.size w0 W)
    (h : wpList Tryd.prog ops Q rest (a.put o.dst (.agg #[.int .i32 32, .int .u8 0])) W) : wpList Tryd.prog ops Q (o :: rest) a W := by
  have hc := (GL.below hG hB).gap
  have hc1 := hc.1
  have hc2 := hc.2
  have hu := Tryd.underlying60
  refine wpList_plain hg fun K hK => ?_
  unfold Oper.wp
  go_simp
  exact hK _ _ h
end
end Go.Proofs.YtdogljnddalgdaaDoor
end
