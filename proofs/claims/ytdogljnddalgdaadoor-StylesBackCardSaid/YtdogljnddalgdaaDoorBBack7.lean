/- Of what the law StylesBack needs: part 7. -/
import Derived.ArgAppend
import Derived.Below
import Derived.BigQuiet
import Derived.Deep.AppendLies
import Derived.Deep.CutBlock
import Derived.Deep.DeepCutAuto
import Derived.Deep.Draws
import Derived.Deep.LoopGhost
import Derived.Deep.OwnRows
import Derived.Deep.QuietTactic
import Derived.Deep.RegionHeld3
import Derived.KernelRfl
import Derived.Laws.BitsLemmas
import Derived.Laws.BytesArg
import Derived.Laws.IdiomCopy
import Derived.Laws.MakeOwn
import Derived.Laws.OwnMore
import Derived.Laws.Rows
import Derived.Laws.Slices
import Derived.Lib.AppendStr
import Derived.Lib.ConvBytes
import Derived.Maps.AppendAt
import Derived.Maps.Own
import Derived.Maps.OwnOps
import Derived.Maps.OwnSet
import Derived.OrdersHeld
import Derived.OwnWalk
import Derived.RowKit
import Derived.RowKit3
import Derived.StringKeys
import Derived.Tactics
import Derived.Test.YtdogljnddalgdaaDoorProg
import Derived.WalkKit
import Derived.WideLaws
import Derived.Test.YtdogljnddalgdaaDoorBBack1
import Derived.Test.YtdogljnddalgdaaDoorBBack6
namespace Go.Proofs.YtdogljnddalgdaaDoorW.PrintLast
end Go.Proofs.YtdogljnddalgdaaDoorW.PrintLast
namespace Go.Proofs.YtdogljnddalgdaaDoorW.PrintMore
end Go.Proofs.YtdogljnddalgdaaDoorW.PrintMore
namespace Go.Proofs.YtdogljnddalgdaaDoorW.PrintWords
end Go.Proofs.YtdogljnddalgdaaDoorW.PrintWords
section
namespace Go.Proofs.YtdogljnddalgdaaDoor
open Go Go.RowKit Go.Proofs.YtdogljnddalgdaaDoorW.PrintWords Go.Proofs.YtdogljnddalgdaaDoorW.PrintLast Go.Proofs.YtdogljnddalgdaaDoorW.PrintMore
section
variable {ops : Array Oper} {o : Oper} {rest : List Oper} {a : Act} {Q : Exit → Act → World → Prop}
theorem gap_step {w0 W : World} (hg : o.guard = none) (hop : o.op = .load 60 (.global 2)) (hG : GL w0) (hB : Below w0.heap.size w0 W)
    (h : wpList Tryd.prog ops Q rest (a.put o.dst (.agg #[.int .i32 32, .int .u8 0])) W) : wpList Tryd.prog ops Q (o :: rest) a W := by
  have hc := (GL.below hG hB).gap
  have hc1 := hc.1
  have hc2 := hc.2
  have hu := Tryd.underlying60
  refine wpList_plain hg fun K hK => ?_
  unfold Oper.wp
  go_simp
  exact hK _ _ h
end
end Go.Proofs.YtdogljnddalgdaaDoor
end
