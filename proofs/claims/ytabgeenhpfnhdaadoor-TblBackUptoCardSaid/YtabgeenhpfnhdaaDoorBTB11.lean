/- Of what the law TblBack needs: part 11. -/
import Derived.Test.YtabgeenhpfnhdaaDoorBTB7
import Derived.Test.YtabgeenhpfnhdaaDoorBTB9
set_option linter.unusedSimpArgs false
set_option linter.unusedVariables false
section
namespace Go.Proofs.YtabgeenhpfnhdaaDoor.Ev
open Go
theorem HInv.gl {H : Heap} {W : Wd} (h : HInv C0 H W) : GL W.w := by
  obtain ⟨w0, h1, h2, h3⟩ := h.kept
  exact GL.ext h1 fun b hb => (h3 b hb).1
end Go.Proofs.YtabgeenhpfnhdaaDoor.Ev
end
