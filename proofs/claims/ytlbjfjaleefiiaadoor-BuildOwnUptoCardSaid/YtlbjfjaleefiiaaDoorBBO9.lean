/- Of what the law BuildOwn needs: part 9. -/
import Derived.Laws.Cover4
import Derived.Lib.OthersKept
import Derived.LoopN
import Derived.WalkMore
import Derived.Test.YtlbjfjaleefiiaaDoorBBO8
set_option linter.unusedSimpArgs false
set_option linter.unusedVariables false
section
namespace Go.Proofs.YtlbjfjaleefiiaaDoor.EvG
open Go Go.RowKit Go.Lib
def lcr : ByteArray := ⟨#[108, 99, 114]⟩
set_option maxHeartbeats 4000000 in
set_option maxRecDepth 1000000 in
theorem idx_fffd (w : World) : Calls Tryd.prog 92 #[.string lcr, .int .i32 65533] w fun e w' => e = .returned (.int .i64 (-1)) ∧ Below w.heap.size w w' := by
  go_enter Tryd.func92, Tryd.ntmps92
  go_wp2_with fail
  go_loopg [] 3 (fun gk wx => ∃ pos : Nat, wx.heap[w.heap.size]? = some (.stringIter lcr pos) ∧ Below w.heap.size w wx ∧ 3 ≤ pos + gk ∧ pos ≤ 3)
  case atStart =>
    refine ⟨0, ?_, ?_, by omega, by omega⟩
    · simpa using World.iter_heap w lcr 0
    · exact (Below.refl _ w).alloc (Nat.le_refl _) _
  case round =>
    obtain ⟨pos, hit, hbw, hfu, hps⟩ := hrel
    have hsz : lcr.size = 3 := rfl
    by_cases hlt : pos < 3
    · obtain ⟨g', rfl⟩ : ∃ g', gk = g' + 1 := ⟨gk - 1, by omega⟩
      have hnx : ∀ ty, (Instr.next (.pointer (some ⟨w.heap.size, 0, none⟩)) true ty).run Tryd.prog wr = _ := fun ty => Lib.run_next_any_at wr w.heap.size lcr pos ty hit (by omega)
      have hd : (Utf8.decode lcr pos).1 < 128 ∧ (Utf8.decode lcr pos).2 = 1 := by
        match pos, hlt with
        | 0, _ => decide
        | 1, _ => decide
        | 2, _ => decide
      obtain ⟨R, hR⟩ : ∃ R, (Utf8.decode lcr pos).1 = R := ⟨_, rfl⟩
      rw [hd.2, hR] at hnx
      rw [hR] at hd
      have hit2 := Lib.iterAt_heap wr w.heap.size lcr pos (pos + 1) hit
      have hbw2 := Lib.below_iterAt hbw (Nat.le_refl _) lcr (pos + 1)
      generalize wr.iterAt w.heap.size lcr (pos + 1) = W at hnx hit2 hbw2
      have hne : ¬ ((R : Int) = 65533) := by have := hd.1; omega
      go_wp2_with fail
      go_roundg g'
      case measure => omega
      case rel => exact ⟨pos + 1, hit2, hbw2, by omega, by omega⟩
    · have hnx : ∀ ty, (Instr.next (.pointer (some ⟨w.heap.size, 0, none⟩)) true ty).run Tryd.prog wr = _ := fun ty => Lib.run_next_end_at wr w.heap.size lcr pos ty hit (by omega)
      go_wp2_with fail
      go_ret
      exact ⟨rfl, hbw⟩
end Go.Proofs.YtlbjfjaleefiiaaDoor.EvG
end
