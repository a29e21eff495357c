import Derived.Test.YtkngjnkecmjakaaDoorFe
namespace Go.Proofs.YtkngjnkecmjakaaDoor
set_option linter.unusedVariables false
set_option linter.unusedSimpArgs false
open Go.BigFrame Go.RowKit Go.WideShapes

theorem run_row0 {oa : Option Addr} {n b off : Nat} (cap : Nat) (ho : 0 < n → oa = some ⟨b, off, none⟩) (hk : 0 < n) (w : World) :
    (Instr.indexAt 23 (.slice oa n cap) (.int .i64 0)).run Tryd.prog w = .ok (.pointer (some ⟨b, off, none⟩)) w := by
  have h := run_row cap ho hk w
  rw [Nat.zero_mul, Nat.add_zero] at h
  exact h
end Go.Proofs.YtkngjnkecmjakaaDoor
