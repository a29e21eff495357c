import Derived.Test.YtfejdbcfcpmdiaaDoorStrz
namespace Go.Proofs.YtfejdbcfcpmdiaaDoor
set_option linter.unusedVariables false
open Go.BigFrame Go.RowKit Go.WideShapes

/-! A row's text, for seats without rows. -/
structure Rw where
  key : ByteArray
  val : ByteArray
def fitsB (r : Rw) : Bool := rightB r.key && decide (r.val.size ≤ 16)
set_option maxHeartbeats 400000 in
theorem refFits_any (k v : ByteArray) (w : World) (h1 : k.size ≤ maxLen) (h2 : v.size ≤ maxLen) :
    Calls Tryd.prog 45 #[.agg #[.string k, .string v]] w fun e w' => e = .returned (.bool (fitsB ⟨k, v⟩)) ∧ Gr w w' := by
  unfold fitsB
  have h2' := h2
  unfold maxLen at h2'
  cases hr : rightB k
  all_goals
    go_enter Tryd.func45, Tryd.ntmps45
    go_wp2_with (go_at_call 52; (with_reducible refine (refRight_any _ _ (by assumption)).mono ?_); rintro e w' ⟨rfl, d, rfl⟩)
    go_ret
    refine ⟨ret_bool ?_, by repeat (first | with_reducible exact Gr.refl _ | with_reducible refine Gr.drewN ?_ _ | with_reducible refine Gr.drew ?_ | with_reducible refine Gr.alloc ?_ _ | with_reducible refine Gr.setCell ?_ ?_ _ | (with_reducible refine Gr.trans ?_ (by assumption)) | omega | (dsimp only; omega))⟩
    first | rfl | (rw [Bool.eq_iff_iff]; simp; omega)
end Go.Proofs.YtfejdbcfcpmdiaaDoor
