import Derived.Test.YtfejdbcfcpmdiaaRw
namespace Go.Proofs.Ytfejdbcfcpmdiaa
set_option linter.unusedVariables false
open Go.BigFrame Go.RowKit

abbrev Rw.v (r : Rw) : Value := .agg #[.string r.key, .string r.val]
/-- may a row be? -/
def fitsB (r : Rw) : Bool := rightB r.key && decide (r.val.size ≤ 16)

set_option maxHeartbeats 400000 in
theorem fits_any (k v : ByteArray) (w : World) (h1 : k.size ≤ maxLen) (h2 : v.size ≤ maxLen) :
    Calls Try.prog 54 #[.agg #[.string k, .string v]] w fun e w' => e = .returned (.bool (fitsB ⟨k, v⟩)) ∧ Gr w w' := by
  unfold fitsB
  have h2' := h2
  unfold maxLen at h2'
  cases hr : rightB k
  all_goals
    go_enter Try.func54, Try.ntmps54
    go_wp2_with (go_at_call 42; (with_reducible refine (right_any _ _ (by assumption)).mono ?_); rintro e w' ⟨rfl, d, rfl⟩)
    go_ret
    refine ⟨ret_bool ?_, by repeat (first | with_reducible exact Gr.refl _ | with_reducible refine Gr.drewN ?_ _ | with_reducible refine Gr.drew ?_ | with_reducible refine Gr.alloc ?_ _ | with_reducible refine Gr.setCell ?_ ?_ _ | (with_reducible refine Gr.trans ?_ (by assumption)) | omega | (dsimp only; omega))⟩
    first | rfl | (rw [Bool.eq_iff_iff]; simp; omega)

/-- a new box of a row -/
abbrev boxW (w : World) (k v : ByteArray) : World := w.alloc (.cells #[.string k, .string v] 37)
theorem box_key (w : World) (k v : ByteArray) : (boxW w k v).cell? ⟨w.heap.size, 0, none⟩ = some (.string k) := World.cell?_alloc_new w _ _ 0
theorem box_val (w : World) (k v : ByteArray) : (boxW w k v).cell? ⟨w.heap.size, 1, none⟩ = some (.string v) := World.cell?_alloc_new w _ _ 1
theorem box_old {w : World} (k v : ByteArray) {b o : Nat} {x : Value} (h : w.cell? ⟨b, o, none⟩ = some x) : (boxW w k v).cell? ⟨b, o, none⟩ = some x := ((Gr.refl w).alloc _).keep h

/-- rows that may be: each may be, and each key stands ahead of the next one's -/
def RowsOk (l : List Rw) : Prop := ∀ i, i < l.length → fitsB (rAt l i) = true ∧ (0 < i → Str.cmp (Tx (kAt l (i - 1))) (Tx (kAt l i)) < 0)
instance (l : List Rw) : Decidable (RowsOk l) := by unfold RowsOk; infer_instance
def rowsOkB (l : List Rw) : Bool := decide (RowsOk l)
theorem rowsOkB_no {l : List Rw} {k : Nat} (hk : k < l.length) (h : fitsB (rAt l k) = false ∨ (0 < k ∧ 0 ≤ Str.cmp (Tx (kAt l (k - 1))) (Tx (kAt l k)))) : rowsOkB l = false := by
  unfold rowsOkB
  rw [decide_eq_false_iff_not]
  intro q
  obtain ⟨q1, q2⟩ := q k hk
  rcases h with h | ⟨h0, h⟩
  · rw [h] at q1; cases q1
  · have := q2 h0; omega

theorem rw_eta (l : List Rw) (k : Nat) : (⟨kAt l k, vAt l k⟩ : Rw) = rAt l k := rfl

end Go.Proofs.Ytfejdbcfcpmdiaa
