import Derived.Test.YtfejdbcfcpmdiaaDoorWcz
namespace Go.Proofs.YtfejdbcfcpmdiaaDoor
set_option linter.unusedVariables false
set_option linter.unusedSimpArgs false
open Go.BigFrame Go.RowKit Go.WideShapes

/-- a table of a call's own, with its two maps -/
structure Tab (w : World) (base t cm mk : Nat) (thr lim last low hold : Int) (es : Array MapEntry) (ck : Nat) (ms : Array MapEntry) (mc : Nat) : Prop where
  ht : base ≤ t
  hcm : base ≤ cm
  hmk : base ≤ mk
  lt : t < w.heap.size
  ne1 : cm ≠ t
  ne2 : mk ≠ t
  ne3 : cm ≠ mk
  c0 : w.cell? ⟨t, 0, none⟩ = some (.int .i64 thr)
  c1 : w.cell? ⟨t, 1, none⟩ = some (.int .i64 lim)
  c2 : w.cell? ⟨t, 2, none⟩ = some (.int .i64 last)
  c3 : w.cell? ⟨t, 3, none⟩ = some (.int .i64 low)
  c4 : w.cell? ⟨t, 4, none⟩ = some (.map (some cm))
  c5 : w.cell? ⟨t, 5, none⟩ = some (.map (some mk))
  c6 : w.cell? ⟨t, 6, none⟩ = some (.int .i64 hold)
  m1 : w.heap[cm]? = some (.map es ck)
  m2 : w.heap[mk]? = some (.map ms mc)
  fz : ∀ o, w.frozen? ⟨t, o, none⟩ = false

set_option maxRecDepth 100000 in
set_option maxHeartbeats 2000000 in
theorem new_any (thr lim : Int) (w : World) (h1 : 1 ≤ thr) (h2 : thr ≤ 64) (h3 : 1 ≤ lim) (h4 : lim ≤ 1099511627776) :
    Calls Tryd.prog 8 #[.int .i64 thr, .int .i64 lim] w fun e w' => ∃ t cm mk, e = .returned (.pointer (some ⟨t, 0, none⟩)) ∧ Tab w' w.heap.size t cm mk thr lim 0 0 (-1) #[] 0 #[] 0 ∧ Gr w w' := by
  have hmm := @run_makeMap Tryd.prog
  go_enter Tryd.func8, Tryd.ntmps8
  go_wp2_with fail
  go_ret
  refine ⟨w.heap.size + 1 + 1, w.heap.size, w.heap.size + 1, rfl, ⟨by omega, Nat.le_refl _, by omega, by show w.heap.size + 1 + 1 < (((w.heap.push _).push _).push _).size; simp, by omega, by omega, by omega, ?_, ?_, ?_, ?_, ?_, ?_, ?_, ?_, ?_, ?_⟩, by repeat (first | with_reducible exact Gr.refl _ | with_reducible refine Gr.drewN ?_ _ | with_reducible refine Gr.drew ?_ | with_reducible refine Gr.alloc ?_ _ | with_reducible refine Gr.setCell ?_ ?_ _ | (with_reducible refine Gr.trans ?_ (by assumption)) | omega | (dsimp only; omega))⟩
  · simp [go_sem]
  · simp [go_sem]
  · simp [go_sem]
  · simp [go_sem]
  · simp [go_sem]
  · simp [go_sem]
  · simp [go_sem]
  · show (((w.heap.push _).push _).push _)[w.heap.size]? = _
    rw [Array.getElem?_push, if_neg (by simp; omega), Array.getElem?_push, if_neg (by simp), Array.getElem?_push, if_pos rfl]
  · show (((w.heap.push _).push _).push _)[w.heap.size + 1]? = _
    rw [Array.getElem?_push, if_neg (by simp), Array.getElem?_push, if_pos (by simp)]
  · intro o
    simp [go_sem]
end Go.Proofs.YtfejdbcfcpmdiaaDoor
