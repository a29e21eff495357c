import Derived.Test.YtkngjnkecmjakaaDoorOr
import Derived.Test.YtkngjnkecmjakaaDoorIg
namespace Go.Proofs.YtkngjnkecmjakaaDoor
set_option linter.unusedVariables false
set_option linter.unusedSimpArgs false
open Go.BigFrame Go.RowKit Go.WideShapes

theorem rows_none (w : World) : RowsAt w none 0 0 [] := ⟨rfl, by omega, by unfold maxLen; omega, fun _ => rfl, ⟨0, 0, fun q => by omega, fun i hi => by omega⟩, fun i hi => by omega⟩

set_option maxRecDepth 100000 in
theorem two_at (w : World) (b : Nat) (hb : w.heap[b]? = some (.cells #[.int .i64 0, .int .i64 2, .string ⟨#[97]⟩, .string ⟨#[49]⟩, .string ⟨#[]⟩, .int .i64 7, .int .i64 0, .int .i64 9,
    .int .i64 0, .int .i64 2, .string ⟨#[97]⟩, .string ⟨#[49]⟩, .string ⟨#[]⟩, .int .i64 0, .int .i64 0, .int .i64 9] 38 (0, 0))) : EvsAt w (some ⟨b, 0, none⟩) 2 2 twoIns := by
  refine ⟨rfl, by omega, by unfold maxLen; omega, by simp, ⟨b, 0, fun _ => ⟨rfl, ?_⟩, fun i hi => ?_⟩, fun i hi => ?_⟩
  · rcases Nat.lt_or_ge b w.heap.size with r | r
    · exact r
    · rw [Array.getElem?_eq_none r] at hb; cases hb
  · simp only [blk_cell hb]
    match i, hi with
    | 0, _ => exact ⟨rfl, rfl, rfl, rfl, rfl, rfl, rfl, rfl⟩
    | 1, _ => exact ⟨rfl, rfl, rfl, rfl, rfl, rfl, rfl, rfl⟩
  · match i, hi with
    | 0, _ => decide
    | 1, _ => decide

theorem twoIns_ok : ∀ i, i < 2 → evOk (evAt twoIns i) = true := by decide

theorem order_two (W : World) {b : Nat} (h : EvsAt W (some ⟨b, 0, none⟩) 2 2 twoIns) :
    Calls Tryd.prog 8 #[.slice (some ⟨b, 0, none⟩) 2 2, .slice none 0 0] W fun e w' => ∃ g off ci o1 c1, e = .returned (.tuple #[.slice (some ⟨g, off, none⟩) 2 ci, .slice o1 1 c1, .nilIface]) ∧ w'.cell? ⟨g, off, none⟩ = some (.int .i64 1) ∧ w'.cell? ⟨g, off + 1, none⟩ = some (.int .i64 0) ∧ Gr W w' := by
  refine (order_ok (some ⟨b, 0, none⟩) 2 2 twoIns none 0 0 [] W h (rows_none W) (by omega) (by omega) twoIns_ok (by decide)).mono ?_
  intro e w1 hP
  rw [show findF twoIns 2 (List.replicate 2 false) [] [] = some ([1, 0], [⟨⟨#[97]⟩, ⟨#[49]⟩⟩]) from twoIns_found] at hP
  obtain ⟨⟨ov, o1, q1, c1, rfl, hown, hO1⟩, hg1⟩ := hP
  obtain ⟨oi, ci, rfl, hI⟩ := ints_of_own hown
  have hq : 1 = q1 := hO1.2.len
  subst hq
  obtain ⟨g, off, h5, h6⟩ := hI.cells
  obtain ⟨rfl, -⟩ := h5 (by decide)
  exact ⟨g, off, ci, o1, c1, rfl, h6 0 (by decide), h6 1 (by decide), hg1⟩

set_option maxRecDepth 100000 in
set_option maxHeartbeats 4000000 in
theorem awake19_any (w : World) : Calls Tryd.prog 7 #[] w fun e w' => e = .returned (.bool true) ∧ Gr w w' := by
  have hO := Lib.hid (fun W h => order_two (b := w.heap.size + 1) W h)
  go_enter Tryd.func7, Tryd.ntmps7
  go_wp2_with fail
  refine (hO.out _ (two_at _ _ (heap_alloc2_new w _ _))).mono ?_
  rintro e w1 ⟨g, off, ci, o1, c1, rfl, x0, x1, hg1⟩
  have hg := ((Gr.refl w).alloc _).alloc _ |>.trans hg1
  clear hO hg1
  go_wp2_with fail
  go_ret
  exact ⟨rfl, hg⟩
end Go.Proofs.YtkngjnkecmjakaaDoor
