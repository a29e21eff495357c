import Derived.Test.YtlgeaponicgdoaaJn
namespace Go.Proofs.Ytlgeaponicgdoaa
set_option linter.unusedVariables false
set_option linter.unusedSimpArgs false
open Go.BigFrame Go.RowKit Go.WideShapes

def abc : List Rw := [⟨⟨#[97]⟩, ⟨#[]⟩⟩, ⟨⟨#[98]⟩, ⟨#[]⟩⟩, ⟨⟨#[99]⟩, ⟨#[]⟩⟩]
theorem abc_cells (w : World) : RowsAt (w.alloc (.cells #[.string ⟨#[97]⟩, .string ⟨#[]⟩, .string ⟨#[98]⟩, .string ⟨#[]⟩, .string ⟨#[99]⟩, .string ⟨#[]⟩] 36)) (some ⟨w.heap.size, 0, none⟩) 3 3 abc := by
  refine ⟨rfl, Nat.le_refl _, by unfold maxLen; omega, fun q => (by cases q), ⟨w.heap.size, 0, fun _ => ⟨rfl, by show w.heap.size < (w.heap.push _).size; rw [Array.size_push]; omega⟩, fun i hi => ?_⟩, fun i hi => ?_⟩
  · obtain rfl | rfl | rfl : i = 0 ∨ i = 1 ∨ i = 2 := by omega
    all_goals exact ⟨World.cell?_alloc_new w _ _ _, World.cell?_alloc_new w _ _ _⟩
  · obtain rfl | rfl | rfl : i = 0 ∨ i = 1 ∨ i = 2 := by omega
    all_goals exact ⟨by decide, by decide⟩

theorem abc_ok : rowsOkB abc = true := by decide
theorem abc_cmp : Str.cmp (Tx (kAt abc (1 - 1))) (Tx (kAt abc 1)) < 0 := by decide
theorem abc_btw : btw (kAt abc (1 - 1)) (kAt abc 1) = ⟨#[98]⟩ := by decide

set_option maxRecDepth 100000 in
set_option maxHeartbeats 1000000 in
theorem awake_any (w : World) : Calls Try.prog 13 #[] w fun e w' => e = .returned (.bool true) ∧ Gr w w' := by
  have hA := Lib.hid (fun w1 (hg : Gr (w.alloc (.cells #[.string ⟨#[97]⟩, .string ⟨#[]⟩, .string ⟨#[98]⟩, .string ⟨#[]⟩, .string ⟨#[99]⟩, .string ⟨#[]⟩] 36)) w1) => (abc_cells w).keep hg)
  go_enter Try.func13, Try.ntmps13
  go_wp2_with fail
  have hH := halve_yes (some ⟨w.heap.size, 0, none⟩) 3 3 1 abc _ (abc_cells w) (by decide) (by decide) (by decide) abc_cmp
  rw [abc_btw] at hH
  refine hH.mono ?_
  rintro e w1 ⟨o1, m1, c1, o2, m2, c2, rfl, hr1, hr2, hg1⟩
  obtain rfl : m1 = 1 := hr1.len.symm
  obtain rfl : m2 = 2 := hr2.len.symm
  have hR := rowsRight_any (some ⟨w.heap.size, 0, none⟩) 3 3 abc w1 ((abc_cells w).keep hg1)
  rw [abc_ok] at hR
  clear hr1 hr2
  go_wp2_with fail
  refine hR.mono ?_
  rintro e w2 ⟨rfl, hg2⟩
  go_wp2_with fail
  go_ret
  exact ⟨rfl, by repeat (first | with_reducible exact Gr.refl _ | with_reducible refine Gr.drewN ?_ _ | with_reducible refine Gr.drew ?_ | with_reducible refine Gr.alloc ?_ _ | with_reducible refine Gr.setCell ?_ ?_ _ | (with_reducible refine Gr.trans ?_ (by assumption)) | omega | (dsimp only; omega))⟩
end Go.Proofs.Ytlgeaponicgdoaa
