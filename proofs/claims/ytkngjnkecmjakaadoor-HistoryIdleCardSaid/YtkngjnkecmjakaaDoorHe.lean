import Derived.Test.YtkngjnkecmjakaaDoorHy
namespace Go.Proofs.YtkngjnkecmjakaaDoor
set_option linter.unusedVariables false
set_option linter.unusedSimpArgs false
open Go.BigFrame Go.RowKit Go.WideShapes

/-- the slice '.slice oa n cap' holds these events -/
structure EvsAt (w : World) (oa : Option Addr) (n cap : Nat) (l : List Ev) : Prop where
  len : l.length = n
  cap_le : n ≤ cap
  cap_max : cap ≤ maxLen
  none : oa = none → cap = 0
  cells : ∃ b off, (0 < n → oa = some ⟨b, off, Option.none⟩ ∧ b < w.heap.size) ∧ ∀ i, i < n →
    w.cell? ⟨b, off + i * 8, Option.none⟩ = some (.int .i64 (evAt l i).thread) ∧ w.cell? ⟨b, off + i * 8 + 1, Option.none⟩ = some (.int .i64 (evAt l i).kind) ∧
    w.cell? ⟨b, off + i * 8 + 2, Option.none⟩ = some (.string (evAt l i).key) ∧ w.cell? ⟨b, off + i * 8 + 3, Option.none⟩ = some (.string (evAt l i).cval) ∧
    w.cell? ⟨b, off + i * 8 + 4, Option.none⟩ = some (.string (evAt l i).val) ∧ w.cell? ⟨b, off + i * 8 + 5, Option.none⟩ = some (.int .i64 (evAt l i).code) ∧
    w.cell? ⟨b, off + i * 8 + 6, Option.none⟩ = some (.int .i64 (evAt l i).beg) ∧ w.cell? ⟨b, off + i * 8 + 7, Option.none⟩ = some (.int .i64 (evAt l i).fin)
  sizes : ∀ i, i < n → (evAt l i).key.size ≤ maxLen ∧ (evAt l i).cval.size ≤ maxLen ∧ (evAt l i).val.size ≤ maxLen
theorem EvsAt.keep {w w' : World} {oa : Option Addr} {n cap : Nat} {l : List Ev} (h : EvsAt w oa n cap l) (hg : Gr w w') : EvsAt w' oa n cap l := by
  obtain ⟨h1, h2, h3, h4, ⟨b, off, h5, h6⟩, h7⟩ := h
  exact ⟨h1, h2, h3, h4, ⟨b, off, fun q => ⟨(h5 q).1, Nat.lt_of_lt_of_le (h5 q).2 hg.le⟩, fun i hi => by
    obtain ⟨a0, a1, a2, a3, a4, a5, a6, a7⟩ := h6 i hi
    exact ⟨hg.keep a0, hg.keep a1, hg.keep a2, hg.keep a3, hg.keep a4, hg.keep a5, hg.keep a6, hg.keep a7⟩⟩, h7⟩
theorem cells_ev : Tryd.prog.cellsOf 38 = 8 := by kernel_rfl
theorem run_ev {oa : Option Addr} {n b off : Nat} (cap : Nat) (ho : 0 < n → oa = some ⟨b, off, none⟩) {k : Nat} (hk : k < n) (w : World) :
    (Instr.indexAt 22 (.slice oa n cap) (.int .i64 (k : Int))).run Tryd.prog w = .ok (.pointer (some ⟨b, off + k * 8, none⟩)) w := by
  rw [ho (by omega)]
  go_simp

set_option maxRecDepth 100000 in
theorem ahead_any (a b : Ev) (w : World) : Calls Tryd.prog 47 #[a.v, b.v] w fun e w' => e = .returned (.bool (aheadB a b)) ∧ Gr w w' := by
  unfold aheadB
  go_enter Tryd.func47, Tryd.ntmps47
  go_wp2_with fail
  all_goals
    go_ret
    refine ⟨ret_bool ?_, by repeat (first | with_reducible exact Gr.refl _ | with_reducible refine Gr.drewN ?_ _ | with_reducible refine Gr.drew ?_ | with_reducible refine Gr.alloc ?_ _ | with_reducible refine Gr.setCell ?_ ?_ _ | (with_reducible refine Gr.trans ?_ (by assumption)) | omega | (dsimp only; omega))⟩
    first | rfl | (simp; omega) | (simp; done) | (rw [Bool.eq_iff_iff]; simp; omega)

set_option maxRecDepth 100000 in
theorem refAhead_any (a b : Ev) (w : World) : Calls Tryd.prog 36 #[a.v, b.v] w fun e w' => e = .returned (.bool (aheadB a b)) ∧ Gr w w' := by
  unfold aheadB
  go_enter Tryd.func36, Tryd.ntmps36
  go_wp2_with fail
  all_goals
    go_ret
    refine ⟨ret_bool ?_, by repeat (first | with_reducible exact Gr.refl _ | with_reducible refine Gr.drewN ?_ _ | with_reducible refine Gr.drew ?_ | with_reducible refine Gr.alloc ?_ _ | with_reducible refine Gr.setCell ?_ ?_ _ | (with_reducible refine Gr.trans ?_ (by assumption)) | omega | (dsimp only; omega))⟩
    first | rfl | (simp; omega) | (simp; done) | (rw [Bool.eq_iff_iff]; simp; omega)

set_option maxRecDepth 100000 in
theorem idle_any (e0 : Ev) (w : World) : Calls Tryd.prog 32 #[e0.v] w fun e w' => e = .returned (.bool (decide (0 ≤ e0.fin) && (decide (e0.code = 3) || decide (e0.code = 5)))) ∧ Gr w w' := by
  go_enter Tryd.func32, Tryd.ntmps32
  go_wp2_with fail
  all_goals
    go_ret
    refine ⟨ret_bool ?_, by repeat (first | with_reducible exact Gr.refl _ | with_reducible refine Gr.drewN ?_ _ | with_reducible refine Gr.drew ?_ | with_reducible refine Gr.alloc ?_ _ | with_reducible refine Gr.setCell ?_ ?_ _ | (with_reducible refine Gr.trans ?_ (by assumption)) | omega | (dsimp only; omega))⟩
    first | rfl | (simp; omega) | (simp; done) | (rw [Bool.eq_iff_iff]; simp; omega)

set_option maxRecDepth 100000 in
set_option maxHeartbeats 1000000 in
theorem evRight_any (a : Ev) (w : World) (hk : a.key.size ≤ maxLen) (hv : a.cval.size ≤ maxLen) : Calls Tryd.prog 16 #[a.v] w fun e w' => e = .returned (.bool (evOk a)) ∧ Gr w w' := by
  have hM := fun w => may_any a.kind a.key a.cval w hk hv
  have b6 := (show (w.alloc (.cells #[.int .i64 a.thread, .int .i64 a.kind, .string a.key, .string a.cval, .string a.val, .int .i64 a.code, .int .i64 a.beg, .int .i64 a.fin] 38)).cell? ⟨w.heap.size, 6, none⟩ = some (.int .i64 a.beg) from World.cell?_alloc_new w _ _ 6)
  have b7 := (show (w.alloc (.cells #[.int .i64 a.thread, .int .i64 a.kind, .string a.key, .string a.cval, .string a.val, .int .i64 a.code, .int .i64 a.beg, .int .i64 a.fin] 38)).cell? ⟨w.heap.size, 7, none⟩ = some (.int .i64 a.fin) from World.cell?_alloc_new w _ _ 7)
  unfold evOk
  cases hm : mayB a.kind a.key a.cval
  all_goals
    rw [hm] at hM
    have HM := Lib.hid hM
    clear hM hm
    go_enter Tryd.func16, Tryd.ntmps16
    go_wp2_with fail
    refine (HM.out _).mono ?_
    rintro e w1 ⟨rfl, hg1⟩
    have b6 := hg1.keep b6
    have b7 := hg1.keep b7
    have hgw : Gr w w1 := ((Gr.refl w).alloc _).trans hg1
    clear hg1
    go_wp2_with fail
    all_goals
      go_ret
      refine ⟨ret_bool ?_, hgw⟩
      first | rfl | (simp; omega) | (simp; done) | (rw [Bool.eq_iff_iff]; simp; omega)
end Go.Proofs.YtkngjnkecmjakaaDoor
