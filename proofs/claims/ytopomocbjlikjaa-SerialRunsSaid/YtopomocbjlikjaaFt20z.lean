import Derived.Test.YtopomocbjlikjaaWn20z
import Derived.Test.YtopomocbjlikjaaHjz
import Derived.Test.YtopomocbjlikjaaTkz
import Derived.Deep.RegionHeld3
import Derived.StillTailTactics
namespace Go.Proofs.Ytopomocbjlikjaa
set_option linter.unusedVariables false
set_option linter.unusedSimpArgs false
open Go.BigFrame Go.RowKit Go.WideShapes

/-! Does a trip fit rows (serial)? -/
/-- what the closure tells -/
def seesB (s : Sn) (r : List Rw) : Bool := if s.kind = 5 then decide (s.rows = takeR s.low s.high s.unb s.limit s.rev r) else seesK s r
theorem seesB_5 {s : Sn} (h : s.kind = 5) (r : List Rw) : seesB s r = decide (s.rows = takeR s.low s.high s.unb s.limit s.rev r) := by unfold seesB; rw [if_pos h]
theorem seesB_no {s : Sn} (h : s.kind ≠ 5) {r : List Rw} (hb : hasB s.key r = false) : seesB s r = (!s.there && decide (s.val.size = 0)) := by unfold seesB seesK; rw [if_neg h, hb]; rfl
theorem seesB_yes {s : Sn} (h : s.kind ≠ 5) {r : List Rw} (hb : hasB s.key r = true) : seesB s r = (s.there && decide (s.val = vAt r (place s.key r))) := by unfold seesB seesK; rw [if_neg h, hb]; rfl
theorem size_zero {x : ByteArray} (h : x.size = 0) : x = ⟨#[]⟩ := by
  apply ByteArray.ext
  exact Array.size_eq_zero_iff.1 h
theorem empty_toList {x : ByteArray} (h : x.size = 0) : x.toList.isEmpty = true := by rw [size_zero h]; decide +kernel
theorem nonempty_toList {x : ByteArray} (h : x.size ≠ 0) : x.toList.isEmpty = false := notEmpty fun e => h (by rw [e]; rfl)
set_option maxRecDepth 100000 in
set_option maxHeartbeats 20000000 in
theorem fits1_any (s : Sn) (p : Option Addr) (n c : Nat) (bn : Nat) (o : Option Addr) (q cq : Nat) (r : List Rw) (w : World) (h : RowsAt w p n c s.rows) (hz : SnSz s) (h0 : w.cell? ⟨bn, 0, none⟩ = some (.slice o q cq)) (h2 : RowsAt w o q cq r) (hq : q ≤ 1000) :
    Calls Try.prog 31 #[.agg (snL s p n c).toArray, .pointer (some ⟨bn, 0, none⟩)] w fun e w' => e = .returned (.bool (seesB s r)) ∧ Gr w w' := by
  have B0 : Bx (w.alloc (.cells (snL s p n c).toArray 50)) w.heap.size (snL s p n c) := (Bx.new w _ _ rfl).of (by simp)
  have hg0 := (Gr.refl w).alloc (.cells (snL s p n c).toArray 50)
  have HP := Lib.hid (h.keep hg0)
  have HR := Lib.hid (h2.keep hg0)
  have h0 := hg0.keep h0
  have Hz := Lib.hid hz
  clear h h2 hz
  go_enter Try.func31, Try.ntmps31
  go_upto_region 1 with fail
  generalize w.alloc (.cells (snL s p n c).toArray 50) = W at *
  generalize w.heap.size = b0 at *
  have x0 := B0.cell 0 rfl
  have x1 := B0.cell 1 rfl
  have x2 := B0.cell 2 rfl
  have x3 := B0.cell 3 rfl
  have x4 := B0.cell 4 rfl
  have x5 := B0.cell 5 rfl
  have x6 := B0.cell 6 rfl
  have x7 := B0.cell 7 rfl
  have x8 := B0.cell 8 rfl
  have x9 := B0.cell 9 rfl
  by_cases h5 : s.kind = 5
  · have E := Lib.hid (seesB_5 h5 r)
    rw [h5] at x0
    have hT := Lib.hid fun (w1 : World) (hg : Gr W w1) => take_any o q cq r s.low s.high s.unb s.limit s.rev w1 (HR.out.keep hg) (by omega) Hz.out.low Hz.out.high
    have hS := Lib.hid fun (w1 : World) (o3 : Option Addr) (m3 c3 : Nat) (hg : Gr W w1) (h3 : RowsAt w1 o3 m3 c3 (takeR s.low s.high s.unb s.limit s.rev r)) => (rowsSame_any p o3 n c m3 c3 s.rows _ w1 (HP.out.keep hg) h3).mono (R' := fun e w' => e = .returned (.bool (decide (s.rows = takeR s.low s.high s.unb s.limit s.rev r))) ∧ Gr w1 w') fun e w' hh => ⟨hh.1, hh.2.below _⟩
    clear h5
    generalize takeR s.low s.high s.unb s.limit s.rev r = tk at *
    go_upto_region 2 with fail
    go_region_held3 (fun W' => W'.cell? ⟨b0, 4, none⟩ = some (.string s.low) ∧ W'.cell? ⟨b0, 5, none⟩ = some (.string s.high) ∧ W'.cell? ⟨b0, 6, none⟩ = some (.bool s.unb) ∧ W'.cell? ⟨b0, 7, none⟩ = some (.int .i64 s.limit) ∧ W'.cell? ⟨b0, 8, none⟩ = some (.bool s.rev) ∧ W'.cell? ⟨b0, 9, none⟩ = some (.slice p n c) ∧ W'.cell? ⟨bn, 0, none⟩ = some (.slice o q cq))
      (first | (go_split_ands; (repeat' apply And.intro) <;> first | with_reducible assumption | (with_reducible refine Gr.keep hg3 ?_; with_reducible assumption) | ((repeat (first | with_reducible refine drew1 ?_ | with_reducible refine alloc1 ?_ | with_reducible refine far1 ?_ (by omega))); first | with_reducible assumption | (with_reducible refine Gr.keep hg3 ?_; (repeat (first | with_reducible refine drew1 ?_ | with_reducible refine alloc1 ?_)); with_reducible assumption))) | (go_split_ands; (repeat' apply And.intro) <;> first | with_reducible assumption | (with_reducible refine Gr.keep hg9 ?_; with_reducible assumption) | ((repeat (first | with_reducible refine drew1 ?_ | with_reducible refine alloc1 ?_ | with_reducible refine far1 ?_ (by omega))); first | with_reducible assumption | (with_reducible refine Gr.keep hg9 ?_; (repeat (first | with_reducible refine drew1 ?_ | with_reducible refine alloc1 ?_)); with_reducible assumption)))) (first | (go_at_call 33; (with_reducible refine Calls.mono (hT.out _ ?_) ?_); (focus ((repeat (first | with_reducible exact Gr.refl _ | with_reducible refine Gr.drewN ?_ _ | with_reducible refine Gr.drew ?_ | with_reducible refine Gr.alloc ?_ _ | with_reducible refine Gr.setCell ?_ ?_ _ | (with_reducible refine Gr.trans ?_ (by assumption)) | omega | (dsimp only; omega))); done)); rintro e w3 ⟨o3, m3, c3, rfl, hr3, hg3, -⟩; (have hg8 : Gr W w3 := Gr.trans (by (repeat (first | with_reducible exact Gr.refl _ | with_reducible refine Gr.drewN ?_ _ | with_reducible refine Gr.drew ?_ | with_reducible refine Gr.alloc ?_ _ | with_reducible refine Gr.setCell ?_ ?_ _ | (with_reducible refine Gr.trans ?_ (by assumption)) | omega | (dsimp only; omega)))) hg3); have Hr3 := Lib.hid hr3; clear hr3) | (go_at_call 32; (with_reducible refine Calls.mono (hS.out _ _ _ _ hg8 Hr3.out) ?_); rintro e w5 ⟨rfl, hg5⟩; have hg9 := hg8.trans hg5))
    all_goals
      go_wp2_with fail
      go_ret
      exact ⟨by first | (rw [E.out]; rfl) | rw [E.out], hg0.trans hg9⟩
  · have e5 : (s.kind == 5) = false := by rw [beq_eq_false_iff_ne]; exact h5
    have hF := Lib.hid (find_any o q cq r s.key W HR.out Hz.out.key)
    have H5 := Lib.hid h5
    clear h5 x4 x5 x6 x7 x8 x9
    cases hb : hasB s.key r
    · have E := Lib.hid (seesB_no H5.out hb)
      rw [hb] at hF
      clear hb
      by_cases hv : s.val.size = 0
      · have e1 := empty_toList hv
        have E1 := Lib.hid hv
        have ev := size_zero hv
        cases hth : s.there
        all_goals
          rw [hth] at x3
          go_wp2_with (go_at_call 34; (with_reducible refine hF.out.mono ?_); rintro e w3 ⟨rfl, d3, rfl⟩)
          go_ret
          exact ⟨by rw [E.out, hth]; first | rfl | simp [E1.out], by repeat (first | with_reducible exact Gr.refl _ | with_reducible refine Gr.drewN ?_ _ | with_reducible refine Gr.drew ?_ | with_reducible refine Gr.alloc ?_ _ | with_reducible refine Gr.setCell ?_ ?_ _ | (with_reducible refine Gr.trans ?_ (by assumption)) | omega | (dsimp only; omega))⟩
      · have e1 := nonempty_toList hv
        have E1 := Lib.hid hv
        cases hth : s.there
        all_goals
          rw [hth] at x3
          go_wp2_with (go_at_call 34; (with_reducible refine hF.out.mono ?_); rintro e w3 ⟨rfl, d3, rfl⟩)
          go_ret
          exact ⟨by rw [E.out, hth]; first | rfl | simp [E1.out], by repeat (first | with_reducible exact Gr.refl _ | with_reducible refine Gr.drewN ?_ _ | with_reducible refine Gr.drew ?_ | with_reducible refine Gr.alloc ?_ _ | with_reducible refine Gr.setCell ?_ ?_ _ | (with_reducible refine Gr.trans ?_ (by assumption)) | omega | (dsimp only; omega))⟩
    · have E := Lib.hid (seesB_yes H5.out hb)
      have hpl : place s.key r < q := by
        unfold hasB at hb
        simp only [decide_eq_true_eq] at hb
        rw [← HR.out.len]; exact hb.1
      rw [hb] at hF
      clear hb
      have hRR := HR.out
      obtain ⟨b2, off2, ho2, hc2⟩ := hRR.cells
      have Hc2 := Lib.hid hc2
      have Ho2 := Lib.hid (fun q => (ho2 q).1)
      have H2 := Lib.hid hRR
      have hn2 := hRR.cap_le
      have hm2 := hRR.cap_max
      unfold maxLen at hm2
      clear hc2 ho2 hRR
      have hI := run_row cq Ho2.out hpl
      have y1 := (Hc2.out _ hpl).2
      generalize place s.key r = pl at *
      cases hth : s.there
      · rw [hth] at x3
        go_wp2_with (go_at_call 34; (with_reducible refine hF.out.mono ?_); rintro e w3 ⟨rfl, d3, rfl⟩)
        go_big_quiet (fail)
        go_wp2_with fail
        go_ret
        exact ⟨by rw [E.out, hth]; rfl, by repeat (first | with_reducible exact Gr.refl _ | with_reducible refine Gr.drewN ?_ _ | with_reducible refine Gr.drew ?_ | with_reducible refine Gr.alloc ?_ _ | with_reducible refine Gr.setCell ?_ ?_ _ | (with_reducible refine Gr.trans ?_ (by assumption)) | omega | (dsimp only; omega))⟩
      · rw [hth] at x3
        by_cases hv : s.val = vAt r pl
        · have e1 := eqL hv
          go_wp2_with (go_at_call 34; (with_reducible refine hF.out.mono ?_); rintro e w3 ⟨rfl, d3, rfl⟩)
          go_big_quiet (fail)
          go_wp2_with fail
          go_ret
          exact ⟨by rw [E.out, hth]; simp [hv], by repeat (first | with_reducible exact Gr.refl _ | with_reducible refine Gr.drewN ?_ _ | with_reducible refine Gr.drew ?_ | with_reducible refine Gr.alloc ?_ _ | with_reducible refine Gr.setCell ?_ ?_ _ | (with_reducible refine Gr.trans ?_ (by assumption)) | omega | (dsimp only; omega))⟩
        · have e1 := neL hv
          go_wp2_with (go_at_call 34; (with_reducible refine hF.out.mono ?_); rintro e w3 ⟨rfl, d3, rfl⟩)
          go_big_quiet (fail)
          go_wp2_with fail
          go_ret
          exact ⟨by rw [E.out, hth]; simp [hv], by repeat (first | with_reducible exact Gr.refl _ | with_reducible refine Gr.drewN ?_ _ | with_reducible refine Gr.drew ?_ | with_reducible refine Gr.alloc ?_ _ | with_reducible refine Gr.setCell ?_ ?_ _ | (with_reducible refine Gr.trans ?_ (by assumption)) | omega | (dsimp only; omega))⟩
end Go.Proofs.Ytopomocbjlikjaa
