import Derived.Test.YtidfelbaegaphaaPtOy
import Derived.Test.YtidfelbaegaphaaPty
namespace Go.Proofs.Ytidfelbaegaphaa
set_option linter.unusedVariables false
set_option linter.unusedSimpArgs false
open Go.BigFrame Go.RowKit Go.WideShapes

set_option maxRecDepth 100000 in
set_option maxHeartbeats 1000000 in
theorem cut_own (oa : Option Addr) (n cap : Nat) (l : List Rw) (key : ByteArray) (w : World) (h : RowsAt w oa n cap l) (hn : n ≤ 1000000) (hk : key.size ≤ maxLen) :
    Calls Try.prog 41 #[.slice oa n cap, .string key] w fun e w' => ∃ o1 m1 c1 o2 m2 c2, e = .returned (.tuple #[.slice o1 m1 c1, .slice o2 m2 c2]) ∧ OwnAt w' w.heap.size o1 m1 c1 (l.take (place key l)) ∧ RowsAt w' o2 m2 c2 (l.drop (place key l)) ∧ Gr w w' := by
  have hP := Lib.hid (place_any oa n cap l key w h hk)
  have hle := place_le key l
  rw [h.len] at hle
  have H := Lib.hid h
  have hc := h.cap_le
  clear h
  generalize place key l = p at *
  have s1 := run_head oa n cap p (by omega)
  have s2 := run_tail oa n cap p hle
  have hh := Lib.hid (fun w1 (hg : Gr w w1) => (H.out.keep hg).head hle)
  have ht := Lib.hid (fun w1 (hg : Gr w w1) => (H.out.keep hg).tail hle)
  go_enter Try.func41, Try.ntmps41
  go_wp2_with (go_at_call 50; refine hP.out.mono ?_; rintro e w' ⟨rfl, d, rfl⟩)
  go_region_with (first
    | (go_at_call 32; (refine Calls.mono (list1 (n := p) (cap := cap) ?_ (hh.out _ ?_) (by omega)) ?_; (focus (simp [go_sem, cell_new_drewN]; done)); (focus ((repeat (first | with_reducible exact Gr.refl _ | with_reducible refine Gr.drewN ?_ _ | with_reducible refine Gr.drew ?_ | with_reducible refine Gr.alloc ?_ _ | with_reducible refine Gr.setCell ?_ ?_ _ | (with_reducible refine Gr.trans ?_ (by assumption)) | omega | (dsimp only; omega))); done))); rintro e w1 ⟨o1, m1, c1, rfl, hr1, hg1, base1, hbase1, ho1⟩)
    | (go_at_call 32; (refine Calls.mono (list1 (n := n - p) (cap := cap - p) ?_ (ht.out _ ?_) (by omega)) ?_; (focus (first | (simp [go_sem, cell_new_drewN]; done) | exact hg1.keep (by simp [go_sem, cell_new_drewN]; done))); (focus ((repeat (first | with_reducible exact Gr.refl _ | with_reducible refine Gr.drewN ?_ _ | with_reducible refine Gr.drew ?_ | with_reducible refine Gr.alloc ?_ _ | with_reducible refine Gr.setCell ?_ ?_ _ | (with_reducible refine Gr.trans ?_ (by assumption)) | omega | (dsimp only; omega))); done))); rintro e w2 ⟨o2, m2, c2, rfl, hr2, hg2, -⟩))
  all_goals
    go_wp2_with fail
    go_ret2
    exact ⟨_, _, _, _, _, _, rfl, (ho1.lower2 (Nat.le_trans (Gr.le (by repeat (first | with_reducible exact Gr.refl _ | with_reducible refine Gr.drewN ?_ _ | with_reducible refine Gr.drew ?_ | with_reducible refine Gr.alloc ?_ _ | with_reducible refine Gr.setCell ?_ ?_ _ | (with_reducible refine Gr.trans ?_ (by assumption)) | omega | (dsimp only; omega)))) hbase1)).keep (by repeat (first | with_reducible exact Gr.refl _ | with_reducible refine Gr.drewN ?_ _ | with_reducible refine Gr.drew ?_ | with_reducible refine Gr.alloc ?_ _ | with_reducible refine Gr.setCell ?_ ?_ _ | (with_reducible refine Gr.trans ?_ (by assumption)) | omega | (dsimp only; omega))), hr2, by repeat (first | with_reducible exact Gr.refl _ | with_reducible refine Gr.drewN ?_ _ | with_reducible refine Gr.drew ?_ | with_reducible refine Gr.alloc ?_ _ | with_reducible refine Gr.setCell ?_ ?_ _ | (with_reducible refine Gr.trans ?_ (by assumption)) | omega | (dsimp only; omega))⟩
set_option maxRecDepth 100000 in
set_option maxHeartbeats 1000000 in
theorem joinO_e1 (oa ob : Option Addr) (n cap m cap2 : Nat) (l k : List Rw) (w : World) (h : RowsAt w oa n cap l) (h2 : RowsAt w ob m cap2 k) (hn : n ≤ 1000000) (hm : m ≤ 1000000) (h0 : n = 0) :
    Calls Try.prog 42 #[.slice oa n cap, .slice ob m cap2] w fun e w' => ∃ o1 m1 c1, e = .returned (.tuple #[.slice o1 m1 c1, .nilIface]) ∧ OwnAt w' w.heap.size o1 m1 c1 (l ++ k) ∧ Gr w w' := by
  have hl := Lib.hid (fun w1 (hg : Gr w w1) => h.keep hg)
  have hk := Lib.hid (fun w1 (hg : Gr w w1) => h2.keep hg)
  have c1 := h.cap_le
  have c2 := h2.cap_le
  clear h h2
  subst h0
  go_enter Try.func42, Try.ntmps42
  go_wp2_with fail
  go_big_quiet (fail)
  go_wp2_with (go_at_call 32; (refine Calls.mono (list2 (n := 0) (cap := cap) (m := m) (cap2 := cap2) ?_ ?_ (hl.out _ ?_) (by omega) (hk.out _ ?_) (by omega)) ?_; (focus (first | (simp [go_sem, cell_new_drewN]; done) | (refine Gr.keep (by assumption) ?_; simp [go_sem, cell_new_drewN]; done))); (focus (first | (simp [go_sem, cell_new_drewN]; done) | (refine Gr.keep (by assumption) ?_; simp [go_sem, cell_new_drewN]; done))); (focus ((repeat (first | with_reducible exact Gr.refl _ | with_reducible refine Gr.drewN ?_ _ | with_reducible refine Gr.drew ?_ | with_reducible refine Gr.alloc ?_ _ | with_reducible refine Gr.setCell ?_ ?_ _ | (with_reducible refine Gr.trans ?_ (by assumption)) | omega | (dsimp only; omega))); done)); (focus ((repeat (first | with_reducible exact Gr.refl _ | with_reducible refine Gr.drewN ?_ _ | with_reducible refine Gr.drew ?_ | with_reducible refine Gr.alloc ?_ _ | with_reducible refine Gr.setCell ?_ ?_ _ | (with_reducible refine Gr.trans ?_ (by assumption)) | omega | (dsimp only; omega))); done))); rintro e w1 ⟨o1, m1, c1, rfl, hr1, hg1, base1, hbase1, ho1⟩)
  go_ret2
  exact ⟨_, _, _, rfl, ho1.lower2 (Nat.le_trans (Gr.le (by repeat (first | with_reducible exact Gr.refl _ | with_reducible refine Gr.drewN ?_ _ | with_reducible refine Gr.drew ?_ | with_reducible refine Gr.alloc ?_ _ | with_reducible refine Gr.setCell ?_ ?_ _ | (with_reducible refine Gr.trans ?_ (by assumption)) | omega | (dsimp only; omega)))) hbase1), by repeat (first | with_reducible exact Gr.refl _ | with_reducible refine Gr.drewN ?_ _ | with_reducible refine Gr.drew ?_ | with_reducible refine Gr.alloc ?_ _ | with_reducible refine Gr.setCell ?_ ?_ _ | (with_reducible refine Gr.trans ?_ (by assumption)) | omega | (dsimp only; omega))⟩

set_option maxRecDepth 100000 in
set_option maxHeartbeats 1000000 in
theorem joinO_e2 (oa ob : Option Addr) (n cap m cap2 : Nat) (l k : List Rw) (w : World) (h : RowsAt w oa n cap l) (h2 : RowsAt w ob m cap2 k) (hn : n ≤ 1000000) (hm : m ≤ 1000000) (hp : 0 < n) (h0 : m = 0) :
    Calls Try.prog 42 #[.slice oa n cap, .slice ob m cap2] w fun e w' => ∃ o1 m1 c1, e = .returned (.tuple #[.slice o1 m1 c1, .nilIface]) ∧ OwnAt w' w.heap.size o1 m1 c1 (l ++ k) ∧ Gr w w' := by
  have hl := Lib.hid (fun w1 (hg : Gr w w1) => h.keep hg)
  have hk := Lib.hid (fun w1 (hg : Gr w w1) => h2.keep hg)
  have c1 := h.cap_le
  have c2 := h2.cap_le
  clear h h2
  subst h0
  have d1 : decide (0 < n) = true := by simp; omega
  go_enter Try.func42, Try.ntmps42
  go_wp2_with fail
  go_big_quiet (fail)
  go_wp2_with (go_at_call 32; (refine Calls.mono (list2 (n := n) (cap := cap) (m := 0) (cap2 := cap2) ?_ ?_ (hl.out _ ?_) (by omega) (hk.out _ ?_) (by omega)) ?_; (focus (first | (simp [go_sem, cell_new_drewN]; done) | (refine Gr.keep (by assumption) ?_; simp [go_sem, cell_new_drewN]; done))); (focus (first | (simp [go_sem, cell_new_drewN]; done) | (refine Gr.keep (by assumption) ?_; simp [go_sem, cell_new_drewN]; done))); (focus ((repeat (first | with_reducible exact Gr.refl _ | with_reducible refine Gr.drewN ?_ _ | with_reducible refine Gr.drew ?_ | with_reducible refine Gr.alloc ?_ _ | with_reducible refine Gr.setCell ?_ ?_ _ | (with_reducible refine Gr.trans ?_ (by assumption)) | omega | (dsimp only; omega))); done)); (focus ((repeat (first | with_reducible exact Gr.refl _ | with_reducible refine Gr.drewN ?_ _ | with_reducible refine Gr.drew ?_ | with_reducible refine Gr.alloc ?_ _ | with_reducible refine Gr.setCell ?_ ?_ _ | (with_reducible refine Gr.trans ?_ (by assumption)) | omega | (dsimp only; omega))); done))); rintro e w1 ⟨o1, m1, c1, rfl, hr1, hg1, base1, hbase1, ho1⟩)
  go_ret2
  exact ⟨_, _, _, rfl, ho1.lower2 (Nat.le_trans (Gr.le (by repeat (first | with_reducible exact Gr.refl _ | with_reducible refine Gr.drewN ?_ _ | with_reducible refine Gr.drew ?_ | with_reducible refine Gr.alloc ?_ _ | with_reducible refine Gr.setCell ?_ ?_ _ | (with_reducible refine Gr.trans ?_ (by assumption)) | omega | (dsimp only; omega)))) hbase1), by repeat (first | with_reducible exact Gr.refl _ | with_reducible refine Gr.drewN ?_ _ | with_reducible refine Gr.drew ?_ | with_reducible refine Gr.alloc ?_ _ | with_reducible refine Gr.setCell ?_ ?_ _ | (with_reducible refine Gr.trans ?_ (by assumption)) | omega | (dsimp only; omega))⟩

set_option maxRecDepth 100000 in
set_option maxHeartbeats 1000000 in
theorem joinO_yes (oa ob : Option Addr) (n cap m cap2 : Nat) (l k : List Rw) (w : World) (h : RowsAt w oa n cap l) (h2 : RowsAt w ob m cap2 k) (hn : n ≤ 1000000) (hm : m ≤ 1000000) (hp : 0 < n) (hp2 : 0 < m)
    (hc : Str.cmp (Tx (kAt l (n - 1))) (Tx (kAt k 0)) < 0) :
    Calls Try.prog 42 #[.slice oa n cap, .slice ob m cap2] w fun e w' => ∃ o1 m1 c1, e = .returned (.tuple #[.slice o1 m1 c1, .nilIface]) ∧ OwnAt w' w.heap.size o1 m1 c1 (l ++ k) ∧ Gr w w' := by
  have hl := Lib.hid (fun w1 (hg : Gr w w1) => h.keep hg)
  have hk := Lib.hid (fun w1 (hg : Gr w w1) => h2.keep hg)
  obtain ⟨b1, off1, ho1, hc1⟩ := h.cells
  have Hc1 := Lib.hid hc1
  have Ho1 := Lib.hid (fun q => (ho1 q).1)
  have H1 := Lib.hid h
  have hn1 := h.cap_le
  have hm1 := h.cap_max
  unfold maxLen at hm1
  clear hc1 ho1 h
  obtain ⟨b2, off2, ho2, hc2⟩ := h2.cells
  have Hc2 := Lib.hid hc2
  have Ho2 := Lib.hid (fun q => (ho2 q).1)
  have H2 := Lib.hid h2
  have hn2 := h2.cap_le
  have hm2 := h2.cap_max
  unfold maxLen at hm2
  clear hc2 ho2 h2
  have d1 : decide (0 < n) = true := by simp; omega
  have d2 : decide (0 < m) = true := by simp; omega
  have d3 : decide (0 ≤ Str.cmp (Tx (kAt l (n - 1))) (Tx (kAt k 0))) = false := by simp; omega
  have a1 := (Hc1.out (n - 1) (by omega)).1
  have a2 := (Hc2.out 0 hp2).1
  have s1 := (H1.out.sizes (n - 1) (by omega)).1
  have s2 := (H2.out.sizes 0 hp2).1
  have hI1 := fun w => run_rowI cap Ho1.out (k := (n : Int) - 1) (by omega) (by omega) w
  have e1 : ((n : Int) - 1).toNat = n - 1 := by omega
  rw [e1] at hI1
  have hI2 := run_row0 cap2 Ho2.out hp2
  rw [Nat.zero_mul, Nat.add_zero] at a2
  go_enter Try.func42, Try.ntmps42
  go_wp2_with fail
  go_big_quiet ((go_at_call 40; (first | (with_reducible exact quiet_dr1 (compare_any _ _ _ (by assumption) (by assumption))) | (with_reducible exact quiet_dr0 (compare_any _ _ _ (by assumption) (by assumption))))))
  clear a1 a2 hI1 hI2
  go_wp2_with (go_at_call 32; (refine Calls.mono (list2 (n := n) (cap := cap) (m := m) (cap2 := cap2) ?_ ?_ (hl.out _ ?_) (by omega) (hk.out _ ?_) (by omega)) ?_; (focus (first | (simp [go_sem, cell_new_drewN]; done) | (refine Gr.keep (by assumption) ?_; simp [go_sem, cell_new_drewN]; done))); (focus (first | (simp [go_sem, cell_new_drewN]; done) | (refine Gr.keep (by assumption) ?_; simp [go_sem, cell_new_drewN]; done))); (focus ((repeat (first | with_reducible exact Gr.refl _ | with_reducible refine Gr.drewN ?_ _ | with_reducible refine Gr.drew ?_ | with_reducible refine Gr.alloc ?_ _ | with_reducible refine Gr.setCell ?_ ?_ _ | (with_reducible refine Gr.trans ?_ (by assumption)) | omega | (dsimp only; omega))); done)); (focus ((repeat (first | with_reducible exact Gr.refl _ | with_reducible refine Gr.drewN ?_ _ | with_reducible refine Gr.drew ?_ | with_reducible refine Gr.alloc ?_ _ | with_reducible refine Gr.setCell ?_ ?_ _ | (with_reducible refine Gr.trans ?_ (by assumption)) | omega | (dsimp only; omega))); done))); rintro e w1 ⟨o1, m1, c1, rfl, hr1, hg1, base1, hbase1, ho1⟩)
  go_ret2
  exact ⟨_, _, _, rfl, ho1.lower2 (Nat.le_trans (Gr.le (by repeat (first | with_reducible exact Gr.refl _ | with_reducible refine Gr.drewN ?_ _ | with_reducible refine Gr.drew ?_ | with_reducible refine Gr.alloc ?_ _ | with_reducible refine Gr.setCell ?_ ?_ _ | (with_reducible refine Gr.trans ?_ (by assumption)) | omega | (dsimp only; omega)))) hbase1), by repeat (first | with_reducible exact Gr.refl _ | with_reducible refine Gr.drewN ?_ _ | with_reducible refine Gr.drew ?_ | with_reducible refine Gr.alloc ?_ _ | with_reducible refine Gr.setCell ?_ ?_ _ | (with_reducible refine Gr.trans ?_ (by assumption)) | omega | (dsimp only; omega))⟩

theorem join_own (oa ob : Option Addr) (n cap m cap2 : Nat) (l k : List Rw) (w : World) (h : RowsAt w oa n cap l) (h2 : RowsAt w ob m cap2 k) (hn : n ≤ 1000000) (hm : m ≤ 1000000) (hj : joinable l k) :
    Calls Try.prog 42 #[.slice oa n cap, .slice ob m cap2] w fun e w' => ∃ o1 m1 c1, e = .returned (.tuple #[.slice o1 m1 c1, .nilIface]) ∧ OwnAt w' w.heap.size o1 m1 c1 (l ++ k) ∧ Gr w w' := by
  rcases Nat.eq_zero_or_pos n with h0 | h0
  · exact joinO_e1 oa ob n cap m cap2 l k w h h2 hn hm h0
  · rcases Nat.eq_zero_or_pos m with h1 | h1
    · exact joinO_e2 oa ob n cap m cap2 l k w h h2 hn hm h0 h1
    · have := hj (by rw [h.len]; exact h0) (by rw [h2.len]; exact h1)
      rw [h.len] at this
      exact joinO_yes oa ob n cap m cap2 l k w h h2 hn hm h0 h1 this
end Go.Proofs.Ytidfelbaegaphaa
