import Derived.Test.YtidfelbaegaphaaCpy
namespace Go.Proofs.Ytidfelbaegaphaa
set_option linter.unusedVariables false
set_option linter.unusedSimpArgs false
open Go.BigFrame Go.RowKit Go.WideShapes

theorem results_tmp4 {fn : Func} {t u s r : Tmp} (h : fn.results = #[.tmp t, .tmp u, .tmp s, .tmp r]) (tmps : Array Value) (P : Program) (w : World) :
    (results fn tmps).run P w = .ok (.tuple #[tmps.getD t undef, tmps.getD u undef, tmps.getD s undef, tmps.getD r undef]) w := by simp [results, h]

set_option maxRecDepth 100000 in
set_option maxHeartbeats 1000000 in
theorem halve_few (oa : Option Addr) (n cap : Nat) (l : List Rw) (w : World) (h : RowsAt w oa n cap l) (hn : n < 2) :
    Calls Try.prog 29 #[.slice oa n cap] w fun e w' => e = .returned (.tuple #[.string ByteArray.empty, .slice none 0 0, .slice none 0 0, errV 2]) ∧ Gr w w' := by
  clear h
  have hd : n / 2 = 0 := by omega
  go_enter Try.func29, Try.ntmps29
  go_wp2_with fail
  all_goals
    ((try simp only [Exit.inBlock, Exit.then]); refine bodyPost_ret (results_tmp4 rfl _ _ _) rfl ?_)
    exact ⟨rfl, by repeat (first | with_reducible exact Gr.refl _ | with_reducible refine Gr.drewN ?_ _ | with_reducible refine Gr.drew ?_ | with_reducible refine Gr.alloc ?_ _ | with_reducible refine Gr.setCell ?_ ?_ _ | (with_reducible refine Gr.trans ?_ (by assumption)) | omega | (dsimp only; omega))⟩

set_option maxRecDepth 100000 in
set_option maxHeartbeats 1000000 in
theorem halve_no (oa : Option Addr) (n cap p : Nat) (l : List Rw) (w : World) (h : RowsAt w oa n cap l) (hn : 2 ≤ n) (hn2 : n ≤ 1000000) (hp : p = n / 2) (hc : ¬ Str.cmp (Tx (kAt l (p - 1))) (Tx (kAt l p)) < 0) :
    Calls Try.prog 29 #[.slice oa n cap] w fun e w' => e = .returned (.tuple #[.string ByteArray.empty, .slice none 0 0, .slice none 0 0, errV 1]) ∧ Gr w w' := by
  have hp1 : 1 ≤ p := by omega
  have hp2 : p < n := by omega
  have k1 := (h.cells)
  obtain ⟨b1, off1, ho1, hc1⟩ := h.cells
  have Hc1 := Lib.hid hc1
  have Ho1 := Lib.hid (fun q => (ho1 q).1)
  have H1 := Lib.hid h
  have hn1 := h.cap_le
  have hm1 := h.cap_max
  unfold maxLen at hm1
  clear hc1 ho1 h
  have a1 := (Hc1.out p hp2).1
  have a2 := (Hc1.out (p - 1) (by omega)).1
  have s1 := (H1.out.sizes p hp2).1
  have s2 := (H1.out.sizes (p - 1) (by omega)).1
  have hI1 := run_row cap Ho1.out hp2
  have hI2 := fun w => run_rowI cap Ho1.out (k := (p : Int) - 1) (by omega) (by omega) w
  have e1 : ((p : Int) - 1).toNat = p - 1 := by omega
  rw [e1] at hI2
  have hpe := Lib.hid (show ((n : Int) / 2) = (p : Int) by omega)
  have Hp := Lib.hid hp
  clear hp k1
  have hB := Lib.hid (fun w => between_no (kAt l (p - 1)) (kAt l p) w s2 s1 hc)
  clear hc
  go_enter Try.func29, Try.ntmps29
  go_wp2_with fail
  rw [hpe.out]
  go_big_quiet ((go_at_call 43; (first | (with_reducible exact quiet_dr1 (hB.out _)) | (with_reducible exact quiet_dr0 (hB.out _)))))
  go_wp2_with fail
  ((try simp only [Exit.inBlock, Exit.then]); refine bodyPost_ret (results_tmp4 rfl _ _ _) rfl ?_)
  exact ⟨rfl, by repeat (first | with_reducible exact Gr.refl _ | with_reducible refine Gr.drewN ?_ _ | with_reducible refine Gr.drew ?_ | with_reducible refine Gr.alloc ?_ _ | with_reducible refine Gr.setCell ?_ ?_ _ | (with_reducible refine Gr.trans ?_ (by assumption)) | omega | (dsimp only; omega))⟩
set_option maxRecDepth 100000 in
set_option maxHeartbeats 1000000 in
theorem halve_yes (oa : Option Addr) (n cap p : Nat) (l : List Rw) (w : World) (h : RowsAt w oa n cap l) (hn : 2 ≤ n) (hn2 : n ≤ 1000000) (hp : p = n / 2) (hc : Str.cmp (Tx (kAt l (p - 1))) (Tx (kAt l p)) < 0) :
    Calls Try.prog 29 #[.slice oa n cap] w fun e w' => ∃ o1 m1 c1 o2 m2 c2, e = .returned (.tuple #[.string (btw (kAt l (p - 1)) (kAt l p)), .slice o1 m1 c1, .slice o2 m2 c2, .nilIface]) ∧ RowsAt w' o1 m1 c1 (l.take p) ∧ RowsAt w' o2 m2 c2 (l.drop p) ∧ Gr w w' := by
  have hp1 : 1 ≤ p := by omega
  have hp2 : p < n := by omega
  have k1 := (h.cells)
  obtain ⟨b1, off1, ho1, hc1⟩ := h.cells
  have Hc1 := Lib.hid hc1
  have Ho1 := Lib.hid (fun q => (ho1 q).1)
  have H1 := Lib.hid h
  have hn1 := h.cap_le
  have hm1 := h.cap_max
  unfold maxLen at hm1
  clear hc1 ho1 h
  have a1 := (Hc1.out p hp2).1
  have a2 := (Hc1.out (p - 1) (by omega)).1
  have s1 := (H1.out.sizes p hp2).1
  have s2 := (H1.out.sizes (p - 1) (by omega)).1
  have hI1 := run_row cap Ho1.out hp2
  have hI2 := fun w => run_rowI cap Ho1.out (k := (p : Int) - 1) (by omega) (by omega) w
  have e1 : ((p : Int) - 1).toNat = p - 1 := by omega
  rw [e1] at hI2
  have hpe := Lib.hid (show ((n : Int) / 2) = (p : Int) by omega)
  have Hp := Lib.hid hp
  clear hp k1
  have hB := Lib.hid (fun w => between_yes (kAt l (p - 1)) (kAt l p) w s2 s1 hc)
  clear hc
  have hh := Lib.hid (fun w1 (hg : Gr w w1) => (H1.out.keep hg).head (k := p) (by omega))
  have ht := Lib.hid (fun w1 (hg : Gr w w1) => (H1.out.keep hg).tail (k := p) (by omega))
  have t1 := run_head oa n cap p (by omega)
  have t2 := run_tail oa n cap p (by omega)
  generalize btw (kAt l (p - 1)) (kAt l p) = key at *
  go_enter Try.func29, Try.ntmps29
  go_wp2_with fail
  rw [hpe.out]
  go_big_quiet ((go_at_call 43; (first | (with_reducible exact quiet_dr1 (hB.out _)) | (with_reducible exact quiet_dr0 (hB.out _)))))
  clear a1 a2 hI1 hI2
  go_wp2_with fail
  go_region_with (first | (go_at_call 32; (refine Calls.mono (list1 (n := p) (cap := cap) ?_ (hh.out _ ?_) (by omega)) ?_; (focus (first | (simp [go_sem, cell_new_drewN]; done) | (refine Gr.keep (by assumption) ?_; simp [go_sem, cell_new_drewN]; done))); (focus ((repeat (first | with_reducible exact Gr.refl _ | with_reducible refine Gr.drewN ?_ _ | with_reducible refine Gr.drew ?_ | with_reducible refine Gr.alloc ?_ _ | with_reducible refine Gr.setCell ?_ ?_ _ | (with_reducible refine Gr.trans ?_ (by assumption)) | omega | (dsimp only; omega))); done))); rintro e w1 ⟨o1, m1, c1, rfl, hr1, hg1, -⟩) | (go_at_call 32; (refine Calls.mono (list1 (n := n - p) (cap := cap - p) ?_ (ht.out _ ?_) (by omega)) ?_; (focus (first | (simp [go_sem, cell_new_drewN]; done) | (refine Gr.keep (by assumption) ?_; simp [go_sem, cell_new_drewN]; done))); (focus ((repeat (first | with_reducible exact Gr.refl _ | with_reducible refine Gr.drewN ?_ _ | with_reducible refine Gr.drew ?_ | with_reducible refine Gr.alloc ?_ _ | with_reducible refine Gr.setCell ?_ ?_ _ | (with_reducible refine Gr.trans ?_ (by assumption)) | omega | (dsimp only; omega))); done))); rintro e w2 ⟨o2, m2, c2, rfl, hr2, hg2, -⟩))
  all_goals
    go_wp2_with fail
    ((try simp only [Exit.inBlock, Exit.then]); refine bodyPost_ret (results_tmp4 rfl _ _ _) rfl ?_)
    exact ⟨_, _, _, _, _, _, rfl, hr1.keep (by repeat (first | with_reducible exact Gr.refl _ | with_reducible refine Gr.drewN ?_ _ | with_reducible refine Gr.drew ?_ | with_reducible refine Gr.alloc ?_ _ | with_reducible refine Gr.setCell ?_ ?_ _ | (with_reducible refine Gr.trans ?_ (by assumption)) | omega | (dsimp only; omega))), hr2, by repeat (first | with_reducible exact Gr.refl _ | with_reducible refine Gr.drewN ?_ _ | with_reducible refine Gr.drew ?_ | with_reducible refine Gr.alloc ?_ _ | with_reducible refine Gr.setCell ?_ ?_ _ | (with_reducible refine Gr.trans ?_ (by assumption)) | omega | (dsimp only; omega))⟩
end Go.Proofs.Ytidfelbaegaphaa
