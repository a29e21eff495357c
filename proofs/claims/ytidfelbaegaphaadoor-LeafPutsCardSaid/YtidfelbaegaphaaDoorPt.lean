import Derived.Test.YtidfelbaegaphaaDoorHt
namespace Go.Proofs.YtidfelbaegaphaaDoor
set_option linter.unusedVariables false
set_option linter.unusedSimpArgs false
open Go.BigFrame Go.RowKit Go.WideShapes

/-- rows without a key's -/
def dropL (l : List Rw) (key : ByteArray) : List Rw := if hasB key l = true then l.take (place key l) ++ l.drop (place key l + 1) else l

set_option maxRecDepth 100000 in
set_option maxHeartbeats 1000000 in
theorem drop_any (oa : Option Addr) (n cap : Nat) (l : List Rw) (key : ByteArray) (w : World) (h : RowsAt w oa n cap l) (hn : n ≤ 1000000) (hk : key.size ≤ maxLen) :
    Calls Tryd.prog 41 #[.slice oa n cap, .string key] w fun e w' => ∃ o1 m1 c1, e = .returned (.tuple #[.slice o1 m1 c1, .bool (hasB key l)]) ∧ RowsAt w' o1 m1 c1 (dropL l key) ∧ Gr w w' := by
  have hF := Lib.hid (find_any oa n cap l key w h hk)
  have hle := place_le key l
  rw [h.len] at hle
  have hlt : hasB key l = true → place key l < n := fun q => by
    unfold hasB at q
    rw [decide_eq_true_iff, h.len] at q
    exact q.1
  have H := Lib.hid h
  have hc := h.cap_le
  clear h
  unfold dropL
  generalize place key l = p at *
  cases hB : hasB key l
  · rw [hB] at hF
    rw [if_neg (by decide)]
    clear hlt hB
    have ha := Lib.hid (fun w1 (hg : Gr w w1) => H.out.keep hg)
    go_enter Tryd.func41, Tryd.ntmps41
    go_wp2_with (first
      | (go_at_call 34; (with_reducible refine hF.out.mono ?_); rintro e w' ⟨rfl, d, rfl⟩)
      | (go_at_call 37; (refine Calls.mono (list1 (n := n) (cap := cap) ?_ (ha.out _ ?_) (by omega)) ?_; (focus (first | (simp [go_sem, cell_new_drewN]; done) | (refine Gr.keep (by assumption) ?_; simp [go_sem, cell_new_drewN]; done))); (focus ((repeat (first | with_reducible exact Gr.refl _ | with_reducible refine Gr.drewN ?_ _ | with_reducible refine Gr.drew ?_ | with_reducible refine Gr.alloc ?_ _ | with_reducible refine Gr.setCell ?_ ?_ _ | (with_reducible refine Gr.trans ?_ (by assumption)) | omega | (dsimp only; omega))); done))); rintro e w1 ⟨o1, m1, c1, rfl, hr1, hg1, -⟩))
    go_ret2
    exact ⟨_, _, _, rfl, hr1, by repeat (first | with_reducible exact Gr.refl _ | with_reducible refine Gr.drewN ?_ _ | with_reducible refine Gr.drew ?_ | with_reducible refine Gr.alloc ?_ _ | with_reducible refine Gr.setCell ?_ ?_ _ | (with_reducible refine Gr.trans ?_ (by assumption)) | omega | (dsimp only; omega))⟩
  · rw [hB] at hF
    have hlt := hlt hB
    rw [if_pos rfl]
    clear hB
    have hh := Lib.hid (fun w1 (hg : Gr w w1) => (H.out.keep hg).head (k := p) (by omega))
    have ht := Lib.hid (fun w1 (hg : Gr w w1) => (H.out.keep hg).tail (k := p + 1) (by omega))
    have t1 := run_head oa n cap p (by omega)
    have t2 := run_tail oa n cap (p + 1) (by omega)
    have e1 : IntKind.i64.wrap ((p : Int) + 1) = (p : Int) + 1 := IntWalk.i64_in _ (by have := H.out.cap_max; unfold maxLen at this; omega)
    have t3 : ((p + 1 : Nat) : Int) = (p : Int) + 1 := by omega
    rw [t3] at t2
    go_enter Tryd.func41, Tryd.ntmps41
    go_wp2_with (go_at_call 34; (with_reducible refine hF.out.mono ?_); rintro e w' ⟨rfl, d, rfl⟩)
    go_region_with (go_at_call 37; (refine Calls.mono (list2 (n := p) (cap := cap) (m := n - (p + 1)) (cap2 := cap - (p + 1)) ?_ ?_ (hh.out _ ?_) (by omega) (ht.out _ ?_) (by omega)) ?_; (focus (first | (simp [go_sem, cell_new_drewN]; done) | (refine Gr.keep (by assumption) ?_; simp [go_sem, cell_new_drewN]; done))); (focus (first | (simp [go_sem, cell_new_drewN]; done) | (refine Gr.keep (by assumption) ?_; simp [go_sem, cell_new_drewN]; done))); (focus ((repeat (first | with_reducible exact Gr.refl _ | with_reducible refine Gr.drewN ?_ _ | with_reducible refine Gr.drew ?_ | with_reducible refine Gr.alloc ?_ _ | with_reducible refine Gr.setCell ?_ ?_ _ | (with_reducible refine Gr.trans ?_ (by assumption)) | omega | (dsimp only; omega))); done)); (focus ((repeat (first | with_reducible exact Gr.refl _ | with_reducible refine Gr.drewN ?_ _ | with_reducible refine Gr.drew ?_ | with_reducible refine Gr.alloc ?_ _ | with_reducible refine Gr.setCell ?_ ?_ _ | (with_reducible refine Gr.trans ?_ (by assumption)) | omega | (dsimp only; omega))); done))); rintro e w1 ⟨o1, m1, c1, rfl, hr1, hg1, -⟩)
    all_goals
      go_wp2_with fail
      go_ret2
      exact ⟨_, _, _, rfl, hr1, by repeat (first | with_reducible exact Gr.refl _ | with_reducible refine Gr.drewN ?_ _ | with_reducible refine Gr.drew ?_ | with_reducible refine Gr.alloc ?_ _ | with_reducible refine Gr.setCell ?_ ?_ _ | (with_reducible refine Gr.trans ?_ (by assumption)) | omega | (dsimp only; omega))⟩

end Go.Proofs.YtidfelbaegaphaaDoor
