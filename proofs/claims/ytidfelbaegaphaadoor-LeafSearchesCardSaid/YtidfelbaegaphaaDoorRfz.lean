import Derived.Test.YtidfelbaegaphaaDoorOw2z
import Derived.Test.YtidfelbaegaphaaDoorUpAz
namespace Go.Proofs.YtidfelbaegaphaaDoor
set_option linter.unusedVariables false
set_option linter.unusedSimpArgs false
open Go.BigFrame Go.RowKit Go.WideShapes

theorem drewN_heap (w : World) (d : Nat) : (w.drewN d).heap = w.heap := rfl
theorem own_empty_b {w : World} {b base : Nat} (hb : b = w.heap.size) (h : base ≤ b) : OwnAt (w.alloc (.cells #[] 41)) base (some ⟨b, 0, none⟩) 0 0 [] := by
  subst hb
  exact ⟨⟨rfl, .inr ⟨w.heap.size, 0, #[], rfl, h, (by show (w.heap.push (.cells #[] 41))[w.heap.size]? = _; simp), Nat.le_refl _, Nat.zero_le _, rfl, rfl⟩⟩,
   ⟨rfl, Nat.le_refl _, Nat.zero_le _, fun q => (by cases q), ⟨0, 0, fun q => absurd q (by omega), fun i hi => absurd hi (by omega)⟩, fun i hi => absurd hi (by omega)⟩⟩
set_option maxRecDepth 100000 in
set_option maxHeartbeats 1000000 in
theorem refDrop_any (oa : Option Addr) (n cap : Nat) (l : List Rw) (key : ByteArray) (w : World) (h : RowsAt w oa n cap l) (hn : n ≤ 1000000) (hk : key.size ≤ maxLen) :
    Calls Tryd.prog 28 #[.slice oa n cap, .string key] w fun e w' => ∃ o1 m1 c1, e = .returned (.tuple #[.slice o1 m1 c1, .bool (hasB key l)]) ∧ RowsAt w' o1 m1 c1 (dropL l key) ∧ Gr w w' := by
  have hF := Lib.hid (refFind_any oa n cap l key w h hk)
  have hle := place_le key l
  rw [h.len] at hle
  have hlt : hasB key l = true → place key l < n := fun q => by
    unfold hasB at q
    rw [decide_eq_true_iff, h.len] at q
    exact q.1
  have H := Lib.hid h
  have hc := h.cap_le
  clear h
  unfold dropL
  generalize place key l = p at *
  cases hB : hasB key l
  · rw [hB] at hF
    rw [if_neg (by decide)]
    clear hlt hB
    go_enter Tryd.func28, Tryd.ntmps28
    go_wp2_with (go_at_call 47; (with_reducible refine hF.out.mono ?_); rintro e w' ⟨rfl, d, rfl⟩)
    go_ret2
    exact ⟨_, _, _, rfl, H.out.keep (by repeat (first | with_reducible exact Gr.refl _ | with_reducible refine Gr.drewN ?_ _ | with_reducible refine Gr.drew ?_ | with_reducible refine Gr.alloc ?_ _ | with_reducible refine Gr.setCell ?_ ?_ _ | (with_reducible refine Gr.trans ?_ (by assumption)) | omega | (dsimp only; omega))), by repeat (first | with_reducible exact Gr.refl _ | with_reducible refine Gr.drewN ?_ _ | with_reducible refine Gr.drew ?_ | with_reducible refine Gr.alloc ?_ _ | with_reducible refine Gr.setCell ?_ ?_ _ | (with_reducible refine Gr.trans ?_ (by assumption)) | omega | (dsimp only; omega))⟩
  · rw [hB] at hF
    have hlt := hlt hB
    rw [if_pos rfl]
    clear hB
    have hh := Lib.hid (fun w1 (hg : Gr w w1) => (H.out.keep hg).head (k := p) (by omega))
    have ht := Lib.hid (fun w1 (hg : Gr w w1) => (H.out.keep hg).tail (k := p + 1) (by omega))
    have t1 := run_head oa n cap p (by omega)
    have t2 := run_tail oa n cap (p + 1) (by omega)
    have e1 : IntKind.i64.wrap ((p : Int) + 1) = (p : Int) + 1 := IntWalk.i64_in _ (by have := H.out.cap_max; unfold maxLen at this; omega)
    have t3 : ((p + 1 : Nat) : Int) = (p : Int) + 1 := by omega
    rw [t3] at t2
    go_enter Tryd.func28, Tryd.ntmps28
    go_wp2_with (go_at_call 47; (with_reducible refine hF.out.mono ?_); rintro e w' ⟨rfl, d, rfl⟩)
    go_region_law (first
      | (refine step_rows (w0 := w) rfl _ _ rfl (by repeat (first | with_reducible exact Gr.refl _ | with_reducible refine Gr.drewN ?_ _ | with_reducible refine Gr.drew ?_ | with_reducible refine Gr.alloc ?_ _ | with_reducible refine Gr.setCell ?_ ?_ _ | (with_reducible refine Gr.trans ?_ (by assumption)) | omega | (dsimp only; omega))) rfl (own_empty (by repeat (first | with_reducible exact Gr.refl _ | with_reducible refine Gr.drewN ?_ _ | with_reducible refine Gr.drew ?_ | with_reducible refine Gr.alloc ?_ _ | with_reducible refine Gr.setCell ?_ ?_ _ | (with_reducible refine Gr.trans ?_ (by assumption)) | omega | (dsimp only; omega)))) rfl (hh.out _ (by repeat (first | with_reducible exact Gr.refl _ | with_reducible refine Gr.drewN ?_ _ | with_reducible refine Gr.drew ?_ | with_reducible refine Gr.alloc ?_ _ | with_reducible refine Gr.setCell ?_ ?_ _ | (with_reducible refine Gr.trans ?_ (by assumption)) | omega | (dsimp only; omega)))) (by omega) ?_; intro oc c3 w1 ho1 hg1; simp only [Nat.zero_add, List.nil_append] at ho1)
      | (refine step_rows (w0 := w) rfl _ _ rfl hg1 rfl ho1 rfl (ht.out _ hg1) (by omega) ?_; intro oc2 c4 w2 ho2 hg2))
    all_goals
      go_wp2_with fail
      go_ret2
      exact ⟨_, _, _, rfl, by simpa using ho2.rows, hg2⟩

set_option maxRecDepth 100000 in
set_option maxHeartbeats 1000000 in
theorem refPut_any (oa : Option Addr) (n cap : Nat) (l : List Rw) (k v : ByteArray) (w : World) (h : RowsAt w oa n cap l) (hn : n ≤ 1000000) (hk : k.size ≤ maxLen) (hv : v.size ≤ maxLen) :
    Calls Tryd.prog 27 #[.slice oa n cap, .agg #[.string k, .string v]] w fun e w' => ∃ o1 m1 c1, e = .returned (.tuple #[.slice o1 m1 c1, .bool (hasB k l)]) ∧ RowsAt w' o1 m1 c1 (putL l ⟨k, v⟩) ∧ Gr w w' := by
  have b0 := box_key w k v
  have b1 := box_val w k v
  have hD := Lib.hid (fun w1 (hg : Gr w w1) => refFind_any oa n cap l k w1 (h.keep hg) hk)
  have hle := place_le k l
  rw [h.len] at hle
  have hlt : hasB k l = true → place k l < n := fun q => by
    unfold hasB at q
    rw [decide_eq_true_iff, h.len] at q
    exact q.1
  have H := Lib.hid h
  have hc := h.cap_le
  have hm := h.cap_max
  unfold maxLen at hm
  clear h
  unfold putL
  dsimp only
  generalize place k l = p at *
  have hh := Lib.hid (fun w1 (hg : Gr w w1) => (H.out.keep hg).head (k := p) (by omega))
  have t1 := run_head oa n cap p (by omega)
  cases hB : hasB k l
  · rw [hB] at hD
    rw [if_neg (by decide)]
    clear hlt hB
    have ht := Lib.hid (fun w1 (hg : Gr w w1) => (H.out.keep hg).tail (k := p) (by omega))
    have t2 := run_tail oa n cap p (by omega)
    go_enter Tryd.func27, Tryd.ntmps27
    go_wp2_with (go_at_call 47; (refine (hD.out _ (by repeat (first | with_reducible exact Gr.refl _ | with_reducible refine Gr.drewN ?_ _ | with_reducible refine Gr.drew ?_ | with_reducible refine Gr.alloc ?_ _ | with_reducible refine Gr.setCell ?_ ?_ _ | (with_reducible refine Gr.trans ?_ (by assumption)) | omega | (dsimp only; omega)))).mono ?_); rintro e w' ⟨rfl, d, rfl⟩)
    go_region_law (first
      | (refine step_rows_g rfl _ _ rfl w.heap.size (by simp [drewN_heap]; omega) rfl (own_empty_b (by simp [drewN_heap]) (by omega)) rfl (hh.out _ (by repeat (first | with_reducible exact Gr.refl _ | with_reducible refine Gr.drewN ?_ _ | with_reducible refine Gr.drew ?_ | with_reducible refine Gr.alloc ?_ _ | with_reducible refine Gr.setCell ?_ ?_ _ | (with_reducible refine Gr.trans ?_ (by assumption)) | omega | (dsimp only; omega)))) (by omega) ?_; intro oc c3 w1 ho1 hb1; simp only [Nat.zero_add, List.nil_append] at ho1; have hg1 : Gr w w1 := grown_gr hb1 (own_empty_b (base := w.heap.size) (by simp [drewN_heap]) (by omega)) (by repeat (first | with_reducible exact Gr.refl _ | with_reducible refine Gr.drewN ?_ _ | with_reducible refine Gr.drew ?_ | with_reducible refine Gr.alloc ?_ _ | with_reducible refine Gr.setCell ?_ ?_ _ | (with_reducible refine Gr.trans ?_ (by assumption)) | omega | (dsimp only; omega))) (Nat.le_refl _); have k0 := grown_cell (b := w.heap.size) (o := 0) hb1 (v := .string k) (by simp [go_sem, cell_new_drewN, drewN_heap]) (by omega); have k1 := grown_cell (b := w.heap.size) (o := 1) hb1 (v := .string v) (by simp [go_sem, cell_new_drewN, drewN_heap]) (by omega); (try (have r0 := grown_cell (b := w.heap.size + 1) (o := 0) hb1 (v := .string k) (by simp [go_sem, cell_new_drewN, drewN_heap]) (by omega); have r1 := grown_cell (b := w.heap.size + 1) (o := 1) hb1 (v := .string v) (by simp [go_sem, cell_new_drewN, drewN_heap]) (by omega))))
      | (refine step_rows_g rfl _ _ rfl w.heap.size (by simp [drewN_heap]; omega) rfl ((own_empty_b (by simp [drewN_heap]) (by omega)).keep ((Gr.refl _).alloc _)) rfl (hh.out _ (by repeat (first | with_reducible exact Gr.refl _ | with_reducible refine Gr.drewN ?_ _ | with_reducible refine Gr.drew ?_ | with_reducible refine Gr.alloc ?_ _ | with_reducible refine Gr.setCell ?_ ?_ _ | (with_reducible refine Gr.trans ?_ (by assumption)) | omega | (dsimp only; omega)))) (by omega) ?_; intro oc c3 w1 ho1 hb1; simp only [Nat.zero_add, List.nil_append] at ho1; have hg1 : Gr w w1 := grown_gr hb1 ((own_empty_b (base := w.heap.size) (by simp [drewN_heap]) (by omega)).keep ((Gr.refl _).alloc _)) (by repeat (first | with_reducible exact Gr.refl _ | with_reducible refine Gr.drewN ?_ _ | with_reducible refine Gr.drew ?_ | with_reducible refine Gr.alloc ?_ _ | with_reducible refine Gr.setCell ?_ ?_ _ | (with_reducible refine Gr.trans ?_ (by assumption)) | omega | (dsimp only; omega))) (Nat.le_refl _); have k0 := grown_cell (b := w.heap.size) (o := 0) hb1 (v := .string k) (by simp [go_sem, cell_new_drewN, drewN_heap]) (by omega); have k1 := grown_cell (b := w.heap.size) (o := 1) hb1 (v := .string v) (by simp [go_sem, cell_new_drewN, drewN_heap]) (by omega); have r0 := grown_cell (b := w.heap.size + 2) (o := 0) hb1 (v := .string k) (by simp [go_sem, cell_new_drewN, drewN_heap]) (by omega); have r1 := grown_cell (b := w.heap.size + 2) (o := 1) hb1 (v := .string v) (by simp [go_sem, cell_new_drewN, drewN_heap]) (by omega))
      | (refine step_rows (w0 := w) rfl _ _ rfl (by repeat (first | with_reducible exact Gr.refl _ | with_reducible refine Gr.drewN ?_ _ | with_reducible refine Gr.drew ?_ | with_reducible refine Gr.alloc ?_ _ | with_reducible refine Gr.setCell ?_ ?_ _ | (with_reducible refine Gr.trans ?_ (by assumption)) | omega | (dsimp only; omega))) rfl (ho1.keep ((Gr.refl _).alloc _)) rfl (row_one (b := w1.heap.size) (Nat.le_refl _) (by unfold maxLen; omega) (by simp [go_sem]) (by simp [go_sem]) hk hv) (by omega) ?_; intro oc2 c4 w2 ho2 hg2)
      | (refine step_rows (w0 := w) rfl _ _ rfl hg1 rfl ho1 rfl (row_one (Nat.le_refl _) (by unfold maxLen; omega) r0 r1 hk hv) (by omega) ?_; intro oc2 c4 w2 ho2 hg2))
    all_goals
      go_wp2_with (at_builtin; refine wpList_rows (w0 := w) rfl _ _ rfl (by repeat (first | with_reducible exact Gr.refl _ | with_reducible refine Gr.drewN ?_ _ | with_reducible refine Gr.drew ?_ | with_reducible refine Gr.alloc ?_ _ | with_reducible refine Gr.setCell ?_ ?_ _ | (with_reducible refine Gr.trans ?_ (by assumption)) | omega | (dsimp only; omega))) rfl ho2 rfl (ht.out _ (by repeat (first | with_reducible exact Gr.refl _ | with_reducible refine Gr.drewN ?_ _ | with_reducible refine Gr.drew ?_ | with_reducible refine Gr.alloc ?_ _ | with_reducible refine Gr.setCell ?_ ?_ _ | (with_reducible refine Gr.trans ?_ (by assumption)) | omega | (dsimp only; omega)))) (by omega) ?_; intro oc5 c5 w5 ho5 hg5)
      go_ret2
      exact ⟨_, _, _, rfl, ho5.rows, hg5⟩
  · rw [hB] at hD
    have hlt := hlt hB
    rw [if_pos rfl]
    clear hB
    have ht := Lib.hid (fun w1 (hg : Gr w w1) => (H.out.keep hg).tail (k := p + 1) (by omega))
    have t2 := run_tail oa n cap (p + 1) (by omega)
    have t3 : ((p + 1 : Nat) : Int) = (p : Int) + 1 := by omega
    rw [t3] at t2
    go_enter Tryd.func27, Tryd.ntmps27
    go_wp2_with (go_at_call 47; (refine (hD.out _ (by repeat (first | with_reducible exact Gr.refl _ | with_reducible refine Gr.drewN ?_ _ | with_reducible refine Gr.drew ?_ | with_reducible refine Gr.alloc ?_ _ | with_reducible refine Gr.setCell ?_ ?_ _ | (with_reducible refine Gr.trans ?_ (by assumption)) | omega | (dsimp only; omega)))).mono ?_); rintro e w' ⟨rfl, d, rfl⟩)
    go_region_law (first
      | (refine step_rows_g rfl _ _ rfl w.heap.size (by simp [drewN_heap]; omega) rfl (own_empty_b (by simp [drewN_heap]) (by omega)) rfl (hh.out _ (by repeat (first | with_reducible exact Gr.refl _ | with_reducible refine Gr.drewN ?_ _ | with_reducible refine Gr.drew ?_ | with_reducible refine Gr.alloc ?_ _ | with_reducible refine Gr.setCell ?_ ?_ _ | (with_reducible refine Gr.trans ?_ (by assumption)) | omega | (dsimp only; omega)))) (by omega) ?_; intro oc c3 w1 ho1 hb1; simp only [Nat.zero_add, List.nil_append] at ho1; have hg1 : Gr w w1 := grown_gr hb1 (own_empty_b (base := w.heap.size) (by simp [drewN_heap]) (by omega)) (by repeat (first | with_reducible exact Gr.refl _ | with_reducible refine Gr.drewN ?_ _ | with_reducible refine Gr.drew ?_ | with_reducible refine Gr.alloc ?_ _ | with_reducible refine Gr.setCell ?_ ?_ _ | (with_reducible refine Gr.trans ?_ (by assumption)) | omega | (dsimp only; omega))) (Nat.le_refl _); have k0 := grown_cell (b := w.heap.size) (o := 0) hb1 (v := .string k) (by simp [go_sem, cell_new_drewN, drewN_heap]) (by omega); have k1 := grown_cell (b := w.heap.size) (o := 1) hb1 (v := .string v) (by simp [go_sem, cell_new_drewN, drewN_heap]) (by omega); (try (have r0 := grown_cell (b := w.heap.size + 1) (o := 0) hb1 (v := .string k) (by simp [go_sem, cell_new_drewN, drewN_heap]) (by omega); have r1 := grown_cell (b := w.heap.size + 1) (o := 1) hb1 (v := .string v) (by simp [go_sem, cell_new_drewN, drewN_heap]) (by omega))))
      | (refine step_rows_g rfl _ _ rfl w.heap.size (by simp [drewN_heap]; omega) rfl ((own_empty_b (by simp [drewN_heap]) (by omega)).keep ((Gr.refl _).alloc _)) rfl (hh.out _ (by repeat (first | with_reducible exact Gr.refl _ | with_reducible refine Gr.drewN ?_ _ | with_reducible refine Gr.drew ?_ | with_reducible refine Gr.alloc ?_ _ | with_reducible refine Gr.setCell ?_ ?_ _ | (with_reducible refine Gr.trans ?_ (by assumption)) | omega | (dsimp only; omega)))) (by omega) ?_; intro oc c3 w1 ho1 hb1; simp only [Nat.zero_add, List.nil_append] at ho1; have hg1 : Gr w w1 := grown_gr hb1 ((own_empty_b (base := w.heap.size) (by simp [drewN_heap]) (by omega)).keep ((Gr.refl _).alloc _)) (by repeat (first | with_reducible exact Gr.refl _ | with_reducible refine Gr.drewN ?_ _ | with_reducible refine Gr.drew ?_ | with_reducible refine Gr.alloc ?_ _ | with_reducible refine Gr.setCell ?_ ?_ _ | (with_reducible refine Gr.trans ?_ (by assumption)) | omega | (dsimp only; omega))) (Nat.le_refl _); have k0 := grown_cell (b := w.heap.size) (o := 0) hb1 (v := .string k) (by simp [go_sem, cell_new_drewN, drewN_heap]) (by omega); have k1 := grown_cell (b := w.heap.size) (o := 1) hb1 (v := .string v) (by simp [go_sem, cell_new_drewN, drewN_heap]) (by omega); have r0 := grown_cell (b := w.heap.size + 2) (o := 0) hb1 (v := .string k) (by simp [go_sem, cell_new_drewN, drewN_heap]) (by omega); have r1 := grown_cell (b := w.heap.size + 2) (o := 1) hb1 (v := .string v) (by simp [go_sem, cell_new_drewN, drewN_heap]) (by omega))
      | (refine step_rows (w0 := w) rfl _ _ rfl (by repeat (first | with_reducible exact Gr.refl _ | with_reducible refine Gr.drewN ?_ _ | with_reducible refine Gr.drew ?_ | with_reducible refine Gr.alloc ?_ _ | with_reducible refine Gr.setCell ?_ ?_ _ | (with_reducible refine Gr.trans ?_ (by assumption)) | omega | (dsimp only; omega))) rfl (ho1.keep ((Gr.refl _).alloc _)) rfl (row_one (b := w1.heap.size) (Nat.le_refl _) (by unfold maxLen; omega) (by simp [go_sem]) (by simp [go_sem]) hk hv) (by omega) ?_; intro oc2 c4 w2 ho2 hg2)
      | (refine step_rows (w0 := w) rfl _ _ rfl hg1 rfl ho1 rfl (row_one (Nat.le_refl _) (by unfold maxLen; omega) r0 r1 hk hv) (by omega) ?_; intro oc2 c4 w2 ho2 hg2))
    all_goals
      go_wp2_with (at_builtin; refine wpList_rows (w0 := w) rfl _ _ rfl (by repeat (first | with_reducible exact Gr.refl _ | with_reducible refine Gr.drewN ?_ _ | with_reducible refine Gr.drew ?_ | with_reducible refine Gr.alloc ?_ _ | with_reducible refine Gr.setCell ?_ ?_ _ | (with_reducible refine Gr.trans ?_ (by assumption)) | omega | (dsimp only; omega))) rfl ho2 rfl (ht.out _ (by repeat (first | with_reducible exact Gr.refl _ | with_reducible refine Gr.drewN ?_ _ | with_reducible refine Gr.drew ?_ | with_reducible refine Gr.alloc ?_ _ | with_reducible refine Gr.setCell ?_ ?_ _ | (with_reducible refine Gr.trans ?_ (by assumption)) | omega | (dsimp only; omega)))) (by omega) ?_; intro oc5 c5 w5 ho5 hg5)
      go_ret2
      exact ⟨_, _, _, rfl, ho5.rows, hg5⟩
end Go.Proofs.YtidfelbaegaphaaDoor

namespace Go.Proofs.YtidfelbaegaphaaDoor
set_option linter.unusedVariables false
set_option linter.unusedSimpArgs false
open Go.BigFrame Go.RowKit Go.WideShapes

/-! The document's Put, Drop and ahead once more: where what they hand back lies. -/
set_option maxRecDepth 100000 in
set_option maxHeartbeats 1000000 in
theorem refDrop_new (oa : Option Addr) (n cap : Nat) (l : List Rw) (key : ByteArray) (w : World) (h : RowsAt w oa n cap l) (hn : n ≤ 1000000) (hk : key.size ≤ maxLen) :
    Calls Tryd.prog 28 #[.slice oa n cap, .string key] w fun e w' => ∃ o1 m1 c1, e = .returned (.tuple #[.slice o1 m1 c1, .bool (hasB key l)]) ∧ ((o1 = oa ∧ m1 = n ∧ c1 = cap ∧ dropL l key = l) ∨ OwnAt w' w.heap.size o1 m1 c1 (dropL l key)) ∧ Gr w w' := by
  have hF := Lib.hid (refFind_any oa n cap l key w h hk)
  have hle := place_le key l
  rw [h.len] at hle
  have hlt : hasB key l = true → place key l < n := fun q => by
    unfold hasB at q
    rw [decide_eq_true_iff, h.len] at q
    exact q.1
  have H := Lib.hid h
  have hc := h.cap_le
  clear h
  unfold dropL
  generalize place key l = p at *
  cases hB : hasB key l
  · rw [hB] at hF
    rw [if_neg (by decide)]
    clear hlt hB
    go_enter Tryd.func28, Tryd.ntmps28
    go_wp2_with (go_at_call 47; (with_reducible refine hF.out.mono ?_); rintro e w' ⟨rfl, d, rfl⟩)
    go_ret2
    exact ⟨_, _, _, rfl, .inl ⟨rfl, rfl, rfl, by first | rfl | trivial⟩, by repeat (first | with_reducible exact Gr.refl _ | with_reducible refine Gr.drewN ?_ _ | with_reducible refine Gr.drew ?_ | with_reducible refine Gr.alloc ?_ _ | with_reducible refine Gr.setCell ?_ ?_ _ | (with_reducible refine Gr.trans ?_ (by assumption)) | omega | (dsimp only; omega))⟩
  · rw [hB] at hF
    have hlt := hlt hB
    rw [if_pos rfl]
    clear hB
    have hh := Lib.hid (fun w1 (hg : Gr w w1) => (H.out.keep hg).head (k := p) (by omega))
    have ht := Lib.hid (fun w1 (hg : Gr w w1) => (H.out.keep hg).tail (k := p + 1) (by omega))
    have t1 := run_head oa n cap p (by omega)
    have t2 := run_tail oa n cap (p + 1) (by omega)
    have e1 : IntKind.i64.wrap ((p : Int) + 1) = (p : Int) + 1 := IntWalk.i64_in _ (by have := H.out.cap_max; unfold maxLen at this; omega)
    have t3 : ((p + 1 : Nat) : Int) = (p : Int) + 1 := by omega
    rw [t3] at t2
    go_enter Tryd.func28, Tryd.ntmps28
    go_wp2_with (go_at_call 47; (with_reducible refine hF.out.mono ?_); rintro e w' ⟨rfl, d, rfl⟩)
    go_region_law (first
      | (refine step_rows (w0 := w) rfl _ _ rfl (by repeat (first | with_reducible exact Gr.refl _ | with_reducible refine Gr.drewN ?_ _ | with_reducible refine Gr.drew ?_ | with_reducible refine Gr.alloc ?_ _ | with_reducible refine Gr.setCell ?_ ?_ _ | (with_reducible refine Gr.trans ?_ (by assumption)) | omega | (dsimp only; omega))) rfl (own_empty (by repeat (first | with_reducible exact Gr.refl _ | with_reducible refine Gr.drewN ?_ _ | with_reducible refine Gr.drew ?_ | with_reducible refine Gr.alloc ?_ _ | with_reducible refine Gr.setCell ?_ ?_ _ | (with_reducible refine Gr.trans ?_ (by assumption)) | omega | (dsimp only; omega)))) rfl (hh.out _ (by repeat (first | with_reducible exact Gr.refl _ | with_reducible refine Gr.drewN ?_ _ | with_reducible refine Gr.drew ?_ | with_reducible refine Gr.alloc ?_ _ | with_reducible refine Gr.setCell ?_ ?_ _ | (with_reducible refine Gr.trans ?_ (by assumption)) | omega | (dsimp only; omega)))) (by omega) ?_; intro oc c3 w1 ho1 hg1; simp only [Nat.zero_add, List.nil_append] at ho1)
      | (refine step_rows (w0 := w) rfl _ _ rfl hg1 rfl ho1 rfl (ht.out _ hg1) (by omega) ?_; intro oc2 c4 w2 ho2 hg2))
    all_goals
      go_wp2_with fail
      go_ret2
      exact ⟨_, _, _, rfl, .inr (by simpa using ho2), hg2⟩

set_option maxRecDepth 100000 in
set_option maxHeartbeats 1000000 in
theorem refPut_new (oa : Option Addr) (n cap : Nat) (l : List Rw) (k v : ByteArray) (w : World) (h : RowsAt w oa n cap l) (hn : n ≤ 1000000) (hk : k.size ≤ maxLen) (hv : v.size ≤ maxLen) :
    Calls Tryd.prog 27 #[.slice oa n cap, .agg #[.string k, .string v]] w fun e w' => ∃ o1 m1 c1, e = .returned (.tuple #[.slice o1 m1 c1, .bool (hasB k l)]) ∧ OwnAt w' w.heap.size o1 m1 c1 (putL l ⟨k, v⟩) ∧ Gr w w' := by
  have b0 := box_key w k v
  have b1 := box_val w k v
  have hD := Lib.hid (fun w1 (hg : Gr w w1) => refFind_any oa n cap l k w1 (h.keep hg) hk)
  have hle := place_le k l
  rw [h.len] at hle
  have hlt : hasB k l = true → place k l < n := fun q => by
    unfold hasB at q
    rw [decide_eq_true_iff, h.len] at q
    exact q.1
  have H := Lib.hid h
  have hc := h.cap_le
  have hm := h.cap_max
  unfold maxLen at hm
  clear h
  unfold putL
  dsimp only
  generalize place k l = p at *
  have hh := Lib.hid (fun w1 (hg : Gr w w1) => (H.out.keep hg).head (k := p) (by omega))
  have t1 := run_head oa n cap p (by omega)
  cases hB : hasB k l
  · rw [hB] at hD
    rw [if_neg (by decide)]
    clear hlt hB
    have ht := Lib.hid (fun w1 (hg : Gr w w1) => (H.out.keep hg).tail (k := p) (by omega))
    have t2 := run_tail oa n cap p (by omega)
    go_enter Tryd.func27, Tryd.ntmps27
    go_wp2_with (go_at_call 47; (refine (hD.out _ (by repeat (first | with_reducible exact Gr.refl _ | with_reducible refine Gr.drewN ?_ _ | with_reducible refine Gr.drew ?_ | with_reducible refine Gr.alloc ?_ _ | with_reducible refine Gr.setCell ?_ ?_ _ | (with_reducible refine Gr.trans ?_ (by assumption)) | omega | (dsimp only; omega)))).mono ?_); rintro e w' ⟨rfl, d, rfl⟩)
    go_region_law (first
      | (refine step_rows_g rfl _ _ rfl w.heap.size (by simp [drewN_heap]; omega) rfl (own_empty_b (by simp [drewN_heap]) (by omega)) rfl (hh.out _ (by repeat (first | with_reducible exact Gr.refl _ | with_reducible refine Gr.drewN ?_ _ | with_reducible refine Gr.drew ?_ | with_reducible refine Gr.alloc ?_ _ | with_reducible refine Gr.setCell ?_ ?_ _ | (with_reducible refine Gr.trans ?_ (by assumption)) | omega | (dsimp only; omega)))) (by omega) ?_; intro oc c3 w1 ho1 hb1; simp only [Nat.zero_add, List.nil_append] at ho1; have hg1 : Gr w w1 := grown_gr hb1 (own_empty_b (base := w.heap.size) (by simp [drewN_heap]) (by omega)) (by repeat (first | with_reducible exact Gr.refl _ | with_reducible refine Gr.drewN ?_ _ | with_reducible refine Gr.drew ?_ | with_reducible refine Gr.alloc ?_ _ | with_reducible refine Gr.setCell ?_ ?_ _ | (with_reducible refine Gr.trans ?_ (by assumption)) | omega | (dsimp only; omega))) (Nat.le_refl _); have k0 := grown_cell (b := w.heap.size) (o := 0) hb1 (v := .string k) (by simp [go_sem, cell_new_drewN, drewN_heap]) (by omega); have k1 := grown_cell (b := w.heap.size) (o := 1) hb1 (v := .string v) (by simp [go_sem, cell_new_drewN, drewN_heap]) (by omega); (try (have r0 := grown_cell (b := w.heap.size + 1) (o := 0) hb1 (v := .string k) (by simp [go_sem, cell_new_drewN, drewN_heap]) (by omega); have r1 := grown_cell (b := w.heap.size + 1) (o := 1) hb1 (v := .string v) (by simp [go_sem, cell_new_drewN, drewN_heap]) (by omega))))
      | (refine step_rows_g rfl _ _ rfl w.heap.size (by simp [drewN_heap]; omega) rfl ((own_empty_b (by simp [drewN_heap]) (by omega)).keep ((Gr.refl _).alloc _)) rfl (hh.out _ (by repeat (first | with_reducible exact Gr.refl _ | with_reducible refine Gr.drewN ?_ _ | with_reducible refine Gr.drew ?_ | with_reducible refine Gr.alloc ?_ _ | with_reducible refine Gr.setCell ?_ ?_ _ | (with_reducible refine Gr.trans ?_ (by assumption)) | omega | (dsimp only; omega)))) (by omega) ?_; intro oc c3 w1 ho1 hb1; simp only [Nat.zero_add, List.nil_append] at ho1; have hg1 : Gr w w1 := grown_gr hb1 ((own_empty_b (base := w.heap.size) (by simp [drewN_heap]) (by omega)).keep ((Gr.refl _).alloc _)) (by repeat (first | with_reducible exact Gr.refl _ | with_reducible refine Gr.drewN ?_ _ | with_reducible refine Gr.drew ?_ | with_reducible refine Gr.alloc ?_ _ | with_reducible refine Gr.setCell ?_ ?_ _ | (with_reducible refine Gr.trans ?_ (by assumption)) | omega | (dsimp only; omega))) (Nat.le_refl _); have k0 := grown_cell (b := w.heap.size) (o := 0) hb1 (v := .string k) (by simp [go_sem, cell_new_drewN, drewN_heap]) (by omega); have k1 := grown_cell (b := w.heap.size) (o := 1) hb1 (v := .string v) (by simp [go_sem, cell_new_drewN, drewN_heap]) (by omega); have r0 := grown_cell (b := w.heap.size + 2) (o := 0) hb1 (v := .string k) (by simp [go_sem, cell_new_drewN, drewN_heap]) (by omega); have r1 := grown_cell (b := w.heap.size + 2) (o := 1) hb1 (v := .string v) (by simp [go_sem, cell_new_drewN, drewN_heap]) (by omega))
      | (refine step_rows (w0 := w) rfl _ _ rfl (by repeat (first | with_reducible exact Gr.refl _ | with_reducible refine Gr.drewN ?_ _ | with_reducible refine Gr.drew ?_ | with_reducible refine Gr.alloc ?_ _ | with_reducible refine Gr.setCell ?_ ?_ _ | (with_reducible refine Gr.trans ?_ (by assumption)) | omega | (dsimp only; omega))) rfl (ho1.keep ((Gr.refl _).alloc _)) rfl (row_one (b := w1.heap.size) (Nat.le_refl _) (by unfold maxLen; omega) (by simp [go_sem]) (by simp [go_sem]) hk hv) (by omega) ?_; intro oc2 c4 w2 ho2 hg2)
      | (refine step_rows (w0 := w) rfl _ _ rfl hg1 rfl ho1 rfl (row_one (Nat.le_refl _) (by unfold maxLen; omega) r0 r1 hk hv) (by omega) ?_; intro oc2 c4 w2 ho2 hg2))
    all_goals
      go_wp2_with (at_builtin; refine wpList_rows (w0 := w) rfl _ _ rfl (by repeat (first | with_reducible exact Gr.refl _ | with_reducible refine Gr.drewN ?_ _ | with_reducible refine Gr.drew ?_ | with_reducible refine Gr.alloc ?_ _ | with_reducible refine Gr.setCell ?_ ?_ _ | (with_reducible refine Gr.trans ?_ (by assumption)) | omega | (dsimp only; omega))) rfl ho2 rfl (ht.out _ (by repeat (first | with_reducible exact Gr.refl _ | with_reducible refine Gr.drewN ?_ _ | with_reducible refine Gr.drew ?_ | with_reducible refine Gr.alloc ?_ _ | with_reducible refine Gr.setCell ?_ ?_ _ | (with_reducible refine Gr.trans ?_ (by assumption)) | omega | (dsimp only; omega)))) (by omega) ?_; intro oc5 c5 w5 ho5 hg5)
      go_ret2
      exact ⟨_, _, _, rfl, ho5, hg5⟩
  · rw [hB] at hD
    have hlt := hlt hB
    rw [if_pos rfl]
    clear hB
    have ht := Lib.hid (fun w1 (hg : Gr w w1) => (H.out.keep hg).tail (k := p + 1) (by omega))
    have t2 := run_tail oa n cap (p + 1) (by omega)
    have t3 : ((p + 1 : Nat) : Int) = (p : Int) + 1 := by omega
    rw [t3] at t2
    go_enter Tryd.func27, Tryd.ntmps27
    go_wp2_with (go_at_call 47; (refine (hD.out _ (by repeat (first | with_reducible exact Gr.refl _ | with_reducible refine Gr.drewN ?_ _ | with_reducible refine Gr.drew ?_ | with_reducible refine Gr.alloc ?_ _ | with_reducible refine Gr.setCell ?_ ?_ _ | (with_reducible refine Gr.trans ?_ (by assumption)) | omega | (dsimp only; omega)))).mono ?_); rintro e w' ⟨rfl, d, rfl⟩)
    go_region_law (first
      | (refine step_rows_g rfl _ _ rfl w.heap.size (by simp [drewN_heap]; omega) rfl (own_empty_b (by simp [drewN_heap]) (by omega)) rfl (hh.out _ (by repeat (first | with_reducible exact Gr.refl _ | with_reducible refine Gr.drewN ?_ _ | with_reducible refine Gr.drew ?_ | with_reducible refine Gr.alloc ?_ _ | with_reducible refine Gr.setCell ?_ ?_ _ | (with_reducible refine Gr.trans ?_ (by assumption)) | omega | (dsimp only; omega)))) (by omega) ?_; intro oc c3 w1 ho1 hb1; simp only [Nat.zero_add, List.nil_append] at ho1; have hg1 : Gr w w1 := grown_gr hb1 (own_empty_b (base := w.heap.size) (by simp [drewN_heap]) (by omega)) (by repeat (first | with_reducible exact Gr.refl _ | with_reducible refine Gr.drewN ?_ _ | with_reducible refine Gr.drew ?_ | with_reducible refine Gr.alloc ?_ _ | with_reducible refine Gr.setCell ?_ ?_ _ | (with_reducible refine Gr.trans ?_ (by assumption)) | omega | (dsimp only; omega))) (Nat.le_refl _); have k0 := grown_cell (b := w.heap.size) (o := 0) hb1 (v := .string k) (by simp [go_sem, cell_new_drewN, drewN_heap]) (by omega); have k1 := grown_cell (b := w.heap.size) (o := 1) hb1 (v := .string v) (by simp [go_sem, cell_new_drewN, drewN_heap]) (by omega); (try (have r0 := grown_cell (b := w.heap.size + 1) (o := 0) hb1 (v := .string k) (by simp [go_sem, cell_new_drewN, drewN_heap]) (by omega); have r1 := grown_cell (b := w.heap.size + 1) (o := 1) hb1 (v := .string v) (by simp [go_sem, cell_new_drewN, drewN_heap]) (by omega))))
      | (refine step_rows_g rfl _ _ rfl w.heap.size (by simp [drewN_heap]; omega) rfl ((own_empty_b (by simp [drewN_heap]) (by omega)).keep ((Gr.refl _).alloc _)) rfl (hh.out _ (by repeat (first | with_reducible exact Gr.refl _ | with_reducible refine Gr.drewN ?_ _ | with_reducible refine Gr.drew ?_ | with_reducible refine Gr.alloc ?_ _ | with_reducible refine Gr.setCell ?_ ?_ _ | (with_reducible refine Gr.trans ?_ (by assumption)) | omega | (dsimp only; omega)))) (by omega) ?_; intro oc c3 w1 ho1 hb1; simp only [Nat.zero_add, List.nil_append] at ho1; have hg1 : Gr w w1 := grown_gr hb1 ((own_empty_b (base := w.heap.size) (by simp [drewN_heap]) (by omega)).keep ((Gr.refl _).alloc _)) (by repeat (first | with_reducible exact Gr.refl _ | with_reducible refine Gr.drewN ?_ _ | with_reducible refine Gr.drew ?_ | with_reducible refine Gr.alloc ?_ _ | with_reducible refine Gr.setCell ?_ ?_ _ | (with_reducible refine Gr.trans ?_ (by assumption)) | omega | (dsimp only; omega))) (Nat.le_refl _); have k0 := grown_cell (b := w.heap.size) (o := 0) hb1 (v := .string k) (by simp [go_sem, cell_new_drewN, drewN_heap]) (by omega); have k1 := grown_cell (b := w.heap.size) (o := 1) hb1 (v := .string v) (by simp [go_sem, cell_new_drewN, drewN_heap]) (by omega); have r0 := grown_cell (b := w.heap.size + 2) (o := 0) hb1 (v := .string k) (by simp [go_sem, cell_new_drewN, drewN_heap]) (by omega); have r1 := grown_cell (b := w.heap.size + 2) (o := 1) hb1 (v := .string v) (by simp [go_sem, cell_new_drewN, drewN_heap]) (by omega))
      | (refine step_rows (w0 := w) rfl _ _ rfl (by repeat (first | with_reducible exact Gr.refl _ | with_reducible refine Gr.drewN ?_ _ | with_reducible refine Gr.drew ?_ | with_reducible refine Gr.alloc ?_ _ | with_reducible refine Gr.setCell ?_ ?_ _ | (with_reducible refine Gr.trans ?_ (by assumption)) | omega | (dsimp only; omega))) rfl (ho1.keep ((Gr.refl _).alloc _)) rfl (row_one (b := w1.heap.size) (Nat.le_refl _) (by unfold maxLen; omega) (by simp [go_sem]) (by simp [go_sem]) hk hv) (by omega) ?_; intro oc2 c4 w2 ho2 hg2)
      | (refine step_rows (w0 := w) rfl _ _ rfl hg1 rfl ho1 rfl (row_one (Nat.le_refl _) (by unfold maxLen; omega) r0 r1 hk hv) (by omega) ?_; intro oc2 c4 w2 ho2 hg2))
    all_goals
      go_wp2_with (at_builtin; refine wpList_rows (w0 := w) rfl _ _ rfl (by repeat (first | with_reducible exact Gr.refl _ | with_reducible refine Gr.drewN ?_ _ | with_reducible refine Gr.drew ?_ | with_reducible refine Gr.alloc ?_ _ | with_reducible refine Gr.setCell ?_ ?_ _ | (with_reducible refine Gr.trans ?_ (by assumption)) | omega | (dsimp only; omega))) rfl ho2 rfl (ht.out _ (by repeat (first | with_reducible exact Gr.refl _ | with_reducible refine Gr.drewN ?_ _ | with_reducible refine Gr.drew ?_ | with_reducible refine Gr.alloc ?_ _ | with_reducible refine Gr.setCell ?_ ?_ _ | (with_reducible refine Gr.trans ?_ (by assumption)) | omega | (dsimp only; omega)))) (by omega) ?_; intro oc5 c5 w5 ho5 hg5)
      go_ret2
      exact ⟨_, _, _, rfl, ho5, hg5⟩
set_option maxRecDepth 100000 in
set_option maxHeartbeats 2000000 in
theorem refAheadL_new (l : List Rw) (oa : Option Addr) (n cap : Nat) (key : ByteArray) (w : World) (h : RowsAt w oa n cap l) (hn : n ≤ 1000000) (hks : key.size ≤ maxLen) :
    Calls Tryd.prog 29 #[.slice oa n cap, .string key] w fun e w' => ∃ o m c, e = .returned (.slice o m c) ∧ OwnAt w' w.heap.size o m c (aheadL key l) ∧ Gr w w' := by
  have Hlen := Lib.hid h.len
  obtain ⟨b1, off1, ho1, hc1⟩ := h.cells
  have Hc1 := Lib.hid hc1
  have Ho1 := Lib.hid (fun q => (ho1 q).1)
  have H1 := Lib.hid h
  have hn1 := h.cap_le
  have hm1 := h.cap_max
  unfold maxLen at hm1
  clear hc1 ho1 h
  go_enter Tryd.func29, Tryd.ntmps29
  go_wp2_with fail
  go_loopw [5, 6] (fun s5 s6 wr => ∃ (k : Nat) (o : Option Addr) (m c : Nat), k ≤ n ∧ m ≤ k ∧ s6 = .int .i64 k ∧ s5 = .slice o m c ∧ Hid (OwnAt wr w.heap.size o m c (aheadL key (l.take k))) ∧ Gr w wr) (fun _ s6 _ => n - (intOf s6).toNat)
  case atStart => exact ⟨0, none, 0, 0, Nat.zero_le _, Nat.le_refl _, rfl, rfl, Lib.hid (own_nil _ _), Gr.refl _⟩
  case round =>
    obtain ⟨k, o, m, c, hk, hmk, rfl, rfl, hO, hg⟩ := hrel
    by_cases hlt : k < n
    · have a1 := hg.keep (Hc1.out k hlt).1
      have a2 := hg.keep (Hc1.out k hlt).2
      have hI := run_row cap Ho1.out hlt
      have hz := H1.out.sizes k hlt
      have hkl : k < l.length := by rw [Hlen.out]; exact hlt
      have hBf := fun w1 => before_any (kAt l k) key w1 hz.1 hks
      have htk : aheadL key (l.take (k + 1)) = aheadL key (l.take k) ++ (if Str.before (Tx (kAt l k)) (Tx key) = true then [⟨kAt l k, vAt l k⟩] else []) := by
        unfold aheadL
        rw [List.take_succ_eq_append_getElem hkl, List.filter_append]
        congr 1
        have e : (⟨kAt l k, vAt l k⟩ : Rw) = l[k] := by unfold kAt vAt; rw [rAt_lt hkl]
        rw [e]
        have e2 : kAt l k = l[k].key := by unfold kAt; rw [rAt_lt hkl]
        rw [e2, List.filter_cons]
        rfl
      cases hb : Str.before (Tx (kAt l k)) (Tx key)
      · rw [hb] at hBf htk
        have hBf := Lib.hid hBf
        rw [if_neg (by decide), List.append_nil] at htk
        have Htk := Lib.hid htk
        clear hb htk hkl
        go_wp2_with (go_at_call 30; (with_reducible refine (hBf.out _).mono ?_); rintro e w2 ⟨rfl, d, rfl⟩)
        go_roundw
        case rel => exact ⟨k + 1, o, m, c, by omega, by omega, by go_num, rfl, by rw [Htk.out]; exact Lib.hid (hO.out.keep ((Gr.refl _).drewN _)), hg.drewN _⟩
        case measure => simp [intOf]; omega
      · rw [hb] at hBf htk
        have hBf := Lib.hid hBf
        rw [if_pos rfl] at htk
        have Htk := Lib.hid htk
        clear hb htk hkl
        go_wp2_with (first | (go_at_call 30; (with_reducible refine (hBf.out _).mono ?_); rintro e w2 ⟨rfl, d, rfl⟩; have hgd := hg.drewN d; have HOx := Lib.hid (hO.out.keep (((Gr.refl wr).drewN d).alloc (.cells #[.string (kAt l k), .string (vAt l k)] 41)))) | (at_builtin; refine wpList_rows_g rfl _ _ rfl w.heap.size (hgd.alloc _).le rfl HOx.out rfl (row_one (b := (wr.drewN d).heap.size) (Nat.le_refl _) (by unfold maxLen; omega) (World.cell?_alloc_new (wr.drewN d) _ _ 0) (World.cell?_alloc_new (wr.drewN d) _ _ 1) hz.1 hz.2) (by omega) ?_; intro oc c3 w3 ho3 hb3; (have hg3 : Gr w w3 := grown_gr hb3 HOx.out (hgd.alloc _) (Nat.le_refl _)); have HO3 := Lib.hid ho3; clear ho3 hb3))
        go_roundw
        case rel => exact ⟨k + 1, oc, m + 1, c3, by omega, by omega, by go_num, rfl, by rw [Htk.out]; exact HO3, hg3⟩
        case measure => simp [intOf]; omega
    · obtain rfl : k = n := by omega
      have hR := hO.out
      rw [List.take_of_length_le (by rw [Hlen.out]; exact Nat.le_refl _)] at hR
      have HR := Lib.hid hR
      clear hR
      go_wp2_with fail
      go_ret
      exact ⟨o, m, c, rfl, HR.out, hg⟩
end Go.Proofs.YtidfelbaegaphaaDoor
