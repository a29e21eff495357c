import Derived.Test.YtkngjnkecmjakaaHq
import Derived.Test.YtkngjnkecmjakaaPtO
import Derived.Test.YtkngjnkecmjakaaSf
import Derived.Test.YtkngjnkecmjakaaEo
namespace Go.Proofs.Ytkngjnkecmjakaa
set_option linter.unusedVariables false
set_option linter.unusedSimpArgs false
open Go.BigFrame Go.RowKit Go.WideShapes

set_option maxRecDepth 100000 in
set_option maxHeartbeats 1000000 in
theorem refDrop_own (oa : Option Addr) (n cap : Nat) (l : List Rw) (key : ByteArray) (w : World) {base : Nat} (hb0 : base ≤ w.heap.size) (h0 : OwnAt w base oa n cap l) (hn : n ≤ 1000000) (hk : key.size ≤ maxLen) :
    Calls Try.prog 35 #[.slice oa n cap, .string key] w fun e w' => ∃ o1 m1 c1, e = .returned (.tuple #[.slice o1 m1 c1, .bool (hasB key l)]) ∧ OwnAt w' base o1 m1 c1 (dropL l key) ∧ Gr w w' := by
  have h := h0.rows
  have HO := Lib.hid h0
  clear h0
  have hF := Lib.hid (refFind_any oa n cap l key w h hk)
  have hle := place_le key l
  rw [h.len] at hle
  have hlt : hasB key l = true → place key l < n := fun q => by
    unfold hasB at q
    rw [decide_eq_true_iff, h.len] at q
    exact q.1
  have H := Lib.hid h
  have hc := h.cap_le
  clear h
  unfold dropL
  generalize place key l = p at *
  cases hB : hasB key l
  · rw [hB] at hF
    rw [if_neg (by decide)]
    clear hlt hB
    go_enter Try.func35, Try.ntmps35
    go_wp2_with (go_at_call 34; (with_reducible refine hF.out.mono ?_); rintro e w' ⟨rfl, d, rfl⟩)
    go_ret2
    exact ⟨_, _, _, rfl, HO.out.keep (by repeat (first | with_reducible exact Gr.refl _ | with_reducible refine Gr.drewN ?_ _ | with_reducible refine Gr.drew ?_ | with_reducible refine Gr.alloc ?_ _ | with_reducible refine Gr.setCell ?_ ?_ _ | (with_reducible refine Gr.trans ?_ (by assumption)) | omega | (dsimp only; omega))), by repeat (first | with_reducible exact Gr.refl _ | with_reducible refine Gr.drewN ?_ _ | with_reducible refine Gr.drew ?_ | with_reducible refine Gr.alloc ?_ _ | with_reducible refine Gr.setCell ?_ ?_ _ | (with_reducible refine Gr.trans ?_ (by assumption)) | omega | (dsimp only; omega))⟩
  · rw [hB] at hF
    have hlt := hlt hB
    rw [if_pos rfl]
    clear hB
    have hh := Lib.hid (fun w1 (hg : Gr w w1) => (H.out.keep hg).head (k := p) (by omega))
    have ht := Lib.hid (fun w1 (hg : Gr w w1) => (H.out.keep hg).tail (k := p + 1) (by omega))
    have t1 := run_head oa n cap p (by omega)
    have t2 := run_tail oa n cap (p + 1) (by omega)
    have e1 : IntKind.i64.wrap ((p : Int) + 1) = (p : Int) + 1 := IntWalk.i64_in _ (by have := H.out.cap_max; unfold maxLen at this; omega)
    have t3 : ((p + 1 : Nat) : Int) = (p : Int) + 1 := by omega
    rw [t3] at t2
    go_enter Try.func35, Try.ntmps35
    go_wp2_with (go_at_call 34; (with_reducible refine hF.out.mono ?_); rintro e w' ⟨rfl, d, rfl⟩)
    go_region_law (first
      | (refine step_rows (w0 := w) rfl _ _ rfl (by repeat (first | with_reducible exact Gr.refl _ | with_reducible refine Gr.drewN ?_ _ | with_reducible refine Gr.drew ?_ | with_reducible refine Gr.alloc ?_ _ | with_reducible refine Gr.setCell ?_ ?_ _ | (with_reducible refine Gr.trans ?_ (by assumption)) | omega | (dsimp only; omega))) rfl (own_empty (by repeat (first | with_reducible exact Gr.refl _ | with_reducible refine Gr.drewN ?_ _ | with_reducible refine Gr.drew ?_ | with_reducible refine Gr.alloc ?_ _ | with_reducible refine Gr.setCell ?_ ?_ _ | (with_reducible refine Gr.trans ?_ (by assumption)) | omega | (dsimp only; omega)))) rfl (hh.out _ (by repeat (first | with_reducible exact Gr.refl _ | with_reducible refine Gr.drewN ?_ _ | with_reducible refine Gr.drew ?_ | with_reducible refine Gr.alloc ?_ _ | with_reducible refine Gr.setCell ?_ ?_ _ | (with_reducible refine Gr.trans ?_ (by assumption)) | omega | (dsimp only; omega)))) (by omega) ?_; intro oc c3 w1 ho1 hg1; simp only [Nat.zero_add, List.nil_append] at ho1)
      | (refine step_rows (w0 := w) rfl _ _ rfl hg1 rfl ho1 rfl (ht.out _ hg1) (by omega) ?_; intro oc2 c4 w2 ho2 hg2))
    all_goals
      go_wp2_with fail
      go_ret2
      exact ⟨_, _, _, rfl, by simpa using ho2.lower2 hb0, hg2⟩

set_option maxRecDepth 100000 in
set_option maxHeartbeats 1000000 in
theorem refPut_own (oa : Option Addr) (n cap : Nat) (l : List Rw) (k v : ByteArray) (w : World) {base : Nat} (hb0 : base ≤ w.heap.size) (h0 : OwnAt w base oa n cap l) (hn : n ≤ 1000000) (hk : k.size ≤ maxLen) (hv : v.size ≤ maxLen) :
    Calls Try.prog 36 #[.slice oa n cap, .agg #[.string k, .string v]] w fun e w' => ∃ o1 m1 c1, e = .returned (.tuple #[.slice o1 m1 c1, .bool (hasB k l)]) ∧ OwnAt w' base o1 m1 c1 (putL l ⟨k, v⟩) ∧ Gr w w' := by
  have h := h0.rows
  have HO := Lib.hid h0
  clear h0
  have b0 := box_key w k v
  have b1 := box_val w k v
  have hD := Lib.hid (fun w1 (hg : Gr w w1) => refFind_any oa n cap l k w1 (h.keep hg) hk)
  have hle := place_le k l
  rw [h.len] at hle
  have hlt : hasB k l = true → place k l < n := fun q => by
    unfold hasB at q
    rw [decide_eq_true_iff, h.len] at q
    exact q.1
  have H := Lib.hid h
  have hc := h.cap_le
  have hm := h.cap_max
  unfold maxLen at hm
  clear h
  unfold putL
  dsimp only
  generalize place k l = p at *
  have hh := Lib.hid (fun w1 (hg : Gr w w1) => (H.out.keep hg).head (k := p) (by omega))
  have t1 := run_head oa n cap p (by omega)
  cases hB : hasB k l
  · rw [hB] at hD
    rw [if_neg (by decide)]
    clear hlt hB
    have ht := Lib.hid (fun w1 (hg : Gr w w1) => (H.out.keep hg).tail (k := p) (by omega))
    have t2 := run_tail oa n cap p (by omega)
    go_enter Try.func36, Try.ntmps36
    go_wp2_with (go_at_call 34; (refine (hD.out _ (by repeat (first | with_reducible exact Gr.refl _ | with_reducible refine Gr.drewN ?_ _ | with_reducible refine Gr.drew ?_ | with_reducible refine Gr.alloc ?_ _ | with_reducible refine Gr.setCell ?_ ?_ _ | (with_reducible refine Gr.trans ?_ (by assumption)) | omega | (dsimp only; omega)))).mono ?_); rintro e w' ⟨rfl, d, rfl⟩)
    go_region_law (first
      | (refine step_rows_g rfl _ _ rfl w.heap.size (by simp [drewN_heap]; omega) rfl (own_empty_b (by simp [drewN_heap]) (by omega)) rfl (hh.out _ (by repeat (first | with_reducible exact Gr.refl _ | with_reducible refine Gr.drewN ?_ _ | with_reducible refine Gr.drew ?_ | with_reducible refine Gr.alloc ?_ _ | with_reducible refine Gr.setCell ?_ ?_ _ | (with_reducible refine Gr.trans ?_ (by assumption)) | omega | (dsimp only; omega)))) (by omega) ?_; intro oc c3 w1 ho1 hb1; simp only [Nat.zero_add, List.nil_append] at ho1; have hg1 : Gr w w1 := grown_gr hb1 (own_empty_b (base := w.heap.size) (by simp [drewN_heap]) (by omega)) (by repeat (first | with_reducible exact Gr.refl _ | with_reducible refine Gr.drewN ?_ _ | with_reducible refine Gr.drew ?_ | with_reducible refine Gr.alloc ?_ _ | with_reducible refine Gr.setCell ?_ ?_ _ | (with_reducible refine Gr.trans ?_ (by assumption)) | omega | (dsimp only; omega))) (Nat.le_refl _); have k0 := grown_cell (b := w.heap.size) (o := 0) hb1 (v := .string k) (by simp [go_sem, cell_new_drewN, drewN_heap]) (by omega); have k1 := grown_cell (b := w.heap.size) (o := 1) hb1 (v := .string v) (by simp [go_sem, cell_new_drewN, drewN_heap]) (by omega); (try (have r0 := grown_cell (b := w.heap.size + 1) (o := 0) hb1 (v := .string k) (by simp [go_sem, cell_new_drewN, drewN_heap]) (by omega); have r1 := grown_cell (b := w.heap.size + 1) (o := 1) hb1 (v := .string v) (by simp [go_sem, cell_new_drewN, drewN_heap]) (by omega))))
      | (refine step_rows_g rfl _ _ rfl w.heap.size (by simp [drewN_heap]; omega) rfl ((own_empty_b (by simp [drewN_heap]) (by omega)).keep ((Gr.refl _).alloc _)) rfl (hh.out _ (by repeat (first | with_reducible exact Gr.refl _ | with_reducible refine Gr.drewN ?_ _ | with_reducible refine Gr.drew ?_ | with_reducible refine Gr.alloc ?_ _ | with_reducible refine Gr.setCell ?_ ?_ _ | (with_reducible refine Gr.trans ?_ (by assumption)) | omega | (dsimp only; omega)))) (by omega) ?_; intro oc c3 w1 ho1 hb1; simp only [Nat.zero_add, List.nil_append] at ho1; have hg1 : Gr w w1 := grown_gr hb1 ((own_empty_b (base := w.heap.size) (by simp [drewN_heap]) (by omega)).keep ((Gr.refl _).alloc _)) (by repeat (first | with_reducible exact Gr.refl _ | with_reducible refine Gr.drewN ?_ _ | with_reducible refine Gr.drew ?_ | with_reducible refine Gr.alloc ?_ _ | with_reducible refine Gr.setCell ?_ ?_ _ | (with_reducible refine Gr.trans ?_ (by assumption)) | omega | (dsimp only; omega))) (Nat.le_refl _); have k0 := grown_cell (b := w.heap.size) (o := 0) hb1 (v := .string k) (by simp [go_sem, cell_new_drewN, drewN_heap]) (by omega); have k1 := grown_cell (b := w.heap.size) (o := 1) hb1 (v := .string v) (by simp [go_sem, cell_new_drewN, drewN_heap]) (by omega); have r0 := grown_cell (b := w.heap.size + 2) (o := 0) hb1 (v := .string k) (by simp [go_sem, cell_new_drewN, drewN_heap]) (by omega); have r1 := grown_cell (b := w.heap.size + 2) (o := 1) hb1 (v := .string v) (by simp [go_sem, cell_new_drewN, drewN_heap]) (by omega))
      | (refine step_rows (w0 := w) rfl _ _ rfl (by repeat (first | with_reducible exact Gr.refl _ | with_reducible refine Gr.drewN ?_ _ | with_reducible refine Gr.drew ?_ | with_reducible refine Gr.alloc ?_ _ | with_reducible refine Gr.setCell ?_ ?_ _ | (with_reducible refine Gr.trans ?_ (by assumption)) | omega | (dsimp only; omega))) rfl (ho1.keep ((Gr.refl _).alloc _)) rfl (row_one (b := w1.heap.size) (Nat.le_refl _) (by unfold maxLen; omega) (by simp [go_sem]) (by simp [go_sem]) hk hv) (by omega) ?_; intro oc2 c4 w2 ho2 hg2)
      | (refine step_rows (w0 := w) rfl _ _ rfl hg1 rfl ho1 rfl (row_one (Nat.le_refl _) (by unfold maxLen; omega) r0 r1 hk hv) (by omega) ?_; intro oc2 c4 w2 ho2 hg2))
    all_goals
      go_wp2_with (at_builtin; refine wpList_rows (w0 := w) rfl _ _ rfl (by repeat (first | with_reducible exact Gr.refl _ | with_reducible refine Gr.drewN ?_ _ | with_reducible refine Gr.drew ?_ | with_reducible refine Gr.alloc ?_ _ | with_reducible refine Gr.setCell ?_ ?_ _ | (with_reducible refine Gr.trans ?_ (by assumption)) | omega | (dsimp only; omega))) rfl ho2 rfl (ht.out _ (by repeat (first | with_reducible exact Gr.refl _ | with_reducible refine Gr.drewN ?_ _ | with_reducible refine Gr.drew ?_ | with_reducible refine Gr.alloc ?_ _ | with_reducible refine Gr.setCell ?_ ?_ _ | (with_reducible refine Gr.trans ?_ (by assumption)) | omega | (dsimp only; omega)))) (by omega) ?_; intro oc5 c5 w5 ho5 hg5)
      go_ret2
      exact ⟨_, _, _, rfl, ho5.lower2 hb0, hg5⟩
  · rw [hB] at hD
    have hlt := hlt hB
    rw [if_pos rfl]
    clear hB
    have ht := Lib.hid (fun w1 (hg : Gr w w1) => (H.out.keep hg).tail (k := p + 1) (by omega))
    have t2 := run_tail oa n cap (p + 1) (by omega)
    have t3 : ((p + 1 : Nat) : Int) = (p : Int) + 1 := by omega
    rw [t3] at t2
    go_enter Try.func36, Try.ntmps36
    go_wp2_with (go_at_call 34; (refine (hD.out _ (by repeat (first | with_reducible exact Gr.refl _ | with_reducible refine Gr.drewN ?_ _ | with_reducible refine Gr.drew ?_ | with_reducible refine Gr.alloc ?_ _ | with_reducible refine Gr.setCell ?_ ?_ _ | (with_reducible refine Gr.trans ?_ (by assumption)) | omega | (dsimp only; omega)))).mono ?_); rintro e w' ⟨rfl, d, rfl⟩)
    go_region_law (first
      | (refine step_rows_g rfl _ _ rfl w.heap.size (by simp [drewN_heap]; omega) rfl (own_empty_b (by simp [drewN_heap]) (by omega)) rfl (hh.out _ (by repeat (first | with_reducible exact Gr.refl _ | with_reducible refine Gr.drewN ?_ _ | with_reducible refine Gr.drew ?_ | with_reducible refine Gr.alloc ?_ _ | with_reducible refine Gr.setCell ?_ ?_ _ | (with_reducible refine Gr.trans ?_ (by assumption)) | omega | (dsimp only; omega)))) (by omega) ?_; intro oc c3 w1 ho1 hb1; simp only [Nat.zero_add, List.nil_append] at ho1; have hg1 : Gr w w1 := grown_gr hb1 (own_empty_b (base := w.heap.size) (by simp [drewN_heap]) (by omega)) (by repeat (first | with_reducible exact Gr.refl _ | with_reducible refine Gr.drewN ?_ _ | with_reducible refine Gr.drew ?_ | with_reducible refine Gr.alloc ?_ _ | with_reducible refine Gr.setCell ?_ ?_ _ | (with_reducible refine Gr.trans ?_ (by assumption)) | omega | (dsimp only; omega))) (Nat.le_refl _); have k0 := grown_cell (b := w.heap.size) (o := 0) hb1 (v := .string k) (by simp [go_sem, cell_new_drewN, drewN_heap]) (by omega); have k1 := grown_cell (b := w.heap.size) (o := 1) hb1 (v := .string v) (by simp [go_sem, cell_new_drewN, drewN_heap]) (by omega); (try (have r0 := grown_cell (b := w.heap.size + 1) (o := 0) hb1 (v := .string k) (by simp [go_sem, cell_new_drewN, drewN_heap]) (by omega); have r1 := grown_cell (b := w.heap.size + 1) (o := 1) hb1 (v := .string v) (by simp [go_sem, cell_new_drewN, drewN_heap]) (by omega))))
      | (refine step_rows_g rfl _ _ rfl w.heap.size (by simp [drewN_heap]; omega) rfl ((own_empty_b (by simp [drewN_heap]) (by omega)).keep ((Gr.refl _).alloc _)) rfl (hh.out _ (by repeat (first | with_reducible exact Gr.refl _ | with_reducible refine Gr.drewN ?_ _ | with_reducible refine Gr.drew ?_ | with_reducible refine Gr.alloc ?_ _ | with_reducible refine Gr.setCell ?_ ?_ _ | (with_reducible refine Gr.trans ?_ (by assumption)) | omega | (dsimp only; omega)))) (by omega) ?_; intro oc c3 w1 ho1 hb1; simp only [Nat.zero_add, List.nil_append] at ho1; have hg1 : Gr w w1 := grown_gr hb1 ((own_empty_b (base := w.heap.size) (by simp [drewN_heap]) (by omega)).keep ((Gr.refl _).alloc _)) (by repeat (first | with_reducible exact Gr.refl _ | with_reducible refine Gr.drewN ?_ _ | with_reducible refine Gr.drew ?_ | with_reducible refine Gr.alloc ?_ _ | with_reducible refine Gr.setCell ?_ ?_ _ | (with_reducible refine Gr.trans ?_ (by assumption)) | omega | (dsimp only; omega))) (Nat.le_refl _); have k0 := grown_cell (b := w.heap.size) (o := 0) hb1 (v := .string k) (by simp [go_sem, cell_new_drewN, drewN_heap]) (by omega); have k1 := grown_cell (b := w.heap.size) (o := 1) hb1 (v := .string v) (by simp [go_sem, cell_new_drewN, drewN_heap]) (by omega); have r0 := grown_cell (b := w.heap.size + 2) (o := 0) hb1 (v := .string k) (by simp [go_sem, cell_new_drewN, drewN_heap]) (by omega); have r1 := grown_cell (b := w.heap.size + 2) (o := 1) hb1 (v := .string v) (by simp [go_sem, cell_new_drewN, drewN_heap]) (by omega))
      | (refine step_rows (w0 := w) rfl _ _ rfl (by repeat (first | with_reducible exact Gr.refl _ | with_reducible refine Gr.drewN ?_ _ | with_reducible refine Gr.drew ?_ | with_reducible refine Gr.alloc ?_ _ | with_reducible refine Gr.setCell ?_ ?_ _ | (with_reducible refine Gr.trans ?_ (by assumption)) | omega | (dsimp only; omega))) rfl (ho1.keep ((Gr.refl _).alloc _)) rfl (row_one (b := w1.heap.size) (Nat.le_refl _) (by unfold maxLen; omega) (by simp [go_sem]) (by simp [go_sem]) hk hv) (by omega) ?_; intro oc2 c4 w2 ho2 hg2)
      | (refine step_rows (w0 := w) rfl _ _ rfl hg1 rfl ho1 rfl (row_one (Nat.le_refl _) (by unfold maxLen; omega) r0 r1 hk hv) (by omega) ?_; intro oc2 c4 w2 ho2 hg2))
    all_goals
      go_wp2_with (at_builtin; refine wpList_rows (w0 := w) rfl _ _ rfl (by repeat (first | with_reducible exact Gr.refl _ | with_reducible refine Gr.drewN ?_ _ | with_reducible refine Gr.drew ?_ | with_reducible refine Gr.alloc ?_ _ | with_reducible refine Gr.setCell ?_ ?_ _ | (with_reducible refine Gr.trans ?_ (by assumption)) | omega | (dsimp only; omega))) rfl ho2 rfl (ht.out _ (by repeat (first | with_reducible exact Gr.refl _ | with_reducible refine Gr.drewN ?_ _ | with_reducible refine Gr.drew ?_ | with_reducible refine Gr.alloc ?_ _ | with_reducible refine Gr.setCell ?_ ?_ _ | (with_reducible refine Gr.trans ?_ (by assumption)) | omega | (dsimp only; omega)))) (by omega) ?_; intro oc5 c5 w5 ho5 hg5)
      go_ret2
      exact ⟨_, _, _, rfl, ho5.lower2 hb0, hg5⟩
/-- what the document's Apply hands back, of rows of one's own -/
def ToldO (base : Nat) (w : World) (r : List Rw × ByteArray × Int) (e : Ending) (w' : World) : Prop := ∃ o q c, e = .returned (.tuple #[.slice o q c, .string r.2.1, .int .i64 r.2.2]) ∧ OwnAt w' base o q c r.1 ∧ Gr w w'

set_option maxRecDepth 100000 in
set_option maxHeartbeats 4000000 in
theorem refApply_own (oa : Option Addr) (n cap : Nat) (l : List Rw) (kind : Int) (key val : ByteArray) (w : World) {base : Nat} (hb0 : base ≤ w.heap.size) (h0 : OwnAt w base oa n cap l) (hn : n ≤ 1000000) (hk : key.size ≤ maxLen) (hv : val.size ≤ maxLen) (hkd : kind = 1 ∨ kind = 2 ∨ kind = 3 ∨ kind = 4 ∨ kind = 5) :
    Calls Try.prog 19 #[.slice oa n cap, .agg #[.int .i64 kind, .string key, .string val]] w (ToldO base w (applyL kind key val l)) := by
  have h := h0.rows
  have HO := Lib.hid h0
  clear h0
  have hF := fun w1 (hg : Gr w w1) => refFind_any oa n cap l key w1 (h.keep hg) hk
  have H := Lib.hid h
  clear h
  have y0 : (callW w kind key val).cell? ⟨w.heap.size, 0, none⟩ = some (.int .i64 kind) := by simp [go_sem]
  have y1 : (callW w kind key val).cell? ⟨w.heap.size, 1, none⟩ = some (.string key) := by simp [go_sem]
  have y2 : (callW w kind key val).cell? ⟨w.heap.size, 2, none⟩ = some (.string val) := by simp [go_sem]
  have hg0 : Gr w (callW w kind key val) := (Gr.refl w).alloc _
  cases hh : hasB key l
  · rw [hh] at hF
    have HF := Lib.hid hF
    clear hF
    have Hh := Lib.hid hh
    rcases hkd with rfl | rfl | rfl | rfl | rfl
    all_goals
      go_enter Try.func19, Try.ntmps19
      go_wp2_with fail
      refine (HF.out _ hg0).mono ?_
      rintro e w1 ⟨rfl, hd⟩
      have hg1 := hd.gr
      have y0 := hg1.keep y0
      have y1 := hg1.keep y1
      have y2 := hg1.keep y2
      have hgn := hg0.trans hg1
      clear hg0 hg1 hd hh
      go_wp2_with (first
        | (go_at_call 35; refine (refDrop_own oa n cap l key _ (Nat.le_trans hb0 hgn.le) (HO.out.keep hgn) hn hk).mono ?_; rintro e w2 ⟨o2, q2, c2, rfl, hr2, hg2⟩)
        | (go_at_call 36; refine (refPut_own oa n cap l key val _ (Nat.le_trans hb0 hgn.le) (HO.out.keep hgn) hn hk hv).mono ?_; rintro e w2 ⟨o2, q2, c2, rfl, hr2, hg2⟩))
      go_ret3
      first
        | exact ⟨o2, q2, c2, (by simp [applyL, Hh.out, wasOf]), (by simpa [applyL, Hh.out, wasOf] using hr2), hgn.trans hg2⟩
        | exact ⟨oa, n, cap, (by simp [applyL, Hh.out, wasOf]), (by simpa [applyL, Hh.out, wasOf] using HO.out.keep hgn), hgn⟩
  · rw [hh] at hF
    have HF := Lib.hid hF
    clear hF
    have Hh := Lib.hid hh
    have hlt := has_lt hh
    rw [H.out.len] at hlt
    have h2 := H.out
    obtain ⟨b1, off1, ho1, hc1⟩ := h2.cells
    have Hc1 := Lib.hid hc1
    have Ho1 := Lib.hid (fun q => (ho1 q).1)
    have H1 := Lib.hid h2
    have hn1 := h2.cap_le
    have hm1 := h2.cap_max
    unfold maxLen at hm1
    clear hc1 ho1 h2
    rcases hkd with rfl | rfl | rfl | rfl | rfl
    all_goals
      go_enter Try.func19, Try.ntmps19
      go_wp2_with fail
      refine (HF.out _ hg0).mono ?_
      rintro e w1 ⟨rfl, hd⟩
      have hg1 := hd.gr
      have y0 := hg1.keep y0
      have y1 := hg1.keep y1
      have y2 := hg1.keep y2
      have hgn := hg0.trans hg1
      have a1 := hgn.keep (Hc1.out _ hlt).1
      have a2 := hgn.keep (Hc1.out _ hlt).2
      have hI := run_row cap Ho1.out hlt
      clear hg0 hg1 hd hh
      go_wp2_with (first
        | (go_at_call 35; refine (refDrop_own oa n cap l key _ (Nat.le_trans hb0 hgn.le) (HO.out.keep hgn) hn hk).mono ?_; rintro e w2 ⟨o2, q2, c2, rfl, hr2, hg2⟩)
        | (go_at_call 36; refine (refPut_own oa n cap l key val _ (Nat.le_trans hb0 hgn.le) (HO.out.keep hgn) hn hk hv).mono ?_; rintro e w2 ⟨o2, q2, c2, rfl, hr2, hg2⟩))
      go_ret3
      first
        | exact ⟨o2, q2, c2, (by simp [applyL, Hh.out, wasOf]), (by simpa [applyL, Hh.out, wasOf] using hr2), hgn.trans hg2⟩
        | exact ⟨oa, n, cap, (by simp [applyL, Hh.out, wasOf]), (by simpa [applyL, Hh.out, wasOf] using HO.out.keep hgn), hgn⟩
/-- an append to events of one's own leaves what rows lie in -/
theorem evFr {w w2 : World} {base : Nat} {oe : Option Addr} {n cap : Nat} {l : List Ev} (h : OwnE w base oe n cap l) (hg : w.grownBy w2 (Value.ownBlock (.slice oe n cap))) : Fr w w2 := fun b cs q => by
  have hlt : b < w.heap.size := by
    rcases Nat.lt_or_ge b w.heap.size with r | r
    · exact r
    · rw [Array.getElem?_eq_none r] at q; cases q
  refine hg.block b hlt fun e => ?_
  rcases h.own.2 with ⟨e2, hn⟩ | ⟨g, cap, cur, e2, hb, hcur, rest⟩
  · rw [e2] at e; simp [Value.ownBlock] at e
  · rw [e2] at e
    simp only [Value.ownBlock, Option.some.injEq] at e
    subst e
    rw [hcur] at q
    simp only [Option.some.injEq, Obj.cells.injEq] at q
    exact absurd q.2.1 (by decide)
end Go.Proofs.Ytkngjnkecmjakaa
