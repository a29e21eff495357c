import Derived.Test.YtopomocbjlikjaaWn20z
import Derived.Test.YtopomocbjlikjaaPtOz
namespace Go.Proofs.Ytopomocbjlikjaa
set_option linter.unusedVariables false
set_option linter.unusedSimpArgs false
open Go.BigFrame Go.RowKit Go.WideShapes

/-! The document's Put, Drop, Over, Written: what they give is the call's own (out of RfO, Fo, Wn20). -/
set_option maxRecDepth 100000 in
set_option maxHeartbeats 1000000 in
theorem refDrop_own (oa : Option Addr) (n cap : Nat) (l : List Rw) (key : ByteArray) (w : World) {base : Nat} (hb0 : base ≤ w.heap.size) (h0 : OwnAt w base oa n cap l) (hn : n ≤ 1000000) (hk : key.size ≤ maxLen) :
    Calls Try.prog 27 #[.slice oa n cap, .string key] w fun e w' => ∃ o1 m1 c1, e = .returned (.tuple #[.slice o1 m1 c1, .bool (hasB key l)]) ∧ OwnAt w' base o1 m1 c1 (dropL l key) ∧ Gr w w' := by
  have h := h0.rows
  have HO := Lib.hid h0
  clear h0
  have hF := Lib.hid (refFind_any oa n cap l key w h hk)
  have hle := place_le key l
  rw [h.len] at hle
  have hlt : hasB key l = true → place key l < n := fun q => by
    unfold hasB at q
    rw [decide_eq_true_iff, h.len] at q
    exact q.1
  have H := Lib.hid h
  have hc := h.cap_le
  clear h
  unfold dropL
  generalize place key l = p at *
  cases hB : hasB key l
  · rw [hB] at hF
    rw [if_neg (by decide)]
    clear hlt hB
    go_enter Try.func27, Try.ntmps27
    go_wp2_with (go_at_call 8; (with_reducible refine hF.out.mono ?_); rintro e w' ⟨rfl, d, rfl⟩)
    go_ret2
    exact ⟨_, _, _, rfl, HO.out.keep (by repeat (first | with_reducible exact Gr.refl _ | with_reducible refine Gr.drewN ?_ _ | with_reducible refine Gr.drew ?_ | with_reducible refine Gr.alloc ?_ _ | with_reducible refine Gr.setCell ?_ ?_ _ | (with_reducible refine Gr.trans ?_ (by assumption)) | omega | (dsimp only; omega))), by repeat (first | with_reducible exact Gr.refl _ | with_reducible refine Gr.drewN ?_ _ | with_reducible refine Gr.drew ?_ | with_reducible refine Gr.alloc ?_ _ | with_reducible refine Gr.setCell ?_ ?_ _ | (with_reducible refine Gr.trans ?_ (by assumption)) | omega | (dsimp only; omega))⟩
  · rw [hB] at hF
    have hlt := hlt hB
    rw [if_pos rfl]
    clear hB
    have hh := Lib.hid (fun w1 (hg : Gr w w1) => (H.out.keep hg).head (k := p) (by omega))
    have ht := Lib.hid (fun w1 (hg : Gr w w1) => (H.out.keep hg).tail (k := p + 1) (by omega))
    have t1 := run_head oa n cap p (by omega)
    have t2 := run_tail oa n cap (p + 1) (by omega)
    have e1 : IntKind.i64.wrap ((p : Int) + 1) = (p : Int) + 1 := IntWalk.i64_in _ (by have := H.out.cap_max; unfold maxLen at this; omega)
    have t3 : ((p + 1 : Nat) : Int) = (p : Int) + 1 := by omega
    rw [t3] at t2
    go_enter Try.func27, Try.ntmps27
    go_wp2_with (go_at_call 8; (with_reducible refine hF.out.mono ?_); rintro e w' ⟨rfl, d, rfl⟩)
    go_region_law (first
      | (refine step_rows (w0 := w) rfl _ _ rfl (by repeat (first | with_reducible exact Gr.refl _ | with_reducible refine Gr.drewN ?_ _ | with_reducible refine Gr.drew ?_ | with_reducible refine Gr.alloc ?_ _ | with_reducible refine Gr.setCell ?_ ?_ _ | (with_reducible refine Gr.trans ?_ (by assumption)) | omega | (dsimp only; omega))) rfl (own_empty (by repeat (first | with_reducible exact Gr.refl _ | with_reducible refine Gr.drewN ?_ _ | with_reducible refine Gr.drew ?_ | with_reducible refine Gr.alloc ?_ _ | with_reducible refine Gr.setCell ?_ ?_ _ | (with_reducible refine Gr.trans ?_ (by assumption)) | omega | (dsimp only; omega)))) rfl (hh.out _ (by repeat (first | with_reducible exact Gr.refl _ | with_reducible refine Gr.drewN ?_ _ | with_reducible refine Gr.drew ?_ | with_reducible refine Gr.alloc ?_ _ | with_reducible refine Gr.setCell ?_ ?_ _ | (with_reducible refine Gr.trans ?_ (by assumption)) | omega | (dsimp only; omega)))) (by omega) ?_; intro oc c3 w1 ho1 hg1; simp only [Nat.zero_add, List.nil_append] at ho1)
      | (refine step_rows (w0 := w) rfl _ _ rfl hg1 rfl ho1 rfl (ht.out _ hg1) (by omega) ?_; intro oc2 c4 w2 ho2 hg2))
    all_goals
      go_wp2_with fail
      go_ret2
      exact ⟨_, _, _, rfl, by simpa using ho2.lower2 hb0, hg2⟩

set_option maxRecDepth 100000 in
set_option maxHeartbeats 1000000 in
theorem refPut_own (oa : Option Addr) (n cap : Nat) (l : List Rw) (k v : ByteArray) (w : World) {base : Nat} (hb0 : base ≤ w.heap.size) (h0 : OwnAt w base oa n cap l) (hn : n ≤ 1000000) (hk : k.size ≤ maxLen) (hv : v.size ≤ maxLen) :
    Calls Try.prog 28 #[.slice oa n cap, .agg #[.string k, .string v]] w fun e w' => ∃ o1 m1 c1, e = .returned (.tuple #[.slice o1 m1 c1, .bool (hasB k l)]) ∧ OwnAt w' base o1 m1 c1 (putL l ⟨k, v⟩) ∧ Gr w w' := by
  have h := h0.rows
  have HO := Lib.hid h0
  clear h0
  have b0 := box_key w k v
  have b1 := box_val w k v
  have hD := Lib.hid (fun w1 (hg : Gr w w1) => refFind_any oa n cap l k w1 (h.keep hg) hk)
  have hle := place_le k l
  rw [h.len] at hle
  have hlt : hasB k l = true → place k l < n := fun q => by
    unfold hasB at q
    rw [decide_eq_true_iff, h.len] at q
    exact q.1
  have H := Lib.hid h
  have hc := h.cap_le
  have hm := h.cap_max
  unfold maxLen at hm
  clear h
  unfold putL
  dsimp only
  generalize place k l = p at *
  have hh := Lib.hid (fun w1 (hg : Gr w w1) => (H.out.keep hg).head (k := p) (by omega))
  have t1 := run_head oa n cap p (by omega)
  cases hB : hasB k l
  · rw [hB] at hD
    rw [if_neg (by decide)]
    clear hlt hB
    have ht := Lib.hid (fun w1 (hg : Gr w w1) => (H.out.keep hg).tail (k := p) (by omega))
    have t2 := run_tail oa n cap p (by omega)
    go_enter Try.func28, Try.ntmps28
    go_wp2_with (go_at_call 8; (refine (hD.out _ (by repeat (first | with_reducible exact Gr.refl _ | with_reducible refine Gr.drewN ?_ _ | with_reducible refine Gr.drew ?_ | with_reducible refine Gr.alloc ?_ _ | with_reducible refine Gr.setCell ?_ ?_ _ | (with_reducible refine Gr.trans ?_ (by assumption)) | omega | (dsimp only; omega)))).mono ?_); rintro e w' ⟨rfl, d, rfl⟩)
    go_region_law (first
      | (refine step_rows_g rfl _ _ rfl w.heap.size (by simp [drewN_heap]; omega) rfl (own_empty_b (by simp [drewN_heap]) (by omega)) rfl (hh.out _ (by repeat (first | with_reducible exact Gr.refl _ | with_reducible refine Gr.drewN ?_ _ | with_reducible refine Gr.drew ?_ | with_reducible refine Gr.alloc ?_ _ | with_reducible refine Gr.setCell ?_ ?_ _ | (with_reducible refine Gr.trans ?_ (by assumption)) | omega | (dsimp only; omega)))) (by omega) ?_; intro oc c3 w1 ho1 hb1; simp only [Nat.zero_add, List.nil_append] at ho1; have hg1 : Gr w w1 := grown_gr hb1 (own_empty_b (base := w.heap.size) (by simp [drewN_heap]) (by omega)) (by repeat (first | with_reducible exact Gr.refl _ | with_reducible refine Gr.drewN ?_ _ | with_reducible refine Gr.drew ?_ | with_reducible refine Gr.alloc ?_ _ | with_reducible refine Gr.setCell ?_ ?_ _ | (with_reducible refine Gr.trans ?_ (by assumption)) | omega | (dsimp only; omega))) (Nat.le_refl _); have k0 := grown_cell (b := w.heap.size) (o := 0) hb1 (v := .string k) (by simp [go_sem, cell_new_drewN, drewN_heap]) (by omega); have k1 := grown_cell (b := w.heap.size) (o := 1) hb1 (v := .string v) (by simp [go_sem, cell_new_drewN, drewN_heap]) (by omega); (try (have r0 := grown_cell (b := w.heap.size + 1) (o := 0) hb1 (v := .string k) (by simp [go_sem, cell_new_drewN, drewN_heap]) (by omega); have r1 := grown_cell (b := w.heap.size + 1) (o := 1) hb1 (v := .string v) (by simp [go_sem, cell_new_drewN, drewN_heap]) (by omega))))
      | (refine step_rows_g rfl _ _ rfl w.heap.size (by simp [drewN_heap]; omega) rfl ((own_empty_b (by simp [drewN_heap]) (by omega)).keep ((Gr.refl _).alloc _)) rfl (hh.out _ (by repeat (first | with_reducible exact Gr.refl _ | with_reducible refine Gr.drewN ?_ _ | with_reducible refine Gr.drew ?_ | with_reducible refine Gr.alloc ?_ _ | with_reducible refine Gr.setCell ?_ ?_ _ | (with_reducible refine Gr.trans ?_ (by assumption)) | omega | (dsimp only; omega)))) (by omega) ?_; intro oc c3 w1 ho1 hb1; simp only [Nat.zero_add, List.nil_append] at ho1; have hg1 : Gr w w1 := grown_gr hb1 ((own_empty_b (base := w.heap.size) (by simp [drewN_heap]) (by omega)).keep ((Gr.refl _).alloc _)) (by repeat (first | with_reducible exact Gr.refl _ | with_reducible refine Gr.drewN ?_ _ | with_reducible refine Gr.drew ?_ | with_reducible refine Gr.alloc ?_ _ | with_reducible refine Gr.setCell ?_ ?_ _ | (with_reducible refine Gr.trans ?_ (by assumption)) | omega | (dsimp only; omega))) (Nat.le_refl _); have k0 := grown_cell (b := w.heap.size) (o := 0) hb1 (v := .string k) (by simp [go_sem, cell_new_drewN, drewN_heap]) (by omega); have k1 := grown_cell (b := w.heap.size) (o := 1) hb1 (v := .string v) (by simp [go_sem, cell_new_drewN, drewN_heap]) (by omega); have r0 := grown_cell (b := w.heap.size + 2) (o := 0) hb1 (v := .string k) (by simp [go_sem, cell_new_drewN, drewN_heap]) (by omega); have r1 := grown_cell (b := w.heap.size + 2) (o := 1) hb1 (v := .string v) (by simp [go_sem, cell_new_drewN, drewN_heap]) (by omega))
      | (refine step_rows (w0 := w) rfl _ _ rfl (by repeat (first | with_reducible exact Gr.refl _ | with_reducible refine Gr.drewN ?_ _ | with_reducible refine Gr.drew ?_ | with_reducible refine Gr.alloc ?_ _ | with_reducible refine Gr.setCell ?_ ?_ _ | (with_reducible refine Gr.trans ?_ (by assumption)) | omega | (dsimp only; omega))) rfl (ho1.keep ((Gr.refl _).alloc _)) rfl (row_one (b := w1.heap.size) (Nat.le_refl _) (by unfold maxLen; omega) (by simp [go_sem]) (by simp [go_sem]) hk hv) (by omega) ?_; intro oc2 c4 w2 ho2 hg2)
      | (refine step_rows (w0 := w) rfl _ _ rfl hg1 rfl ho1 rfl (row_one (Nat.le_refl _) (by unfold maxLen; omega) r0 r1 hk hv) (by omega) ?_; intro oc2 c4 w2 ho2 hg2))
    all_goals
      go_wp2_with (at_builtin; refine wpList_rows (w0 := w) rfl _ _ rfl (by repeat (first | with_reducible exact Gr.refl _ | with_reducible refine Gr.drewN ?_ _ | with_reducible refine Gr.drew ?_ | with_reducible refine Gr.alloc ?_ _ | with_reducible refine Gr.setCell ?_ ?_ _ | (with_reducible refine Gr.trans ?_ (by assumption)) | omega | (dsimp only; omega))) rfl ho2 rfl (ht.out _ (by repeat (first | with_reducible exact Gr.refl _ | with_reducible refine Gr.drewN ?_ _ | with_reducible refine Gr.drew ?_ | with_reducible refine Gr.alloc ?_ _ | with_reducible refine Gr.setCell ?_ ?_ _ | (with_reducible refine Gr.trans ?_ (by assumption)) | omega | (dsimp only; omega)))) (by omega) ?_; intro oc5 c5 w5 ho5 hg5)
      go_ret2
      exact ⟨_, _, _, rfl, ho5.lower2 hb0, hg5⟩
  · rw [hB] at hD
    have hlt := hlt hB
    rw [if_pos rfl]
    clear hB
    have ht := Lib.hid (fun w1 (hg : Gr w w1) => (H.out.keep hg).tail (k := p + 1) (by omega))
    have t2 := run_tail oa n cap (p + 1) (by omega)
    have t3 : ((p + 1 : Nat) : Int) = (p : Int) + 1 := by omega
    rw [t3] at t2
    go_enter Try.func28, Try.ntmps28
    go_wp2_with (go_at_call 8; (refine (hD.out _ (by repeat (first | with_reducible exact Gr.refl _ | with_reducible refine Gr.drewN ?_ _ | with_reducible refine Gr.drew ?_ | with_reducible refine Gr.alloc ?_ _ | with_reducible refine Gr.setCell ?_ ?_ _ | (with_reducible refine Gr.trans ?_ (by assumption)) | omega | (dsimp only; omega)))).mono ?_); rintro e w' ⟨rfl, d, rfl⟩)
    go_region_law (first
      | (refine step_rows_g rfl _ _ rfl w.heap.size (by simp [drewN_heap]; omega) rfl (own_empty_b (by simp [drewN_heap]) (by omega)) rfl (hh.out _ (by repeat (first | with_reducible exact Gr.refl _ | with_reducible refine Gr.drewN ?_ _ | with_reducible refine Gr.drew ?_ | with_reducible refine Gr.alloc ?_ _ | with_reducible refine Gr.setCell ?_ ?_ _ | (with_reducible refine Gr.trans ?_ (by assumption)) | omega | (dsimp only; omega)))) (by omega) ?_; intro oc c3 w1 ho1 hb1; simp only [Nat.zero_add, List.nil_append] at ho1; have hg1 : Gr w w1 := grown_gr hb1 (own_empty_b (base := w.heap.size) (by simp [drewN_heap]) (by omega)) (by repeat (first | with_reducible exact Gr.refl _ | with_reducible refine Gr.drewN ?_ _ | with_reducible refine Gr.drew ?_ | with_reducible refine Gr.alloc ?_ _ | with_reducible refine Gr.setCell ?_ ?_ _ | (with_reducible refine Gr.trans ?_ (by assumption)) | omega | (dsimp only; omega))) (Nat.le_refl _); have k0 := grown_cell (b := w.heap.size) (o := 0) hb1 (v := .string k) (by simp [go_sem, cell_new_drewN, drewN_heap]) (by omega); have k1 := grown_cell (b := w.heap.size) (o := 1) hb1 (v := .string v) (by simp [go_sem, cell_new_drewN, drewN_heap]) (by omega); (try (have r0 := grown_cell (b := w.heap.size + 1) (o := 0) hb1 (v := .string k) (by simp [go_sem, cell_new_drewN, drewN_heap]) (by omega); have r1 := grown_cell (b := w.heap.size + 1) (o := 1) hb1 (v := .string v) (by simp [go_sem, cell_new_drewN, drewN_heap]) (by omega))))
      | (refine step_rows_g rfl _ _ rfl w.heap.size (by simp [drewN_heap]; omega) rfl ((own_empty_b (by simp [drewN_heap]) (by omega)).keep ((Gr.refl _).alloc _)) rfl (hh.out _ (by repeat (first | with_reducible exact Gr.refl _ | with_reducible refine Gr.drewN ?_ _ | with_reducible refine Gr.drew ?_ | with_reducible refine Gr.alloc ?_ _ | with_reducible refine Gr.setCell ?_ ?_ _ | (with_reducible refine Gr.trans ?_ (by assumption)) | omega | (dsimp only; omega)))) (by omega) ?_; intro oc c3 w1 ho1 hb1; simp only [Nat.zero_add, List.nil_append] at ho1; have hg1 : Gr w w1 := grown_gr hb1 ((own_empty_b (base := w.heap.size) (by simp [drewN_heap]) (by omega)).keep ((Gr.refl _).alloc _)) (by repeat (first | with_reducible exact Gr.refl _ | with_reducible refine Gr.drewN ?_ _ | with_reducible refine Gr.drew ?_ | with_reducible refine Gr.alloc ?_ _ | with_reducible refine Gr.setCell ?_ ?_ _ | (with_reducible refine Gr.trans ?_ (by assumption)) | omega | (dsimp only; omega))) (Nat.le_refl _); have k0 := grown_cell (b := w.heap.size) (o := 0) hb1 (v := .string k) (by simp [go_sem, cell_new_drewN, drewN_heap]) (by omega); have k1 := grown_cell (b := w.heap.size) (o := 1) hb1 (v := .string v) (by simp [go_sem, cell_new_drewN, drewN_heap]) (by omega); have r0 := grown_cell (b := w.heap.size + 2) (o := 0) hb1 (v := .string k) (by simp [go_sem, cell_new_drewN, drewN_heap]) (by omega); have r1 := grown_cell (b := w.heap.size + 2) (o := 1) hb1 (v := .string v) (by simp [go_sem, cell_new_drewN, drewN_heap]) (by omega))
      | (refine step_rows (w0 := w) rfl _ _ rfl (by repeat (first | with_reducible exact Gr.refl _ | with_reducible refine Gr.drewN ?_ _ | with_reducible refine Gr.drew ?_ | with_reducible refine Gr.alloc ?_ _ | with_reducible refine Gr.setCell ?_ ?_ _ | (with_reducible refine Gr.trans ?_ (by assumption)) | omega | (dsimp only; omega))) rfl (ho1.keep ((Gr.refl _).alloc _)) rfl (row_one (b := w1.heap.size) (Nat.le_refl _) (by unfold maxLen; omega) (by simp [go_sem]) (by simp [go_sem]) hk hv) (by omega) ?_; intro oc2 c4 w2 ho2 hg2)
      | (refine step_rows (w0 := w) rfl _ _ rfl hg1 rfl ho1 rfl (row_one (Nat.le_refl _) (by unfold maxLen; omega) r0 r1 hk hv) (by omega) ?_; intro oc2 c4 w2 ho2 hg2))
    all_goals
      go_wp2_with (at_builtin; refine wpList_rows (w0 := w) rfl _ _ rfl (by repeat (first | with_reducible exact Gr.refl _ | with_reducible refine Gr.drewN ?_ _ | with_reducible refine Gr.drew ?_ | with_reducible refine Gr.alloc ?_ _ | with_reducible refine Gr.setCell ?_ ?_ _ | (with_reducible refine Gr.trans ?_ (by assumption)) | omega | (dsimp only; omega))) rfl ho2 rfl (ht.out _ (by repeat (first | with_reducible exact Gr.refl _ | with_reducible refine Gr.drewN ?_ _ | with_reducible refine Gr.drew ?_ | with_reducible refine Gr.alloc ?_ _ | with_reducible refine Gr.setCell ?_ ?_ _ | (with_reducible refine Gr.trans ?_ (by assumption)) | omega | (dsimp only; omega)))) (by omega) ?_; intro oc5 c5 w5 ho5 hg5)
      go_ret2
      exact ⟨_, _, _, rfl, ho5.lower2 hb0, hg5⟩
/-- what the document's Apply hands back, of rows of one's own -/
def ToldO (base : Nat) (w : World) (r : List Rw × ByteArray × Int) (e : Ending) (w' : World) : Prop := ∃ o q c, e = .returned (.tuple #[.slice o q c, .string r.2.1, .int .i64 r.2.2]) ∧ OwnAt w' base o q c r.1 ∧ Gr w w'

set_option maxRecDepth 100000 in
set_option maxHeartbeats 4000000 in
theorem refOver_own (oa : Option Addr) (n cap : Nat) (l : List Rw) (ob : Option Addr) (m cap2 : Nat) (p : List Wt) (w : World) {base : Nat} (hb0 : base ≤ w.heap.size) (h : OwnAt w base oa n cap l) (h2 : WritesAt w ob m cap2 p) (hn : n ≤ 1000) (hm : m ≤ 1000) :
    Calls Try.prog 19 #[.slice oa n cap, .slice ob m cap2] w fun e w' => ∃ o q c, e = .returned (.slice o q c) ∧ OwnAt w' base o q c (overL l p) ∧ Gr w w' := by
  have H := Lib.hid h
  clear h
  obtain ⟨b2, off2, ho2, hc2⟩ := h2.cells
  have Hc2 := Lib.hid hc2
  have Ho2 := Lib.hid (fun q => (ho2 q).1)
  have H2 := Lib.hid h2
  have hn2 := h2.cap_le
  have hm2 := h2.cap_max
  unfold maxLen at hm2
  clear hc2 ho2 h2
  go_enter Try.func19, Try.ntmps19
  go_wp2_with fail
  go_loopw [0, 5] (fun s i wr => ∃ (k : Nat) (o : Option Addr) (q c : Nat), k ≤ m ∧ i = .int .i64 k ∧ s = .slice o q c ∧ Hid (OwnAt wr base o q c (overL l (p.take k))) ∧ Gr w wr) (fun _ i _ => m - (intOf i).toNat)
  case atStart => exact ⟨0, oa, n, cap, Nat.zero_le _, rfl, rfl, H, Gr.refl _⟩
  case round =>
    obtain ⟨k, o, q, c, hk, rfl, rfl, hR, hg⟩ := hrel
    by_cases hlt : k < m
    · obtain ⟨a1, a2, a3⟩ := Hc2.out k hlt
      have a1 := hg.keep a1
      have a2 := hg.keep a2
      have a3 := hg.keep a3
      have hI := run_rwr cap2 Ho2.out hlt
      have hkl : k < p.length := by rw [H2.out.len]; exact hlt
      have hs1 := (H2.out.sizes k hlt).1
      have hs2 := (H2.out.sizes k hlt).2
      have hst := overL_take (l := l) hkl
      have hql : q ≤ 2000 := by
        have h1 := hR.out.rows.len
        have h2 := overL_length l (p.take k)
        have h3 := H.out.rows.len
        rw [List.length_take] at h2
        omega
      cases hgone : (wAt p k).gone
      · rw [hgone] at a3
        cases hf : fitsB ⟨(wAt p k).key, (wAt p k).val⟩
        · have e : stepL (overL l (p.take k)) (wAt p k) = overL l (p.take k) := by unfold stepL; rw [hgone, hf]; rfl
          rw [e] at hst
          have hF := Lib.hid (fun w => refFits_any (wAt p k).key (wAt p k).val w hs1 hs2)
          rw [hf] at hF
          have v1 := After.cell a1
          have v2 := After.cell a2
          have Hst := Lib.hid hst
          clear hst e hf hgone
          go_wp2_with fail
          refine wp_region_after (by kernel_rfl) (by kernel_rfl) ?_
          repeat (go_big_quiet_step ((go_at_call 16; (with_reducible exact after_gr (hF.out _)))))
          refine wpQuiet_nil ?_
          rintro _ ⟨⟨w1, hg1⟩, rfl⟩
          go_wp2_with fail
          go_roundw
          case rel => exact ⟨k + 1, o, q, c, by omega, by go_num, rfl, Lib.hid (by rw [Hst.out]; exact hR.out.keep (by repeat (first | with_reducible exact Gr.refl _ | with_reducible refine Gr.drewN ?_ _ | with_reducible refine Gr.drew ?_ | with_reducible refine Gr.alloc ?_ _ | with_reducible refine Gr.setCell ?_ ?_ _ | (with_reducible refine Gr.trans ?_ (by assumption)) | omega | (dsimp only; omega)))), hg.trans (by (repeat (first | with_reducible exact Gr.refl _ | with_reducible refine Gr.drewN ?_ _ | with_reducible refine Gr.drew ?_ | with_reducible refine Gr.alloc ?_ _ | with_reducible refine Gr.setCell ?_ ?_ _ | (with_reducible refine Gr.trans ?_ (by assumption)) | omega | (dsimp only; omega))))⟩
          case measure => simp [intOf]; omega
        · have e : stepL (overL l (p.take k)) (wAt p k) = putL (overL l (p.take k)) ⟨(wAt p k).key, (wAt p k).val⟩ := by unfold stepL; rw [hgone, hf]; rfl
          rw [e] at hst
          have hF := Lib.hid (fun w => refFits_any (wAt p k).key (wAt p k).val w hs1 hs2)
          rw [hf] at hF
          have v1 := After.cell a1
          have v2 := After.cell a2
          have Hst := Lib.hid hst
          clear hst e hf hgone
          go_wp2_with fail
          refine wp_region_after (by kernel_rfl) (by kernel_rfl) ?_
          repeat (go_big_quiet_step ((go_at_call 16; (with_reducible exact after_gr (hF.out _)))))
          refine wpQuiet_nil ?_
          rintro _ ⟨⟨w1, hg1⟩, rfl⟩
          clear v1 v2
          have q1 := hg1.keep a1
          have q2 := hg1.keep a2
          have HP := Lib.hid (fun w2 (hq : Gr wr w2) => refPut_own o q c _ (wAt p k).key (wAt p k).val w2 (Nat.le_trans hb0 (Gr.le (hg.trans hq))) (hR.out.keep hq) (by omega) hs1 hs2)
          go_wp2_with fail
          go_region_with (go_at_call 28; ((with_reducible refine Calls.mono (HP.out _ ?_) ?_); (focus ((repeat (first | with_reducible exact Gr.refl _ | with_reducible refine Gr.drewN ?_ _ | with_reducible refine Gr.drew ?_ | with_reducible refine Gr.alloc ?_ _ | with_reducible refine Gr.setCell ?_ ?_ _ | (with_reducible refine Gr.trans ?_ (by assumption)) | omega | (dsimp only; omega))); done))); rintro e w5 ⟨o5, m5, c5, rfl, hr5, hg5⟩)
          all_goals
            have hR5 := Lib.hid hr5
            have hg15 := hg.trans (show Gr wr w5 from Gr.trans (by (repeat (first | with_reducible exact Gr.refl _ | with_reducible refine Gr.drewN ?_ _ | with_reducible refine Gr.drew ?_ | with_reducible refine Gr.alloc ?_ _ | with_reducible refine Gr.setCell ?_ ?_ _ | (with_reducible refine Gr.trans ?_ (by assumption)) | omega | (dsimp only; omega)))) hg5)
            clear hr5 hg5 HP
            go_wp2_with fail
            go_roundw
            case rel => exact ⟨k + 1, o5, m5, c5, by omega, by go_num, rfl, Lib.hid (by rw [Hst.out]; exact hR5.out), hg15⟩
            case measure => simp [intOf]; omega
      · rw [hgone] at a3
        have e : stepL (overL l (p.take k)) (wAt p k) = dropL (overL l (p.take k)) (wAt p k).key := by unfold stepL; rw [hgone]; rfl
        rw [e] at hst
        have Hst := Lib.hid hst
        clear hst e hgone
        have HD := Lib.hid (fun w2 (hq : Gr wr w2) => refDrop_own o q c _ (wAt p k).key w2 (Nat.le_trans hb0 (Gr.le (hg.trans hq))) (hR.out.keep hq) (by omega) hs1)
        go_wp2_with fail
        refine (HD.out _ (by repeat (first | with_reducible exact Gr.refl _ | with_reducible refine Gr.drewN ?_ _ | with_reducible refine Gr.drew ?_ | with_reducible refine Gr.alloc ?_ _ | with_reducible refine Gr.setCell ?_ ?_ _ | (with_reducible refine Gr.trans ?_ (by assumption)) | omega | (dsimp only; omega)))).mono ?_
        rintro e w5 ⟨o5, m5, c5, rfl, hr5, hg5⟩
        have hR5 := Lib.hid hr5
        have hg15 := hg.trans (show Gr wr w5 from Gr.trans (by (repeat (first | with_reducible exact Gr.refl _ | with_reducible refine Gr.drewN ?_ _ | with_reducible refine Gr.drew ?_ | with_reducible refine Gr.alloc ?_ _ | with_reducible refine Gr.setCell ?_ ?_ _ | (with_reducible refine Gr.trans ?_ (by assumption)) | omega | (dsimp only; omega)))) hg5)
        clear hr5 hg5 HD
        go_wp2_with fail
        go_roundw
        case rel => exact ⟨k + 1, o5, m5, c5, by omega, by go_num, rfl, Lib.hid (by rw [Hst.out]; exact hR5.out), hg15⟩
        case measure => simp [intOf]; omega
    · obtain rfl : k = m := by omega
      rw [show p.take k = p from List.take_of_length_le (by rw [H2.out.len]; exact Nat.le_refl _)] at hR
      go_wp2_with fail
      go_ret
      exact ⟨o, q, c, rfl, hR.out, hg⟩

set_option maxRecDepth 100000 in
set_option maxHeartbeats 20000000 in
theorem written_own (oa : Option Addr) (n cap : Nat) (ss : List Sn) (ob : Option Addr) (m cap2 : Nat) (l : List Rw) (w : World) (h : SeenAt w oa n cap ss) {base : Nat} (hb0 : base ≤ w.heap.size) (h2 : OwnAt w base ob m cap2 l) (hs : m + n ≤ 1000) :
    Calls Try.prog 9 #[.slice oa n cap, .slice ob m cap2] w fun e w' => ∃ o q c, e = .returned (.slice o q c) ∧ OwnAt w' base o q c (wrL ss l) ∧ Gr w w' := by
  have Hl := Lib.hid h.len
  have Hl2 := Lib.hid h2.rows.len
  have hcl := h.cap_le
  have hcm := h.cap_max
  unfold maxLen at hcm
  obtain ⟨b, off, ho, hc⟩ := h.get
  have Ho := Lib.hid ho
  have Hc := Lib.hid hc
  have H2 := Lib.hid h2
  clear ho hc h h2
  go_enter Try.func9, Try.ntmps9
  go_wp2_with fail
  go_loopw [1, 5] (fun s1 s5 wr => ∃ (k : Nat) (o : Option Addr) (q c : Nat), k ≤ n ∧ s5 = .int .i64 k ∧ s1 = .slice o q c ∧ Hid (OwnAt wr base o q c (wrL (ss.take k) l)) ∧ Gr w wr) (fun _ s5 _ => n - (intOf s5).toNat)
  case atStart => exact ⟨0, ob, m, cap2, Nat.zero_le _, rfl, rfl, H2, Gr.refl _⟩
  case round =>
    obtain ⟨k, o, q, c, hk, rfl, rfl, hR, hg⟩ := hrel
    by_cases hlt : k < n
    · have hy : ss[k]? = some (ss[k]'(by have := Hl.out; omega)) := List.getElem?_eq_getElem _
      generalize (ss[k]'(by have := Hl.out; omega)) = s at hy
      obtain ⟨p1, m1, c1, R0⟩ := Hc.out k s hy
      have R := R0.keep hg
      have a0 := R.cell 0 rfl
      have a1 := R.cell 1 rfl
      have a2 := R.cell 2 rfl
      simp only [Nat.add_zero] at a0
      have hz := R.size
      have hI := run_seen cap Ho.out hlt
      have hq : q ≤ 1000 := by
        have e1 := hR.out.rows.len
        have e2 := wrL_take_len ss k l
        have e3 := Hl2.out
        omega
      have HT := Lib.hid (wrL_take hy l)
      have HW := Lib.hid (@wrS_over s)
      have HNo := Lib.hid (@wrS_none s)
      clear R R0 hy
      by_cases h34 : s.kind = 3 ∨ s.kind = 4
      · have hO := Lib.hid fun (w3 : World) (bp : Nat) (hg3 : Gr wr w3) (g0 : w3.cell? ⟨bp, 0, none⟩ = some (.string (wtOf s).key)) (g1 : w3.cell? ⟨bp, 1, none⟩ = some (.string (wtOf s).val)) (g2 : w3.cell? ⟨bp, 2, none⟩ = some (.bool (wtOf s).gone)) =>
          refOver_own o q c _ (some ⟨bp, 0, none⟩) 1 1 [wtOf s] w3 (Nat.le_trans hb0 (Gr.le (hg.trans hg3))) (hR.out.keep hg3) (write_one (Nat.le_refl _) (by unfold maxLen; omega) g0 g1 g2 (wtOf_key s hz).1 (wtOf_key s hz).2) hq (by omega)
        have HT2 := Lib.hid (HT.out.trans (HW.out h34 _))
        rcases h34 with h3 | h3
        · have e : wtOf s = ⟨s.key, s.val, false⟩ := by unfold wtOf; rw [if_neg (by omega)]
          rw [e] at hO HT2
          rw [h3] at a0
          have hr := hR
          clear e h3 HNo HW HT hR hz
          go_upto_region 5 with fail
          go_cut [1] (fun s1 wx => ∃ (o5 : Option Addr) (q5 c5 : Nat), s1 = .slice o5 q5 c5 ∧ Hid (OwnAt wx base o5 q5 c5 (wrL (ss.take (k + 1)) l)) ∧ Gr wr wx)
          case first =>
            go_region_held3 (fun W' => W'.cell? ⟨b, off + k * 10 + 1, none⟩ = some (.string s.key) ∧ W'.cell? ⟨b, off + k * 10 + 2, none⟩ = some (.string s.val))
              ((go_split_ands; (repeat' apply And.intro) <;> first | with_reducible assumption | (with_reducible refine Gr.keep hg5 ?_; with_reducible assumption) | ((repeat (first | with_reducible refine drew1 ?_ | with_reducible refine alloc1 ?_ | with_reducible refine far1 ?_ (by omega))); first | with_reducible assumption | (with_reducible refine Gr.keep hg5 ?_; (repeat (first | with_reducible refine drew1 ?_ | with_reducible refine alloc1 ?_)); with_reducible assumption)))) (first | (go_at_call 19; (with_reducible refine Calls.mono (hO.out _ _ ?_ ?_ ?_ ?_) ?_); (focus ((repeat (first | with_reducible exact Gr.refl _ | with_reducible refine Gr.drewN ?_ _ | with_reducible refine Gr.drew ?_ | with_reducible refine Gr.alloc ?_ _ | with_reducible refine Gr.setCell ?_ ?_ _ | (with_reducible refine Gr.trans ?_ (by assumption)) | omega | (dsimp only; omega))); done)); (focus (first | (simp [go_sem, cell_new_drewN]; done) | (refine Gr.keep (by assumption) ?_; simp [go_sem, cell_new_drewN]; done))); (focus (first | (simp [go_sem, cell_new_drewN]; done) | (refine Gr.keep (by assumption) ?_; simp [go_sem, cell_new_drewN]; done))); (focus (first | (simp [go_sem, cell_new_drewN]; done) | (refine Gr.keep (by assumption) ?_; simp [go_sem, cell_new_drewN]; done))); rintro e w5 ⟨o5, q5, c5, rfl, hr5, hg5⟩; (have hg6 : Gr wr w5 := Gr.trans (by (repeat (first | with_reducible exact Gr.refl _ | with_reducible refine Gr.drewN ?_ _ | with_reducible refine Gr.drew ?_ | with_reducible refine Gr.alloc ?_ _ | with_reducible refine Gr.setCell ?_ ?_ _ | (with_reducible refine Gr.trans ?_ (by assumption)) | omega | (dsimp only; omega)))) hg5); have Hr5 := Lib.hid hr5; clear hr5))
            all_goals
              go_wp2_with fail
              go_meet
              exact ⟨o5, q5, c5, rfl, Lib.hid (by rw [HT2.out]; exact Hr5.out), hg6⟩
          case rest =>
            obtain ⟨o5, q5, c5, rfl, Hr5, hg6⟩ := hcut
            have a0 := hg6.keep a0
            clear a1 a2 hO
            go_wp2_with fail
            go_roundw
            case rel => exact ⟨k + 1, o5, q5, c5, by omega, by go_num, rfl, Hr5, hg.trans hg6⟩
            case measure => simp [intOf]; omega
        · have e : wtOf s = ⟨s.key, ⟨#[]⟩, true⟩ := by unfold wtOf; rw [if_pos h3]
          rw [e] at hO HT2
          rw [h3] at a0
          clear e h3 HNo HW HT hR hz
          go_wp2_with (go_at_call 19; (with_reducible refine Calls.mono (hO.out _ _ ?_ ?_ ?_ ?_) ?_); (focus ((repeat (first | with_reducible exact Gr.refl _ | with_reducible refine Gr.drewN ?_ _ | with_reducible refine Gr.drew ?_ | with_reducible refine Gr.alloc ?_ _ | with_reducible refine Gr.setCell ?_ ?_ _ | (with_reducible refine Gr.trans ?_ (by assumption)) | omega | (dsimp only; omega))); done)); (focus (first | (simp [go_sem, cell_new_drewN]; done) | (refine Gr.keep (by assumption) ?_; simp [go_sem, cell_new_drewN]; done))); (focus (first | (simp [go_sem, cell_new_drewN]; done) | (refine Gr.keep (by assumption) ?_; simp [go_sem, cell_new_drewN]; done))); (focus (first | (simp [go_sem, cell_new_drewN]; done) | (refine Gr.keep (by assumption) ?_; simp [go_sem, cell_new_drewN]; done))); rintro e w5 ⟨o5, q5, c5, rfl, hr5, hg5⟩; (have hg6 : Gr wr w5 := Gr.trans (by (repeat (first | with_reducible exact Gr.refl _ | with_reducible refine Gr.drewN ?_ _ | with_reducible refine Gr.drew ?_ | with_reducible refine Gr.alloc ?_ _ | with_reducible refine Gr.setCell ?_ ?_ _ | (with_reducible refine Gr.trans ?_ (by assumption)) | omega | (dsimp only; omega)))) hg5); have Hr5 := Lib.hid hr5; clear hr5)
          go_roundw
          case rel => exact ⟨k + 1, o5, q5, c5, by omega, by go_num, rfl, Lib.hid (by rw [HT2.out]; exact Hr5.out), hg.trans hg6⟩
          case measure => simp [intOf]; omega
      · have hE := HT.out.trans (HNo.out (by omega) _)
        have HE := Lib.hid hE
        have e3 : (s.kind == 3) = false := by rw [beq_eq_false_iff_ne]; omega
        have e4 : (s.kind == 4) = false := by rw [beq_eq_false_iff_ne]; omega
        clear HNo HW HT hE h34
        go_wp2_with fail
        go_roundw
        case rel => exact ⟨k + 1, o, q, c, by omega, by go_num, rfl, Lib.hid (by rw [HE.out]; exact hR.out), hg⟩
        case measure => simp [intOf]; omega
    · obtain rfl : k = n := by omega
      rw [List.take_of_length_le (by rw [Hl.out]; exact Nat.le_refl _)] at hR
      go_wp2_with fail
      go_ret
      exact ⟨o, q, c, rfl, hR.out, hg⟩
end Go.Proofs.Ytopomocbjlikjaa
