import Derived.Test.YtopomocbjlikjaaWrz
import Derived.Test.YtopomocbjlikjaaRwz
import Derived.Test.YtopomocbjlikjaaOw2z
import Derived.Test.YtopomocbjlikjaaPtz
import Derived.Laws.ResultCell
namespace Go.Proofs.Ytopomocbjlikjaa
set_option linter.unusedVariables false
set_option linter.unusedSimpArgs false
open Go.BigFrame Go.RowKit Go.WideShapes

theorem run_rwrI {oa : Option Addr} {n b off : Nat} (cap : Nat) (ho : 0 < n → oa = some ⟨b, off, none⟩) {k : Int} (h0 : 0 ≤ k) (hk : k < n) (w : World) :
    (Instr.indexAt 63 (.slice oa n cap) (.int .i64 k)).run Try.prog w = .ok (.pointer (some ⟨b, off + k.toNat * 3, none⟩)) w := by
  obtain ⟨m, rfl⟩ := Int.eq_ofNat_of_zero_le h0
  exact run_rwr cap ho (by omega) w
theorem wfits_cases2 (r : Wt) : (wfits r = true ∧ fitsB ⟨r.key, r.val⟩ = true ∧ (r.gone = false ∨ (r.gone = true ∧ r.val = ⟨#[]⟩))) ∨ (wfits r = false ∧ fitsB ⟨r.key, r.val⟩ = false) ∨ (wfits r = false ∧ fitsB ⟨r.key, r.val⟩ = true ∧ r.gone = true ∧ r.val ≠ ⟨#[]⟩) := by
  have he : ByteArray.empty = ⟨#[]⟩ := rfl
  unfold wfits fitsB
  rw [he]
  cases (rightB r.key && decide (r.val.size ≤ 16))
  · exact .inr (.inl ⟨rfl, rfl⟩)
  · by_cases hq : r.val = ⟨#[]⟩
    · cases hg : r.gone
      · exact .inl ⟨rfl, rfl, .inl rfl⟩
      · exact .inl ⟨by rw [hq]; simp, rfl, .inr ⟨rfl, hq⟩⟩
    · cases hg : r.gone
      · exact .inl ⟨rfl, rfl, .inl rfl⟩
      · exact .inr (.inr ⟨by simp [hq], rfl, rfl, hq⟩)

end Go.Proofs.Ytopomocbjlikjaa

namespace Go.Proofs.Ytopomocbjlikjaa
set_option linter.unusedVariables false
set_option linter.unusedSimpArgs false
open Go.BigFrame Go.RowKit Go.WideShapes

theorem drewN_heap (w : World) (d : Nat) : (w.drewN d).heap = w.heap := rfl
theorem own_empty_b {w : World} {b base : Nat} (hb : b = w.heap.size) (h : base ≤ b) : OwnAt (w.alloc (.cells #[] 35)) base (some ⟨b, 0, none⟩) 0 0 [] := by
  subst hb
  exact ⟨⟨rfl, .inr ⟨w.heap.size, 0, #[], rfl, h, (by show (w.heap.push (.cells #[] 35))[w.heap.size]? = _; simp), Nat.le_refl _, Nat.zero_le _, rfl, rfl⟩⟩,
   ⟨rfl, Nat.le_refl _, Nat.zero_le _, fun q => (by cases q), ⟨0, 0, fun q => absurd q (by omega), fun i hi => absurd hi (by omega)⟩, fun i hi => absurd hi (by omega)⟩⟩
set_option maxRecDepth 100000 in
set_option maxHeartbeats 1000000 in
theorem refDrop_any (oa : Option Addr) (n cap : Nat) (l : List Rw) (key : ByteArray) (w : World) (h : RowsAt w oa n cap l) (hn : n ≤ 1000000) (hk : key.size ≤ maxLen) :
    Calls Try.prog 27 #[.slice oa n cap, .string key] w fun e w' => ∃ o1 m1 c1, e = .returned (.tuple #[.slice o1 m1 c1, .bool (hasB key l)]) ∧ RowsAt w' o1 m1 c1 (dropL l key) ∧ Gr w w' := by
  have hF := Lib.hid (refFind_any oa n cap l key w h hk)
  have hle := place_le key l
  rw [h.len] at hle
  have hlt : hasB key l = true → place key l < n := fun q => by
    unfold hasB at q
    rw [decide_eq_true_iff, h.len] at q
    exact q.1
  have H := Lib.hid h
  have hc := h.cap_le
  clear h
  unfold dropL
  generalize place key l = p at *
  cases hB : hasB key l
  · rw [hB] at hF
    rw [if_neg (by decide)]
    clear hlt hB
    go_enter Try.func27, Try.ntmps27
    go_wp2_with (go_at_call 8; (with_reducible refine hF.out.mono ?_); rintro e w' ⟨rfl, d, rfl⟩)
    go_ret2
    exact ⟨_, _, _, rfl, H.out.keep (by repeat (first | with_reducible exact Gr.refl _ | with_reducible refine Gr.drewN ?_ _ | with_reducible refine Gr.drew ?_ | with_reducible refine Gr.alloc ?_ _ | with_reducible refine Gr.setCell ?_ ?_ _ | (with_reducible refine Gr.trans ?_ (by assumption)) | omega | (dsimp only; omega))), by repeat (first | with_reducible exact Gr.refl _ | with_reducible refine Gr.drewN ?_ _ | with_reducible refine Gr.drew ?_ | with_reducible refine Gr.alloc ?_ _ | with_reducible refine Gr.setCell ?_ ?_ _ | (with_reducible refine Gr.trans ?_ (by assumption)) | omega | (dsimp only; omega))⟩
  · rw [hB] at hF
    have hlt := hlt hB
    rw [if_pos rfl]
    clear hB
    have hh := Lib.hid (fun w1 (hg : Gr w w1) => (H.out.keep hg).head (k := p) (by omega))
    have ht := Lib.hid (fun w1 (hg : Gr w w1) => (H.out.keep hg).tail (k := p + 1) (by omega))
    have t1 := run_head oa n cap p (by omega)
    have t2 := run_tail oa n cap (p + 1) (by omega)
    have e1 : IntKind.i64.wrap ((p : Int) + 1) = (p : Int) + 1 := IntWalk.i64_in _ (by have := H.out.cap_max; unfold maxLen at this; omega)
    have t3 : ((p + 1 : Nat) : Int) = (p : Int) + 1 := by omega
    rw [t3] at t2
    go_enter Try.func27, Try.ntmps27
    go_wp2_with (go_at_call 8; (with_reducible refine hF.out.mono ?_); rintro e w' ⟨rfl, d, rfl⟩)
    go_region_law (first
      | (refine step_rows (w0 := w) rfl _ _ rfl (by repeat (first | with_reducible exact Gr.refl _ | with_reducible refine Gr.drewN ?_ _ | with_reducible refine Gr.drew ?_ | with_reducible refine Gr.alloc ?_ _ | with_reducible refine Gr.setCell ?_ ?_ _ | (with_reducible refine Gr.trans ?_ (by assumption)) | omega | (dsimp only; omega))) rfl (own_empty (by repeat (first | with_reducible exact Gr.refl _ | with_reducible refine Gr.drewN ?_ _ | with_reducible refine Gr.drew ?_ | with_reducible refine Gr.alloc ?_ _ | with_reducible refine Gr.setCell ?_ ?_ _ | (with_reducible refine Gr.trans ?_ (by assumption)) | omega | (dsimp only; omega)))) rfl (hh.out _ (by repeat (first | with_reducible exact Gr.refl _ | with_reducible refine Gr.drewN ?_ _ | with_reducible refine Gr.drew ?_ | with_reducible refine Gr.alloc ?_ _ | with_reducible refine Gr.setCell ?_ ?_ _ | (with_reducible refine Gr.trans ?_ (by assumption)) | omega | (dsimp only; omega)))) (by omega) ?_; intro oc c3 w1 ho1 hg1; simp only [Nat.zero_add, List.nil_append] at ho1)
      | (refine step_rows (w0 := w) rfl _ _ rfl hg1 rfl ho1 rfl (ht.out _ hg1) (by omega) ?_; intro oc2 c4 w2 ho2 hg2))
    all_goals
      go_wp2_with fail
      go_ret2
      exact ⟨_, _, _, rfl, by simpa using ho2.rows, hg2⟩

set_option maxRecDepth 100000 in
set_option maxHeartbeats 1000000 in
theorem refPut_any (oa : Option Addr) (n cap : Nat) (l : List Rw) (k v : ByteArray) (w : World) (h : RowsAt w oa n cap l) (hn : n ≤ 1000000) (hk : k.size ≤ maxLen) (hv : v.size ≤ maxLen) :
    Calls Try.prog 28 #[.slice oa n cap, .agg #[.string k, .string v]] w fun e w' => ∃ o1 m1 c1, e = .returned (.tuple #[.slice o1 m1 c1, .bool (hasB k l)]) ∧ RowsAt w' o1 m1 c1 (putL l ⟨k, v⟩) ∧ Gr w w' := by
  have b0 := box_key w k v
  have b1 := box_val w k v
  have hD := Lib.hid (fun w1 (hg : Gr w w1) => refFind_any oa n cap l k w1 (h.keep hg) hk)
  have hle := place_le k l
  rw [h.len] at hle
  have hlt : hasB k l = true → place k l < n := fun q => by
    unfold hasB at q
    rw [decide_eq_true_iff, h.len] at q
    exact q.1
  have H := Lib.hid h
  have hc := h.cap_le
  have hm := h.cap_max
  unfold maxLen at hm
  clear h
  unfold putL
  dsimp only
  generalize place k l = p at *
  have hh := Lib.hid (fun w1 (hg : Gr w w1) => (H.out.keep hg).head (k := p) (by omega))
  have t1 := run_head oa n cap p (by omega)
  cases hB : hasB k l
  · rw [hB] at hD
    rw [if_neg (by decide)]
    clear hlt hB
    have ht := Lib.hid (fun w1 (hg : Gr w w1) => (H.out.keep hg).tail (k := p) (by omega))
    have t2 := run_tail oa n cap p (by omega)
    go_enter Try.func28, Try.ntmps28
    go_wp2_with (go_at_call 8; (refine (hD.out _ (by repeat (first | with_reducible exact Gr.refl _ | with_reducible refine Gr.drewN ?_ _ | with_reducible refine Gr.drew ?_ | with_reducible refine Gr.alloc ?_ _ | with_reducible refine Gr.setCell ?_ ?_ _ | (with_reducible refine Gr.trans ?_ (by assumption)) | omega | (dsimp only; omega)))).mono ?_); rintro e w' ⟨rfl, d, rfl⟩)
    go_region_law (first
      | (refine step_rows_g rfl _ _ rfl w.heap.size (by simp [drewN_heap]; omega) rfl (own_empty_b (by simp [drewN_heap]) (by omega)) rfl (hh.out _ (by repeat (first | with_reducible exact Gr.refl _ | with_reducible refine Gr.drewN ?_ _ | with_reducible refine Gr.drew ?_ | with_reducible refine Gr.alloc ?_ _ | with_reducible refine Gr.setCell ?_ ?_ _ | (with_reducible refine Gr.trans ?_ (by assumption)) | omega | (dsimp only; omega)))) (by omega) ?_; intro oc c3 w1 ho1 hb1; simp only [Nat.zero_add, List.nil_append] at ho1; have hg1 : Gr w w1 := grown_gr hb1 (own_empty_b (base := w.heap.size) (by simp [drewN_heap]) (by omega)) (by repeat (first | with_reducible exact Gr.refl _ | with_reducible refine Gr.drewN ?_ _ | with_reducible refine Gr.drew ?_ | with_reducible refine Gr.alloc ?_ _ | with_reducible refine Gr.setCell ?_ ?_ _ | (with_reducible refine Gr.trans ?_ (by assumption)) | omega | (dsimp only; omega))) (Nat.le_refl _); have k0 := grown_cell (b := w.heap.size) (o := 0) hb1 (v := .string k) (by simp [go_sem, cell_new_drewN, drewN_heap]) (by omega); have k1 := grown_cell (b := w.heap.size) (o := 1) hb1 (v := .string v) (by simp [go_sem, cell_new_drewN, drewN_heap]) (by omega); (try (have r0 := grown_cell (b := w.heap.size + 1) (o := 0) hb1 (v := .string k) (by simp [go_sem, cell_new_drewN, drewN_heap]) (by omega); have r1 := grown_cell (b := w.heap.size + 1) (o := 1) hb1 (v := .string v) (by simp [go_sem, cell_new_drewN, drewN_heap]) (by omega))))
      | (refine step_rows_g rfl _ _ rfl w.heap.size (by simp [drewN_heap]; omega) rfl ((own_empty_b (by simp [drewN_heap]) (by omega)).keep ((Gr.refl _).alloc _)) rfl (hh.out _ (by repeat (first | with_reducible exact Gr.refl _ | with_reducible refine Gr.drewN ?_ _ | with_reducible refine Gr.drew ?_ | with_reducible refine Gr.alloc ?_ _ | with_reducible refine Gr.setCell ?_ ?_ _ | (with_reducible refine Gr.trans ?_ (by assumption)) | omega | (dsimp only; omega)))) (by omega) ?_; intro oc c3 w1 ho1 hb1; simp only [Nat.zero_add, List.nil_append] at ho1; have hg1 : Gr w w1 := grown_gr hb1 ((own_empty_b (base := w.heap.size) (by simp [drewN_heap]) (by omega)).keep ((Gr.refl _).alloc _)) (by repeat (first | with_reducible exact Gr.refl _ | with_reducible refine Gr.drewN ?_ _ | with_reducible refine Gr.drew ?_ | with_reducible refine Gr.alloc ?_ _ | with_reducible refine Gr.setCell ?_ ?_ _ | (with_reducible refine Gr.trans ?_ (by assumption)) | omega | (dsimp only; omega))) (Nat.le_refl _); have k0 := grown_cell (b := w.heap.size) (o := 0) hb1 (v := .string k) (by simp [go_sem, cell_new_drewN, drewN_heap]) (by omega); have k1 := grown_cell (b := w.heap.size) (o := 1) hb1 (v := .string v) (by simp [go_sem, cell_new_drewN, drewN_heap]) (by omega); have r0 := grown_cell (b := w.heap.size + 2) (o := 0) hb1 (v := .string k) (by simp [go_sem, cell_new_drewN, drewN_heap]) (by omega); have r1 := grown_cell (b := w.heap.size + 2) (o := 1) hb1 (v := .string v) (by simp [go_sem, cell_new_drewN, drewN_heap]) (by omega))
      | (refine step_rows (w0 := w) rfl _ _ rfl (by repeat (first | with_reducible exact Gr.refl _ | with_reducible refine Gr.drewN ?_ _ | with_reducible refine Gr.drew ?_ | with_reducible refine Gr.alloc ?_ _ | with_reducible refine Gr.setCell ?_ ?_ _ | (with_reducible refine Gr.trans ?_ (by assumption)) | omega | (dsimp only; omega))) rfl (ho1.keep ((Gr.refl _).alloc _)) rfl (row_one (b := w1.heap.size) (Nat.le_refl _) (by unfold maxLen; omega) (by simp [go_sem]) (by simp [go_sem]) hk hv) (by omega) ?_; intro oc2 c4 w2 ho2 hg2)
      | (refine step_rows (w0 := w) rfl _ _ rfl hg1 rfl ho1 rfl (row_one (Nat.le_refl _) (by unfold maxLen; omega) r0 r1 hk hv) (by omega) ?_; intro oc2 c4 w2 ho2 hg2))
    all_goals
      go_wp2_with (at_builtin; refine wpList_rows (w0 := w) rfl _ _ rfl (by repeat (first | with_reducible exact Gr.refl _ | with_reducible refine Gr.drewN ?_ _ | with_reducible refine Gr.drew ?_ | with_reducible refine Gr.alloc ?_ _ | with_reducible refine Gr.setCell ?_ ?_ _ | (with_reducible refine Gr.trans ?_ (by assumption)) | omega | (dsimp only; omega))) rfl ho2 rfl (ht.out _ (by repeat (first | with_reducible exact Gr.refl _ | with_reducible refine Gr.drewN ?_ _ | with_reducible refine Gr.drew ?_ | with_reducible refine Gr.alloc ?_ _ | with_reducible refine Gr.setCell ?_ ?_ _ | (with_reducible refine Gr.trans ?_ (by assumption)) | omega | (dsimp only; omega)))) (by omega) ?_; intro oc5 c5 w5 ho5 hg5)
      go_ret2
      exact ⟨_, _, _, rfl, ho5.rows, hg5⟩
  · rw [hB] at hD
    have hlt := hlt hB
    rw [if_pos rfl]
    clear hB
    have ht := Lib.hid (fun w1 (hg : Gr w w1) => (H.out.keep hg).tail (k := p + 1) (by omega))
    have t2 := run_tail oa n cap (p + 1) (by omega)
    have t3 : ((p + 1 : Nat) : Int) = (p : Int) + 1 := by omega
    rw [t3] at t2
    go_enter Try.func28, Try.ntmps28
    go_wp2_with (go_at_call 8; (refine (hD.out _ (by repeat (first | with_reducible exact Gr.refl _ | with_reducible refine Gr.drewN ?_ _ | with_reducible refine Gr.drew ?_ | with_reducible refine Gr.alloc ?_ _ | with_reducible refine Gr.setCell ?_ ?_ _ | (with_reducible refine Gr.trans ?_ (by assumption)) | omega | (dsimp only; omega)))).mono ?_); rintro e w' ⟨rfl, d, rfl⟩)
    go_region_law (first
      | (refine step_rows_g rfl _ _ rfl w.heap.size (by simp [drewN_heap]; omega) rfl (own_empty_b (by simp [drewN_heap]) (by omega)) rfl (hh.out _ (by repeat (first | with_reducible exact Gr.refl _ | with_reducible refine Gr.drewN ?_ _ | with_reducible refine Gr.drew ?_ | with_reducible refine Gr.alloc ?_ _ | with_reducible refine Gr.setCell ?_ ?_ _ | (with_reducible refine Gr.trans ?_ (by assumption)) | omega | (dsimp only; omega)))) (by omega) ?_; intro oc c3 w1 ho1 hb1; simp only [Nat.zero_add, List.nil_append] at ho1; have hg1 : Gr w w1 := grown_gr hb1 (own_empty_b (base := w.heap.size) (by simp [drewN_heap]) (by omega)) (by repeat (first | with_reducible exact Gr.refl _ | with_reducible refine Gr.drewN ?_ _ | with_reducible refine Gr.drew ?_ | with_reducible refine Gr.alloc ?_ _ | with_reducible refine Gr.setCell ?_ ?_ _ | (with_reducible refine Gr.trans ?_ (by assumption)) | omega | (dsimp only; omega))) (Nat.le_refl _); have k0 := grown_cell (b := w.heap.size) (o := 0) hb1 (v := .string k) (by simp [go_sem, cell_new_drewN, drewN_heap]) (by omega); have k1 := grown_cell (b := w.heap.size) (o := 1) hb1 (v := .string v) (by simp [go_sem, cell_new_drewN, drewN_heap]) (by omega); (try (have r0 := grown_cell (b := w.heap.size + 1) (o := 0) hb1 (v := .string k) (by simp [go_sem, cell_new_drewN, drewN_heap]) (by omega); have r1 := grown_cell (b := w.heap.size + 1) (o := 1) hb1 (v := .string v) (by simp [go_sem, cell_new_drewN, drewN_heap]) (by omega))))
      | (refine step_rows_g rfl _ _ rfl w.heap.size (by simp [drewN_heap]; omega) rfl ((own_empty_b (by simp [drewN_heap]) (by omega)).keep ((Gr.refl _).alloc _)) rfl (hh.out _ (by repeat (first | with_reducible exact Gr.refl _ | with_reducible refine Gr.drewN ?_ _ | with_reducible refine Gr.drew ?_ | with_reducible refine Gr.alloc ?_ _ | with_reducible refine Gr.setCell ?_ ?_ _ | (with_reducible refine Gr.trans ?_ (by assumption)) | omega | (dsimp only; omega)))) (by omega) ?_; intro oc c3 w1 ho1 hb1; simp only [Nat.zero_add, List.nil_append] at ho1; have hg1 : Gr w w1 := grown_gr hb1 ((own_empty_b (base := w.heap.size) (by simp [drewN_heap]) (by omega)).keep ((Gr.refl _).alloc _)) (by repeat (first | with_reducible exact Gr.refl _ | with_reducible refine Gr.drewN ?_ _ | with_reducible refine Gr.drew ?_ | with_reducible refine Gr.alloc ?_ _ | with_reducible refine Gr.setCell ?_ ?_ _ | (with_reducible refine Gr.trans ?_ (by assumption)) | omega | (dsimp only; omega))) (Nat.le_refl _); have k0 := grown_cell (b := w.heap.size) (o := 0) hb1 (v := .string k) (by simp [go_sem, cell_new_drewN, drewN_heap]) (by omega); have k1 := grown_cell (b := w.heap.size) (o := 1) hb1 (v := .string v) (by simp [go_sem, cell_new_drewN, drewN_heap]) (by omega); have r0 := grown_cell (b := w.heap.size + 2) (o := 0) hb1 (v := .string k) (by simp [go_sem, cell_new_drewN, drewN_heap]) (by omega); have r1 := grown_cell (b := w.heap.size + 2) (o := 1) hb1 (v := .string v) (by simp [go_sem, cell_new_drewN, drewN_heap]) (by omega))
      | (refine step_rows (w0 := w) rfl _ _ rfl (by repeat (first | with_reducible exact Gr.refl _ | with_reducible refine Gr.drewN ?_ _ | with_reducible refine Gr.drew ?_ | with_reducible refine Gr.alloc ?_ _ | with_reducible refine Gr.setCell ?_ ?_ _ | (with_reducible refine Gr.trans ?_ (by assumption)) | omega | (dsimp only; omega))) rfl (ho1.keep ((Gr.refl _).alloc _)) rfl (row_one (b := w1.heap.size) (Nat.le_refl _) (by unfold maxLen; omega) (by simp [go_sem]) (by simp [go_sem]) hk hv) (by omega) ?_; intro oc2 c4 w2 ho2 hg2)
      | (refine step_rows (w0 := w) rfl _ _ rfl hg1 rfl ho1 rfl (row_one (Nat.le_refl _) (by unfold maxLen; omega) r0 r1 hk hv) (by omega) ?_; intro oc2 c4 w2 ho2 hg2))
    all_goals
      go_wp2_with (at_builtin; refine wpList_rows (w0 := w) rfl _ _ rfl (by repeat (first | with_reducible exact Gr.refl _ | with_reducible refine Gr.drewN ?_ _ | with_reducible refine Gr.drew ?_ | with_reducible refine Gr.alloc ?_ _ | with_reducible refine Gr.setCell ?_ ?_ _ | (with_reducible refine Gr.trans ?_ (by assumption)) | omega | (dsimp only; omega))) rfl ho2 rfl (ht.out _ (by repeat (first | with_reducible exact Gr.refl _ | with_reducible refine Gr.drewN ?_ _ | with_reducible refine Gr.drew ?_ | with_reducible refine Gr.alloc ?_ _ | with_reducible refine Gr.setCell ?_ ?_ _ | (with_reducible refine Gr.trans ?_ (by assumption)) | omega | (dsimp only; omega)))) (by omega) ?_; intro oc5 c5 w5 ho5 hg5)
      go_ret2
      exact ⟨_, _, _, rfl, ho5.rows, hg5⟩
end Go.Proofs.Ytopomocbjlikjaa

namespace Go.Proofs.Ytopomocbjlikjaa
set_option linter.unusedVariables false
set_option linter.unusedSimpArgs false
open Go.BigFrame Go.RowKit Go.WideShapes

set_option maxRecDepth 100000 in
set_option maxHeartbeats 4000000 in
theorem refOver_any (oa : Option Addr) (n cap : Nat) (l : List Rw) (ob : Option Addr) (m cap2 : Nat) (p : List Wt) (w : World) (h : RowsAt w oa n cap l) (h2 : WritesAt w ob m cap2 p) (hn : n ≤ 1000) (hm : m ≤ 1000) :
    Calls Try.prog 19 #[.slice oa n cap, .slice ob m cap2] w fun e w' => ∃ o q c, e = .returned (.slice o q c) ∧ RowsAt w' o q c (overL l p) ∧ Gr w w' := by
  have H := Lib.hid h
  clear h
  obtain ⟨b2, off2, ho2, hc2⟩ := h2.cells
  have Hc2 := Lib.hid hc2
  have Ho2 := Lib.hid (fun q => (ho2 q).1)
  have H2 := Lib.hid h2
  have hn2 := h2.cap_le
  have hm2 := h2.cap_max
  unfold maxLen at hm2
  clear hc2 ho2 h2
  go_enter Try.func19, Try.ntmps19
  go_wp2_with fail
  go_loopw [0, 5] (fun s i wr => ∃ (k : Nat) (o : Option Addr) (q c : Nat), k ≤ m ∧ i = .int .i64 k ∧ s = .slice o q c ∧ Hid (RowsAt wr o q c (overL l (p.take k))) ∧ Gr w wr) (fun _ i _ => m - (intOf i).toNat)
  case atStart => exact ⟨0, oa, n, cap, Nat.zero_le _, rfl, rfl, H, Gr.refl _⟩
  case round =>
    obtain ⟨k, o, q, c, hk, rfl, rfl, hR, hg⟩ := hrel
    by_cases hlt : k < m
    · obtain ⟨a1, a2, a3⟩ := Hc2.out k hlt
      have a1 := hg.keep a1
      have a2 := hg.keep a2
      have a3 := hg.keep a3
      have hI := run_rwr cap2 Ho2.out hlt
      have hkl : k < p.length := by rw [H2.out.len]; exact hlt
      have hs1 := (H2.out.sizes k hlt).1
      have hs2 := (H2.out.sizes k hlt).2
      have hst := overL_take (l := l) hkl
      have hql : q ≤ 2000 := by
        have h1 := hR.out.len
        have h2 := overL_length l (p.take k)
        have h3 := H.out.len
        rw [List.length_take] at h2
        omega
      cases hgone : (wAt p k).gone
      · rw [hgone] at a3
        cases hf : fitsB ⟨(wAt p k).key, (wAt p k).val⟩
        · have e : stepL (overL l (p.take k)) (wAt p k) = overL l (p.take k) := by unfold stepL; rw [hgone, hf]; rfl
          rw [e] at hst
          have hF := Lib.hid (fun w => refFits_any (wAt p k).key (wAt p k).val w hs1 hs2)
          rw [hf] at hF
          have v1 := After.cell a1
          have v2 := After.cell a2
          have Hst := Lib.hid hst
          clear hst e hf hgone
          go_wp2_with fail
          refine wp_region_after (by kernel_rfl) (by kernel_rfl) ?_
          repeat (go_big_quiet_step ((go_at_call 16; (with_reducible exact after_gr (hF.out _)))))
          refine wpQuiet_nil ?_
          rintro _ ⟨⟨w1, hg1⟩, rfl⟩
          go_wp2_with fail
          go_roundw
          case rel => exact ⟨k + 1, o, q, c, by omega, by go_num, rfl, Lib.hid (by rw [Hst.out]; exact hR.out.keep (by repeat (first | with_reducible exact Gr.refl _ | with_reducible refine Gr.drewN ?_ _ | with_reducible refine Gr.drew ?_ | with_reducible refine Gr.alloc ?_ _ | with_reducible refine Gr.setCell ?_ ?_ _ | (with_reducible refine Gr.trans ?_ (by assumption)) | omega | (dsimp only; omega)))), hg.trans (by (repeat (first | with_reducible exact Gr.refl _ | with_reducible refine Gr.drewN ?_ _ | with_reducible refine Gr.drew ?_ | with_reducible refine Gr.alloc ?_ _ | with_reducible refine Gr.setCell ?_ ?_ _ | (with_reducible refine Gr.trans ?_ (by assumption)) | omega | (dsimp only; omega))))⟩
          case measure => simp [intOf]; omega
        · have e : stepL (overL l (p.take k)) (wAt p k) = putL (overL l (p.take k)) ⟨(wAt p k).key, (wAt p k).val⟩ := by unfold stepL; rw [hgone, hf]; rfl
          rw [e] at hst
          have hF := Lib.hid (fun w => refFits_any (wAt p k).key (wAt p k).val w hs1 hs2)
          rw [hf] at hF
          have v1 := After.cell a1
          have v2 := After.cell a2
          have Hst := Lib.hid hst
          clear hst e hf hgone
          go_wp2_with fail
          refine wp_region_after (by kernel_rfl) (by kernel_rfl) ?_
          repeat (go_big_quiet_step ((go_at_call 16; (with_reducible exact after_gr (hF.out _)))))
          refine wpQuiet_nil ?_
          rintro _ ⟨⟨w1, hg1⟩, rfl⟩
          clear v1 v2
          have q1 := hg1.keep a1
          have q2 := hg1.keep a2
          have HP := Lib.hid (fun w2 (hq : Gr wr w2) => refPut_any o q c _ (wAt p k).key (wAt p k).val w2 (hR.out.keep hq) (by omega) hs1 hs2)
          go_wp2_with fail
          go_region_with (go_at_call 28; ((with_reducible refine Calls.mono (HP.out _ ?_) ?_); (focus ((repeat (first | with_reducible exact Gr.refl _ | with_reducible refine Gr.drewN ?_ _ | with_reducible refine Gr.drew ?_ | with_reducible refine Gr.alloc ?_ _ | with_reducible refine Gr.setCell ?_ ?_ _ | (with_reducible refine Gr.trans ?_ (by assumption)) | omega | (dsimp only; omega))); done))); rintro e w5 ⟨o5, m5, c5, rfl, hr5, hg5⟩)
          all_goals
            have hR5 := Lib.hid hr5
            have hg15 := hg.trans (show Gr wr w5 from Gr.trans (by (repeat (first | with_reducible exact Gr.refl _ | with_reducible refine Gr.drewN ?_ _ | with_reducible refine Gr.drew ?_ | with_reducible refine Gr.alloc ?_ _ | with_reducible refine Gr.setCell ?_ ?_ _ | (with_reducible refine Gr.trans ?_ (by assumption)) | omega | (dsimp only; omega)))) hg5)
            clear hr5 hg5 HP
            go_wp2_with fail
            go_roundw
            case rel => exact ⟨k + 1, o5, m5, c5, by omega, by go_num, rfl, Lib.hid (by rw [Hst.out]; exact hR5.out), hg15⟩
            case measure => simp [intOf]; omega
      · rw [hgone] at a3
        have e : stepL (overL l (p.take k)) (wAt p k) = dropL (overL l (p.take k)) (wAt p k).key := by unfold stepL; rw [hgone]; rfl
        rw [e] at hst
        have Hst := Lib.hid hst
        clear hst e hgone
        have HD := Lib.hid (fun w2 (hq : Gr wr w2) => refDrop_any o q c _ (wAt p k).key w2 (hR.out.keep hq) (by omega) hs1)
        go_wp2_with fail
        refine (HD.out _ (by repeat (first | with_reducible exact Gr.refl _ | with_reducible refine Gr.drewN ?_ _ | with_reducible refine Gr.drew ?_ | with_reducible refine Gr.alloc ?_ _ | with_reducible refine Gr.setCell ?_ ?_ _ | (with_reducible refine Gr.trans ?_ (by assumption)) | omega | (dsimp only; omega)))).mono ?_
        rintro e w5 ⟨o5, m5, c5, rfl, hr5, hg5⟩
        have hR5 := Lib.hid hr5
        have hg15 := hg.trans (show Gr wr w5 from Gr.trans (by (repeat (first | with_reducible exact Gr.refl _ | with_reducible refine Gr.drewN ?_ _ | with_reducible refine Gr.drew ?_ | with_reducible refine Gr.alloc ?_ _ | with_reducible refine Gr.setCell ?_ ?_ _ | (with_reducible refine Gr.trans ?_ (by assumption)) | omega | (dsimp only; omega)))) hg5)
        clear hr5 hg5 HD
        go_wp2_with fail
        go_roundw
        case rel => exact ⟨k + 1, o5, m5, c5, by omega, by go_num, rfl, Lib.hid (by rw [Hst.out]; exact hR5.out), hg15⟩
        case measure => simp [intOf]; omega
    · obtain rfl : k = m := by omega
      rw [show p.take k = p from List.take_of_length_le (by rw [H2.out.len]; exact Nat.le_refl _)] at hR
      go_wp2_with fail
      go_ret
      exact ⟨o, q, c, rfl, hR.out, hg⟩

theorem wlook_hit {key : ByteArray} {p : List Wt} {j : Nat} (hj : j < p.length) (h : ∀ q, q < j → (wAt p q).key ≠ key) (e : (wAt p j).key = key) : wlook key p = some (wAt p j) := by
  unfold wlook
  rw [List.find?_eq_some_iff_getElem]
  refine ⟨by rw [decide_eq_true_iff]; exact e, j, hj, (wAt_lt hj).symm, fun q hq => ?_⟩
  have := h q hq
  rw [wAt_lt (by omega)] at this
  simp [this]
theorem wlook_no {key : ByteArray} {p : List Wt} (h : ∀ q, q < p.length → (wAt p q).key ≠ key) : wlook key p = none := by
  unfold wlook
  rw [List.find?_eq_none]
  intro r hr c
  obtain ⟨i, hi, rfl⟩ := List.getElem_of_mem hr
  rw [decide_eq_true_iff] at c
  exact h i hi (by rw [wAt_lt hi]; exact c)
/-- what Find tells -/
def findV (key : ByteArray) (a b : List Wt) : Value :=
  match wlook key b with
  | some r => .tuple #[.agg #[.string r.key, .string r.val, .bool r.gone], .bool true]
  | none => match wlook key a with
    | some r => .tuple #[.agg #[.string r.key, .string r.val, .bool r.gone], .bool true]
    | none => .tuple #[.agg #[.string ⟨#[]⟩, .string ⟨#[]⟩, .bool false], .bool false]

end Go.Proofs.Ytopomocbjlikjaa
