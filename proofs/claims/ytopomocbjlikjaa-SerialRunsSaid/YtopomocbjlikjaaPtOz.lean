import Derived.Test.YtopomocbjlikjaaPtz
namespace Go.Proofs.Ytopomocbjlikjaa
set_option linter.unusedVariables false
set_option linter.unusedSimpArgs false
open Go.BigFrame Go.RowKit Go.WideShapes

theorem OwnAt.lower2 {w : World} {base base2 : Nat} {oa : Option Addr} {n cap : Nat} {l : List Rw} (h : OwnAt w base oa n cap l) (hb : base2 ≤ base) : OwnAt w base2 oa n cap l := by
  refine ⟨⟨h.own.1, ?_⟩, h.rows⟩
  rcases h.own.2 with ⟨e, hn⟩ | ⟨g, cap, cur, e, hg, rest⟩
  · exact .inl ⟨e, hn⟩
  · exact .inr ⟨g, cap, cur, e, Nat.le_trans hb hg, rest⟩

set_option maxRecDepth 100000 in
set_option maxHeartbeats 1000000 in
theorem drop_own (oa : Option Addr) (n cap : Nat) (l : List Rw) (key : ByteArray) (w : World) (h : RowsAt w oa n cap l) (hn : n ≤ 1000000) (hk : key.size ≤ maxLen) :
    Calls Try.prog 45 #[.slice oa n cap, .string key] w fun e w' => ∃ o1 m1 c1, e = .returned (.tuple #[.slice o1 m1 c1, .bool (hasB key l)]) ∧ OwnAt w' w.heap.size o1 m1 c1 (dropL l key) ∧ Gr w w' := by
  have hF := Lib.hid (find_any oa n cap l key w h hk)
  have hle := place_le key l
  rw [h.len] at hle
  have hlt : hasB key l = true → place key l < n := fun q => by
    unfold hasB at q
    rw [decide_eq_true_iff, h.len] at q
    exact q.1
  have H := Lib.hid h
  have hc := h.cap_le
  clear h
  unfold dropL
  generalize place key l = p at *
  cases hB : hasB key l
  · rw [hB] at hF
    rw [if_neg (by decide)]
    clear hlt hB
    have ha := Lib.hid (fun w1 (hg : Gr w w1) => H.out.keep hg)
    go_enter Try.func45, Try.ntmps45
    go_wp2_with (first
      | (go_at_call 34; (with_reducible refine hF.out.mono ?_); rintro e w' ⟨rfl, d, rfl⟩)
      | (go_at_call 48; (refine Calls.mono (list1 (n := n) (cap := cap) ?_ (ha.out _ ?_) (by omega)) ?_; (focus (first | (simp [go_sem, cell_new_drewN]; done) | (refine Gr.keep (by assumption) ?_; simp [go_sem, cell_new_drewN]; done))); (focus ((repeat (first | with_reducible exact Gr.refl _ | with_reducible refine Gr.drewN ?_ _ | with_reducible refine Gr.drew ?_ | with_reducible refine Gr.alloc ?_ _ | with_reducible refine Gr.setCell ?_ ?_ _ | (with_reducible refine Gr.trans ?_ (by assumption)) | omega | (dsimp only; omega))); done))); rintro e w1 ⟨o1, m1, c1, rfl, hr1, hg1, base1, hbase1, ho1⟩))
    go_ret2
    exact ⟨_, _, _, rfl, ho1.lower2 (Nat.le_trans (Gr.le (by repeat (first | with_reducible exact Gr.refl _ | with_reducible refine Gr.drewN ?_ _ | with_reducible refine Gr.drew ?_ | with_reducible refine Gr.alloc ?_ _ | with_reducible refine Gr.setCell ?_ ?_ _ | (with_reducible refine Gr.trans ?_ (by assumption)) | omega | (dsimp only; omega)))) hbase1), by repeat (first | with_reducible exact Gr.refl _ | with_reducible refine Gr.drewN ?_ _ | with_reducible refine Gr.drew ?_ | with_reducible refine Gr.alloc ?_ _ | with_reducible refine Gr.setCell ?_ ?_ _ | (with_reducible refine Gr.trans ?_ (by assumption)) | omega | (dsimp only; omega))⟩
  · rw [hB] at hF
    have hlt := hlt hB
    rw [if_pos rfl]
    clear hB
    have hh := Lib.hid (fun w1 (hg : Gr w w1) => (H.out.keep hg).head (k := p) (by omega))
    have ht := Lib.hid (fun w1 (hg : Gr w w1) => (H.out.keep hg).tail (k := p + 1) (by omega))
    have t1 := run_head oa n cap p (by omega)
    have t2 := run_tail oa n cap (p + 1) (by omega)
    have e1 : IntKind.i64.wrap ((p : Int) + 1) = (p : Int) + 1 := IntWalk.i64_in _ (by have := H.out.cap_max; unfold maxLen at this; omega)
    have t3 : ((p + 1 : Nat) : Int) = (p : Int) + 1 := by omega
    rw [t3] at t2
    go_enter Try.func45, Try.ntmps45
    go_wp2_with (go_at_call 34; (with_reducible refine hF.out.mono ?_); rintro e w' ⟨rfl, d, rfl⟩)
    go_region_with (go_at_call 48; (refine Calls.mono (list2 (n := p) (cap := cap) (m := n - (p + 1)) (cap2 := cap - (p + 1)) ?_ ?_ (hh.out _ ?_) (by omega) (ht.out _ ?_) (by omega)) ?_; (focus (first | (simp [go_sem, cell_new_drewN]; done) | (refine Gr.keep (by assumption) ?_; simp [go_sem, cell_new_drewN]; done))); (focus (first | (simp [go_sem, cell_new_drewN]; done) | (refine Gr.keep (by assumption) ?_; simp [go_sem, cell_new_drewN]; done))); (focus ((repeat (first | with_reducible exact Gr.refl _ | with_reducible refine Gr.drewN ?_ _ | with_reducible refine Gr.drew ?_ | with_reducible refine Gr.alloc ?_ _ | with_reducible refine Gr.setCell ?_ ?_ _ | (with_reducible refine Gr.trans ?_ (by assumption)) | omega | (dsimp only; omega))); done)); (focus ((repeat (first | with_reducible exact Gr.refl _ | with_reducible refine Gr.drewN ?_ _ | with_reducible refine Gr.drew ?_ | with_reducible refine Gr.alloc ?_ _ | with_reducible refine Gr.setCell ?_ ?_ _ | (with_reducible refine Gr.trans ?_ (by assumption)) | omega | (dsimp only; omega))); done))); rintro e w1 ⟨o1, m1, c1, rfl, hr1, hg1, base1, hbase1, ho1⟩)
    all_goals
      go_wp2_with fail
      go_ret2
      exact ⟨_, _, _, rfl, ho1.lower2 (Nat.le_trans (Gr.le (by repeat (first | with_reducible exact Gr.refl _ | with_reducible refine Gr.drewN ?_ _ | with_reducible refine Gr.drew ?_ | with_reducible refine Gr.alloc ?_ _ | with_reducible refine Gr.setCell ?_ ?_ _ | (with_reducible refine Gr.trans ?_ (by assumption)) | omega | (dsimp only; omega)))) hbase1), by repeat (first | with_reducible exact Gr.refl _ | with_reducible refine Gr.drewN ?_ _ | with_reducible refine Gr.drew ?_ | with_reducible refine Gr.alloc ?_ _ | with_reducible refine Gr.setCell ?_ ?_ _ | (with_reducible refine Gr.trans ?_ (by assumption)) | omega | (dsimp only; omega))⟩

set_option maxRecDepth 100000 in
set_option maxHeartbeats 1000000 in
theorem put_own (oa : Option Addr) (n cap : Nat) (l : List Rw) (k v : ByteArray) (w : World) (h : RowsAt w oa n cap l) (hn : n ≤ 1000000) (hk : k.size ≤ maxLen) (hv : v.size ≤ maxLen) (hf : fitsB ⟨k, v⟩ = true) :
    Calls Try.prog 46 #[.slice oa n cap, .agg #[.string k, .string v]] w fun e w' => ∃ o1 m1 c1, e = .returned (.tuple #[.slice o1 m1 c1, .bool (hasB k l), .nilIface]) ∧ OwnAt w' w.heap.size o1 m1 c1 (putL l ⟨k, v⟩) ∧ Gr w w' := by
  have b0 := box_key w k v
  have b1 := box_val w k v
  have hF := fun w => fits_any k v w hk hv
  rw [hf] at hF
  have HF := Lib.hid hF
  clear hF hf
  have hD := Lib.hid (fun w1 (hg : Gr w w1) => find_any oa n cap l k w1 (h.keep hg) hk)
  have hle := place_le k l
  rw [h.len] at hle
  have hlt : hasB k l = true → place k l < n := fun q => by
    unfold hasB at q
    rw [decide_eq_true_iff, h.len] at q
    exact q.1
  have H := Lib.hid h
  have hc := h.cap_le
  have hm := h.cap_max
  unfold maxLen at hm
  clear h
  unfold putL
  dsimp only
  generalize place k l = p at *
  have hh := Lib.hid (fun w1 (hg : Gr w w1) => (H.out.keep hg).head (k := p) (by omega))
  have t1 := run_head oa n cap p (by omega)
  cases hB : hasB k l
  · rw [hB] at hD
    rw [if_neg (by decide)]
    clear hlt hB
    have ht := Lib.hid (fun w1 (hg : Gr w w1) => (H.out.keep hg).tail (k := p) (by omega))
    have t2 := run_tail oa n cap p (by omega)
    go_enter Try.func46, Try.ntmps46
    go_wp2_with (first
      | (go_at_call 40; (with_reducible refine (HF.out _).mono ?_); rintro e w1 ⟨rfl, hg1⟩; have c0 := hg1.keep b0; have c1 := hg1.keep b1)
      | (go_at_call 34; (refine (hD.out _ (by (repeat (first | with_reducible exact Gr.refl _ | with_reducible refine Gr.drewN ?_ _ | with_reducible refine Gr.drew ?_ | with_reducible refine Gr.alloc ?_ _ | with_reducible refine Gr.setCell ?_ ?_ _ | (with_reducible refine Gr.trans ?_ (by assumption)) | omega | (dsimp only; omega))); done)).mono ?_); rintro e w' ⟨rfl, d, rfl⟩))
    go_region_with (go_at_call 48; (refine Calls.mono (list3 (n := p) (cap := cap) (m := 1) (cap2 := 1) (k := [⟨k, v⟩]) (p := n - p) (cap3 := cap - p) ?_ ?_ ?_ (hh.out _ ?_) (by omega) (row_one (b := w1.heap.size) (by omega) (by unfold maxLen; omega) ?_ ?_ (by assumption) (by assumption)) (by omega) (ht.out _ ?_) (by omega)) ?_; (focus (first | (simp [go_sem, cell_new_drewN]; done) | (refine Gr.keep (by assumption) ?_; simp [go_sem, cell_new_drewN]; done))); (focus (first | (simp [go_sem, cell_new_drewN]; done) | (refine Gr.keep (by assumption) ?_; simp [go_sem, cell_new_drewN]; done))); (focus (first | (simp [go_sem, cell_new_drewN]; done) | (refine Gr.keep (by assumption) ?_; simp [go_sem, cell_new_drewN]; done))); (focus ((repeat (first | with_reducible exact Gr.refl _ | with_reducible refine Gr.drewN ?_ _ | with_reducible refine Gr.drew ?_ | with_reducible refine Gr.alloc ?_ _ | with_reducible refine Gr.setCell ?_ ?_ _ | (with_reducible refine Gr.trans ?_ (by assumption)) | omega | (dsimp only; omega))); done)); (focus (first | (simp [go_sem, cell_new_drewN]; done) | (refine Gr.keep (by assumption) ?_; simp [go_sem, cell_new_drewN]; done))); (focus (first | (simp [go_sem, cell_new_drewN]; done) | (refine Gr.keep (by assumption) ?_; simp [go_sem, cell_new_drewN]; done))); (focus ((repeat (first | with_reducible exact Gr.refl _ | with_reducible refine Gr.drewN ?_ _ | with_reducible refine Gr.drew ?_ | with_reducible refine Gr.alloc ?_ _ | with_reducible refine Gr.setCell ?_ ?_ _ | (with_reducible refine Gr.trans ?_ (by assumption)) | omega | (dsimp only; omega))); done))); rintro e w3 ⟨o3, m3, c3, rfl, hr3, hg3, base3, hbase3, ho3⟩)
    all_goals
      go_wp2_with fail
      go_ret3
      exact ⟨_, _, _, rfl, ho3.lower2 (Nat.le_trans (Gr.le (by repeat (first | with_reducible exact Gr.refl _ | with_reducible refine Gr.drewN ?_ _ | with_reducible refine Gr.drew ?_ | with_reducible refine Gr.alloc ?_ _ | with_reducible refine Gr.setCell ?_ ?_ _ | (with_reducible refine Gr.trans ?_ (by assumption)) | omega | (dsimp only; omega)))) hbase3), by repeat (first | with_reducible exact Gr.refl _ | with_reducible refine Gr.drewN ?_ _ | with_reducible refine Gr.drew ?_ | with_reducible refine Gr.alloc ?_ _ | with_reducible refine Gr.setCell ?_ ?_ _ | (with_reducible refine Gr.trans ?_ (by assumption)) | omega | (dsimp only; omega))⟩
  · rw [hB] at hD
    have hlt := hlt hB
    rw [if_pos rfl]
    clear hB
    have ht := Lib.hid (fun w1 (hg : Gr w w1) => (H.out.keep hg).tail (k := p + 1) (by omega))
    have t2 := run_tail oa n cap (p + 1) (by omega)
    have t3 : ((p + 1 : Nat) : Int) = (p : Int) + 1 := by omega
    rw [t3] at t2
    go_enter Try.func46, Try.ntmps46
    go_wp2_with (first
      | (go_at_call 40; (with_reducible refine (HF.out _).mono ?_); rintro e w1 ⟨rfl, hg1⟩; have c0 := hg1.keep b0; have c1 := hg1.keep b1)
      | (go_at_call 34; (refine (hD.out _ (by (repeat (first | with_reducible exact Gr.refl _ | with_reducible refine Gr.drewN ?_ _ | with_reducible refine Gr.drew ?_ | with_reducible refine Gr.alloc ?_ _ | with_reducible refine Gr.setCell ?_ ?_ _ | (with_reducible refine Gr.trans ?_ (by assumption)) | omega | (dsimp only; omega))); done)).mono ?_); rintro e w' ⟨rfl, d, rfl⟩))
    go_region_with (go_at_call 48; (refine Calls.mono (list3 (n := p) (cap := cap) (m := 1) (cap2 := 1) (k := [⟨k, v⟩]) (p := n - (p + 1)) (cap3 := cap - (p + 1)) ?_ ?_ ?_ (hh.out _ ?_) (by omega) (row_one (b := w1.heap.size) (by omega) (by unfold maxLen; omega) ?_ ?_ (by assumption) (by assumption)) (by omega) (ht.out _ ?_) (by omega)) ?_; (focus (first | (simp [go_sem, cell_new_drewN]; done) | (refine Gr.keep (by assumption) ?_; simp [go_sem, cell_new_drewN]; done))); (focus (first | (simp [go_sem, cell_new_drewN]; done) | (refine Gr.keep (by assumption) ?_; simp [go_sem, cell_new_drewN]; done))); (focus (first | (simp [go_sem, cell_new_drewN]; done) | (refine Gr.keep (by assumption) ?_; simp [go_sem, cell_new_drewN]; done))); (focus ((repeat (first | with_reducible exact Gr.refl _ | with_reducible refine Gr.drewN ?_ _ | with_reducible refine Gr.drew ?_ | with_reducible refine Gr.alloc ?_ _ | with_reducible refine Gr.setCell ?_ ?_ _ | (with_reducible refine Gr.trans ?_ (by assumption)) | omega | (dsimp only; omega))); done)); (focus (first | (simp [go_sem, cell_new_drewN]; done) | (refine Gr.keep (by assumption) ?_; simp [go_sem, cell_new_drewN]; done))); (focus (first | (simp [go_sem, cell_new_drewN]; done) | (refine Gr.keep (by assumption) ?_; simp [go_sem, cell_new_drewN]; done))); (focus ((repeat (first | with_reducible exact Gr.refl _ | with_reducible refine Gr.drewN ?_ _ | with_reducible refine Gr.drew ?_ | with_reducible refine Gr.alloc ?_ _ | with_reducible refine Gr.setCell ?_ ?_ _ | (with_reducible refine Gr.trans ?_ (by assumption)) | omega | (dsimp only; omega))); done))); rintro e w3 ⟨o3, m3, c3, rfl, hr3, hg3, base3, hbase3, ho3⟩)
    all_goals
      go_wp2_with fail
      go_ret3
      exact ⟨_, _, _, rfl, ho3.lower2 (Nat.le_trans (Gr.le (by repeat (first | with_reducible exact Gr.refl _ | with_reducible refine Gr.drewN ?_ _ | with_reducible refine Gr.drew ?_ | with_reducible refine Gr.alloc ?_ _ | with_reducible refine Gr.setCell ?_ ?_ _ | (with_reducible refine Gr.trans ?_ (by assumption)) | omega | (dsimp only; omega)))) hbase3), by repeat (first | with_reducible exact Gr.refl _ | with_reducible refine Gr.drewN ?_ _ | with_reducible refine Gr.drew ?_ | with_reducible refine Gr.alloc ?_ _ | with_reducible refine Gr.setCell ?_ ?_ _ | (with_reducible refine Gr.trans ?_ (by assumption)) | omega | (dsimp only; omega))⟩

end Go.Proofs.Ytopomocbjlikjaa
