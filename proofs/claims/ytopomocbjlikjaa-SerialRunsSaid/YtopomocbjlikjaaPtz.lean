import Derived.Test.YtopomocbjlikjaaHtz
namespace Go.Proofs.Ytopomocbjlikjaa
set_option linter.unusedVariables false
set_option linter.unusedSimpArgs false
open Go.BigFrame Go.RowKit Go.WideShapes

/-- rows without a key's -/
def dropL (l : List Rw) (key : ByteArray) : List Rw := if hasB key l = true then l.take (place key l) ++ l.drop (place key l + 1) else l

set_option maxRecDepth 100000 in
set_option maxHeartbeats 1000000 in
theorem drop_any (oa : Option Addr) (n cap : Nat) (l : List Rw) (key : ByteArray) (w : World) (h : RowsAt w oa n cap l) (hn : n ≤ 1000000) (hk : key.size ≤ maxLen) :
    Calls Try.prog 45 #[.slice oa n cap, .string key] w fun e w' => ∃ o1 m1 c1, e = .returned (.tuple #[.slice o1 m1 c1, .bool (hasB key l)]) ∧ RowsAt w' o1 m1 c1 (dropL l key) ∧ Gr w w' := by
  have hF := Lib.hid (find_any oa n cap l key w h hk)
  have hle := place_le key l
  rw [h.len] at hle
  have hlt : hasB key l = true → place key l < n := fun q => by
    unfold hasB at q
    rw [decide_eq_true_iff, h.len] at q
    exact q.1
  have H := Lib.hid h
  have hc := h.cap_le
  clear h
  unfold dropL
  generalize place key l = p at *
  cases hB : hasB key l
  · rw [hB] at hF
    rw [if_neg (by decide)]
    clear hlt hB
    have ha := Lib.hid (fun w1 (hg : Gr w w1) => H.out.keep hg)
    go_enter Try.func45, Try.ntmps45
    go_wp2_with (first
      | (go_at_call 34; (with_reducible refine hF.out.mono ?_); rintro e w' ⟨rfl, d, rfl⟩)
      | (go_at_call 48; (refine Calls.mono (list1 (n := n) (cap := cap) ?_ (ha.out _ ?_) (by omega)) ?_; (focus (first | (simp [go_sem, cell_new_drewN]; done) | (refine Gr.keep (by assumption) ?_; simp [go_sem, cell_new_drewN]; done))); (focus ((repeat (first | with_reducible exact Gr.refl _ | with_reducible refine Gr.drewN ?_ _ | with_reducible refine Gr.drew ?_ | with_reducible refine Gr.alloc ?_ _ | with_reducible refine Gr.setCell ?_ ?_ _ | (with_reducible refine Gr.trans ?_ (by assumption)) | omega | (dsimp only; omega))); done))); rintro e w1 ⟨o1, m1, c1, rfl, hr1, hg1, -⟩))
    go_ret2
    exact ⟨_, _, _, rfl, hr1, by repeat (first | with_reducible exact Gr.refl _ | with_reducible refine Gr.drewN ?_ _ | with_reducible refine Gr.drew ?_ | with_reducible refine Gr.alloc ?_ _ | with_reducible refine Gr.setCell ?_ ?_ _ | (with_reducible refine Gr.trans ?_ (by assumption)) | omega | (dsimp only; omega))⟩
  · rw [hB] at hF
    have hlt := hlt hB
    rw [if_pos rfl]
    clear hB
    have hh := Lib.hid (fun w1 (hg : Gr w w1) => (H.out.keep hg).head (k := p) (by omega))
    have ht := Lib.hid (fun w1 (hg : Gr w w1) => (H.out.keep hg).tail (k := p + 1) (by omega))
    have t1 := run_head oa n cap p (by omega)
    have t2 := run_tail oa n cap (p + 1) (by omega)
    have e1 : IntKind.i64.wrap ((p : Int) + 1) = (p : Int) + 1 := IntWalk.i64_in _ (by have := H.out.cap_max; unfold maxLen at this; omega)
    have t3 : ((p + 1 : Nat) : Int) = (p : Int) + 1 := by omega
    rw [t3] at t2
    go_enter Try.func45, Try.ntmps45
    go_wp2_with (go_at_call 34; (with_reducible refine hF.out.mono ?_); rintro e w' ⟨rfl, d, rfl⟩)
    go_region_with (go_at_call 48; (refine Calls.mono (list2 (n := p) (cap := cap) (m := n - (p + 1)) (cap2 := cap - (p + 1)) ?_ ?_ (hh.out _ ?_) (by omega) (ht.out _ ?_) (by omega)) ?_; (focus (first | (simp [go_sem, cell_new_drewN]; done) | (refine Gr.keep (by assumption) ?_; simp [go_sem, cell_new_drewN]; done))); (focus (first | (simp [go_sem, cell_new_drewN]; done) | (refine Gr.keep (by assumption) ?_; simp [go_sem, cell_new_drewN]; done))); (focus ((repeat (first | with_reducible exact Gr.refl _ | with_reducible refine Gr.drewN ?_ _ | with_reducible refine Gr.drew ?_ | with_reducible refine Gr.alloc ?_ _ | with_reducible refine Gr.setCell ?_ ?_ _ | (with_reducible refine Gr.trans ?_ (by assumption)) | omega | (dsimp only; omega))); done)); (focus ((repeat (first | with_reducible exact Gr.refl _ | with_reducible refine Gr.drewN ?_ _ | with_reducible refine Gr.drew ?_ | with_reducible refine Gr.alloc ?_ _ | with_reducible refine Gr.setCell ?_ ?_ _ | (with_reducible refine Gr.trans ?_ (by assumption)) | omega | (dsimp only; omega))); done))); rintro e w1 ⟨o1, m1, c1, rfl, hr1, hg1, -⟩)
    all_goals
      go_wp2_with fail
      go_ret2
      exact ⟨_, _, _, rfl, hr1, by repeat (first | with_reducible exact Gr.refl _ | with_reducible refine Gr.drewN ?_ _ | with_reducible refine Gr.drew ?_ | with_reducible refine Gr.alloc ?_ _ | with_reducible refine Gr.setCell ?_ ?_ _ | (with_reducible refine Gr.trans ?_ (by assumption)) | omega | (dsimp only; omega))⟩

end Go.Proofs.Ytopomocbjlikjaa

namespace Go.Proofs.Ytopomocbjlikjaa
set_option linter.unusedVariables false
set_option linter.unusedSimpArgs false
open Go.BigFrame Go.RowKit Go.WideShapes

/-- rows with one more, or another one -/
def putL (l : List Rw) (r : Rw) : List Rw := l.take (place r.key l) ++ [r] ++ l.drop (if hasB r.key l = true then place r.key l + 1 else place r.key l)

set_option maxRecDepth 100000 in
set_option maxHeartbeats 1000000 in
theorem put_bad (oa : Option Addr) (n cap : Nat) (k v : ByteArray) (w : World) (hk : k.size ≤ maxLen) (hv : v.size ≤ maxLen) (hf : fitsB ⟨k, v⟩ = false) :
    Calls Try.prog 46 #[.slice oa n cap, .agg #[.string k, .string v]] w fun e w' => e = .returned (.tuple #[.slice none 0 0, .bool false, errV 1]) ∧ Gr w w' := by
  have b0 := After.cell (box_key w k v)
  have b1 := After.cell (box_val w k v)
  have hF := fun w => fits_any k v w hk hv
  rw [hf] at hF
  have HF := Lib.hid hF
  clear hF hf
  go_enter Try.func46, Try.ntmps46
  go_wp2_with (go_at_call 40; (with_reducible refine (HF.out _).mono ?_); rintro e w1 ⟨rfl, hg1⟩)
  go_ret3
  exact ⟨rfl, by repeat (first | with_reducible exact Gr.refl _ | with_reducible refine Gr.drewN ?_ _ | with_reducible refine Gr.drew ?_ | with_reducible refine Gr.alloc ?_ _ | with_reducible refine Gr.setCell ?_ ?_ _ | (with_reducible refine Gr.trans ?_ (by assumption)) | omega | (dsimp only; omega))⟩

set_option maxRecDepth 100000 in
set_option maxHeartbeats 1000000 in
theorem put_any (oa : Option Addr) (n cap : Nat) (l : List Rw) (k v : ByteArray) (w : World) (h : RowsAt w oa n cap l) (hn : n ≤ 1000000) (hk : k.size ≤ maxLen) (hv : v.size ≤ maxLen) (hf : fitsB ⟨k, v⟩ = true) :
    Calls Try.prog 46 #[.slice oa n cap, .agg #[.string k, .string v]] w fun e w' => ∃ o1 m1 c1, e = .returned (.tuple #[.slice o1 m1 c1, .bool (hasB k l), .nilIface]) ∧ RowsAt w' o1 m1 c1 (putL l ⟨k, v⟩) ∧ Gr w w' := by
  have b0 := box_key w k v
  have b1 := box_val w k v
  have hF := fun w => fits_any k v w hk hv
  rw [hf] at hF
  have HF := Lib.hid hF
  clear hF hf
  have hD := Lib.hid (fun w1 (hg : Gr w w1) => find_any oa n cap l k w1 (h.keep hg) hk)
  have hle := place_le k l
  rw [h.len] at hle
  have hlt : hasB k l = true → place k l < n := fun q => by
    unfold hasB at q
    rw [decide_eq_true_iff, h.len] at q
    exact q.1
  have H := Lib.hid h
  have hc := h.cap_le
  have hm := h.cap_max
  unfold maxLen at hm
  clear h
  unfold putL
  dsimp only
  generalize place k l = p at *
  have hh := Lib.hid (fun w1 (hg : Gr w w1) => (H.out.keep hg).head (k := p) (by omega))
  have t1 := run_head oa n cap p (by omega)
  cases hB : hasB k l
  · rw [hB] at hD
    rw [if_neg (by decide)]
    clear hlt hB
    have ht := Lib.hid (fun w1 (hg : Gr w w1) => (H.out.keep hg).tail (k := p) (by omega))
    have t2 := run_tail oa n cap p (by omega)
    go_enter Try.func46, Try.ntmps46
    go_wp2_with (first
      | (go_at_call 40; (with_reducible refine (HF.out _).mono ?_); rintro e w1 ⟨rfl, hg1⟩; have c0 := hg1.keep b0; have c1 := hg1.keep b1)
      | (go_at_call 34; (refine (hD.out _ (by (repeat (first | with_reducible exact Gr.refl _ | with_reducible refine Gr.drewN ?_ _ | with_reducible refine Gr.drew ?_ | with_reducible refine Gr.alloc ?_ _ | with_reducible refine Gr.setCell ?_ ?_ _ | (with_reducible refine Gr.trans ?_ (by assumption)) | omega | (dsimp only; omega))); done)).mono ?_); rintro e w' ⟨rfl, d, rfl⟩))
    go_region_with (go_at_call 48; (refine Calls.mono (list3 (n := p) (cap := cap) (m := 1) (cap2 := 1) (k := [⟨k, v⟩]) (p := n - p) (cap3 := cap - p) ?_ ?_ ?_ (hh.out _ ?_) (by omega) (row_one (b := w1.heap.size) (by omega) (by unfold maxLen; omega) ?_ ?_ (by assumption) (by assumption)) (by omega) (ht.out _ ?_) (by omega)) ?_; (focus (first | (simp [go_sem, cell_new_drewN]; done) | (refine Gr.keep (by assumption) ?_; simp [go_sem, cell_new_drewN]; done))); (focus (first | (simp [go_sem, cell_new_drewN]; done) | (refine Gr.keep (by assumption) ?_; simp [go_sem, cell_new_drewN]; done))); (focus (first | (simp [go_sem, cell_new_drewN]; done) | (refine Gr.keep (by assumption) ?_; simp [go_sem, cell_new_drewN]; done))); (focus ((repeat (first | with_reducible exact Gr.refl _ | with_reducible refine Gr.drewN ?_ _ | with_reducible refine Gr.drew ?_ | with_reducible refine Gr.alloc ?_ _ | with_reducible refine Gr.setCell ?_ ?_ _ | (with_reducible refine Gr.trans ?_ (by assumption)) | omega | (dsimp only; omega))); done)); (focus (first | (simp [go_sem, cell_new_drewN]; done) | (refine Gr.keep (by assumption) ?_; simp [go_sem, cell_new_drewN]; done))); (focus (first | (simp [go_sem, cell_new_drewN]; done) | (refine Gr.keep (by assumption) ?_; simp [go_sem, cell_new_drewN]; done))); (focus ((repeat (first | with_reducible exact Gr.refl _ | with_reducible refine Gr.drewN ?_ _ | with_reducible refine Gr.drew ?_ | with_reducible refine Gr.alloc ?_ _ | with_reducible refine Gr.setCell ?_ ?_ _ | (with_reducible refine Gr.trans ?_ (by assumption)) | omega | (dsimp only; omega))); done))); rintro e w3 ⟨o3, m3, c3, rfl, hr3, hg3, -⟩)
    all_goals
      go_wp2_with fail
      go_ret3
      exact ⟨_, _, _, rfl, hr3, by repeat (first | with_reducible exact Gr.refl _ | with_reducible refine Gr.drewN ?_ _ | with_reducible refine Gr.drew ?_ | with_reducible refine Gr.alloc ?_ _ | with_reducible refine Gr.setCell ?_ ?_ _ | (with_reducible refine Gr.trans ?_ (by assumption)) | omega | (dsimp only; omega))⟩
  · rw [hB] at hD
    have hlt := hlt hB
    rw [if_pos rfl]
    clear hB
    have ht := Lib.hid (fun w1 (hg : Gr w w1) => (H.out.keep hg).tail (k := p + 1) (by omega))
    have t2 := run_tail oa n cap (p + 1) (by omega)
    have t3 : ((p + 1 : Nat) : Int) = (p : Int) + 1 := by omega
    rw [t3] at t2
    go_enter Try.func46, Try.ntmps46
    go_wp2_with (first
      | (go_at_call 40; (with_reducible refine (HF.out _).mono ?_); rintro e w1 ⟨rfl, hg1⟩; have c0 := hg1.keep b0; have c1 := hg1.keep b1)
      | (go_at_call 34; (refine (hD.out _ (by (repeat (first | with_reducible exact Gr.refl _ | with_reducible refine Gr.drewN ?_ _ | with_reducible refine Gr.drew ?_ | with_reducible refine Gr.alloc ?_ _ | with_reducible refine Gr.setCell ?_ ?_ _ | (with_reducible refine Gr.trans ?_ (by assumption)) | omega | (dsimp only; omega))); done)).mono ?_); rintro e w' ⟨rfl, d, rfl⟩))
    go_region_with (go_at_call 48; (refine Calls.mono (list3 (n := p) (cap := cap) (m := 1) (cap2 := 1) (k := [⟨k, v⟩]) (p := n - (p + 1)) (cap3 := cap - (p + 1)) ?_ ?_ ?_ (hh.out _ ?_) (by omega) (row_one (b := w1.heap.size) (by omega) (by unfold maxLen; omega) ?_ ?_ (by assumption) (by assumption)) (by omega) (ht.out _ ?_) (by omega)) ?_; (focus (first | (simp [go_sem, cell_new_drewN]; done) | (refine Gr.keep (by assumption) ?_; simp [go_sem, cell_new_drewN]; done))); (focus (first | (simp [go_sem, cell_new_drewN]; done) | (refine Gr.keep (by assumption) ?_; simp [go_sem, cell_new_drewN]; done))); (focus (first | (simp [go_sem, cell_new_drewN]; done) | (refine Gr.keep (by assumption) ?_; simp [go_sem, cell_new_drewN]; done))); (focus ((repeat (first | with_reducible exact Gr.refl _ | with_reducible refine Gr.drewN ?_ _ | with_reducible refine Gr.drew ?_ | with_reducible refine Gr.alloc ?_ _ | with_reducible refine Gr.setCell ?_ ?_ _ | (with_reducible refine Gr.trans ?_ (by assumption)) | omega | (dsimp only; omega))); done)); (focus (first | (simp [go_sem, cell_new_drewN]; done) | (refine Gr.keep (by assumption) ?_; simp [go_sem, cell_new_drewN]; done))); (focus (first | (simp [go_sem, cell_new_drewN]; done) | (refine Gr.keep (by assumption) ?_; simp [go_sem, cell_new_drewN]; done))); (focus ((repeat (first | with_reducible exact Gr.refl _ | with_reducible refine Gr.drewN ?_ _ | with_reducible refine Gr.drew ?_ | with_reducible refine Gr.alloc ?_ _ | with_reducible refine Gr.setCell ?_ ?_ _ | (with_reducible refine Gr.trans ?_ (by assumption)) | omega | (dsimp only; omega))); done))); rintro e w3 ⟨o3, m3, c3, rfl, hr3, hg3, -⟩)
    all_goals
      go_wp2_with fail
      go_ret3
      exact ⟨_, _, _, rfl, hr3, by repeat (first | with_reducible exact Gr.refl _ | with_reducible refine Gr.drewN ?_ _ | with_reducible refine Gr.drew ?_ | with_reducible refine Gr.alloc ?_ _ | with_reducible refine Gr.setCell ?_ ?_ _ | (with_reducible refine Gr.trans ?_ (by assumption)) | omega | (dsimp only; omega))⟩

end Go.Proofs.Ytopomocbjlikjaa

namespace Go.Proofs.Ytopomocbjlikjaa
set_option linter.unusedVariables false
set_option linter.unusedSimpArgs false
open Go.BigFrame Go.RowKit Go.WideShapes

/-- an answer that says at most that there are few -/
def FewSays (n : Nat) (e : Ending) : Prop := ∃ b : Bool, e = .returned (.bool b) ∧ (b = true → n ≤ 100)

end Go.Proofs.Ytopomocbjlikjaa

namespace Go.Proofs.Ytopomocbjlikjaa
set_option linter.unusedVariables false
set_option linter.unusedSimpArgs false
open Go.BigFrame Go.RowKit Go.WideShapes

theorem run_row0 {oa : Option Addr} {n b off : Nat} (cap : Nat) (ho : 0 < n → oa = some ⟨b, off, none⟩) (hk : 0 < n) (w : World) :
    (Instr.indexAt 25 (.slice oa n cap) (.int .i64 0)).run Try.prog w = .ok (.pointer (some ⟨b, off, none⟩)) w := by
  have h := run_row cap ho hk w
  rw [Nat.zero_mul, Nat.add_zero] at h
  exact h
end Go.Proofs.Ytopomocbjlikjaa

namespace Go.Proofs.Ytopomocbjlikjaa
set_option linter.unusedVariables false
set_option linter.unusedSimpArgs false
open Go.BigFrame Go.RowKit Go.WideShapes

def abc : List Rw := [⟨⟨#[97]⟩, ⟨#[]⟩⟩, ⟨⟨#[98]⟩, ⟨#[]⟩⟩, ⟨⟨#[99]⟩, ⟨#[]⟩⟩]
end Go.Proofs.Ytopomocbjlikjaa

namespace Go.Proofs.Ytopomocbjlikjaa
set_option linter.unusedVariables false
set_option linter.unusedSimpArgs false

/-- is a row's key in a span? -/
def inS (low high : ByteArray) (u : Bool) (r : Rw) : Bool := inB low high u r.key
/-- rows in the order in which they are gone through -/
def visit (l : List Rw) (rev : Bool) : List Rw := if rev = true then l.reverse else l
theorem visit_length (l : List Rw) (rev : Bool) : (visit l rev).length = l.length := by unfold visit; split <;> simp
theorem visit_get {l : List Rw} {rev : Bool} {k : Nat} (h : k < l.length) : rAt (visit l rev) k = rAt l (if rev = true then l.length - 1 - k else k) := by
  unfold visit
  split
  · rw [rAt_lt (by simpa using h), rAt_lt (by omega), List.getElem_reverse]
  · rfl
/-- rows of a span, by a limit -/
def takeR (low high : ByteArray) (u : Bool) (lim : Int) (rev : Bool) (l : List Rw) : List Rw :=
  if 1 ≤ lim then ((visit l rev).filter (inS low high u)).take lim.toNat else (visit l rev).filter (inS low high u)
/-- what is found among the first k -/
def found (low high : ByteArray) (u : Bool) (xs : List Rw) (k : Nat) : List Rw := (xs.take k).filter (inS low high u)

theorem found_in {low high : ByteArray} {u : Bool} {xs : List Rw} {k : Nat} (hk : k < xs.length) (h : inS low high u (rAt xs k) = true) : found low high u xs (k + 1) = found low high u xs k ++ [rAt xs k] := by
  unfold found
  rw [List.take_succ_eq_append_getElem hk, List.filter_append, ← rAt_lt hk]
  simp [h]
theorem found_out {low high : ByteArray} {u : Bool} {xs : List Rw} {k : Nat} (hk : k < xs.length) (h : inS low high u (rAt xs k) = false) : found low high u xs (k + 1) = found low high u xs k := by
  unfold found
  rw [List.take_succ_eq_append_getElem hk, List.filter_append, ← rAt_lt hk]
  simp [h]
theorem found_le (low high : ByteArray) (u : Bool) (xs : List Rw) (k : Nat) : (found low high u xs k).length ≤ xs.length := by
  unfold found
  exact Nat.le_trans (List.length_filter_le _ _) (by rw [List.length_take]; omega)
theorem found_split (low high : ByteArray) (u : Bool) (xs : List Rw) (k : Nat) : xs.filter (inS low high u) = found low high u xs k ++ (xs.drop k).filter (inS low high u) := by
  unfold found
  rw [← List.filter_append, List.take_append_drop]
theorem takeR_end {low high : ByteArray} {u : Bool} {lim : Int} {rev : Bool} {l : List Rw} {k : Nat} (hk : l.length ≤ k) (h : 1 ≤ lim → ((found low high u (visit l rev) k).length : Int) < lim) :
    takeR low high u lim rev l = found low high u (visit l rev) k := by
  have e : found low high u (visit l rev) k = (visit l rev).filter (inS low high u) := by
    unfold found; rw [List.take_of_length_le (by rw [visit_length]; exact hk)]
  unfold takeR
  rw [e] at h ⊢
  split
  · rename_i q
    have := h q
    rw [List.take_of_length_le (by omega)]
  · rfl
theorem takeR_stop {low high : ByteArray} {u : Bool} {lim : Int} {rev : Bool} {l : List Rw} {k : Nat} (h1 : 1 ≤ lim) (h : ((found low high u (visit l rev) k).length : Int) = lim) :
    takeR low high u lim rev l = found low high u (visit l rev) k := by
  unfold takeR
  rw [if_pos h1, found_split low high u (visit l rev) k]
  exact List.take_left' (by omega)
theorem takeR_sized {low high : ByteArray} {u : Bool} {lim : Int} {rev : Bool} {l : List Rw} : (takeR low high u lim rev l).length ≤ l.length := by
  have h : ((visit l rev).filter (inS low high u)).length ≤ l.length := by
    have := List.length_filter_le (inS low high u) (visit l rev)
    rwa [visit_length] at this
  unfold takeR
  split
  · rw [List.length_take]; omega
  · exact h
end Go.Proofs.Ytopomocbjlikjaa

namespace Go.Proofs.Ytopomocbjlikjaa
set_option linter.unusedVariables false
set_option linter.unusedSimpArgs false
open Go.BigFrame Go.RowKit Go.WideShapes

/-- a row's key stands ahead of another one's -/
def ltR (a b : Rw) : Prop := Str.before (Tx a.key) (Tx b.key) = true
theorem tx_inj {a b : ByteArray} (h : Tx a = Tx b) : a = b := bytes_inj h

/-- rows that may be: each fits, each ahead of all behind it -/
theorem rowsOkB_iff (l : List Rw) : rowsOkB l = true ↔ (∀ r ∈ l, fitsB r = true) ∧ l.Pairwise ltR := by
  unfold rowsOkB
  rw [decide_eq_true_iff]
  constructor
  · intro h
    refine ⟨fun r hr => ?_, ?_⟩
    · obtain ⟨i, hi, rfl⟩ := List.getElem_of_mem hr
      have := (h i hi).1
      rwa [rAt_lt hi] at this
    · rw [List.pairwise_iff_getElem]
      have key : ∀ d i, i + d + 1 < l.length → ltR (rAt l i) (rAt l (i + d + 1)) := by
        intro d
        induction d with
        | zero =>
          intro i hi
          have := (h (i + 1) hi).2 (by omega)
          rw [Nat.add_sub_cancel] at this
          exact Str.cmp_neg_iff.1 this
        | succ d ih =>
          intro i hi
          have h1 := ih i (by omega)
          have h2 := (h (i + (d + 1) + 1) hi).2 (by omega)
          have h2' := Str.cmp_neg_iff.1 h2
          exact Str.before_trans h1 h2'
      intro i j hi hj hij
      have := key (j - i - 1) i (by omega)
      rw [show i + (j - i - 1) + 1 = j by omega, rAt_lt hi, rAt_lt hj] at this
      exact this
  · rintro ⟨h1, h2⟩ i hi
    refine ⟨?_, fun h0 => ?_⟩
    · rw [rAt_lt hi]; exact h1 _ (List.getElem_mem hi)
    · rw [List.pairwise_iff_getElem] at h2
      have := h2 (i - 1) i (by omega) hi (by omega)
      unfold kAt
      rw [rAt_lt hi, rAt_lt (by omega)]
      exact Str.cmp_neg_iff.2 this

theorem place_take (key : ByteArray) (l : List Rw) : ∀ r ∈ l.take (place key l), Str.before (Tx r.key) (Tx key) = true := by
  induction l with
  | nil => simp
  | cons r l ih =>
    simp only [place]
    split
    · rename_i q
      intro x hx
      rw [List.take_succ_cons, List.mem_cons] at hx
      rcases hx with rfl | hx
      · exact Str.cmp_neg_iff.1 q
      · exact ih x hx
    · simp
theorem place_drop {key : ByteArray} {l : List Rw} (hs : l.Pairwise ltR) : ∀ r ∈ l.drop (place key l), Str.before (Tx r.key) (Tx key) = false := by
  induction l with
  | nil => simp
  | cons r l ih =>
    rw [List.pairwise_cons] at hs
    simp only [place]
    split
    · rw [List.drop_succ_cons]; exact ih hs.2
    · rename_i q
      have q' : Str.before (Tx r.key) (Tx key) = false := by
        have := mt Str.cmp_neg_iff.2 q
        simpa using this
      intro x hx
      rw [List.drop_zero, List.mem_cons] at hx
      rcases hx with rfl | hx
      · exact q'
      · have h1 := hs.1 x hx
        cases hb : Str.before (Tx x.key) (Tx key)
        · rfl
        · rw [Str.before_trans h1 hb] at q'; cases q'
/-- the place, told by the two sides -/
theorem place_of {key : ByteArray} {A B : List Rw} (hA : ∀ r ∈ A, Str.before (Tx r.key) (Tx key) = true) (hB : ∀ r ∈ B, Str.before (Tx r.key) (Tx key) = false) : place key (A ++ B) = A.length := by
  induction A with
  | nil =>
    cases B with
    | nil => rfl
    | cons b B =>
      have := hB b (by simp)
      simp only [List.nil_append, place]
      rw [if_neg (fun q => by rw [Str.cmp_neg_iff.1 q] at this; cases this)]
      rfl
  | cons a A ih =>
    simp only [List.cons_append, place]
    rw [if_pos (Str.cmp_neg_iff.2 (hA a (by simp))), ih (fun r hr => hA r (by simp [hr]))]
    rfl

/-- rows around a key -/
structure Around (key : ByteArray) (l A M C : List Rw) : Prop where
  eq : l = A ++ M ++ C
  low : ∀ r ∈ A, Str.before (Tx r.key) (Tx key) = true
  mid : ∀ r ∈ M, r.key = key
  one : M.length ≤ 1
  high : ∀ r ∈ C, Str.before (Tx key) (Tx r.key) = true
theorem around_has {key : ByteArray} {l : List Rw} (hs : l.Pairwise ltR) (h : hasB key l = true) : Around key l (l.take (place key l)) [rAt l (place key l)] (l.drop (place key l + 1)) := by
  unfold hasB at h
  rw [decide_eq_true_iff] at h
  obtain ⟨h1, h2⟩ := h
  have e : l.drop (place key l) = rAt l (place key l) :: l.drop (place key l + 1) := by rw [List.drop_eq_getElem_cons h1, rAt_lt h1]
  refine ⟨?_, place_take key l, ?_, by simp, ?_⟩
  · rw [List.append_assoc, List.singleton_append, ← e, List.take_append_drop]
  · intro r hr
    rw [List.mem_singleton] at hr
    rw [hr]; exact h2
  · intro r hr
    have hp : (l.drop (place key l)).Pairwise ltR := List.Pairwise.sublist (List.drop_sublist _ _) hs
    rw [e, List.pairwise_cons] at hp
    have := hp.1 r hr
    unfold ltR at this
    rw [show (rAt l (place key l)).key = key from h2] at this
    exact this
theorem around_hasnt {key : ByteArray} {l : List Rw} (hs : l.Pairwise ltR) (h : hasB key l = false) : Around key l (l.take (place key l)) [] (l.drop (place key l)) := by
  unfold hasB at h
  rw [decide_eq_false_iff_not] at h
  refine ⟨by rw [List.append_nil, List.take_append_drop], place_take key l, by simp, by simp, ?_⟩
  have hp : (l.drop (place key l)).Pairwise ltR := List.Pairwise.sublist (List.drop_sublist _ _) hs
  have hd := place_drop (key := key) hs
  rcases Nat.lt_or_ge (place key l) l.length with h1 | h1
  · have e : l.drop (place key l) = rAt l (place key l) :: l.drop (place key l + 1) := by rw [List.drop_eq_getElem_cons h1, rAt_lt h1]
    have hk : (rAt l (place key l)).key ≠ key := fun q => h ⟨h1, q⟩
    have h0 : Str.before (Tx key) (Tx (rAt l (place key l)).key) = true := by
      rcases Str.before_total (Tx key) (Tx (rAt l (place key l)).key) with q | q | q
      · exact q
      · exact absurd (tx_inj q).symm hk
      · rw [hd _ (by rw [e]; simp)] at q; cases q
    rw [e] at hp ⊢
    rw [List.pairwise_cons] at hp
    intro r hr
    rcases List.mem_cons.1 hr with rfl | hr
    · exact h0
    · exact Str.before_trans h0 (hp.1 r hr)
  · rw [List.drop_of_length_le h1]; simp
theorem Around.place {key : ByteArray} {l A M C : List Rw} (h : Around key l A M C) : place key l = A.length := by
  rw [h.eq, List.append_assoc]
  refine place_of h.low fun r hr => ?_
  rcases List.mem_append.1 hr with q | q
  · rw [h.mid r q]; exact Str.before_irrefl _
  · exact Str.before_asymm (h.high r q)
theorem Around.has {key : ByteArray} {l A C : List Rw} {x : Rw} (h : Around key l A [x] C) : hasB key l = true ∧ rAt l (Go.Proofs.Ytopomocbjlikjaa.place key l) = x := by
  have e : rAt l A.length = x := by
    rw [h.eq, rAt_lt (by simp)]; simp
  unfold hasB kAt
  rw [h.place, decide_eq_true_iff, e]
  exact ⟨⟨by rw [h.eq]; simp, h.mid x (by simp)⟩, rfl⟩
theorem Around.hasnt {key : ByteArray} {l A C : List Rw} (h : Around key l A [] C) : hasB key l = false := by
  unfold hasB
  rw [h.place, decide_eq_false_iff_not]
  rintro ⟨q1, q2⟩
  have e : rAt l A.length ∈ C := by
    rw [rAt_lt q1]
    have q3 : 0 < C.length := by have := congrArg List.length h.eq; simp at this; omega
    have : l[A.length] = C[0] := by
      have := h.eq
      subst this
      rw [List.getElem_append_right (by simp)]
      simp
    rw [this]; exact List.getElem_mem _
  have := h.high _ e
  unfold kAt at q2
  rw [q2, Str.before_irrefl] at this
  cases this

/-- the row of a key -/
def look (key : ByteArray) (l : List Rw) : Option Rw := l.find? (fun r => decide (r.key = key))
theorem Around.look {key : ByteArray} {l A M C : List Rw} (h : Around key l A M C) : look key l = M.head? := by
  have nA : A.find? (fun r => decide (r.key = key)) = none := by
    rw [List.find?_eq_none]
    intro r hr q
    have := h.low r hr
    rw [decide_eq_true_iff] at q
    rw [q, Str.before_irrefl] at this; cases this
  have nC : C.find? (fun r => decide (r.key = key)) = none := by
    rw [List.find?_eq_none]
    intro r hr q
    have := h.high r hr
    rw [decide_eq_true_iff] at q
    rw [q, Str.before_irrefl] at this; cases this
  unfold Go.Proofs.Ytopomocbjlikjaa.look
  rw [h.eq, List.find?_append, List.find?_append, nA, nC]
  cases M with
  | nil => rfl
  | cons m M => simp [h.mid m (by simp)]
theorem look_spec {key : ByteArray} {l : List Rw} (hs : l.Pairwise ltR) : look key l = if hasB key l = true then some (rAt l (place key l)) else none := by
  cases h : hasB key l
  · rw [(around_hasnt hs h).look]; rfl
  · rw [(around_has hs h).look]; rfl

theorem putL_around {l : List Rw} {r : Rw} (hs : l.Pairwise ltR) : ∃ A M C, Around r.key l A M C ∧ putL l r = A ++ [r] ++ C ∧ dropL l r.key = A ++ C ∧ (hasB r.key l = true ↔ M ≠ []) := by
  cases h : hasB r.key l
  · refine ⟨_, _, _, around_hasnt hs h, ?_, ?_, by simp⟩
    · unfold putL; rw [h, if_neg (by decide)]
    · unfold dropL; rw [h]; simp
  · refine ⟨_, _, _, around_has hs h, ?_, ?_, by simp⟩
    · unfold putL; rw [h, if_pos rfl]
    · unfold dropL; rw [h]; simp

theorem pair_put {key : ByteArray} {l A M C : List Rw} (h : Around key l A M C) (hs : l.Pairwise ltR) (r : Rw) (hr : r.key = key) : (A ++ [r] ++ C).Pairwise ltR ∧ (A ++ C).Pairwise ltR := by
  have e := h.eq
  subst e
  rw [List.pairwise_append, List.pairwise_append] at hs
  obtain ⟨⟨hA, -, -⟩, hC, hx⟩ := hs
  have hac : ∀ a ∈ A, ∀ c ∈ C, ltR a c := fun a ha c hc => hx a (by simp [ha]) c hc
  refine ⟨?_, List.pairwise_append.2 ⟨hA, hC, hac⟩⟩
  rw [List.pairwise_append, List.pairwise_append]
  refine ⟨⟨hA, List.pairwise_singleton _ _, fun a ha b hb => ?_⟩, hC, fun a ha c hc => ?_⟩
  · rw [List.mem_singleton] at hb; subst hb
    unfold ltR; rw [hr]; exact h.low a ha
  · rcases List.mem_append.1 ha with q | q
    · exact hac a q c hc
    · rw [List.mem_singleton] at q; subst q
      unfold ltR; rw [hr]; exact h.high c hc

/-- what is kept when a row is put and dropped -/
theorem keeps {l : List Rw} {r : Rw} (h : rowsOkB l = true) (hf : fitsB r = true) :
    rowsOkB (putL l r) = true ∧ rowsOkB (dropL l r.key) = true ∧ hasB r.key (putL l r) = true ∧ rAt (putL l r) (place r.key (putL l r)) = r ∧ hasB r.key (dropL l r.key) = false
      ∧ (putL l r).length = (dropL l r.key).length + 1
      ∧ ∀ other, other ≠ r.key → look other (putL l r) = look other l ∧ look other (dropL l r.key) = look other l := by
  rw [rowsOkB_iff] at h
  obtain ⟨h1, hs⟩ := h
  obtain ⟨A, M, C, ha, e1, e2, -⟩ := putL_around (r := r) hs
  obtain ⟨p1, p2⟩ := pair_put ha hs r rfl
  have hl := ha.eq
  have a1 : Around r.key (A ++ [r] ++ C) A [r] C := ⟨rfl, ha.low, by simp, by simp, ha.high⟩
  have a2 : Around r.key (A ++ C) A [] C := ⟨by simp, ha.low, by simp, by simp, ha.high⟩
  rw [e1, e2]
  refine ⟨?_, ?_, a1.has.1, a1.has.2, a2.hasnt, by simp; omega, fun other ho => ?_⟩
  · rw [rowsOkB_iff]
    refine ⟨fun x hx => ?_, p1⟩
    simp only [List.mem_append, List.mem_singleton] at hx
    rcases hx with (hx | hx) | hx
    · exact h1 x (by rw [hl]; simp [hx])
    · rw [hx]; exact hf
    · exact h1 x (by rw [hl]; simp [hx])
  · rw [rowsOkB_iff]
    refine ⟨fun x hx => ?_, p2⟩
    simp only [List.mem_append] at hx
    rcases hx with hx | hx
    · exact h1 x (by rw [hl]; simp [hx])
    · exact h1 x (by rw [hl]; simp [hx])
  · have nr : ([r] : List Rw).find? (fun x => decide (x.key = other)) = none := by
      rw [List.find?_eq_none]; intro x hx q
      rw [List.mem_singleton] at hx; subst hx
      rw [decide_eq_true_iff] at q; exact ho q.symm
    have nM : M.find? (fun x => decide (x.key = other)) = none := by
      rw [List.find?_eq_none]; intro x hx q
      rw [decide_eq_true_iff] at q; exact ho (by rw [← q, ha.mid x hx])
    unfold look
    constructor
    · rw [hl, List.find?_append, List.find?_append, List.find?_append, List.find?_append, nr, nM]
    · rw [hl, List.find?_append, List.find?_append, List.find?_append, nM]; simp

/-- what another key has, told by the look -/
theorem others {other : ByteArray} {l P : List Rw} (hl : rowsOkB l = true) (hP : rowsOkB P = true) (h : look other P = look other l) :
    hasB other P = hasB other l ∧ (hasB other l = true → rAt P (place other P) = rAt l (place other l)) := by
  rw [rowsOkB_iff] at hl hP
  rw [look_spec hl.2, look_spec hP.2] at h
  cases h1 : hasB other P <;> cases h2 : hasB other l <;> rw [h1, h2] at h <;> simp at h ⊢
  exact h

/-- cut at a key: the two spans that meet there -/
theorem cuts {l : List Rw} {key : ByteArray} (h : rowsOkB l = true) :
    takeR ByteArray.empty key false 0 false l = l.take (place key l) ∧ takeR key ByteArray.empty true 0 false l = l.drop (place key l) ∧ rowsOkB (l.take (place key l)) = true ∧ rowsOkB (l.drop (place key l)) = true := by
  rw [rowsOkB_iff] at h
  obtain ⟨h1, hs⟩ := h
  have ht := place_take key l
  have hd := place_drop (key := key) hs
  have el : l = l.take (place key l) ++ l.drop (place key l) := (List.take_append_drop _ _).symm
  have e0 : ∀ x : ByteArray, Str.cmp (Tx ByteArray.empty) (Tx x) ≤ 0 := fun x => by
    have : ¬ 0 < Str.cmp (Tx ByteArray.empty) (Tx x) := fun q => by
      have := Str.cmp_pos_iff.1 q
      rw [show Tx ByteArray.empty = [] from rfl] at this
      cases hx : Tx x <;> rw [hx] at this <;> simp [Str.before] at this
    omega
  have fa : ∀ (f : Rw → Bool) (A B : List Rw), (∀ r ∈ A, f r = true) → (∀ r ∈ B, f r = false) → (A ++ B).filter f = A := fun f A B hA hB => by
    rw [List.filter_append, List.filter_eq_self.2 hA, List.filter_eq_nil_iff.2 (fun r hr => by rw [hB r hr]; decide), List.append_nil]
  have fb : ∀ (f : Rw → Bool) (A B : List Rw), (∀ r ∈ A, f r = false) → (∀ r ∈ B, f r = true) → (A ++ B).filter f = B := fun f A B hA hB => by
    rw [List.filter_append, List.filter_eq_self.2 hB, List.filter_eq_nil_iff.2 (fun r hr => by rw [hA r hr]; decide), List.nil_append]
  refine ⟨?_, ?_, ?_, ?_⟩
  · unfold takeR visit
    rw [if_neg (by decide), if_neg (by decide)]
    conv => lhs; rw [el]
    refine fa _ _ _ (fun r hr => ?_) (fun r hr => ?_)
    · unfold inS inB; simp [e0, Str.cmp_neg_iff.2 (ht r hr)]
    · have q := hd r hr
      have : ¬ Str.cmp (Tx r.key) (Tx key) < 0 := fun c => by rw [Str.cmp_neg_iff.1 c] at q; cases q
      unfold inS inB; simp; omega
  · unfold takeR visit
    rw [if_neg (by decide), if_neg (by decide)]
    conv => lhs; rw [el]
    refine fb _ _ _ (fun r hr => ?_) (fun r hr => ?_)
    · have q : 0 < Str.cmp (Tx key) (Tx r.key) := Str.cmp_pos_iff.2 (ht r hr)
      unfold inS inB; simp; omega
    · have q := hd r hr
      have : ¬ 0 < Str.cmp (Tx key) (Tx r.key) := fun c => by rw [Str.cmp_pos_iff.1 c] at q; cases q
      unfold inS inB; simp; omega
  · rw [rowsOkB_iff]
    exact ⟨fun r hr => h1 r (List.mem_of_mem_take hr), List.Pairwise.sublist (List.take_sublist _ _) hs⟩
  · rw [rowsOkB_iff]
    exact ⟨fun r hr => h1 r (List.mem_of_mem_drop hr), List.Pairwise.sublist (List.drop_sublist _ _) hs⟩
end Go.Proofs.Ytopomocbjlikjaa
