import Derived.Test.YtkngjnkecmjakaaGc
import Derived.Test.YtkngjnkecmjakaaOpenCl
namespace Go.Proofs.Ytkngjnkecmjakaa
set_option linter.unusedVariables false
set_option linter.unusedSimpArgs false
open Go.BigFrame Go.RowKit Go.WideShapes

/-- rows behind the first calls -/
def rowsAfter (cs : List Cl) : Nat → List Rw
  | 0 => []
  | k + 1 => (applyL (clAt cs k).kind (clAt cs k).key (clAt cs k).val (rowsAfter cs k)).1
/-- what the k-th call tells -/
def evSeq (cs : List Cl) (k : Nat) : Ev := ⟨0, (clAt cs k).kind, (clAt cs k).key, (clAt cs k).val, (applyL (clAt cs k).kind (clAt cs k).key (clAt cs k).val (rowsAfter cs k)).2.1, (applyL (clAt cs k).kind (clAt cs k).key (clAt cs k).val (rowsAfter cs k)).2.2, 2 * (k : Int), 2 * (k : Int) + 1⟩
def evsSeq (cs : List Cl) (k : Nat) : List Ev := (List.range k).map (evSeq cs)
theorem evsSeq_length (cs : List Cl) (k : Nat) : (evsSeq cs k).length = k := by simp [evsSeq]
theorem evsSeq_at {cs : List Cl} {n i : Nat} (h : i < n) : evAt (evsSeq cs n) i = evSeq cs i := by
  rw [evAt_lt (by rw [evsSeq_length]; exact h)]; simp [evsSeq]
theorem evsSeq_succ (cs : List Cl) (k : Nat) : evsSeq cs (k + 1) = evsSeq cs k ++ [evSeq cs k] := by
  simp [evsSeq, List.range_succ]
theorem applyL_code (kind : Int) (key val : ByteArray) (l : List Rw) : (applyL kind key val l).2.2 = 0 ∨ (applyL kind key val l).2.2 = 6 ∨ (applyL kind key val l).2.2 = 7 := by
  unfold applyL
  split
  · simp
  · split
    · simp
    · split
      · simp
      · split <;> simp
theorem row_fits {l : List Rw} (h : rowsOkB l = true) {i : Nat} (hi : i < l.length) : fitsB (rAt l i) = true :=
  ((rowsOkB_iff l).1 h).1 _ (by rw [rAt_lt hi]; exact List.getElem_mem _)
theorem wasOf_size {key : ByteArray} {l : List Rw} (h : rowsOkB l = true) : (wasOf key l).size ≤ 16 := by
  unfold wasOf
  split
  · rename_i hh
    have hlt := has_lt hh
    have := row_fits h hlt
    unfold fitsB at this
    simp only [Bool.and_eq_true, decide_eq_true_iff] at this
    exact this.2
  · exact (by decide : (ByteArray.mk #[]).size ≤ 16)
theorem applyL_told {kind : Int} {key val : ByteArray} {l : List Rw} (h : rowsOkB l = true) : (applyL kind key val l).2.1.size ≤ 16 := by
  have hw := wasOf_size (key := key) h
  have h0 : (ByteArray.mk #[]).size ≤ 16 := by decide
  unfold applyL
  split
  · exact h0
  · split
    · exact h0
    · split
      · exact hw
      · split <;> exact hw
theorem rowsAfter_ok {cs : List Cl} : ∀ {k : Nat}, (∀ i, i < k → mayB (clAt cs i).kind (clAt cs i).key (clAt cs i).val = true) → rowsOkB (rowsAfter cs k) = true := by
  intro k
  induction k with
  | zero => intro _; show rowsOkB [] = true; decide
  | succ k ih => intro h; exact apply_ok (h k (by omega)) (ih fun i hi => h i (by omega))
theorem rowsAfter_len (cs : List Cl) : ∀ k, (rowsAfter cs k).length ≤ k := by
  intro k
  induction k with
  | zero => exact Nat.le_refl _
  | succ k ih =>
    have := applyL_length (kind := (clAt cs k).kind) (key := (clAt cs k).key) (val := (clAt cs k).val) (l := rowsAfter cs k)
    show (applyL _ _ _ _).1.length ≤ _
    omega
theorem evSeq_ok {cs : List Cl} {k : Nat} (h : mayB (clAt cs k).kind (clAt cs k).key (clAt cs k).val = true) : evOk (evSeq cs k) = true := by
  unfold evOk evSeq
  simp only [h, Bool.true_and, Bool.and_eq_true, Bool.or_eq_true, decide_eq_true_iff]
  omega
theorem not_idle {e : Ev} (h : e.code = 0 ∨ e.code = 6 ∨ e.code = 7) : idleB e = false := by
  unfold idleB
  simp only [Bool.and_eq_false_iff, Bool.or_eq_false_iff, decide_eq_false_iff_not]
  right; omega
theorem evSeq_step {cs : List Cl} {k : Nat} (h : ∀ i, i ≤ k → mayB (clAt cs i).kind (clAt cs i).key (clAt cs i).val = true) : stepE (rowsAfter cs k) (evSeq cs k) = some (rowsAfter cs (k + 1)) := by
  rw [step_same (evSeq_ok (h k (Nat.le_refl _))) (rowsAfter_ok fun i hi => h i (by omega))]
  unfold stepG
  rw [not_idle (by exact applyL_code _ _ _ _), if_neg (by decide), if_neg (fun q => q.2.elim (fun r => r rfl) (fun r => r rfl))]
  rfl
theorem evsSeq_line (cs : List Cl) (n : Nat) : InLine (evsSeq cs n) := fun i hi => by
  rw [evsSeq_at (by rw [evsSeq_length] at hi; exact hi)]
  exact ⟨rfl, rfl⟩
theorem rows_found {cs : List Cl} {n : Nat} (h : ∀ i, i < n → mayB (clAt cs i).kind (clAt cs i).key (clAt cs i).val = true) : findF (evsSeq cs n) n (List.replicate n false) [] [] = some (List.range n, rowsAfter cs n) := by
  have := line_found (evsSeq_line cs n) (rowsAfter cs) (fun i hi => by
    rw [evsSeq_length] at hi
    rw [evsSeq_at hi]
    exact evSeq_step fun j hj => h j (by omega)) n 0 (by rw [evsSeq_length]; omega)
  rw [evsSeq_length, ← marks_zero] at this
  exact this
/-- an event with another value -/
def withVal (e : Ev) (v : ByteArray) : Ev := ⟨e.thread, e.kind, e.key, e.cval, v, e.code, e.beg, e.fin⟩
theorem evAt_set {l : List Ev} {k i : Nat} {e : Ev} (h : i < l.length) : evAt (l.set k e) i = if i = k then e else evAt l i := by
  rw [evAt_lt (by rw [List.length_set]; exact h), List.getElem_set]
  by_cases q : k = i
  · subst q; simp
  · rw [if_neg q, if_neg (fun r => q r.symm), evAt_lt h]
/-- one of them told something else -/
def evsBad (cs : List Cl) (n k : Nat) (v : ByteArray) : List Ev := (evsSeq cs n).set k (withVal (evSeq cs k) v)
theorem evsBad_at {cs : List Cl} {n k i : Nat} {v : ByteArray} (hk : k < n) (h : i < n) : evAt (evsBad cs n k v) i = if i = k then (withVal (evSeq cs k) v) else evSeq cs i := by
  unfold evsBad
  rw [evAt_set (by rw [evsSeq_length]; exact h), evsSeq_at h]
theorem rows_unfound {cs : List Cl} {n k : Nat} {v : ByteArray} (hk : k < n) (h : ∀ i, i < n → mayB (clAt cs i).kind (clAt cs i).key (clAt cs i).val = true) (hv : v ≠ (evSeq cs k).val) : findF (evsBad cs n k v) n (List.replicate n false) [] [] = none := by
  have hl : (evsBad cs n k v).length = n := by unfold evsBad; rw [List.length_set, evsSeq_length]
  have hline : InLine (evsBad cs n k v) := fun i hi => by
    rw [hl] at hi
    rw [evsBad_at hk hi]
    split
    · subst_vars; exact ⟨rfl, rfl⟩
    · exact ⟨rfl, rfl⟩
  have := line_none hline (rowsAfter cs) (at' := k) (by rw [hl]; exact hk) (fun i hi => by
    rw [evsBad_at hk (by omega), if_neg (by omega)]
    exact evSeq_step fun j hj => h j (by omega)) (by
    rw [evsBad_at hk hk, if_pos rfl]
    have hok : evOk (withVal (evSeq cs k) v) = true := evSeq_ok (h k hk)
    rw [step_same hok (rowsAfter_ok fun i hi => h i (by omega))]
    unfold stepG
    rw [not_idle (by exact applyL_code _ _ _ _), if_neg (by decide), if_pos]
    refine ⟨by show (0 : Int) ≤ 2 * (k : Int) + 1; omega, .inl fun q => hv ?_⟩
    exact q.symm) n 0 (by omega) (by rw [hl]; omega)
  rw [hl, ← marks_zero] at this
  exact this
theorem evsBad_ok {cs : List Cl} {n k : Nat} {v : ByteArray} (hk : k < n) (h : ∀ i, i < n → mayB (clAt cs i).kind (clAt cs i).key (clAt cs i).val = true) : ∀ i, i < n → evOk (evAt (evsBad cs n k v) i) = true := fun i hi => by
  rw [evsBad_at hk hi]
  split
  · subst_vars; exact evSeq_ok (h _ hk)
  · exact evSeq_ok (h i hi)
/-- the value of an event is set -/
theorem evs_set {w : World} {b off n cap k : Nat} {l : List Ev} (h : EvsAt w (some ⟨b, off, none⟩) n cap l) (hk : k < n) {v : ByteArray} (hv : v.size ≤ maxLen) :
    EvsAt (w.setCell ⟨b, off + k * 8 + 4, none⟩ (.string v)) (some ⟨b, off, none⟩) n cap (l.set k (withVal (evAt l k) v)) := by
  obtain ⟨h1, h2, h3, h4, ⟨b', off', h5, h6⟩, h7⟩ := h
  obtain ⟨e, hb⟩ := h5 (by omega)
  obtain ⟨rfl, rfl⟩ : b = b' ∧ off = off' := by simpa using e
  have hat : ∀ i, i < n → evAt (l.set k (withVal (evAt l k) v)) i = if i = k then (withVal (evAt l k) v) else evAt l i := fun i hi => evAt_set (by omega)
  refine ⟨by rw [List.length_set]; exact h1, h2, h3, h4, ⟨b, off, fun _ => ⟨rfl, by unfold World.setCell; simpa using hb⟩, fun i hi => ?_⟩, fun i hi => ?_⟩
  · obtain ⟨a0, a1, a2, a3, a4, a5, a6, a7⟩ := h6 i hi
    have oth : ∀ j x, j ≠ off + k * 8 + 4 → w.cell? ⟨b, j, none⟩ = x → (w.setCell ⟨b, off + k * 8 + 4, none⟩ (.string v)).cell? ⟨b, j, none⟩ = x := fun j x hj hx => by
      rw [World.cell?_setCell_other _ _ _ _ (by simp only [ne_eq, Addr.mk.injEq, not_and]; omega)]; exact hx
    rw [hat i hi]
    by_cases q : i = k
    · subst q
      rw [if_pos rfl]
      exact ⟨oth _ _ (by omega) a0, oth _ _ (by omega) a1, oth _ _ (by omega) a2, oth _ _ (by omega) a3, World.cell?_setCell_same _ _ _ a4, oth _ _ (by omega) a5, oth _ _ (by omega) a6, oth _ _ (by omega) a7⟩
    · rw [if_neg q]
      exact ⟨oth _ _ (by omega) a0, oth _ _ (by omega) a1, oth _ _ (by omega) a2, oth _ _ (by omega) a3, oth _ _ (by omega) a4, oth _ _ (by omega) a5, oth _ _ (by omega) a6, oth _ _ (by omega) a7⟩
  · rw [hat i hi]
    by_cases q : i = k
    · subst q
      rw [if_pos rfl]
      exact ⟨(h7 i hi).1, (h7 i hi).2.1, hv⟩
    · rw [if_neg q]; exact h7 i hi
end Go.Proofs.Ytkngjnkecmjakaa
