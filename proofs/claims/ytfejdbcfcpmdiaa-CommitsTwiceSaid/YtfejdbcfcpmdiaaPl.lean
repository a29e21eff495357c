import Derived.Test.YtfejdbcfcpmdiaaSrt
import Derived.Test.YtfejdbcfcpmdiaaWg
namespace Go.Proofs.Ytfejdbcfcpmdiaa
set_option linter.unusedVariables false
set_option linter.unusedSimpArgs false
open Go.BigFrame Go.RowKit Go.WideShapes

/-- rows by a write -/
def stepL (l : List Rw) (r : Wt) : List Rw := if r.gone = true then dropL l r.key else if fitsB ⟨r.key, r.val⟩ = true then putL l ⟨r.key, r.val⟩ else l
/-- rows by writes, one behind the other -/
def overL (l : List Rw) (p : List Wt) : List Rw := p.foldl stepL l
theorem overL_snoc (l : List Rw) (p : List Wt) (r : Wt) : overL l (p ++ [r]) = stepL (overL l p) r := by unfold overL; rw [List.foldl_append]; rfl
theorem stepL_length (l : List Rw) (r : Wt) : (stepL l r).length ≤ l.length + 1 := by
  unfold stepL
  split
  · unfold dropL; split
    · rw [List.length_append, List.length_take, List.length_drop]; omega
    · omega
  · split
    · have := place_le r.key l
      unfold putL; simp only [List.length_append, List.length_take, List.length_drop, List.length_singleton]; split <;> omega
    · omega
theorem overL_length (l : List Rw) (p : List Wt) : (overL l p).length ≤ l.length + p.length := by
  induction p generalizing l with
  | nil => exact Nat.le_refl _
  | cons r p ih =>
    have h1 := ih (stepL l r)
    have h2 := stepL_length l r
    show (overL (stepL l r) p).length ≤ _
    simp only [List.length_cons]; omega
theorem overL_take {l : List Rw} {p : List Wt} {k : Nat} (h : k < p.length) : overL l (p.take (k + 1)) = stepL (overL l (p.take k)) (wAt p k) := by
  rw [List.take_succ_eq_append_getElem h, overL_snoc, wAt_lt h]

/-- a write's key stands ahead of another one's -/
def ltW (a b : Wt) : Prop := Str.before (Tx a.key) (Tx b.key) = true
theorem writesOkB_iff (l : List Wt) : writesOkB l = true → (∀ r ∈ l, wfits r = true) ∧ l.Pairwise ltW := by
  unfold writesOkB
  rw [decide_eq_true_iff]
  intro h
  refine ⟨fun r hr => ?_, ?_⟩
  · obtain ⟨i, hi, rfl⟩ := List.getElem_of_mem hr
    have := (h i hi).1
    rwa [wAt_lt hi] at this
  · rw [List.pairwise_iff_getElem]
    have key : ∀ d i, i + d + 1 < l.length → ltW (wAt l i) (wAt l (i + d + 1)) := by
      intro d
      induction d with
      | zero =>
        intro i hi
        have := (h (i + 1) hi).2 (by omega)
        rw [Nat.add_sub_cancel] at this
        exact Str.cmp_neg_iff.1 this
      | succ d ih =>
        intro i hi
        have h1 := ih i (by omega)
        have h2 := (h (i + (d + 1) + 1) hi).2 (by omega)
        exact Str.before_trans h1 (Str.cmp_neg_iff.1 h2)
    intro i j hi hj hij
    have := key (j - i - 1) i (by omega)
    rw [show i + (j - i - 1) + 1 = j by omega, wAt_lt hi, wAt_lt hj] at this
    exact this
theorem wfits_row {r : Wt} (h : wfits r = true) : fitsB ⟨r.key, r.val⟩ = true := by
  unfold wfits at h
  unfold fitsB
  simp only [Bool.and_eq_true] at h ⊢
  exact h.1
/-- one write: what it leaves -/
theorem step_keeps {l : List Rw} {r : Wt} (h : rowsOkB l = true) (hf : wfits r = true) :
    rowsOkB (stepL l r) = true ∧ look r.key (stepL l r) = (if r.gone = true then none else some ⟨r.key, r.val⟩) ∧ ∀ other, other ≠ r.key → look other (stepL l r) = look other l := by
  have hr := wfits_row hf
  obtain ⟨k1, k2, k3, k4, k5, -, k7⟩ := keeps h hr
  unfold stepL
  cases hg : r.gone
  · rw [if_neg (by decide), if_pos hr, if_neg (by decide)]
    refine ⟨k1, ?_, fun o ho => (k7 o ho).1⟩
    rw [look_spec ((rowsOkB_iff _).1 k1).2, if_pos k3]
    exact congrArg some k4
  · rw [if_pos rfl, if_pos rfl]
    refine ⟨k2, ?_, fun o ho => (k7 o ho).2⟩
    rw [look_spec ((rowsOkB_iff _).1 k2).2, if_neg]
    rw [k5]; decide
/-- a key's write -/
def wlook (key : ByteArray) (p : List Wt) : Option Wt := p.find? (fun r => decide (r.key = key))
/-- what rows by writes have -/
theorem over_look {l : List Rw} {p : List Wt} (h : rowsOkB l = true) (hp : writesOkB p = true) (key : ByteArray) :
    rowsOkB (overL l p) = true ∧ look key (overL l p) = (match wlook key p with | some r => if r.gone = true then none else some ⟨r.key, r.val⟩ | none => look key l) := by
  obtain ⟨h1, h2⟩ := writesOkB_iff p hp
  clear hp
  induction p generalizing l with
  | nil => exact ⟨h, rfl⟩
  | cons r p ih =>
    rw [List.pairwise_cons] at h2
    obtain ⟨s1, s2, s3⟩ := step_keeps h (h1 r (by simp))
    obtain ⟨i1, i2⟩ := ih s1 (fun q hq => h1 q (by simp [hq])) h2.2
    refine ⟨i1, ?_⟩
    show look key (overL (stepL l r) p) = _
    rw [i2]
    by_cases e : r.key = key
    · have hn : wlook key p = none := by
        unfold wlook
        rw [List.find?_eq_none]
        intro q hq c
        rw [decide_eq_true_iff] at c
        have := h2.1 q hq
        unfold ltW at this
        rw [c, e, Str.before_irrefl] at this; cases this
      have hy : wlook key (r :: p) = some r := by unfold wlook; simp [e]
      rw [hn, hy, ← e]
      exact s2
    · have hy : wlook key (r :: p) = wlook key p := by unfold wlook; simp [e]
      rw [hy, s3 key (fun c => e c.symm)]
end Go.Proofs.Ytfejdbcfcpmdiaa
