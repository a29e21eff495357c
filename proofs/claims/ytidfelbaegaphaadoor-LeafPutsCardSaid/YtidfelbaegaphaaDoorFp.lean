import Derived.Test.YtidfelbaegaphaaDoorRc
namespace Go.Proofs.YtidfelbaegaphaaDoor
set_option linter.unusedVariables false
set_option linter.unusedSimpArgs false

/-! Fold, plainly, step by step from the last record on. -/
/-- the view behind the records from k on -/
def viewAt (l : List Ry) (b : Ry) (k : Nat) : Option Vw := foldV upP ((rcs l).dropLast.drop k) (baseV b.x.r)
theorem viewAt_end (l : List Ry) (b : Ry) {k : Nat} (h : l.length ≤ k + 1) : viewAt l b k = some (baseV b.x.r) := by
  unfold viewAt
  rw [List.drop_eq_nil_of_le (by simp; omega)]; rfl
theorem viewAt_step (l : List Ry) (b : Ry) {k : Nat} {y : Ry} (h : l[k]? = some y) (hk : k + 1 < l.length) : viewAt l b k = (viewAt l b (k + 1)).bind fun v => upP v y.x.r := by
  unfold viewAt
  have hd : k < (rcs l).dropLast.length := by simp; omega
  rw [List.drop_eq_getElem_cons hd, foldV_cons]
  have : (rcs l).dropLast[k] = y.x.r := by
    rw [List.getElem_dropLast, List.getElem_map]
    obtain ⟨h1, h2⟩ := List.getElem?_eq_some_iff.1 h
    rw [h2]
  rw [this]
theorem viewAt_none (l : List Ry) (b : Ry) : ∀ k, viewAt l b k = none → viewAt l b 0 = none := by
  intro k
  induction k with
  | zero => exact id
  | succ k ih =>
    intro h
    apply ih
    by_cases hk : k + 1 < l.length
    · have hy : l[k]? = some l[k] := List.getElem?_eq_getElem (by omega)
      rw [viewAt_step l b hy hk, h]; rfl
    · rw [viewAt_end l b (k := k + 1) (by omega)] at h; cases h
def kindsB (l : List Ry) : Prop := ∀ (i : Nat) (y : Ry), l[i]? = some y → 1 ≤ y.x.r.kind ∧ y.x.r.kind ≤ 6
theorem kinds_iff (l : List Ry) : kindsOk (rcs l) ↔ kindsB l := by
  unfold kindsOk kindsB
  constructor
  · intro h i y hi
    exact h _ (List.mem_map.2 ⟨y, List.mem_of_getElem? hi, rfl⟩)
  · intro h r hr
    obtain ⟨y, hy, rfl⟩ := List.mem_map.1 hr
    obtain ⟨i, hi⟩ := List.getElem?_of_mem hy
    exact h i y hi
theorem fold_bad {l : List Ry} (h : ¬ kindsB l) : foldP (rcs l) = (none, 9) := by
  unfold foldP; rw [if_neg (fun q => h ((kinds_iff l).1 q))]
theorem fold_nil : foldP (rcs []) = (none, 10) := rfl
theorem fold_last {l : List Ry} (h : kindsB l) {b : Ry} (hb : l[l.length - 1]? = some b) : foldP (rcs l) = ((if b.x.r.kind = 1 ∧ soundP b.x.r.rows b.x.r.low b.x.r.high b.x.r.unb = true then (match viewAt l b 0 with | some v => (some v, 0) | none => (none, 10)) else (none, 10)) : Option Vw × Int) := by
  unfold foldP
  rw [if_pos ((kinds_iff l).2 h)]
  have : (rcs l).getLast? = some b.x.r := by
    rw [List.getLast?_eq_getElem?, List.getElem?_map, List.length_map, hb]; rfl
  rw [this]
  rfl
theorem up_sizes {v v' : Vw} {x : Rx} (hv : VwSz v) (hx : RxSz x) (h : upP v x.r = some v') : VwSz v' ∧ v'.rows.length ≤ v.rows.length + 1 + x.r.rows.length := by
  unfold upP at h
  split at h
  · split at h
    · cases h
      refine ⟨⟨hv.low, hv.high⟩, ?_⟩
      show (putL v.rows _).length ≤ _
      have hpl := place_le x.r.key v.rows
      unfold putL
      rw [List.length_append, List.length_append, List.length_take, List.length_drop, List.length_singleton]
      dsimp only
      split <;> omega
    · cases h
  · split at h
    · split at h
      · cases h
        refine ⟨⟨hv.low, hv.high⟩, ?_⟩
        have := (drop_sub v.rows x.r.key).length_le
        show (dropL v.rows _).length ≤ _
        omega
      · cases h
    · split at h
      · split at h
        · cases h
          refine ⟨⟨hv.low, hx.key⟩, ?_⟩
          show (v.rows.take _).length ≤ _
          rw [List.length_take]; omega
        · cases h
      · split at h
        · split at h
          · cases h
            refine ⟨⟨hv.low, hx.high⟩, ?_⟩
            show (v.rows ++ x.r.rows).length ≤ _
            rw [List.length_append]; omega
          · cases h
        · split at h
          · split at h
            · cases h
              exact ⟨⟨hv.low, hv.high⟩, by show v.rows.length ≤ _; omega⟩
            · cases h
          · cases h
end Go.Proofs.YtidfelbaegaphaaDoor
