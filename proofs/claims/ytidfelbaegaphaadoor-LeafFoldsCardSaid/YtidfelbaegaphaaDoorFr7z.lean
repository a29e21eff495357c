import Derived.Test.YtidfelbaegaphaaDoorOw2z
import Derived.Test.YtidfelbaegaphaaDoorFp2z
namespace Go.Proofs.YtidfelbaegaphaaDoor
set_option linter.unusedVariables false
set_option linter.unusedSimpArgs false
open Go.BigFrame Go.RowKit Go.WideShapes

/-! Rows of a call's own with longer keys (out of LawFnd). -/
/-- a row with a longer key -/
def longer (x : ByteArray) (r : Rw) : Rw := ⟨r.key ++ x, r.val⟩
/-- rows of which the first k have longer keys -/
def xs (x : ByteArray) (k : Nat) (l : List Rw) : List Rw := (l.take k).map (longer x) ++ l.drop k
/-- what is put behind each key -/
abbrev X : ByteArray := ⟨#[120]⟩
theorem xs_zero (x : ByteArray) (l : List Rw) : xs x 0 l = l := by simp [xs]
theorem xs_all (x : ByteArray) (l : List Rw) : xs x l.length l = l.map (longer x) := by simp [xs]
theorem xs_length (x : ByteArray) {k : Nat} {l : List Rw} (h : k ≤ l.length) : (xs x k l).length = l.length := by simp [xs]; omega
theorem xs_low {x : ByteArray} {k i : Nat} {l : List Rw} (h : i < k) (hk : k ≤ l.length) : rAt (xs x k l) i = longer x (rAt l i) := by
  rw [rAt_lt (by rw [xs_length x hk]; omega), rAt_lt (by omega)]
  unfold xs
  rw [List.getElem_append_left (by simp; omega)]
  simp
theorem xs_high {x : ByteArray} {k i : Nat} {l : List Rw} (h : k ≤ i) (hk : i < l.length) : rAt (xs x k l) i = rAt l i := by
  rw [rAt_lt (by rw [xs_length x (by omega)]; omega), rAt_lt (by omega)]
  unfold xs
  rw [List.getElem_append_right (by simp; omega)]
  simp
  congr 1
  omega
theorem ne_longer {x : ByteArray} {l : List Rw} (hx : 0 < x.size) (hl : 0 < l.length) : l ≠ l.map (longer x) := by
  cases l with
  | nil => simp at hl
  | cons r l =>
    intro e
    rw [List.map_cons, List.cons.injEq] at e
    have := congrArg (fun q : Rw => q.key.size) e.1
    simp only [longer, ByteArray.size_append] at this
    omega
theorem longer_next {w : World} {oa : Option Addr} {n cap b off : Nat} {x : ByteArray} {k : Nat} {l : List Rw} (h : RowsAt w oa n cap (xs x k l)) (hl : l.length = n) (hk : k < n) (ho : oa = some ⟨b, off, none⟩)
    (hs : ((kAt l k) ++ x).size ≤ maxLen) : RowsAt (w.setCell ⟨b, off + k * 2, none⟩ (.string (kAt l k ++ x))) oa n cap (xs x (k + 1) l) := by
  obtain ⟨h1, h2, h3, h4, ⟨b', off', h5, h6⟩, h7⟩ := h
  obtain ⟨e, hb⟩ := h5 (by omega)
  rw [ho] at e
  obtain ⟨rfl, rfl⟩ : b = b' ∧ off = off' := by simpa using e
  have hz : ∀ i, i < n → i ≠ k → rAt (xs x (k + 1) l) i = rAt (xs x k l) i := fun i hi hne => by
    rcases Nat.lt_or_ge i k with q | q
    · rw [xs_low (by omega) (by omega), xs_low q (by omega)]
    · rw [xs_high (by omega) (by omega), xs_high q (by omega)]
  have hz2 : rAt (xs x (k + 1) l) k = longer x (rAt l k) := xs_low (by omega) (by omega)
  have hz3 : rAt (xs x k l) k = rAt l k := xs_high (by omega) (by omega)
  refine ⟨by rw [xs_length x (by omega), hl], h2, h3, h4, ⟨b, off, fun q => ⟨ho, by unfold World.setCell; simpa using hb⟩, fun i hi => ?_⟩, fun i hi => ?_⟩
  · by_cases hne : i = k
    · subst hne
      unfold kAt vAt
      rw [hz2]
      refine ⟨World.cell?_setCell_same _ _ _ (h6 i hi).1, ?_⟩
      rw [World.cell?_setCell_other _ _ _ _ (by simp)]
      have := (h6 i hi).2
      unfold vAt at this
      rw [hz3] at this
      exact this
    · unfold kAt vAt
      rw [hz i hi hne, World.cell?_setCell_other _ _ _ _ (by simp only [ne_eq, Addr.mk.injEq, not_and]; omega), World.cell?_setCell_other _ _ _ _ (by simp only [ne_eq, Addr.mk.injEq, not_and]; omega)]
      exact h6 i hi
  · by_cases hne : i = k
    · subst hne
      unfold kAt vAt
      rw [hz2]
      have := (h7 i hi).2
      unfold vAt at this
      rw [hz3] at this
      exact ⟨hs, this⟩
    · unfold kAt vAt
      rw [hz i hi hne]
      exact h7 i hi

/-- a slice of the call's own is free to write to -/
def Free (w : World) (base : Nat) (oa : Option Addr) : Prop := ∀ b off, oa = some ⟨b, off, none⟩ → base ≤ b ∧ b < w.heap.size ∧ ∀ o, w.frozen? ⟨b, o, none⟩ = false
theorem own_free {w : World} {base base2 : Nat} {oa : Option Addr} {n cap : Nat} {l : List Rw} (h : OwnAt w base oa n cap l) (hb : base2 ≤ base) : Free w base2 oa := by
  rintro b off rfl
  rcases h.own.2 with ⟨e, hn⟩ | ⟨g, cap, cur, e, hg, hc, rest⟩
  · simp at e
  · simp only [Value.slice.injEq, Option.some.injEq, Addr.mk.injEq] at e
    obtain ⟨⟨rfl, rfl, -⟩, -, -⟩ := e
    refine ⟨Nat.le_trans hb hg, ?_, fun o => ?_⟩
    · rcases Nat.lt_or_ge b w.heap.size with q | q
      · exact q
      · rw [Array.getElem?_eq_none q] at hc; cases hc
    · unfold World.frozen?
      rw [hc]; simp
theorem Free.keep {w w' : World} {base : Nat} {oa : Option Addr} (h : Free w base oa) (hg : Gr w w') : Free w' base oa := fun b off e => by
  obtain ⟨h1, h2, h3⟩ := h b off e
  exact ⟨h1, Nat.lt_of_lt_of_le h2 hg.le, fun o => by rw [hg.frozen h2]; exact h3 o⟩
theorem Free.set {w : World} {base : Nat} {oa : Option Addr} (h : Free w base oa) (p : Addr) (u : Value) : Free (w.setCell p u) base oa := fun b off e => by
  obtain ⟨h1, h2, h3⟩ := h b off e
  exact ⟨h1, by unfold World.setCell; simpa using h2, fun o => (World.frozen?_setCell _ _ _ _).trans (h3 o)⟩

theorem fits_key {x : Rw} (h : fitsB x = true) : x.key.size ≤ 100 := by
  unfold fitsB rightB at h
  simp at h
  omega
end Go.Proofs.YtidfelbaegaphaaDoor
