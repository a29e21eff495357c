import Derived.Test.YtidfelbaegaphaaDoorRw4
import Derived.Laws.AppendOwnNone
namespace Go.Proofs.YtidfelbaegaphaaDoor
set_option linter.unusedVariables false
open Go.BigFrame Go.RowKit Go.WideShapes

/-- the cells of rows -/
def flat : List Rw → List Value
  | [] => []
  | r :: l => .string r.key :: .string r.val :: flat l
theorem flat_append (a b : List Rw) : flat (a ++ b) = flat a ++ flat b := by
  induction a with
  | nil => rfl
  | cons r a ih => simp [flat, ih]
theorem flat_length (l : List Rw) : (flat l).length = l.length * 2 := by
  induction l with
  | nil => rfl
  | cons r l ih => simp [flat, ih]; omega
theorem flat_get (l : List Rw) (i : Nat) (h : i < l.length) : (flat l)[i * 2]? = some (.string (kAt l i)) ∧ (flat l)[i * 2 + 1]? = some (.string (vAt l i)) := by
  induction l generalizing i with
  | nil => simp at h
  | cons r l ih =>
    cases i with
    | zero => exact ⟨rfl, rfl⟩
    | succ i =>
      have := ih i (by simpa using h)
      rw [show (i + 1) * 2 = i * 2 + 1 + 1 by omega]
      exact this
theorem flat_one {l : List Rw} : ∀ u ∈ flat l, u.oneCell' = true := by
  induction l with
  | nil => intro u hu; cases hu
  | cons r l ih =>
    intro u hu
    simp only [flat, List.mem_cons] at hu
    rcases hu with rfl | rfl | hu
    · rfl
    · rfl
    · exact ih u hu
theorem flat_cell {w : World} {b off n : Nat} {l : List Rw} (hl : l.length = n) (hc : ∀ i, i < n → w.cell? ⟨b, off + i * 2, none⟩ = some (.string (kAt l i)) ∧ w.cell? ⟨b, off + i * 2 + 1, none⟩ = some (.string (vAt l i))) :
    ∀ j u, (flat l)[j]? = some u → w.cell? ((⟨b, off, none⟩ : Addr).add j) = some u := by
  intro j u hj
  have hjl : j < (flat l).length := by
    rcases Nat.lt_or_ge j (flat l).length with h | h
    · exact h
    · rw [List.getElem?_eq_none h] at hj; cases hj
  rw [flat_length, hl] at hjl
  have ha : (⟨b, off, none⟩ : Addr).add j = ⟨b, off + j, none⟩ := by unfold Addr.add; split <;> simp_all
  rw [ha]
  have hi : j / 2 < l.length := by omega
  have hg := flat_get l (j / 2) hi
  have hc' := hc (j / 2) (by omega)
  rcases Nat.mod_two_eq_zero_or_one j with h | h
  · have e : j / 2 * 2 = j := by omega
    rw [e] at hg hc'
    rw [hj] at hg
    rw [hc'.1]; exact hg.1.symm
  · have e : j / 2 * 2 + 1 = j := by omega
    have e2 : off + j / 2 * 2 + 1 = off + j := by omega
    rw [e] at hg
    rw [e2] at hc'
    rw [hj] at hg
    rw [hc'.2]; exact hg.2.symm

/-- the slice value is of the call's own, from block base on, and holds these rows -/
structure OwnAt (w : World) (base : Nat) (oa : Option Addr) (n cap : Nat) (l : List Rw) : Prop where
  own : w.ownsRow base 41 2 (.slice oa n cap) n (flat l)
  rows : RowsAt w oa n cap l

theorem ownAt_of {w : World} {base : Nat} {v : Value} {n : Nat} {l : List Rw} (hl : l.length = n) (h : w.ownsRow base 41 2 v n (flat l)) (hs : ∀ i, i < n → (kAt l i).size ≤ maxLen ∧ (vAt l i).size ≤ maxLen) :
    ∃ oa cap, v = .slice oa n cap ∧ OwnAt w base oa n cap l := by
  have h' := h
  obtain ⟨h1, h2⟩ := h
  rcases h2 with ⟨rfl, rfl⟩ | ⟨g, cap, cur, rfl, hb, hg, hnc, hm, hsz, ht⟩
  · exact ⟨none, 0, rfl, h', ⟨hl, Nat.le_refl _, Nat.zero_le _, fun _ => rfl, ⟨0, 0, fun q => absurd q (by omega), fun i hi => absurd hi (by omega)⟩, hs⟩⟩
  · refine ⟨some ⟨g, 0, none⟩, cap, rfl, h', ⟨hl, hnc, hm, fun q => (by cases q), ⟨g, 0, fun q => ⟨rfl, ?_⟩, fun i hi => ?_⟩, hs⟩⟩
    · rcases Nat.lt_or_ge g w.heap.size with q | q
      · exact q
      · rw [Array.getElem?_eq_none q] at hg; cases hg
    · have hcell : ∀ j, w.cell? ⟨g, j, none⟩ = cur[j]? := by intro j; unfold World.cell?; rw [hg]; simp
      have hf := flat_get l i (by omega)
      have hlt : i * 2 + 1 < n * 2 := by omega
      rw [← ht] at hf
      rw [Nat.zero_add, hcell, hcell]
      rw [List.getElem?_take_of_lt (by omega), List.getElem?_take_of_lt (by omega)] at hf
      simpa using hf

theorem row_info : (Tryd.prog.info? 41).map (fun i => (i.zero, i.size, i.bytes)) = some (some (.agg #[.string ⟨#[]⟩, .string ⟨#[]⟩]), 2, 32) := by kernel_rfl

theorem rAt_append_left {a b : List Rw} {i : Nat} (h : i < a.length) : rAt (a ++ b) i = rAt a i := by
  unfold rAt; rw [List.getD_eq_getElem?_getD, List.getD_eq_getElem?_getD, List.getElem?_append_left h]
theorem rAt_append_right {a b : List Rw} {i : Nat} (h : a.length ≤ i) : rAt (a ++ b) i = rAt b (i - a.length) := by
  unfold rAt; rw [List.getD_eq_getElem?_getD, List.getD_eq_getElem?_getD, List.getElem?_append_right h]
/-- no text of these is longer than may be -/
def Sized (l : List Rw) : Prop := ∀ i, i < l.length → (kAt l i).size ≤ maxLen ∧ (vAt l i).size ≤ maxLen
theorem Sized.append {a b : List Rw} (ha : Sized a) (hb : Sized b) : Sized (a ++ b) := by
  intro i hi
  unfold kAt vAt
  rcases Nat.lt_or_ge i a.length with h | h
  · rw [rAt_append_left h]; exact ha i h
  · rw [rAt_append_right h]; exact hb (i - a.length) (by simp at hi; omega)
theorem RowsAt.sized {w : World} {oa : Option Addr} {n cap : Nat} {l : List Rw} (h : RowsAt w oa n cap l) : Sized l := fun i hi => h.sizes i (by rw [← h.len]; exact hi)
theorem RowsAt.keep {w w' : World} {oa : Option Addr} {n cap : Nat} {l : List Rw} (h : RowsAt w oa n cap l) (hg : Gr w w') : RowsAt w' oa n cap l := by
  obtain ⟨h1, h2, h3, h4, ⟨b, off, h5, h6⟩, h7⟩ := h
  exact ⟨h1, h2, h3, h4, ⟨b, off, fun q => ⟨(h5 q).1, Nat.lt_of_lt_of_le (h5 q).2 hg.le⟩, fun i hi => ⟨hg.keep (h6 i hi).1, hg.keep (h6 i hi).2⟩⟩, h7⟩

/-- append(own, rows...): whatever the rows lie in -/
theorem wpList_append_rows {w : World} {ops : Array Oper} {rest : List Oper} {o : Oper} {a : Act} {Q : Exit → Act → World → Prop} (hgd : o.guard = none) (s x : Operand)
    (ho : o.op = .call { callee := .builtin .append, args := #[s, x], argTypes := #[26, 26] })
    {base : Nat} {oa : Option Addr} {n cap : Nat} {l : List Rw} (hs : a.eval s = .slice oa n cap) (hown : OwnAt w base oa n cap l)
    {ob : Option Addr} {m cap2 : Nat} {k : List Rw} (hx : a.eval x = .slice ob m cap2) (hrows : RowsAt w ob m cap2 k) (hsz : n + m ≤ 1099511627776) (hbase : base ≤ w.heap.size)
    (h : ∀ oc cap3 w', OwnAt w' base oc (n + m) cap3 (l ++ k) → w.grownBy w' (Value.ownBlock (.slice oa n cap)) → wpList Tryd.prog ops Q rest (a.put o.dst (.slice oc (n + m) cap3)) w') : wpList Tryd.prog ops Q (o :: rest) a w := by
  obtain ⟨i, hi, hz, hsi, hby⟩ := info_parts row_info
  obtain ⟨b, off, hb, hc⟩ := hrows.cells
  have hszd := hown.rows.sized.append hrows.sized
  have hll : (l ++ k).length = n + m := by rw [List.length_append, hown.rows.len, hrows.len]
  have main : ∀ ad, ob = some ad → (∀ j u, (flat k)[j]? = some u → w.cell? (ad.add j) = some u) → wpList Tryd.prog ops Q (o :: rest) a w := by
    rintro ad rfl hnews
    refine wpList_append_own w hgd s x 26 ho base 41 i _ 2 32 Tryd.underlying26 hi hz hsi hby rfl (by decide) _ n (flat l) hs hown.own ad m cap2 (flat k) hx (by rw [flat_length, hrows.len]) hnews flat_one
      (by unfold maxLen; omega) (by omega) hbase ?_
    intro v' w' hown' hg _
    rw [← flat_append] at hown'
    obtain ⟨oc, cap3, rfl, ho'⟩ := ownAt_of hll hown' (fun j hj => hszd j (by rw [hll]; exact hj))
    exact h oc cap3 w' ho' hg
  cases hob : ob with
  | none =>
    subst hob
    have hm : m = 0 := by
      have := hrows.none rfl
      have := hrows.cap_le
      omega
    have hcap2 := hrows.none rfl
    subst hm
    subst hcap2
    have hk : k = [] := List.length_eq_zero_iff.1 hrows.len
    subst hk
    refine wpList_append_own_none hgd s x 26 ho base 41 i 2 Tryd.underlying26 hi _ n (flat l) hs hown.own hx ?_
    have := h oa cap w (by simpa using hown) ⟨rfl, rfl, rfl, Nat.le_refl _, fun _ _ _ => rfl⟩
    simpa using this
  | some ad =>
    rcases Nat.eq_zero_or_pos m with hm | hm
    · have hk : k = [] := List.length_eq_zero_iff.1 (by rw [hrows.len, hm])
      exact main ad hob (fun j u hj => by rw [hk] at hj; simp [flat] at hj)
    · have e := (hb hm).1
      rw [hob] at e
      obtain rfl : ad = ⟨b, off, none⟩ := by simpa using e
      exact main _ hob (flat_cell hrows.len hc)
end Go.Proofs.YtidfelbaegaphaaDoor
