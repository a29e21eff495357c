import Derived.Test.YtkngjnkecmjakaaDoorAk
import Derived.Laws.AppendOwnNone
namespace Go.Proofs.YtkngjnkecmjakaaDoor
set_option linter.unusedVariables false
set_option linter.unusedSimpArgs false
open Go.BigFrame Go.RowKit Go.WideShapes

theorem evAt_append_left {a b : List Ev} {i : Nat} (h : i < a.length) : evAt (a ++ b) i = evAt a i := by
  unfold evAt; rw [List.getD_eq_getElem?_getD, List.getD_eq_getElem?_getD, List.getElem?_append_left h]
theorem evAt_append_right {a b : List Ev} {i : Nat} (h : a.length ≤ i) : evAt (a ++ b) i = evAt b (i - a.length) := by
  unfold evAt; rw [List.getD_eq_getElem?_getD, List.getD_eq_getElem?_getD, List.getElem?_append_right h]
/-- the cells -/
def evflat : List Ev → List Value
  | [] => []
  | r :: l => .int .i64 r.thread :: .int .i64 r.kind :: .string r.key :: .string r.cval :: .string r.val :: .int .i64 r.code :: .int .i64 r.beg :: .int .i64 r.fin :: evflat l
theorem evflat_append (a b : List Ev) : evflat (a ++ b) = evflat a ++ evflat b := by
  induction a with
  | nil => rfl
  | cons r a ih => simp [evflat, ih]
theorem evflat_length (l : List Ev) : (evflat l).length = l.length * 8 := by
  induction l with
  | nil => rfl
  | cons r l ih => simp [evflat, ih]; omega
theorem evflat_get (l : List Ev) (i : Nat) (h : i < l.length) : (evflat l)[i * 8]? = some (.int .i64 (evAt l i).thread) ∧ (evflat l)[i * 8 + 1]? = some (.int .i64 (evAt l i).kind) ∧ (evflat l)[i * 8 + 2]? = some (.string (evAt l i).key) ∧ (evflat l)[i * 8 + 3]? = some (.string (evAt l i).cval) ∧ (evflat l)[i * 8 + 4]? = some (.string (evAt l i).val) ∧ (evflat l)[i * 8 + 5]? = some (.int .i64 (evAt l i).code) ∧ (evflat l)[i * 8 + 6]? = some (.int .i64 (evAt l i).beg) ∧ (evflat l)[i * 8 + 7]? = some (.int .i64 (evAt l i).fin) := by
  induction l generalizing i with
  | nil => simp at h
  | cons r l ih =>
    cases i with
    | zero => exact ⟨rfl, rfl, rfl, rfl, rfl, rfl, rfl, rfl⟩
    | succ i =>
      have := ih i (by simpa using h)
      rw [show (i + 1) * 8 = i * 8 + 1 + 1 + 1 + 1 + 1 + 1 + 1 + 1 by omega]
      exact this
theorem evflat_one {l : List Ev} : ∀ u ∈ evflat l, u.oneCell' = true := by
  induction l with
  | nil => intro u hu; cases hu
  | cons r l ih =>
    intro u hu
    simp only [evflat, List.mem_cons] at hu
    rcases hu with rfl | rfl | rfl | rfl | rfl | rfl | rfl | rfl | hu
    · rfl
    · rfl
    · rfl
    · rfl
    · rfl
    · rfl
    · rfl
    · rfl
    · exact ih u hu
theorem evflat_cell {w : World} {b off n : Nat} {l : List Ev} (hl : l.length = n) (hc : ∀ i, i < n → w.cell? ⟨b, off + i * 8, none⟩ = some (.int .i64 (evAt l i).thread) ∧ w.cell? ⟨b, off + i * 8 + 1, none⟩ = some (.int .i64 (evAt l i).kind) ∧ w.cell? ⟨b, off + i * 8 + 2, none⟩ = some (.string (evAt l i).key) ∧ w.cell? ⟨b, off + i * 8 + 3, none⟩ = some (.string (evAt l i).cval) ∧ w.cell? ⟨b, off + i * 8 + 4, none⟩ = some (.string (evAt l i).val) ∧ w.cell? ⟨b, off + i * 8 + 5, none⟩ = some (.int .i64 (evAt l i).code) ∧ w.cell? ⟨b, off + i * 8 + 6, none⟩ = some (.int .i64 (evAt l i).beg) ∧ w.cell? ⟨b, off + i * 8 + 7, none⟩ = some (.int .i64 (evAt l i).fin)) :
    ∀ j u, (evflat l)[j]? = some u → w.cell? ((⟨b, off, none⟩ : Addr).add j) = some u := by
  intro j u hj
  have hjl : j < (evflat l).length := by
    rcases Nat.lt_or_ge j (evflat l).length with h | h
    · exact h
    · rw [List.getElem?_eq_none h] at hj; cases hj
  rw [evflat_length, hl] at hjl
  have ha : (⟨b, off, none⟩ : Addr).add j = ⟨b, off + j, none⟩ := by unfold Addr.add; split <;> simp_all
  rw [ha]
  have hi : j / 8 < l.length := by omega
  obtain ⟨g0, g1, g2, g3, g4, g5, g6, g7⟩ := evflat_get l (j / 8) hi
  obtain ⟨c0, c1, c2, c3, c4, c5, c6, c7⟩ := hc (j / 8) (by omega)
  have hm : j % 8 = 0 ∨ j % 8 = 1 ∨ j % 8 = 2 ∨ j % 8 = 3 ∨ j % 8 = 4 ∨ j % 8 = 5 ∨ j % 8 = 6 ∨ j % 8 = 7 := by omega
  rcases hm with h | h | h | h | h | h | h | h
  · have e : j / 8 * 8 = j := by omega
    have e2 : off + j / 8 * 8 = off + j := by omega
    rw [e] at g0
    rw [e2] at c0
    rw [hj] at g0
    rw [c0]; exact g0.symm
  · have e : j / 8 * 8 + 1 = j := by omega
    have e2 : off + j / 8 * 8 + 1 = off + j := by omega
    rw [e] at g1
    rw [e2] at c1
    rw [hj] at g1
    rw [c1]; exact g1.symm
  · have e : j / 8 * 8 + 2 = j := by omega
    have e2 : off + j / 8 * 8 + 2 = off + j := by omega
    rw [e] at g2
    rw [e2] at c2
    rw [hj] at g2
    rw [c2]; exact g2.symm
  · have e : j / 8 * 8 + 3 = j := by omega
    have e2 : off + j / 8 * 8 + 3 = off + j := by omega
    rw [e] at g3
    rw [e2] at c3
    rw [hj] at g3
    rw [c3]; exact g3.symm
  · have e : j / 8 * 8 + 4 = j := by omega
    have e2 : off + j / 8 * 8 + 4 = off + j := by omega
    rw [e] at g4
    rw [e2] at c4
    rw [hj] at g4
    rw [c4]; exact g4.symm
  · have e : j / 8 * 8 + 5 = j := by omega
    have e2 : off + j / 8 * 8 + 5 = off + j := by omega
    rw [e] at g5
    rw [e2] at c5
    rw [hj] at g5
    rw [c5]; exact g5.symm
  · have e : j / 8 * 8 + 6 = j := by omega
    have e2 : off + j / 8 * 8 + 6 = off + j := by omega
    rw [e] at g6
    rw [e2] at c6
    rw [hj] at g6
    rw [c6]; exact g6.symm
  · have e : j / 8 * 8 + 7 = j := by omega
    have e2 : off + j / 8 * 8 + 7 = off + j := by omega
    rw [e] at g7
    rw [e2] at c7
    rw [hj] at g7
    rw [c7]; exact g7.symm

/-- the slice value is of the call's own, from block base on, and holds these -/
structure OwnE (w : World) (base : Nat) (oa : Option Addr) (n cap : Nat) (l : List Ev) : Prop where
  own : w.ownsRow base 38 8 (.slice oa n cap) n (evflat l)
  rows : EvsAt w oa n cap l

theorem evown_of {w : World} {base : Nat} {v : Value} {n : Nat} {l : List Ev} (hl : l.length = n) (h : w.ownsRow base 38 8 v n (evflat l)) (hs : ∀ i, i < n → (evAt l i).key.size ≤ maxLen ∧ (evAt l i).cval.size ≤ maxLen ∧ (evAt l i).val.size ≤ maxLen) :
    ∃ oa cap, v = .slice oa n cap ∧ OwnE w base oa n cap l := by
  have h' := h
  obtain ⟨h1, h2⟩ := h
  rcases h2 with ⟨rfl, rfl⟩ | ⟨g, cap, cur, rfl, hb, hg, hnc, hm, hsz, ht⟩
  · exact ⟨none, 0, rfl, h', ⟨hl, Nat.le_refl _, Nat.zero_le _, fun _ => rfl, ⟨0, 0, fun q => absurd q (by omega), fun i hi => absurd hi (by omega)⟩, hs⟩⟩
  · refine ⟨some ⟨g, 0, none⟩, cap, rfl, h', ⟨hl, hnc, hm, fun q => (by cases q), ⟨g, 0, fun q => ⟨rfl, ?_⟩, fun i hi => ?_⟩, hs⟩⟩
    · rcases Nat.lt_or_ge g w.heap.size with q | q
      · exact q
      · rw [Array.getElem?_eq_none q] at hg; cases hg
    · have hcell : ∀ j, w.cell? ⟨g, j, none⟩ = cur[j]? := by intro j; unfold World.cell?; rw [hg]; simp
      have hf := evflat_get l i (by omega)
      have hlt : i * 8 + 7 < n * 8 := by omega
      rw [← ht] at hf
      rw [Nat.zero_add, hcell, hcell, hcell, hcell, hcell, hcell, hcell, hcell]
      rw [List.getElem?_take_of_lt (by omega), List.getElem?_take_of_lt (by omega), List.getElem?_take_of_lt (by omega), List.getElem?_take_of_lt (by omega), List.getElem?_take_of_lt (by omega), List.getElem?_take_of_lt (by omega), List.getElem?_take_of_lt (by omega), List.getElem?_take_of_lt (by omega)] at hf
      simpa using hf

theorem ev_info : (Tryd.prog.info? 38).map (fun i => (i.zero, i.size, i.bytes)) = some (some (.agg #[.int .i64 0, .int .i64 0, .string ⟨#[]⟩, .string ⟨#[]⟩, .string ⟨#[]⟩, .int .i64 0, .int .i64 0, .int .i64 0]), 8, 88) := by kernel_rfl

theorem wp_ev {w : World} {o : Oper} {a : Act} {K : Act → World → Prop} {Q : Exit → Act → World → Prop} (s x : Operand)
    (ho : o.op = .call { callee := .builtin .append, args := #[s, x], argTypes := #[22, 22] })
    (base : Nat) (hbase : base ≤ w.heap.size) {oa : Option Addr} {n cap : Nat} {l : List Ev} (hs : a.eval s = .slice oa n cap) (hown : OwnE w base oa n cap l)
    {ob : Option Addr} {m cap2 : Nat} {k : List Ev} (hx : a.eval x = .slice ob m cap2) (hrows : EvsAt w ob m cap2 k) (hsz : n + m ≤ 1099511627776)
    (h : ∀ oc cap3 w', OwnE w' base oc (n + m) cap3 (l ++ k) → w.grownBy w' (Value.ownBlock (.slice oa n cap)) → K (a.put o.dst (.slice oc (n + m) cap3)) w') : Oper.wp Tryd.prog o a w K Q := by
  obtain ⟨i, hi, hz, hsi, hby⟩ := info_parts ev_info
  obtain ⟨b, off, hb, hc⟩ := hrows.cells
  have hll : (l ++ k).length = n + m := by rw [List.length_append, hown.rows.len, hrows.len]
  have hszd : ∀ j, j < n + m → (evAt (l ++ k) j).key.size ≤ maxLen ∧ (evAt (l ++ k) j).cval.size ≤ maxLen ∧ (evAt (l ++ k) j).val.size ≤ maxLen := by
    intro j hj
    have := hown.rows.len
    rcases Nat.lt_or_ge j n with q | q
    · rw [evAt_append_left (by omega)]; exact hown.rows.sizes j q
    · rw [evAt_append_right (by omega)]; exact hrows.sizes _ (by omega)
  have main : ∀ ad, ob = some ad → (∀ j u, (evflat k)[j]? = some u → w.cell? (ad.add j) = some u) → Oper.wp Tryd.prog o a w K Q := by
    rintro ad rfl hnews
    refine wp_append_own w s x 22 ho base 38 i _ 8 88 Tryd.underlying22 hi hz hsi hby rfl (by decide) _ n (evflat l) hs hown.own ad m cap2 (evflat k) hx (by rw [evflat_length, hrows.len]) hnews evflat_one
      (by unfold maxLen; omega) (by omega) hbase ?_
    intro v' w' hown' hg _
    rw [← evflat_append] at hown'
    obtain ⟨oc, cap3, rfl, ho'⟩ := evown_of hll hown' hszd
    exact h oc cap3 w' ho' hg
  cases hob : ob with
  | none =>
    subst hob
    have hm : m = 0 := by
      have := hrows.none rfl
      have := hrows.cap_le
      omega
    have hcap2 := hrows.none rfl
    subst hm
    subst hcap2
    have hk : k = [] := List.length_eq_zero_iff.1 hrows.len
    subst hk
    have hrun := run_append_owned_none (P := Tryd.prog) (w := w) base 22 o.type 38 i 8 Tryd.underlying22 hi _ n (evflat l) hown.own
    have := h oa cap w (by simpa using hown) ⟨rfl, rfl, rfl, Nat.le_refl _, fun _ _ _ => rfl⟩
    unfold Oper.wp
    have t : K (a.put o.dst (.slice oa n cap)) w := by simpa using this
    simp [execOp, ho, resolve, invoke, builtin, hs, hx, hrun, Result.andThen]
    exact t
  | some ad =>
    rcases Nat.eq_zero_or_pos m with hm | hm
    · have hk : k = [] := List.length_eq_zero_iff.1 (by rw [hrows.len, hm])
      exact main ad hob (fun j u hj => by rw [hk] at hj; simp [evflat] at hj)
    · have e := (hb hm).1
      rw [hob] at e
      obtain rfl : ad = ⟨b, off, none⟩ := by simpa using e
      exact main _ hob (evflat_cell hrows.len hc)
theorem wpList_ev {w : World} {ops : Array Oper} {rest : List Oper} {o : Oper} {a : Act} {Q : Exit → Act → World → Prop} (hgd : o.guard = none) (s x : Operand)
    (ho : o.op = .call { callee := .builtin .append, args := #[s, x], argTypes := #[22, 22] })
    (base : Nat) (hbase : base ≤ w.heap.size) {oa : Option Addr} {n cap : Nat} {l : List Ev} (hs : a.eval s = .slice oa n cap) (hown : OwnE w base oa n cap l)
    {ob : Option Addr} {m cap2 : Nat} {k : List Ev} (hx : a.eval x = .slice ob m cap2) (hrows : EvsAt w ob m cap2 k) (hsz : n + m ≤ 1099511627776)
    (h : ∀ oc cap3 w', OwnE w' base oc (n + m) cap3 (l ++ k) → w.grownBy w' (Value.ownBlock (.slice oa n cap)) → wpList Tryd.prog ops Q rest (a.put o.dst (.slice oc (n + m) cap3)) w') : wpList Tryd.prog ops Q (o :: rest) a w :=
  wpList_plain hgd fun _ hK => wp_ev s x ho base hbase hs hown hx hrows hsz fun oc cap3 w' h1 h2 => hK _ _ (h oc cap3 w' h1 h2)
theorem step_ev {w : World} {ops : Array Oper} {o : Oper} {a : Act} {K : Act → World → Prop} {Q : Exit → Act → World → Prop} {E : Prop} (hgd : o.guard = none) (s x : Operand)
    (ho : o.op = .call { callee := .builtin .append, args := #[s, x], argTypes := #[22, 22] })
    (base : Nat) (hbase : base ≤ w.heap.size) {oa : Option Addr} {n cap : Nat} {l : List Ev} (hs : a.eval s = .slice oa n cap) (hown : OwnE w base oa n cap l)
    {ob : Option Addr} {m cap2 : Nat} {k : List Ev} (hx : a.eval x = .slice ob m cap2) (hrows : EvsAt w ob m cap2 k) (hsz : n + m ≤ 1099511627776)
    (h : ∀ oc cap3 w', OwnE w' base oc (n + m) cap3 (l ++ k) → w.grownBy w' (Value.ownBlock (.slice oa n cap)) → K (a.put o.dst (.slice oc (n + m) cap3)) w') : if Region.wanted o (yielded ops a.tmps) = true then Oper.wp Tryd.prog o a w K Q else E := by
  have hw : Region.wanted o (yielded ops a.tmps) = true := by simp [Region.wanted, hgd]
  rw [if_pos hw]
  exact wp_ev s x ho base hbase hs hown hx hrows hsz h

theorem evgrown_gr {w0 w w' : World} {base : Nat} {oa : Option Addr} {n cap : Nat} {l : List Ev} (hg : w.grownBy w' (Value.ownBlock (.slice oa n cap))) (hown : OwnE w base oa n cap l) (hw : Gr w0 w) (hb : w0.heap.size ≤ base) : Gr w0 w' :=
  Below.grown hw hg hw.le (fun q hq => Nat.le_trans hb (hown.own.lt q hq).1)
theorem OwnE.keep {w w' : World} {base : Nat} {oa : Option Addr} {n cap : Nat} {l : List Ev} (h : OwnE w base oa n cap l) (hg : Gr w w') : OwnE w' base oa n cap l := by
  refine ⟨⟨h.own.1, ?_⟩, h.rows.keep hg⟩
  rcases h.own.2 with ⟨e, hn⟩ | ⟨g, cap, cur, e, hb, hcur, rest⟩
  · exact .inl ⟨e, hn⟩
  · refine .inr ⟨g, cap, cur, e, hb, ?_, rest⟩
    have hlt : g < w.heap.size := by
      rcases Nat.lt_or_ge g w.heap.size with q | q
      · exact q
      · rw [Array.getElem?_eq_none q] at hcur; cases hcur
    rw [hg.block g hlt]; exact hcur
theorem evown_nil (w : World) (base : Nat) : OwnE w base none 0 0 [] :=
  ⟨⟨rfl, .inl ⟨rfl, rfl⟩⟩, ⟨rfl, Nat.le_refl _, Nat.zero_le _, fun _ => rfl, ⟨0, 0, fun q => absurd q (by omega), fun i hi => absurd hi (by omega)⟩, fun i hi => absurd hi (by omega)⟩⟩
/-- an empty one in a block -/
theorem evown_empty {w : World} {b base : Nat} (hb : b = w.heap.size) (h : base ≤ b) : OwnE (w.alloc (.cells #[] 38)) base (some ⟨b, 0, none⟩) 0 0 [] := by
  subst hb
  exact ⟨⟨rfl, .inr ⟨w.heap.size, 0, #[], rfl, h, (by show (w.heap.push (.cells #[] 38))[w.heap.size]? = _; simp), Nat.le_refl _, Nat.zero_le _, rfl, rfl⟩⟩,
   ⟨rfl, Nat.le_refl _, Nat.zero_le _, fun q => (by cases q), ⟨0, 0, fun q => absurd q (by omega), fun i hi => absurd hi (by omega)⟩, fun i hi => absurd hi (by omega)⟩⟩
/-- one in a block -/
theorem ev_one {w : World} {b cap : Nat} {e : Ev} (hc : 1 ≤ cap) (hm : cap ≤ maxLen) (h0 : w.cell? ⟨b, 0, none⟩ = some (.int .i64 e.thread)) (h1 : w.cell? ⟨b, 1, none⟩ = some (.int .i64 e.kind)) (h2 : w.cell? ⟨b, 2, none⟩ = some (.string e.key)) (h3 : w.cell? ⟨b, 3, none⟩ = some (.string e.cval)) (h4 : w.cell? ⟨b, 4, none⟩ = some (.string e.val)) (h5 : w.cell? ⟨b, 5, none⟩ = some (.int .i64 e.code)) (h6 : w.cell? ⟨b, 6, none⟩ = some (.int .i64 e.beg)) (h7 : w.cell? ⟨b, 7, none⟩ = some (.int .i64 e.fin)) (hs : e.key.size ≤ maxLen ∧ e.cval.size ≤ maxLen ∧ e.val.size ≤ maxLen) :
    EvsAt w (some ⟨b, 0, none⟩) 1 cap [e] := by
  have hb : b < w.heap.size := by
    rcases Nat.lt_or_ge b w.heap.size with q | q
    · exact q
    · unfold World.cell? at h0
      rw [show w.heap[b]? = none from Array.getElem?_eq_none q] at h0
      simp at h0
  refine ⟨rfl, hc, hm, fun q => (by cases q), ⟨b, 0, fun _ => ⟨rfl, hb⟩, fun i hi => ?_⟩, fun i hi => ?_⟩
  · obtain rfl : i = 0 := by omega
    exact ⟨h0, h1, h2, h3, h4, h5, h6, h7⟩
  · obtain rfl : i = 0 := by omega
    exact hs
end Go.Proofs.YtkngjnkecmjakaaDoor
