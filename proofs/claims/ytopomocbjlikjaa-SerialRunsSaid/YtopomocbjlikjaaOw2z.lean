import Derived.Test.YtopomocbjlikjaaPtz
namespace Go.Proofs.Ytopomocbjlikjaa
set_option linter.unusedVariables false
set_option linter.unusedSimpArgs false
open Go.BigFrame Go.RowKit Go.WideShapes

theorem wp_rows_g {w : World} {o : Oper} {a : Act} {K : Act → World → Prop} {Q : Exit → Act → World → Prop} (s x : Operand)
    (ho : o.op = .call { callee := .builtin .append, args := #[s, x], argTypes := #[25, 25] })
    (base : Nat) (hbase : base ≤ w.heap.size) {oa : Option Addr} {n cap : Nat} {l : List Rw} (hs : a.eval s = .slice oa n cap) (hown : OwnAt w base oa n cap l)
    {ob : Option Addr} {m cap2 : Nat} {k : List Rw} (hx : a.eval x = .slice ob m cap2) (hrows : RowsAt w ob m cap2 k) (hsz : n + m ≤ 1099511627776)
    (h : ∀ oc cap3 w', OwnAt w' base oc (n + m) cap3 (l ++ k) → w.grownBy w' (Value.ownBlock (.slice oa n cap)) → K (a.put o.dst (.slice oc (n + m) cap3)) w') : Oper.wp Try.prog o a w K Q := by
  obtain ⟨i, hi, hz, hsi, hby⟩ := info_parts row_info
  obtain ⟨b, off, hb, hc⟩ := hrows.cells
  have hszd := hown.rows.sized.append hrows.sized
  have hll : (l ++ k).length = n + m := by rw [List.length_append, hown.rows.len, hrows.len]
  have main : ∀ ad, ob = some ad → (∀ j u, (flat k)[j]? = some u → w.cell? (ad.add j) = some u) → Oper.wp Try.prog o a w K Q := by
    rintro ad rfl hnews
    refine wp_append_own w s x 25 ho base 35 i _ 2 32 Try.underlying25 hi hz hsi hby rfl (by decide) _ n (flat l) hs hown.own ad m cap2 (flat k) hx (by rw [flat_length, hrows.len]) hnews flat_one
      (by unfold maxLen; omega) (by omega) hbase ?_
    intro v' w' hown' hg _
    rw [← flat_append] at hown'
    obtain ⟨oc, cap3, rfl, ho'⟩ := ownAt_of hll hown' (fun j hj => hszd j (by rw [hll]; exact hj))
    exact h oc cap3 w' ho' hg
  cases hob : ob with
  | none =>
    subst hob
    have hm : m = 0 := by
      have := hrows.none rfl
      have := hrows.cap_le
      omega
    have hcap2 := hrows.none rfl
    subst hm
    subst hcap2
    have hk : k = [] := List.length_eq_zero_iff.1 hrows.len
    subst hk
    have hrun := run_append_owned_none (P := Try.prog) (w := w) base 25 o.type 35 i 2 Try.underlying25 hi _ n (flat l) hown.own
    have := h oa cap w (by simpa using hown) ⟨rfl, rfl, rfl, Nat.le_refl _, fun _ _ _ => rfl⟩
    unfold Oper.wp
    have t : K (a.put o.dst (.slice oa n cap)) w := by simpa using this
    simp [execOp, ho, resolve, invoke, builtin, hs, hx, hrun, Result.andThen]
    exact t
  | some ad =>
    rcases Nat.eq_zero_or_pos m with hm | hm
    · have hk : k = [] := List.length_eq_zero_iff.1 (by rw [hrows.len, hm])
      exact main ad hob (fun j u hj => by rw [hk] at hj; simp [flat] at hj)
    · have e := (hb hm).1
      rw [hob] at e
      obtain rfl : ad = ⟨b, off, none⟩ := by simpa using e
      exact main _ hob (flat_cell hrows.len hc)

theorem wpList_rows_g {w : World} {ops : Array Oper} {rest : List Oper} {o : Oper} {a : Act} {Q : Exit → Act → World → Prop} (hgd : o.guard = none) (s x : Operand)
    (ho : o.op = .call { callee := .builtin .append, args := #[s, x], argTypes := #[25, 25] })
    (base : Nat) (hbase : base ≤ w.heap.size) {oa : Option Addr} {n cap : Nat} {l : List Rw} (hs : a.eval s = .slice oa n cap) (hown : OwnAt w base oa n cap l)
    {ob : Option Addr} {m cap2 : Nat} {k : List Rw} (hx : a.eval x = .slice ob m cap2) (hrows : RowsAt w ob m cap2 k) (hsz : n + m ≤ 1099511627776)
    (h : ∀ oc cap3 w', OwnAt w' base oc (n + m) cap3 (l ++ k) → w.grownBy w' (Value.ownBlock (.slice oa n cap)) → wpList Try.prog ops Q rest (a.put o.dst (.slice oc (n + m) cap3)) w') : wpList Try.prog ops Q (o :: rest) a w :=
  wpList_plain hgd fun _ hK => wp_rows_g s x ho base hbase hs hown hx hrows hsz fun oc cap3 w' h1 h2 => hK _ _ (h oc cap3 w' h1 h2)

theorem step_rows_g {w : World} {ops : Array Oper} {o : Oper} {a : Act} {K : Act → World → Prop} {Q : Exit → Act → World → Prop} {E : Prop} (hgd : o.guard = none) (s x : Operand)
    (ho : o.op = .call { callee := .builtin .append, args := #[s, x], argTypes := #[25, 25] })
    (base : Nat) (hbase : base ≤ w.heap.size) {oa : Option Addr} {n cap : Nat} {l : List Rw} (hs : a.eval s = .slice oa n cap) (hown : OwnAt w base oa n cap l)
    {ob : Option Addr} {m cap2 : Nat} {k : List Rw} (hx : a.eval x = .slice ob m cap2) (hrows : RowsAt w ob m cap2 k) (hsz : n + m ≤ 1099511627776)
    (h : ∀ oc cap3 w', OwnAt w' base oc (n + m) cap3 (l ++ k) → w.grownBy w' (Value.ownBlock (.slice oa n cap)) → K (a.put o.dst (.slice oc (n + m) cap3)) w') : if Region.wanted o (yielded ops a.tmps) = true then Oper.wp Try.prog o a w K Q else E := by
  have hw : Region.wanted o (yielded ops a.tmps) = true := by simp [Region.wanted, hgd]
  rw [if_pos hw]
  exact wp_rows_g s x ho base hbase hs hown hx hrows hsz h

theorem grown_gr {w0 w w' : World} {base : Nat} {oa : Option Addr} {n cap : Nat} {l : List Rw} (hg : w.grownBy w' (Value.ownBlock (.slice oa n cap))) (hown : OwnAt w base oa n cap l) (hw : Gr w0 w) (hb : w0.heap.size ≤ base) : Gr w0 w' :=
  Below.grown hw hg hw.le (fun q hq => Nat.le_trans hb (hown.own.lt q hq).1)
theorem grown_below {w w' : World} {base : Nat} {oa : Option Addr} {n cap : Nat} {l : List Rw} (hg : w.grownBy w' (Value.ownBlock (.slice oa n cap))) (hown : OwnAt w base oa n cap l) (hb : base ≤ w.heap.size) : Below base w w' :=
  Below.grown (Below.refl _ _) hg hb (fun q hq => (hown.own.lt q hq).1)
theorem grown_cell {w w' : World} {b o g : Nat} {v : Value} {n cap : Nat} (hg : w.grownBy w' (Value.ownBlock (.slice (some ⟨g, 0, none⟩) n cap))) (hc : w.cell? ⟨b, o, none⟩ = some v) (hne : b ≠ g) : w'.cell? ⟨b, o, none⟩ = some v := by
  have hb : b < w.heap.size := by
    rcases Nat.lt_or_ge b w.heap.size with q | q
    · exact q
    · unfold World.cell? at hc
      rw [show w.heap[b]? = none from Array.getElem?_eq_none q] at hc
      simp at hc
  rw [World.cell?_of_block (w := w) (a := ⟨b, o, none⟩) (hg.block b hb (by simp [Value.ownBlock]; exact hne)), hc]
end Go.Proofs.Ytopomocbjlikjaa
