import Derived.Test.YtidfelbaegaphaaDoorCp
import Derived.Deep.RegionLaw
namespace Go.Proofs.YtidfelbaegaphaaDoor
set_option linter.unusedVariables false
set_option linter.unusedSimpArgs false
open Go.BigFrame Go.RowKit Go.WideShapes

theorem wp_append_rows {w w0 : World} {o : Oper} {a : Act} {K : Act → World → Prop} {Q : Exit → Act → World → Prop} (s x : Operand)
    (ho : o.op = .call { callee := .builtin .append, args := #[s, x], argTypes := #[26, 26] })
    (hg0 : Gr w0 w) {oa : Option Addr} {n cap : Nat} {l : List Rw} (hs : a.eval s = .slice oa n cap) (hown : OwnAt w w0.heap.size oa n cap l)
    {ob : Option Addr} {m cap2 : Nat} {k : List Rw} (hx : a.eval x = .slice ob m cap2) (hrows : RowsAt w ob m cap2 k) (hsz : n + m ≤ 1099511627776)
    (h : ∀ oc cap3 w', OwnAt w' w0.heap.size oc (n + m) cap3 (l ++ k) → Gr w0 w' → K (a.put o.dst (.slice oc (n + m) cap3)) w') : Oper.wp Tryd.prog o a w K Q := by
  obtain ⟨i, hi, hz, hsi, hby⟩ := info_parts row_info
  obtain ⟨b, off, hb, hc⟩ := hrows.cells
  have hszd := hown.rows.sized.append hrows.sized
  have hll : (l ++ k).length = n + m := by rw [List.length_append, hown.rows.len, hrows.len]
  have main : ∀ ad, ob = some ad → (∀ j u, (flat k)[j]? = some u → w.cell? (ad.add j) = some u) → Oper.wp Tryd.prog o a w K Q := by
    rintro ad rfl hnews
    refine wp_append_own w s x 26 ho w0.heap.size 41 i _ 2 32 Tryd.underlying26 hi hz hsi hby rfl (by decide) _ n (flat l) hs hown.own ad m cap2 (flat k) hx (by rw [flat_length, hrows.len]) hnews flat_one
      (by unfold maxLen; omega) (by omega) hg0.le ?_
    intro v' w' hown' hg _
    rw [← flat_append] at hown'
    obtain ⟨oc, cap3, rfl, ho'⟩ := ownAt_of hll hown' (fun j hj => hszd j (by rw [hll]; exact hj))
    exact h oc cap3 w' ho' (Below.grown hg0 hg hg0.le (fun q hq => (hown.own.lt q hq).1))
  cases hob : ob with
  | none =>
    subst hob
    have hm : m = 0 := by
      have := hrows.none rfl
      have := hrows.cap_le
      omega
    have hcap2 := hrows.none rfl
    subst hm
    subst hcap2
    have hk : k = [] := List.length_eq_zero_iff.1 hrows.len
    subst hk
    have hrun := run_append_owned_none (P := Tryd.prog) (w := w) w0.heap.size 26 o.type 41 i 2 Tryd.underlying26 hi _ n (flat l) hown.own
    have := h oa cap w (by simpa using hown) hg0
    unfold Oper.wp
    have t : K (a.put o.dst (.slice oa n cap)) w := by simpa using this
    simp [execOp, ho, resolve, invoke, builtin, hs, hx, hrun, Result.andThen]
    exact t
  | some ad =>
    rcases Nat.eq_zero_or_pos m with hm | hm
    · have hk : k = [] := List.length_eq_zero_iff.1 (by rw [hrows.len, hm])
      exact main ad hob (fun j u hj => by rw [hk] at hj; simp [flat] at hj)
    · have e := (hb hm).1
      rw [hob] at e
      obtain rfl : ad = ⟨b, off, none⟩ := by simpa using e
      exact main _ hob (flat_cell hrows.len hc)

theorem wpList_rows {w w0 : World} {ops : Array Oper} {rest : List Oper} {o : Oper} {a : Act} {Q : Exit → Act → World → Prop} (hgd : o.guard = none) (s x : Operand)
    (ho : o.op = .call { callee := .builtin .append, args := #[s, x], argTypes := #[26, 26] })
    (hg0 : Gr w0 w) {oa : Option Addr} {n cap : Nat} {l : List Rw} (hs : a.eval s = .slice oa n cap) (hown : OwnAt w w0.heap.size oa n cap l)
    {ob : Option Addr} {m cap2 : Nat} {k : List Rw} (hx : a.eval x = .slice ob m cap2) (hrows : RowsAt w ob m cap2 k) (hsz : n + m ≤ 1099511627776)
    (h : ∀ oc cap3 w', OwnAt w' w0.heap.size oc (n + m) cap3 (l ++ k) → Gr w0 w' → wpList Tryd.prog ops Q rest (a.put o.dst (.slice oc (n + m) cap3)) w') : wpList Tryd.prog ops Q (o :: rest) a w :=
  wpList_plain hgd fun _ hK => wp_append_rows s x ho hg0 hs hown hx hrows hsz fun oc cap3 w' h1 h2 => hK _ _ (h oc cap3 w' h1 h2)

theorem step_rows {w w0 : World} {ops : Array Oper} {o : Oper} {a : Act} {K : Act → World → Prop} {Q : Exit → Act → World → Prop} {E : Prop} (hgd : o.guard = none) (s x : Operand)
    (ho : o.op = .call { callee := .builtin .append, args := #[s, x], argTypes := #[26, 26] })
    (hg0 : Gr w0 w) {oa : Option Addr} {n cap : Nat} {l : List Rw} (hs : a.eval s = .slice oa n cap) (hown : OwnAt w w0.heap.size oa n cap l)
    {ob : Option Addr} {m cap2 : Nat} {k : List Rw} (hx : a.eval x = .slice ob m cap2) (hrows : RowsAt w ob m cap2 k) (hsz : n + m ≤ 1099511627776)
    (h : ∀ oc cap3 w', OwnAt w' w0.heap.size oc (n + m) cap3 (l ++ k) → Gr w0 w' → K (a.put o.dst (.slice oc (n + m) cap3)) w') : if Region.wanted o (yielded ops a.tmps) = true then Oper.wp Tryd.prog o a w K Q else E := by
  have hw : Region.wanted o (yielded ops a.tmps) = true := by simp [Region.wanted, hgd]
  rw [if_pos hw]
  exact wp_append_rows s x ho hg0 hs hown hx hrows hsz h

/-- a new row of its own without elements -/
theorem own_empty {w0 w : World} (h : Gr w0 w) : OwnAt (w.alloc (.cells #[] 41)) w0.heap.size (some ⟨w.heap.size, 0, none⟩) 0 0 [] :=
  ⟨⟨rfl, .inr ⟨w.heap.size, 0, #[], rfl, h.le, (by show (w.heap.push (.cells #[] 41))[w.heap.size]? = _; simp), Nat.le_refl _, Nat.zero_le _, rfl, rfl⟩⟩,
   ⟨rfl, Nat.le_refl _, Nat.zero_le _, fun q => (by cases q), ⟨0, 0, fun q => absurd q (by omega), fun i hi => absurd hi (by omega)⟩, fun i hi => absurd hi (by omega)⟩⟩
/-- a row in a block -/
theorem row_one {w : World} {b cap : Nat} {k v : ByteArray} (hc : 1 ≤ cap) (hm : cap ≤ maxLen) (h0 : w.cell? ⟨b, 0, none⟩ = some (.string k)) (h1 : w.cell? ⟨b, 1, none⟩ = some (.string v)) (hk : k.size ≤ maxLen) (hv : v.size ≤ maxLen) :
    RowsAt w (some ⟨b, 0, none⟩) 1 cap [⟨k, v⟩] := by
  have hb : b < w.heap.size := by
    rcases Nat.lt_or_ge b w.heap.size with q | q
    · exact q
    · unfold World.cell? at h0
      rw [show w.heap[b]? = none from Array.getElem?_eq_none q] at h0
      simp at h0
  refine ⟨rfl, hc, hm, fun q => (by cases q), ⟨b, 0, fun _ => ⟨rfl, hb⟩, fun i hi => ?_⟩, fun i hi => ?_⟩
  · obtain rfl : i = 0 := by omega
    exact ⟨h0, h1⟩
  · obtain rfl : i = 0 := by omega
    exact ⟨hk, hv⟩
theorem OwnAt.keep {w w' : World} {base : Nat} {oa : Option Addr} {n cap : Nat} {l : List Rw} (h : OwnAt w base oa n cap l) (hg : Gr w w') : OwnAt w' base oa n cap l := by
  refine ⟨⟨h.own.1, ?_⟩, h.rows.keep hg⟩
  rcases h.own.2 with ⟨e, hn⟩ | ⟨g, cap, cur, e, hb, hcur, rest⟩
  · exact .inl ⟨e, hn⟩
  · refine .inr ⟨g, cap, cur, e, hb, ?_, rest⟩
    have hlt : g < w.heap.size := by
      rcases Nat.lt_or_ge g w.heap.size with q | q
      · exact q
      · rw [Array.getElem?_eq_none q] at hcur; cases hcur
    rw [hg.block g hlt]; exact hcur

end Go.Proofs.YtidfelbaegaphaaDoor
