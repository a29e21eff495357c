import Derived.Test.YtopomocbjlikjaaRwz
import Derived.Deep.RegionWith
import Derived.Deep.RegionLaw
namespace Go.Proofs.Ytopomocbjlikjaa
set_option linter.unusedVariables false
set_option linter.unusedSimpArgs false
open Go.BigFrame Go.RowKit Go.WideShapes

/-- where the rows behind the first k lie -/
def tailA (oa : Option Addr) (k cap : Nat) : Option Addr := if cap = k then oa else oa.map (·.add (k * 2))
theorem add_block (b off k : Nat) : (⟨b, off, none⟩ : Addr).add k = ⟨b, off + k, none⟩ := by unfold Addr.add; split <;> simp_all
theorem run_head (oa : Option Addr) (n cap k : Nat) (h : k ≤ cap) (w : World) :
    (Instr.sliceAt 25 (.slice oa n cap) none (some (.int .i64 (k : Int))) none).run Try.prog w = .ok (.slice oa k cap) w := by
  have e : (if cap = 0 then oa else Option.map (fun x => x.add 0) oa) = oa := by
    split
    · rfl
    · cases oa with
      | none => rfl
      | some a => simp [Addr.add]
  go_simp
theorem run_tail (oa : Option Addr) (n cap k : Nat) (h : k ≤ n) (w : World) :
    (Instr.sliceAt 25 (.slice oa n cap) (some (.int .i64 (k : Int))) none none).run Try.prog w = .ok (.slice (tailA oa k cap) (n - k) (cap - k)) w := by
  unfold tailA
  go_simp
theorem rAt_take {l : List Rw} {k i : Nat} (h : i < k) : rAt (l.take k) i = rAt l i := by
  unfold rAt; rw [List.getD_eq_getElem?_getD, List.getD_eq_getElem?_getD, List.getElem?_take_of_lt h]
theorem rAt_drop (l : List Rw) (k i : Nat) : rAt (l.drop k) i = rAt l (k + i) := by
  unfold rAt; rw [List.getD_eq_getElem?_getD, List.getD_eq_getElem?_getD, List.getElem?_drop]
theorem RowsAt.head {w : World} {oa : Option Addr} {n cap : Nat} {l : List Rw} (h : RowsAt w oa n cap l) {k : Nat} (hk : k ≤ n) : RowsAt w oa k cap (l.take k) := by
  obtain ⟨h1, h2, h3, h4, ⟨b, off, h5, h6⟩, h7⟩ := h
  refine ⟨by rw [List.length_take]; omega, by omega, h3, h4, ⟨b, off, fun q => h5 (by omega), fun i hi => ?_⟩, fun i hi => ?_⟩
  · unfold kAt vAt; rw [rAt_take hi]; exact h6 i (by omega)
  · unfold kAt vAt; rw [rAt_take hi]; exact h7 i (by omega)
theorem RowsAt.tail {w : World} {oa : Option Addr} {n cap : Nat} {l : List Rw} (h : RowsAt w oa n cap l) {k : Nat} (hk : k ≤ n) : RowsAt w (tailA oa k cap) (n - k) (cap - k) (l.drop k) := by
  obtain ⟨h1, h2, h3, h4, ⟨b, off, h5, h6⟩, h7⟩ := h
  refine ⟨by rw [List.length_drop]; omega, by omega, by omega, fun q => ?_, ⟨b, off + k * 2, fun q => ?_, fun i hi => ?_⟩, fun i hi => ?_⟩
  · unfold tailA at q
    split at q
    · omega
    · cases oa with
      | none => have := h4 rfl; omega
      | some a => cases q
  · obtain ⟨e, hb⟩ := h5 (by omega)
    subst e
    refine ⟨?_, hb⟩
    unfold tailA
    rw [if_neg (by omega), Option.map_some, add_block]
  · have e : off + k * 2 + i * 2 = off + (k + i) * 2 := by omega
    unfold kAt vAt; rw [rAt_drop, e]; exact h6 (k + i) (by omega)
  · unfold kAt vAt; rw [rAt_drop]; exact h7 (k + i) (by omega)

theorem cell_new_drewN (w : World) (d : Nat) (c : Array Value) (t : TypeId) (i : Nat) : ((w.drewN d).alloc (.cells c t)).cell? ⟨w.heap.size, i, none⟩ = c[i]? := World.cell?_alloc_new (w.drewN d) c t i
/-- a call hands back a slice of its own with these rows -/
def New1 (w : World) (l : List Rw) (e : Ending) (w' : World) : Prop := ∃ oa n cap, e = .returned (.slice oa n cap) ∧ RowsAt w' oa n cap l ∧ Gr w w' ∧ ∃ base, w.heap.size ≤ base ∧ OwnAt w' base oa n cap l

theorem list_g (w : World) (bp : Nat) (ps : List Part) (hn8 : ps.length ≤ 8) (hv : ∀ i, i < ps.length → w.cell? ⟨bp, i, none⟩ = some (.slice (pAt ps i).oa (pAt ps i).n (pAt ps i).cap))
    (hr : ∀ i, i < ps.length → RowsAt w (pAt ps i).oa (pAt ps i).n (pAt ps i).cap (pAt ps i).l) (hsz : (upto ps ps.length).length ≤ 1099511627776) :
    Calls Try.prog 48 #[.slice (some ⟨bp, 0, none⟩) ps.length ps.length] w (New1 w (upto ps ps.length)) := by
  refine (list_any bp ps.length ps _ rfl hn8 ⟨hv, hr⟩ hsz).mono ?_
  rintro e w' ⟨oa, cap, rfl, hown, hg2⟩
  exact ⟨oa, _, cap, rfl, hown.rows, hg2, _, Nat.le_refl _, hown⟩

theorem list1 {w : World} {bp : Nat} {oa : Option Addr} {n cap : Nat} {l : List Rw} (hc : w.cell? ⟨bp, 0, none⟩ = some (.slice oa n cap)) (h : RowsAt w oa n cap l) (hn : n ≤ 1000000) :
    Calls Try.prog 48 #[.slice (some ⟨bp, 0, none⟩) 1 1] w (New1 w l) := by
  have e : upto [⟨oa, n, cap, l⟩] 1 = l := by simp [upto]
  have := list_g w bp [⟨oa, n, cap, l⟩] (by simp) (fun i hi => by
      have hi' : i < 1 := hi
      obtain rfl : i = 0 := by omega
      exact hc)
    (fun i hi => by
      have hi' : i < 1 := hi
      obtain rfl : i = 0 := by omega
      exact h) (by show (upto _ 1).length ≤ _; rw [e, h.len]; omega)
  rw [show ([⟨oa, n, cap, l⟩] : List Part).length = 1 from rfl, e] at this
  exact this
theorem list2 {w : World} {bp : Nat} {oa : Option Addr} {n cap : Nat} {l : List Rw} {ob : Option Addr} {m cap2 : Nat} {k : List Rw} (hc : w.cell? ⟨bp, 0, none⟩ = some (.slice oa n cap)) (hc2 : w.cell? ⟨bp, 1, none⟩ = some (.slice ob m cap2))
    (h : RowsAt w oa n cap l) (hn : n ≤ 1000000) (h2 : RowsAt w ob m cap2 k) (hm : m ≤ 1000000) :
    Calls Try.prog 48 #[.slice (some ⟨bp, 0, none⟩) 2 2] w (New1 w (l ++ k)) := by
  have e : upto [⟨oa, n, cap, l⟩, ⟨ob, m, cap2, k⟩] 2 = l ++ k := by simp [upto]
  have := list_g w bp [⟨oa, n, cap, l⟩, ⟨ob, m, cap2, k⟩] (by simp) (fun i hi => by
      have hi' : i < 2 := hi
      obtain rfl | rfl : i = 0 ∨ i = 1 := by omega
      · exact hc
      · exact hc2)
    (fun i hi => by
      have hi' : i < 2 := hi
      obtain rfl | rfl : i = 0 ∨ i = 1 := by omega
      · exact h
      · exact h2) (by show (upto _ 2).length ≤ _; rw [e, List.length_append, h.len, h2.len]; omega)
  rw [show ([⟨oa, n, cap, l⟩, ⟨ob, m, cap2, k⟩] : List Part).length = 2 from rfl, e] at this
  exact this
theorem list3 {w : World} {bp : Nat} {oa : Option Addr} {n cap : Nat} {l : List Rw} {ob : Option Addr} {m cap2 : Nat} {k : List Rw} {oc : Option Addr} {p cap3 : Nat} {j : List Rw}
    (hc : w.cell? ⟨bp, 0, none⟩ = some (.slice oa n cap)) (hc2 : w.cell? ⟨bp, 1, none⟩ = some (.slice ob m cap2)) (hc3 : w.cell? ⟨bp, 2, none⟩ = some (.slice oc p cap3))
    (h : RowsAt w oa n cap l) (hn : n ≤ 1000000) (h2 : RowsAt w ob m cap2 k) (hm : m ≤ 1000000) (h3 : RowsAt w oc p cap3 j) (hp : p ≤ 1000000) :
    Calls Try.prog 48 #[.slice (some ⟨bp, 0, none⟩) 3 3] w (New1 w (l ++ k ++ j)) := by
  have e : upto [⟨oa, n, cap, l⟩, ⟨ob, m, cap2, k⟩, ⟨oc, p, cap3, j⟩] 3 = l ++ k ++ j := by simp [upto]
  have := list_g w bp [⟨oa, n, cap, l⟩, ⟨ob, m, cap2, k⟩, ⟨oc, p, cap3, j⟩] (by simp) (fun i hi => by
      have hi' : i < 3 := hi
      obtain rfl | rfl | rfl : i = 0 ∨ i = 1 ∨ i = 2 := by omega
      · exact hc
      · exact hc2
      · exact hc3)
    (fun i hi => by
      have hi' : i < 3 := hi
      obtain rfl | rfl | rfl : i = 0 ∨ i = 1 ∨ i = 2 := by omega
      · exact h
      · exact h2
      · exact h3) (by show (upto _ 3).length ≤ _; rw [e, List.length_append, List.length_append, h.len, h2.len, h3.len]; omega)
  rw [show ([⟨oa, n, cap, l⟩, ⟨ob, m, cap2, k⟩, ⟨oc, p, cap3, j⟩] : List Part).length = 3 from rfl, e] at this
  exact this

set_option maxRecDepth 100000 in
set_option maxHeartbeats 1000000 in
theorem copy_any (oa : Option Addr) (n cap : Nat) (l : List Rw) (w : World) (h : RowsAt w oa n cap l) (hn : n ≤ 1000000) :
    Calls Try.prog 44 #[.slice oa n cap] w (New1 w l) := by
  go_enter Try.func44, Try.ntmps44
  go_wp2_with fail
  refine (list1 (World.cell?_alloc_new w _ _ 0) (h.keep (by repeat (first | with_reducible exact Gr.refl _ | with_reducible refine Gr.drewN ?_ _ | with_reducible refine Gr.drew ?_ | with_reducible refine Gr.alloc ?_ _ | with_reducible refine Gr.setCell ?_ ?_ _ | (with_reducible refine Gr.trans ?_ (by assumption)) | omega | (dsimp only; omega)))) hn).mono ?_
  rintro e w1 ⟨oc, m1, cap3, rfl, hr, hg, base, hb, ho⟩
  go_wp2_with fail
  go_ret
  exact ⟨_, _, _, rfl, hr, by repeat (first | with_reducible exact Gr.refl _ | with_reducible refine Gr.drewN ?_ _ | with_reducible refine Gr.drew ?_ | with_reducible refine Gr.alloc ?_ _ | with_reducible refine Gr.setCell ?_ ?_ _ | (with_reducible refine Gr.trans ?_ (by assumption)) | omega | (dsimp only; omega)), base, Nat.le_trans (Gr.le (by repeat (first | with_reducible exact Gr.refl _ | with_reducible refine Gr.drewN ?_ _ | with_reducible refine Gr.drew ?_ | with_reducible refine Gr.alloc ?_ _ | with_reducible refine Gr.setCell ?_ ?_ _ | (with_reducible refine Gr.trans ?_ (by assumption)) | omega | (dsimp only; omega)))) hb, ho⟩

end Go.Proofs.Ytopomocbjlikjaa

namespace Go.Proofs.Ytopomocbjlikjaa
set_option linter.unusedVariables false
set_option linter.unusedSimpArgs false
open Go.BigFrame Go.RowKit Go.WideShapes

theorem wp_append_rows {w w0 : World} {o : Oper} {a : Act} {K : Act → World → Prop} {Q : Exit → Act → World → Prop} (s x : Operand)
    (ho : o.op = .call { callee := .builtin .append, args := #[s, x], argTypes := #[25, 25] })
    (hg0 : Gr w0 w) {oa : Option Addr} {n cap : Nat} {l : List Rw} (hs : a.eval s = .slice oa n cap) (hown : OwnAt w w0.heap.size oa n cap l)
    {ob : Option Addr} {m cap2 : Nat} {k : List Rw} (hx : a.eval x = .slice ob m cap2) (hrows : RowsAt w ob m cap2 k) (hsz : n + m ≤ 1099511627776)
    (h : ∀ oc cap3 w', OwnAt w' w0.heap.size oc (n + m) cap3 (l ++ k) → Gr w0 w' → K (a.put o.dst (.slice oc (n + m) cap3)) w') : Oper.wp Try.prog o a w K Q := by
  obtain ⟨i, hi, hz, hsi, hby⟩ := info_parts row_info
  obtain ⟨b, off, hb, hc⟩ := hrows.cells
  have hszd := hown.rows.sized.append hrows.sized
  have hll : (l ++ k).length = n + m := by rw [List.length_append, hown.rows.len, hrows.len]
  have main : ∀ ad, ob = some ad → (∀ j u, (flat k)[j]? = some u → w.cell? (ad.add j) = some u) → Oper.wp Try.prog o a w K Q := by
    rintro ad rfl hnews
    refine wp_append_own w s x 25 ho w0.heap.size 35 i _ 2 32 Try.underlying25 hi hz hsi hby rfl (by decide) _ n (flat l) hs hown.own ad m cap2 (flat k) hx (by rw [flat_length, hrows.len]) hnews flat_one
      (by unfold maxLen; omega) (by omega) hg0.le ?_
    intro v' w' hown' hg _
    rw [← flat_append] at hown'
    obtain ⟨oc, cap3, rfl, ho'⟩ := ownAt_of hll hown' (fun j hj => hszd j (by rw [hll]; exact hj))
    exact h oc cap3 w' ho' (Below.grown hg0 hg hg0.le (fun q hq => (hown.own.lt q hq).1))
  cases hob : ob with
  | none =>
    subst hob
    have hm : m = 0 := by
      have := hrows.none rfl
      have := hrows.cap_le
      omega
    have hcap2 := hrows.none rfl
    subst hm
    subst hcap2
    have hk : k = [] := List.length_eq_zero_iff.1 hrows.len
    subst hk
    have hrun := run_append_owned_none (P := Try.prog) (w := w) w0.heap.size 25 o.type 35 i 2 Try.underlying25 hi _ n (flat l) hown.own
    have := h oa cap w (by simpa using hown) hg0
    unfold Oper.wp
    have t : K (a.put o.dst (.slice oa n cap)) w := by simpa using this
    simp [execOp, ho, resolve, invoke, builtin, hs, hx, hrun, Result.andThen]
    exact t
  | some ad =>
    rcases Nat.eq_zero_or_pos m with hm | hm
    · have hk : k = [] := List.length_eq_zero_iff.1 (by rw [hrows.len, hm])
      exact main ad hob (fun j u hj => by rw [hk] at hj; simp [flat] at hj)
    · have e := (hb hm).1
      rw [hob] at e
      obtain rfl : ad = ⟨b, off, none⟩ := by simpa using e
      exact main _ hob (flat_cell hrows.len hc)

theorem wpList_rows {w w0 : World} {ops : Array Oper} {rest : List Oper} {o : Oper} {a : Act} {Q : Exit → Act → World → Prop} (hgd : o.guard = none) (s x : Operand)
    (ho : o.op = .call { callee := .builtin .append, args := #[s, x], argTypes := #[25, 25] })
    (hg0 : Gr w0 w) {oa : Option Addr} {n cap : Nat} {l : List Rw} (hs : a.eval s = .slice oa n cap) (hown : OwnAt w w0.heap.size oa n cap l)
    {ob : Option Addr} {m cap2 : Nat} {k : List Rw} (hx : a.eval x = .slice ob m cap2) (hrows : RowsAt w ob m cap2 k) (hsz : n + m ≤ 1099511627776)
    (h : ∀ oc cap3 w', OwnAt w' w0.heap.size oc (n + m) cap3 (l ++ k) → Gr w0 w' → wpList Try.prog ops Q rest (a.put o.dst (.slice oc (n + m) cap3)) w') : wpList Try.prog ops Q (o :: rest) a w :=
  wpList_plain hgd fun _ hK => wp_append_rows s x ho hg0 hs hown hx hrows hsz fun oc cap3 w' h1 h2 => hK _ _ (h oc cap3 w' h1 h2)

theorem step_rows {w w0 : World} {ops : Array Oper} {o : Oper} {a : Act} {K : Act → World → Prop} {Q : Exit → Act → World → Prop} {E : Prop} (hgd : o.guard = none) (s x : Operand)
    (ho : o.op = .call { callee := .builtin .append, args := #[s, x], argTypes := #[25, 25] })
    (hg0 : Gr w0 w) {oa : Option Addr} {n cap : Nat} {l : List Rw} (hs : a.eval s = .slice oa n cap) (hown : OwnAt w w0.heap.size oa n cap l)
    {ob : Option Addr} {m cap2 : Nat} {k : List Rw} (hx : a.eval x = .slice ob m cap2) (hrows : RowsAt w ob m cap2 k) (hsz : n + m ≤ 1099511627776)
    (h : ∀ oc cap3 w', OwnAt w' w0.heap.size oc (n + m) cap3 (l ++ k) → Gr w0 w' → K (a.put o.dst (.slice oc (n + m) cap3)) w') : if Region.wanted o (yielded ops a.tmps) = true then Oper.wp Try.prog o a w K Q else E := by
  have hw : Region.wanted o (yielded ops a.tmps) = true := by simp [Region.wanted, hgd]
  rw [if_pos hw]
  exact wp_append_rows s x ho hg0 hs hown hx hrows hsz h

/-- a new row of its own without elements -/
theorem own_empty {w0 w : World} (h : Gr w0 w) : OwnAt (w.alloc (.cells #[] 35)) w0.heap.size (some ⟨w.heap.size, 0, none⟩) 0 0 [] :=
  ⟨⟨rfl, .inr ⟨w.heap.size, 0, #[], rfl, h.le, (by show (w.heap.push (.cells #[] 35))[w.heap.size]? = _; simp), Nat.le_refl _, Nat.zero_le _, rfl, rfl⟩⟩,
   ⟨rfl, Nat.le_refl _, Nat.zero_le _, fun q => (by cases q), ⟨0, 0, fun q => absurd q (by omega), fun i hi => absurd hi (by omega)⟩, fun i hi => absurd hi (by omega)⟩⟩
/-- a row in a block -/
theorem row_one {w : World} {b cap : Nat} {k v : ByteArray} (hc : 1 ≤ cap) (hm : cap ≤ maxLen) (h0 : w.cell? ⟨b, 0, none⟩ = some (.string k)) (h1 : w.cell? ⟨b, 1, none⟩ = some (.string v)) (hk : k.size ≤ maxLen) (hv : v.size ≤ maxLen) :
    RowsAt w (some ⟨b, 0, none⟩) 1 cap [⟨k, v⟩] := by
  have hb : b < w.heap.size := by
    rcases Nat.lt_or_ge b w.heap.size with q | q
    · exact q
    · unfold World.cell? at h0
      rw [show w.heap[b]? = none from Array.getElem?_eq_none q] at h0
      simp at h0
  refine ⟨rfl, hc, hm, fun q => (by cases q), ⟨b, 0, fun _ => ⟨rfl, hb⟩, fun i hi => ?_⟩, fun i hi => ?_⟩
  · obtain rfl : i = 0 := by omega
    exact ⟨h0, h1⟩
  · obtain rfl : i = 0 := by omega
    exact ⟨hk, hv⟩
theorem OwnAt.keep {w w' : World} {base : Nat} {oa : Option Addr} {n cap : Nat} {l : List Rw} (h : OwnAt w base oa n cap l) (hg : Gr w w') : OwnAt w' base oa n cap l := by
  refine ⟨⟨h.own.1, ?_⟩, h.rows.keep hg⟩
  rcases h.own.2 with ⟨e, hn⟩ | ⟨g, cap, cur, e, hb, hcur, rest⟩
  · exact .inl ⟨e, hn⟩
  · refine .inr ⟨g, cap, cur, e, hb, ?_, rest⟩
    have hlt : g < w.heap.size := by
      rcases Nat.lt_or_ge g w.heap.size with q | q
      · exact q
      · rw [Array.getElem?_eq_none q] at hcur; cases hcur
    rw [hg.block g hlt]; exact hcur

end Go.Proofs.Ytopomocbjlikjaa
