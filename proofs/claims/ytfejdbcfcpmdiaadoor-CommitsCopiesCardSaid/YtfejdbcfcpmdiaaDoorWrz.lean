import Derived.Test.YtfejdbcfcpmdiaaDoorStrz
import Derived.Laws.AppendOwnNone
namespace Go.Proofs.YtfejdbcfcpmdiaaDoor
set_option linter.unusedVariables false
set_option linter.unusedSimpArgs false
open Go.BigFrame Go.RowKit Go.WideShapes

/-- a write (or a span): two texts and a flag -/
structure Wt where
  key : ByteArray
  val : ByteArray
  gone : Bool
  deriving Inhabited, DecidableEq
def wAt (l : List Wt) (i : Nat) : Wt := l.getD i ⟨ByteArray.empty, ByteArray.empty, false⟩
theorem wAt_lt {l : List Wt} {i : Nat} (h : i < l.length) : wAt l i = l[i] := by
  unfold wAt; rw [List.getD_eq_getElem?_getD, List.getElem?_eq_getElem h]; rfl
theorem wAt_append_left {a b : List Wt} {i : Nat} (h : i < a.length) : wAt (a ++ b) i = wAt a i := by
  unfold wAt; rw [List.getD_eq_getElem?_getD, List.getD_eq_getElem?_getD, List.getElem?_append_left h]
theorem wAt_append_right {a b : List Wt} {i : Nat} (h : a.length ≤ i) : wAt (a ++ b) i = wAt b (i - a.length) := by
  unfold wAt; rw [List.getD_eq_getElem?_getD, List.getD_eq_getElem?_getD, List.getElem?_append_right h]

/-- the slice '.slice oa n cap' holds these -/
structure WritesAt (w : World) (oa : Option Addr) (n cap : Nat) (l : List Wt) : Prop where
  len : l.length = n
  cap_le : n ≤ cap
  cap_max : cap ≤ maxLen
  none : oa = none → cap = 0
  cells : ∃ b off, (0 < n → oa = some ⟨b, off, Option.none⟩ ∧ b < w.heap.size) ∧ ∀ i, i < n → w.cell? ⟨b, off + i * 3, Option.none⟩ = some (.string (wAt l i).key) ∧ w.cell? ⟨b, off + i * 3 + 1, Option.none⟩ = some (.string (wAt l i).val) ∧ w.cell? ⟨b, off + i * 3 + 2, Option.none⟩ = some (.bool (wAt l i).gone)
  sizes : ∀ i, i < n → (wAt l i).key.size ≤ maxLen ∧ (wAt l i).val.size ≤ maxLen

theorem WritesAt.keep {w w' : World} {oa : Option Addr} {n cap : Nat} {l : List Wt} (h : WritesAt w oa n cap l) (hg : Gr w w') : WritesAt w' oa n cap l := by
  obtain ⟨h1, h2, h3, h4, ⟨b, off, h5, h6⟩, h7⟩ := h
  exact ⟨h1, h2, h3, h4, ⟨b, off, fun q => ⟨(h5 q).1, Nat.lt_of_lt_of_le (h5 q).2 hg.le⟩, fun i hi => ⟨hg.keep (h6 i hi).1, hg.keep (h6 i hi).2.1, hg.keep (h6 i hi).2.2⟩⟩, h7⟩

/-- the cells -/
def wflat : List Wt → List Value
  | [] => []
  | r :: l => .string r.key :: .string r.val :: .bool r.gone :: wflat l
theorem wflat_append (a b : List Wt) : wflat (a ++ b) = wflat a ++ wflat b := by
  induction a with
  | nil => rfl
  | cons r a ih => simp [wflat, ih]
theorem wflat_length (l : List Wt) : (wflat l).length = l.length * 3 := by
  induction l with
  | nil => rfl
  | cons r l ih => simp [wflat, ih]; omega
theorem wflat_get (l : List Wt) (i : Nat) (h : i < l.length) : (wflat l)[i * 3]? = some (.string (wAt l i).key) ∧ (wflat l)[i * 3 + 1]? = some (.string (wAt l i).val) ∧ (wflat l)[i * 3 + 2]? = some (.bool (wAt l i).gone) := by
  induction l generalizing i with
  | nil => simp at h
  | cons r l ih =>
    cases i with
    | zero => exact ⟨rfl, rfl, rfl⟩
    | succ i =>
      have := ih i (by simpa using h)
      rw [show (i + 1) * 3 = i * 3 + 1 + 1 + 1 by omega]
      exact this
theorem wflat_one {l : List Wt} : ∀ u ∈ wflat l, u.oneCell' = true := by
  induction l with
  | nil => intro u hu; cases hu
  | cons r l ih =>
    intro u hu
    simp only [wflat, List.mem_cons] at hu
    rcases hu with rfl | rfl | rfl | hu
    · rfl
    · rfl
    · rfl
    · exact ih u hu
theorem wflat_cell {w : World} {b off n : Nat} {l : List Wt} (hl : l.length = n) (hc : ∀ i, i < n → w.cell? ⟨b, off + i * 3, none⟩ = some (.string (wAt l i).key) ∧ w.cell? ⟨b, off + i * 3 + 1, none⟩ = some (.string (wAt l i).val) ∧ w.cell? ⟨b, off + i * 3 + 2, none⟩ = some (.bool (wAt l i).gone)) :
    ∀ j u, (wflat l)[j]? = some u → w.cell? ((⟨b, off, none⟩ : Addr).add j) = some u := by
  intro j u hj
  have hjl : j < (wflat l).length := by
    rcases Nat.lt_or_ge j (wflat l).length with h | h
    · exact h
    · rw [List.getElem?_eq_none h] at hj; cases hj
  rw [wflat_length, hl] at hjl
  have ha : (⟨b, off, none⟩ : Addr).add j = ⟨b, off + j, none⟩ := by unfold Addr.add; split <;> simp_all
  rw [ha]
  have hi : j / 3 < l.length := by omega
  obtain ⟨g1, g2, g3⟩ := wflat_get l (j / 3) hi
  obtain ⟨c1, c2, c3⟩ := hc (j / 3) (by omega)
  have hm : j % 3 = 0 ∨ j % 3 = 1 ∨ j % 3 = 2 := by omega
  rcases hm with h | h | h
  · have e : j / 3 * 3 = j := by omega
    rw [e] at g1 c1
    rw [hj] at g1
    rw [c1]; exact g1.symm
  · have e : j / 3 * 3 + 1 = j := by omega
    have e2 : off + j / 3 * 3 + 1 = off + j := by omega
    rw [e] at g2
    rw [e2] at c2
    rw [hj] at g2
    rw [c2]; exact g2.symm
  · have e : j / 3 * 3 + 2 = j := by omega
    have e2 : off + j / 3 * 3 + 2 = off + j := by omega
    rw [e] at g3
    rw [e2] at c3
    rw [hj] at g3
    rw [c3]; exact g3.symm

theorem cells_write : Tryd.prog.cellsOf 49 = 3 := by kernel_rfl
theorem cells_rwrite : Tryd.prog.cellsOf 77 = 3 := by kernel_rfl
/-- the address of an element -/
theorem run_wr {oa : Option Addr} {n b off : Nat} (cap : Nat) (ho : 0 < n → oa = some ⟨b, off, none⟩) {k : Nat} (hk : k < n) (w : World) :
    (Instr.indexAt 50 (.slice oa n cap) (.int .i64 (k : Int))).run Tryd.prog w = .ok (.pointer (some ⟨b, off + k * 3, none⟩)) w := by
  rw [ho (by omega)]
  go_simp
theorem run_rwr {oa : Option Addr} {n b off : Nat} (cap : Nat) (ho : 0 < n → oa = some ⟨b, off, none⟩) {k : Nat} (hk : k < n) (w : World) :
    (Instr.indexAt 34 (.slice oa n cap) (.int .i64 (k : Int))).run Tryd.prog w = .ok (.pointer (some ⟨b, off + k * 3, none⟩)) w := by
  rw [ho (by omega)]
  go_simp

/-- the slice value is of the call's own, from block base on, and holds these -/
structure OwnW (w : World) (base : Nat) (oa : Option Addr) (n cap : Nat) (l : List Wt) : Prop where
  own : w.ownsRow base 49 3 (.slice oa n cap) n (wflat l)
  rows : WritesAt w oa n cap l

theorem ownW_of {w : World} {base : Nat} {v : Value} {n : Nat} {l : List Wt} (hl : l.length = n) (h : w.ownsRow base 49 3 v n (wflat l)) (hs : ∀ i, i < n → (wAt l i).key.size ≤ maxLen ∧ (wAt l i).val.size ≤ maxLen) :
    ∃ oa cap, v = .slice oa n cap ∧ OwnW w base oa n cap l := by
  have h' := h
  obtain ⟨h1, h2⟩ := h
  rcases h2 with ⟨rfl, rfl⟩ | ⟨g, cap, cur, rfl, hb, hg, hnc, hm, hsz, ht⟩
  · exact ⟨none, 0, rfl, h', ⟨hl, Nat.le_refl _, Nat.zero_le _, fun _ => rfl, ⟨0, 0, fun q => absurd q (by omega), fun i hi => absurd hi (by omega)⟩, hs⟩⟩
  · refine ⟨some ⟨g, 0, none⟩, cap, rfl, h', ⟨hl, hnc, hm, fun q => (by cases q), ⟨g, 0, fun q => ⟨rfl, ?_⟩, fun i hi => ?_⟩, hs⟩⟩
    · rcases Nat.lt_or_ge g w.heap.size with q | q
      · exact q
      · rw [Array.getElem?_eq_none q] at hg; cases hg
    · have hcell : ∀ j, w.cell? ⟨g, j, none⟩ = cur[j]? := by intro j; unfold World.cell?; rw [hg]; simp
      have hf := wflat_get l i (by omega)
      have hlt : i * 3 + 2 < n * 3 := by omega
      rw [← ht] at hf
      rw [Nat.zero_add, hcell, hcell, hcell]
      rw [List.getElem?_take_of_lt (by omega), List.getElem?_take_of_lt (by omega), List.getElem?_take_of_lt (by omega)] at hf
      simpa using hf

theorem write_info : (Tryd.prog.info? 49).map (fun i => (i.zero, i.size, i.bytes)) = some (some (.agg #[.string ⟨#[]⟩, .string ⟨#[]⟩, .bool false]), 3, 40) := by kernel_rfl

theorem wp_ws {w : World} {o : Oper} {a : Act} {K : Act → World → Prop} {Q : Exit → Act → World → Prop} (s x : Operand)
    (ho : o.op = .call { callee := .builtin .append, args := #[s, x], argTypes := #[50, 50] })
    (base : Nat) (hbase : base ≤ w.heap.size) {oa : Option Addr} {n cap : Nat} {l : List Wt} (hs : a.eval s = .slice oa n cap) (hown : OwnW w base oa n cap l)
    {ob : Option Addr} {m cap2 : Nat} {k : List Wt} (hx : a.eval x = .slice ob m cap2) (hrows : WritesAt w ob m cap2 k) (hsz : n + m ≤ 1099511627776)
    (h : ∀ oc cap3 w', OwnW w' base oc (n + m) cap3 (l ++ k) → w.grownBy w' (Value.ownBlock (.slice oa n cap)) → K (a.put o.dst (.slice oc (n + m) cap3)) w') : Oper.wp Tryd.prog o a w K Q := by
  obtain ⟨i, hi, hz, hsi, hby⟩ := info_parts write_info
  obtain ⟨b, off, hb, hc⟩ := hrows.cells
  have hll : (l ++ k).length = n + m := by rw [List.length_append, hown.rows.len, hrows.len]
  have hszd : ∀ j, j < n + m → (wAt (l ++ k) j).key.size ≤ maxLen ∧ (wAt (l ++ k) j).val.size ≤ maxLen := by
    intro j hj
    have := hown.rows.len
    rcases Nat.lt_or_ge j n with q | q
    · rw [wAt_append_left (by omega)]; exact hown.rows.sizes j q
    · rw [wAt_append_right (by omega)]; exact hrows.sizes _ (by omega)
  have main : ∀ ad, ob = some ad → (∀ j u, (wflat k)[j]? = some u → w.cell? (ad.add j) = some u) → Oper.wp Tryd.prog o a w K Q := by
    rintro ad rfl hnews
    refine wp_append_own w s x 50 ho base 49 i _ 3 40 Tryd.underlying50 hi hz hsi hby rfl (by decide) _ n (wflat l) hs hown.own ad m cap2 (wflat k) hx (by rw [wflat_length, hrows.len]) hnews wflat_one
      (by unfold maxLen; omega) (by omega) hbase ?_
    intro v' w' hown' hg _
    rw [← wflat_append] at hown'
    obtain ⟨oc, cap3, rfl, ho'⟩ := ownW_of hll hown' hszd
    exact h oc cap3 w' ho' hg
  cases hob : ob with
  | none =>
    subst hob
    have hm : m = 0 := by
      have := hrows.none rfl
      have := hrows.cap_le
      omega
    have hcap2 := hrows.none rfl
    subst hm
    subst hcap2
    have hk : k = [] := List.length_eq_zero_iff.1 hrows.len
    subst hk
    have hrun := run_append_owned_none (P := Tryd.prog) (w := w) base 50 o.type 49 i 3 Tryd.underlying50 hi _ n (wflat l) hown.own
    have := h oa cap w (by simpa using hown) ⟨rfl, rfl, rfl, Nat.le_refl _, fun _ _ _ => rfl⟩
    unfold Oper.wp
    have t : K (a.put o.dst (.slice oa n cap)) w := by simpa using this
    simp [execOp, ho, resolve, invoke, builtin, hs, hx, hrun, Result.andThen]
    exact t
  | some ad =>
    rcases Nat.eq_zero_or_pos m with hm | hm
    · have hk : k = [] := List.length_eq_zero_iff.1 (by rw [hrows.len, hm])
      exact main ad hob (fun j u hj => by rw [hk] at hj; simp [wflat] at hj)
    · have e := (hb hm).1
      rw [hob] at e
      obtain rfl : ad = ⟨b, off, none⟩ := by simpa using e
      exact main _ hob (wflat_cell hrows.len hc)

theorem wpList_ws {w : World} {ops : Array Oper} {rest : List Oper} {o : Oper} {a : Act} {Q : Exit → Act → World → Prop} (hgd : o.guard = none) (s x : Operand)
    (ho : o.op = .call { callee := .builtin .append, args := #[s, x], argTypes := #[50, 50] })
    (base : Nat) (hbase : base ≤ w.heap.size) {oa : Option Addr} {n cap : Nat} {l : List Wt} (hs : a.eval s = .slice oa n cap) (hown : OwnW w base oa n cap l)
    {ob : Option Addr} {m cap2 : Nat} {k : List Wt} (hx : a.eval x = .slice ob m cap2) (hrows : WritesAt w ob m cap2 k) (hsz : n + m ≤ 1099511627776)
    (h : ∀ oc cap3 w', OwnW w' base oc (n + m) cap3 (l ++ k) → w.grownBy w' (Value.ownBlock (.slice oa n cap)) → wpList Tryd.prog ops Q rest (a.put o.dst (.slice oc (n + m) cap3)) w') : wpList Tryd.prog ops Q (o :: rest) a w :=
  wpList_plain hgd fun _ hK => wp_ws s x ho base hbase hs hown hx hrows hsz fun oc cap3 w' h1 h2 => hK _ _ (h oc cap3 w' h1 h2)
theorem stepw_ws {w : World} {ops : Array Oper} {o : Oper} {a : Act} {K : Act → World → Prop} {Q : Exit → Act → World → Prop} {E : Prop} (hgd : o.guard = none) (s x : Operand)
    (ho : o.op = .call { callee := .builtin .append, args := #[s, x], argTypes := #[50, 50] })
    (base : Nat) (hbase : base ≤ w.heap.size) {oa : Option Addr} {n cap : Nat} {l : List Wt} (hs : a.eval s = .slice oa n cap) (hown : OwnW w base oa n cap l)
    {ob : Option Addr} {m cap2 : Nat} {k : List Wt} (hx : a.eval x = .slice ob m cap2) (hrows : WritesAt w ob m cap2 k) (hsz : n + m ≤ 1099511627776)
    (h : ∀ oc cap3 w', OwnW w' base oc (n + m) cap3 (l ++ k) → w.grownBy w' (Value.ownBlock (.slice oa n cap)) → K (a.put o.dst (.slice oc (n + m) cap3)) w') : if Region.wanted o (yielded ops a.tmps) = true then Oper.wp Tryd.prog o a w K Q else E := by
  have hw : Region.wanted o (yielded ops a.tmps) = true := by simp [Region.wanted, hgd]
  rw [if_pos hw]
  exact wp_ws s x ho base hbase hs hown hx hrows hsz h

theorem wgrown_gr {w0 w w' : World} {base : Nat} {oa : Option Addr} {n cap : Nat} {l : List Wt} (hg : w.grownBy w' (Value.ownBlock (.slice oa n cap))) (hown : OwnW w base oa n cap l) (hw : Gr w0 w) (hb : w0.heap.size ≤ base) : Gr w0 w' :=
  Below.grown hw hg hw.le (fun q hq => Nat.le_trans hb (hown.own.lt q hq).1)
theorem OwnW.keep {w w' : World} {base : Nat} {oa : Option Addr} {n cap : Nat} {l : List Wt} (h : OwnW w base oa n cap l) (hg : Gr w w') : OwnW w' base oa n cap l := by
  refine ⟨⟨h.own.1, ?_⟩, h.rows.keep hg⟩
  rcases h.own.2 with ⟨e, hn⟩ | ⟨g, cap, cur, e, hb, hcur, rest⟩
  · exact .inl ⟨e, hn⟩
  · refine .inr ⟨g, cap, cur, e, hb, ?_, rest⟩
    have hlt : g < w.heap.size := by
      rcases Nat.lt_or_ge g w.heap.size with q | q
      · exact q
      · rw [Array.getElem?_eq_none q] at hcur; cases hcur
    rw [hg.block g hlt]; exact hcur
theorem ownW_nil (w : World) (base : Nat) : OwnW w base none 0 0 [] :=
  ⟨⟨rfl, .inl ⟨rfl, rfl⟩⟩, ⟨rfl, Nat.le_refl _, Nat.zero_le _, fun _ => rfl, ⟨0, 0, fun q => absurd q (by omega), fun i hi => absurd hi (by omega)⟩, fun i hi => absurd hi (by omega)⟩⟩
/-- one in a block -/
theorem write_one {w : World} {b cap : Nat} {k v : ByteArray} {g : Bool} (hc : 1 ≤ cap) (hm : cap ≤ maxLen) (h0 : w.cell? ⟨b, 0, none⟩ = some (.string k)) (h1 : w.cell? ⟨b, 1, none⟩ = some (.string v)) (h2 : w.cell? ⟨b, 2, none⟩ = some (.bool g)) (hk : k.size ≤ maxLen) (hv : v.size ≤ maxLen) :
    WritesAt w (some ⟨b, 0, none⟩) 1 cap [⟨k, v, g⟩] := by
  have hb : b < w.heap.size := by
    rcases Nat.lt_or_ge b w.heap.size with q | q
    · exact q
    · unfold World.cell? at h0
      rw [show w.heap[b]? = none from Array.getElem?_eq_none q] at h0
      simp at h0
  refine ⟨rfl, hc, hm, fun q => (by cases q), ⟨b, 0, fun _ => ⟨rfl, hb⟩, fun i hi => ?_⟩, fun i hi => ?_⟩
  · obtain rfl : i = 0 := by omega
    exact ⟨h0, h1, h2⟩
  · obtain rfl : i = 0 := by omega
    exact ⟨hk, hv⟩
end Go.Proofs.YtfejdbcfcpmdiaaDoor
