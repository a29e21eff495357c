import Derived.Test.YtopomocbjlikjaaStrz
import Derived.Laws.AppendOwnNone
import Derived.Test.YtopomocbjlikjaaPtz
namespace Go.Proofs.Ytopomocbjlikjaa
set_option linter.unusedVariables false
set_option linter.unusedSimpArgs false
open Go.BigFrame Go.RowKit Go.WideShapes

/-- a write (or a span): two texts and a flag -/
structure Wt where
  key : ByteArray
  val : ByteArray
  gone : Bool
  deriving Inhabited, DecidableEq
def wAt (l : List Wt) (i : Nat) : Wt := l.getD i ⟨ByteArray.empty, ByteArray.empty, false⟩
theorem wAt_lt {l : List Wt} {i : Nat} (h : i < l.length) : wAt l i = l[i] := by
  unfold wAt; rw [List.getD_eq_getElem?_getD, List.getElem?_eq_getElem h]; rfl
theorem wAt_append_left {a b : List Wt} {i : Nat} (h : i < a.length) : wAt (a ++ b) i = wAt a i := by
  unfold wAt; rw [List.getD_eq_getElem?_getD, List.getD_eq_getElem?_getD, List.getElem?_append_left h]
theorem wAt_append_right {a b : List Wt} {i : Nat} (h : a.length ≤ i) : wAt (a ++ b) i = wAt b (i - a.length) := by
  unfold wAt; rw [List.getD_eq_getElem?_getD, List.getD_eq_getElem?_getD, List.getElem?_append_right h]

/-- the slice '.slice oa n cap' holds these -/
structure WritesAt (w : World) (oa : Option Addr) (n cap : Nat) (l : List Wt) : Prop where
  len : l.length = n
  cap_le : n ≤ cap
  cap_max : cap ≤ maxLen
  none : oa = none → cap = 0
  cells : ∃ b off, (0 < n → oa = some ⟨b, off, Option.none⟩ ∧ b < w.heap.size) ∧ ∀ i, i < n → w.cell? ⟨b, off + i * 3, Option.none⟩ = some (.string (wAt l i).key) ∧ w.cell? ⟨b, off + i * 3 + 1, Option.none⟩ = some (.string (wAt l i).val) ∧ w.cell? ⟨b, off + i * 3 + 2, Option.none⟩ = some (.bool (wAt l i).gone)
  sizes : ∀ i, i < n → (wAt l i).key.size ≤ maxLen ∧ (wAt l i).val.size ≤ maxLen

theorem WritesAt.keep {w w' : World} {oa : Option Addr} {n cap : Nat} {l : List Wt} (h : WritesAt w oa n cap l) (hg : Gr w w') : WritesAt w' oa n cap l := by
  obtain ⟨h1, h2, h3, h4, ⟨b, off, h5, h6⟩, h7⟩ := h
  exact ⟨h1, h2, h3, h4, ⟨b, off, fun q => ⟨(h5 q).1, Nat.lt_of_lt_of_le (h5 q).2 hg.le⟩, fun i hi => ⟨hg.keep (h6 i hi).1, hg.keep (h6 i hi).2.1, hg.keep (h6 i hi).2.2⟩⟩, h7⟩

/-- the cells -/
def wflat : List Wt → List Value
  | [] => []
  | r :: l => .string r.key :: .string r.val :: .bool r.gone :: wflat l
theorem wflat_append (a b : List Wt) : wflat (a ++ b) = wflat a ++ wflat b := by
  induction a with
  | nil => rfl
  | cons r a ih => simp [wflat, ih]
theorem wflat_length (l : List Wt) : (wflat l).length = l.length * 3 := by
  induction l with
  | nil => rfl
  | cons r l ih => simp [wflat, ih]; omega
theorem wflat_get (l : List Wt) (i : Nat) (h : i < l.length) : (wflat l)[i * 3]? = some (.string (wAt l i).key) ∧ (wflat l)[i * 3 + 1]? = some (.string (wAt l i).val) ∧ (wflat l)[i * 3 + 2]? = some (.bool (wAt l i).gone) := by
  induction l generalizing i with
  | nil => simp at h
  | cons r l ih =>
    cases i with
    | zero => exact ⟨rfl, rfl, rfl⟩
    | succ i =>
      have := ih i (by simpa using h)
      rw [show (i + 1) * 3 = i * 3 + 1 + 1 + 1 by omega]
      exact this
theorem wflat_one {l : List Wt} : ∀ u ∈ wflat l, u.oneCell' = true := by
  induction l with
  | nil => intro u hu; cases hu
  | cons r l ih =>
    intro u hu
    simp only [wflat, List.mem_cons] at hu
    rcases hu with rfl | rfl | rfl | hu
    · rfl
    · rfl
    · rfl
    · exact ih u hu
theorem wflat_cell {w : World} {b off n : Nat} {l : List Wt} (hl : l.length = n) (hc : ∀ i, i < n → w.cell? ⟨b, off + i * 3, none⟩ = some (.string (wAt l i).key) ∧ w.cell? ⟨b, off + i * 3 + 1, none⟩ = some (.string (wAt l i).val) ∧ w.cell? ⟨b, off + i * 3 + 2, none⟩ = some (.bool (wAt l i).gone)) :
    ∀ j u, (wflat l)[j]? = some u → w.cell? ((⟨b, off, none⟩ : Addr).add j) = some u := by
  intro j u hj
  have hjl : j < (wflat l).length := by
    rcases Nat.lt_or_ge j (wflat l).length with h | h
    · exact h
    · rw [List.getElem?_eq_none h] at hj; cases hj
  rw [wflat_length, hl] at hjl
  have ha : (⟨b, off, none⟩ : Addr).add j = ⟨b, off + j, none⟩ := by unfold Addr.add; split <;> simp_all
  rw [ha]
  have hi : j / 3 < l.length := by omega
  obtain ⟨g1, g2, g3⟩ := wflat_get l (j / 3) hi
  obtain ⟨c1, c2, c3⟩ := hc (j / 3) (by omega)
  have hm : j % 3 = 0 ∨ j % 3 = 1 ∨ j % 3 = 2 := by omega
  rcases hm with h | h | h
  · have e : j / 3 * 3 = j := by omega
    rw [e] at g1 c1
    rw [hj] at g1
    rw [c1]; exact g1.symm
  · have e : j / 3 * 3 + 1 = j := by omega
    have e2 : off + j / 3 * 3 + 1 = off + j := by omega
    rw [e] at g2
    rw [e2] at c2
    rw [hj] at g2
    rw [c2]; exact g2.symm
  · have e : j / 3 * 3 + 2 = j := by omega
    have e2 : off + j / 3 * 3 + 2 = off + j := by omega
    rw [e] at g3
    rw [e2] at c3
    rw [hj] at g3
    rw [c3]; exact g3.symm

theorem cells_write : Try.prog.cellsOf 72 = 3 := by kernel_rfl
theorem cells_rwrite : Try.prog.cellsOf 62 = 3 := by kernel_rfl
/-- the address of an element -/
theorem run_wr {oa : Option Addr} {n b off : Nat} (cap : Nat) (ho : 0 < n → oa = some ⟨b, off, none⟩) {k : Nat} (hk : k < n) (w : World) :
    (Instr.indexAt 74 (.slice oa n cap) (.int .i64 (k : Int))).run Try.prog w = .ok (.pointer (some ⟨b, off + k * 3, none⟩)) w := by
  rw [ho (by omega)]
  go_simp
theorem run_rwr {oa : Option Addr} {n b off : Nat} (cap : Nat) (ho : 0 < n → oa = some ⟨b, off, none⟩) {k : Nat} (hk : k < n) (w : World) :
    (Instr.indexAt 63 (.slice oa n cap) (.int .i64 (k : Int))).run Try.prog w = .ok (.pointer (some ⟨b, off + k * 3, none⟩)) w := by
  rw [ho (by omega)]
  go_simp

/-- the slice value is of the call's own, from block base on, and holds these -/
structure OwnW (w : World) (base : Nat) (oa : Option Addr) (n cap : Nat) (l : List Wt) : Prop where
  own : w.ownsRow base 72 3 (.slice oa n cap) n (wflat l)
  rows : WritesAt w oa n cap l

theorem ownW_of {w : World} {base : Nat} {v : Value} {n : Nat} {l : List Wt} (hl : l.length = n) (h : w.ownsRow base 72 3 v n (wflat l)) (hs : ∀ i, i < n → (wAt l i).key.size ≤ maxLen ∧ (wAt l i).val.size ≤ maxLen) :
    ∃ oa cap, v = .slice oa n cap ∧ OwnW w base oa n cap l := by
  have h' := h
  obtain ⟨h1, h2⟩ := h
  rcases h2 with ⟨rfl, rfl⟩ | ⟨g, cap, cur, rfl, hb, hg, hnc, hm, hsz, ht⟩
  · exact ⟨none, 0, rfl, h', ⟨hl, Nat.le_refl _, Nat.zero_le _, fun _ => rfl, ⟨0, 0, fun q => absurd q (by omega), fun i hi => absurd hi (by omega)⟩, hs⟩⟩
  · refine ⟨some ⟨g, 0, none⟩, cap, rfl, h', ⟨hl, hnc, hm, fun q => (by cases q), ⟨g, 0, fun q => ⟨rfl, ?_⟩, fun i hi => ?_⟩, hs⟩⟩
    · rcases Nat.lt_or_ge g w.heap.size with q | q
      · exact q
      · rw [Array.getElem?_eq_none q] at hg; cases hg
    · have hcell : ∀ j, w.cell? ⟨g, j, none⟩ = cur[j]? := by intro j; unfold World.cell?; rw [hg]; simp
      have hf := wflat_get l i (by omega)
      have hlt : i * 3 + 2 < n * 3 := by omega
      rw [← ht] at hf
      rw [Nat.zero_add, hcell, hcell, hcell]
      rw [List.getElem?_take_of_lt (by omega), List.getElem?_take_of_lt (by omega), List.getElem?_take_of_lt (by omega)] at hf
      simpa using hf

theorem write_info : (Try.prog.info? 72).map (fun i => (i.zero, i.size, i.bytes)) = some (some (.agg #[.string ⟨#[]⟩, .string ⟨#[]⟩, .bool false]), 3, 40) := by kernel_rfl

theorem wp_ws {w : World} {o : Oper} {a : Act} {K : Act → World → Prop} {Q : Exit → Act → World → Prop} (s x : Operand)
    (ho : o.op = .call { callee := .builtin .append, args := #[s, x], argTypes := #[74, 74] })
    (base : Nat) (hbase : base ≤ w.heap.size) {oa : Option Addr} {n cap : Nat} {l : List Wt} (hs : a.eval s = .slice oa n cap) (hown : OwnW w base oa n cap l)
    {ob : Option Addr} {m cap2 : Nat} {k : List Wt} (hx : a.eval x = .slice ob m cap2) (hrows : WritesAt w ob m cap2 k) (hsz : n + m ≤ 1099511627776)
    (h : ∀ oc cap3 w', OwnW w' base oc (n + m) cap3 (l ++ k) → w.grownBy w' (Value.ownBlock (.slice oa n cap)) → K (a.put o.dst (.slice oc (n + m) cap3)) w') : Oper.wp Try.prog o a w K Q := by
  obtain ⟨i, hi, hz, hsi, hby⟩ := info_parts write_info
  obtain ⟨b, off, hb, hc⟩ := hrows.cells
  have hll : (l ++ k).length = n + m := by rw [List.length_append, hown.rows.len, hrows.len]
  have hszd : ∀ j, j < n + m → (wAt (l ++ k) j).key.size ≤ maxLen ∧ (wAt (l ++ k) j).val.size ≤ maxLen := by
    intro j hj
    have := hown.rows.len
    rcases Nat.lt_or_ge j n with q | q
    · rw [wAt_append_left (by omega)]; exact hown.rows.sizes j q
    · rw [wAt_append_right (by omega)]; exact hrows.sizes _ (by omega)
  have main : ∀ ad, ob = some ad → (∀ j u, (wflat k)[j]? = some u → w.cell? (ad.add j) = some u) → Oper.wp Try.prog o a w K Q := by
    rintro ad rfl hnews
    refine wp_append_own w s x 74 ho base 72 i _ 3 40 Try.underlying74 hi hz hsi hby rfl (by decide) _ n (wflat l) hs hown.own ad m cap2 (wflat k) hx (by rw [wflat_length, hrows.len]) hnews wflat_one
      (by unfold maxLen; omega) (by omega) hbase ?_
    intro v' w' hown' hg _
    rw [← wflat_append] at hown'
    obtain ⟨oc, cap3, rfl, ho'⟩ := ownW_of hll hown' hszd
    exact h oc cap3 w' ho' hg
  cases hob : ob with
  | none =>
    subst hob
    have hm : m = 0 := by
      have := hrows.none rfl
      have := hrows.cap_le
      omega
    have hcap2 := hrows.none rfl
    subst hm
    subst hcap2
    have hk : k = [] := List.length_eq_zero_iff.1 hrows.len
    subst hk
    have hrun := run_append_owned_none (P := Try.prog) (w := w) base 74 o.type 72 i 3 Try.underlying74 hi _ n (wflat l) hown.own
    have := h oa cap w (by simpa using hown) ⟨rfl, rfl, rfl, Nat.le_refl _, fun _ _ _ => rfl⟩
    unfold Oper.wp
    have t : K (a.put o.dst (.slice oa n cap)) w := by simpa using this
    simp [execOp, ho, resolve, invoke, builtin, hs, hx, hrun, Result.andThen]
    exact t
  | some ad =>
    rcases Nat.eq_zero_or_pos m with hm | hm
    · have hk : k = [] := List.length_eq_zero_iff.1 (by rw [hrows.len, hm])
      exact main ad hob (fun j u hj => by rw [hk] at hj; simp [wflat] at hj)
    · have e := (hb hm).1
      rw [hob] at e
      obtain rfl : ad = ⟨b, off, none⟩ := by simpa using e
      exact main _ hob (wflat_cell hrows.len hc)

theorem wpList_ws {w : World} {ops : Array Oper} {rest : List Oper} {o : Oper} {a : Act} {Q : Exit → Act → World → Prop} (hgd : o.guard = none) (s x : Operand)
    (ho : o.op = .call { callee := .builtin .append, args := #[s, x], argTypes := #[74, 74] })
    (base : Nat) (hbase : base ≤ w.heap.size) {oa : Option Addr} {n cap : Nat} {l : List Wt} (hs : a.eval s = .slice oa n cap) (hown : OwnW w base oa n cap l)
    {ob : Option Addr} {m cap2 : Nat} {k : List Wt} (hx : a.eval x = .slice ob m cap2) (hrows : WritesAt w ob m cap2 k) (hsz : n + m ≤ 1099511627776)
    (h : ∀ oc cap3 w', OwnW w' base oc (n + m) cap3 (l ++ k) → w.grownBy w' (Value.ownBlock (.slice oa n cap)) → wpList Try.prog ops Q rest (a.put o.dst (.slice oc (n + m) cap3)) w') : wpList Try.prog ops Q (o :: rest) a w :=
  wpList_plain hgd fun _ hK => wp_ws s x ho base hbase hs hown hx hrows hsz fun oc cap3 w' h1 h2 => hK _ _ (h oc cap3 w' h1 h2)
theorem stepw_ws {w : World} {ops : Array Oper} {o : Oper} {a : Act} {K : Act → World → Prop} {Q : Exit → Act → World → Prop} {E : Prop} (hgd : o.guard = none) (s x : Operand)
    (ho : o.op = .call { callee := .builtin .append, args := #[s, x], argTypes := #[74, 74] })
    (base : Nat) (hbase : base ≤ w.heap.size) {oa : Option Addr} {n cap : Nat} {l : List Wt} (hs : a.eval s = .slice oa n cap) (hown : OwnW w base oa n cap l)
    {ob : Option Addr} {m cap2 : Nat} {k : List Wt} (hx : a.eval x = .slice ob m cap2) (hrows : WritesAt w ob m cap2 k) (hsz : n + m ≤ 1099511627776)
    (h : ∀ oc cap3 w', OwnW w' base oc (n + m) cap3 (l ++ k) → w.grownBy w' (Value.ownBlock (.slice oa n cap)) → K (a.put o.dst (.slice oc (n + m) cap3)) w') : if Region.wanted o (yielded ops a.tmps) = true then Oper.wp Try.prog o a w K Q else E := by
  have hw : Region.wanted o (yielded ops a.tmps) = true := by simp [Region.wanted, hgd]
  rw [if_pos hw]
  exact wp_ws s x ho base hbase hs hown hx hrows hsz h

theorem wgrown_gr {w0 w w' : World} {base : Nat} {oa : Option Addr} {n cap : Nat} {l : List Wt} (hg : w.grownBy w' (Value.ownBlock (.slice oa n cap))) (hown : OwnW w base oa n cap l) (hw : Gr w0 w) (hb : w0.heap.size ≤ base) : Gr w0 w' :=
  Below.grown hw hg hw.le (fun q hq => Nat.le_trans hb (hown.own.lt q hq).1)
theorem OwnW.keep {w w' : World} {base : Nat} {oa : Option Addr} {n cap : Nat} {l : List Wt} (h : OwnW w base oa n cap l) (hg : Gr w w') : OwnW w' base oa n cap l := by
  refine ⟨⟨h.own.1, ?_⟩, h.rows.keep hg⟩
  rcases h.own.2 with ⟨e, hn⟩ | ⟨g, cap, cur, e, hb, hcur, rest⟩
  · exact .inl ⟨e, hn⟩
  · refine .inr ⟨g, cap, cur, e, hb, ?_, rest⟩
    have hlt : g < w.heap.size := by
      rcases Nat.lt_or_ge g w.heap.size with q | q
      · exact q
      · rw [Array.getElem?_eq_none q] at hcur; cases hcur
    rw [hg.block g hlt]; exact hcur
theorem ownW_nil (w : World) (base : Nat) : OwnW w base none 0 0 [] :=
  ⟨⟨rfl, .inl ⟨rfl, rfl⟩⟩, ⟨rfl, Nat.le_refl _, Nat.zero_le _, fun _ => rfl, ⟨0, 0, fun q => absurd q (by omega), fun i hi => absurd hi (by omega)⟩, fun i hi => absurd hi (by omega)⟩⟩
/-- one in a block -/
theorem write_one {w : World} {b cap : Nat} {k v : ByteArray} {g : Bool} (hc : 1 ≤ cap) (hm : cap ≤ maxLen) (h0 : w.cell? ⟨b, 0, none⟩ = some (.string k)) (h1 : w.cell? ⟨b, 1, none⟩ = some (.string v)) (h2 : w.cell? ⟨b, 2, none⟩ = some (.bool g)) (hk : k.size ≤ maxLen) (hv : v.size ≤ maxLen) :
    WritesAt w (some ⟨b, 0, none⟩) 1 cap [⟨k, v, g⟩] := by
  have hb : b < w.heap.size := by
    rcases Nat.lt_or_ge b w.heap.size with q | q
    · exact q
    · unfold World.cell? at h0
      rw [show w.heap[b]? = none from Array.getElem?_eq_none q] at h0
      simp at h0
  refine ⟨rfl, hc, hm, fun q => (by cases q), ⟨b, 0, fun _ => ⟨rfl, hb⟩, fun i hi => ?_⟩, fun i hi => ?_⟩
  · obtain rfl : i = 0 := by omega
    exact ⟨h0, h1, h2⟩
  · obtain rfl : i = 0 := by omega
    exact ⟨hk, hv⟩
end Go.Proofs.Ytopomocbjlikjaa

namespace Go.Proofs.Ytopomocbjlikjaa
set_option linter.unusedVariables false
set_option linter.unusedSimpArgs false
open Go.BigFrame Go.RowKit Go.WideShapes

/-- an answer that says at most that there are few -/
def FewW (n : Nat) (e : Ending) : Prop := ∃ b : Bool, e = .returned (.bool b) ∧ (b = true → n ≤ 40)

/-- a call hands back a slice of its own with these writes -/
def NewW (w : World) (l : List Wt) (e : Ending) (w' : World) : Prop := ∃ oa cap, e = .returned (.slice oa l.length cap) ∧ OwnW w' w.heap.size oa l.length cap l ∧ Gr w w'

end Go.Proofs.Ytopomocbjlikjaa

namespace Go.Proofs.Ytopomocbjlikjaa
set_option linter.unusedVariables false
set_option linter.unusedSimpArgs false
open Go.BigFrame Go.RowKit Go.WideShapes

theorem neW {x y : ByteArray} (h : x ≠ y) : (x.toList == y.toList) = false := by
  rw [beq_eq_false_iff_ne, toList_tx, toList_tx]
  exact fun e => h (bytes_inj e)
theorem eqW {x y : ByteArray} (h : x = y) : (x.toList == y.toList) = true := by rw [h]; simp
theorem notEmpty {x : ByteArray} (h : x ≠ ⟨#[]⟩) : x.toList.isEmpty = false := by
  rw [toList_tx]
  cases e : Tx x with
  | nil => exact absurd (bytes_inj (show Tx x = Tx ⟨#[]⟩ by rw [e])) h
  | cons a b => rfl
/-- may a write be? -/
def wfits (r : Wt) : Bool := rightB r.key && decide (r.val.size ≤ 16) && !(r.gone && decide (r.val ≠ ByteArray.empty))
theorem wfits_cases (r : Wt) : (wfits r = true ∧ rightB r.key = true ∧ r.val.size ≤ 16 ∧ (r.gone = false ∨ r.val = ⟨#[]⟩)) ∨ (wfits r = false ∧ rightB r.key = false) ∨ (wfits r = false ∧ rightB r.key = true ∧ 16 < r.val.size)
    ∨ (wfits r = false ∧ rightB r.key = true ∧ r.val.size ≤ 16 ∧ r.gone = true ∧ r.val ≠ ⟨#[]⟩) := by
  have he : ByteArray.empty = ⟨#[]⟩ := rfl
  unfold wfits
  rw [he]
  cases rightB r.key
  · exact .inr (.inl ⟨rfl, rfl⟩)
  · by_cases hv : r.val.size ≤ 16
    · by_cases hq : r.val = ⟨#[]⟩
      · exact .inl ⟨by rw [hq]; simp [ByteArray.size], rfl, hv, .inr hq⟩
      · cases hg : r.gone
        · exact .inl ⟨by simp [hv], rfl, hv, .inl rfl⟩
        · exact .inr (.inr (.inr ⟨by simp [hq], rfl, hv, rfl, hq⟩))
    · exact .inr (.inr (.inl ⟨by simp [hv], rfl, by omega⟩))
/-- a new box of a write -/
abbrev boxWt (w : World) (k v : ByteArray) (g : Bool) : World := w.alloc (.cells #[.string k, .string v, .bool g] 72)
theorem box3 (w : World) (k v : ByteArray) (g : Bool) : (boxWt w k v g).cell? ⟨w.heap.size, 0, none⟩ = some (.string k) ∧ (boxWt w k v g).cell? ⟨w.heap.size, 1, none⟩ = some (.string v) ∧ (boxWt w k v g).cell? ⟨w.heap.size, 2, none⟩ = some (.bool g) :=
  ⟨World.cell?_alloc_new w _ _ 0, World.cell?_alloc_new w _ _ 1, World.cell?_alloc_new w _ _ 2⟩
/-- writes that may be -/
def WritesOk (l : List Wt) : Prop := ∀ i, i < l.length → wfits (wAt l i) = true ∧ (0 < i → Str.cmp (Tx (wAt l (i - 1)).key) (Tx (wAt l i).key) < 0)
instance (l : List Wt) : Decidable (WritesOk l) := by unfold WritesOk; infer_instance
def writesOkB (l : List Wt) : Bool := decide (WritesOk l)
theorem writesOkB_no {l : List Wt} {k : Nat} (hk : k < l.length) (h : wfits (wAt l k) = false ∨ (0 < k ∧ 0 ≤ Str.cmp (Tx (wAt l (k - 1)).key) (Tx (wAt l k).key))) : writesOkB l = false := by
  unfold writesOkB
  rw [decide_eq_false_iff_not]
  intro q
  obtain ⟨q1, q2⟩ := q k hk
  rcases h with h | ⟨h0, h⟩
  · rw [h] at q1; cases q1
  · have := q2 h0; omega
theorem run_wrI {oa : Option Addr} {n b off : Nat} (cap : Nat) (ho : 0 < n → oa = some ⟨b, off, none⟩) {k : Int} (h0 : 0 ≤ k) (hk : k < n) (w : World) :
    (Instr.indexAt 74 (.slice oa n cap) (.int .i64 k)).run Try.prog w = .ok (.pointer (some ⟨b, off + k.toNat * 3, none⟩)) w := by
  obtain ⟨m, rfl⟩ := Int.eq_ofNat_of_zero_le h0
  exact run_wr cap ho (by omega) w

set_option maxRecDepth 100000 in
set_option maxHeartbeats 4000000 in
theorem wright_any (oa : Option Addr) (n cap : Nat) (l : List Wt) (w : World) (h : WritesAt w oa n cap l) :
    Calls Try.prog 25 #[.slice oa n cap] w fun e w' => e = .returned (.bool (writesOkB l)) ∧ Gr w w' := by
  obtain ⟨b1, off1, ho1, hc1⟩ := h.cells
  have Hc1 := Lib.hid hc1
  have Ho1 := Lib.hid (fun q => (ho1 q).1)
  have H1 := Lib.hid h
  have hn1 := h.cap_le
  have hm1 := h.cap_max
  unfold maxLen at hm1
  clear hc1 ho1 h
  go_enter Try.func25, Try.ntmps25
  go_wp2
  go_loopw [7] (fun i wr => ∃ k : Nat, k ≤ n ∧ i = .int .i64 k ∧ Hid (∀ j, j < k → wfits (wAt l j) = true ∧ (0 < j → Str.cmp (Tx (wAt l (j - 1)).key) (Tx (wAt l j).key) < 0)) ∧ Gr w wr) (fun i _ => n - (intOf i).toNat)
  case atStart => exact ⟨0, Nat.zero_le _, rfl, Lib.hid fun j hj => by omega, Gr.refl _⟩
  case round =>
    obtain ⟨k, hk, rfl, hp, hg⟩ := hrel
    by_cases hlt : k < n
    · obtain ⟨a1, a2, a3⟩ := Hc1.out k hlt
      have a1 := hg.keep a1
      have a2 := hg.keep a2
      have a3 := hg.keep a3
      have hs1 := (H1.out.sizes k hlt).1
      have hs2 := (H1.out.sizes k hlt).2
      unfold maxLen at hs2
      have hI := run_wr cap Ho1.out hlt
      have hkl : k < l.length := by rw [H1.out.len]; exact hlt
      have v0 := After.cell (box3 wr (wAt l k).key (wAt l k).val (wAt l k).gone).1
      have v1 := After.cell (box3 wr (wAt l k).key (wAt l k).val (wAt l k).gone).2.1
      have v2 := After.cell (box3 wr (wAt l k).key (wAt l k).val (wAt l k).gone).2.2
      have hRt := fun w => right_any (wAt l k).key w hs1
      rcases wfits_cases (wAt l k) with ⟨hf, hr, hv, hq⟩ | ⟨hf, hr⟩ | ⟨hf, hr, hv⟩ | ⟨hf, hr, hv, hq1, hq2⟩
      · rw [hr] at hRt
        have hRt := Lib.hid hRt
        have Hf := Lib.hid hf
        clear hf hr
        have hq3 : (wAt l k).gone = false ∨ ((wAt l k).gone = true ∧ (wAt l k).val = ⟨#[]⟩) := by
          cases hg2 : (wAt l k).gone
          · exact .inl rfl
          · rcases hq with q | q
            · rw [hg2] at q; cases q
            · exact .inr ⟨rfl, q⟩
        clear hq
        by_cases h0 : k = 0
        · have hk0 : decide (0 < k) = false := by simp; omega
          have H0 := Lib.hid h0
          clear h0
          generalize (wAt l k).val = v at *
          generalize (wAt l k).gone = g at *
          have hv' : decide ((16 : Int) < (v.size : Int)) = false := by simp; omega
          rcases hq3 with rfl | ⟨rfl, rfl⟩
          all_goals
            go_wp2_with fail
            refine wp_region_after (by kernel_rfl) (by kernel_rfl) ?_
            repeat (go_big_quiet_step ((first | (go_at_call 38; (with_reducible exact after_dr (hRt.out _))) | (go_at_call 39; (with_reducible exact after_dr (compare_any _ _ _ (by assumption) (by assumption)))))))
            refine wpQuiet_nil ?_
            rintro _ ⟨⟨w1, hg1⟩, rfl⟩
            go_wp2_with fail
            go_roundw
            case rel => exact ⟨k + 1, by omega, by go_num, Lib.hid fun j hj => by
              have h0 := H0.out
              obtain rfl : j = k := by omega
              exact ⟨Hf.out, fun q => absurd q (by omega)⟩, by repeat (first | with_reducible exact Gr.refl _ | with_reducible refine Gr.drewN ?_ _ | with_reducible refine Gr.drew ?_ | with_reducible refine Gr.alloc ?_ _ | with_reducible refine Gr.setCell ?_ ?_ _ | (with_reducible refine Gr.trans ?_ (by assumption)) | omega | (dsimp only; omega))⟩
            case measure => simp [intOf]; omega
        · have hk0 : decide (0 < k) = true := by simp; omega
          have hk3 := After.cell (((Gr.refl wr).alloc (.cells #[.string (wAt l k).key, .string (wAt l k).val, .bool (wAt l k).gone] 72)).keep (hg.keep (Hc1.out (k - 1) (by omega)).1))
          have hs3 := (H1.out.sizes (k - 1) (by omega)).1
          have hI2 := fun w => run_wrI cap Ho1.out (k := (k : Int) - 1) (by omega) (by omega) w
          have e1 : ((k : Int) - 1).toNat = k - 1 := by omega
          rw [e1] at hI2
          by_cases hc : Str.cmp (Tx (wAt l (k - 1)).key) (Tx (wAt l k).key) < 0
          · have hc' : decide (0 ≤ Str.cmp (Tx (wAt l (k - 1)).key) (Tx (wAt l k).key)) = false := by simp; omega
            have Hc := Lib.hid hc
            generalize (wAt l k).val = v at *
            generalize (wAt l k).gone = g at *
            have hv' : decide ((16 : Int) < (v.size : Int)) = false := by simp; omega
            rcases hq3 with rfl | ⟨rfl, rfl⟩
            all_goals
              go_wp2_with fail
              refine wp_region_after (by kernel_rfl) (by kernel_rfl) ?_
              repeat (go_big_quiet_step ((first | (go_at_call 38; (with_reducible exact after_dr (hRt.out _))) | (go_at_call 39; (with_reducible exact after_dr (compare_any _ _ _ (by assumption) (by assumption)))))))
              refine wpQuiet_nil ?_
              rintro _ ⟨⟨w1, hg1⟩, rfl⟩
              go_wp2_with fail
              go_roundw
              case rel => exact ⟨k + 1, by omega, by go_num, Lib.hid fun j hj => by
                rcases Nat.lt_or_ge j k with q | q
                · exact hp.out j q
                · obtain rfl : j = k := by omega
                  exact ⟨Hf.out, fun _ => Hc.out⟩, by repeat (first | with_reducible exact Gr.refl _ | with_reducible refine Gr.drewN ?_ _ | with_reducible refine Gr.drew ?_ | with_reducible refine Gr.alloc ?_ _ | with_reducible refine Gr.setCell ?_ ?_ _ | (with_reducible refine Gr.trans ?_ (by assumption)) | omega | (dsimp only; omega))⟩
              case measure => simp [intOf]; omega
          · have hc' : decide (0 ≤ Str.cmp (Tx (wAt l (k - 1)).key) (Tx (wAt l k).key)) = true := by simp; omega
            have e := Lib.hid (writesOkB_no hkl (.inr ⟨by omega, by omega⟩))
            generalize (wAt l k).val = v at *
            generalize (wAt l k).gone = g at *
            have hv' : decide ((16 : Int) < (v.size : Int)) = false := by simp; omega
            rcases hq3 with rfl | ⟨rfl, rfl⟩
            all_goals
              go_wp2_with fail
              refine wp_region_after (by kernel_rfl) (by kernel_rfl) ?_
              repeat (go_big_quiet_step ((first | (go_at_call 38; (with_reducible exact after_dr (hRt.out _))) | (go_at_call 39; (with_reducible exact after_dr (compare_any _ _ _ (by assumption) (by assumption)))))))
              refine wpQuiet_nil ?_
              rintro _ ⟨⟨w1, hg1⟩, rfl⟩
              go_wp2_with fail
              go_ret
              exact ⟨by rw [e.out]; rfl, by repeat (first | with_reducible exact Gr.refl _ | with_reducible refine Gr.drewN ?_ _ | with_reducible refine Gr.drew ?_ | with_reducible refine Gr.alloc ?_ _ | with_reducible refine Gr.setCell ?_ ?_ _ | (with_reducible refine Gr.trans ?_ (by assumption)) | omega | (dsimp only; omega))⟩
      · rw [hr] at hRt
        have hRt := Lib.hid hRt
        have e := Lib.hid (writesOkB_no hkl (.inl hf))
        clear hf hr
        go_wp2_with fail
        refine wp_region_after (by kernel_rfl) (by kernel_rfl) ?_
        repeat (go_big_quiet_step ((first | (go_at_call 38; (with_reducible exact after_dr (hRt.out _))) | (go_at_call 39; (with_reducible exact after_dr (compare_any _ _ _ (by assumption) (by assumption)))))))
        refine wpQuiet_nil ?_
        rintro _ ⟨⟨w1, hg1⟩, rfl⟩
        go_wp2_with fail
        go_ret
        exact ⟨by rw [e.out]; rfl, by repeat (first | with_reducible exact Gr.refl _ | with_reducible refine Gr.drewN ?_ _ | with_reducible refine Gr.drew ?_ | with_reducible refine Gr.alloc ?_ _ | with_reducible refine Gr.setCell ?_ ?_ _ | (with_reducible refine Gr.trans ?_ (by assumption)) | omega | (dsimp only; omega))⟩
      · rw [hr] at hRt
        have hRt := Lib.hid hRt
        have e := Lib.hid (writesOkB_no hkl (.inl hf))
        clear hf hr
        have hv' : decide ((16 : Int) < ((wAt l k).val.size : Int)) = true := by simp; omega
        go_wp2_with fail
        refine wp_region_after (by kernel_rfl) (by kernel_rfl) ?_
        repeat (go_big_quiet_step ((first | (go_at_call 38; (with_reducible exact after_dr (hRt.out _))) | (go_at_call 39; (with_reducible exact after_dr (compare_any _ _ _ (by assumption) (by assumption)))))))
        refine wpQuiet_nil ?_
        rintro _ ⟨⟨w1, hg1⟩, rfl⟩
        go_wp2_with fail
        go_ret
        exact ⟨by rw [e.out]; rfl, by repeat (first | with_reducible exact Gr.refl _ | with_reducible refine Gr.drewN ?_ _ | with_reducible refine Gr.drew ?_ | with_reducible refine Gr.alloc ?_ _ | with_reducible refine Gr.setCell ?_ ?_ _ | (with_reducible refine Gr.trans ?_ (by assumption)) | omega | (dsimp only; omega))⟩
      · rw [hr] at hRt
        have hRt := Lib.hid hRt
        have e := Lib.hid (writesOkB_no hkl (.inl hf))
        clear hf hr
        have hv' : decide ((16 : Int) < ((wAt l k).val.size : Int)) = false := by simp; omega
        have hne := notEmpty hq2
        generalize (wAt l k).gone = g at *
        subst hq1
        go_wp2_with fail
        refine wp_region_after (by kernel_rfl) (by kernel_rfl) ?_
        repeat (go_big_quiet_step ((first | (go_at_call 38; (with_reducible exact after_dr (hRt.out _))) | (go_at_call 39; (with_reducible exact after_dr (compare_any _ _ _ (by assumption) (by assumption)))))))
        refine wpQuiet_nil ?_
        rintro _ ⟨⟨w1, hg1⟩, rfl⟩
        go_wp2_with fail
        go_ret
        exact ⟨by rw [e.out]; rfl, by repeat (first | with_reducible exact Gr.refl _ | with_reducible refine Gr.drewN ?_ _ | with_reducible refine Gr.drew ?_ | with_reducible refine Gr.alloc ?_ _ | with_reducible refine Gr.setCell ?_ ?_ _ | (with_reducible refine Gr.trans ?_ (by assumption)) | omega | (dsimp only; omega))⟩
    · obtain rfl : k = n := by omega
      have e : writesOkB l = true := by
        unfold writesOkB
        rw [decide_eq_true_iff]
        intro j hj
        exact hp.out j (by rw [H1.out.len] at hj; exact hj)
      have He := Lib.hid e
      clear e
      go_wp2
      go_ret
      exact ⟨by rw [He.out]; rfl, by repeat (first | with_reducible exact Gr.refl _ | with_reducible refine Gr.drewN ?_ _ | with_reducible refine Gr.drew ?_ | with_reducible refine Gr.alloc ?_ _ | with_reducible refine Gr.setCell ?_ ?_ _ | (with_reducible refine Gr.trans ?_ (by assumption)) | omega | (dsimp only; omega))⟩
end Go.Proofs.Ytopomocbjlikjaa

namespace Go.Proofs.Ytopomocbjlikjaa
set_option linter.unusedVariables false
set_option linter.unusedSimpArgs false
open Go.BigFrame Go.RowKit Go.WideShapes

/-- rows by a write -/
def stepL (l : List Rw) (r : Wt) : List Rw := if r.gone = true then dropL l r.key else if fitsB ⟨r.key, r.val⟩ = true then putL l ⟨r.key, r.val⟩ else l
/-- rows by writes, one behind the other -/
def overL (l : List Rw) (p : List Wt) : List Rw := p.foldl stepL l
theorem overL_snoc (l : List Rw) (p : List Wt) (r : Wt) : overL l (p ++ [r]) = stepL (overL l p) r := by unfold overL; rw [List.foldl_append]; rfl
theorem stepL_length (l : List Rw) (r : Wt) : (stepL l r).length ≤ l.length + 1 := by
  unfold stepL
  split
  · unfold dropL; split
    · rw [List.length_append, List.length_take, List.length_drop]; omega
    · omega
  · split
    · have := place_le r.key l
      unfold putL; simp only [List.length_append, List.length_take, List.length_drop, List.length_singleton]; split <;> omega
    · omega
theorem overL_length (l : List Rw) (p : List Wt) : (overL l p).length ≤ l.length + p.length := by
  induction p generalizing l with
  | nil => exact Nat.le_refl _
  | cons r p ih =>
    have h1 := ih (stepL l r)
    have h2 := stepL_length l r
    show (overL (stepL l r) p).length ≤ _
    simp only [List.length_cons]; omega
theorem overL_take {l : List Rw} {p : List Wt} {k : Nat} (h : k < p.length) : overL l (p.take (k + 1)) = stepL (overL l (p.take k)) (wAt p k) := by
  rw [List.take_succ_eq_append_getElem h, overL_snoc, wAt_lt h]

/-- a write's key stands ahead of another one's -/
def ltW (a b : Wt) : Prop := Str.before (Tx a.key) (Tx b.key) = true
theorem writesOkB_iff (l : List Wt) : writesOkB l = true → (∀ r ∈ l, wfits r = true) ∧ l.Pairwise ltW := by
  unfold writesOkB
  rw [decide_eq_true_iff]
  intro h
  refine ⟨fun r hr => ?_, ?_⟩
  · obtain ⟨i, hi, rfl⟩ := List.getElem_of_mem hr
    have := (h i hi).1
    rwa [wAt_lt hi] at this
  · rw [List.pairwise_iff_getElem]
    have key : ∀ d i, i + d + 1 < l.length → ltW (wAt l i) (wAt l (i + d + 1)) := by
      intro d
      induction d with
      | zero =>
        intro i hi
        have := (h (i + 1) hi).2 (by omega)
        rw [Nat.add_sub_cancel] at this
        exact Str.cmp_neg_iff.1 this
      | succ d ih =>
        intro i hi
        have h1 := ih i (by omega)
        have h2 := (h (i + (d + 1) + 1) hi).2 (by omega)
        exact Str.before_trans h1 (Str.cmp_neg_iff.1 h2)
    intro i j hi hj hij
    have := key (j - i - 1) i (by omega)
    rw [show i + (j - i - 1) + 1 = j by omega, wAt_lt hi, wAt_lt hj] at this
    exact this
theorem wfits_row {r : Wt} (h : wfits r = true) : fitsB ⟨r.key, r.val⟩ = true := by
  unfold wfits at h
  unfold fitsB
  simp only [Bool.and_eq_true] at h ⊢
  exact h.1
/-- one write: what it leaves -/
theorem step_keeps {l : List Rw} {r : Wt} (h : rowsOkB l = true) (hf : wfits r = true) :
    rowsOkB (stepL l r) = true ∧ look r.key (stepL l r) = (if r.gone = true then none else some ⟨r.key, r.val⟩) ∧ ∀ other, other ≠ r.key → look other (stepL l r) = look other l := by
  have hr := wfits_row hf
  obtain ⟨k1, k2, k3, k4, k5, -, k7⟩ := keeps h hr
  unfold stepL
  cases hg : r.gone
  · rw [if_neg (by decide), if_pos hr, if_neg (by decide)]
    refine ⟨k1, ?_, fun o ho => (k7 o ho).1⟩
    rw [look_spec ((rowsOkB_iff _).1 k1).2, if_pos k3]
    exact congrArg some k4
  · rw [if_pos rfl, if_pos rfl]
    refine ⟨k2, ?_, fun o ho => (k7 o ho).2⟩
    rw [look_spec ((rowsOkB_iff _).1 k2).2, if_neg]
    rw [k5]; decide
/-- a key's write -/
def wlook (key : ByteArray) (p : List Wt) : Option Wt := p.find? (fun r => decide (r.key = key))
/-- what rows by writes have -/
theorem over_look {l : List Rw} {p : List Wt} (h : rowsOkB l = true) (hp : writesOkB p = true) (key : ByteArray) :
    rowsOkB (overL l p) = true ∧ look key (overL l p) = (match wlook key p with | some r => if r.gone = true then none else some ⟨r.key, r.val⟩ | none => look key l) := by
  obtain ⟨h1, h2⟩ := writesOkB_iff p hp
  clear hp
  induction p generalizing l with
  | nil => exact ⟨h, rfl⟩
  | cons r p ih =>
    rw [List.pairwise_cons] at h2
    obtain ⟨s1, s2, s3⟩ := step_keeps h (h1 r (by simp))
    obtain ⟨i1, i2⟩ := ih s1 (fun q hq => h1 q (by simp [hq])) h2.2
    refine ⟨i1, ?_⟩
    show look key (overL (stepL l r) p) = _
    rw [i2]
    by_cases e : r.key = key
    · have hn : wlook key p = none := by
        unfold wlook
        rw [List.find?_eq_none]
        intro q hq c
        rw [decide_eq_true_iff] at c
        have := h2.1 q hq
        unfold ltW at this
        rw [c, e, Str.before_irrefl] at this; cases this
      have hy : wlook key (r :: p) = some r := by unfold wlook; simp [e]
      rw [hn, hy, ← e]
      exact s2
    · have hy : wlook key (r :: p) = wlook key p := by unfold wlook; simp [e]
      rw [hy, s3 key (fun c => e c.symm)]
end Go.Proofs.Ytopomocbjlikjaa
