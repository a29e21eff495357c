import Derived.Test.YtfejdbcfcpmdiaaDoorStrz
import Derived.Maps.AppendAt
import Derived.Laws.AppendOwnNone
namespace Go.Proofs.YtfejdbcfcpmdiaaDoor
set_option linter.unusedVariables false
set_option linter.unusedSimpArgs false
open Go.RowKit

/-! Slices of whatever elements (k cells each), elements that lead to further memory among them; such slices of the call's own, with an append. -/
/-- w' has all cells of w -/
structure Ex (w w' : World) : Prop where
  cell : ∀ b o v, w.cell? ⟨b, o, none⟩ = some v → w'.cell? ⟨b, o, none⟩ = some v
  size : w.heap.size ≤ w'.heap.size
theorem Ex.refl (w : World) : Ex w w := ⟨fun _ _ _ h => h, Nat.le_refl _⟩
theorem Ex.trans {a b c : World} (h : Ex a b) (k : Ex b c) : Ex a c := ⟨fun x o v q => k.cell x o v (h.cell x o v q), Nat.le_trans h.size k.size⟩
theorem Gr.ex {w w' : World} (h : Gr w w') : Ex w w' := ⟨fun _ _ _ q => h.keep q, h.le⟩
theorem cell_lt {w : World} {b o : Nat} {v : Value} (h : w.cell? ⟨b, o, none⟩ = some v) : b < w.heap.size := by
  rcases Nat.lt_or_ge b w.heap.size with k | k
  · exact k
  · unfold World.cell? at h
    rw [show w.heap[b]? = none from Array.getElem?_eq_none k] at h
    simp at h
theorem cell_of_block {w w' : World} {b : Nat} (h : w'.heap[b]? = w.heap[b]?) (o : Nat) : w'.cell? ⟨b, o, none⟩ = w.cell? ⟨b, o, none⟩ := by
  unfold World.cell?; rw [h]
theorem add_off (b off k : Nat) : (⟨b, off, none⟩ : Addr).add k = ⟨b, off + k, none⟩ := by unfold Addr.add; split <;> simp_all
/-- the world without the cells of one block -/
def hideB (w : World) : Option Nat → World
  | none => w
  | some g => { w with heap := w.heap.setIfInBounds g (.cells #[] 0 (0, 0)) }
theorem hideB_size (w : World) (r : Option Nat) : (hideB w r).heap.size = w.heap.size := by
  cases r with
  | none => rfl
  | some g => simp [hideB]
theorem hideB_cell {w : World} {r : Option Nat} {b o : Nat} {v : Value} : (hideB w r).cell? ⟨b, o, none⟩ = some v ↔ r ≠ some b ∧ w.cell? ⟨b, o, none⟩ = some v := by
  cases r with
  | none => simp [hideB]
  | some g =>
    by_cases e : g = b
    · subst e
      simp only [ne_eq, not_true_eq_false, false_and, iff_false]
      intro h
      have hlt := cell_lt h
      rw [hideB_size] at hlt
      unfold World.cell? hideB at h
      simp only [Array.getElem?_setIfInBounds] at h
      rw [if_pos trivial, if_pos hlt] at h
      simp at h
    · have : (hideB w (some g)).heap[b]? = w.heap[b]? := by
        simp only [hideB, Array.getElem?_setIfInBounds]
        rw [if_neg e]
      rw [cell_of_block this o]
      simp [e]
theorem hideB_ex (w : World) (r : Option Nat) : Ex (hideB w r) w := ⟨fun _ _ _ h => (hideB_cell.1 h).2, by rw [hideB_size]; exact Nat.le_refl _⟩
theorem hideB_gr {w w' : World} (h : Gr w w') (r : Option Nat) : Ex (hideB w r) (hideB w' r) :=
  ⟨fun b o v q => hideB_cell.2 ⟨(hideB_cell.1 q).1, h.keep (hideB_cell.1 q).2⟩, by rw [hideB_size, hideB_size]; exact h.le⟩
theorem hideB_grown {w w' : World} {r r' : Option Nat} (h : w.grownBy w' r) (hr : r' = r ∨ r' = some w.heap.size) : Ex (hideB w r) (hideB w' r') := by
  refine ⟨fun b o v q => ?_, by rw [hideB_size, hideB_size]; exact h.size⟩
  obtain ⟨q1, q2⟩ := hideB_cell.1 q
  have hlt := cell_lt q2
  refine hideB_cell.2 ⟨?_, ?_⟩
  · rcases hr with rfl | rfl
    · exact q1
    · intro e; simp only [Option.some.injEq] at e; omega
  · rw [cell_of_block (h.block b hlt (fun e => q1 e.symm)) o]; exact q2
/-- what lies in an older world lies beside a younger block -/
theorem ex_hide {w w' : World} (h : Ex w w') {r : Option Nat} (hr : ∀ g, r = some g → w.heap.size ≤ g) : Ex w (hideB w' r) :=
  ⟨fun b o v q => hideB_cell.2 ⟨fun e => by have := hr b e; have := cell_lt q; omega, h.cell b o v q⟩, by rw [hideB_size]; exact h.size⟩

/-- how an element stands in a world as cells -/
abbrev EP (α : Type) := World → α → List Value → Prop
def Mono {α : Type} (E : EP α) : Prop := ∀ w w' x vs, Ex w w' → E w x vs → E w' x vs
/-- the slice '.slice oa n cap' holds these elements, k cells each -/
structure SlE {α : Type} (E : EP α) (k : Nat) (w : World) (oa : Option Addr) (n cap : Nat) (l : List α) : Prop where
  len : l.length = n
  cap_le : n ≤ cap
  cap_max : cap ≤ maxLen
  none : oa = none → cap = 0
  cells : ∃ b off, (0 < n → oa = some ⟨b, off, Option.none⟩ ∧ b < w.heap.size) ∧ ∀ (i : Nat) (x : α), l[i]? = some x → ∃ vs : List Value, vs.length = k ∧ (∀ u ∈ vs, u.oneCell' = true) ∧ E w x vs ∧ ∀ j u, vs[j]? = some u → w.cell? ⟨b, off + i * k + j, Option.none⟩ = some u
theorem SlE.ex {α : Type} {E : EP α} (hE : Mono E) {k : Nat} {w w' : World} {oa : Option Addr} {n cap : Nat} {l : List α} (h : SlE E k w oa n cap l) (hg : Ex w w') : SlE E k w' oa n cap l := by
  obtain ⟨h1, h2, h3, h4, b, off, h5, h6⟩ := h
  refine ⟨h1, h2, h3, h4, b, off, fun q => ⟨(h5 q).1, Nat.lt_of_lt_of_le (h5 q).2 hg.size⟩, fun i x hi => ?_⟩
  obtain ⟨vs, e1, e2, e3, e4⟩ := h6 i x hi
  exact ⟨vs, e1, e2, hE _ _ _ _ hg e3, fun j u hj => hg.cell _ _ _ (e4 j u hj)⟩
theorem SlE.keep {α : Type} {E : EP α} (hE : Mono E) {k : Nat} {w w' : World} {oa : Option Addr} {n cap : Nat} {l : List α} (h : SlE E k w oa n cap l) (hg : Gr w w') : SlE E k w' oa n cap l := h.ex hE hg.ex
theorem SlE.nil {α : Type} (E : EP α) (k : Nat) (w : World) : SlE E k w Option.none 0 0 [] :=
  ⟨rfl, Nat.le_refl _, Nat.zero_le _, fun _ => rfl, 0, 0, fun q => absurd q (by omega), fun i x hi => by simp at hi⟩
/-- a slice of slices and the like: the element is a slice of its own -/
def inSl {α : Type} (E : EP α) (k : Nat) : EP (List α) := fun w l vs => ∃ oa n cap, vs = [.slice oa n cap] ∧ SlE E k w oa n cap l
theorem inSl_mono {α : Type} {E : EP α} (hE : Mono E) (k : Nat) : Mono (inSl E k) := fun w w' x vs hg ⟨oa, n, cap, e, h⟩ => ⟨oa, n, cap, e, h.ex hE hg⟩
/-- one element in a block -/
theorem SlE.one {α : Type} {E : EP α} {k : Nat} {w : World} {b off cap : Nat} {x : α} {vs : List Value} (hk : 0 < k) (hc : 1 ≤ cap) (hm : cap ≤ maxLen) (hl : vs.length = k) (h1 : ∀ u ∈ vs, u.oneCell' = true) (hx : E w x vs)
    (hv : ∀ j u, vs[j]? = some u → w.cell? ⟨b, off + j, Option.none⟩ = some u) : SlE E k w (some ⟨b, off, Option.none⟩) 1 cap [x] := by
  have hb : b < w.heap.size := cell_lt (hv 0 (vs[0]'(by omega)) (List.getElem?_eq_getElem _))
  refine ⟨rfl, hc, hm, fun q => (by cases q), b, off, fun _ => ⟨rfl, hb⟩, fun i y hi => ?_⟩
  obtain rfl : i = 0 := by
    have := (List.getElem?_eq_some_iff.1 hi).1
    simp at this; exact this
  obtain rfl : x = y := by simpa using hi
  exact ⟨vs, hl, h1, hx, by simpa using hv⟩

/-- the slice is of the call's own, from block base on, and holds these elements, whose further memory lies beside it -/
structure OwnS {α : Type} (E : EP α) (k : Nat) (T : TypeId) (w : World) (base : Nat) (oa : Option Addr) (n cap : Nat) (l : List α) : Prop where
  len : l.length = n
  row : ∃ vss : List (List Value), vss.length = n ∧ (∀ vs ∈ vss, vs.length = k ∧ ∀ u ∈ vs, u.oneCell' = true) ∧ w.ownsRow base T k (.slice oa n cap) n vss.flatten ∧
    ∀ (i : Nat) (x : α) (vs : List Value), l[i]? = some x → vss[i]? = some vs → E (hideB w (Value.ownBlock (.slice oa n cap))) x vs
theorem flatten_get {vss : List (List Value)} {k : Nat} (hk : ∀ vs ∈ vss, vs.length = k) {i j : Nat} {vs : List Value} (hi : vss[i]? = some vs) (hj : j < k) : vss.flatten[i * k + j]? = vs[j]? := by
  induction vss generalizing i with
  | nil => simp at hi
  | cons a r ih =>
    have ha : a.length = k := hk a (by simp)
    cases i with
    | zero =>
      simp only [List.getElem?_cons_zero, Option.some.injEq] at hi
      subst hi
      rw [Nat.zero_mul, Nat.zero_add, List.flatten_cons, List.getElem?_append_left (by omega)]
    | succ i =>
      rw [List.flatten_cons, List.getElem?_append_right (by rw [Nat.add_mul]; omega), ha, show (i + 1) * k + j - k = i * k + j by rw [Nat.add_mul]; omega]
      exact ih (fun vs h => hk vs (by simp [h])) (by simpa using hi)
theorem flatten_len {vss : List (List Value)} {k : Nat} (hk : ∀ vs ∈ vss, vs.length = k) : vss.flatten.length = vss.length * k := by
  induction vss with
  | nil => simp
  | cons a r ih => rw [List.flatten_cons, List.length_append, hk a (by simp), ih (fun vs h => hk vs (by simp [h])), List.length_cons, Nat.add_mul]; omega
theorem OwnS.sl {α : Type} {E : EP α} (hE : Mono E) {k : Nat} {T : TypeId} {w : World} {base : Nat} {oa : Option Addr} {n cap : Nat} {l : List α} (h : OwnS E k T w base oa n cap l) : SlE E k w oa n cap l := by
  obtain ⟨hl, vss, h1, h2, ⟨h3, h4⟩, h5⟩ := h
  rcases h4 with ⟨e, rfl⟩ | ⟨g, cp, cur, e, hb, hg, hnc, hm, hsz, ht⟩
  · simp only [Value.slice.injEq] at e
    obtain ⟨rfl, -, rfl⟩ := e
    obtain rfl : l = [] := List.length_eq_zero_iff.1 hl
    exact SlE.nil E k w
  · simp only [Value.slice.injEq, true_and] at e
    obtain ⟨rfl, rfl⟩ := e
    have hgl : g < w.heap.size := by
      rcases Nat.lt_or_ge g w.heap.size with q | q
      · exact q
      · rw [Array.getElem?_eq_none q] at hg; cases hg
    refine ⟨hl, hnc, hm, fun q => (by cases q), g, 0, fun _ => ⟨rfl, hgl⟩, fun i x hi => ?_⟩
    have hil : i < n := by have := (List.getElem?_eq_some_iff.1 hi).1; omega
    have hv : vss[i]? = some (vss[i]'(by omega)) := List.getElem?_eq_getElem _
    obtain ⟨q1, q2⟩ := h2 (vss[i]'(by omega)) (List.getElem_mem _)
    refine ⟨vss[i]'(by omega), q1, q2, hE _ _ _ _ (hideB_ex _ _) (h5 i x _ hi hv), fun j u hj => ?_⟩
    have hjk : j < k := by have := (List.getElem?_eq_some_iff.1 hj).1; omega
    have hf := flatten_get (fun vs h => (h2 vs h).1) hv hjk
    rw [hj, ← ht] at hf
    have hb2 : i * k + j < n * k := by
      have : (i + 1) * k ≤ n * k := Nat.mul_le_mul_right k hil
      rw [Nat.add_mul] at this; omega
    rw [List.getElem?_take_of_lt hb2] at hf
    unfold World.cell?
    rw [hg]
    simpa using hf
theorem OwnS.nil {α : Type} (E : EP α) (k : Nat) (T : TypeId) (w : World) (base : Nat) : OwnS E k T w base none 0 0 [] :=
  ⟨rfl, [], rfl, fun _ h => (by cases h), ⟨by simp, .inl ⟨rfl, rfl⟩⟩, fun i x vs h => by simp at h⟩
/-- an empty one in a new block -/
theorem OwnS.fresh {α : Type} (E : EP α) (k : Nat) (T : TypeId) {w : World} {b base : Nat} (hb : b = w.heap.size) (h : base ≤ b) : OwnS E k T (w.alloc (.cells #[] T)) base (some ⟨b, 0, none⟩) 0 0 [] := by
  subst hb
  exact ⟨rfl, [], rfl, fun _ h => (by cases h), ⟨by simp, .inr ⟨w.heap.size, 0, #[], rfl, h, (by show (w.heap.push (.cells #[] T))[w.heap.size]? = _; simp), Nat.le_refl _, Nat.zero_le _, (by simp), (by simp)⟩⟩, fun i x vs h => by simp at h⟩
theorem OwnS.lower {α : Type} {E : EP α} {k : Nat} {T : TypeId} {w : World} {base base2 : Nat} {oa : Option Addr} {n cap : Nat} {l : List α} (h : OwnS E k T w base oa n cap l) (hb : base2 ≤ base) : OwnS E k T w base2 oa n cap l := by
  obtain ⟨hl, vss, h1, h2, ⟨h3, h4⟩, h5⟩ := h
  refine ⟨hl, vss, h1, h2, ⟨h3, ?_⟩, h5⟩
  rcases h4 with e | ⟨g, cp, cur, e, hg, rest⟩
  · exact .inl e
  · exact .inr ⟨g, cp, cur, e, Nat.le_trans hb hg, rest⟩
theorem OwnS.keep {α : Type} {E : EP α} (hE : Mono E) {k : Nat} {T : TypeId} {w w' : World} {base : Nat} {oa : Option Addr} {n cap : Nat} {l : List α} (h : OwnS E k T w base oa n cap l) (hg : Gr w w') : OwnS E k T w' base oa n cap l := by
  obtain ⟨hl, vss, h1, h2, ⟨h3, h4⟩, h5⟩ := h
  refine ⟨hl, vss, h1, h2, ⟨h3, ?_⟩, fun i x vs hi hv => hE _ _ _ _ (hideB_gr hg _) (h5 i x vs hi hv)⟩
  rcases h4 with e | ⟨g, cp, cur, e, hb, hcur, rest⟩
  · exact .inl e
  · refine .inr ⟨g, cp, cur, e, hb, ?_, rest⟩
    have hlt : g < w.heap.size := by
      rcases Nat.lt_or_ge g w.heap.size with q | q
      · exact q
      · rw [Array.getElem?_eq_none q] at hcur; cases hcur
    rw [hg.block g hlt]; exact hcur
/-- where a slice of one's own lies -/
theorem OwnS.lt {α : Type} {E : EP α} {k : Nat} {T : TypeId} {w : World} {base : Nat} {oa : Option Addr} {n cap : Nat} {l : List α} (h : OwnS E k T w base oa n cap l) : ∀ g, Value.ownBlock (.slice oa n cap) = some g → base ≤ g ∧ g < w.heap.size := by
  obtain ⟨hl, vss, h1, h2, ⟨h3, h4⟩, h5⟩ := h
  intro g hg
  rcases h4 with ⟨e, -⟩ | ⟨g', cp, cur, e, hb, hcur, rest⟩
  · rw [e] at hg; simp [Value.ownBlock] at hg
  · rw [e] at hg
    simp only [Value.ownBlock, Option.some.injEq] at hg
    subst hg
    refine ⟨hb, ?_⟩
    rcases Nat.lt_or_ge g' w.heap.size with q | q
    · exact q
    · rw [Array.getElem?_eq_none q] at hcur; cases hcur
theorem OwnS.gr {α : Type} {E : EP α} {k : Nat} {T : TypeId} {w0 w w' : World} {base : Nat} {oa : Option Addr} {n cap : Nat} {l : List α} (hown : OwnS E k T w base oa n cap l) (hg : w.grownBy w' (Value.ownBlock (.slice oa n cap))) (hw : Gr w0 w) (hb : w0.heap.size ≤ base) : Gr w0 w' :=
  Below.grown hw hg hw.le (fun q hq => Nat.le_trans hb (hown.lt q hq).1)

section
variable {P : Program} {α : Type} {E : EP α} {k : Nat} {T S : TypeId}
/-- the facts of the table that an append wants -/
structure SlT (P : Program) (S T : TypeId) (k bytes : Nat) : Prop where
  under : P.underlying S = some (.slice T)
  info : ∃ i z, P.info? T = some i ∧ i.zero = some z ∧ i.size = k ∧ i.bytes = bytes ∧ z.cells.size = k
  pos : 0 < k
theorem run_app (hE : Mono E) {bytes : Nat} (hT : SlT P S T k bytes) {w : World} (ty : TypeId) {base : Nat} (hbase : base ≤ w.heap.size) {oa : Option Addr} {n cap : Nat} {l : List α} (hown : OwnS E k T w base oa n cap l)
    {ob : Option Addr} {m cap2 : Nat} {src : List α} (hsrc : SlE E k (hideB w (Value.ownBlock (.slice oa n cap))) ob m cap2 src) (h63 : n + m ≤ maxLen) (hby : (n + m) * bytes ≤ 140737488355328) :
    ∃ oc cap3 w', (Builtin.append_ #[S, S] ty #[.slice oa n cap, .slice ob m cap2]).run P w = .ok (.slice oc (n + m) cap3) w' ∧ OwnS E k T w' base oc (n + m) cap3 (l ++ src) ∧ w.grownBy w' (Value.ownBlock (.slice oa n cap)) := by
  obtain ⟨hu, ⟨i, z, hi, hz, hsi, hbi, hzc⟩, hk⟩ := hT
  have hsrcw := hsrc.ex hE (hideB_ex _ _)
  have main : ∀ a, ob = some a → a.spot = none → (∃ b off, a = ⟨b, off, none⟩ ∧ ∀ j x, src[j]? = some x → ∃ vs : List Value, vs.length = k ∧ (∀ u ∈ vs, u.oneCell' = true) ∧ E (hideB w (Value.ownBlock (.slice oa n cap))) x vs ∧ ∀ q u, vs[q]? = some u → w.cell? ⟨b, off + j * k + q, Option.none⟩ = some u) →
      ∃ oc cap3 w', (Builtin.append_ #[S, S] ty #[.slice oa n cap, .slice ob m cap2]).run P w = .ok (.slice oc (n + m) cap3) w' ∧ OwnS E k T w' base oc (n + m) cap3 (l ++ src) ∧ w.grownBy w' (Value.ownBlock (.slice oa n cap)) := by
    rintro a rfl hsp ⟨b, off, rfl, hcs⟩
    obtain ⟨hl, vss, h1, h2, hrow, h5⟩ := hown
    -- the cells of what is appended
    have hch : ∃ uss : List (List Value), uss.length = m ∧ ∀ j x us, src[j]? = some x → uss[j]? = some us → us.length = k ∧ (∀ u ∈ us, u.oneCell' = true) ∧ E (hideB w (Value.ownBlock (.slice oa n cap))) x us ∧ ∀ q u, us[q]? = some u → w.cell? ⟨b, off + j * k + q, Option.none⟩ = some u := by
      refine ⟨(List.range m).map fun j => if hj : j < src.length then Classical.choose (hcs j src[j] (List.getElem?_eq_getElem hj)) else [], by simp, fun j x us hj hu => ?_⟩
      obtain ⟨hjl, hx⟩ := List.getElem?_eq_some_iff.1 hj
      rw [List.getElem?_map, List.getElem?_range (by rw [← hsrc.len]; exact hjl)] at hu
      simp only [Option.map_some, Option.some.injEq, dif_pos hjl] at hu
      subst hu
      have := Classical.choose_spec (hcs j src[j] (List.getElem?_eq_getElem hjl))
      rw [← hx]
      exact this
    obtain ⟨uss, hul, hus⟩ := hch
    have hus2 : ∀ us ∈ uss, us.length = k ∧ ∀ u ∈ us, u.oneCell' = true := fun us hm => by
      obtain ⟨j, hjl, rfl⟩ := List.mem_iff_getElem.1 hm
      have hjs : j < src.length := by rw [hsrc.len]; omega
      have := hus j src[j] uss[j] (List.getElem?_eq_getElem hjs) (List.getElem?_eq_getElem hjl)
      exact ⟨this.1, this.2.1⟩
    obtain ⟨v', w', hr, ho, hg, hnil, hloc⟩ := run_append_own_at (P := P) w base S ty T i z k bytes hu hi hz hsi hbi hzc hk (.slice oa n cap) n vss.flatten hrow ⟨b, off, none⟩ m cap2 uss.flatten (by rw [flatten_len (fun us h => (hus2 us h).1), hul])
      (by
        intro j u hj
        have hjl := (List.getElem?_eq_some_iff.1 hj).1
        rw [flatten_len (fun us h => (hus2 us h).1), hul] at hjl
        have hq : j / k < m := Nat.div_lt_of_lt_mul (by rw [Nat.mul_comm]; exact hjl)
        have hjs : j / k < src.length := by rw [hsrc.len]; exact hq
        have hju : j / k < uss.length := by rw [hul]; exact hq
        have e : j = j / k * k + j % k := by rw [Nat.mul_comm]; exact (Nat.div_add_mod j k).symm
        have hm2 := Nat.mod_lt j hk
        have hf := flatten_get (fun us h => (hus2 us h).1) (List.getElem?_eq_getElem hju) hm2
        rw [← e, hj] at hf
        have hcell := (hus (j / k) src[j / k] uss[j / k] (List.getElem?_eq_getElem hjs) (List.getElem?_eq_getElem hju)).2.2.2 (j % k) u hf.symm
        have ha := add_off b off j
        rw [ha]
        have e2 : off + j / k * k + j % k = off + j := by omega
        rw [e2] at hcell
        exact hcell)
      (by
        intro u hm
        obtain ⟨us, h1, h2⟩ := List.mem_flatten.1 hm
        exact (hus2 us h1).2 u h2) h63 hby hbase
    have hv' : ∃ oc cap3, v' = .slice oc (n + m) cap3 := by
      rcases ho.2 with ⟨e, hn0⟩ | ⟨g, cp, cur, e, rest⟩
      · exact ⟨none, 0, by rw [e, hn0]⟩
      · exact ⟨_, _, e⟩
    obtain ⟨oc, cap3, rfl⟩ := hv'
    refine ⟨oc, cap3, w', hr, ⟨by rw [List.length_append, hl, hsrc.len], vss ++ uss, by simp [h1, hul], fun vs hv => ?_, by rw [List.flatten_append]; exact ho, fun j x vs hj hv => ?_⟩, hg⟩
    · rcases List.mem_append.1 hv with q | q
      · exact h2 vs q
      · exact hus2 vs q
    · refine hE _ _ _ _ (hideB_grown hg hloc) ?_
      rcases Nat.lt_or_ge j n with q | q
      · rw [List.getElem?_append_left (by omega)] at hj hv
        exact h5 j x vs hj hv
      · rw [List.getElem?_append_right (by omega)] at hj hv
        rw [hl] at hj
        rw [h1] at hv
        exact (hus _ x vs hj hv).2.2.1
  obtain ⟨b, off, hb, hc⟩ := hsrc.cells
  cases hob : ob with
  | none =>
    have hcap2 := hsrc.none hob
    have hm : m = 0 := by have := hsrc.cap_le; omega
    subst hm hcap2
    have hs0 : src = [] := List.length_eq_zero_iff.1 hsrc.len
    subst hs0
    obtain ⟨hl, vss, h1, h2, hrow, h5⟩ := hown
    have hrun := run_append_owned_none (P := P) (w := w) base S ty T i k hu hi _ n vss.flatten hrow
    exact ⟨oa, cap, w, by simpa using hrun, by simpa using ⟨hl, vss, h1, h2, hrow, h5⟩, ⟨rfl, rfl, rfl, Nat.le_refl _, fun _ _ _ => rfl⟩⟩
  | some ad =>
    rcases Nat.eq_zero_or_pos m with hm | hm
    · subst hm
      have hs0 : src = [] := List.length_eq_zero_iff.1 hsrc.len
      subst hs0
      obtain ⟨hl, vss, h1, h2, hrow, h5⟩ := hown
      obtain ⟨v', w', hr, ho, hg, hnil, hloc⟩ := run_append_own_at (P := P) w base S ty T i z k bytes hu hi hz hsi hbi hzc hk (.slice oa n cap) n vss.flatten hrow ad 0 cap2 [] (by simp) (by intro j u hj; simp at hj) (by intro u hu; cases hu) h63 hby hbase
      have hv' : ∃ oc cap3, v' = .slice oc (n + 0) cap3 := by
        rcases ho.2 with ⟨e, hn0⟩ | ⟨g, cp, cur, e, rest⟩
        · exact ⟨none, 0, by rw [e, hn0]⟩
        · exact ⟨_, _, e⟩
      obtain ⟨oc, cap3, rfl⟩ := hv'
      refine ⟨oc, cap3, w', hr, ⟨by simpa using hl, vss, h1, h2, by simpa using ho, fun j x vs hj hv => hE _ _ _ _ (hideB_grown hg hloc) (h5 j x vs (by simpa using hj) hv)⟩, hg⟩
    · obtain ⟨e, hbl⟩ := hb hm
      rw [hob] at e
      simp only [Option.some.injEq] at e
      rw [← hob]
      refine main ad hob (by rw [e]) ⟨b, off, e, fun j x hj => ?_⟩
      obtain ⟨vs, q1, q2, q3, q4⟩ := hc j x hj
      exact ⟨vs, q1, q2, q3, fun q u hq => (hideB_cell.1 (q4 q u hq)).2⟩
theorem wp_app (hE : Mono E) {bytes : Nat} (hT : SlT P S T k bytes) {w : World} {o : Oper} {a : Act} {K : Act → World → Prop} {Q : Exit → Act → World → Prop} (s x : Operand)
    (ho : o.op = .call { callee := .builtin .append, args := #[s, x], argTypes := #[S, S] })
    {base : Nat} (hbase : base ≤ w.heap.size) {oa : Option Addr} {n cap : Nat} {l : List α} (hs : a.eval s = .slice oa n cap) (hown : OwnS E k T w base oa n cap l)
    {ob : Option Addr} {m cap2 : Nat} {src : List α} (hx : a.eval x = .slice ob m cap2) (hsrc : SlE E k (hideB w (Value.ownBlock (.slice oa n cap))) ob m cap2 src) (h63 : n + m ≤ maxLen) (hby : (n + m) * bytes ≤ 140737488355328)
    (h : ∀ oc cap3 w', OwnS E k T w' base oc (n + m) cap3 (l ++ src) → w.grownBy w' (Value.ownBlock (.slice oa n cap)) → K (a.put o.dst (.slice oc (n + m) cap3)) w') : Oper.wp P o a w K Q := by
  obtain ⟨oc, cap3, w', hr, h1, h2⟩ := run_app hE hT (w := w) o.type hbase hown hsrc h63 hby
  have := h oc cap3 w' h1 h2
  unfold Oper.wp execOp
  simp only [ho, resolve, invoke, builtin, Sem.run_bind, Sem.run_pure, Result.andThen_ok, List.map_toArray, List.map_cons, List.map_nil, hs, hx, hr]
  exact this
theorem wpList_app (hE : Mono E) {bytes : Nat} (hT : SlT P S T k bytes) {w : World} {ops : Array Oper} {rest : List Oper} {o : Oper} {a : Act} {Q : Exit → Act → World → Prop} (hgd : o.guard = none) (s x : Operand)
    (ho : o.op = .call { callee := .builtin .append, args := #[s, x], argTypes := #[S, S] })
    {base : Nat} (hbase : base ≤ w.heap.size) {oa : Option Addr} {n cap : Nat} {l : List α} (hs : a.eval s = .slice oa n cap) (hown : OwnS E k T w base oa n cap l)
    {ob : Option Addr} {m cap2 : Nat} {src : List α} (hx : a.eval x = .slice ob m cap2) (hsrc : SlE E k (hideB w (Value.ownBlock (.slice oa n cap))) ob m cap2 src) (h63 : n + m ≤ maxLen) (hby : (n + m) * bytes ≤ 140737488355328)
    (h : ∀ oc cap3 w', OwnS E k T w' base oc (n + m) cap3 (l ++ src) → w.grownBy w' (Value.ownBlock (.slice oa n cap)) → wpList P ops Q rest (a.put o.dst (.slice oc (n + m) cap3)) w') : wpList P ops Q (o :: rest) a w :=
  wpList_plain hgd fun _ hK => wp_app hE hT s x ho hbase hs hown hx hsrc h63 hby fun oc cap3 w' h1 h2 => hK _ _ (h oc cap3 w' h1 h2)
theorem step_app (hE : Mono E) {bytes : Nat} (hT : SlT P S T k bytes) {w : World} {ops : Array Oper} {o : Oper} {a : Act} {K : Act → World → Prop} {Q : Exit → Act → World → Prop} {Z : Prop} (hgd : o.guard = none) (s x : Operand)
    (ho : o.op = .call { callee := .builtin .append, args := #[s, x], argTypes := #[S, S] })
    {base : Nat} (hbase : base ≤ w.heap.size) {oa : Option Addr} {n cap : Nat} {l : List α} (hs : a.eval s = .slice oa n cap) (hown : OwnS E k T w base oa n cap l)
    {ob : Option Addr} {m cap2 : Nat} {src : List α} (hx : a.eval x = .slice ob m cap2) (hsrc : SlE E k (hideB w (Value.ownBlock (.slice oa n cap))) ob m cap2 src) (h63 : n + m ≤ maxLen) (hby : (n + m) * bytes ≤ 140737488355328)
    (h : ∀ oc cap3 w', OwnS E k T w' base oc (n + m) cap3 (l ++ src) → w.grownBy w' (Value.ownBlock (.slice oa n cap)) → K (a.put o.dst (.slice oc (n + m) cap3)) w') : if Region.wanted o (yielded ops a.tmps) = true then Oper.wp P o a w K Q else Z := by
  have hw : Region.wanted o (yielded ops a.tmps) = true := by simp [Region.wanted, hgd]
  rw [if_pos hw]
  exact wp_app hE hT s x ho hbase hs hown hx hsrc h63 hby h
end
end Go.Proofs.YtfejdbcfcpmdiaaDoor
