import Derived.Test.YtopomocbjlikjaaAl20z
import Derived.Test.YtopomocbjlikjaaMp20z
namespace Go.Proofs.Ytopomocbjlikjaa
set_option linter.unusedVariables false
set_option linter.unusedSimpArgs false
open Go.BigFrame Go.RowKit Go.WideShapes Go.Maps

/-! The map of trips by number (serial.States). -/
abbrev mapTr : TypeId := 78
abbrev MapIs (w : World) (b n : Nat) (f : List (Int × Value)) : Prop := w.ownsMap Try.prog 3 heldR b n (mapD f)
theorem trip_zero (w : World) : (zeroValue 46).run Try.prog w = .ok (.agg zT.toArray) w := by kernel_rfl
theorem MapIs.look {w : World} {b n : Nat} {f : List (Int × Value)} (h : MapIs w b n f) {k : Int} (hk : (Lit.int .i64 k).wf = true) :
    (Instr.lookup mapTr (.map (some b)) (.int .i64 k) true).run Try.prog w = .ok (.tuple #[(lk f k).getD (.agg zT.toArray), .bool (lk f k).isSome]) w := by
  obtain ⟨v, ps, h1, h2⟩ := h.look_ok (int_keyed Try.underlying3) Try.underlying78 (trip_zero w) (zd := .held (.agg zT.toArray)) (zp := []) rfl (keyOf_int_mk Try.underlying3 hk)
  obtain ⟨e1, e2⟩ := mapD_look f k
  rw [e1] at h1
  rw [e2] at h2
  have hv : v = (lk f k).getD (.agg zT.toArray) := by
    cases hl : lk f k with
    | none =>
      rw [hl] at h2
      simp only [heldR, Option.map_none, Option.getD_none, Option.some.injEq, Prod.mk.injEq, DataW.held.injEq] at h2
      exact h2.1
    | some u =>
      rw [hl] at h2
      simp only [heldR, Option.map_some, Option.getD_some, Option.some.injEq, Prod.mk.injEq, DataW.held.injEq] at h2
      exact h2.1
  rw [← hv]
  exact h1
theorem MapIs.put {w : World} {b n : Nat} {f : List (Int × Value)} (h : MapIs w b n f) (hn : n < maxLen) {k : Int} (hk : (Lit.int .i64 k).wf = true) (v : Value) :
    ∃ w', (Instr.mapUpdate mapTr (.map (some b)) (.int .i64 k) v).run Try.prog w = .ok () w' ∧ MapIs w' b (n + 1) (f ++ [(k, v)]) ∧ w.grownBy w' (some b) := by
  obtain ⟨w', h1, h2, h3⟩ := h.store (int_keyed Try.underlying3) Try.underlying78 hn (keyOf_int_mk Try.underlying3 hk) (val := v) (d := .held v) (ps := []) rfl
  exact ⟨w', h1, by rw [← mapD_snoc] at h2; exact h2, h3.grown⟩
theorem MapIs.keep {w w' : World} {b n : Nat} {f : List (Int × Value)} (h : MapIs w b n f) (hg : Gr w w') : MapIs w' b n f := by
  have hlt := h.lt
  obtain ⟨es, ck, hb, r⟩ := h
  exact ⟨es, ck, by rw [hg.block b hlt]; exact hb, r⟩
theorem MapIs.made (w : World) : MapIs (w.alloc (.map #[] 0)) w.heap.size 0 [] := World.ownsMap_made w Try.prog 3 heldR
/-- what the map holds is of the trips that came so far -/
structure MapOf (w0 : World) (l : List Tr) (i : Nat) (f : List (Int × Value)) : Prop where
  no : ∀ k, lk f k = none → countN (l.take i) k = 0
  yes : ∀ k v, lk f k = some v → ∃ (j : Nat) (t : Tr) (p : Option Addr) (m c : Nat), j < i ∧ l[j]? = some t ∧ t.num = k ∧ v = .agg (trL t p m c).toArray ∧ SeenAt w0 p m c t.seen
theorem MapOf.nil (w0 : World) (l : List Tr) : MapOf w0 l 0 [] := ⟨fun k _ => rfl, fun k v h => (by cases h)⟩
theorem MapOf.next {w0 : World} {l : List Tr} {i : Nat} {f : List (Int × Value)} (h : MapOf w0 l i f) {t : Tr} (hy : l[i]? = some t) {p : Option Addr} {m c : Nat} (hs : SeenAt w0 p m c t.seen) : MapOf w0 l (i + 1) (f ++ [(t.num, .agg (trL t p m c).toArray)]) := by
  refine ⟨fun k hk => ?_, fun k v hk => ?_⟩
  · rw [lk_snoc] at hk
    by_cases e : t.num = k
    · rw [if_pos e] at hk; cases hk
    · rw [if_neg e] at hk
      rw [count_take hy, h.no k hk, if_neg e]
  · rw [lk_snoc] at hk
    by_cases e : t.num = k
    · rw [if_pos e] at hk
      cases hk
      exact ⟨i, t, p, m, c, Nat.lt_succ_self _, hy, e, rfl, hs⟩
    · rw [if_neg e] at hk
      obtain ⟨j, t', p', m', c', h1, h2, h3, h4, h5⟩ := h.yes k v hk
      exact ⟨j, t', p', m', c', Nat.lt_succ_of_lt h1, h2, h3, h4, h5⟩
theorem count_pos {l : List Tr} {i j : Nat} {t : Tr} (hj : j < i) (h : l[j]? = some t) : 0 < countN (l.take i) t.num := by
  have hm : t ∈ (l.take i).filter fun x => decide (x.num = t.num) := by
    refine List.mem_filter.2 ⟨?_, by simp⟩
    have : (l.take i)[j]? = some t := by rw [List.getElem?_take_of_lt hj]; exact h
    exact List.mem_of_getElem? this
  exact List.length_pos_of_mem hm
theorem count_le_take (l : List Tr) (i : Nat) (k : Int) : countN (l.take i) k ≤ countN l k := by
  unfold countN
  exact (List.Sublist.filter _ (List.take_sublist i l)).length_le
theorem count_dup {l : List Tr} {i : Nat} {t : Tr} (h : l[i]? = some t) (h2 : 0 < countN (l.take i) t.num) : 1 < countN l t.num := by
  have h3 := count_take h t.num
  rw [if_pos rfl] at h3
  have := count_le_take l (i + 1) t.num
  omega
/-- the trip that has a number that stands once -/
theorem byN_of {l : List Tr} {n : Int} (hc : countN l n = 1) {j : Nat} {t : Tr} (h : l[j]? = some t) (ht : t.num = n) : byN l n = some t := by
  obtain ⟨x, hx, -⟩ := oneR_one (l := l) [] hc
  rw [hx]
  have hx2 := hx
  unfold byN at hx2
  have h9 : x.num = n := by have := List.find?_some (p := fun t : Tr => decide (t.num = n)) hx2; simpa using this
  have m1 : x ∈ l.filter fun y => decide (y.num = n) := List.mem_filter.2 ⟨List.mem_of_find?_eq_some hx2, by simp [h9]⟩
  have m2 : t ∈ l.filter fun y => decide (y.num = n) := List.mem_filter.2 ⟨List.mem_of_getElem? h, by simp [ht]⟩
  unfold countN at hc
  obtain ⟨y, hy⟩ := List.length_eq_one_iff.1 hc
  rw [hy, List.mem_singleton] at m1 m2
  rw [m1, m2]
/-- rows in a slice of slices -/
def RsE : EP (List Rw) := fun w l vs => ∃ o n c, vs = [.slice o n c] ∧ RowsAt w o n c l
theorem RsE_mono : Mono RsE := fun w w' l vs hg ⟨o, n, c, e, h1⟩ => ⟨o, n, c, e, h1.exS hg⟩
abbrev StatesAt (w : World) (oa : Option Addr) (n cap : Nat) (L : List (List Rw)) : Prop := SlE RsE 1 w oa n cap L
theorem rsT : SlT Try.prog 64 25 1 24 := ⟨Try.underlying64, by
  obtain ⟨i, hi, hz, hsi, hby⟩ := info_parts (show (Try.prog.info? 25).map (fun i => (i.zero, i.size, i.bytes)) = some (some (.slice none 0 0), 1, 24) by kernel_rfl)
  exact ⟨i, _, hi, hz, hsi, hby, rfl⟩, by decide⟩
/-- the states up to a number -/
def stsP (l : List Tr) (k : Nat) : List (List Rw) := (List.range k).map (stP l)
theorem stsP_succ (l : List Tr) (k : Nat) : stsP l (k + 1) = stsP l k ++ [stP l k] := by unfold stsP; rw [List.range_succ, List.map_append]; rfl
theorem stsP_get {l : List Tr} {k j : Nat} (h : j < k) : (stsP l k)[j]? = some (stP l j) := by
  unfold stsP
  rw [List.getElem?_map, List.getElem?_range h]; rfl
/-- one element in a block of the call's own -/
theorem OwnS.one {α : Type} {E : EP α} {k : Nat} {T : TypeId} {w : World} {base : Nat} {x : α} {vs : List Value} (hb : base ≤ w.heap.size) (hk : 0 < k) (hl : vs.length = k) (h1 : ∀ u ∈ vs, u.oneCell' = true) (hx : E (hideB (w.alloc (.cells vs.toArray T)) (some w.heap.size)) x vs) :
    OwnS E k T (w.alloc (.cells vs.toArray T)) base (some ⟨w.heap.size, 0, none⟩) 1 1 [x] := by
  refine ⟨rfl, [vs], rfl, fun us hu => ?_, ⟨by simp [hl], .inr ⟨w.heap.size, 1, vs.toArray, rfl, hb, (by show (w.heap.push (.cells vs.toArray T))[w.heap.size]? = _; simp), Nat.le_refl _, by unfold maxLen; omega, by simp [hl], by simp [← hl]⟩⟩, fun i y us hi hv => ?_⟩
  · rw [List.mem_singleton] at hu
    subst hu
    exact ⟨hl, h1⟩
  · obtain rfl : i = 0 := by have := (List.getElem?_eq_some_iff.1 hi).1; simp at this; exact this
    obtain rfl : x = y := by simpa using hi
    obtain rfl : vs = us := by simpa using hv
    exact hx
end Go.Proofs.Ytopomocbjlikjaa
