import Derived.Test.YtfejdbcfcpmdiaaDoorMp20z
import Derived.Test.YtfejdbcfcpmdiaaDoorHlz
import Derived.Maps.Range
import Derived.Maps.RangeWalk
namespace Go.Proofs.YtfejdbcfcpmdiaaDoor
set_option linter.unusedVariables false
set_option linter.unusedSimpArgs false
open Go.Maps Go.RowKit

/-! Maps from integers, as functions. -/
abbrev MF := Int → Option Value
def upd (m : MF) (k : Int) (v : Option Value) : MF := fun x => if x = k then v else m x
theorem upd_same (m : MF) (k : Int) (v : Option Value) : upd m k v k = v := by unfold upd; rw [if_pos rfl]
theorem upd_other {m : MF} {k x : Int} {v : Option Value} (h : x ≠ k) : upd m k v x = m x := by unfold upd; rw [if_neg h]
/-- a datum reads as such a function -/
structure RdF (D : DataW Value) (m : MF) : Prop where
  has : ∀ k, Maps.has D (kI k) = (m k).isSome
  at_ : ∀ k z, D.atKey (kI k) z = ((m k).map DataW.held).getD z
theorem RdF.empty : RdF (.map []) (fun _ => none) := ⟨fun _ => rfl, fun k z => atKey_of_not_has rfl z⟩
theorem RdF.put {D : DataW Value} {m : MF} (h : RdF D m) (hD : IsMap D) (k : Int) (v : Value) : RdF (D.put (kI k) (.held v)) (upd m k (some v)) := by
  refine ⟨fun x => ?_, fun x z => ?_⟩
  · by_cases e : x = k
    · subst e; rw [upd_same, has_put_same hD (kI_key x)]; rfl
    · rw [upd_other e, has_put_other (kI_ne e)]; exact h.has x
  · by_cases e : x = k
    · subst e; rw [upd_same, atKey_put_same hD (kI_key x)]; rfl
    · rw [upd_other e, atKey_put_other (kI_ne e)]; exact h.at_ x z
theorem RdF.del {D : DataW Value} {m : MF} (h : RdF D m) (k : Int) : RdF (D.del (kI k)) (upd m k none) := by
  refine ⟨fun x => ?_, fun x z => ?_⟩
  · by_cases e : x = k
    · subst e; rw [upd_same, has_del_same]; rfl
    · rw [upd_other e, has_del_other (kI_ne e)]; exact h.has x
  · by_cases e : x = k
    · subst e; rw [upd_same, atKey_del_same]; rfl
    · rw [upd_other e, atKey_del_other (kI_ne e)]; exact h.at_ x z
section
variable {P : Program} {K : TypeId}
/-- block b is a map that reads as m -/
structure MapV (P : Program) (K : TypeId) (w : World) (b : Nat) (m : MF) : Prop where
  ex : ∃ D : DataW Value, w.ownsMap P K heldR b (Maps.size D) D ∧ RdF D m
theorem own_size {w : World} {b n : Nat} {D : DataW Value} (h : w.ownsMap P K heldR b n D) : w.ownsMap P K heldR b (Maps.size D) D := by
  obtain ⟨es, ck, hb, F, hs, rfl⟩ := h
  exact ⟨es, ck, hb, F, by simp [Maps.size, length_sorted], rfl⟩
theorem MapV.of {w : World} {b n : Nat} {D : DataW Value} {m : MF} (h : w.ownsMap P K heldR b n D) (hr : RdF D m) : MapV P K w b m := ⟨D, own_size h, hr⟩
theorem MapV.made (w : World) : MapV P K (w.alloc (.map #[] 0)) w.heap.size (fun _ => none) := .of (World.ownsMap_made w P K heldR) RdF.empty
theorem MapV.lt {w : World} {b : Nat} {m : MF} (h : MapV P K w b m) : b < w.heap.size := by
  obtain ⟨D, h1, -⟩ := h.ex; exact h1.lt
theorem MapV.block {w w' : World} {b : Nat} {m : MF} (h : MapV P K w b m) (hb : w'.heap[b]? = w.heap[b]?) : MapV P K w' b m := by
  obtain ⟨D, ⟨es, ck, h1, r⟩, h2⟩ := h.ex
  exact ⟨D, ⟨es, ck, hb.trans h1, r⟩, h2⟩
theorem MapV.keep {w w' : World} {b : Nat} {m : MF} (h : MapV P K w b m) (hg : Gr w w') : MapV P K w' b m := h.block (Below.block hg b h.lt)
theorem MapV.mod {w w' : World} {b : Nat} {m : MF} {S : List Nat} (h : MapV P K w b m) (hg : Mod S w w') (hb : b ∉ S) : MapV P K w' b m := h.block (hg.block b h.lt hb)
theorem MapV.cell {w : World} {b o : Nat} {m : MF} (h : MapV P K w b m) : w.cell? ⟨b, o, none⟩ = none := by
  obtain ⟨D, ⟨es, ck, h1, r⟩, h2⟩ := h.ex
  unfold World.cell?
  rw [show w.heap[(⟨b, o, none⟩ : Addr).block]? = _ from h1]
variable (hK : P.underlying K = some (.int .i64))
include hK
theorem MapV.look {w : World} {b : Nat} {m : MF} (h : MapV P K w b m) {t e : TypeId} (ht : P.underlying t = some (.map K e)) {z : Value} (hz : (zeroValue e).run P w = .ok z w) {k : Int} (hk : (Lit.int .i64 k).wf = true) :
    (Instr.lookup t (.map (some b)) (.int .i64 k) true).run P w = .ok (.tuple #[(m k).getD z, .bool (m k).isSome]) w := by
  obtain ⟨D, h1, h2⟩ := h.ex
  obtain ⟨v, ps, e1, e2⟩ := h1.look_ok (int_keyed hK) ht hz (zd := .held z) (zp := []) rfl (keyOf_int_mk hK hk)
  rw [h2.has k] at e1
  rw [h2.at_ k] at e2
  have hv : v = (m k).getD z := by
    cases hl : m k with
    | none =>
      rw [hl] at e2
      simp only [heldR, Option.map_none, Option.getD_none, Option.some.injEq, Prod.mk.injEq, DataW.held.injEq] at e2
      exact e2.1
    | some u =>
      rw [hl] at e2
      simp only [heldR, Option.map_some, Option.getD_some, Option.some.injEq, Prod.mk.injEq, DataW.held.injEq] at e2
      exact e2.1
  rw [← hv]
  exact e1
/-- how many there are, of keys that lie together -/
theorem MapV.count {w : World} {b : Nat} {m : MF} (h : MapV P K w b m) {lo : Int} {N : Nat} (hd : ∀ k, (m k).isSome = true → lo ≤ k ∧ k < lo + N) {D : DataW Value} (h1 : w.ownsMap P K heldR b (Maps.size D) D) (h2 : RdF D m) :
    Maps.size D = ((List.range N).filter fun i => (m (lo + (i : Nat))).isSome).length := by
  obtain ⟨es, ck, hb, F, hs, rfl⟩ := h1
  have hko := Maps.fit_keys F
  have hap := Maps.fit_apart (int_keyed hK) F
  generalize hE : es.toList.map (Go.WideElems.rg P K heldR) = E at *
  have hE2 : ∀ p ∈ E, ∃ x : Int, p.1 = kI x := fun p hp => by
    obtain ⟨v, hv⟩ := hko p hp
    obtain ⟨x, -, e, -⟩ := Maps.keyOf_int_inv hK hv
    exact ⟨x, e⟩
  have hsz : Maps.size (DataW.map (E.foldr DataW.insert [])) = E.length := by show (E.foldr DataW.insert []).length = _; exact length_sorted E
  rw [hsz]
  let f : Lit × DataW Value → Int := fun p => match p.1 with | .int _ x => x | _ => 0
  have hf : ∀ p ∈ E, p.1 = kI (f p) := fun p hp => by
    obtain ⟨x, e⟩ := hE2 p hp
    show p.1 = kI (match p.1 with | .int _ x => x | _ => 0)
    rw [e]
  have n1 : (E.map f).Nodup := by
    rw [List.nodup_iff_pairwise_ne, List.pairwise_map]
    refine hap.imp_of_mem fun {p q} hp hq hne e => hne ?_
    rw [hf p hp, hf q hq, e]
  have n2 : (((List.range N).filter fun i => (m (lo + (i : Nat))).isSome).map fun i : Nat => lo + (i : Int)).Nodup := by
    rw [List.nodup_iff_pairwise_ne, List.pairwise_map]
    refine (List.Pairwise.filter _ (List.nodup_iff_pairwise_ne.1 List.nodup_range)).imp fun {p q} hne e => hne (by omega)
  have hmem : ∀ x, x ∈ E.map f ↔ (m x).isSome = true := fun x => by
    rw [← h2.has x]
    show _ ↔ ((E.foldr DataW.insert []).any fun p => p.1.sameKey (kI x)) = true
    rw [List.any_eq_true, List.mem_map]
    constructor
    · rintro ⟨p, hp, rfl⟩
      exact ⟨p, mem_sorted.2 hp, by rw [hf p hp]; exact WideAt.sameKey_self (kI_key _)⟩
    · rintro ⟨p, hp, hk⟩
      have hp := mem_sorted.1 hp
      refine ⟨p, hp, ?_⟩
      have e := WideAt.sameKey_eq hk
      rw [hf p hp] at e
      unfold kI at e
      simpa using e
  have hp := (List.perm_ext_iff_of_nodup n1 n2).2 fun x => by
    rw [hmem, List.mem_map]
    constructor
    · intro hx
      obtain ⟨a1, a2⟩ := hd x hx
      refine ⟨(x - lo).toNat, List.mem_filter.2 ⟨List.mem_range.2 (by omega), ?_⟩, by omega⟩
      rw [show lo + ((x - lo).toNat : Int) = x by omega]; exact hx
    · rintro ⟨i, hi, rfl⟩
      exact (List.mem_filter.1 hi).2
  have := hp.length_eq
  rwa [List.length_map, List.length_map] at this
theorem MapV.len {w : World} {b : Nat} {m : MF} (h : MapV P K w b m) {lo : Int} {N : Nat} (hd : ∀ k, (m k).isSome = true → lo ≤ k ∧ k < lo + N) {t e : TypeId} (ht : P.underlying t = some (.map K e)) (ty : TypeId) :
    (Builtin.len_ #[t] ty #[.map (some b)]).run P w = .ok (.int .i64 (((List.range N).filter fun i => (m (lo + (i : Nat))).isSome).length : Nat)) w := by
  obtain ⟨D, h1, h2⟩ := h.ex
  rw [← h.count hK hd h1 h2]
  exact h1.len ht ty
theorem MapV.put {w : World} {b : Nat} {m : MF} (h : MapV P K w b m) {lo : Int} {N : Nat} (hd : ∀ k, (m k).isSome = true → lo ≤ k ∧ k < lo + N) (hN : N < maxLen) {t e : TypeId} (ht : P.underlying t = some (.map K e)) {k : Int} (hk : (Lit.int .i64 k).wf = true) (v : Value) :
    ∃ w', (Instr.mapUpdate t (.map (some b)) (.int .i64 k) v).run P w = .ok () w' ∧ MapV P K w' b (upd m k (some v)) ∧ w.mapTurned w' b := by
  obtain ⟨D, h1, h2⟩ := h.ex
  have hs := h.count hK hd h1 h2
  have hl := List.length_filter_le (fun i : Nat => (m (lo + (i : Nat))).isSome) (List.range N)
  rw [List.length_range] at hl
  obtain ⟨w', r1, r2, r3⟩ := h1.store (int_keyed hK) ht (by omega) (keyOf_int_mk hK hk) (val := v) (d := .held v) (ps := []) rfl
  exact ⟨w', r1, .of r2 (h2.put h1.isMap k v), r3⟩
theorem MapV.del {w : World} {b : Nat} {m : MF} (h : MapV P K w b m) {t e : TypeId} (ht : P.underlying t = some (.map K e)) {k : Int} (hk : (Lit.int .i64 k).wf = true) (ty : TypeId) :
    ∃ w', (Builtin.delete_ #[t, K] ty #[.map (some b), .int .i64 k]).run P w = .ok (.tuple #[]) w' ∧ MapV P K w' b (upd m k none) ∧ w.mapTurned w' b := by
  obtain ⟨D, h1, h2⟩ := h.ex
  obtain ⟨w', r1, r2, r3⟩ := h1.drop (int_keyed hK) ht (keyOf_int_mk hK hk) ty
  exact ⟨w', r1, .of r2 (h2.del k), r3⟩
omit hK in
/-- a loop over a map, under way -/
structure RanV (P : Program) (K : TypeId) (w : World) (b r : Nat) (m : MF) (left : Int → Bool) (cnt : Nat) : Prop where
  ex : ∃ n D lf, w.ranges P K heldR b r n D lf cnt ∧ RdF D m ∧ ∀ k, lf (kI k) = left k
omit hK in
theorem RanV.map {w : World} {b r : Nat} {m : MF} {left : Int → Bool} {cnt : Nat} (h : RanV P K w b r m left cnt) : MapV P K w b m := by
  obtain ⟨n, D, lf, h1, h2, -⟩ := h.ex
  exact .of h1.owns h2
omit hK in
theorem RanV.mod {w w' : World} {b r : Nat} {m : MF} {left : Int → Bool} {cnt : Nat} {S : List Nat} (h : RanV P K w b r m left cnt) (hg : Mod S w w') (hb : b ∉ S) (hr : r ∉ S) : RanV P K w' b r m left cnt := by
  obtain ⟨n, D, lf, h1, h2, h3⟩ := h.ex
  have hl1 := h1.owns.lt
  have hl2 := h1.lt
  obtain ⟨es, clock, since, seen, c0, a1, a2, a3, a4, a5, rest⟩ := h1
  exact ⟨n, D, lf, ⟨es, clock, since, seen, c0, (hg.block b hl1 hb).trans a1, a2, a3, a4, (hg.block r hl2 hr).trans a5, rest⟩, h2, h3⟩
omit hK in
theorem RanV.keep {w w' : World} {b r : Nat} {m : MF} {left : Int → Bool} {cnt : Nat} (h : RanV P K w b r m left cnt) (hg : Gr w w') : RanV P K w' b r m left cnt := h.mod (hg.mod []) (by simp) (by simp)
omit hK in
theorem RanV.lt {w : World} {b r : Nat} {m : MF} {left : Int → Bool} {cnt : Nat} (h : RanV P K w b r m left cnt) : r < w.heap.size := by
  obtain ⟨n, D, lf, h1, -, -⟩ := h.ex
  exact h1.lt
omit hK in
theorem RanV.left_eq {w : World} {b r : Nat} {m : MF} {left : Int → Bool} {cnt : Nat} (h : RanV P K w b r m left cnt) : w.rangeLeft b r = cnt := by
  obtain ⟨n, D, lf, h1, -, -⟩ := h.ex
  exact h1.left_eq
omit hK in
theorem RanV.ne {w : World} {b r : Nat} {m : MF} {left : Int → Bool} {cnt : Nat} (h : RanV P K w b r m left cnt) : r ≠ b := by
  obtain ⟨n, D, lf, h1, -, -⟩ := h.ex
  exact h1.ne
theorem MapV.range {w : World} {b : Nat} {m : MF} (h : MapV P K w b m) {t e : TypeId} (ht : P.underlying t = some (.map K e)) :
    ∃ w' cnt, (Instr.range t (.map (some b))).run P w = .ok (.pointer (some ⟨w.heap.size, 0, none⟩)) w' ∧ RanV P K w' b w.heap.size m (fun k => (m k).isSome) cnt ∧ w.grownBy w' none ∧ w'.heap.size = w.heap.size + 1 := by
  obtain ⟨D, h1, h2⟩ := h.ex
  obtain ⟨w', r1, r2, r3, r4⟩ := h1.range (int_keyed hK) ht
  exact ⟨w', _, r1, ⟨_, D, _, r2, h2, h2.has⟩, r3, r4⟩
theorem RanV.next {w : World} {b r : Nat} {m : MF} {left : Int → Bool} {cnt : Nat} (h : RanV P K w b r m left cnt) (ty : TypeId) :
    (cnt = 0 ∧ (∀ k, left k = false) ∧ (Instr.next (.pointer (some ⟨r, 0, none⟩)) false ty).run P w = .ok (.tuple #[.bool false]) w) ∨
    ∃ k v w' cnt', left k = true ∧ m k = some v ∧ (Lit.int .i64 k).wf = true ∧ (Instr.next (.pointer (some ⟨r, 0, none⟩)) false ty).run P w = .ok (.tuple #[.bool true, .int .i64 k, v]) w' ∧
      RanV P K w' b r m (fun x => left x && !decide (x = k)) cnt' ∧ cnt' < cnt ∧ w.grownBy w' (some r) ∧ (Instr.entry (.pointer (some ⟨r, 0, none⟩))).run P w' = .ok (.tuple #[.int .i64 k, v]) w' := by
  obtain ⟨n, D, lf, h1, h2, h3⟩ := h.ex
  rcases h1.next (int_keyed hK) ty with ⟨a1, a2, a3⟩ | ⟨key, v, kl, y, w', cnt', a1, a2, a3, a4, a5, a6, a7, a8, a9, a10⟩
  · exact .inl ⟨a1, fun k => by rw [← h3]; exact a2 _, a3⟩
  · obtain ⟨x, rfl, rfl, hw⟩ := Maps.keyOf_int_inv hK a1
    have hy : y = (.held v, []) := by unfold heldR at a3; exact (Option.some.inj a3).symm
    subst hy
    have hm : m x = some v := by
      have e := a4 (.map [])
      rw [h2.at_ x] at e
      cases hl : m x with
      | none => rw [hl] at e; simp at e
      | some u => rw [hl] at e; simpa using e
    refine .inr ⟨x, v, w', cnt', by rw [← h3]; exact a2, hm, hw, a5, ⟨n, D, _, a6, h2, fun k => ?_⟩, a7, a8, a10⟩
    show (lf (kI k) && !(kI k).sameKey (kI x)) = _
    rw [h3]
    congr 2
    by_cases e : k = x
    · subst e; rw [WideAt.sameKey_self (kI_key k)]; simp
    · rw [sameKey_ne (kI_ne e)]; simp [e]
theorem RanV.del {w : World} {b r : Nat} {m : MF} {left : Int → Bool} {cnt : Nat} (h : RanV P K w b r m left cnt) {t e : TypeId} (ht : P.underlying t = some (.map K e)) {k : Int} (hk : (Lit.int .i64 k).wf = true) (ty : TypeId) :
    ∃ w' cnt', (Builtin.delete_ #[t, K] ty #[.map (some b), .int .i64 k]).run P w = .ok (.tuple #[]) w' ∧ RanV P K w' b r (upd m k none) (fun x => left x && !decide (x = k)) cnt' ∧ cnt' ≤ cnt ∧ w.mapTurned w' b := by
  obtain ⟨n, D, lf, h1, h2, h3⟩ := h.ex
  obtain ⟨w', cnt', a1, a2, a3, a4⟩ := h1.drop (int_keyed hK) ht (keyOf_int_mk hK hk) ty
  refine ⟨w', cnt', a1, ⟨n, _, _, a2, h2.del k, fun x => ?_⟩, a3, a4⟩
  show (lf (kI x) && !(kI x).sameKey (kI k)) = _
  rw [h3]
  congr 2
  by_cases e : x = k
  · subst e; rw [WideAt.sameKey_self (kI_key x)]; simp
  · rw [sameKey_ne (kI_ne e)]; simp [e]
end
theorem turned_mod {w w' : World} {b : Nat} {S : List Nat} (h : w.mapTurned w' b) (hb : b ∈ S) : Mod S w w' := Mod.grown h.grown fun x e => by cases e; exact hb
end Go.Proofs.YtfejdbcfcpmdiaaDoor
