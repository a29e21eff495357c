import Derived.Test.YtfejdbcfcpmdiaaDoorGsz
import Derived.Deep.MidRow
namespace Go.Proofs.YtfejdbcfcpmdiaaDoor
set_option linter.unusedVariables false
set_option linter.unusedSimpArgs false
open Go.RowKit

/-! Boxes: structs in blocks of their own, whole. -/
/-- these cells stand at the head of block b, and may be written -/
structure Bx (w : World) (b : Nat) (vs : List Value) : Prop where
  rng : w.rangeAt b 0 vs
  may : w.there b 0 vs.length
theorem Bx.cell {w : World} {b : Nat} {vs : List Value} (h : Bx w b vs) (j : Nat) {u : Value} (hu : vs[j]? = some u) : w.cell? ⟨b, j, none⟩ = some u := by
  have := h.rng j u hu
  rwa [Nat.zero_add] at this
theorem Bx.free {w : World} {b : Nat} {vs : List Value} (h : Bx w b vs) (j : Nat) (hj : j < vs.length) : w.frozen? ⟨b, j, none⟩ = false := by
  have := (h.may j hj).2
  rwa [Nat.zero_add] at this
theorem Gr.range {w w' : World} (hg : Gr w w') {b o : Nat} {cs : List Value} (h : w.rangeAt b o cs) : w'.rangeAt b o cs := fun j v hv => hg.keep (h j v hv)
theorem Gr.may {w w' : World} (hg : Gr w w') {b o n : Nat} (h : w.there b o n) : w'.there b o n := fun j hj => by
  obtain ⟨h1, h2⟩ := h j hj
  obtain ⟨u, hu⟩ := Option.isSome_iff_exists.1 h1
  exact ⟨by rw [hg.keep hu]; rfl, by rw [hg.frozen (cell_lt hu)]; exact h2⟩
theorem Gr.freeK {w w' : World} (hg : Gr w w') {b o : Nat} {v : Value} (hc : w.cell? ⟨b, o, none⟩ = some v) (h : w.frozen? ⟨b, o, none⟩ = false) : w'.frozen? ⟨b, o, none⟩ = false := by
  rw [hg.frozen (cell_lt hc)]; exact h
theorem far1 {w : World} {b o b' j : Nat} {u v : Value} (h : w.cell? ⟨b, o, none⟩ = some v) (hb : b ≠ b') : (w.setCell ⟨b', j, none⟩ u).cell? ⟨b, o, none⟩ = some v := by
  rw [World.cell?_setCell_other _ _ _ _ (fun q => by have := congrArg Addr.block q; first | exact hb this | exact hb this.symm)]; exact h
theorem alloc1 {w : World} {b o : Nat} {v : Value} {ob : Obj} (h : w.cell? ⟨b, o, none⟩ = some v) : (w.alloc ob).cell? ⟨b, o, none⟩ = some v := ((Gr.refl w).alloc ob).keep h
theorem drew1 {w : World} {b o : Nat} {v : Value} (h : w.cell? ⟨b, o, none⟩ = some v) : w.drew.cell? ⟨b, o, none⟩ = some v := h
theorem Bx.lt {w : World} {b : Nat} {vs : List Value} (h : Bx w b vs) (h0 : 0 < vs.length) : b < w.heap.size := by
  have hv : vs[0]? = some vs[0] := List.getElem?_eq_getElem h0
  exact cell_lt (h.cell 0 hv)
theorem Bx.keep {w w' : World} {b : Nat} {vs : List Value} (h : Bx w b vs) (hg : Gr w w') : Bx w' b vs :=
  ⟨fun j v hv => hg.keep (h.rng j v hv), fun j hj => by
    have hlt := h.lt (by omega)
    obtain ⟨h1, h2⟩ := h.may j hj
    obtain ⟨u, hu⟩ := Option.isSome_iff_exists.1 h1
    exact ⟨by rw [hg.keep hu]; rfl, by rw [hg.frozen hlt]; exact h2⟩⟩
theorem Bx.new (w : World) (vs : Array Value) (T : TypeId) {b : Nat} (hb : b = w.heap.size) : Bx (w.alloc (.cells vs T)) b vs.toList := by
  subst hb
  have hc : ∀ j, (w.alloc (.cells vs T)).cell? ⟨w.heap.size, j, none⟩ = vs[j]? := World.cell?_alloc_new w vs T
  refine ⟨fun j v hv => by rw [Nat.zero_add, hc]; simpa using hv, fun j hj => ⟨?_, ?_⟩⟩
  · rw [Nat.zero_add, hc, Array.getElem?_eq_getElem (by simpa using hj)]; rfl
  · unfold World.frozen?
    rw [show (w.alloc (.cells vs T)).heap[w.heap.size]? = some (.cells vs T (0, 0)) by show (w.heap.push (.cells vs T))[w.heap.size]? = _; simp]
    simp
theorem Bx.of {w : World} {b : Nat} {vs us : List Value} (h : Bx w b vs) (e : vs = us) : Bx w b us := e ▸ h
/-- a store elsewhere -/
theorem Bx.other {w : World} {b : Nat} {vs : List Value} (h : Bx w b vs) {b' j : Nat} (hb : b' ≠ b) (u : Value) : Bx (w.setCell ⟨b', j, none⟩ u) b vs :=
  ⟨fun i v hv => by rw [World.cell?_setCell_other _ _ _ _ (fun q => by have := congrArg Addr.block q; first | exact hb this | exact hb this.symm)]; exact h.rng i v hv, fun i hi => by
    obtain ⟨h1, h2⟩ := h.may i hi
    exact ⟨by rw [World.cell?_setCell_other _ _ _ _ (fun q => by have := congrArg Addr.block q; first | exact hb this | exact hb this.symm)]; exact h1, (World.frozen?_setCell _ _ _ _).trans h2⟩⟩
/-- one cell written -/
theorem Bx.set {w : World} {b : Nat} {vs : List Value} (h : Bx w b vs) (j : Nat) (u : Value) : Bx (w.setCell ⟨b, j, none⟩ u) b (vs.set j u) := by
  refine ⟨fun i v hv => ?_, fun i hi => ?_⟩
  · rw [Nat.zero_add]
    by_cases e : i = j
    · subst e
      have hlt : i < vs.length := by have := (List.getElem?_eq_some_iff.1 hv).1; simpa using this
      rw [List.getElem?_set_self hlt] at hv
      cases hv
      exact World.cell?_setCell_same _ _ _ (h.cell i (List.getElem?_eq_getElem hlt))
    · rw [List.getElem?_set_ne (fun q => e q.symm)] at hv
      rw [World.cell?_setCell_other _ _ _ _ (fun q => by have := congrArg Addr.off q; first | exact e this | exact e this.symm)]
      exact h.cell i hv
  · rw [List.length_set] at hi
    obtain ⟨h1, h2⟩ := h.may i hi
    refine ⟨?_, (World.frozen?_setCell _ _ _ _).trans h2⟩
    rw [Nat.zero_add] at h1 ⊢
    by_cases e : i = j
    · subst e
      rw [World.cell?_setCell_same _ _ _ (h.cell i (List.getElem?_eq_getElem hi))]; rfl
    · rw [World.cell?_setCell_other _ _ _ _ (fun q => by have := congrArg Addr.off q; first | exact e this | exact e this.symm)]
      exact h1
/-- all of it written -/
theorem Bx.setAll {w : World} {b : Nat} {vs us : List Value} (h : Bx w b vs) (hl : us.length = vs.length) : Bx (w.setCells b 0 us) b us :=
  ⟨World.rangeAt_setCells_same _ _ _ _ (by rw [hl]; exact h.may), by rw [hl]; exact World.there_setCells h.may _ _ _⟩
theorem Bx.others {w : World} {b : Nat} {vs : List Value} (h : Bx w b vs) {b' : Nat} (hb : b ≠ b') (us : List Value) : Bx (w.setCells b' 0 us) b vs :=
  ⟨World.rangeAt_setCells_apart h.rng _ _ _ (.inl hb), World.there_setCells h.may _ _ _⟩
theorem Gr.setCells {w w' : World} (h : Gr w w') {b : Nat} (hb : w.heap.size ≤ b) (us : List Value) : ∀ (o : Nat), Gr w (w'.setCells b o us) := by
  induction us generalizing w' with
  | nil => intro o; exact h
  | cons u us ih => intro o; exact ih (h.setCell (p := ⟨b, o, none⟩) hb u) (o + 1)
theorem Bx.load {P : Program} {w : World} {b : Nat} {vs : List Value} (h : Bx w b vs) (ty : TypeId) {d : TypeDesc} (hu : P.underlying ty = some d) (hd : d.isRow = true) (hi : (P.info? ty).map (·.size) = some vs.length) :
    (Instr.loadAt ty (.pointer (some ⟨b, 0, none⟩))).run P w = .ok (.agg vs.toArray) w := run_loadAt_mid w b 0 ty vs d h.rng hu hd hi
theorem Bx.store {P : Program} {w : World} {b : Nat} {vs : List Value} (h : Bx w b vs) (ty : TypeId) (us : Array Value) (hl : us.size = vs.length) (hi : (P.info? ty).map (·.size) = some us.size) (h1 : us.all (·.oneCell') = true) :
    (Instr.storeAt ty (.pointer (some ⟨b, 0, none⟩)) (.agg us)).run P w = .ok () (w.setCells b 0 us.toList) := run_storeAt_mid w b 0 ty us (by rw [hl]; exact h.may) hi h1
/-- a result that lies in a box -/
theorem Bx.resl {P : Program} {w : World} {b : Nat} {vs : List Value} (h : Bx w b vs) (ty : TypeId) {d : TypeDesc} (hu : P.underlying ty = some d) (hd : d.isRow = true) (hi : (P.info? ty).map (·.size) = some vs.length) :
    (loadVar ty ⟨b, 0, none⟩).run P w = .ok (.agg vs.toArray) w := run_loadVar_mid w b 0 ty vs d h.rng hu hd hi
theorem Bx.ret1 {P : Program} {w : World} {b : Nat} {vs : List Value} (h : Bx w b vs) {fn : Func} {p : Tmp} {ty : TypeId} (hr : fn.results = #[.cell p ty]) (tmps : Array Value) (hp : tmps.getD p undef = .pointer (some ⟨b, 0, none⟩))
    {d : TypeDesc} (hu : P.underlying ty = some d) (hd : d.isRow = true) (hi : (P.info? ty).map (·.size) = some vs.length) : (results fn tmps).run P w = .ok (.agg vs.toArray) w := by
  have hp' : tmps[p]?.getD undef = .pointer (some ⟨b, 0, none⟩) := by simpa using hp
  simp [results, hr, hp', asAddr, run_loadVar_mid w b 0 ty vs d h.rng hu hd hi]
theorem Bx.ret2 {P : Program} {w : World} {b : Nat} {vs : List Value} (h : Bx w b vs) {fn : Func} {p u : Tmp} {ty : TypeId} (hr : fn.results = #[.cell p ty, .tmp u]) (tmps : Array Value) (hp : tmps.getD p undef = .pointer (some ⟨b, 0, none⟩)) {v : Value} (hv : tmps.getD u undef = v)
    {d : TypeDesc} (hu : P.underlying ty = some d) (hd : d.isRow = true) (hi : (P.info? ty).map (·.size) = some vs.length) : (results fn tmps).run P w = .ok (.tuple #[.agg vs.toArray, v]) w := by
  have hp' : tmps[p]?.getD undef = .pointer (some ⟨b, 0, none⟩) := by simpa using hp
  have hv' : tmps[u]?.getD undef = v := by simpa using hv
  simp [results, hr, hp', hv', asAddr, run_loadVar_mid w b 0 ty vs d h.rng hu hd hi]
end Go.Proofs.YtfejdbcfcpmdiaaDoor
