import Derived.Test.YtfejdbcfcpmdiaaDoorWgz
import Derived.Test.YtfejdbcfcpmdiaaDoorWtz
import Derived.ChangeMaps5
import Derived.Deep.RegionWith
namespace Go.Proofs.YtfejdbcfcpmdiaaDoor
set_option linter.unusedVariables false
set_option linter.unusedSimpArgs false
open Go.BigFrame Go.RowKit Go.WideShapes Go.ChangeMaps Go.MapKept

abbrev mapT : TypeId := 53

/-- the first entry of a map -/
theorem run_first (cm ck : Nat) (x : Int) (v : Value) (w : World) (hb : w.heap[cm]? = some (.map #[] ck)) :
    (Instr.mapUpdate mapT (.map (some cm)) (.int .i64 x) v).run Tryd.prog w = .ok () (setBlock w cm (.map #[⟨.int .i64 x, v, ck⟩] (ck + 1))) := by
  have hkey : IsKey (.int .i64) (.int .i64 x) := rfl
  have h1 : Instr.findNow (.int .i64) (.int .i64 x) (#[] : Array MapEntry).toList 0 = some none := rfl
  simp [Instr.mapUpdate, run_underlying (show Tryd.prog.underlying mapT = _ from Tryd.underlying53), MapKept.run_getObj_map hb, run_checkKey Tryd.underlying3 hkey, run_findKey Tryd.underlying3 h1, MapKept.run_setObj_map _ hb, Result.andThen, setBlock]

/-- a number is looked up among one entry -/
theorem run_found (cm ck ck2 : Nat) (x : Int) (v : Value) (w : World) (hb : w.heap[cm]? = some (.map #[⟨.int .i64 x, v, ck⟩] ck2)) :
    (Instr.lookup mapT (.map (some cm)) (.int .i64 x) true).run Tryd.prog w = .ok (.tuple #[v, .bool true]) w := by
  have hkey : IsKey (.int .i64) (.int .i64 x) := rfl
  rcases findNow_spec hkey (#[⟨.int .i64 x, v, ck⟩] : Array MapEntry).toList 0 (by intro e he; simp at he; subst he; rfl) with ⟨h1, h2⟩ | ⟨j, e0, h1, h2, h3⟩
  · exact absurd rfl (h2 ⟨.int .i64 x, v, ck⟩ (by simp))
  · have hj : j = 0 := by
      have := (List.getElem?_eq_some_iff.1 h2).1
      simp at this; omega
    subst hj
    simp at h2
    subst h2
    simp [Instr.lookup, run_underlying (show Tryd.prog.underlying mapT = _ from Tryd.underlying53), MapKept.run_getObj_map hb, run_checkKey Tryd.underlying3 hkey, run_findKey Tryd.underlying3 h1, Result.andThen]

theorem set_heap (w : World) (t o b : Nat) (v : Value) (h : b ≠ t) : (w.setCell ⟨t, o, none⟩ v).heap[b]? = w.heap[b]? := by
  simp only [World.setCell, Array.getElem?_modify]
  rw [if_neg (fun q => h q.symm)]

section
variable {thr lim last low hold : Int} {t cm mk : Nat} {es ms : Array MapEntry} {ck mc : Nat} {base : Nat} {w : World}
/-- the last number is set -/
theorem Tab.setLast (h : Tab w base t cm mk thr lim last low hold es ck ms mc) (x : Int) : Tab (w.setCell ⟨t, 2, none⟩ (.int .i64 x)) base t cm mk thr lim x low hold es ck ms mc :=
  ⟨h.ht, h.hcm, h.hmk, by unfold World.setCell; simpa using h.lt, h.ne1, h.ne2, h.ne3,
    by rw [World.cell?_setCell_other _ _ _ _ (by simp)]; exact h.c0, by rw [World.cell?_setCell_other _ _ _ _ (by simp)]; exact h.c1, World.cell?_setCell_same _ _ _ h.c2,
    by rw [World.cell?_setCell_other _ _ _ _ (by simp)]; exact h.c3, by rw [World.cell?_setCell_other _ _ _ _ (by simp)]; exact h.c4, by rw [World.cell?_setCell_other _ _ _ _ (by simp)]; exact h.c5, by rw [World.cell?_setCell_other _ _ _ _ (by simp)]; exact h.c6,
    by rw [set_heap _ _ _ _ _ h.ne1]; exact h.m1, by rw [set_heap _ _ _ _ _ h.ne2]; exact h.m2, fun o => (World.frozen?_setCell _ _ _ _).trans (h.fz o)⟩
theorem Tab.setHold (h : Tab w base t cm mk thr lim last low hold es ck ms mc) (x : Int) : Tab (w.setCell ⟨t, 6, none⟩ (.int .i64 x)) base t cm mk thr lim last low x es ck ms mc :=
  ⟨h.ht, h.hcm, h.hmk, by unfold World.setCell; simpa using h.lt, h.ne1, h.ne2, h.ne3,
    by rw [World.cell?_setCell_other _ _ _ _ (by simp)]; exact h.c0, by rw [World.cell?_setCell_other _ _ _ _ (by simp)]; exact h.c1, by rw [World.cell?_setCell_other _ _ _ _ (by simp)]; exact h.c2,
    by rw [World.cell?_setCell_other _ _ _ _ (by simp)]; exact h.c3, by rw [World.cell?_setCell_other _ _ _ _ (by simp)]; exact h.c4, by rw [World.cell?_setCell_other _ _ _ _ (by simp)]; exact h.c5, World.cell?_setCell_same _ _ _ h.c6,
    by rw [set_heap _ _ _ _ _ h.ne1]; exact h.m1, by rw [set_heap _ _ _ _ _ h.ne2]; exact h.m2, fun o => (World.frozen?_setCell _ _ _ _).trans (h.fz o)⟩
theorem setBlock_cell (hb : w.heap[cm]? = some (.map es ck)) (o : Obj) {b i : Nat} {v : Value} (h : w.cell? ⟨b, i, none⟩ = some v) : (setBlock w cm o).cell? ⟨b, i, none⟩ = some v := by
  have hne : b ≠ cm := by
    intro e
    subst e
    unfold World.cell? at h
    rw [show w.heap[(⟨b, i, none⟩ : Addr).block]? = some (.map es ck) from hb] at h
    simp at h
  rw [World.cell?_of_block (w := w) (a := ⟨b, i, none⟩) (heap_setBlock_other hb o hne)]
  exact h
/-- the commits' map is set -/
theorem Tab.setMap (h : Tab w base t cm mk thr lim last low hold es ck ms mc) (es2 : Array MapEntry) (ck2 : Nat) : Tab (setBlock w cm (.map es2 ck2)) base t cm mk thr lim last low hold es2 ck2 ms mc :=
  ⟨h.ht, h.hcm, h.hmk, by unfold setBlock; simpa using h.lt, h.ne1, h.ne2, h.ne3, setBlock_cell h.m1 _ h.c0, setBlock_cell h.m1 _ h.c1, setBlock_cell h.m1 _ h.c2, setBlock_cell h.m1 _ h.c3, setBlock_cell h.m1 _ h.c4, setBlock_cell h.m1 _ h.c5, setBlock_cell h.m1 _ h.c6,
    heap_setBlock_same h.m1 _, by rw [heap_setBlock_other h.m1 _ (fun q => h.ne3 q.symm)]; exact h.m2, fun o => (frozen?_setBlock h.m1 _).trans (h.fz o)⟩
theorem below_setBlock (hb : w.heap[cm]? = some (.map es ck)) (o : Obj) (h : base ≤ cm) : Below base w (setBlock w cm o) :=
  ⟨rfl, rfl, rfl, by unfold setBlock; simp, fun b hlt => heap_setBlock_other hb o (by omega)⟩
end
/-- writes stay where a number is set -/
theorem WritesAt.set {w : World} {oa : Option Addr} {n cap : Nat} {l : List Wt} (h : WritesAt w oa n cap l) {t i : Nat} {x : Int} (hc : w.cell? ⟨t, i, Option.none⟩ = some (.int .i64 x)) (u : Value) : WritesAt (w.setCell ⟨t, i, Option.none⟩ u) oa n cap l := by
  obtain ⟨h1, h2, h3, h4, ⟨b, off, h5, h6⟩, h7⟩ := h
  have hne : ∀ {o : Nat} {v : Value}, w.cell? ⟨b, o, Option.none⟩ = some v → v ≠ .int .i64 x → (w.setCell ⟨t, i, Option.none⟩ u).cell? ⟨b, o, Option.none⟩ = some v := fun {o v} q hv => by
    rw [World.cell?_setCell_other _ _ _ _ (fun e => by rw [e, q] at hc; exact hv (by simpa using hc))]
    exact q
  exact ⟨h1, h2, h3, h4, ⟨b, off, fun q => ⟨(h5 q).1, by unfold World.setCell; simpa using (h5 q).2⟩, fun k hk => ⟨hne (h6 k hk).1 (by simp), hne (h6 k hk).2.1 (by simp), hne (h6 k hk).2.2 (by simp)⟩⟩, h7⟩
theorem WritesAt.setMap {w : World} {cm ck : Nat} {es : Array MapEntry} (hb : w.heap[cm]? = some (.map es ck)) (o : Obj) {oa : Option Addr} {n cap : Nat} {l : List Wt} (h : WritesAt w oa n cap l) : WritesAt (setBlock w cm o) oa n cap l := by
  obtain ⟨h1, h2, h3, h4, ⟨b, off, h5, h6⟩, h7⟩ := h
  exact ⟨h1, h2, h3, h4, ⟨b, off, fun q => ⟨(h5 q).1, by unfold setBlock; simpa using (h5 q).2⟩, fun k hk => ⟨setBlock_cell hb o (h6 k hk).1, setBlock_cell hb o (h6 k hk).2.1, setBlock_cell hb o (h6 k hk).2.2⟩⟩, h7⟩
end Go.Proofs.YtfejdbcfcpmdiaaDoor
