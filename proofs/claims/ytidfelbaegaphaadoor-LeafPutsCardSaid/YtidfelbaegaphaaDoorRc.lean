import Derived.Test.YtidfelbaegaphaaDoorUpA
namespace Go.Proofs.YtidfelbaegaphaaDoor
set_option linter.unusedVariables false
set_option linter.unusedSimpArgs false
open Go.BigFrame Go.RowKit Go.WideShapes

/-! Records, whole, in slices. -/
/-- an entry -/
structure En where
  key : ByteArray
  page : Int
def EnE : EP En := fun w x vs => vs = [.string x.key, .int .i64 x.page] ∧ x.key.size ≤ maxLen
theorem EnE_mono : Mono EnE := fun _ _ _ _ _ h => h
/-- a record and its entries -/
structure Ry where
  x : Rx
  ents : List En
def RyE : EP Ry := fun w y vs => ∃ o1 n1 c1 o2 n2 c2, vs = xL y.x o1 n1 c1 o2 n2 c2 ∧ RowsAt w o1 n1 c1 y.x.r.rows ∧ SlE EnE 2 w o2 n2 c2 y.ents ∧ RxSz y.x
theorem RyE_mono : Mono RyE := fun w w' y vs hg ⟨o1, n1, c1, o2, n2, c2, e, h1, h2, h3⟩ => ⟨o1, n1, c1, o2, n2, c2, e, h1.ex hg, h2.ex EnE_mono hg, h3⟩
abbrev RecsAt (w : World) (oa : Option Addr) (n cap : Nat) (l : List Ry) : Prop := SlE RyE 15 w oa n cap l
theorem RecsAt.keep {w w' : World} {oa : Option Addr} {n cap : Nat} {l : List Ry} (h : RecsAt w oa n cap l) (hg : Gr w w') : RecsAt w' oa n cap l := SlE.keep RyE_mono h hg
abbrev EntsAt (w : World) (oa : Option Addr) (n cap : Nat) (l : List En) : Prop := SlE EnE 2 w oa n cap l
abbrev rcs (l : List Ry) : List Rc := l.map fun y => y.x.r
/-- a record in memory: its cells, and what they lead to -/
structure RecAt (w : World) (b o : Nat) (y : Ry) (o1 : Option Addr) (n1 c1 : Nat) (o2 : Option Addr) (n2 c2 : Nat) : Prop where
  rng : w.rangeAt b o (xL y.x o1 n1 c1 o2 n2 c2)
  rows : RowsAt w o1 n1 c1 y.x.r.rows
  ents : EntsAt w o2 n2 c2 y.ents
  size : RxSz y.x
theorem RecAt.keep {w w' : World} {b o : Nat} {y : Ry} {o1 : Option Addr} {n1 c1 : Nat} {o2 : Option Addr} {n2 c2 : Nat} (h : RecAt w b o y o1 n1 c1 o2 n2 c2) (hg : Gr w w') : RecAt w' b o y o1 n1 c1 o2 n2 c2 :=
  ⟨hg.range h.rng, h.rows.keep hg, SlE.keep EnE_mono h.ents hg, h.size⟩
theorem RecsAt.get {w : World} {oa : Option Addr} {n cap : Nat} {l : List Ry} (h : RecsAt w oa n cap l) :
    ∃ b off, (0 < n → oa = some ⟨b, off, none⟩) ∧ ∀ i y, l[i]? = some y → ∃ o1 n1 c1 o2 n2 c2, RecAt w b (off + i * 15) y o1 n1 c1 o2 n2 c2 := by
  obtain ⟨b, off, h1, h2⟩ := h.cells
  refine ⟨b, off, fun q => (h1 q).1, fun i y hi => ?_⟩
  obtain ⟨vs, -, -, ⟨o1, n1, c1, o2, n2, c2, rfl, h3, h4, h5⟩, h6⟩ := h2 i y hi
  exact ⟨o1, n1, c1, o2, n2, c2, h6, h3, h4, h5⟩
theorem RecAt.cell {w : World} {b o : Nat} {y : Ry} {o1 : Option Addr} {n1 c1 : Nat} {o2 : Option Addr} {n2 c2 : Nat} (h : RecAt w b o y o1 n1 c1 o2 n2 c2) (j : Nat) {u : Value} (hu : (xL y.x o1 n1 c1 o2 n2 c2)[j]? = some u) : w.cell? ⟨b, o + j, none⟩ = some u := h.rng j u hu
theorem cells_rec : Tryd.prog.cellsOf 49 = 15 := by kernel_rfl
theorem run_rec {oa : Option Addr} {n b off : Nat} (cap : Nat) (ho : 0 < n → oa = some ⟨b, off, none⟩) {k : Nat} (hk : k < n) (w : World) :
    (Instr.indexAt 22 (.slice oa n cap) (.int .i64 (k : Int))).run Tryd.prog w = .ok (.pointer (some ⟨b, off + k * 15, none⟩)) w := by
  rw [ho (by omega)]
  go_simp
theorem run_recI {oa : Option Addr} {n b off : Nat} (cap : Nat) (ho : 0 < n → oa = some ⟨b, off, none⟩) {k : Int} (h0 : 0 ≤ k) (hk : k < n) (w : World) :
    (Instr.indexAt 22 (.slice oa n cap) (.int .i64 k)).run Tryd.prog w = .ok (.pointer (some ⟨b, off + k.toNat * 15, none⟩)) w := by
  obtain ⟨m, rfl⟩ := Int.eq_ofNat_of_zero_le h0
  exact run_rec cap ho (by omega) w

/-- what Fold tells -/
def FoldTells (w : World) (res : Option Vw × Int) (e : Ending) (w' : World) : Prop :=
  match res.1 with
  | some v => ∃ o n c, e = .returned (.tuple #[vwV v o n c, .nilIface]) ∧ OwnAt w' w.heap.size o n c v.rows ∧ VwSz v ∧ Gr w w'
  | none => e = .returned (.tuple #[vwV ⟨⟨#[]⟩, ⟨#[]⟩, false, 0, [], false⟩ none 0 0, errV res.2]) ∧ Gr w w'
end Go.Proofs.YtidfelbaegaphaaDoor
