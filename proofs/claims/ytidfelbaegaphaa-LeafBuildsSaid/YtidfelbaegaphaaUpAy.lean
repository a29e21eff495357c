import Derived.Test.YtidfelbaegaphaaUp1y
import Derived.Test.YtidfelbaegaphaaUp2y
import Derived.Test.YtidfelbaegaphaaUp4y
namespace Go.Proofs.Ytidfelbaegaphaa
set_option linter.unusedVariables false
set_option linter.unusedSimpArgs false
open Go.BigFrame Go.RowKit Go.WideShapes

/-- what lies in blocks that stay lies there -/
theorem OwnAt.away {w w' : World} {base : Nat} {oa : Option Addr} {n cap : Nat} {l : List Rw} (h : OwnAt w base oa n cap l) (hf : ∀ g, Value.ownBlock (.slice oa n cap) = some g → w'.heap[g]? = w.heap[g]?) (hs : w.heap.size ≤ w'.heap.size) : OwnAt w' base oa n cap l := by
  obtain ⟨⟨ho1, ho2⟩, hr⟩ := h
  rcases ho2 with ⟨e, hn⟩ | ⟨g, cap', cur, e, hb, hcur, rest⟩
  · refine ⟨⟨ho1, .inl ⟨e, hn⟩⟩, hr.len, hr.cap_le, hr.cap_max, hr.none, ⟨0, 0, fun q => absurd q (by omega), fun i hi => absurd hi (by omega)⟩, hr.sizes⟩
  · have hk := hf g (by rw [e]; rfl)
    simp only [Value.slice.injEq] at e
    obtain ⟨rfl, -, rfl⟩ := e
    obtain ⟨b, off, h5, h6⟩ := hr.cells
    refine ⟨⟨ho1, .inr ⟨g, cap, cur, rfl, hb, hk.trans hcur, rest⟩⟩, hr.len, hr.cap_le, hr.cap_max, hr.none, ⟨b, off, fun q => ?_, fun i hi => ?_⟩, hr.sizes⟩
    · exact ⟨(h5 q).1, Nat.lt_of_lt_of_le (h5 q).2 hs⟩
    · have e1 := (h5 (by omega)).1
      obtain ⟨rfl, rfl⟩ : g = b ∧ 0 = off := by simpa using e1
      have hc : ∀ j, w'.cell? ⟨g, j, none⟩ = w.cell? ⟨g, j, none⟩ := fun j => World.cell?_of_block (w := w) (a := ⟨g, j, none⟩) hk
      rw [hc, hc]
      exact h6 i hi
theorem heap_setCells {g b : Nat} (hb : g ≠ b) (us : List Value) : ∀ (w : World) (i : Nat), (w.setCells b i us).heap[g]? = w.heap[g]? := by
  induction us with
  | nil => intro w i; rfl
  | cons u us ih => intro w i; exact (ih (w.setCell ⟨b, i, none⟩ u) (i + 1)).trans (by simp only [World.setCell, Array.getElem?_modify]; rw [if_neg (fun e => hb e.symm)])
theorem size_setCells {b : Nat} (us : List Value) : ∀ (w : World) (i : Nat), (w.setCells b i us).heap.size = w.heap.size := by
  induction us with
  | nil => intro w i; rfl
  | cons u us ih => intro w i; exact (ih (w.setCell ⟨b, i, none⟩ u) (i + 1)).trans (by simp [World.setCell])
theorem OwnAt.setOther {w : World} {base b : Nat} {oa : Option Addr} {n cap : Nat} {l : List Rw} (h : OwnAt w base oa n cap l) (hb : Value.ownBlock (.slice oa n cap) ≠ some b) (us : List Value) (i : Nat) : OwnAt (w.setCells b i us) base oa n cap l :=
  h.away (fun g hg => heap_setCells (fun e => hb (by rw [← e]; exact hg)) us w i) (by rw [size_setCells]; exact Nat.le_refl _)
theorem OwnAt.block {w : World} {base : Nat} {oa : Option Addr} {n cap : Nat} {l : List Rw} (h : OwnAt w base oa n cap l) {g : Nat} (hg : Value.ownBlock (.slice oa n cap) = some g) : base ≤ g := (h.own.lt g hg).1
/-- what up tells, and where the rows lie -/
def UpTells (base : Nat) (w : World) (oa : Option Addr) (n cap : Nat) (res : Option Vw) (e : Ending) (w' : World) : Prop :=
  match res with
  | some v2 => ∃ o n2 c, e = .returned (.tuple #[vwV v2 o n2 c, .bool true]) ∧ OwnAt w' base o n2 c v2.rows ∧ (∀ g, Value.ownBlock (.slice o n2 c) = some g → w.heap.size ≤ g ∨ Value.ownBlock (.slice oa n cap) = some g) ∧ Gr w w'
  | none => ∃ (a b : ByteArray) (u g : Bool) (r : Int) (o : Option Addr) (n c : Nat), e = .returned (.tuple #[.agg #[.string a, .string b, .bool u, .int .i64 r, .slice o n c, .bool g], .bool false]) ∧ Gr w w'
theorem UpTells.of {base : Nat} {w w' : World} {oa : Option Addr} {n cap : Nat} {res : Option Vw} {e : Ending} (hb : base ≤ w.heap.size) (h : UpPost w.heap.size w res e w') : UpTells base w oa n cap res e w' := by
  cases res with
  | none => exact h
  | some v2 =>
    obtain ⟨o, n2, c, h1, h2, h3⟩ := h
    exact ⟨o, n2, c, h1, h2.lower2 hb, fun g hg => .inl (h2.block hg), h3⟩
theorem up_any {base : Nat} (v : Vw) (x : Rx) (oa : Option Addr) (n cap : Nat) (oa2 : Option Addr) (n2 cap2 : Nat) (ob : Option Addr) (m cap3 : Nat) (w : World) (hO : OwnAt w base oa n cap v.rows) (hR2 : RowsAt w oa2 n2 cap2 x.r.rows) (hn : n ≤ 1000000) (hn2 : n2 ≤ 1000000) (hb : base ≤ w.heap.size) (hv : VwSz v) (hx : RxSz x) :
    Calls Try.prog 28 #[vwV v oa n cap, rxV x oa2 n2 cap2 ob m cap3] w (UpTells base w oa n cap (upP v x.r)) := by
  by_cases k2 : x.r.kind = 2
  · exact (up_put v x oa n cap oa2 n2 cap2 ob m cap3 w hO.rows hn (Nat.le_refl _) hv hx k2).mono fun _ _ h => UpTells.of hb h
  by_cases k3 : x.r.kind = 3
  · exact (up_del v x oa n cap oa2 n2 cap2 ob m cap3 w hO.rows hn (Nat.le_refl _) hv hx k3).mono fun _ _ h => UpTells.of hb h
  by_cases k4 : x.r.kind = 4
  · exact (up_split v x oa n cap oa2 n2 cap2 ob m cap3 w hO.rows hn (Nat.le_refl _) hv hx k4).mono fun _ _ h => UpTells.of hb h
  by_cases k6 : x.r.kind = 6
  · exact (up_merge v x oa n cap oa2 n2 cap2 ob m cap3 w hO.rows hR2 hn hn2 (Nat.le_refl _) hv hx k6).mono fun _ _ h => UpTells.of hb h
  by_cases k5 : x.r.kind = 5
  · refine (up_rem v x oa n cap oa2 n2 cap2 ob m cap3 w k5).mono fun e w' h => ?_
    unfold UpRem at h
    have hU : upP v x.r = if v.gone = false then some { v with gone := true } else none := by
      unfold upP; rw [if_neg (by omega), if_neg (by omega), if_neg (by omega), if_neg (by omega), if_pos k5]
    rw [hU]
    by_cases hg : v.gone = false
    · rw [if_pos hg] at h ⊢
      exact ⟨oa, n, cap, h.1, hO.keep h.2, fun g q => .inr q, h.2⟩
    · rw [if_neg hg] at h ⊢
      exact h
  · exact (up_other v x oa n cap oa2 n2 cap2 ob m cap3 w hn (Nat.le_refl _) hv hx (by omega)).mono fun _ _ h => UpTells.of hb h
end Go.Proofs.Ytidfelbaegaphaa

namespace Go.Proofs.Ytidfelbaegaphaa
set_option linter.unusedVariables false
set_option linter.unusedSimpArgs false
open Go.BigFrame Go.RowKit Go.WideShapes

/-! Records, whole, in slices. -/
/-- an entry -/
structure En where
  key : ByteArray
  page : Int
def EnE : EP En := fun w x vs => vs = [.string x.key, .int .i64 x.page] ∧ x.key.size ≤ maxLen
theorem EnE_mono : Mono EnE := fun _ _ _ _ _ h => h
/-- a record and its entries -/
structure Ry where
  x : Rx
  ents : List En
def RyE : EP Ry := fun w y vs => ∃ o1 n1 c1 o2 n2 c2, vs = xL y.x o1 n1 c1 o2 n2 c2 ∧ RowsAt w o1 n1 c1 y.x.r.rows ∧ SlE EnE 2 w o2 n2 c2 y.ents ∧ RxSz y.x
theorem RyE_mono : Mono RyE := fun w w' y vs hg ⟨o1, n1, c1, o2, n2, c2, e, h1, h2, h3⟩ => ⟨o1, n1, c1, o2, n2, c2, e, h1.ex hg, h2.ex EnE_mono hg, h3⟩
abbrev RecsAt (w : World) (oa : Option Addr) (n cap : Nat) (l : List Ry) : Prop := SlE RyE 15 w oa n cap l
theorem RecsAt.keep {w w' : World} {oa : Option Addr} {n cap : Nat} {l : List Ry} (h : RecsAt w oa n cap l) (hg : Gr w w') : RecsAt w' oa n cap l := SlE.keep RyE_mono h hg
abbrev EntsAt (w : World) (oa : Option Addr) (n cap : Nat) (l : List En) : Prop := SlE EnE 2 w oa n cap l
abbrev rcs (l : List Ry) : List Rc := l.map fun y => y.x.r
/-- a record in memory: its cells, and what they lead to -/
structure RecAt (w : World) (b o : Nat) (y : Ry) (o1 : Option Addr) (n1 c1 : Nat) (o2 : Option Addr) (n2 c2 : Nat) : Prop where
  rng : w.rangeAt b o (xL y.x o1 n1 c1 o2 n2 c2)
  rows : RowsAt w o1 n1 c1 y.x.r.rows
  ents : EntsAt w o2 n2 c2 y.ents
  size : RxSz y.x
theorem RecAt.keep {w w' : World} {b o : Nat} {y : Ry} {o1 : Option Addr} {n1 c1 : Nat} {o2 : Option Addr} {n2 c2 : Nat} (h : RecAt w b o y o1 n1 c1 o2 n2 c2) (hg : Gr w w') : RecAt w' b o y o1 n1 c1 o2 n2 c2 :=
  ⟨hg.range h.rng, h.rows.keep hg, SlE.keep EnE_mono h.ents hg, h.size⟩
theorem RecsAt.get {w : World} {oa : Option Addr} {n cap : Nat} {l : List Ry} (h : RecsAt w oa n cap l) :
    ∃ b off, (0 < n → oa = some ⟨b, off, none⟩) ∧ ∀ i y, l[i]? = some y → ∃ o1 n1 c1 o2 n2 c2, RecAt w b (off + i * 15) y o1 n1 c1 o2 n2 c2 := by
  obtain ⟨b, off, h1, h2⟩ := h.cells
  refine ⟨b, off, fun q => (h1 q).1, fun i y hi => ?_⟩
  obtain ⟨vs, -, -, ⟨o1, n1, c1, o2, n2, c2, rfl, h3, h4, h5⟩, h6⟩ := h2 i y hi
  exact ⟨o1, n1, c1, o2, n2, c2, h6, h3, h4, h5⟩
theorem RecAt.cell {w : World} {b o : Nat} {y : Ry} {o1 : Option Addr} {n1 c1 : Nat} {o2 : Option Addr} {n2 c2 : Nat} (h : RecAt w b o y o1 n1 c1 o2 n2 c2) (j : Nat) {u : Value} (hu : (xL y.x o1 n1 c1 o2 n2 c2)[j]? = some u) : w.cell? ⟨b, o + j, none⟩ = some u := h.rng j u hu
theorem cells_rec : Try.prog.cellsOf 35 = 15 := by kernel_rfl
theorem run_rec {oa : Option Addr} {n b off : Nat} (cap : Nat) (ho : 0 < n → oa = some ⟨b, off, none⟩) {k : Nat} (hk : k < n) (w : World) :
    (Instr.indexAt 59 (.slice oa n cap) (.int .i64 (k : Int))).run Try.prog w = .ok (.pointer (some ⟨b, off + k * 15, none⟩)) w := by
  rw [ho (by omega)]
  go_simp
theorem run_recI {oa : Option Addr} {n b off : Nat} (cap : Nat) (ho : 0 < n → oa = some ⟨b, off, none⟩) {k : Int} (h0 : 0 ≤ k) (hk : k < n) (w : World) :
    (Instr.indexAt 59 (.slice oa n cap) (.int .i64 k)).run Try.prog w = .ok (.pointer (some ⟨b, off + k.toNat * 15, none⟩)) w := by
  obtain ⟨m, rfl⟩ := Int.eq_ofNat_of_zero_le h0
  exact run_rec cap ho (by omega) w

/-- what Fold tells -/
def FoldTells (w : World) (res : Option Vw × Int) (e : Ending) (w' : World) : Prop :=
  match res.1 with
  | some v => ∃ o n c, e = .returned (.tuple #[vwV v o n c, .nilIface]) ∧ OwnAt w' w.heap.size o n c v.rows ∧ VwSz v ∧ Gr w w'
  | none => e = .returned (.tuple #[vwV ⟨⟨#[]⟩, ⟨#[]⟩, false, 0, [], false⟩ none 0 0, errV res.2]) ∧ Gr w w'
end Go.Proofs.Ytidfelbaegaphaa

namespace Go.Proofs.Ytidfelbaegaphaa
set_option linter.unusedVariables false
set_option linter.unusedSimpArgs false
open Go.BigFrame Go.RowKit Go.WideShapes

theorem entT : SlT Try.prog 29 69 2 24 := ⟨Try.underlying29, by
  obtain ⟨i, hi, hz, hsi, hby⟩ := info_parts (show (Try.prog.info? 69).map (fun i => (i.zero, i.size, i.bytes)) = some (some (.agg #[.string ⟨#[]⟩, .int .i64 0]), 2, 24) by kernel_rfl)
  exact ⟨i, _, hi, hz, hsi, hby, rfl⟩, by decide⟩
abbrev zR : List Value := [.int .i64 0, .string ⟨#[]⟩, .string ⟨#[]⟩, .bool false, .int .i64 0, .slice none 0 0, .slice none 0 0, .string ⟨#[]⟩, .string ⟨#[]⟩, .int .i64 0, .int .i64 0, .int .i64 0, .string ⟨#[]⟩, .int .i64 0, .int .i64 0]
/-- a record in memory of the call's own -/
def CloneTells (w : World) (y : Ry) (e : Ending) (w' : World) : Prop :=
  ∃ o1 n1 c1 o2 n2 c2, e = .returned (rxV y.x o1 n1 c1 o2 n2 c2) ∧ OwnAt w' w.heap.size o1 n1 c1 y.x.r.rows ∧ OwnS EnE 2 69 w' w.heap.size o2 n2 c2 y.ents ∧ Gr w w'
theorem OwnS.setLow {α : Type} {E : EP α} (hE : Mono E) {k : Nat} {T : TypeId} {w : World} {base b i : Nat} {u : Value} {oa : Option Addr} {n cap : Nat} {l : List α} (h : OwnS E k T w base oa n cap l) (hb : b < base) (hEw : ∀ x vs, E (hideB w (Value.ownBlock (.slice oa n cap))) x vs → E (hideB (w.setCell ⟨b, i, none⟩ u) (Value.ownBlock (.slice oa n cap))) x vs) : OwnS E k T (w.setCell ⟨b, i, none⟩ u) base oa n cap l := by
  obtain ⟨hl, vss, h1, h2, ⟨h3, h4⟩, h5⟩ := h
  refine ⟨hl, vss, h1, h2, ⟨h3, ?_⟩, fun j x vs hj hv => hEw _ _ (h5 j x vs hj hv)⟩
  rcases h4 with e | ⟨g, cp, cur, e, hg, hcur, rest⟩
  · exact .inl e
  · refine .inr ⟨g, cp, cur, e, hg, ?_, rest⟩
    simp only [World.setCell, Array.getElem?_modify]
    rw [if_neg (by omega)]; exact hcur
theorem ents_setLow {w : World} {base b i : Nat} {u : Value} {oa : Option Addr} {n cap : Nat} {l : List En} (h : OwnS EnE 2 69 w base oa n cap l) (hb : b < base) : OwnS EnE 2 69 (w.setCell ⟨b, i, none⟩ u) base oa n cap l :=
  h.setLow EnE_mono hb (fun _ _ q => q)
theorem ents_setLows {base b : Nat} {oa : Option Addr} {n cap : Nat} {l : List En} (hb : b < base) (us : List Value) : ∀ {w : World} (i : Nat), OwnS EnE 2 69 w base oa n cap l → OwnS EnE 2 69 (w.setCells b i us) base oa n cap l := by
  induction us with
  | nil => intro w i h; exact h
  | cons u us ih => intro w i h; exact ih (i + 1) (ents_setLow h hb)

end Go.Proofs.Ytidfelbaegaphaa

namespace Go.Proofs.Ytidfelbaegaphaa
set_option linter.unusedVariables false
set_option linter.unusedSimpArgs false
open Go.BigFrame Go.RowKit Go.WideShapes

theorem recT : SlT Try.prog 59 35 15 192 := ⟨Try.underlying59, by
  obtain ⟨i, hi, hz, hsi, hby⟩ := info_parts (show (Try.prog.info? 35).map (fun i => (i.zero, i.size, i.bytes)) = some (some (.agg zR.toArray), 15, 192) by kernel_rfl)
  exact ⟨i, _, hi, hz, hsi, hby, rfl⟩, by decide⟩
/-- rows of the call's own lie beside an older block -/
theorem OwnAt.hide {w : World} {base : Nat} {oa : Option Addr} {n cap : Nat} {l : List Rw} (h : OwnAt w base oa n cap l) {r : Option Nat} (hr : ∀ g, r = some g → g < base) : RowsAt (hideB w r) oa n cap l := by
  obtain ⟨h1, h2, h3, h4, ⟨b, off, h5, h6⟩, h7⟩ := h.rows
  refine ⟨h1, h2, h3, h4, ⟨b, off, fun q => ⟨(h5 q).1, by rw [hideB_size]; exact (h5 q).2⟩, fun i hi => ?_⟩, h7⟩
  have hb : base ≤ b := h.block (by rw [(h5 (by omega)).1]; rfl)
  have hne : r ≠ some b := fun e => by have := hr b e; omega
  exact ⟨hideB_cell.2 ⟨hne, (h6 i hi).1⟩, hideB_cell.2 ⟨hne, (h6 i hi).2⟩⟩
theorem OwnS.hideE {w : World} {base : Nat} {T : TypeId} {oa : Option Addr} {n cap : Nat} {l : List En} (h : OwnS EnE 2 T w base oa n cap l) {r : Option Nat} (hr : ∀ g, r = some g → g < base) : EntsAt (hideB w r) oa n cap l := by
  have hb := fun g hg => (h.lt g hg).1
  obtain ⟨h1, h2, h3, h4, b, off, h5, h6⟩ := h.sl EnE_mono
  refine ⟨h1, h2, h3, h4, b, off, fun q => ⟨(h5 q).1, by rw [hideB_size]; exact (h5 q).2⟩, fun i x hi => ?_⟩
  obtain ⟨vs, e1, e2, e3, e4⟩ := h6 i x hi
  have hil : i < n := by have := (List.getElem?_eq_some_iff.1 hi).1; omega
  have hbb : base ≤ b := hb b (by rw [(h5 (by omega)).1]; rfl)
  have hne : r ≠ some b := fun e => by have := hr b e; omega
  exact ⟨vs, e1, e2, e3, fun j u hj => hideB_cell.2 ⟨hne, e4 j u hj⟩⟩
theorem xL_one (x : Rx) (o1 : Option Addr) (n1 c1 : Nat) (o2 : Option Addr) (n2 c2 : Nat) : ∀ u ∈ xL x o1 n1 c1 o2 n2 c2, u.oneCell' = true := by
  intro u hu
  simp only [List.mem_cons, List.not_mem_nil, or_false] at hu
  rcases hu with rfl | rfl | rfl | rfl | rfl | rfl | rfl | rfl | rfl | rfl | rfl | rfl | rfl | rfl | rfl <;> rfl
/-- a clone in a block of one, beside an older block -/
theorem clone_one {w3 : World} {base : Nat} {y : Ry} {o1 : Option Addr} {n1 c1 : Nat} {o2 : Option Addr} {n2 c2 : Nat} {T T2 : TypeId} (hO : OwnAt w3 base o1 n1 c1 y.x.r.rows) (hS : OwnS EnE 2 T2 w3 base o2 n2 c2 y.ents) (hz : RxSz y.x) (hb3 : base ≤ w3.heap.size) {r : Option Nat} (hr : ∀ g, r = some g → g < base) :
    SlE RyE 15 (hideB (w3.alloc (.cells (xL y.x o1 n1 c1 o2 n2 c2).toArray T)) r) (some ⟨w3.heap.size, 0, none⟩) 1 1 [y] := by
  have hm := hideB_gr (r := r) ((Gr.refl w3).alloc (.cells (xL y.x o1 n1 c1 o2 n2 c2).toArray T))
  refine SlE.one (by decide) (Nat.le_refl _) (by unfold maxLen; omega) rfl (xL_one _ _ _ _ _ _ _) ⟨o1, n1, c1, o2, n2, c2, rfl, (hO.hide hr).ex hm, (hS.hideE hr).ex EnE_mono hm, hz⟩ fun j u hj => ?_
  refine hideB_cell.2 ⟨fun e => by have := hr _ e; omega, ?_⟩
  have := World.cell?_alloc_new w3 (xL y.x o1 n1 c1 o2 n2 c2).toArray T j
  rw [Nat.zero_add, this]
  simpa using hj

end Go.Proofs.Ytidfelbaegaphaa

namespace Go.Proofs.Ytidfelbaegaphaa
set_option linter.unusedVariables false
set_option linter.unusedSimpArgs false

/-! Fold, plainly, step by step from the last record on. -/
/-- the view behind the records from k on -/
def viewAt (l : List Ry) (b : Ry) (k : Nat) : Option Vw := foldV upP ((rcs l).dropLast.drop k) (baseV b.x.r)
theorem viewAt_end (l : List Ry) (b : Ry) {k : Nat} (h : l.length ≤ k + 1) : viewAt l b k = some (baseV b.x.r) := by
  unfold viewAt
  rw [List.drop_eq_nil_of_le (by simp; omega)]; rfl
theorem viewAt_step (l : List Ry) (b : Ry) {k : Nat} {y : Ry} (h : l[k]? = some y) (hk : k + 1 < l.length) : viewAt l b k = (viewAt l b (k + 1)).bind fun v => upP v y.x.r := by
  unfold viewAt
  have hd : k < (rcs l).dropLast.length := by simp; omega
  rw [List.drop_eq_getElem_cons hd, foldV_cons]
  have : (rcs l).dropLast[k] = y.x.r := by
    rw [List.getElem_dropLast, List.getElem_map]
    obtain ⟨h1, h2⟩ := List.getElem?_eq_some_iff.1 h
    rw [h2]
  rw [this]
theorem viewAt_none (l : List Ry) (b : Ry) : ∀ k, viewAt l b k = none → viewAt l b 0 = none := by
  intro k
  induction k with
  | zero => exact id
  | succ k ih =>
    intro h
    apply ih
    by_cases hk : k + 1 < l.length
    · have hy : l[k]? = some l[k] := List.getElem?_eq_getElem (by omega)
      rw [viewAt_step l b hy hk, h]; rfl
    · rw [viewAt_end l b (k := k + 1) (by omega)] at h; cases h
def kindsB (l : List Ry) : Prop := ∀ (i : Nat) (y : Ry), l[i]? = some y → 1 ≤ y.x.r.kind ∧ y.x.r.kind ≤ 6
theorem kinds_iff (l : List Ry) : kindsOk (rcs l) ↔ kindsB l := by
  unfold kindsOk kindsB
  constructor
  · intro h i y hi
    exact h _ (List.mem_map.2 ⟨y, List.mem_of_getElem? hi, rfl⟩)
  · intro h r hr
    obtain ⟨y, hy, rfl⟩ := List.mem_map.1 hr
    obtain ⟨i, hi⟩ := List.getElem?_of_mem hy
    exact h i y hi
theorem fold_bad {l : List Ry} (h : ¬ kindsB l) : foldP (rcs l) = (none, 9) := by
  unfold foldP; rw [if_neg (fun q => h ((kinds_iff l).1 q))]
theorem fold_nil : foldP (rcs []) = (none, 10) := rfl
theorem fold_last {l : List Ry} (h : kindsB l) {b : Ry} (hb : l[l.length - 1]? = some b) : foldP (rcs l) = ((if b.x.r.kind = 1 ∧ soundP b.x.r.rows b.x.r.low b.x.r.high b.x.r.unb = true then (match viewAt l b 0 with | some v => (some v, 0) | none => (none, 10)) else (none, 10)) : Option Vw × Int) := by
  unfold foldP
  rw [if_pos ((kinds_iff l).2 h)]
  have : (rcs l).getLast? = some b.x.r := by
    rw [List.getLast?_eq_getElem?, List.getElem?_map, List.length_map, hb]; rfl
  rw [this]
  rfl
theorem up_sizes {v v' : Vw} {x : Rx} (hv : VwSz v) (hx : RxSz x) (h : upP v x.r = some v') : VwSz v' ∧ v'.rows.length ≤ v.rows.length + 1 + x.r.rows.length := by
  unfold upP at h
  split at h
  · split at h
    · cases h
      refine ⟨⟨hv.low, hv.high⟩, ?_⟩
      show (putL v.rows _).length ≤ _
      have hpl := place_le x.r.key v.rows
      unfold putL
      rw [List.length_append, List.length_append, List.length_take, List.length_drop, List.length_singleton]
      dsimp only
      split <;> omega
    · cases h
  · split at h
    · split at h
      · cases h
        refine ⟨⟨hv.low, hv.high⟩, ?_⟩
        have := (drop_sub v.rows x.r.key).length_le
        show (dropL v.rows _).length ≤ _
        omega
      · cases h
    · split at h
      · split at h
        · cases h
          refine ⟨⟨hv.low, hx.key⟩, ?_⟩
          show (v.rows.take _).length ≤ _
          rw [List.length_take]; omega
        · cases h
      · split at h
        · split at h
          · cases h
            refine ⟨⟨hv.low, hx.high⟩, ?_⟩
            show (v.rows ++ x.r.rows).length ≤ _
            rw [List.length_append]; omega
          · cases h
        · split at h
          · split at h
            · cases h
              exact ⟨⟨hv.low, hv.high⟩, by show v.rows.length ≤ _; omega⟩
            · cases h
          · cases h
end Go.Proofs.Ytidfelbaegaphaa
