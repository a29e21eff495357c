import Derived.Test.YtidfelbaegaphaaDoorUp1z
import Derived.Test.YtidfelbaegaphaaDoorUp2z
import Derived.Test.YtidfelbaegaphaaDoorUp4z
namespace Go.Proofs.YtidfelbaegaphaaDoor
set_option linter.unusedVariables false
set_option linter.unusedSimpArgs false
open Go.BigFrame Go.RowKit Go.WideShapes

/-- what lies in blocks that stay lies there -/
theorem OwnAt.away {w w' : World} {base : Nat} {oa : Option Addr} {n cap : Nat} {l : List Rw} (h : OwnAt w base oa n cap l) (hf : ∀ g, Value.ownBlock (.slice oa n cap) = some g → w'.heap[g]? = w.heap[g]?) (hs : w.heap.size ≤ w'.heap.size) : OwnAt w' base oa n cap l := by
  obtain ⟨⟨ho1, ho2⟩, hr⟩ := h
  rcases ho2 with ⟨e, hn⟩ | ⟨g, cap', cur, e, hb, hcur, rest⟩
  · refine ⟨⟨ho1, .inl ⟨e, hn⟩⟩, hr.len, hr.cap_le, hr.cap_max, hr.none, ⟨0, 0, fun q => absurd q (by omega), fun i hi => absurd hi (by omega)⟩, hr.sizes⟩
  · have hk := hf g (by rw [e]; rfl)
    simp only [Value.slice.injEq] at e
    obtain ⟨rfl, -, rfl⟩ := e
    obtain ⟨b, off, h5, h6⟩ := hr.cells
    refine ⟨⟨ho1, .inr ⟨g, cap, cur, rfl, hb, hk.trans hcur, rest⟩⟩, hr.len, hr.cap_le, hr.cap_max, hr.none, ⟨b, off, fun q => ?_, fun i hi => ?_⟩, hr.sizes⟩
    · exact ⟨(h5 q).1, Nat.lt_of_lt_of_le (h5 q).2 hs⟩
    · have e1 := (h5 (by omega)).1
      obtain ⟨rfl, rfl⟩ : g = b ∧ 0 = off := by simpa using e1
      have hc : ∀ j, w'.cell? ⟨g, j, none⟩ = w.cell? ⟨g, j, none⟩ := fun j => World.cell?_of_block (w := w) (a := ⟨g, j, none⟩) hk
      rw [hc, hc]
      exact h6 i hi
theorem heap_setCells {g b : Nat} (hb : g ≠ b) (us : List Value) : ∀ (w : World) (i : Nat), (w.setCells b i us).heap[g]? = w.heap[g]? := by
  induction us with
  | nil => intro w i; rfl
  | cons u us ih => intro w i; exact (ih (w.setCell ⟨b, i, none⟩ u) (i + 1)).trans (by simp only [World.setCell, Array.getElem?_modify]; rw [if_neg (fun e => hb e.symm)])
theorem size_setCells {b : Nat} (us : List Value) : ∀ (w : World) (i : Nat), (w.setCells b i us).heap.size = w.heap.size := by
  induction us with
  | nil => intro w i; rfl
  | cons u us ih => intro w i; exact (ih (w.setCell ⟨b, i, none⟩ u) (i + 1)).trans (by simp [World.setCell])
theorem OwnAt.setOther {w : World} {base b : Nat} {oa : Option Addr} {n cap : Nat} {l : List Rw} (h : OwnAt w base oa n cap l) (hb : Value.ownBlock (.slice oa n cap) ≠ some b) (us : List Value) (i : Nat) : OwnAt (w.setCells b i us) base oa n cap l :=
  h.away (fun g hg => heap_setCells (fun e => hb (by rw [← e]; exact hg)) us w i) (by rw [size_setCells]; exact Nat.le_refl _)
theorem OwnAt.block {w : World} {base : Nat} {oa : Option Addr} {n cap : Nat} {l : List Rw} (h : OwnAt w base oa n cap l) {g : Nat} (hg : Value.ownBlock (.slice oa n cap) = some g) : base ≤ g := (h.own.lt g hg).1
/-- what up tells, and where the rows lie -/
def UpTells (base : Nat) (w : World) (oa : Option Addr) (n cap : Nat) (res : Option Vw) (e : Ending) (w' : World) : Prop :=
  match res with
  | some v2 => ∃ o n2 c, e = .returned (.tuple #[vwV v2 o n2 c, .bool true]) ∧ OwnAt w' base o n2 c v2.rows ∧ (∀ g, Value.ownBlock (.slice o n2 c) = some g → w.heap.size ≤ g ∨ Value.ownBlock (.slice oa n cap) = some g) ∧ Gr w w'
  | none => ∃ (a b : ByteArray) (u g : Bool) (r : Int) (o : Option Addr) (n c : Nat), e = .returned (.tuple #[.agg #[.string a, .string b, .bool u, .int .i64 r, .slice o n c, .bool g], .bool false]) ∧ Gr w w'
theorem UpTells.of {base : Nat} {w w' : World} {oa : Option Addr} {n cap : Nat} {res : Option Vw} {e : Ending} (hb : base ≤ w.heap.size) (h : UpPost w.heap.size w res e w') : UpTells base w oa n cap res e w' := by
  cases res with
  | none => exact h
  | some v2 =>
    obtain ⟨o, n2, c, h1, h2, h3⟩ := h
    exact ⟨o, n2, c, h1, h2.lower2 hb, fun g hg => .inl (h2.block hg), h3⟩
theorem up_any {base : Nat} (v : Vw) (x : Rx) (oa : Option Addr) (n cap : Nat) (oa2 : Option Addr) (n2 cap2 : Nat) (ob : Option Addr) (m cap3 : Nat) (w : World) (hO : OwnAt w base oa n cap v.rows) (hR2 : RowsAt w oa2 n2 cap2 x.r.rows) (hn : n ≤ 1000000) (hn2 : n2 ≤ 1000000) (hb : base ≤ w.heap.size) (hv : VwSz v) (hx : RxSz x) :
    Calls Tryd.prog 24 #[vwV v oa n cap, rxV x oa2 n2 cap2 ob m cap3] w (UpTells base w oa n cap (upP v x.r)) := by
  by_cases k2 : x.r.kind = 2
  · exact (up_put v x oa n cap oa2 n2 cap2 ob m cap3 w hO.rows hn (Nat.le_refl _) hv hx k2).mono fun _ _ h => UpTells.of hb h
  by_cases k3 : x.r.kind = 3
  · exact (up_del v x oa n cap oa2 n2 cap2 ob m cap3 w hO.rows hn (Nat.le_refl _) hv hx k3).mono fun _ _ h => UpTells.of hb h
  by_cases k4 : x.r.kind = 4
  · exact (up_split v x oa n cap oa2 n2 cap2 ob m cap3 w hO.rows hn (Nat.le_refl _) hv hx k4).mono fun _ _ h => UpTells.of hb h
  by_cases k6 : x.r.kind = 6
  · exact (up_merge v x oa n cap oa2 n2 cap2 ob m cap3 w hO.rows hR2 hn hn2 (Nat.le_refl _) hv hx k6).mono fun _ _ h => UpTells.of hb h
  by_cases k5 : x.r.kind = 5
  · refine (up_rem v x oa n cap oa2 n2 cap2 ob m cap3 w k5).mono fun e w' h => ?_
    unfold UpRem at h
    have hU : upP v x.r = if v.gone = false then some { v with gone := true } else none := by
      unfold upP; rw [if_neg (by omega), if_neg (by omega), if_neg (by omega), if_neg (by omega), if_pos k5]
    rw [hU]
    by_cases hg : v.gone = false
    · rw [if_pos hg] at h ⊢
      exact ⟨oa, n, cap, h.1, hO.keep h.2, fun g q => .inr q, h.2⟩
    · rw [if_neg hg] at h ⊢
      exact h
  · exact (up_other v x oa n cap oa2 n2 cap2 ob m cap3 w hn (Nat.le_refl _) hv hx (by omega)).mono fun _ _ h => UpTells.of hb h
end Go.Proofs.YtidfelbaegaphaaDoor

namespace Go.Proofs.YtidfelbaegaphaaDoor
set_option linter.unusedVariables false
set_option linter.unusedSimpArgs false
open Go.BigFrame Go.RowKit Go.WideShapes

/-! Records, whole, in slices. -/
/-- an entry -/
structure En where
  key : ByteArray
  page : Int
def EnE : EP En := fun w x vs => vs = [.string x.key, .int .i64 x.page] ∧ x.key.size ≤ maxLen
theorem EnE_mono : Mono EnE := fun _ _ _ _ _ h => h
/-- a record and its entries -/
structure Ry where
  x : Rx
  ents : List En
def RyE : EP Ry := fun w y vs => ∃ o1 n1 c1 o2 n2 c2, vs = xL y.x o1 n1 c1 o2 n2 c2 ∧ RowsAt w o1 n1 c1 y.x.r.rows ∧ SlE EnE 2 w o2 n2 c2 y.ents ∧ RxSz y.x
theorem RyE_mono : Mono RyE := fun w w' y vs hg ⟨o1, n1, c1, o2, n2, c2, e, h1, h2, h3⟩ => ⟨o1, n1, c1, o2, n2, c2, e, h1.ex hg, h2.ex EnE_mono hg, h3⟩
abbrev RecsAt (w : World) (oa : Option Addr) (n cap : Nat) (l : List Ry) : Prop := SlE RyE 15 w oa n cap l
theorem RecsAt.keep {w w' : World} {oa : Option Addr} {n cap : Nat} {l : List Ry} (h : RecsAt w oa n cap l) (hg : Gr w w') : RecsAt w' oa n cap l := SlE.keep RyE_mono h hg
abbrev EntsAt (w : World) (oa : Option Addr) (n cap : Nat) (l : List En) : Prop := SlE EnE 2 w oa n cap l
abbrev rcs (l : List Ry) : List Rc := l.map fun y => y.x.r
/-- a record in memory: its cells, and what they lead to -/
structure RecAt (w : World) (b o : Nat) (y : Ry) (o1 : Option Addr) (n1 c1 : Nat) (o2 : Option Addr) (n2 c2 : Nat) : Prop where
  rng : w.rangeAt b o (xL y.x o1 n1 c1 o2 n2 c2)
  rows : RowsAt w o1 n1 c1 y.x.r.rows
  ents : EntsAt w o2 n2 c2 y.ents
  size : RxSz y.x
theorem RecAt.keep {w w' : World} {b o : Nat} {y : Ry} {o1 : Option Addr} {n1 c1 : Nat} {o2 : Option Addr} {n2 c2 : Nat} (h : RecAt w b o y o1 n1 c1 o2 n2 c2) (hg : Gr w w') : RecAt w' b o y o1 n1 c1 o2 n2 c2 :=
  ⟨hg.range h.rng, h.rows.keep hg, SlE.keep EnE_mono h.ents hg, h.size⟩
theorem RecsAt.get {w : World} {oa : Option Addr} {n cap : Nat} {l : List Ry} (h : RecsAt w oa n cap l) :
    ∃ b off, (0 < n → oa = some ⟨b, off, none⟩) ∧ ∀ i y, l[i]? = some y → ∃ o1 n1 c1 o2 n2 c2, RecAt w b (off + i * 15) y o1 n1 c1 o2 n2 c2 := by
  obtain ⟨b, off, h1, h2⟩ := h.cells
  refine ⟨b, off, fun q => (h1 q).1, fun i y hi => ?_⟩
  obtain ⟨vs, -, -, ⟨o1, n1, c1, o2, n2, c2, rfl, h3, h4, h5⟩, h6⟩ := h2 i y hi
  exact ⟨o1, n1, c1, o2, n2, c2, h6, h3, h4, h5⟩
theorem RecAt.cell {w : World} {b o : Nat} {y : Ry} {o1 : Option Addr} {n1 c1 : Nat} {o2 : Option Addr} {n2 c2 : Nat} (h : RecAt w b o y o1 n1 c1 o2 n2 c2) (j : Nat) {u : Value} (hu : (xL y.x o1 n1 c1 o2 n2 c2)[j]? = some u) : w.cell? ⟨b, o + j, none⟩ = some u := h.rng j u hu
theorem cells_rec : Tryd.prog.cellsOf 49 = 15 := by kernel_rfl
theorem run_rec {oa : Option Addr} {n b off : Nat} (cap : Nat) (ho : 0 < n → oa = some ⟨b, off, none⟩) {k : Nat} (hk : k < n) (w : World) :
    (Instr.indexAt 22 (.slice oa n cap) (.int .i64 (k : Int))).run Tryd.prog w = .ok (.pointer (some ⟨b, off + k * 15, none⟩)) w := by
  rw [ho (by omega)]
  go_simp
theorem run_recI {oa : Option Addr} {n b off : Nat} (cap : Nat) (ho : 0 < n → oa = some ⟨b, off, none⟩) {k : Int} (h0 : 0 ≤ k) (hk : k < n) (w : World) :
    (Instr.indexAt 22 (.slice oa n cap) (.int .i64 k)).run Tryd.prog w = .ok (.pointer (some ⟨b, off + k.toNat * 15, none⟩)) w := by
  obtain ⟨m, rfl⟩ := Int.eq_ofNat_of_zero_le h0
  exact run_rec cap ho (by omega) w

/-- what Fold tells -/
def FoldTells (w : World) (res : Option Vw × Int) (e : Ending) (w' : World) : Prop :=
  match res.1 with
  | some v => ∃ o n c, e = .returned (.tuple #[vwV v o n c, .nilIface]) ∧ OwnAt w' w.heap.size o n c v.rows ∧ VwSz v ∧ Gr w w'
  | none => e = .returned (.tuple #[vwV ⟨⟨#[]⟩, ⟨#[]⟩, false, 0, [], false⟩ none 0 0, errV res.2]) ∧ Gr w w'
end Go.Proofs.YtidfelbaegaphaaDoor

namespace Go.Proofs.YtidfelbaegaphaaDoor
set_option linter.unusedVariables false
set_option linter.unusedSimpArgs false
open Go.BigFrame Go.RowKit Go.WideShapes

theorem entT : SlT Tryd.prog 43 79 2 24 := ⟨Tryd.underlying43, by
  obtain ⟨i, hi, hz, hsi, hby⟩ := info_parts (show (Tryd.prog.info? 79).map (fun i => (i.zero, i.size, i.bytes)) = some (some (.agg #[.string ⟨#[]⟩, .int .i64 0]), 2, 24) by kernel_rfl)
  exact ⟨i, _, hi, hz, hsi, hby, rfl⟩, by decide⟩
abbrev zR : List Value := [.int .i64 0, .string ⟨#[]⟩, .string ⟨#[]⟩, .bool false, .int .i64 0, .slice none 0 0, .slice none 0 0, .string ⟨#[]⟩, .string ⟨#[]⟩, .int .i64 0, .int .i64 0, .int .i64 0, .string ⟨#[]⟩, .int .i64 0, .int .i64 0]
/-- a record in memory of the call's own -/
def CloneTells (w : World) (y : Ry) (e : Ending) (w' : World) : Prop :=
  ∃ o1 n1 c1 o2 n2 c2, e = .returned (rxV y.x o1 n1 c1 o2 n2 c2) ∧ OwnAt w' w.heap.size o1 n1 c1 y.x.r.rows ∧ OwnS EnE 2 79 w' w.heap.size o2 n2 c2 y.ents ∧ Gr w w'
theorem OwnS.setLow {α : Type} {E : EP α} (hE : Mono E) {k : Nat} {T : TypeId} {w : World} {base b i : Nat} {u : Value} {oa : Option Addr} {n cap : Nat} {l : List α} (h : OwnS E k T w base oa n cap l) (hb : b < base) (hEw : ∀ x vs, E (hideB w (Value.ownBlock (.slice oa n cap))) x vs → E (hideB (w.setCell ⟨b, i, none⟩ u) (Value.ownBlock (.slice oa n cap))) x vs) : OwnS E k T (w.setCell ⟨b, i, none⟩ u) base oa n cap l := by
  obtain ⟨hl, vss, h1, h2, ⟨h3, h4⟩, h5⟩ := h
  refine ⟨hl, vss, h1, h2, ⟨h3, ?_⟩, fun j x vs hj hv => hEw _ _ (h5 j x vs hj hv)⟩
  rcases h4 with e | ⟨g, cp, cur, e, hg, hcur, rest⟩
  · exact .inl e
  · refine .inr ⟨g, cp, cur, e, hg, ?_, rest⟩
    simp only [World.setCell, Array.getElem?_modify]
    rw [if_neg (by omega)]; exact hcur
theorem ents_setLow {w : World} {base b i : Nat} {u : Value} {oa : Option Addr} {n cap : Nat} {l : List En} (h : OwnS EnE 2 79 w base oa n cap l) (hb : b < base) : OwnS EnE 2 79 (w.setCell ⟨b, i, none⟩ u) base oa n cap l :=
  h.setLow EnE_mono hb (fun _ _ q => q)
theorem ents_setLows {base b : Nat} {oa : Option Addr} {n cap : Nat} {l : List En} (hb : b < base) (us : List Value) : ∀ {w : World} (i : Nat), OwnS EnE 2 79 w base oa n cap l → OwnS EnE 2 79 (w.setCells b i us) base oa n cap l := by
  induction us with
  | nil => intro w i h; exact h
  | cons u us ih => intro w i h; exact ih (i + 1) (ents_setLow h hb)

set_option maxRecDepth 100000 in
set_option maxHeartbeats 2000000 in
theorem clone_any (y : Ry) (o1 : Option Addr) (n1 c1 : Nat) (o2 : Option Addr) (n2 c2 : Nat) (w : World) (hR : RowsAt w o1 n1 c1 y.x.r.rows) (hE : EntsAt w o2 n2 c2 y.ents) (hn1 : n1 ≤ 1000000) (hn2 : n2 * 24 ≤ 140737488355328) :
    Calls Tryd.prog 20 #[rxV y.x o1 n1 c1 o2 n2 c2] w (CloneTells w y) := by
  have s1 := size_alloc1
  have B0 : Bx ((w.alloc (.cells (xL y.x o1 n1 c1 o2 n2 c2).toArray 49)).alloc (.cells zR.toArray 49)) w.heap.size (xL y.x o1 n1 c1 o2 n2 c2) := ((Bx.new w _ _ rfl).keep ((Gr.refl _).alloc _)).of (by simp)
  have Z0 : Bx ((w.alloc (.cells (xL y.x o1 n1 c1 o2 n2 c2).toArray 49)).alloc (.cells zR.toArray 49)) (w.heap.size + 1) zR := (Bx.new (w.alloc _) _ _ (by rw [s1])).of (by simp)
  have hg0 : Gr w ((w.alloc (.cells (xL y.x o1 n1 c1 o2 n2 c2).toArray 49)).alloc (.cells zR.toArray 49)) := ((Gr.refl _).alloc _).alloc _
  have hsz : ((w.alloc (.cells (xL y.x o1 n1 c1 o2 n2 c2).toArray 49)).alloc (.cells zR.toArray 49)).heap.size = w.heap.size + 2 := by rw [s1, s1]
  go_enter Tryd.func20, Tryd.ntmps20
  go_upto_region 1 with fail
  generalize (w.alloc (.cells (xL y.x o1 n1 c1 o2 n2 c2).toArray 49)).alloc (.cells zR.toArray 49) = W at *
  have Hsz := Lib.hid hsz
  clear hsz s1
  generalize hBX : w.heap.size = BX at *
  have hRW := Lib.hid fun w1 (hq : Gr W w1) => hR.keep (hg0.trans hq)
  have hEW := Lib.hid fun w1 (hq : Gr w w1) => SlE.keep EnE_mono hE hq
  have hcn := hE.cap_le
  clear hR hE
  go_cut [] (fun wx => ∃ (a1 : Option Addr) (m1 d1 : Nat), Bx wx BX (xL y.x a1 m1 d1 o2 n2 c2) ∧ Bx wx (BX + 1) zR ∧ OwnAt wx W.heap.size a1 m1 d1 y.x.r.rows ∧ Gr w wx ∧ EntsAt wx o2 n2 c2 y.ents ∧ W.heap.size ≤ wx.heap.size)
  case first =>
    have x5 := alloc1 (ob := .cells #[] 41) (B0.cell 5 rfl)
    go_wp2_with (at_builtin; refine wpList_rows (w0 := W) rfl _ _ rfl ((Gr.refl W).alloc _) rfl (own_empty (Gr.refl W)) rfl (hRW.out _ ((Gr.refl W).alloc _)) (by omega) ?_; intro oc k3 w1 ho1 hg1; have x5 := (B0.keep hg1).cell 5 rfl; have f5 := (B0.keep hg1).free 5 (by simp))
    go_meet
    have hgf := (hg0.trans hg1).setCell (p := ⟨BX, 5, none⟩) (by show w.heap.size ≤ BX; omega) (.slice oc n1 k3)
    exact ⟨oc, n1, k3, (B0.keep hg1).set 5 _, (Z0.keep hg1).other (by omega) _, by simpa using ho1.setLow (b := BX) (i := 5) (by have := Hsz.out; omega), hgf, hEW.out _ hgf, by unfold World.setCell; simpa using hg1.le⟩
  case rest =>
    obtain ⟨a1, m1, d1, B1, Z1, hO1, hg1, hE1, hle1⟩ := hcut
    have HE1 := Lib.hid hE1
    clear hE1 hRW hEW B0 Z0
    go_upto_region 2 with fail
    go_cut [] (fun wx => ∃ (a2 : Option Addr) (m2 d2 : Nat), Bx wx BX (xL y.x a1 m1 d1 a2 m2 d2) ∧ Bx wx (BX + 1) zR ∧ OwnAt wx W.heap.size a1 m1 d1 y.x.r.rows ∧ OwnS EnE 2 79 wx W.heap.size a2 m2 d2 y.ents ∧ Gr w wx)
    case first =>
      have x6 := alloc1 (ob := .cells #[] 79) (B1.cell 6 rfl)
      have hfr : OwnS EnE 2 79 (wc.alloc (.cells #[] 79)) wc.heap.size (some ⟨wc.heap.size, 0, none⟩) 0 0 [] := OwnS.fresh EnE 2 _ rfl (Nat.le_refl _)
      have hsrc : SlE EnE 2 (hideB (wc.alloc (.cells #[] 79)) (Value.ownBlock (.slice (some ⟨wc.heap.size, 0, none⟩) 0 0))) o2 n2 c2 y.ents := HE1.out.ex EnE_mono (ex_hide ((Gr.refl _).alloc _).ex (fun g hg => by cases hg; exact Nat.le_refl _))
      have Hfr := Lib.hid hfr
      have Hsrc := Lib.hid hsrc
      clear hfr hsrc
      go_wp2_with (at_builtin; refine wpList_app EnE_mono entT rfl _ _ rfl (base := wc.heap.size) ((Gr.refl wc).alloc _).le rfl Hfr.out rfl Hsrc.out (by unfold maxLen; omega) (by omega) ?_; intro oc k3 w2 ho2 hb2; (have hg2 : Gr wc w2 := Hfr.out.gr hb2 ((Gr.refl _).alloc _) (Nat.le_refl _)); have x6 := (B1.keep hg2).cell 6 rfl; have f6 := (B1.keep hg2).free 6 (by simp))
      go_meet
      have hgf := (hg1.trans hg2).setCell (p := ⟨BX, 6, none⟩) (by show w.heap.size ≤ BX; omega) (.slice oc n2 k3)
      have hsz := Hsz.out
      have ho3 : OwnS EnE 2 79 w2 W.heap.size oc n2 k3 y.ents := by simpa using ho2.lower hle1
      exact ⟨oc, n2, k3, (B1.keep hg2).set 6 _, (Z1.keep hg2).other (by omega) _, (hO1.keep hg2).setLow (b := BX) (i := 6) (by omega), ents_setLow ho3 (by omega), hgf⟩
    case rest =>
      obtain ⟨a2, m2, d2, B2, Z2, hO2, hS2, hg2⟩ := hcut
      have hsz := Hsz.out
      have HO2 := Lib.hid hO2
      have HS2 := Lib.hid hS2
      clear hO2 hS2
      go_wp2_with (first | (refine wpList_load_mid rfl 49 _ rfl _ 0 rfl _ _ (B2).rng Tryd.underlying49 rfl (by kernel_rfl) ?_) | (refine wpList_store_mid rfl 49 _ _ rfl _ 0 _ rfl rfl (Z2).may (by kernel_rfl) (by kernel_rfl) ?_))
      refine bodyPost_ret ((Z2.setAll (us := xL y.x a1 m1 d1 a2 m2 d2) rfl).ret1 rfl _ rfl Tryd.underlying49 rfl (by kernel_rfl)) rfl ?_
      refine ⟨a1, m1, d1, a2, m2, d2, rfl, (HO2.out.setLows (by omega) _ 0).lower2 (by omega), (ents_setLows (by omega) _ 0 HS2.out).lower (by omega), ?_⟩
      exact hg2.setCells (by omega) _ _
end Go.Proofs.YtidfelbaegaphaaDoor

namespace Go.Proofs.YtidfelbaegaphaaDoor
set_option linter.unusedVariables false
set_option linter.unusedSimpArgs false
open Go.BigFrame Go.RowKit Go.WideShapes

theorem recT : SlT Tryd.prog 22 49 15 192 := ⟨Tryd.underlying22, by
  obtain ⟨i, hi, hz, hsi, hby⟩ := info_parts (show (Tryd.prog.info? 49).map (fun i => (i.zero, i.size, i.bytes)) = some (some (.agg zR.toArray), 15, 192) by kernel_rfl)
  exact ⟨i, _, hi, hz, hsi, hby, rfl⟩, by decide⟩
/-- rows of the call's own lie beside an older block -/
theorem OwnAt.hide {w : World} {base : Nat} {oa : Option Addr} {n cap : Nat} {l : List Rw} (h : OwnAt w base oa n cap l) {r : Option Nat} (hr : ∀ g, r = some g → g < base) : RowsAt (hideB w r) oa n cap l := by
  obtain ⟨h1, h2, h3, h4, ⟨b, off, h5, h6⟩, h7⟩ := h.rows
  refine ⟨h1, h2, h3, h4, ⟨b, off, fun q => ⟨(h5 q).1, by rw [hideB_size]; exact (h5 q).2⟩, fun i hi => ?_⟩, h7⟩
  have hb : base ≤ b := h.block (by rw [(h5 (by omega)).1]; rfl)
  have hne : r ≠ some b := fun e => by have := hr b e; omega
  exact ⟨hideB_cell.2 ⟨hne, (h6 i hi).1⟩, hideB_cell.2 ⟨hne, (h6 i hi).2⟩⟩
theorem OwnS.hideE {w : World} {base : Nat} {T : TypeId} {oa : Option Addr} {n cap : Nat} {l : List En} (h : OwnS EnE 2 T w base oa n cap l) {r : Option Nat} (hr : ∀ g, r = some g → g < base) : EntsAt (hideB w r) oa n cap l := by
  have hb := fun g hg => (h.lt g hg).1
  obtain ⟨h1, h2, h3, h4, b, off, h5, h6⟩ := h.sl EnE_mono
  refine ⟨h1, h2, h3, h4, b, off, fun q => ⟨(h5 q).1, by rw [hideB_size]; exact (h5 q).2⟩, fun i x hi => ?_⟩
  obtain ⟨vs, e1, e2, e3, e4⟩ := h6 i x hi
  have hil : i < n := by have := (List.getElem?_eq_some_iff.1 hi).1; omega
  have hbb : base ≤ b := hb b (by rw [(h5 (by omega)).1]; rfl)
  have hne : r ≠ some b := fun e => by have := hr b e; omega
  exact ⟨vs, e1, e2, e3, fun j u hj => hideB_cell.2 ⟨hne, e4 j u hj⟩⟩
theorem xL_one (x : Rx) (o1 : Option Addr) (n1 c1 : Nat) (o2 : Option Addr) (n2 c2 : Nat) : ∀ u ∈ xL x o1 n1 c1 o2 n2 c2, u.oneCell' = true := by
  intro u hu
  simp only [List.mem_cons, List.not_mem_nil, or_false] at hu
  rcases hu with rfl | rfl | rfl | rfl | rfl | rfl | rfl | rfl | rfl | rfl | rfl | rfl | rfl | rfl | rfl <;> rfl
/-- a clone in a block of one, beside an older block -/
theorem clone_one {w3 : World} {base : Nat} {y : Ry} {o1 : Option Addr} {n1 c1 : Nat} {o2 : Option Addr} {n2 c2 : Nat} {T T2 : TypeId} (hO : OwnAt w3 base o1 n1 c1 y.x.r.rows) (hS : OwnS EnE 2 T2 w3 base o2 n2 c2 y.ents) (hz : RxSz y.x) (hb3 : base ≤ w3.heap.size) {r : Option Nat} (hr : ∀ g, r = some g → g < base) :
    SlE RyE 15 (hideB (w3.alloc (.cells (xL y.x o1 n1 c1 o2 n2 c2).toArray T)) r) (some ⟨w3.heap.size, 0, none⟩) 1 1 [y] := by
  have hm := hideB_gr (r := r) ((Gr.refl w3).alloc (.cells (xL y.x o1 n1 c1 o2 n2 c2).toArray T))
  refine SlE.one (by decide) (Nat.le_refl _) (by unfold maxLen; omega) rfl (xL_one _ _ _ _ _ _ _) ⟨o1, n1, c1, o2, n2, c2, rfl, (hO.hide hr).ex hm, (hS.hideE hr).ex EnE_mono hm, hz⟩ fun j u hj => ?_
  refine hideB_cell.2 ⟨fun e => by have := hr _ e; omega, ?_⟩
  have := World.cell?_alloc_new w3 (xL y.x o1 n1 c1 o2 n2 c2).toArray T j
  rw [Nat.zero_add, this]
  simpa using hj

set_option maxRecDepth 100000 in
set_option maxHeartbeats 4000000 in
theorem own_recs (oa : Option Addr) (n cap : Nat) (l : List Ry) (w : World) (h : RecsAt w oa n cap l) (hn : n ≤ 1000) (hrs : ∀ (i : Nat) (y : Ry), l[i]? = some y → y.x.r.rows.length ≤ 100) (hes : ∀ (i : Nat) (y : Ry), l[i]? = some y → y.ents.length * 24 ≤ 140737488355328) :
    Calls Tryd.prog 8 #[.slice oa n cap] w fun e w' => ∃ o c, e = .returned (.slice o n c) ∧ RecsAt w' o n c l ∧ Gr w w' := by
  have Hl := Lib.hid h.len
  have Hrs := Lib.hid hrs
  have Hes := Lib.hid hes
  have hcl := h.cap_le
  have hcm := h.cap_max
  unfold maxLen at hcm
  obtain ⟨b, off, ho, hc⟩ := h.get
  have Ho := Lib.hid ho
  have Hc := Lib.hid hc
  clear hrs hes h ho hc
  go_enter Tryd.func8, Tryd.ntmps8
  go_wp2_with fail
  go_loopw [3, 8] (fun s3 s8 wr => ∃ (k : Nat) (o : Option Addr) (c : Nat), k ≤ n ∧ s8 = .int .i64 k ∧ s3 = .slice o k c ∧ Hid (OwnS RyE 15 49 wr w.heap.size o k c (l.take k)) ∧ Gr w wr) (fun _ s8 _ => n - (intOf s8).toNat)
  case atStart => exact ⟨0, none, 0, Nat.zero_le _, rfl, rfl, Lib.hid (OwnS.nil _ _ _ _ _), Gr.refl _⟩
  case round =>
    obtain ⟨k, o, c, hk, rfl, rfl, hO, hg⟩ := hrel
    by_cases hlt : k < n
    · have hy : l[k]? = some (l[k]'(by have := Hl.out; omega)) := List.getElem?_eq_getElem _
      generalize (l[k]'(by have := Hl.out; omega)) = y at hy
      obtain ⟨o1, n1, c1, o2, n2, c2, R⟩ := Hc.out k y hy
      have R1 := R.keep hg
      have hI := run_rec cap Ho.out hlt
      have hn1 : n1 ≤ 100 := by have h1 := Hrs.out _ _ hy; have h2 := R1.rows.len; omega
      have hn2 : n2 * 24 ≤ 140737488355328 := by have h1 := Hes.out _ _ hy; have h2 := R1.ents.len; rw [h2] at h1; exact h1
      have Hy := Lib.hid hy
      clear hy R
      go_upto_region 4 with fail
      go_cut [5] (fun s5 wx => ∃ b5 : Nat, s5 = .pointer (some ⟨b5, 0, none⟩) ∧ Bx wx b5 (xL y.x o1 n1 c1 o2 n2 c2) ∧ Gr wr wx)
      case first =>
        go_wp2_with (first | (refine wpList_load_mid rfl 49 _ rfl _ _ rfl _ _ (R1).rng Tryd.underlying49 rfl (by kernel_rfl) ?_) | (refine wpList_store_mid rfl 49 _ _ rfl _ 0 _ rfl rfl (Bx.new _ _ _ rfl).may (by kernel_rfl) (by kernel_rfl) ?_))
        go_meet
        exact ⟨wr.heap.size, rfl, (Bx.new wr _ _ rfl).setAll rfl, ((Gr.refl _).alloc _).setCells (Nat.le_refl _) _ _⟩
      case rest =>
        obtain ⟨b5, rfl, hb5, hg5⟩ := hcut
        have R2 := R1.keep hg5
        have hC := Lib.hid (clone_any y o1 n1 c1 o2 n2 c2 wc R2.rows R2.ents (by omega) hn2)
        have HZ := Lib.hid R2.size
        have hO2 := Lib.hid (hO.out.keep RyE_mono hg5)
        have hgx := hg.trans hg5
        clear hI R1 R2 hn2
        go_wp2_with (first | (refine wpList_load_mid rfl 49 _ rfl _ 0 rfl _ _ (hb5).rng Tryd.underlying49 rfl (by kernel_rfl) ?_) | (go_at_call 20; (with_reducible refine hC.out.mono ?_); rintro e w3 ⟨p1, q1, d1, p2, q2, d2, rfl, hO3, hS3, hg3⟩; have hO4 := hO2.out.keep RyE_mono (hg3.trans ((Gr.refl _).alloc (.cells (xL y.x p1 q1 d1 p2 q2 d2).toArray 49))); have hsrc := clone_one (T := 49) hO3 hS3 HZ.out hg3.le (r := Value.ownBlock (.slice o k c)) (fun g hg => (hO2.out.lt g hg).2); have HO4 := Lib.hid hO4; have Hsrc := Lib.hid hsrc; have HO3 := Lib.hid hO3; have HS3 := Lib.hid hS3; clear hO4 hsrc hO3 hS3) | (at_builtin; refine wpList_app RyE_mono recT rfl _ _ rfl (base := w.heap.size) ((hgx.trans hg3).alloc _).le rfl HO4.out rfl Hsrc.out (by unfold maxLen; omega) (by omega) ?_; intro oc k3 w4 ho4 hb4; (have hg4 : Gr w w4 := HO4.out.gr hb4 ((hgx.trans hg3).alloc _) (Nat.le_refl _)); have HO5 := Lib.hid ho4; clear ho4 hb4))
        go_roundw
        case rel => exact ⟨k + 1, oc, k3, by omega, by go_num, rfl, by
          have e : l.take (k + 1) = l.take k ++ [y] := by
            rw [List.take_add_one, Hy.out]; rfl
          rw [e]; exact HO5, hg4⟩
        case measure => simp [intOf]; omega
    · obtain rfl : k = n := by omega
      have hS := hO.out.sl RyE_mono
      rw [List.take_of_length_le (by rw [Hl.out]; exact Nat.le_refl _)] at hS
      have HS := Lib.hid hS
      clear hS
      go_wp2_with fail
      go_ret
      exact ⟨o, c, rfl, HS.out, hg⟩
end Go.Proofs.YtidfelbaegaphaaDoor

namespace Go.Proofs.YtidfelbaegaphaaDoor
set_option linter.unusedVariables false
set_option linter.unusedSimpArgs false

/-! Fold, plainly, step by step from the last record on. -/
/-- the view behind the records from k on -/
def viewAt (l : List Ry) (b : Ry) (k : Nat) : Option Vw := foldV upP ((rcs l).dropLast.drop k) (baseV b.x.r)
theorem viewAt_end (l : List Ry) (b : Ry) {k : Nat} (h : l.length ≤ k + 1) : viewAt l b k = some (baseV b.x.r) := by
  unfold viewAt
  rw [List.drop_eq_nil_of_le (by simp; omega)]; rfl
theorem viewAt_step (l : List Ry) (b : Ry) {k : Nat} {y : Ry} (h : l[k]? = some y) (hk : k + 1 < l.length) : viewAt l b k = (viewAt l b (k + 1)).bind fun v => upP v y.x.r := by
  unfold viewAt
  have hd : k < (rcs l).dropLast.length := by simp; omega
  rw [List.drop_eq_getElem_cons hd, foldV_cons]
  have : (rcs l).dropLast[k] = y.x.r := by
    rw [List.getElem_dropLast, List.getElem_map]
    obtain ⟨h1, h2⟩ := List.getElem?_eq_some_iff.1 h
    rw [h2]
  rw [this]
theorem viewAt_none (l : List Ry) (b : Ry) : ∀ k, viewAt l b k = none → viewAt l b 0 = none := by
  intro k
  induction k with
  | zero => exact id
  | succ k ih =>
    intro h
    apply ih
    by_cases hk : k + 1 < l.length
    · have hy : l[k]? = some l[k] := List.getElem?_eq_getElem (by omega)
      rw [viewAt_step l b hy hk, h]; rfl
    · rw [viewAt_end l b (k := k + 1) (by omega)] at h; cases h
def kindsB (l : List Ry) : Prop := ∀ (i : Nat) (y : Ry), l[i]? = some y → 1 ≤ y.x.r.kind ∧ y.x.r.kind ≤ 6
theorem kinds_iff (l : List Ry) : kindsOk (rcs l) ↔ kindsB l := by
  unfold kindsOk kindsB
  constructor
  · intro h i y hi
    exact h _ (List.mem_map.2 ⟨y, List.mem_of_getElem? hi, rfl⟩)
  · intro h r hr
    obtain ⟨y, hy, rfl⟩ := List.mem_map.1 hr
    obtain ⟨i, hi⟩ := List.getElem?_of_mem hy
    exact h i y hi
theorem fold_bad {l : List Ry} (h : ¬ kindsB l) : foldP (rcs l) = (none, 9) := by
  unfold foldP; rw [if_neg (fun q => h ((kinds_iff l).1 q))]
theorem fold_nil : foldP (rcs []) = (none, 10) := rfl
theorem fold_last {l : List Ry} (h : kindsB l) {b : Ry} (hb : l[l.length - 1]? = some b) : foldP (rcs l) = ((if b.x.r.kind = 1 ∧ soundP b.x.r.rows b.x.r.low b.x.r.high b.x.r.unb = true then (match viewAt l b 0 with | some v => (some v, 0) | none => (none, 10)) else (none, 10)) : Option Vw × Int) := by
  unfold foldP
  rw [if_pos ((kinds_iff l).2 h)]
  have : (rcs l).getLast? = some b.x.r := by
    rw [List.getLast?_eq_getElem?, List.getElem?_map, List.length_map, hb]; rfl
  rw [this]
  rfl
theorem up_sizes {v v' : Vw} {x : Rx} (hv : VwSz v) (hx : RxSz x) (h : upP v x.r = some v') : VwSz v' ∧ v'.rows.length ≤ v.rows.length + 1 + x.r.rows.length := by
  unfold upP at h
  split at h
  · split at h
    · cases h
      refine ⟨⟨hv.low, hv.high⟩, ?_⟩
      show (putL v.rows _).length ≤ _
      have hpl := place_le x.r.key v.rows
      unfold putL
      rw [List.length_append, List.length_append, List.length_take, List.length_drop, List.length_singleton]
      dsimp only
      split <;> omega
    · cases h
  · split at h
    · split at h
      · cases h
        refine ⟨⟨hv.low, hv.high⟩, ?_⟩
        have := (drop_sub v.rows x.r.key).length_le
        show (dropL v.rows _).length ≤ _
        omega
      · cases h
    · split at h
      · split at h
        · cases h
          refine ⟨⟨hv.low, hx.key⟩, ?_⟩
          show (v.rows.take _).length ≤ _
          rw [List.length_take]; omega
        · cases h
      · split at h
        · split at h
          · cases h
            refine ⟨⟨hv.low, hx.high⟩, ?_⟩
            show (v.rows ++ x.r.rows).length ≤ _
            rw [List.length_append]; omega
          · cases h
        · split at h
          · split at h
            · cases h
              exact ⟨⟨hv.low, hv.high⟩, by show v.rows.length ≤ _; omega⟩
            · cases h
          · cases h
end Go.Proofs.YtidfelbaegaphaaDoor

namespace Go.Proofs.YtidfelbaegaphaaDoor
set_option linter.unusedVariables false
set_option linter.unusedSimpArgs false

/-! The document's Fold, plainly, step by step. -/
open Classical in
/-- a choice on a statement -/
noncomputable def pick {α : Type} (p : Prop) (a b : α) : α := if p then a else b
theorem pick_pos {α : Type} {p : Prop} {a b : α} (h : p) : pick p a b = a := if_pos h
theorem pick_neg {α : Type} {p : Prop} {a b : α} (h : ¬ p) : pick p a b = b := if_neg h
def viewAtR (l : List Ry) (b : Ry) (k : Nat) : Option Vw := foldV upR ((rcs l).dropLast.drop k) (baseV b.x.r)
theorem viewAtR_end (l : List Ry) (b : Ry) {k : Nat} (h : l.length ≤ k + 1) : viewAtR l b k = some (baseV b.x.r) := by
  unfold viewAtR
  rw [List.drop_eq_nil_of_le (by simp; omega)]; rfl
theorem viewAtR_step (l : List Ry) (b : Ry) {k : Nat} {y : Ry} (h : l[k]? = some y) (hk : k + 1 < l.length) : viewAtR l b k = (viewAtR l b (k + 1)).bind fun v => upR v y.x.r := by
  unfold viewAtR
  have hd : k < (rcs l).dropLast.length := by simp; omega
  rw [List.drop_eq_getElem_cons hd, foldV_cons]
  have : (rcs l).dropLast[k] = y.x.r := by
    rw [List.getElem_dropLast, List.getElem_map]
    obtain ⟨h1, h2⟩ := List.getElem?_eq_some_iff.1 h
    rw [h2]
  rw [this]
theorem viewAtR_none (l : List Ry) (b : Ry) : ∀ k, viewAtR l b k = none → viewAtR l b 0 = none := by
  intro k
  induction k with
  | zero => exact id
  | succ k ih =>
    intro h
    apply ih
    by_cases hk : k + 1 < l.length
    · have hy : l[k]? = some l[k] := List.getElem?_eq_getElem (by omega)
      rw [viewAtR_step l b hy hk, h]; rfl
    · rw [viewAtR_end l b (k := k + 1) (by omega)] at h; cases h
/-- where a base, and a removal, stand, by places -/
def posI (l : List Ry) : Prop := ∀ (i : Nat) (y : Ry), l[i]? = some y → (y.x.r.kind = 1 ↔ i = l.length - 1) ∧ (y.x.r.kind = 5 → i = 0)
theorem pos_iff {l : List Ry} {b : Ry} (hb : l[l.length - 1]? = some b) : posOk (rcs l).dropLast b.x.r ↔ posI l := by
  have hpos : 0 < l.length := by have := (List.getElem?_eq_some_iff.1 hb).1; omega
  have hget : ∀ i, i < l.length - 1 → ∀ y, l[i]? = some y → (rcs l).dropLast[i]? = some y.x.r := fun i hi y hy => by
    rw [List.getElem?_dropLast, List.length_map, if_pos hi, List.getElem?_map, hy]; rfl
  constructor
  · rintro ⟨h1, h2, h3⟩ i y hy
    have hil : i < l.length := (List.getElem?_eq_some_iff.1 hy).1
    by_cases hi : i = l.length - 1
    · subst hi
      rw [hb] at hy
      cases hy
      exact ⟨⟨fun _ => rfl, fun _ => h1⟩, fun q => by omega⟩
    · have hm := hget i (by omega) y hy
      refine ⟨⟨fun q => absurd q (h2 _ (List.mem_of_getElem? hm)), fun q => absurd q hi⟩, fun q => ?_⟩
      rcases Nat.eq_zero_or_pos i with z | z
      · exact z
      · exfalso
        refine h3 y.x.r (List.mem_of_getElem? (i := i - 1) ?_) q
        rw [List.getElem?_tail, show i - 1 + 1 = i by omega]; exact hm
  · intro h
    refine ⟨((h _ b hb).1).2 rfl, fun r hr q => ?_, fun r hr q => ?_⟩
    · obtain ⟨i, hi⟩ := List.getElem?_of_mem hr
      have hil : i < l.length - 1 := by have := (List.getElem?_eq_some_iff.1 hi).1; simpa using this
      have hy : l[i]? = some (l[i]'(by omega)) := List.getElem?_eq_getElem _
      rw [hget i hil _ hy, Option.some.injEq] at hi
      rw [← hi] at q
      have := ((h i _ hy).1).1 q
      omega
    · obtain ⟨i, hi⟩ := List.getElem?_of_mem hr
      rw [List.getElem?_tail] at hi
      have hil : i + 1 < l.length - 1 := by have := (List.getElem?_eq_some_iff.1 hi).1; simpa using this
      have hy : l[i + 1]? = some (l[i + 1]'(by omega)) := List.getElem?_eq_getElem _
      rw [hget (i + 1) hil _ hy, Option.some.injEq] at hi
      rw [← hi] at q
      have := (h (i + 1) _ hy).2 q
      omega
theorem foldR_bad {l : List Ry} (h : ¬ kindsB l) : foldR (rcs l) = (none, 9) := by
  unfold foldR; rw [if_neg (fun q => h ((kinds_iff l).1 q))]
theorem foldR_nil : foldR (rcs []) = (none, 10) := rfl
theorem foldR_last {l : List Ry} (h : kindsB l) {b : Ry} (hb : l[l.length - 1]? = some b) : foldR (rcs l) = pick (posI l ∧ soundR b.x.r.rows b.x.r.low b.x.r.high b.x.r.unb = true) (match viewAtR l b 0 with | some v => (some v, (0 : Int)) | none => (none, 10)) (none, 10) := by
  unfold foldR
  rw [if_pos ((kinds_iff l).2 h)]
  have : (rcs l).getLast? = some b.x.r := by
    rw [List.getLast?_eq_getElem?, List.getElem?_map, List.length_map, hb]; rfl
  rw [this]
  have hp := pos_iff hb
  by_cases hq : posI l ∧ soundR b.x.r.rows b.x.r.low b.x.r.high b.x.r.unb = true
  · rw [pick_pos hq]
    dsimp only
    rw [if_pos ⟨hp.2 hq.1, hq.2⟩]; rfl
  · rw [pick_neg hq]
    dsimp only
    rw [if_neg (fun z => hq ⟨hp.1 z.1, z.2⟩)]
end Go.Proofs.YtidfelbaegaphaaDoor

namespace Go.Proofs.YtidfelbaegaphaaDoor
set_option linter.unusedVariables false
set_option linter.unusedSimpArgs false
open Go.BigFrame Go.RowKit Go.WideShapes

set_option maxRecDepth 100000 in
set_option maxHeartbeats 2000000 in
theorem refSound_any (l : List Rw) (oa : Option Addr) (n cap : Nat) (low high : ByteArray) (unb : Bool) (w : World) (h : RowsAt w oa n cap l) (h1 : low.size ≤ maxLen) (h2 : high.size ≤ maxLen) :
    Calls Tryd.prog 25 #[.slice oa n cap, .string low, .string high, .bool unb] w fun e w' => e = .returned (.bool (soundR l low high unb)) ∧ Gr w w' := by
  have hRr := fun w1 (hq : Gr w w1) => refRowsRight_any oa n cap l w1 (h.keep hq)
  have Hlen := Lib.hid h.len
  obtain ⟨b1, off1, ho1, hc1⟩ := h.cells
  have Hc1 := Lib.hid hc1
  have Ho1 := Lib.hid (fun q => (ho1 q).1)
  have H1 := Lib.hid h
  have hn1 := h.cap_le
  have hm1 := h.cap_max
  unfold maxLen at hm1
  clear hc1 ho1 h
  obtain ⟨B, hB⟩ : ∃ B, B = soundR l low high unb := ⟨_, rfl⟩
  have HB := Lib.hid hB
  rw [← hB]
  clear hB
  by_cases hb : unb = true ∧ high ≠ ByteArray.empty
  · obtain ⟨rfl, hh⟩ := hb
    have hne := notEmpty hh
    have HB2 : Hid (B = false) := Lib.hid (by rw [HB.out]; unfold soundR; rw [decide_eq_true hh]; simp)
    clear hh
    cases hr : rowsOkB l
    all_goals
      rw [hr] at hRr
      have hRr := Lib.hid hRr
      clear hr
      go_enter Tryd.func25, Tryd.ntmps25
      go_wp2_with (go_at_call 45; (with_reducible refine (hRr.out _ ?_).mono ?_); (focus ((repeat (first | with_reducible exact Gr.refl _ | with_reducible refine Gr.drewN ?_ _ | with_reducible refine Gr.drew ?_ | with_reducible refine Gr.alloc ?_ _ | with_reducible refine Gr.setCell ?_ ?_ _ | (with_reducible refine Gr.trans ?_ (by assumption)) | omega | (dsimp only; omega))); done)); rintro e w1 ⟨rfl, hg1⟩)
      go_ret
      exact ⟨by rw [HB2.out]; rfl, hg1⟩
  · have hcase : unb = false ∨ (unb = true ∧ high = ⟨#[]⟩) := by
      cases unb
      · exact .inl rfl
      · right
        refine ⟨rfl, ?_⟩
        apply Classical.byContradiction
        intro q
        exact hb ⟨rfl, q⟩
    have hbb : (unb && decide (high ≠ ByteArray.empty)) = false := by
      rcases hcase with rfl | ⟨rfl, rfl⟩
      · rfl
      · rfl
    obtain ⟨P, hP⟩ : ∃ P : ByteArray → Bool, P = fun k => inB low high unb k := ⟨_, rfl⟩
    have HBB : Hid (B = (rowsOkB l && l.all (fun r => P r.key))) := Lib.hid (by rw [HB.out, hP]; unfold soundR; rw [hbb]; simp; rfl)
    have hIn : Hid (∀ w1 k, k < n → Calls Tryd.prog 46 #[.string low, .string high, .bool unb, .string (kAt l k)] w1 fun e w' => e = .returned (.bool (P (kAt l k))) ∧ Dr w1 w') := Lib.hid fun w1 k hz => by
      have := refIn_any low high unb (kAt l k) w1 h1 h2 (H1.out.sizes k hz).1
      rw [← inB_eq] at this
      rw [hP]; exact this
    clear hP
    clear hb hbb
    cases hr : rowsOkB l
    · rw [hr] at hRr HBB
      have hRr := Lib.hid hRr
      clear hr
      rcases hcase with rfl | ⟨rfl, rfl⟩
      all_goals
        go_enter Tryd.func25, Tryd.ntmps25
        go_wp2_with (go_at_call 45; (with_reducible refine (hRr.out _ ?_).mono ?_); (focus ((repeat (first | with_reducible exact Gr.refl _ | with_reducible refine Gr.drewN ?_ _ | with_reducible refine Gr.drew ?_ | with_reducible refine Gr.alloc ?_ _ | with_reducible refine Gr.setCell ?_ ?_ _ | (with_reducible refine Gr.trans ?_ (by assumption)) | omega | (dsimp only; omega))); done)); rintro e w1 ⟨rfl, hg1⟩)
        go_ret
        exact ⟨by rw [HBB.out]; rfl, hg1⟩
    · rw [hr] at hRr HBB
      have hRr := Lib.hid hRr
      clear hr
      rcases hcase with rfl | ⟨rfl, rfl⟩
      all_goals
        go_enter Tryd.func25, Tryd.ntmps25
        go_wp2_with (go_at_call 45; (with_reducible refine (hRr.out _ ?_).mono ?_); (focus ((repeat (first | with_reducible exact Gr.refl _ | with_reducible refine Gr.drewN ?_ _ | with_reducible refine Gr.drew ?_ | with_reducible refine Gr.alloc ?_ _ | with_reducible refine Gr.setCell ?_ ?_ _ | (with_reducible refine Gr.trans ?_ (by assumption)) | omega | (dsimp only; omega))); done)); rintro e w1 ⟨rfl, hg1⟩)
        go_loopw [9] (fun s9 wr => ∃ k : Nat, k ≤ n ∧ s9 = .int .i64 k ∧ Hid (∀ j, j < k → P (kAt l j) = true) ∧ Gr w wr) (fun s9 _ => n - (intOf s9).toNat)
        case atStart => exact ⟨0, Nat.zero_le _, rfl, Lib.hid fun j hj => by omega, hg1⟩
        case round =>
          obtain ⟨k, hk, rfl, hall, hg⟩ := hrel
          by_cases hlt : k < n
          · have a1 := hg.keep (Hc1.out k hlt).1
            have hI := run_row cap Ho1.out hlt
            have hi := fun w1 => hIn.out w1 k hlt
            have hkl : k < l.length := by rw [Hlen.out]; exact hlt
            cases hv : P (kAt l k)
            · rw [hv] at hi
              have hi := Lib.hid hi
              have HB3 : Hid (B = false) := Lib.hid (by
                rw [HBB.out, Bool.true_and, List.all_eq_false]
                refine ⟨l[k], List.getElem_mem _, ?_⟩
                have : P l[k].key = P (kAt l k) := by unfold kAt; rw [rAt_lt hkl]
                rw [this, hv]; simp)
              clear hv hkl
              go_wp2_with (go_at_call 46; (with_reducible refine (hi.out _).mono ?_); rintro e w2 ⟨rfl, d, rfl⟩)
              go_ret
              exact ⟨by rw [HB3.out]; rfl, hg.drewN _⟩
            · rw [hv] at hi
              have hi := Lib.hid hi
              have Hv := Lib.hid hv
              clear hv hkl
              go_wp2_with (go_at_call 46; (with_reducible refine (hi.out _).mono ?_); rintro e w2 ⟨rfl, d, rfl⟩)
              go_roundw
              case rel => exact ⟨k + 1, by omega, by go_num, Lib.hid fun j hj => by
                rcases Nat.lt_or_ge j k with q | q
                · exact hall.out j q
                · obtain rfl : j = k := by omega
                  exact Hv.out, hg.drewN _⟩
              case measure => simp [intOf]; omega
          · obtain rfl : k = n := by omega
            have HB3 : Hid (B = true) := Lib.hid (by
              rw [HBB.out, Bool.true_and, List.all_eq_true]
              intro r hr
              obtain ⟨j, hj, rfl⟩ := List.mem_iff_getElem.1 hr
              have := hall.out j (by rw [Hlen.out] at hj; exact hj)
              unfold kAt at this
              rw [rAt_lt hj] at this
              exact this)
            go_wp2_with fail
            go_ret
            exact ⟨by rw [HB3.out]; rfl, hg⟩
end Go.Proofs.YtidfelbaegaphaaDoor

namespace Go.Proofs.YtidfelbaegaphaaDoor
set_option linter.unusedVariables false
set_option linter.unusedSimpArgs false
open Go.BigFrame Go.RowKit Go.WideShapes

def aheadL (key : ByteArray) (l : List Rw) : List Rw := l.filter (fun x => Str.before (Tx x.key) (Tx key))
set_option maxRecDepth 100000 in
set_option maxHeartbeats 2000000 in
theorem refAheadL_any (l : List Rw) (oa : Option Addr) (n cap : Nat) (key : ByteArray) (w : World) (h : RowsAt w oa n cap l) (hn : n ≤ 1000000) (hks : key.size ≤ maxLen) :
    Calls Tryd.prog 29 #[.slice oa n cap, .string key] w fun e w' => ∃ o m c, e = .returned (.slice o m c) ∧ RowsAt w' o m c (aheadL key l) ∧ Gr w w' := by
  have Hlen := Lib.hid h.len
  obtain ⟨b1, off1, ho1, hc1⟩ := h.cells
  have Hc1 := Lib.hid hc1
  have Ho1 := Lib.hid (fun q => (ho1 q).1)
  have H1 := Lib.hid h
  have hn1 := h.cap_le
  have hm1 := h.cap_max
  unfold maxLen at hm1
  clear hc1 ho1 h
  go_enter Tryd.func29, Tryd.ntmps29
  go_wp2_with fail
  go_loopw [5, 6] (fun s5 s6 wr => ∃ (k : Nat) (o : Option Addr) (m c : Nat), k ≤ n ∧ m ≤ k ∧ s6 = .int .i64 k ∧ s5 = .slice o m c ∧ Hid (OwnAt wr w.heap.size o m c (aheadL key (l.take k))) ∧ Gr w wr) (fun _ s6 _ => n - (intOf s6).toNat)
  case atStart => exact ⟨0, none, 0, 0, Nat.zero_le _, Nat.le_refl _, rfl, rfl, Lib.hid (own_nil _ _), Gr.refl _⟩
  case round =>
    obtain ⟨k, o, m, c, hk, hmk, rfl, rfl, hO, hg⟩ := hrel
    by_cases hlt : k < n
    · have a1 := hg.keep (Hc1.out k hlt).1
      have a2 := hg.keep (Hc1.out k hlt).2
      have hI := run_row cap Ho1.out hlt
      have hz := H1.out.sizes k hlt
      have hkl : k < l.length := by rw [Hlen.out]; exact hlt
      have hBf := fun w1 => before_any (kAt l k) key w1 hz.1 hks
      have htk : aheadL key (l.take (k + 1)) = aheadL key (l.take k) ++ (if Str.before (Tx (kAt l k)) (Tx key) = true then [⟨kAt l k, vAt l k⟩] else []) := by
        unfold aheadL
        rw [List.take_succ_eq_append_getElem hkl, List.filter_append]
        congr 1
        have e : (⟨kAt l k, vAt l k⟩ : Rw) = l[k] := by unfold kAt vAt; rw [rAt_lt hkl]
        rw [e]
        have e2 : kAt l k = l[k].key := by unfold kAt; rw [rAt_lt hkl]
        rw [e2, List.filter_cons]
        rfl
      cases hb : Str.before (Tx (kAt l k)) (Tx key)
      · rw [hb] at hBf htk
        have hBf := Lib.hid hBf
        rw [if_neg (by decide), List.append_nil] at htk
        have Htk := Lib.hid htk
        clear hb htk hkl
        go_wp2_with (go_at_call 30; (with_reducible refine (hBf.out _).mono ?_); rintro e w2 ⟨rfl, d, rfl⟩)
        go_roundw
        case rel => exact ⟨k + 1, o, m, c, by omega, by omega, by go_num, rfl, by rw [Htk.out]; exact Lib.hid (hO.out.keep ((Gr.refl _).drewN _)), hg.drewN _⟩
        case measure => simp [intOf]; omega
      · rw [hb] at hBf htk
        have hBf := Lib.hid hBf
        rw [if_pos rfl] at htk
        have Htk := Lib.hid htk
        clear hb htk hkl
        go_wp2_with (first | (go_at_call 30; (with_reducible refine (hBf.out _).mono ?_); rintro e w2 ⟨rfl, d, rfl⟩; have hgd := hg.drewN d; have HOx := Lib.hid (hO.out.keep (((Gr.refl wr).drewN d).alloc (.cells #[.string (kAt l k), .string (vAt l k)] 41)))) | (at_builtin; refine wpList_rows_g rfl _ _ rfl w.heap.size (hgd.alloc _).le rfl HOx.out rfl (row_one (b := (wr.drewN d).heap.size) (Nat.le_refl _) (by unfold maxLen; omega) (World.cell?_alloc_new (wr.drewN d) _ _ 0) (World.cell?_alloc_new (wr.drewN d) _ _ 1) hz.1 hz.2) (by omega) ?_; intro oc c3 w3 ho3 hb3; (have hg3 : Gr w w3 := grown_gr hb3 HOx.out (hgd.alloc _) (Nat.le_refl _)); have HO3 := Lib.hid ho3; clear ho3 hb3))
        go_roundw
        case rel => exact ⟨k + 1, oc, m + 1, c3, by omega, by omega, by go_num, rfl, by rw [Htk.out]; exact HO3, hg3⟩
        case measure => simp [intOf]; omega
    · obtain rfl : k = n := by omega
      have hR := hO.out.rows
      rw [List.take_of_length_le (by rw [Hlen.out]; exact Nat.le_refl _)] at hR
      have HR := Lib.hid hR
      clear hR
      go_wp2_with fail
      go_ret
      exact ⟨o, m, c, rfl, HR.out, hg⟩
end Go.Proofs.YtidfelbaegaphaaDoor
