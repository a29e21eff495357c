import Derived.Test.YtfejdbcfcpmdiaaDoorBxz
namespace Go.Proofs.YtfejdbcfcpmdiaaDoor
set_option linter.unusedVariables false
set_option linter.unusedSimpArgs false
open Go.RowKit

/-! Blocks that may be written (S), and all others. -/
/-- the world without the cells of some blocks -/
def hideL (w : World) : List Nat → World
  | [] => w
  | g :: S => hideB (hideL w S) (some g)
theorem hideL_size (w : World) : ∀ S : List Nat, (hideL w S).heap.size = w.heap.size
  | [] => rfl
  | g :: S => by unfold hideL; rw [hideB_size, hideL_size w S]
theorem hideL_cell {w : World} {b o : Nat} {v : Value} : ∀ {S : List Nat}, (hideL w S).cell? ⟨b, o, none⟩ = some v ↔ b ∉ S ∧ w.cell? ⟨b, o, none⟩ = some v
  | [] => by simp [hideL]
  | g :: S => by
    unfold hideL
    rw [hideB_cell, hideL_cell (S := S)]
    simp only [List.mem_cons, not_or, Option.some.injEq, ne_eq]
    constructor
    · rintro ⟨h1, h2, h3⟩; exact ⟨⟨fun e => h1 e.symm, h2⟩, h3⟩
    · rintro ⟨⟨h1, h2⟩, h3⟩; exact ⟨fun e => h1 e.symm, h2, h3⟩
theorem hideL_ex (w : World) (S : List Nat) : Ex (hideL w S) w := ⟨fun _ _ _ h => (hideL_cell.1 h).2, by rw [hideL_size]; exact Nat.le_refl _⟩
/-- older blocks beside younger ones -/
theorem hideL_new {w w' : World} (hg : Gr w w') {S S' : List Nat} (h : ∀ b ∈ S', b ∈ S ∨ w.heap.size ≤ b) : Ex (hideL w S) (hideL w' S') :=
  ⟨fun b o v q => by
    obtain ⟨q1, q2⟩ := hideL_cell.1 q
    refine hideL_cell.2 ⟨fun e => ?_, hg.keep q2⟩
    rcases h b e with k | k
    · exact q1 k
    · have := cell_lt q2; omega, by rw [hideL_size, hideL_size]; exact hg.le⟩
theorem hideL_gr {w w' : World} (hg : Gr w w') (S : List Nat) : Ex (hideL w S) (hideL w' S) := hideL_new hg fun _ h => .inl h
theorem hideL_sub (w : World) {S S' : List Nat} (h : ∀ b ∈ S', b ∈ S) : Ex (hideL w S) (hideL w S') := hideL_new (Gr.refl w) fun b q => .inl (h b q)
/-- the same, but for some blocks, and grown -/
structure Mod (S : List Nat) (w w' : World) : Prop where
  os : w'.os = w.os
  tape : w'.tape = w.tape
  output : w'.output = w.output
  size : w.heap.size ≤ w'.heap.size
  block : ∀ b, b < w.heap.size → b ∉ S → w'.heap[b]? = w.heap[b]?
theorem Mod.refl (S : List Nat) (w : World) : Mod S w w := ⟨rfl, rfl, rfl, Nat.le_refl _, fun _ _ _ => rfl⟩
/-- one step on, which writes of these blocks, or of such as are new since the first world -/
theorem Mod.then {S S' : List Nat} {a b c : World} (h : Mod S a b) (k : Mod S' b c) (hs : ∀ g ∈ S', g ∈ S ∨ a.heap.size ≤ g) : Mod S a c :=
  ⟨k.os.trans h.os, k.tape.trans h.tape, k.output.trans h.output, Nat.le_trans h.size k.size, fun g hg hn =>
    (k.block g (Nat.lt_of_lt_of_le hg h.size) (fun e => by rcases hs g e with q | q; exact hn q; omega)).trans (h.block g hg hn)⟩
theorem Mod.trans {S : List Nat} {a b c : World} (h : Mod S a b) (k : Mod S b c) : Mod S a c := h.then k fun _ q => .inl q
theorem Mod.sub {S S' : List Nat} {w w' : World} (h : Mod S w w') (hs : ∀ g ∈ S, g ∈ S') : Mod S' w w' := ⟨h.os, h.tape, h.output, h.size, fun b hb hn => h.block b hb fun e => hn (hs b e)⟩
theorem Gr.mod {w w' : World} (h : Gr w w') (S : List Nat) : Mod S w w' := ⟨Below.os h, Below.tape h, Below.output h, Below.size h, fun b hb _ => Below.block h b hb⟩
theorem Mod.ofNil {w w' : World} (h : Mod [] w w') : Gr w w' := ⟨h.os, h.tape, h.output, h.size, fun b hb => h.block b hb (by simp)⟩
/-- what is written is younger than a world -/
theorem Mod.gr {S : List Nat} {W w w' : World} (hg : Gr W w) (h : Mod S w w') (hs : ∀ b ∈ S, W.heap.size ≤ b) : Gr W w' :=
  ((hg.mod []).then h fun b q => .inr (hs b q)).ofNil
theorem Mod.ex {S : List Nat} {w w' : World} (h : Mod S w w') : Ex (hideL w S) (hideL w' S) :=
  ⟨fun b o v q => by
    obtain ⟨q1, q2⟩ := hideL_cell.1 q
    refine hideL_cell.2 ⟨q1, ?_⟩
    rw [cell_of_block (h.block b (cell_lt q2) q1) o]; exact q2, by rw [hideL_size, hideL_size]; exact h.size⟩
theorem Mod.ex2 {S S' : List Nat} {w w' : World} (h : Mod S w w') (hs : ∀ g ∈ S, g ∈ S') : Ex (hideL w S') (hideL w' S') := (h.sub hs).ex
theorem Mod.setCell {S : List Nat} (w : World) (a : Addr) (v : Value) (h : a.block ∈ S) : Mod S w (w.setCell a v) :=
  ⟨rfl, rfl, rfl, by unfold World.setCell; simp, fun b _ hn => by
    unfold World.setCell
    rw [Array.getElem?_modify, if_neg (fun e : a.block = b => hn (by rw [← e]; exact h))]⟩
theorem Mod.setCells {S : List Nat} {b : Nat} (h : b ∈ S) : ∀ (vs : List Value) (o : Nat) (w : World), Mod S w (w.setCells b o vs)
  | [], _, w => Mod.refl S w
  | v :: vs, o, w => by
    rw [World.setCells]
    exact (Mod.setCell w ⟨b, o, none⟩ v h).trans (Mod.setCells h vs (o + 1) _)
theorem Mod.grown {S : List Nat} {w w' : World} {r : Option Nat} (h : w.grownBy w' r) (hr : ∀ b, r = some b → b ∈ S) : Mod S w w' :=
  ⟨h.os, h.tape, h.output, h.size, fun b hb hn => h.block b hb fun e => hn (hr b e.symm)⟩
theorem Mod.cell {S : List Nat} {w w' : World} (h : Mod S w w') {b o : Nat} {v : Value} (hb : b ∉ S) (hc : w.cell? ⟨b, o, none⟩ = some v) : w'.cell? ⟨b, o, none⟩ = some v := by
  rw [cell_of_block (h.block b (cell_lt hc) hb) o]; exact hc
theorem Mod.box {S : List Nat} {w w' : World} (h : Mod S w w') {b : Nat} (hb : b ∉ S) {vs : List Value} (hB : Bx w b vs) : Bx w' b vs :=
  ⟨fun j v hv => h.cell hb (hB.rng j v hv), fun j hj => by
    obtain ⟨h1, h2⟩ := hB.may j hj
    obtain ⟨u, hu⟩ := Option.isSome_iff_exists.1 h1
    exact ⟨by rw [h.cell hb hu]; rfl, by rw [World.frozen?_of_block (w := w) (h.block b (cell_lt hu) hb)]; exact h2⟩⟩
/-- a slice of one's own lies beside older blocks -/
theorem OwnS.hide {α : Type} {E : EP α} (hE : Mono E) {k : Nat} {T : TypeId} {w : World} {base : Nat} {oa : Option Addr} {n cap : Nat} {l : List α} (h : OwnS E k T w base oa n cap l) {S : List Nat} (hS : ∀ b ∈ S, b < base) (hx : ∀ x vs, E w x vs → E (hideL w S) x vs) : SlE E k (hideL w S) oa n cap l := by
  have hlt := h.lt
  obtain ⟨h1, h2, h3, h4, b, off, h5, h6⟩ := h.sl hE
  refine ⟨h1, h2, h3, h4, b, off, fun q => ⟨(h5 q).1, by rw [hideL_size]; exact (h5 q).2⟩, fun i x hi => ?_⟩
  obtain ⟨vs, e1, e2, e3, e4⟩ := h6 i x hi
  have hil : i < n := by have := (List.getElem?_eq_some_iff.1 hi).1; omega
  have hb := (hlt b (by rw [(h5 (by omega)).1]; rfl)).1
  exact ⟨vs, e1, e2, hx x vs e3, fun j u hj => hideL_cell.2 ⟨fun e => by have := hS b e; omega, e4 j u hj⟩⟩
theorem SlE.exL {α : Type} {E : EP α} (hE : Mono E) {k : Nat} {w : World} {S : List Nat} {oa : Option Addr} {n cap : Nat} {l : List α} (h : SlE E k (hideL w S) oa n cap l) : SlE E k w oa n cap l := h.ex hE (hideL_ex w S)
end Go.Proofs.YtfejdbcfcpmdiaaDoor
