import Derived.Test.YtkngjnkecmjakaaDoorSr
import Derived.Test.YtkngjnkecmjakaaDoorAh
namespace Go.Proofs.YtkngjnkecmjakaaDoor
set_option linter.unusedVariables false
set_option linter.unusedSimpArgs false
open Go.BigFrame Go.RowKit Go.WideShapes

/-- what rows lie in stays -/
def Fr (w w' : World) : Prop := ∀ (b : Nat) (cs : Array Value), w.heap[b]? = some (Obj.cells cs 47 (0, 0)) → w'.heap[b]? = w.heap[b]?
theorem Fr.refl (w : World) : Fr w w := fun _ _ _ => rfl
theorem Fr.trans {a b c : World} (h : Fr a b) (k : Fr b c) : Fr a c := fun x cs q => by
  have e := h x cs q
  rw [k x cs (by rw [e]; exact q), e]
theorem Gr.fr {w w' : World} (hg : Gr w w') : Fr w w' := fun b cs q => by rw [blk_keep hg q, q]
theorem Fr.set {w : World} {B i : Nat} {v : Value} {cs : Array Value} {T : TypeId} (h : w.heap[B]? = some (.cells cs T (0, 0))) (hT : T ≠ 47) : Fr w (w.setCell ⟨B, i, none⟩ v) := fun b ds q => by
  have hne : b ≠ B := fun e => by
    subst e
    rw [h] at q
    simp only [Option.some.injEq, Obj.cells.injEq] at q
    exact hT q.2.1
  simp only [World.setCell, Array.getElem?_modify]
  rw [if_neg (fun q => hne q.symm)]
theorem Fr.own {w w' : World} {base : Nat} {oa : Option Addr} {n cap : Nat} {l : List Rw} (h : OwnAt w base oa n cap l) (hf : Fr w w') : OwnAt w' base oa n cap l := by
  obtain ⟨⟨ho1, ho2⟩, hr⟩ := h
  have ho2' := ho2
  rcases ho2 with ⟨e, hn⟩ | ⟨g, cap', cur, e, hb, hcur, rest⟩
  · refine ⟨⟨ho1, .inl ⟨e, hn⟩⟩, hr.len, hr.cap_le, hr.cap_max, hr.none, ⟨0, 0, fun q => absurd q (by omega), fun i hi => absurd hi (by omega)⟩, hr.sizes⟩
  · have hk := hf g cur hcur
    rw [hcur] at hk
    simp only [Value.slice.injEq] at e
    obtain ⟨rfl, -, rfl⟩ := e
    obtain ⟨b, off, h5, h6⟩ := hr.cells
    refine ⟨⟨ho1, .inr ⟨g, cap, cur, rfl, hb, hk, rest⟩⟩, hr.len, hr.cap_le, hr.cap_max, hr.none, ⟨b, off, fun q => ?_, fun i hi => ?_⟩, hr.sizes⟩
    · have := (h5 q).1
      simp only [Option.some.injEq, Addr.mk.injEq] at this
      refine ⟨(h5 q).1, ?_⟩
      rw [← this.1]
      rcases Nat.lt_or_ge g w'.heap.size with r | r
      · exact r
      · rw [Array.getElem?_eq_none r] at hk; cases hk
    · have e1 := (h5 (by omega)).1
      simp only [Option.some.injEq, Addr.mk.injEq] at e1
      have hbl : w'.heap[b]? = w.heap[b]? := by rw [← e1.1, hk, hcur]
      rw [World.cell?_of_block (w := w) (a := ⟨b, off + i * 2, Option.none⟩) hbl, World.cell?_of_block (w := w) (a := ⟨b, off + i * 2 + 1, Option.none⟩) hbl]
      exact h6 i hi

theorem set_other (w : World) (t o b : Nat) (v : Value) (h : b ≠ t) : (w.setCell ⟨t, o, none⟩ v).heap[b]? = w.heap[b]? := by
  simp only [World.setCell, Array.getElem?_modify]
  rw [if_neg (fun q => h q.symm)]
theorem set_same {w : World} {t o : Nat} {cs : Array Value} {T : TypeId} (h : w.heap[t]? = some (.cells cs T (0, 0))) (v : Value) : (w.setCell ⟨t, o, none⟩ v).heap[t]? = some (.cells (cs.setIfInBounds o v) T (0, 0)) := by
  simp only [World.setCell, Array.getElem?_modify]
  rw [h]
  simp

theorem own_set {w : World} {base n B i : Nat} {v x : Value} {xs : List Value} {cs : Array Value} {T : TypeId} (h : w.ownsRow base 3 1 v n xs) (hB : w.heap[B]? = some (.cells cs T (0, 0))) (hT : T ≠ 3) : (w.setCell ⟨B, i, none⟩ x).ownsRow base 3 1 v n xs := by
  refine ⟨h.1, ?_⟩
  rcases h.2 with ⟨e, hn⟩ | ⟨g, cap, cur, e, hb, hcur, rest⟩
  · exact .inl ⟨e, hn⟩
  · refine .inr ⟨g, cap, cur, e, hb, ?_, rest⟩
    have hne : g ≠ B := fun q => by
      subst q
      rw [hcur] at hB
      simp only [Option.some.injEq, Obj.cells.injEq] at hB
      exact hT hB.2.1.symm
    rw [set_other _ _ _ _ _ hne]; exact hcur
section
variable {w : World} {base B U : Nat} {lv : Value} {u : List Bool} {ov : Value} {order : List Nat} {rv : Value}
theorem Sr.mark (h : Sr w base B U lv u ov order rv) (i : Nat) (b : Bool) : Sr (w.setCell ⟨U, i, none⟩ (.bool b)) base B U lv (u.set i b) ov order rv := by
  refine ⟨h.hB, h.hU, h.ne, ?_, ?_, own_set h.own h.ublk (by decide), h.oB⟩
  · rw [set_other _ _ _ _ _ h.ne, List.length_set]; exact h.blk
  · rw [set_same h.ublk]
    congr 2
    simp [List.map_set]
/-- the order is set -/
theorem Sr.setOrder (h : Sr w base B U lv u ov order rv) {w2 : World} {v' : Value} {order' : List Nat} (hb : w2.heap[B]? = w.heap[B]?) (hu : w2.heap[U]? = w.heap[U]?) (ho : w2.ownsRow base 3 1 v' order'.length (intsV order')) :
    Sr (w2.setCell ⟨B, 2, none⟩ v') base B U lv u v' order' rv := by
  have hblk := hb.trans h.blk
  have hublk := hu.trans h.ublk
  refine ⟨h.hB, h.hU, h.ne, ?_, ?_, own_set ho hblk (by decide), fun g hg => ?_⟩
  · rw [set_same hblk]; rfl
  · rw [set_other _ _ _ _ _ (fun q => h.ne q.symm)]; exact hublk
  · rcases ho.2 with ⟨e, hn⟩ | ⟨g2, cap, cur, e, hb2, hcur, rest⟩
    · rw [e] at hg; simp [Value.ownBlock] at hg
    · rw [e] at hg
      simp only [Value.ownBlock, Option.some.injEq] at hg
      subst hg
      constructor
      · intro q
        subst q
        rw [hblk] at hcur
        simp only [Option.some.injEq, Obj.cells.injEq] at hcur
        exact absurd hcur.2.1 (by decide)
      · intro q
        subst q
        rw [hublk] at hcur
        simp only [Option.some.injEq, Obj.cells.injEq] at hcur
        exact absurd hcur.2.1 (by decide)
theorem Sr.setRows (h : Sr w base B U lv u ov order rv) (x : Value) : Sr (w.setCell ⟨B, 3, none⟩ x) base B U lv u ov order x := by
  refine ⟨h.hB, h.hU, h.ne, ?_, ?_, own_set h.own h.blk (by decide), h.oB⟩
  · rw [set_same h.blk]; rfl
  · rw [set_other _ _ _ _ _ (fun q => h.ne q.symm)]; exact h.ublk
theorem Sr.frMark (h : Sr w base B U lv u ov order rv) (i : Nat) (x : Value) : Fr w (w.setCell ⟨U, i, none⟩ x) := Fr.set h.ublk (by decide)
theorem Sr.frSet (h : Sr w base B U lv u ov order rv) (i : Nat) (x : Value) : Fr w (w.setCell ⟨B, i, none⟩ x) := Fr.set h.blk (by decide)
/-- where an append grew the order -/
theorem Sr.frGrow (h : Sr w base B U lv u ov order rv) {w2 : World} (hg : w.grownBy w2 (Value.ownBlock ov)) : Fr w w2 := fun b cs q => by
  have hlt : b < w.heap.size := by
    rcases Nat.lt_or_ge b w.heap.size with r | r
    · exact r
    · rw [Array.getElem?_eq_none r] at q; cases q
  refine hg.block b hlt fun e => ?_
  rcases h.own.2 with ⟨e2, hn⟩ | ⟨g, cap, cur, e2, hb, hcur, rest⟩
  · rw [e2] at e; simp [Value.ownBlock] at e
  · rw [e2] at e
    simp only [Value.ownBlock, Option.some.injEq] at e
    subst e
    rw [hcur] at q
    simp only [Option.some.injEq, Obj.cells.injEq] at q
    exact absurd q.2.1 (by decide)
theorem Sr.growB (h : Sr w base B U lv u ov order rv) {w2 : World} (hg : w.grownBy w2 (Value.ownBlock ov)) : w2.heap[B]? = w.heap[B]? ∧ w2.heap[U]? = w.heap[U]? := by
  have lt : ∀ {b : Nat} {o : Obj}, w.heap[b]? = some o → b < w.heap.size := fun {b o} q => by
    rcases Nat.lt_or_ge b w.heap.size with r | r
    · exact r
    · rw [Array.getElem?_eq_none r] at q; cases q
  exact ⟨hg.block B (lt h.blk) fun e => (h.oB B e.symm).1 rfl, hg.block U (lt h.ublk) fun e => (h.oB U e.symm).2 rfl⟩
theorem Sr.gr {w0 : World} (h : Sr w base B U lv u ov order rv) (hb : base = w0.heap.size) {w2 : World} (hg0 : Gr w0 w) (hg : w.grownBy w2 (Value.ownBlock ov)) : Gr w0 w2 :=
  Below.grown hg0 hg hg0.le (fun q hq => by rw [← hb]; exact (h.own.lt q hq).1)
end
end Go.Proofs.YtkngjnkecmjakaaDoor
