import Derived.Test.YtfejdbcfcpmdiaaDoorBxz
import Derived.WalkKit
namespace Go.Proofs.YtfejdbcfcpmdiaaDoor
set_option linter.unusedVariables false
set_option linter.unusedSimpArgs false
open Go.BigFrame Go.RowKit Go.WideShapes

/-! Whole structs stored and loaded by boxes (out of Sp8, for seats without leaves; not beside Sp8). -/
theorem wpList_store_box {P : Program} {ops : Array Oper} {rest : List Oper} {op : Oper} {a : Act} {w : World} {Q : Exit → Act → World → Prop} {b : Nat} {vs : List Value} {ty : TypeId} (hb : Bx w b vs) (us : List Value) (hgd : op.guard = none)
    (ho : ∃ x y, op.op = .store ty x y ∧ a.eval x = .pointer (some ⟨b, 0, none⟩) ∧ a.eval y = .agg us.toArray) (hl : us.length = vs.length) (hi : (P.info? ty).map (·.size) = some us.length) (h1 : us.all (·.oneCell') = true)
    (h : wpList P ops Q rest (a.put op.dst undef) (w.setCells b 0 us)) : wpList P ops Q (op :: rest) a w := by
  obtain ⟨x, y, h2, h3, h4⟩ := ho
  refine wpList_store_mid hgd ty x y h2 b 0 us.toArray h3 h4 ?_ (by simpa using hi) (by simpa using h1) (by simpa using h)
  have := hb.may
  rw [← hl] at this
  simpa using this
theorem wpList_load_box {P : Program} {ops : Array Oper} {rest : List Oper} {op : Oper} {a : Act} {w : World} {Q : Exit → Act → World → Prop} {b : Nat} {vs : List Value} {ty : TypeId} (hb : Bx w b vs) {d : TypeDesc} (hgd : op.guard = none)
    (ho : ∃ x, op.op = .load ty x ∧ a.eval x = .pointer (some ⟨b, 0, none⟩)) (hu : P.underlying ty = some d) (hd : d.isRow = true) (hi : (P.info? ty).map (·.size) = some vs.length)
    (h : wpList P ops Q rest (a.put op.dst (.agg vs.toArray)) w) : wpList P ops Q (op :: rest) a w := by
  obtain ⟨x, h2, h3⟩ := ho
  exact wpList_load_mid hgd ty x h2 b 0 h3 vs d hb.rng hu hd hi h
theorem size_alloc1 (w : World) (o : Obj) : (w.alloc o).heap.size = w.heap.size + 1 := by show (w.heap.push o).size = _; rw [Array.size_push]
end Go.Proofs.YtfejdbcfcpmdiaaDoor
