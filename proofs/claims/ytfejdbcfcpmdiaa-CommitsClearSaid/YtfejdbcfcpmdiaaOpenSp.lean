import Derived.Test.YtfejdbcfcpmdiaaLift
import Derived.Lib.SmallJoins
namespace Go.Proofs.Ytfejdbcfcpmdiaa
set_option linter.unusedVariables false
open Go.BigFrame Go.RowKit Go.ChangeShapes Go.WideShapes Go.ChangeAt Go.Joins
open Go.ChangeMaps (open_string shut_string)

theorem cells_span : Try.prog.cellsOf 42 = 3 := by kernel_rfl
set_option maxRecDepth 100000 in
/-- a span that came in -/
theorem open_span {H : Type} {enc : TypeId × Value → H} {W : World} {base : Nat} {v : Value} {d : DataW H} {p : List MemPlace} {spare : Nat → Bool} {held : Bool} {base2 : Nat}
    (hv : Value.okWide Try.prog W .any base 42 v) (h : DataW.Trod enc Try.prog W base2 spare held 42 v d p) :
    ∃ (l g : ByteArray) (u : Bool), v = .agg #[.string l, .string g, .bool u] ∧ l.size ≤ maxLen ∧ g.size ≤ maxLen := by
  obtain ⟨c0, c1, c2, y0, y1, y2, n, rfl, -, -, h0, h1, h2⟩ := open_agg3 Try.underlying42 (by kernel_rfl) cells_span hv h
  obtain ⟨l, e0, -, w0⟩ := DataW.trod_string Try.underlying9 h0
  obtain ⟨g, e1, -, w1⟩ := DataW.trod_string Try.underlying9 h1
  obtain ⟨u, e2, -⟩ := DataW.trod_bool Try.underlying4 h2
  simp only [List.cons.injEq, and_true] at e0 e1 e2
  subst e0 e1 e2
  exact ⟨l, g, u, rfl, w0, w1⟩

end Go.Proofs.Ytfejdbcfcpmdiaa
