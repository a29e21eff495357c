/- What the tied row's condition gives a walk: the cell of errors.errorType; and a world that meets it. -/
import Derived.Test.YtfejdbcfcpmdiaaDoorAsz
import Derived.Test.YtfejdbcfcpmdiaaDoorLiftz
import Derived.ChangeSame
import Derived.ChangeVars
import Derived.JoinedOf
import Derived.RowKit
import Derived.RowKitTokens
import Derived.LaidLaws
import Derived.LaidHandle
import Derived.Stop.Joined
namespace Go.Proofs.YtfejdbcfcpmdiaaDoor
open Go.ChangeShapes Go.WideShapes Go.RowKit

theorem doorEt : Tryd.prog.globalNamed "errors.errorType" = some 0 := by kernel_rfl
theorem doorRt : (Tryd.prog.cutTypes.find? (·.1 == "internal/reflectlite.rtype")).map (·.2) = some 104 := by kernel_rfl
theorem doorOne : ((List.range 146).filter fun t => Tryd.prog.rowNamed t [101, 114, 114, 111, 114]) = [45] := by kernel_rfl
theorem doorSize : Tryd.prog.types.size = 146 := by kernel_rfl
/-- the one listed variable -/
abbrev doorLaid : List (String × DataW Unit) := [("errors.errorType", Rows.laid_errors_errorType)]
theorem handle_of_laid {W : World} (h : laidMetH Tryd.prog doorLaid W) : W.cell? ⟨0, 0, none⟩ = some handleV := by
  have h' : laidMet Tryd.prog [] W ∧ handlesMet Tryd.prog doorLaid W := h
  obtain ⟨name, u, ty, e1, e2, e3, e4, e5⟩ := h'.2 _ (List.mem_singleton.2 rfl)
  have en : name = [101, 114, 114, 111, 114] := (Option.some.inj e1).symm
  subst en
  obtain rfl := Option.some.inj (doorRt.symm.trans e2)
  have hm : ty ∈ (List.range 146).filter fun t => Tryd.prog.rowNamed t [101, 114, 114, 111, 114] := List.mem_filter.2 ⟨List.mem_range.2 (by rw [← doorSize]; exact e3), e4⟩
  rw [doorOne] at hm
  obtain rfl := List.mem_singleton.1 hm
  have hh : typeHandle Tryd.prog 45 = .pointer (some ⟨1, 45, none⟩) := by kernel_rfl
  rw [hh] at e5
  simpa using World.var?_cell doorEt e5 0

/-- a world that meets the condition: the settled one, the variable's cell laid -/
noncomputable def laidWorld (os : Os) : World :=
  let w0 := World.holding Tryd.prog os ⟨#[], #[], []⟩
  { w0 with heap := w0.heap.modify 0 fun
      | .cells _ t frozen => .cells #[handleV] t frozen
      | o => o }
theorem laidWorld_met (os : Os) (args : Array Value) : laidMetH Tryd.prog doorLaid ((laidWorld os).forCall (fun _ _ => 0) ⟨#[], args, []⟩).memory :=
  laidMetH_of_parts (laidMet_nil _ _) (by kernel_rfl)
end Go.Proofs.YtfejdbcfcpmdiaaDoor
