import Derived.Test.YtidfelbaegaphaaDoorPt2
namespace Go.Proofs.YtidfelbaegaphaaDoor
set_option linter.unusedVariables false
set_option linter.unusedSimpArgs false
open Go.BigFrame Go.RowKit Go.WideShapes

/-- an answer that says at most that there are few -/
def FewSays (n : Nat) (e : Ending) : Prop := ∃ b : Bool, e = .returned (.bool b) ∧ (b = true → n ≤ 100)

end Go.Proofs.YtidfelbaegaphaaDoor
