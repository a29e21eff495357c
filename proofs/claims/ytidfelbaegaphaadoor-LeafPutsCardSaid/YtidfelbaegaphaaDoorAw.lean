import Derived.Test.YtidfelbaegaphaaDoorJn
namespace Go.Proofs.YtidfelbaegaphaaDoor
set_option linter.unusedVariables false
set_option linter.unusedSimpArgs false
open Go.BigFrame Go.RowKit Go.WideShapes

def abc : List Rw := [⟨⟨#[97]⟩, ⟨#[]⟩⟩, ⟨⟨#[98]⟩, ⟨#[]⟩⟩, ⟨⟨#[99]⟩, ⟨#[]⟩⟩]
end Go.Proofs.YtidfelbaegaphaaDoor
