import Derived.Test.YtidfelbaegaphaaDoorRf7az
import Derived.Test.YtidfelbaegaphaaDoorRf7dz
namespace Go.Proofs.YtidfelbaegaphaaDoor
set_option linter.unusedVariables false
set_option linter.unusedSimpArgs false
open Go.BigFrame Go.RowKit Go.WideShapes

/-- the document's Fold, of any chain -/
theorem refFold_any (oa : Option Addr) (n cap : Nat) (l : List Ry) (w : World) (h : RecsAt w oa n cap l) (hn : n ≤ 1000) (hrs : ∀ (i : Nat) (y : Ry), l[i]? = some y → y.x.r.rows.length ≤ 100) :
    Calls Tryd.prog 10 #[.slice oa n cap] w (RefTells w (foldR (rcs l))) := by
  by_cases hk : kindsB l
  · by_cases hp : 0 < n ∧ posI l
    · exact refFold_run oa n cap l w h hn hrs hk hp.2 hp.1
    · refine refFold_pos oa n cap l w h hn hrs hk ?_
      rcases Nat.eq_zero_or_pos n with q | q
      · exact .inl q
      · exact .inr fun z => hp ⟨q, z⟩
  · exact refFold_kinds oa n cap l w h hn hrs hk
end Go.Proofs.YtidfelbaegaphaaDoor
