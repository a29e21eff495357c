import Derived.Test.YtopomocbjlikjaaCpz
namespace Go.Proofs.Ytopomocbjlikjaa
set_option linter.unusedVariables false
set_option linter.unusedSimpArgs false
open Go.BigFrame Go.RowKit Go.WideShapes

theorem results_tmp4 {fn : Func} {t u s r : Tmp} (h : fn.results = #[.tmp t, .tmp u, .tmp s, .tmp r]) (tmps : Array Value) (P : Program) (w : World) :
    (results fn tmps).run P w = .ok (.tuple #[tmps.getD t undef, tmps.getD u undef, tmps.getD s undef, tmps.getD r undef]) w := by simp [results, h]

end Go.Proofs.Ytopomocbjlikjaa
