import Derived.Test.YtopomocbjlikjaaWrz
namespace Go.Proofs.Ytopomocbjlikjaa
set_option linter.unusedVariables false
set_option linter.unusedSimpArgs false
open Go.BigFrame Go.RowKit Go.WideShapes

/-- a slice of writes as a value, with what it holds -/
structure Pw where
  oa : Option Addr
  n : Nat
  cap : Nat
  l : List Wt
  deriving Inhabited
def pwAt (L : List Pw) (i : Nat) : Pw := L.getD i ⟨none, 0, 0, []⟩
theorem pwAt_lt {L : List Pw} {i : Nat} (h : i < L.length) : pwAt L i = L[i] := by
  unfold pwAt; rw [List.getD_eq_getElem?_getD, List.getElem?_eq_getElem h]; rfl
/-- the slice holds these slices of writes -/
structure PartsW (w : World) (oa : Option Addr) (n cap : Nat) (L : List Pw) : Prop where
  len : L.length = n
  cap_le : n ≤ cap
  cap_max : cap ≤ maxLen
  none : oa = none → cap = 0
  cells : ∃ b off, (0 < n → oa = some ⟨b, off, Option.none⟩ ∧ b < w.heap.size) ∧ ∀ i, i < n → w.cell? ⟨b, off + i, Option.none⟩ = some (.slice (pwAt L i).oa (pwAt L i).n (pwAt L i).cap) ∧ WritesAt w (pwAt L i).oa (pwAt L i).n (pwAt L i).cap (pwAt L i).l
end Go.Proofs.Ytopomocbjlikjaa
