import Derived.Test.YtfejdbcfcpmdiaaDoorStrz
import Derived.Maps.OwnSet
import Derived.Maps.Keyed
namespace Go.Proofs.YtfejdbcfcpmdiaaDoor
set_option linter.unusedVariables false
set_option linter.unusedSimpArgs false
open Go.Maps

/-! Maps from integers to values of whatever kind: the reader holds the very value. -/
/-- an element reads as itself -/
def heldR : Value → Option (DataW Value × List MemPlace) := fun v => some (.held v, [])
theorem heldR_inv {v u : Value} {ps : List MemPlace} (h : heldR v = some (.held u, ps)) : v = u := by
  unfold heldR at h
  simp only [Option.some.injEq, Prod.mk.injEq, DataW.held.injEq] at h
  exact h.1
abbrev kI (k : Int) : Lit := .int .i64 k
/-- what stands at a key, of stores one behind the other -/
def lkA (f : List (Int × Value)) (k : Int) (a : Option Value) : Option Value := f.foldl (fun a p => if p.1 = k then some p.2 else a) a
abbrev lk (f : List (Int × Value)) (k : Int) : Option Value := lkA f k none
def mapA (f : List (Int × Value)) (D : DataW Value) : DataW Value := f.foldl (fun D p => D.put (kI p.1) (.held p.2)) D
abbrev mapD (f : List (Int × Value)) : DataW Value := mapA f (.map [])
theorem mapD_snoc (f : List (Int × Value)) (k : Int) (v : Value) : mapD (f ++ [(k, v)]) = (mapD f).put (kI k) (.held v) := by
  unfold mapD mapA; rw [List.foldl_append]; rfl
theorem lk_snoc (f : List (Int × Value)) (p : Int × Value) (k : Int) : lk (f ++ [p]) k = if p.1 = k then some p.2 else lk f k := by
  unfold lk lkA; rw [List.foldl_append]; rfl
theorem kI_ne {a b : Int} (h : a ≠ b) : kI a ≠ kI b := fun e => h (by simpa [kI] using e)
theorem kI_key (a : Int) : WideAt.IsKeyLit (kI a) := by unfold kI WideAt.IsKeyLit; trivial
theorem map_look (k : Int) : ∀ (f : List (Int × Value)) (D : DataW Value) (a : Option Value), IsMap D → (has D (kI k) = a.isSome ∧ ∀ z, D.atKey (kI k) z = (a.map DataW.held).getD z) →
    has (mapA f D) (kI k) = (lkA f k a).isSome ∧ ∀ z, (mapA f D).atKey (kI k) z = ((lkA f k a).map DataW.held).getD z
  | [], D, a, _, h => h
  | p :: f, D, a, hm, h => by
    refine map_look k f (D.put (kI p.1) (.held p.2)) (if p.1 = k then some p.2 else a) (hm.put _ _) ?_
    by_cases e : p.1 = k
    · rw [if_pos e, e]
      exact ⟨has_put_same hm (kI_key k) _, fun z => atKey_put_same hm (kI_key k) _ _⟩
    · rw [if_neg e]
      have e2 : kI k ≠ kI p.1 := kI_ne (fun q => e q.symm)
      exact ⟨(has_put_other e2 _).trans h.1, fun z => (atKey_put_other e2 _ _).trans (h.2 z)⟩
theorem mapD_look (f : List (Int × Value)) (k : Int) : has (mapD f) (kI k) = (lk f k).isSome ∧ ∀ z, (mapD f).atKey (kI k) z = ((lk f k).map DataW.held).getD z :=
  map_look k f (.map []) none isMap_empty ⟨rfl, fun z => atKey_of_not_has rfl z⟩
end Go.Proofs.YtfejdbcfcpmdiaaDoor
