import Derived.Test.YtkngjnkecmjakaaDoorGc
namespace Go.Proofs.YtkngjnkecmjakaaDoor
set_option linter.unusedVariables false
set_option linter.unusedSimpArgs false
open Go.BigFrame Go.RowKit Go.WideShapes

/-- the document's search: f places more at most -/
def orderF (l : List Ev) (rows : List Rw) : Nat → List Nat → Option (List Nat)
  | 0, o => if (goodF l o rows true).isSome = true then some o else none
  | f + 1, o => if (goodF l o rows true).isSome = true then some o else tryFrom (fun i => if (goodF l (o ++ [i]) rows false).isSome = true then orderF l rows f (o ++ [i]) else none) l.length 0

theorem goodGo_cons (l : List Ev) (done rest : List Nat) (i : Nat) (rows : List Rw) : goodGo l done (i :: rest) rows = if goodOk l done i = true then (match stepG rows (evAt l i) with | some next => goodGo l (done ++ [i]) rest next | none => none) else none := by
  conv => lhs; unfold goodGo
  rfl
theorem goodGo_one (l : List Ev) (done : List Nat) (i : Nat) (rows : List Rw) : goodGo l done [i] rows = if goodOk l done i = true then stepG rows (evAt l i) else none := by
  rw [goodGo_cons]
  split
  · cases stepG rows (evAt l i) <;> rfl
  · rfl
theorem goodGo_append (l : List Ev) : ∀ (rest more done : List Nat) (rows : List Rw), goodGo l done (rest ++ more) rows = (goodGo l done rest rows).bind fun r => goodGo l (done ++ rest) more r := by
  intro rest
  induction rest with
  | nil =>
    intro more done rows
    show goodGo l done more rows = goodGo l (done ++ []) more rows
    rw [List.append_nil]
  | cons i rest ih =>
    intro more done rows
    rw [List.cons_append, goodGo_cons, goodGo_cons]
    split
    · cases stepG rows (evAt l i) with
      | none => rfl
      | some next =>
        simp only []
        rw [ih more (done ++ [i]) next]
        simp [List.append_assoc]
    · rfl
theorem goodF_next {l : List Ev} {o : List Nat} {rows now : List Rw} (h : goodGo l [] o rows = some now) (i : Nat) : goodF l (o ++ [i]) rows false = if goodOk l o i = true then stepG now (evAt l i) else none := by
  unfold goodF
  rw [goodGo_append, h]
  simp only [Option.bind_some, List.nil_append]
  rw [goodGo_one]
  split
  · rename_i heq
    rw [heq]; simp
  · rename_i heq
    rw [heq]
theorem tryFrom_map {α β : Type} (g : α → β) {c : Nat → Option α} {d : Nat → Option β} : ∀ {m s : Nat}, (∀ i, s ≤ i → i < s + m → d i = (c i).map g) → tryFrom d m s = (tryFrom c m s).map g := by
  intro m
  induction m with
  | zero => intro s h; rfl
  | succ m ih =>
    intro s h
    unfold tryFrom
    rw [h s (Nat.le_refl _) (by omega), ih (fun i h1 h2 => h i (by omega) (by omega))]
    cases c s <;> rfl
/-- the two searches find the same -/
theorem find_order {l : List Ev} {rows : List Rw} (hok : ∀ i, i < l.length → evOk (evAt l i) = true) : ∀ (f : Nat) (u : List Bool) (o : List Nat) (now : List Rw), goodGo l [] o rows = some now → u.length = l.length → (∀ i, i < l.length → (usedAt u i = true ↔ i ∈ o)) → rowsOkB now = true →
    orderF l rows f o = (findF l f u o now).map (·.1) := by
  have hwhole : ∀ (u : List Bool) (o : List Nat) (now : List Rw), goodGo l [] o rows = some now → (∀ i, i < l.length → (usedAt u i = true ↔ i ∈ o)) → (goodF l o rows true).isSome = wholeB l u := by
    intro u o now h hu
    unfold goodF
    rw [h]
    have e : allIn l o = wholeB l u := by
      unfold allIn wholeB
      rw [decide_eq_decide]
      exact ⟨fun q i hi => (q i hi).imp (hu i hi).2 id, fun q i hi => (q i hi).imp (hu i hi).1 id⟩
    simp only [e]
    cases wholeB l u <;> rfl
  intro f
  induction f with
  | zero =>
    intro u o now h hl hu hr
    unfold orderF findF
    rw [hwhole u o now h hu]
    cases wholeB l u <;> rfl
  | succ f ih =>
    intro u o now h hl hu hr
    unfold orderF findF
    rw [hwhole u o now h hu]
    cases wholeB l u
    · simp only [Bool.false_eq_true, if_false]
      refine tryFrom_map (fun (x : List Nat × List Rw) => x.1) fun i _ hi => ?_
      rw [Nat.zero_add] at hi
      rw [goodF_next h i]
      unfold candF
      have hfree : freeB l u i = goodOk l o i := by
        unfold freeB goodOk
        rw [decide_eq_true hi, Bool.true_and]
        have e1 : usedAt u i = decide (i ∈ o) := by
          rw [Bool.eq_iff_iff, decide_eq_true_iff]; exact hu i hi
        rw [e1]
        congr 1
        rw [decide_eq_decide]
        constructor
        · intro q j hj h1 h2
          refine q j hj h2 ?_
          rcases Bool.eq_false_or_eq_true (usedAt u j) with r | r
          · exact absurd ((hu j hj).1 r) h1
          · exact r
        · intro q j hj h1 h2
          exact q j hj (fun r => by rw [(hu j hj).2 r] at h2; cases h2) h1
      rw [hfree]
      cases hg : goodOk l o i
      · rfl
      · simp only [if_true]
        rw [step_same (hok i hi) hr]
        cases hs : stepG now (evAt l i) with
        | none => rfl
        | some next =>
          simp only [Option.isSome_some, if_true]
          refine ih (u.set i true) (o ++ [i]) next ?_ (by rw [List.length_set]; exact hl) (fun j hj => ?_) (step_ok (hok i hi) hr hs)
          · rw [goodGo_append, h]
            simp only [Option.bind_some, List.nil_append]
            rw [goodGo_one, if_pos hg, hs]
          · rw [used_set (by omega)]
            simp only [Bool.or_eq_true, decide_eq_true_iff, List.mem_append, List.mem_singleton]
            rw [hu j hj]
            exact ⟨fun q => q.symm, fun q => q.symm⟩
    · rfl
end Go.Proofs.YtkngjnkecmjakaaDoor
