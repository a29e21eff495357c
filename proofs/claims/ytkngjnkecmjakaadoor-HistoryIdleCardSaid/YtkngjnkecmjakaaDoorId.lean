import Derived.Test.YtkngjnkecmjakaaDoorOo
namespace Go.Proofs.YtkngjnkecmjakaaDoor
set_option linter.unusedVariables false
set_option linter.unusedSimpArgs false
open Go.BigFrame Go.RowKit Go.WideShapes

theorem tryFrom_hit {β : Type} {c : Nat → Option β} : ∀ {m s i : Nat}, s ≤ i → i < s + m → (c i).isSome = true → (tryFrom c m s).isSome = true := by
  intro m
  induction m with
  | zero => intro s i h1 h2; omega
  | succ m ih =>
    intro s i h1 h2 h3
    unfold tryFrom
    cases hc : c s with
    | some r => rfl
    | none =>
      have hne : i ≠ s := fun q => by rw [q, hc] at h3; cases h3
      exact ih (by omega) (by omega) h3
/-- the search finds an order if there is one -/
theorem find_complete {l : List Ev} (hok : ∀ i, i < l.length → evOk (evAt l i) = true) : ∀ (f : Nat) (u : List Bool) (o rest : List Nat) (now r : List Rw), goodGo l o rest now = some r → allIn l (o ++ rest) = true → u.length = l.length → (∀ i, i < l.length → (usedAt u i = true ↔ i ∈ o)) → u.count false ≤ f → rowsOkB now = true → (findF l f u o now).isSome = true := by
  have hwhole : ∀ (u : List Bool) (o : List Nat), (∀ i, i < l.length → (usedAt u i = true ↔ i ∈ o)) → allIn l o = true → wholeB l u = true := by
    intro u o hu h
    unfold allIn at h
    unfold wholeB
    rw [decide_eq_true_iff] at h ⊢
    exact fun i hi => (h i hi).imp (hu i hi).2 id
  intro f
  induction f with
  | zero =>
    intro u o rest now r h hall hl hu hc hr
    have hw : wholeB l u = true := by
      unfold wholeB
      rw [decide_eq_true_iff]
      exact fun i hi => .inl (left_none u i (by omega) (by omega))
    unfold findF
    rw [if_pos hw]; rfl
  | succ f ih =>
    intro u o rest now r h hall hl hu hc hr
    unfold findF
    by_cases hw : wholeB l u = true
    · rw [if_pos hw]; rfl
    · rw [if_neg hw]
      cases rest with
      | nil => exact absurd (hwhole u o hu (by simpa using hall)) hw
      | cons i rest =>
        rw [goodGo_cons] at h
        cases hg : goodOk l o i with
        | false => rw [hg] at h; cases h
        | true =>
          rw [hg, if_pos rfl] at h
          cases hs : stepG now (evAt l i) with
          | none => rw [hs] at h; cases h
          | some next =>
            rw [hs] at h
            have hgg := hg
            unfold goodOk at hgg
            simp only [Bool.and_eq_true, Bool.not_eq_true', decide_eq_true_iff, decide_eq_false_iff_not] at hgg
            obtain ⟨⟨hi, hno⟩, hfr⟩ := hgg
            have hui : usedAt u i = false := by
              rcases Bool.eq_false_or_eq_true (usedAt u i) with q | q
              · exact absurd ((hu i hi).1 q) hno
              · exact q
            have hls := left_set u i (by omega) hui
            refine tryFrom_hit (Nat.zero_le i) (by omega) ?_
            unfold candF
            have hfree : freeB l u i = true := by
              unfold freeB
              rw [hui, Bool.not_false, Bool.true_and, decide_eq_true_iff]
              intro k hk h1 h2
              exact hfr k hk (fun q => by rw [(hu k hk).2 q] at h2; cases h2) h1
            rw [if_pos hfree, step_same (hok i hi) hr, hs]
            refine ih (u.set i true) (o ++ [i]) rest next r h (by simpa using hall) (by rw [List.length_set]; exact hl) (fun j hj => ?_) (by omega) (step_ok (hok i hi) hr hs)
            rw [used_set (by omega)]
            simp only [Bool.or_eq_true, decide_eq_true_iff, List.mem_append, List.mem_singleton]
            rw [hu j hj]
            exact ⟨fun q => q.symm, fun q => q.symm⟩
theorem good_rows {l : List Ev} (hok : ∀ i, i < l.length → evOk (evAt l i) = true) : ∀ (rest o : List Nat) (now r : List Rw), goodGo l o rest now = some r → rowsOkB now = true → rowsOkB r = true := by
  intro rest
  induction rest with
  | nil => intro o now r h hr; cases h; exact hr
  | cons i rest ih =>
    intro o now r h hr
    rw [goodGo_cons] at h
    cases hg : goodOk l o i with
    | false => rw [hg] at h; cases h
    | true =>
      rw [hg, if_pos rfl] at h
      have hi : i < l.length := by
        unfold goodOk at hg
        simp only [Bool.and_eq_true, decide_eq_true_iff] at hg
        exact hg.1.1
      cases hs : stepG now (evAt l i) with
      | none => rw [hs] at h; cases h
      | some next =>
        rw [hs] at h
        exact ih _ _ _ h (step_ok (hok i hi) hr hs)
theorem find_iff {l : List Ev} {rows : List Rw} (hok : ∀ i, i < l.length → evOk (evAt l i) = true) (hr : rowsOkB rows = true) : (findF l l.length (List.replicate l.length false) [] rows).isSome = true ↔ ∃ rest r, goodGo l [] rest rows = some r ∧ allIn l rest = true := by
  constructor
  · intro h
    cases hf : findF l l.length (List.replicate l.length false) [] rows with
    | none => rw [hf] at h; cases h
    | some r =>
      obtain ⟨rest, e1, e2, e3⟩ := find_good hok _ _ _ _ _ hf (by simp) (fun i hi => by rw [used_none]; simp) hr
      rw [List.nil_append] at e1
      exact ⟨rest, r.2, e2, by rw [← e1]; exact e3⟩
  · rintro ⟨rest, r, h1, h2⟩
    exact find_complete hok _ _ _ rest _ r h1 (by simpa using h2) (by simp) (fun i hi => by rw [used_none]; simp) (by simp) hr
theorem find_rows {l : List Ev} {rows : List Rw} {r : List Nat × List Rw} (hok : ∀ i, i < l.length → evOk (evAt l i) = true) (hr : rowsOkB rows = true) (h : findF l l.length (List.replicate l.length false) [] rows = some r) : rowsOkB r.2 = true := by
  obtain ⟨rest, e1, e2, e3⟩ := find_good hok _ _ _ _ _ h (by simp) (fun i hi => by rw [used_none]; simp) hr
  exact good_rows hok _ _ _ _ e2 hr

/-! an idle event, all the while -/
theorem evAt_app_lt {l : List Ev} {e : Ev} {i : Nat} (h : i < l.length) : evAt (l ++ [e]) i = evAt l i := by
  rw [evAt_lt (by simp; omega), evAt_lt h, List.getElem_append_left h]
theorem evAt_app_last {l : List Ev} {e : Ev} : evAt (l ++ [e]) l.length = e := by
  rw [evAt_lt (by simp)]; simp
/-- what is asked of it -/
structure Idler (e : Ev) : Prop where
  beg : e.beg = 0
  fin : e.fin = 1099511627776
  code : e.code = 3
theorem Idler.step {e : Ev} (h : Idler e) (now : List Rw) : stepG now e = some now := by
  unfold stepG idleB
  rw [if_pos]
  rw [h.fin, h.code]; rfl
theorem goodOk_iff {l : List Ev} {d : List Nat} {i : Nat} : goodOk l d i = true ↔ i < l.length ∧ i ∉ d ∧ ∀ j, j < l.length → j ∉ d → j ≠ i → aheadB (evAt l j) (evAt l i) = false := by
  unfold goodOk
  simp only [Bool.and_eq_true, Bool.not_eq_true', decide_eq_true_iff, decide_eq_false_iff_not, and_assoc]
/-- behind it nothing is other -/
theorem idle_behind {l : List Ev} {e : Ev} (he : Idler e) : ∀ (rest d D : List Nat) (now r : List Rw), goodGo l d rest now = some r → (∀ j, j < l.length → (j ∈ D ↔ j ∈ d)) → l.length ∈ D → goodGo (l ++ [e]) D rest now = some r := by
  intro rest
  induction rest with
  | nil => intro d D now r h _ _; exact h
  | cons i rest ih =>
    intro d D now r h hD hn
    rw [goodGo_cons] at h ⊢
    cases hg : goodOk l d i with
    | false => rw [hg] at h; cases h
    | true =>
      rw [hg, if_pos rfl] at h
      obtain ⟨hi, hno, hfr⟩ := goodOk_iff.1 hg
      have hg2 : goodOk (l ++ [e]) D i = true := by
        refine goodOk_iff.2 ⟨by simp; omega, fun q => hno ((hD i hi).1 q), fun j hj h1 h2 => ?_⟩
        rw [List.length_append, List.length_singleton] at hj
        rcases Nat.lt_or_ge j l.length with q | q
        · rw [evAt_app_lt q, evAt_app_lt hi]
          exact hfr j q (fun s => h1 ((hD j q).2 s)) h2
        · obtain rfl : j = l.length := by omega
          exact absurd hn h1
      rw [if_pos hg2, evAt_app_lt hi]
      cases hs : stepG now (evAt l i) with
      | none => rw [hs] at h; cases h
      | some next =>
        rw [hs] at h
        refine ih (d ++ [i]) (D ++ [i]) next r h (fun j hj => ?_) (by simp [hn])
        simp only [List.mem_append, List.mem_singleton]
        rw [hD j hj]
/-- it finds its place -/
theorem idle_in {l : List Ev} {e : Ev} (he : Idler e) (hok : ∀ i, i < l.length → evOk (evAt l i) = true) : ∀ (rest d : List Nat) (now r : List Rw), goodGo l d rest now = some r → allIn l (d ++ rest) = true → l.length ∉ d → ∃ rest', goodGo (l ++ [e]) d rest' now = some r ∧ ∀ j, j ∈ rest' ↔ j ∈ rest ∨ j = l.length := by
  intro rest
  induction rest with
  | nil =>
    intro d now r h hall hn
    refine ⟨[l.length], ?_, by simp⟩
    have hg : goodOk (l ++ [e]) d l.length = true := by
      refine goodOk_iff.2 ⟨by simp, hn, fun j hj h1 h2 => ?_⟩
      rw [List.length_append, List.length_singleton] at hj
      have hjl : j < l.length := by omega
      rw [evAt_app_lt hjl]
      unfold allIn at hall
      rw [decide_eq_true_iff] at hall
      rcases hall j hjl with q | q
      · exact absurd (by simpa using q) h1
      · unfold aheadB
        rw [decide_eq_false (by omega)]; rfl
    rw [goodGo_one, if_pos hg, evAt_app_last, he.step]
    exact h
  | cons i rest ih =>
    intro d now r h hall hn
    have h0 := h
    rw [goodGo_cons] at h
    cases hg : goodOk l d i with
    | false => rw [hg] at h; cases h
    | true =>
      rw [hg, if_pos rfl] at h
      obtain ⟨hi, hno, hfr⟩ := goodOk_iff.1 hg
      by_cases hb : 1099511627776 ≤ (evAt l i).beg
      · refine ⟨l.length :: i :: rest, ?_, fun j => by
          simp only [List.mem_cons]
          constructor
          · rintro (q | q | q)
            · exact .inr q
            · exact .inl (.inl q)
            · exact .inl (.inr q)
          · rintro ((q | q) | q)
            · exact .inr (.inl q)
            · exact .inr (.inr q)
            · exact .inl q⟩
        have hg2 : goodOk (l ++ [e]) d l.length = true := by
          refine goodOk_iff.2 ⟨by simp, hn, fun j hj h1 h2 => ?_⟩
          rw [List.length_append, List.length_singleton] at hj
          have hjl : j < l.length := by omega
          rw [evAt_app_lt hjl, evAt_app_last]
          unfold aheadB
          rw [he.beg]
          rcases Nat.decEq j i with q | q
          · have hf := hfr j hjl h1 q
            unfold aheadB at hf
            rw [Bool.and_eq_false_iff] at hf ⊢
            rcases hf with hf | hf
            · exact .inl hf
            · rw [decide_eq_false_iff_not] at hf
              rw [decide_eq_false_iff_not, decide_eq_false_iff_not]
              omega
          · subst q
            have hk := hok j hjl
            unfold evOk at hk
            simp only [Bool.and_eq_true, Bool.or_eq_true, decide_eq_true_iff] at hk
            rw [Bool.and_eq_false_iff, decide_eq_false_iff_not, decide_eq_false_iff_not]
            omega
        rw [goodGo_cons, if_pos hg2, evAt_app_last, he.step]
        refine idle_behind he (i :: rest) d (d ++ [l.length]) now r h0 (fun j hj => ?_) (by simp)
        simp only [List.mem_append, List.mem_singleton]
        constructor
        · rintro (q | q)
          · exact q
          · omega
        · exact .inl
      · cases hs : stepG now (evAt l i) with
        | none => rw [hs] at h; cases h
        | some next =>
          rw [hs] at h
          obtain ⟨rest', e1, e2⟩ := ih (d ++ [i]) next r h (by simpa using hall) (by simp only [List.mem_append, List.mem_singleton, not_or]; exact ⟨hn, by omega⟩)
          refine ⟨i :: rest', ?_, fun j => by simp only [List.mem_cons]; rw [e2 j, or_assoc]⟩
          have hg2 : goodOk (l ++ [e]) d i = true := by
            refine goodOk_iff.2 ⟨by simp; omega, hno, fun j hj h1 h2 => ?_⟩
            rw [List.length_append, List.length_singleton] at hj
            rcases Nat.lt_or_ge j l.length with q | q
            · rw [evAt_app_lt q, evAt_app_lt hi]
              exact hfr j q h1 h2
            · obtain rfl : j = l.length := by omega
              rw [evAt_app_last, evAt_app_lt hi]
              unfold aheadB
              rw [he.fin, Bool.and_eq_false_iff, decide_eq_false_iff_not, decide_eq_false_iff_not]
              omega
          rw [goodGo_cons, if_pos hg2, evAt_app_lt hi, hs]
          exact e1
/-- it may be left out -/
theorem idle_out {l : List Ev} {e : Ev} (he : Idler e) : ∀ (rest' D d : List Nat) (now r : List Rw), goodGo (l ++ [e]) D rest' now = some r → (∀ j, j < l.length → (j ∈ D ↔ j ∈ d)) → ∃ rest, goodGo l d rest now = some r ∧ ∀ j, j < l.length → (j ∈ rest' ↔ j ∈ rest) := by
  intro rest'
  induction rest' with
  | nil => intro D d now r h _; exact ⟨[], h, fun _ _ => Iff.rfl⟩
  | cons i rest' ih =>
    intro D d now r h hD
    rw [goodGo_cons] at h
    cases hg : goodOk (l ++ [e]) D i with
    | false => rw [hg] at h; cases h
    | true =>
      rw [hg, if_pos rfl] at h
      obtain ⟨hi, hno, hfr⟩ := goodOk_iff.1 hg
      rw [List.length_append, List.length_singleton] at hi
      rcases Nat.lt_or_ge i l.length with hil | hil
      · rw [evAt_app_lt hil] at h
        cases hs : stepG now (evAt l i) with
        | none => rw [hs] at h; cases h
        | some next =>
          rw [hs] at h
          obtain ⟨rest, e1, e2⟩ := ih (D ++ [i]) (d ++ [i]) next r h (fun j hj => by simp only [List.mem_append, List.mem_singleton]; rw [hD j hj])
          refine ⟨i :: rest, ?_, fun j hj => by simp only [List.mem_cons]; rw [e2 j hj]⟩
          have hg2 : goodOk l d i = true := by
            refine goodOk_iff.2 ⟨hil, fun q => hno ((hD i hil).2 q), fun j hj h1 h2 => ?_⟩
            have := hfr j (by simp; omega) (fun q => h1 ((hD j hj).1 q)) h2
            rwa [evAt_app_lt hj, evAt_app_lt hil] at this
          rw [goodGo_cons, if_pos hg2, hs]
          exact e1
      · obtain rfl : i = l.length := by omega
        rw [evAt_app_last, he.step] at h
        obtain ⟨rest, e1, e2⟩ := ih (D ++ [l.length]) d now r h (fun j hj => by
          simp only [List.mem_append, List.mem_singleton]
          rw [hD j hj]
          constructor
          · rintro (q | q)
            · exact q
            · omega
          · exact .inl)
        refine ⟨rest, e1, fun j hj => ?_⟩
        rw [← e2 j hj]
        simp only [List.mem_cons]
        constructor
        · rintro (q | q)
          · omega
          · exact q
        · exact .inr
theorem idle_same {l : List Ev} {e : Ev} {rows : List Rw} (he : Idler e) (hee : evOk e = true) (hok : ∀ i, i < l.length → evOk (evAt l i) = true) (hr : rowsOkB rows = true) :
    (findF l l.length (List.replicate l.length false) [] rows).isSome = (findF (l ++ [e]) (l ++ [e]).length (List.replicate (l ++ [e]).length false) [] rows).isSome := by
  have hok2 : ∀ i, i < (l ++ [e]).length → evOk (evAt (l ++ [e]) i) = true := fun i hi => by
    rw [List.length_append, List.length_singleton] at hi
    rcases Nat.lt_or_ge i l.length with q | q
    · rw [evAt_app_lt q]; exact hok i q
    · obtain rfl : i = l.length := by omega
      rw [evAt_app_last]; exact hee
  rw [Bool.eq_iff_iff, find_iff hok hr, find_iff hok2 hr]
  constructor
  · rintro ⟨rest, r, h1, h2⟩
    obtain ⟨rest', e1, e2⟩ := idle_in he hok rest [] rows r h1 (by simpa using h2) (by simp)
    refine ⟨rest', r, e1, ?_⟩
    unfold allIn at h2 ⊢
    rw [decide_eq_true_iff] at h2 ⊢
    intro i hi
    rw [List.length_append, List.length_singleton] at hi
    rcases Nat.lt_or_ge i l.length with q | q
    · rw [evAt_app_lt q]
      exact (h2 i q).imp (fun s => (e2 i).2 (.inl s)) id
    · exact .inl ((e2 i).2 (.inr (by omega)))
  · rintro ⟨rest', r, h1, h2⟩
    obtain ⟨rest, e1, e2⟩ := idle_out he rest' [] [] rows r h1 (fun _ _ => Iff.rfl)
    refine ⟨rest, r, e1, ?_⟩
    unfold allIn at h2 ⊢
    rw [decide_eq_true_iff] at h2 ⊢
    intro i hi
    have := h2 i (by simp; omega)
    rw [evAt_app_lt hi] at this
    exact this.imp (e2 i hi).1 id
end Go.Proofs.YtkngjnkecmjakaaDoor
