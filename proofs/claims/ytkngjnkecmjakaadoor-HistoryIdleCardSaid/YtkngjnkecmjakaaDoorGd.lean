import Derived.Test.YtkngjnkecmjakaaDoorAh
import Derived.Test.YtkngjnkecmjakaaDoorSrt
namespace Go.Proofs.YtkngjnkecmjakaaDoor
set_option linter.unusedVariables false
set_option linter.unusedSimpArgs false

/-- may a place come next, behind these? -/
def goodOk (l : List Ev) (done : List Nat) (i : Nat) : Bool := decide (i < l.length) && !decide (i ∈ done) && decide (∀ j, j < l.length → j ∉ done → j ≠ i → aheadB (evAt l j) (evAt l i) = false)
/-- rows behind an event, as the document says -/
def stepG (now : List Rw) (e : Ev) : Option (List Rw) :=
  if idleB e = true then some now
  else if 0 ≤ e.fin ∧ ((applyL e.kind e.key e.cval now).2.1 ≠ e.val ∨ (applyL e.kind e.key e.cval now).2.2 ≠ e.code) then none
  else some (applyL e.kind e.key e.cval now).1
/-- rows behind the rest of an order, if it is right -/
def goodGo (l : List Ev) : List Nat → List Nat → List Rw → Option (List Rw)
  | _, [], rows => some rows
  | done, i :: rest, rows => if goodOk l done i = true then (match stepG rows (evAt l i) with | some next => goodGo l (done ++ [i]) rest next | none => none) else none
/-- do all that are not pending stand in the order? -/
def allIn (l : List Ev) (o : List Nat) : Bool := decide (∀ i, i < l.length → i ∈ o ∨ (evAt l i).fin < 0)
/-- the document's Good -/
def goodF (l : List Ev) (o : List Nat) (rows : List Rw) (whole : Bool) : Option (List Rw) :=
  match goodGo l [] o rows with
  | some r => if whole = true ∧ allIn l o = false then none else some r
  | none => none

theorem apply_ok {kind : Int} {key val : ByteArray} {l : List Rw} (hm : mayB kind key val = true) (hl : rowsOkB l = true) : rowsOkB (applyL kind key val l).1 = true := by
  unfold applyL
  split
  · exact hl
  · split
    · exact hl
    · split
      · exact hl
      · split
        · rename_i h1 h2 h3 h4
          subst h4
          cases hk : hasB key l
          · exact absurd ⟨hk, by decide, by decide⟩ h2
          · unfold dropL
            rw [if_pos hk]
            have := rowsOkB_iff l
            rw [hl] at this
            obtain ⟨p1, p2⟩ := this.1 rfl
            rw [rowsOkB_iff]
            have hsub : (l.take (place key l) ++ l.drop (place key l + 1)).Sublist l := by
              have e : l.take (place key l) ++ l.drop (place key l) = l := List.take_append_drop _ _
              have : (l.take (place key l) ++ l.drop (place key l + 1)).Sublist (l.take (place key l) ++ l.drop (place key l)) :=
                List.Sublist.append (List.Sublist.refl _) (by rw [← List.drop_drop]; exact List.drop_sublist _ _)
              rwa [e] at this
            exact ⟨fun r hr => p1 r (hsub.subset hr), p2.sublist hsub⟩
        · rename_i h1 h2 h3 h4
          exact (keeps (r := ⟨key, val⟩) hl (may_fits hm h3 h4)).1
theorem step_same {now : List Rw} {e : Ev} (he : evOk e = true) (hl : rowsOkB now = true) : stepE now e = stepG now e := by
  have hm : mayB e.kind e.key e.cval = true := by
    unfold evOk at he; simp only [Bool.and_eq_true] at he; exact he.1.1
  have ha : applyH e.kind e.key e.cval now = applyL e.kind e.key e.cval now := by unfold applyH; rw [if_pos ⟨hm, hl⟩]
  unfold stepE stepG
  rw [ha]
theorem step_ok {now next : List Rw} {e : Ev} (he : evOk e = true) (hl : rowsOkB now = true) (h : stepG now e = some next) : rowsOkB next = true := by
  have hm : mayB e.kind e.key e.cval = true := by
    unfold evOk at he; simp only [Bool.and_eq_true] at he; exact he.1.1
  unfold stepG at h
  split at h
  · cases h; exact hl
  · split at h
    · cases h
    · cases h; exact apply_ok hm hl

theorem tryFrom_is {β : Type} {c : Nat → Option β} {r : β} : ∀ {m s : Nat}, tryFrom c m s = some r → ∃ i, s ≤ i ∧ i < s + m ∧ c i = some r := by
  intro m
  induction m with
  | zero => intro s h; cases h
  | succ m ih =>
    intro s h
    unfold tryFrom at h
    cases hc : c s with
    | some x => rw [hc] at h; cases h; exact ⟨s, Nat.le_refl _, by omega, hc⟩
    | none =>
      rw [hc] at h
      obtain ⟨i, h1, h2, h3⟩ := ih h
      exact ⟨i, by omega, by omega, h3⟩
theorem used_set {u : List Bool} {i j : Nat} (hi : i < u.length) : usedAt (u.set i true) j = (decide (j = i) || usedAt u j) := by
  unfold usedAt
  rw [List.getD_eq_getElem?_getD, List.getD_eq_getElem?_getD, List.getElem?_set]
  by_cases h : i = j
  · subst h; simp [hi]
  · rw [if_neg h, decide_eq_false (fun q => h q.symm)]; rfl

/-- what the search finds is good -/
theorem find_good {l : List Ev} (hok : ∀ i, i < l.length → evOk (evAt l i) = true) : ∀ (f : Nat) (u : List Bool) (o : List Nat) (now : List Rw) (r : List Nat × List Rw), findF l f u o now = some r → u.length = l.length → (∀ i, i < l.length → (usedAt u i = true ↔ i ∈ o)) → rowsOkB now = true →
    ∃ rest, r.1 = o ++ rest ∧ goodGo l o rest now = some r.2 ∧ allIn l r.1 = true := by
  have whole : ∀ (u : List Bool) (o : List Nat) (now : List Rw) (r : List Nat × List Rw), some (o, now) = some r → wholeB l u = true → (∀ i, i < l.length → (usedAt u i = true ↔ i ∈ o)) →
      ∃ rest, r.1 = o ++ rest ∧ goodGo l o rest now = some r.2 ∧ allIn l r.1 = true := by
    rintro u o now r h hw hu
    cases h
    refine ⟨[], by simp, rfl, ?_⟩
    unfold allIn
    unfold wholeB at hw
    rw [decide_eq_true_iff] at hw ⊢
    intro i hi
    rcases hw i hi with q | q
    · exact .inl ((hu i hi).1 q)
    · exact .inr q
  intro f
  induction f with
  | zero =>
    intro u o now r h hl hu hr
    unfold findF at h
    split at h
    · exact whole u o now r h (by assumption) hu
    · cases h
  | succ f ih =>
    intro u o now r h hl hu hr
    unfold findF at h
    split at h
    · exact whole u o now r h (by assumption) hu
    · obtain ⟨i, -, hi, hc⟩ := tryFrom_is h
      rw [Nat.zero_add] at hi
      unfold candF at hc
      split at hc
      case isFalse => cases hc
      rename_i hfree
      cases hs : stepE now (evAt l i) with
      | none => rw [hs] at hc; cases hc
      | some next =>
        rw [hs] at hc
        have hsg := hs
        rw [step_same (hok i hi) hr] at hsg
        unfold freeB at hfree
        simp only [Bool.and_eq_true, Bool.not_eq_true', decide_eq_true_iff] at hfree
        obtain ⟨hf1, hf2⟩ := hfree
        have hno : i ∉ o := fun q => by rw [(hu i hi).2 q] at hf1; cases hf1
        obtain ⟨rest, e1, e2, e3⟩ := ih (u.set i true) (o ++ [i]) next r hc (by rw [List.length_set]; exact hl) (fun j hj => by
          rw [used_set (by omega)]
          simp only [Bool.or_eq_true, decide_eq_true_iff, List.mem_append, List.mem_singleton]
          rw [hu j hj]
          exact ⟨fun q => q.symm, fun q => q.symm⟩) (step_ok (hok i hi) hr hsg)
        refine ⟨i :: rest, by rw [e1]; simp, ?_, e3⟩
        unfold goodGo
        have hg : goodOk l o i = true := by
          unfold goodOk
          simp only [Bool.and_eq_true, Bool.not_eq_true', decide_eq_true_iff, decide_eq_false_iff_not]
          refine ⟨⟨hi, hno⟩, fun j hj hjo hne => hf2 j hj hne ?_⟩
          cases hq : usedAt u j
          · rfl
          · exact absurd ((hu j hj).1 hq) hjo
        rw [if_pos hg, hsg]
        exact e2
theorem used_none {n i : Nat} : usedAt (List.replicate n false) i = false := by
  unfold usedAt
  rw [List.getD_eq_getElem?_getD, List.getElem?_replicate]
  split <;> rfl
theorem find_goodF {l : List Ev} {rows : List Rw} {r : List Nat × List Rw} (hok : ∀ i, i < l.length → evOk (evAt l i) = true) (hr : rowsOkB rows = true) (h : findF l l.length (List.replicate l.length false) [] rows = some r) : goodF l r.1 rows true = some r.2 := by
  obtain ⟨rest, e1, e2, e3⟩ := find_good hok _ _ _ _ _ h (by simp) (fun i hi => by rw [used_none]; simp) hr
  rw [List.nil_append] at e1
  unfold goodF
  rw [e1, e2]
  rw [← e1, e3]
  rfl

theorem find_len {l : List Ev} : ∀ (f : Nat) (u : List Bool) (o : List Nat) (now : List Rw) (r : List Nat × List Rw), findF l f u o now = some r → r.1.length ≤ o.length + f := by
  intro f
  induction f with
  | zero =>
    intro u o now r h
    unfold findF at h
    split at h <;> cases h
    simp
  | succ f ih =>
    intro u o now r h
    unfold findF at h
    split at h
    · cases h; simp only []; omega
    · obtain ⟨i, -, hi, hc⟩ := tryFrom_is h
      unfold candF at hc
      split at hc
      case isFalse => cases hc
      cases hs : stepE now (evAt l i) with
      | none => rw [hs] at hc; cases hc
      | some next =>
        rw [hs] at hc
        have := ih _ _ _ _ hc
        rw [List.length_append] at this
        simp only [List.length_cons, List.length_nil] at this
        omega

/-! calls one behind the other -/
theorem tryFrom_one {β : Type} {c : Nat → Option β} {k : Nat} (hno : ∀ i, i ≠ k → c i = none) : ∀ {m s : Nat}, s ≤ k → k < s + m → tryFrom c m s = c k := by
  intro m
  induction m with
  | zero => intro s h1 h2; omega
  | succ m ih =>
    intro s h1 h2
    unfold tryFrom
    by_cases hs : s = k
    · subst hs
      cases hc : c s with
      | some x => rfl
      | none =>
        show tryFrom c m (s + 1) = none
        cases hq : tryFrom c m (s + 1) with
        | none => rfl
        | some x =>
          obtain ⟨i, q1, q2, q3⟩ := tryFrom_is hq
          rw [hno i (by omega)] at q3; cases q3
    · rw [hno s hs]
      exact ih (by omega) (by omega)
def marks (n k : Nat) : List Bool := (List.range n).map fun i => decide (i < k)
theorem marks_length (n k : Nat) : (marks n k).length = n := by simp [marks]
theorem marks_used {n k i : Nat} (h : i < n) : usedAt (marks n k) i = decide (i < k) := by
  unfold usedAt marks
  rw [List.getD_eq_getElem?_getD, List.getElem?_map, List.getElem?_range h]; rfl
theorem marks_zero (n : Nat) : List.replicate n false = marks n 0 := by
  apply List.ext_getElem
  · simp [marks]
  · intro i h1 h2; simp [marks]
theorem marks_set {n k : Nat} (h : k < n) : (marks n k).set k true = marks n (k + 1) := by
  apply List.ext_getElem
  · simp [marks]
  · intro i h1 h2
    rw [List.getElem_set]
    simp only [marks, List.getElem_map, List.getElem_range]
    split
    · subst_vars; simp
    · rename_i q; rw [Bool.eq_iff_iff]; simp; omega
/-- events one behind the other -/
def InLine (l : List Ev) : Prop := ∀ i, i < l.length → (evAt l i).beg = 2 * (i : Int) ∧ (evAt l i).fin = 2 * (i : Int) + 1
theorem line_step {l : List Ev} (h : InLine l) {k : Nat} (hk : k < l.length) (rec : List Bool → List Nat → List Rw → Option (List Nat × List Rw)) (o : List Nat) (now : List Rw) :
    tryFrom (candF l rec (marks l.length k) o now) l.length 0 = match stepE now (evAt l k) with | some next => rec (marks l.length (k + 1)) (o ++ [k]) next | none => none := by
  have hfree : ∀ i, i < l.length → freeB l (marks l.length k) i = decide (i = k) := by
    intro i hi
    rw [Bool.eq_iff_iff]
    unfold freeB
    simp only [Bool.and_eq_true, Bool.not_eq_true', decide_eq_true_iff]
    rw [marks_used hi, decide_eq_false_iff_not]
    constructor
    · rintro ⟨h1, h2⟩
      by_cases hik : i = k
      · exact hik
      · have := h2 k hk (fun q => hik q.symm) (by rw [marks_used hk]; simp)
        unfold aheadB at this
        rw [(h k hk).2, (h i hi).1] at this
        simp only [Bool.and_eq_false_iff, decide_eq_false_iff_not] at this
        omega
    · rintro rfl
      refine ⟨by omega, fun j hj hne hu => ?_⟩
      rw [marks_used hj, decide_eq_false_iff_not] at hu
      unfold aheadB
      rw [(h j hj).2, (h i hi).1]
      simp only [Bool.and_eq_false_iff, decide_eq_false_iff_not]
      omega
  have big : ∀ i, l.length ≤ i → candF l rec (marks l.length k) o now i = candF l rec (marks l.length k) o now i := fun _ _ => rfl
  have main : ∀ (m s : Nat), s ≤ k → k < s + m → s + m ≤ l.length → tryFrom (candF l rec (marks l.length k) o now) m s = candF l rec (marks l.length k) o now k := by
    intro m s h1 h2 h3
    have : tryFrom (candF l rec (marks l.length k) o now) m s = tryFrom (fun i => if i < l.length then candF l rec (marks l.length k) o now i else none) m s := by
      clear h1 h2
      induction m generalizing s with
      | zero => rfl
      | succ m ih =>
        unfold tryFrom
        have e : (if s < l.length then candF l rec (marks l.length k) o now s else none) = candF l rec (marks l.length k) o now s := if_pos (by omega)
        rw [e, ih (s + 1) (by omega)]
    rw [this, tryFrom_one (k := k) ?_ h1 h2, if_pos hk]
    intro i hi
    by_cases q : i < l.length
    · rw [if_pos q]
      unfold candF
      rw [hfree i q, decide_eq_false hi]; rfl
    · rw [if_neg q]
  rw [main _ _ (Nat.zero_le _) (by omega) (by omega)]
  unfold candF
  rw [hfree k hk, if_pos (decide_eq_true rfl), marks_set hk]
  cases stepE now (evAt l k) <;> rfl
theorem line_whole {l : List Ev} (h : InLine l) {k : Nat} (hk : k < l.length) : wholeB l (marks l.length k) = false := by
  unfold wholeB
  rw [decide_eq_false_iff_not]
  intro q
  rcases q k hk with q | q
  · rw [marks_used hk] at q; simp at q
  · rw [(h k hk).2] at q; omega
theorem line_done (l : List Ev) : wholeB l (marks l.length l.length) = true := by
  unfold wholeB
  rw [decide_eq_true_iff]
  intro i hi
  rw [marks_used hi]; simp [hi]
/-- they have their order -/
theorem line_found {l : List Ev} (h : InLine l) (R : Nat → List Rw) (hR : ∀ i, i < l.length → stepE (R i) (evAt l i) = some (R (i + 1))) : ∀ (f k : Nat), k + f = l.length → findF l f (marks l.length k) (List.range k) (R k) = some (List.range l.length, R l.length) := by
  intro f
  induction f with
  | zero =>
    intro k hk
    obtain rfl : k = l.length := by omega
    unfold findF
    rw [if_pos (line_done l)]
  | succ f ih =>
    intro k hk
    unfold findF
    rw [line_whole h (by omega), if_neg (by decide), line_step h (by omega), hR k (by omega)]
    show findF l f _ (List.range k ++ [k]) _ = _
    rw [← List.range_succ]
    exact ih (k + 1) (by omega)
/-- one that told something else has none -/
theorem line_none {l : List Ev} (h : InLine l) (R : Nat → List Rw) {at' : Nat} (hat : at' < l.length) (hR : ∀ i, i < at' → stepE (R i) (evAt l i) = some (R (i + 1))) (hno : stepE (R at') (evAt l at') = none) : ∀ (f k : Nat), k ≤ at' → k + f = l.length → findF l f (marks l.length k) (List.range k) (R k) = none := by
  intro f
  induction f with
  | zero =>
    intro k hk hf
    omega
  | succ f ih =>
    intro k hk hf
    unfold findF
    rw [line_whole h (by omega), if_neg (by decide), line_step h (by omega)]
    by_cases q : k = at'
    · subst q; rw [hno]
    · rw [hR k (by omega)]
      show findF l f _ (List.range k ++ [k]) _ = _
      rw [← List.range_succ]
      exact ih (k + 1) (by omega) (by omega)
end Go.Proofs.YtkngjnkecmjakaaDoor
