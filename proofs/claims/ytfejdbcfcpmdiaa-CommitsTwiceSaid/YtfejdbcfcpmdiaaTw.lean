import Derived.Test.YtfejdbcfcpmdiaaPl
namespace Go.Proofs.Ytfejdbcfcpmdiaa
set_option linter.unusedVariables false
set_option linter.unusedSimpArgs false
open Go.BigFrame Go.RowKit Go.WideShapes

/-- sorted rows are told by what each key has -/
theorem sorted_ext {l k : List Rw} (hl : l.Pairwise ltR) (hk : k.Pairwise ltR) (h : ∀ key, look key l = look key k) : l = k := by
  induction l generalizing k with
  | nil =>
    cases k with
    | nil => rfl
    | cons r k =>
      have := h r.key
      unfold look at this
      simp at this
  | cons r l ih =>
    cases k with
    | nil =>
      have := h r.key
      unfold look at this
      simp at this
    | cons s k =>
      rw [List.pairwise_cons] at hl hk
      have hr : look r.key (r :: l) = some r := by unfold look; simp
      have hs : look s.key (s :: k) = some s := by unfold look; simp
      have e1 := h r.key
      have e2 := h s.key
      rw [hr] at e1
      rw [hs] at e2
      have m1 : r ∈ s :: k := List.mem_of_find?_eq_some e1.symm
      have m2 : s ∈ r :: l := List.mem_of_find?_eq_some e2
      have hrs : r = s := by
        rcases List.mem_cons.1 m1 with q | q
        · exact q
        · rcases List.mem_cons.1 m2 with t | t
          · exact t.symm
          · have a := hk.1 r q
            have b := hl.1 s t
            unfold ltR at a b
            rw [Str.before_asymm a] at b; cases b
      subst hrs
      rw [ih hl.2 hk.2 (fun key => ?_)]
      by_cases e : r.key = key
      · have n1 : look key l = none := by
          unfold look
          rw [List.find?_eq_none]
          intro x hx c
          rw [decide_eq_true_iff] at c
          have := hl.1 x hx
          unfold ltR at this
          rw [c, e, Str.before_irrefl] at this; cases this
        have n2 : look key k = none := by
          unfold look
          rw [List.find?_eq_none]
          intro x hx c
          rw [decide_eq_true_iff] at c
          have := hk.1 x hx
          unfold ltR at this
          rw [c, e, Str.before_irrefl] at this; cases this
        rw [n1, n2]
      · have := h key
        unfold look at this ⊢
        simpa [e] using this

/-- a part twice is what it is once -/
theorem over_twice {l : List Rw} {a : List Wt} (h : rowsOkB l = true) (ha : writesOkB a = true) : overL (overL l a) a = overL l a := by
  have hk := fun key => over_look h ha key
  have hk2 := fun key => over_look (hk ByteArray.empty).1 ha key
  refine sorted_ext ((rowsOkB_iff _).1 (hk2 ByteArray.empty).1).2 ((rowsOkB_iff _).1 (hk ByteArray.empty).1).2 fun key => ?_
  rw [(hk2 key).2, (hk key).2]
  cases wlook key a <;> rfl
/-- parts whose keys are apart: the order is one -/
theorem over_apart {l : List Rw} {a b : List Wt} (h : rowsOkB l = true) (ha : writesOkB a = true) (hb : writesOkB b = true) (hx : ∀ x ∈ a, ∀ y ∈ b, x.key ≠ y.key) : overL (overL l a) b = overL (overL l b) a := by
  have hA := fun key => over_look h ha key
  have hB := fun key => over_look h hb key
  have hAB := fun key => over_look (hA ByteArray.empty).1 hb key
  have hBA := fun key => over_look (hB ByteArray.empty).1 ha key
  refine sorted_ext ((rowsOkB_iff _).1 (hAB ByteArray.empty).1).2 ((rowsOkB_iff _).1 (hBA ByteArray.empty).1).2 fun key => ?_
  rw [(hAB key).2, (hBA key).2, (hA key).2, (hB key).2]
  cases ea : wlook key a with
  | none => cases wlook key b <;> rfl
  | some x =>
    cases eb : wlook key b with
    | none => rfl
    | some y =>
      have m1 : x ∈ a := List.mem_of_find?_eq_some ea
      have m2 : y ∈ b := List.mem_of_find?_eq_some eb
      have k1' := List.find?_some ea
      have k1 : x.key = key := of_decide_eq_true k1'
      have k2' := List.find?_some eb
      have k2 : y.key = key := of_decide_eq_true k2'
      exact absurd (k1.trans k2.symm) (hx x m1 y m2)
end Go.Proofs.Ytfejdbcfcpmdiaa
