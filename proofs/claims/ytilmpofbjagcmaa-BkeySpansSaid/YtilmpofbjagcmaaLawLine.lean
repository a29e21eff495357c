import Derived.Test.YtilmpofbjagcmaaLawOrder
namespace Go.Proofs.Ytilmpofbjagcmaa
set_option linter.unusedVariables false
open Go.BigFrame Go.RowKit Go.ChangeShapes Go.WideShapes Go.ChangeAt

theorem three_cells (w : World) (a b c : ByteArray) : ∀ i, i < 3 → (w.alloc (.cells #[.string a, .string b, .string c] 9)).cell? ⟨w.heap.size, i, none⟩ = some (.string (sAt [a, b, c] i)) := by
  intro i hi
  rw [World.cell?_alloc_new]
  match i, hi with
  | 0, _ => rfl
  | 1, _ => rfl
  | 2, _ => rfl

theorem cmp_self_eq (a b : ByteArray) : (a.toList == b.toList) = (Str.cmp (Tx a) (Tx b) == 0) := by
  rw [toList_tx, toList_tx, Bool.eq_iff_iff, beq_iff_eq, beq_iff_eq, Str.cmp_eq_iff]

theorem cmp_chain {a b c : Str.Txt} : (Str.cmp a b ≤ 0 → Str.cmp b c ≤ 0 → Str.cmp a c ≤ 0) ∧ (Str.cmp a b < 0 → Str.cmp b c ≤ 0 → Str.cmp a c < 0) := by
  have key : Str.cmp a b < 0 → Str.cmp b c ≤ 0 → Str.cmp a c < 0 := by
    intro h k
    rcases Int.lt_or_eq_of_le k with k | k
    · exact Str.cmp_neg_iff.2 (Str.before_trans (Str.cmp_neg_iff.1 h) (Str.cmp_neg_iff.1 k))
    · rw [Str.cmp_eq_iff] at k; subst k; exact h
  refine ⟨fun h k => ?_, key⟩
  rcases Int.lt_or_eq_of_le h with h | h
  · have := key h k; omega
  · rw [Str.cmp_eq_iff] at h; subst h; exact k

set_option maxRecDepth 100000 in
set_option maxHeartbeats 1000000 in
theorem line_in (a b c : ByteArray) (w : World) (ha : a.size ≤ maxLen) (hb : b.size ≤ maxLen) (hc : c.size ≤ maxLen) (hf : fewB [a, b, c] = true) (x y z : Int)
    (hx : -1 ≤ x ∧ x ≤ 1) (hz : Hid ((x ≤ 0 → y ≤ 0 → z ≤ 0) ∧ (x < 0 → y ≤ 0 → z < 0)))
    (c1 : Hid (∀ w, Calls Try.prog 15 #[.string a, .string b] w fun e w' => e = .returned (.int .i64 x) ∧ Dr w w'))
    (c2 : Hid (∀ w, Calls Try.prog 15 #[.string b, .string c] w fun e w' => e = .returned (.int .i64 y) ∧ Dr w w'))
    (c3 : Hid (∀ w, Calls Try.prog 15 #[.string a, .string c] w fun e w' => e = .returned (.int .i64 z) ∧ Dr w w'))
    (c4 : Hid (∀ w, Calls Try.prog 15 #[.string b, .string a] w fun e w' => e = .returned (.int .i64 (-x)) ∧ Dr w w'))
    (he : (a.toList == b.toList) = (x == 0)) :
    Calls Try.prog 4 #[.string a, .string b, .string c] w fun e w' => e = .returned (.bool true) ∧ Below w.heap.size w w' := by
  have Hfew := Lib.hid (few_any w.heap.size 3 [a, b, c] rfl (by omega) _ (three_cells w a b c))
  rw [hf] at Hfew
  clear hf
  obtain ⟨hx1, hx2⟩ := hx
  have d1 : decide (x < -1) = false := by simp; omega
  have d2 : decide (1 < x) = false := by simp; omega
  go_enter Try.func4, Try.ntmps4
  go_wp2_with (go_at_call 12; (with_reducible refine (Hfew.out).mono ?_); rintro e w' ⟨rfl, rfl⟩)
  refine (c1.out _).mono ?_
  rintro e w' ⟨rfl, d, rfl⟩
  go_wp2_with fail
  refine (c2.out _).mono ?_
  rintro e w' ⟨rfl, d, rfl⟩
  go_wp2_with fail
  refine (c3.out _).mono ?_
  rintro e w' ⟨rfl, d, rfl⟩
  go_wp2_with fail
  refine (c4.out _).mono ?_
  rintro e w' ⟨rfl, d, rfl⟩
  go_wp2_with (go_at_call 13; (with_reducible refine (awake_any _).mono ?_); rintro e w' ⟨rfl, d, rfl⟩)
  all_goals
    have hz' := hz.out
    go_ret
    refine ⟨ret_bool ?_, ((Below.refl _ _).alloc (Nat.le_refl _) _).trans (Dr.below ⟨_, rfl⟩ _)⟩
    first
      | (exfalso; omega)
      | (simp; done)
      | (simp only [Bool.and_eq_true, Bool.or_eq_true, decide_eq_true_eq]; omega)
      | (exfalso; clear c1 c2 c3 c4 Hfew hz he; simp_all; done)

theorem line_out (a b c : ByteArray) (w : World) (hf : fewB [a, b, c] = false) :
    Calls Try.prog 4 #[.string a, .string b, .string c] w fun e w' => e = .returned (.bool true) ∧ Below w.heap.size w w' := by
  have Hfew := Lib.hid (few_any w.heap.size 3 [a, b, c] rfl (by omega) _ (three_cells w a b c))
  rw [hf] at Hfew
  clear hf
  go_enter Try.func4, Try.ntmps4
  go_wp2_with (first | (go_at_call 12; (with_reducible refine (Hfew.out).mono ?_); rintro e w' ⟨rfl, rfl⟩) | (go_at_call 13; (with_reducible refine (awake_any _).mono ?_); rintro e w' ⟨rfl, d, rfl⟩))
  go_ret
  exact ⟨rfl, ((Below.refl _ _).alloc (Nat.le_refl _) _).trans (Dr.below ⟨_, rfl⟩ _)⟩

theorem line_walk (a b c : ByteArray) (w : World) (ha : a.size ≤ maxLen) (hb : b.size ≤ maxLen) (hc : c.size ≤ maxLen) :
    Calls Try.prog 4 #[.string a, .string b, .string c] w fun e w' => e = .returned (.bool true) ∧ Below w.heap.size w w' := by
  cases hf : fewB [a, b, c]
  · exact line_out a b c w hf
  · exact line_in a b c w ha hb hc hf (Str.cmp (Tx a) (Tx b)) (Str.cmp (Tx b) (Tx c)) (Str.cmp (Tx a) (Tx c)) (Str.cmp_range _ _) (Lib.hid cmp_chain)
      (Lib.hid fun w => compare_any _ _ w ha hb) (Lib.hid fun w => compare_any _ _ w hb hc) (Lib.hid fun w => compare_any _ _ w ha hc)
      (Lib.hid fun w => by rw [← Str.cmp_swap]; exact compare_any _ _ w hb ha) (cmp_self_eq a b)
end Go.Proofs.Ytilmpofbjagcmaa
