import Derived.Test.YtilmpofbjagcmaaLawOrder
namespace Go.Proofs.Ytilmpofbjagcmaa
set_option linter.unusedVariables false
open Go.BigFrame Go.RowKit Go.ChangeShapes Go.WideShapes Go.ChangeAt

theorem before_take_self (b : Str.Txt) (k : Nat) : Str.before b (b.take k) = false := by
  induction b generalizing k with
  | nil => simp [Str.before]
  | cons x xs ih =>
    cases k with
    | zero => simp [Str.before]
    | succ k => simp only [List.take_succ_cons, Str.before, if_true]; exact ih k

/-- what holds of the text between -/
theorem btw_facts {a b : ByteArray} (h : Str.cmp (Tx a) (Tx b) < 0) :
    1 ≤ (btw a b).size ∧ (btw a b).size ≤ b.size ∧ b.extract 0 (btw a b).size = btw a b ∧ Str.cmp (Tx a) (Tx (btw a b)) < 0 ∧ Str.cmp (Tx (btw a b)) (Tx b) ≤ 0 ∧
      0 ≤ Str.cmp (Tx a) (Tx (b.extract 0 ((btw a b).size - 1))) := by
  have hlt := cmp_neg_common h
  have hb := Str.cmp_neg_iff.1 h
  have hs : (btw a b).size = Str.common (Tx a) (Tx b) + 1 := by unfold btw; rw [ByteArray.size_extract]; omega
  refine ⟨by omega, by omega, by rw [hs]; rfl, ?_, ?_, ?_⟩
  · rw [Str.cmp_neg_iff]
    unfold btw
    rw [before_take a b _ (by omega), hb]; simp
  · have : ¬ 0 < Str.cmp (Tx (btw a b)) (Tx b) := by
      rw [Str.cmp_pos_iff]; unfold btw; rw [tx_extract, before_take_self]; simp
    omega
  · have : ¬ Str.cmp (Tx a) (Tx (b.extract 0 ((btw a b).size - 1))) < 0 := by
      rw [Str.cmp_neg_iff, hs, before_take a b _ (by omega), hb]; simp
    omega

set_option maxRecDepth 100000 in
set_option maxHeartbeats 1000000 in
theorem parts_yes (a b s : ByteArray) (w : World) (ha : a.size ≤ maxLen) (hb : b.size ≤ maxLen) (hs : s.size ≤ maxLen) (hf : fewB [a, b] = true)
    (hbt : Hid (∀ w, Calls Try.prog 19 #[.string a, .string b] w fun e w' => e = .returned (.tuple #[.string s, .nilIface]) ∧ Dr w w'))
    (f1 : 1 ≤ s.size) (f2 : s.size ≤ b.size) (f3 : b.extract 0 s.size = s) (f4 : Str.cmp (Tx a) (Tx s) < 0) (f5 : Str.cmp (Tx s) (Tx b) ≤ 0)
    (f6 : 0 ≤ Str.cmp (Tx a) (Tx (b.extract 0 (s.size - 1)))) :
    Calls Try.prog 5 #[.string a, .string b] w fun e w' => e = .returned (.bool true) ∧ Below w.heap.size w w' := by
  have Hfew := Lib.hid (few_any w.heap.size 2 [a, b] rfl (by omega) _ (two_cells w a b))
  rw [hf] at Hfew
  have ha' := ha
  have hb' := hb
  have hs' := hs
  have h3 : (b.extract 0 (s.size - 1)).size ≤ maxLen := Nat.le_trans (by rw [ByteArray.size_extract]; omega) hb
  unfold maxLen at ha' hb' hs'
  have hr : rightB b = true → rightB s = true := by unfold rightB; simp; omega
  have Hr := Lib.hid hr
  clear hf hr
  have hlast := Lib.hid (fun w => compare_any a (b.extract 0 (s.size - 1)) w ha h3)
  have e1 : ((s.size : Int) - 1).toNat = s.size - 1 := by omega
  go_enter Try.func5, Try.ntmps5
  go_wp2_with (first | (go_at_call 12; (with_reducible refine (Hfew.out).mono ?_); rintro e w' ⟨rfl, rfl⟩) | (go_at_call 19; (with_reducible refine (hbt.out _).mono ?_); rintro e w' ⟨rfl, d, rfl⟩) | (go_at_call 15; (with_reducible refine (compare_any _ _ _ (by assumption) (by assumption)).mono ?_); rintro e w' ⟨rfl, d, rfl⟩) | (go_at_call 17; (with_reducible refine (right_any _ _ (by assumption)).mono ?_); rintro e w' ⟨rfl, d, rfl⟩) | (go_at_call 13; (with_reducible refine (awake_any _).mono ?_); rintro e w' ⟨rfl, d, rfl⟩))
  all_goals
    go_ret
    refine ⟨ret_bool ?_, ((Below.refl _ _).alloc (Nat.le_refl _) _).trans (Dr.below ⟨_, rfl⟩ _)⟩
    first
      | rfl
      | (exfalso; have h := Hr.out (by assumption); simp only [h, Bool.not_true, Bool.false_eq_true, or_false] at *; omega)

set_option maxRecDepth 100000 in
set_option maxHeartbeats 1000000 in
theorem parts_no (a b : ByteArray) (w : World) (ha : a.size ≤ maxLen) (hb : b.size ≤ maxLen) (hf : fewB [a, b] = true)
    (hbt : Hid (∀ w, Calls Try.prog 19 #[.string a, .string b] w fun e w' => e = .returned (.tuple #[.string ByteArray.empty, errV 1]) ∧ Dr w w'))
    (h : 0 ≤ Str.cmp (Tx a) (Tx b)) :
    Calls Try.prog 5 #[.string a, .string b] w fun e w' => e = .returned (.bool true) ∧ Below w.heap.size w w' := by
  have Hfew := Lib.hid (few_any w.heap.size 2 [a, b] rfl (by omega) _ (two_cells w a b))
  rw [hf] at Hfew
  clear hf
  go_enter Try.func5, Try.ntmps5
  go_wp2_with (first | (go_at_call 12; (with_reducible refine (Hfew.out).mono ?_); rintro e w' ⟨rfl, rfl⟩) | (go_at_call 19; (with_reducible refine (hbt.out _).mono ?_); rintro e w' ⟨rfl, d, rfl⟩) | (go_at_call 15; (with_reducible refine (compare_any _ _ _ (by assumption) (by assumption)).mono ?_); rintro e w' ⟨rfl, d, rfl⟩) | (go_at_call 17; (with_reducible refine (right_any _ _ (by assumption)).mono ?_); rintro e w' ⟨rfl, d, rfl⟩) | (go_at_call 13; (with_reducible refine (awake_any _).mono ?_); rintro e w' ⟨rfl, d, rfl⟩))
  go_ret
  exact ⟨rfl, ((Below.refl _ _).alloc (Nat.le_refl _) _).trans (Dr.below ⟨_, rfl⟩ _)⟩

theorem parts_out (a b : ByteArray) (w : World) (hf : fewB [a, b] = false) :
    Calls Try.prog 5 #[.string a, .string b] w fun e w' => e = .returned (.bool true) ∧ Below w.heap.size w w' := by
  have Hfew := Lib.hid (few_any w.heap.size 2 [a, b] rfl (by omega) _ (two_cells w a b))
  rw [hf] at Hfew
  clear hf
  go_enter Try.func5, Try.ntmps5
  go_wp2_with (first | (go_at_call 12; (with_reducible refine (Hfew.out).mono ?_); rintro e w' ⟨rfl, rfl⟩) | (go_at_call 13; (with_reducible refine (awake_any _).mono ?_); rintro e w' ⟨rfl, d, rfl⟩))
  go_ret
  exact ⟨rfl, ((Below.refl _ _).alloc (Nat.le_refl _) _).trans (Dr.below ⟨_, rfl⟩ _)⟩

theorem parts_walk (a b : ByteArray) (w : World) (ha : a.size ≤ maxLen) (hb : b.size ≤ maxLen) :
    Calls Try.prog 5 #[.string a, .string b] w fun e w' => e = .returned (.bool true) ∧ Below w.heap.size w w' := by
  cases hf : fewB [a, b]
  · exact parts_out a b w hf
  · by_cases h : Str.cmp (Tx a) (Tx b) < 0
    · obtain ⟨f1, f2, f3, f4, f5, f6⟩ := btw_facts h
      exact parts_yes a b (btw a b) w ha hb (Nat.le_trans f2 hb) hf (Lib.hid fun w => between_yes a b w ha hb h) f1 f2 f3 f4 f5 f6
    · exact parts_no a b w ha hb hf (Lib.hid fun w => between_no a b w ha hb h) (by omega)
end Go.Proofs.Ytilmpofbjagcmaa
