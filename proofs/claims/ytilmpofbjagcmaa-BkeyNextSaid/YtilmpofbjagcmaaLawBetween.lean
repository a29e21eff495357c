import Derived.Test.YtilmpofbjagcmaaLawAfter
import Derived.Test.YtilmpofbjagcmaaErr
namespace Go.Proofs.Ytilmpofbjagcmaa
set_option linter.unusedVariables false
open Go.BigFrame Go.RowKit Go.ChangeShapes Go.WideShapes Go.ChangeAt

theorem empty_toList : ByteArray.empty.toList = [] := by rw [toList_tx]; rfl

set_option maxRecDepth 100000 in
set_option maxHeartbeats 1000000 in
theorem between_in_yes (a b : ByteArray) (w : World) (ha : a.size ≤ maxLen) (hb : b.size ≤ maxLen) (hf : fewB [a, b] = true) (h : Str.cmp (Tx a) (Tx b) < 0) :
    Calls Try.prog 10 #[.string a, .string b] w fun e w' => e = .returned (.bool true) ∧ Gr w w' := by
  have Hfew := Lib.hid (few_any w.heap.size 2 [a, b] rfl (by omega) _ (two_cells w a b))
  rw [hf] at Hfew
  clear hf
  have c1 := Lib.hid (fun w => between_yes a b w ha hb h)
  have c2 := Lib.hid (fun w => refBetween_yes a b w ha hb (Str.cmp_neg_iff.1 h))
  go_enter Try.func10, Try.ntmps10
  go_wp2_with (first | (go_at_call 12; (with_reducible refine (Hfew.out).mono ?_); rintro e w' ⟨rfl, rfl⟩) | (go_at_call 19; (with_reducible refine (c1.out _).mono ?_); rintro e w' ⟨rfl, d, rfl⟩) | (go_at_call 24; (with_reducible refine (c2.out _).mono ?_); rintro e w' ⟨rfl, d, rfl⟩) | (go_at_call 13; (with_reducible refine (awake_any _).mono ?_); rintro e w' ⟨rfl, d, rfl⟩))
  go_ret
  exact ⟨rfl, by repeat (first | with_reducible exact Gr.refl _ | with_reducible refine Gr.drewN ?_ _ | with_reducible refine Gr.drew ?_ | with_reducible refine Gr.alloc ?_ _ | with_reducible refine Gr.setCell ?_ ?_ _ | (with_reducible refine Gr.trans ?_ (by assumption)) | omega | (dsimp only; omega))⟩
set_option maxRecDepth 100000 in
set_option maxHeartbeats 1000000 in
theorem between_in_no (a b : ByteArray) (w : World) (ha : a.size ≤ maxLen) (hb : b.size ≤ maxLen) (hf : fewB [a, b] = true) (h : ¬ Str.cmp (Tx a) (Tx b) < 0) :
    Calls Try.prog 10 #[.string a, .string b] w fun e w' => e = .returned (.bool true) ∧ Gr w w' := by
  have Hfew := Lib.hid (few_any w.heap.size 2 [a, b] rfl (by omega) _ (two_cells w a b))
  rw [hf] at Hfew
  clear hf
  have c1 := Lib.hid (fun w => between_no a b w ha hb h)
  have c2 := Lib.hid (fun w => refBetween_no a b w ha hb (fun k => h (Str.cmp_neg_iff.2 k)))
  have he := empty_toList
  go_enter Try.func10, Try.ntmps10
  go_wp2_with (first | (go_at_call 12; (with_reducible refine (Hfew.out).mono ?_); rintro e w' ⟨rfl, rfl⟩) | (go_at_call 19; (with_reducible refine (c1.out _).mono ?_); rintro e w' ⟨rfl, d, rfl⟩) | (go_at_call 24; (with_reducible refine (c2.out _).mono ?_); rintro e w' ⟨rfl, d, rfl⟩) | (go_at_call 25; (with_reducible refine (is_same _ _).mono ?_); rintro e w' ⟨rfl, rfl⟩) | (go_at_call 13; (with_reducible refine (awake_any _).mono ?_); rintro e w' ⟨rfl, d, rfl⟩))
  go_ret
  exact ⟨rfl, by repeat (first | with_reducible exact Gr.refl _ | with_reducible refine Gr.drewN ?_ _ | with_reducible refine Gr.drew ?_ | with_reducible refine Gr.alloc ?_ _ | with_reducible refine Gr.setCell ?_ ?_ _ | (with_reducible refine Gr.trans ?_ (by assumption)) | omega | (dsimp only; omega))⟩
theorem between_out (a b : ByteArray) (w : World) (hf : fewB [a, b] = false) :
    Calls Try.prog 10 #[.string a, .string b] w fun e w' => e = .returned (.bool true) ∧ Gr w w' := by
  have Hfew := Lib.hid (few_any w.heap.size 2 [a, b] rfl (by omega) _ (two_cells w a b))
  rw [hf] at Hfew
  clear hf
  go_enter Try.func10, Try.ntmps10
  go_wp2_with (first | (go_at_call 12; (with_reducible refine (Hfew.out).mono ?_); rintro e w' ⟨rfl, rfl⟩) | (go_at_call 13; (with_reducible refine (awake_any _).mono ?_); rintro e w' ⟨rfl, d, rfl⟩))
  go_ret
  exact ⟨rfl, by repeat (first | with_reducible exact Gr.refl _ | with_reducible refine Gr.drewN ?_ _ | with_reducible refine Gr.drew ?_ | with_reducible refine Gr.alloc ?_ _ | with_reducible refine Gr.setCell ?_ ?_ _ | (with_reducible refine Gr.trans ?_ (by assumption)) | omega | (dsimp only; omega))⟩
theorem between_walk (a b : ByteArray) (w : World) (ha : a.size ≤ maxLen) (hb : b.size ≤ maxLen) :
    Calls Try.prog 10 #[.string a, .string b] w fun e w' => e = .returned (.bool true) ∧ Gr w w' := by
  cases hf : fewB [a, b]
  · exact between_out a b w hf
  · by_cases h : Str.cmp (Tx a) (Tx b) < 0
    · exact between_in_yes a b w ha hb hf h
    · exact between_in_no a b w ha hb hf h

theorem refNext_any (key : ByteArray) (w : World) (h : rightB key = true) :
    Calls Try.prog 26 #[.string key] w fun e w' => e = .returned (nextRef (nextO key)) ∧ Gr w w' := by
  have hk' : 1 ≤ key.size ∧ key.size ≤ 16 := by simpa [rightB] using h
  unfold nextO
  by_cases h16 : key.size < 16
  · rw [if_pos h16]
    exact refNext_short key w h16
  · rw [if_neg h16]
    exact refNext_long key w (by omega) (by omega)

theorem next_out (a b : ByteArray) (w : World) (hf : fewB [a, b] = false) :
    Calls Try.prog 11 #[.string a, .string b] w fun e w' => e = .returned (.bool true) ∧ Gr w w' := by
  have Hfew := Lib.hid (few_any w.heap.size 2 [a, b] rfl (by omega) _ (two_cells w a b))
  rw [hf] at Hfew
  clear hf
  go_enter Try.func11, Try.ntmps11
  go_wp2_with (first | (go_at_call 12; (with_reducible refine (Hfew.out).mono ?_); rintro e w' ⟨rfl, rfl⟩) | (go_at_call 13; (with_reducible refine (awake_any _).mono ?_); rintro e w' ⟨rfl, d, rfl⟩))
  go_ret
  exact ⟨rfl, by repeat (first | with_reducible exact Gr.refl _ | with_reducible refine Gr.drewN ?_ _ | with_reducible refine Gr.drew ?_ | with_reducible refine Gr.alloc ?_ _ | with_reducible refine Gr.setCell ?_ ?_ _ | (with_reducible refine Gr.trans ?_ (by assumption)) | omega | (dsimp only; omega))⟩
set_option maxRecDepth 100000 in
set_option maxHeartbeats 1000000 in
theorem next_in_bad (a b : ByteArray) (w : World) (ha : a.size ≤ maxLen) (hb : b.size ≤ maxLen) (hf : fewB [a, b] = true) (h : rightB a = false) :
    Calls Try.prog 11 #[.string a, .string b] w fun e w' => e = .returned (.bool true) ∧ Gr w w' := by
  have Hfew := Lib.hid (few_any w.heap.size 2 [a, b] rfl (by omega) _ (two_cells w a b))
  rw [hf] at Hfew
  clear hf
  have c1 := Lib.hid (fun w => next_bad a w ha h)
  have he := empty_toList
  go_enter Try.func11, Try.ntmps11
  go_wp2_with (first | (go_at_call 12; (with_reducible refine (Hfew.out).mono ?_); rintro e w' ⟨rfl, rfl⟩) | (go_at_call 20; (with_reducible refine (c1.out _).mono ?_); rintro e w' ⟨rfl, d, rfl⟩) | (go_at_call 18; (with_reducible refine (refRight_any _ _ (by assumption)).mono ?_); rintro e w' ⟨rfl, d, rfl⟩) | (go_at_call 25; (with_reducible refine (is_same _ _).mono ?_); rintro e w' ⟨rfl, rfl⟩) | (go_at_call 13; (with_reducible refine (awake_any _).mono ?_); rintro e w' ⟨rfl, d, rfl⟩))
  go_ret
  exact ⟨rfl, by repeat (first | with_reducible exact Gr.refl _ | with_reducible refine Gr.drewN ?_ _ | with_reducible refine Gr.drew ?_ | with_reducible refine Gr.alloc ?_ _ | with_reducible refine Gr.setCell ?_ ?_ _ | (with_reducible refine Gr.trans ?_ (by assumption)) | omega | (dsimp only; omega))⟩
set_option maxRecDepth 100000 in
set_option maxHeartbeats 1000000 in
theorem next_in_none (a b : ByteArray) (w : World) (ha : a.size ≤ maxLen) (hb : b.size ≤ maxLen) (hf : fewB [a, b] = true) (h : rightB a = true) (hn : nextO a = none) :
    Calls Try.prog 11 #[.string a, .string b] w fun e w' => e = .returned (.bool true) ∧ Gr w w' := by
  have Hfew := Lib.hid (few_any w.heap.size 2 [a, b] rfl (by omega) _ (two_cells w a b))
  rw [hf] at Hfew
  clear hf
  have c1 := Lib.hid (fun w => next_any a w ha h)
  have c2 := Lib.hid (fun w => refNext_any a w h)
  rw [hn] at c1 c2
  unfold nextRes at c1
  unfold nextRef at c2
  have he := empty_toList
  have f1 : Hid (rightB b = true → Str.cmp (Tx b) (Tx a) ≤ 0) := Lib.hid (fun q => cmp_le_of (nextO_none h hn q))
  clear hn
  go_enter Try.func11, Try.ntmps11
  go_wp2_with (go_at_call 12; (with_reducible refine (Hfew.out).mono ?_); rintro e w' ⟨rfl, rfl⟩)
  refine (c1.out _).mono ?_
  rintro e w1 ⟨rfl, hg1⟩
  go_wp2_with (go_at_call 18; (with_reducible refine (refRight_any _ _ (by assumption)).mono ?_); rintro e w' ⟨rfl, d, rfl⟩)
  refine (c2.out _).mono ?_
  rintro e w2 ⟨rfl, hg2⟩
  go_wp2_with (first | (go_at_call 18; (with_reducible refine (refRight_any _ _ (by assumption)).mono ?_); rintro e w' ⟨rfl, d, rfl⟩) | (go_at_call 25; (with_reducible refine (is_same _ _).mono ?_); rintro e w' ⟨rfl, rfl⟩) | (go_at_call 15; (with_reducible refine (compare_any _ _ _ (by assumption) (by assumption)).mono ?_); rintro e w' ⟨rfl, d, rfl⟩) | (go_at_call 13; (with_reducible refine (awake_any _).mono ?_); rintro e w' ⟨rfl, d, rfl⟩))
  all_goals
    have f1' := f1.out
    go_ret
    refine ⟨ret_bool ?_, by repeat (first | with_reducible exact Gr.refl _ | with_reducible refine Gr.drewN ?_ _ | with_reducible refine Gr.drew ?_ | with_reducible refine Gr.alloc ?_ _ | with_reducible refine Gr.setCell ?_ ?_ _ | (with_reducible refine Gr.trans ?_ (by assumption)) | omega | (dsimp only; omega))⟩
    first
      | rfl
      | (exfalso; have := f1' (by assumption); omega)
      | (simp only [Bool.or_eq_true, decide_eq_true_eq]; omega)
set_option maxRecDepth 100000 in
set_option maxHeartbeats 1000000 in
theorem next_in_some (a b n : ByteArray) (w : World) (ha : a.size ≤ maxLen) (hb : b.size ≤ maxLen) (hf : fewB [a, b] = true) (h : rightB a = true) (hn : nextO a = some n) :
    Calls Try.prog 11 #[.string a, .string b] w fun e w' => e = .returned (.bool true) ∧ Gr w w' := by
  have Hfew := Lib.hid (few_any w.heap.size 2 [a, b] rfl (by omega) _ (two_cells w a b))
  rw [hf] at Hfew
  clear hf
  have c1 := Lib.hid (fun w => next_any a w ha h)
  have c2 := Lib.hid (fun w => refNext_any a w h)
  rw [hn] at c1 c2
  unfold nextRes at c1
  unfold nextRef at c2
  obtain ⟨r1, b1, l1⟩ := nextO_some h hn
  have hs := size_of_right r1
  have e1 : Str.cmp (Tx a) (Tx n) = -1 := by unfold Str.cmp; rw [if_pos b1]
  have f1 : Hid (rightB b = true → 0 < Str.cmp (Tx b) (Tx a) → 0 ≤ Str.cmp (Tx b) (Tx n)) := Lib.hid (fun q k => by
    have := cmp_le_of (l1 b q (Str.cmp_pos_iff.1 k))
    rw [Str.cmp_swap]; omega)
  clear hn l1 b1
  go_enter Try.func11, Try.ntmps11
  go_wp2_with (go_at_call 12; (with_reducible refine (Hfew.out).mono ?_); rintro e w' ⟨rfl, rfl⟩)
  refine (c1.out _).mono ?_
  rintro e w1 ⟨rfl, hg1⟩
  go_wp2_with (go_at_call 18; (with_reducible refine (refRight_any _ _ (by assumption)).mono ?_); rintro e w' ⟨rfl, d, rfl⟩)
  refine (c2.out _).mono ?_
  rintro e w2 ⟨rfl, hg2⟩
  go_wp2_with (first | (go_at_call 17; (with_reducible refine (right_any _ _ (by assumption)).mono ?_); rintro e w' ⟨rfl, d, rfl⟩) | (go_at_call 18; (with_reducible refine (refRight_any _ _ (by assumption)).mono ?_); rintro e w' ⟨rfl, d, rfl⟩) | (go_at_call 15; (with_reducible refine (compare_any _ _ _ (by assumption) (by assumption)).mono ?_); rintro e w' ⟨rfl, d, rfl⟩) | (go_at_call 13; (with_reducible refine (awake_any _).mono ?_); rintro e w' ⟨rfl, d, rfl⟩))
  all_goals
    have f1' := f1.out
    go_ret
    refine ⟨ret_bool ?_, by repeat (first | with_reducible exact Gr.refl _ | with_reducible refine Gr.drewN ?_ _ | with_reducible refine Gr.drew ?_ | with_reducible refine Gr.alloc ?_ _ | with_reducible refine Gr.setCell ?_ ?_ _ | (with_reducible refine Gr.trans ?_ (by assumption)) | omega | (dsimp only; omega))⟩
    first
      | rfl
      | (exfalso; have := f1' (by assumption) (by omega); omega)
      | (simp only [Bool.or_eq_true, decide_eq_true_eq]; omega)
theorem next_walk (a b : ByteArray) (w : World) (ha : a.size ≤ maxLen) (hb : b.size ≤ maxLen) :
    Calls Try.prog 11 #[.string a, .string b] w fun e w' => e = .returned (.bool true) ∧ Gr w w' := by
  cases hf : fewB [a, b]
  · exact next_out a b w hf
  · cases h : rightB a
    · exact next_in_bad a b w ha hb hf h
    · cases hn : nextO a with
      | none => exact next_in_none a b w ha hb hf h hn
      | some n => exact next_in_some a b n w ha hb hf h hn
end Go.Proofs.Ytilmpofbjagcmaa
