import Derived.Test.YtilmpofbjagcmaaLawOrder
namespace Go.Proofs.Ytilmpofbjagcmaa
set_option linter.unusedVariables false
open Go.BigFrame Go.RowKit Go.ChangeShapes Go.WideShapes Go.ChangeAt

theorem common_take_self (a : Str.Txt) (k : Nat) (h : k ≤ a.length) : Str.common (a.take k) a = k := by
  induction a generalizing k with
  | nil => simp at h; subst h; rfl
  | cons x xs ih =>
    cases k with
    | zero => rfl
    | succ k => simp only [List.take_succ_cons, Str.common, if_true]; rw [ih k (by simpa using h)]
theorem cmp_take_self (a : Str.Txt) (k : Nat) (h : k ≤ a.length) : Str.cmp (a.take k) a = if k = a.length then 0 else -1 := by
  rw [Str.cmp_of_common, common_take_self a k h, List.length_take, Nat.min_eq_left h]
  by_cases e : k = a.length
  · rw [if_pos ⟨rfl, e⟩, if_pos e]
  · rw [if_neg (fun x => e x.2), if_pos rfl, if_neg e]

theorem few_two {a b : ByteArray} (h : fewB [a, b] = true) : a.size ≤ 2000 ∧ b.size ≤ 2000 := by
  simpa [fewB] using h

set_option maxRecDepth 100000 in
set_option maxHeartbeats 1000000 in
theorem begins_in (a b : ByteArray) (n : Int) (w : World) (ha : a.size ≤ maxLen) (hb : b.size ≤ maxLen) (hn0 : 0 ≤ n) (hn : n < 65536) (hf : fewB [a, b] = true)
    (k c : Nat) (hk : n % ((a.size : Int) + 1) = (k : Int)) (hka : k ≤ a.size) (hca : c ≤ a.size) (hcb : c ≤ b.size)
    (cab : Hid (∀ w, Calls Try.prog 14 #[.string a, .string b] w fun e w' => e = .returned (.int .i64 c) ∧ Dr w w'))
    (cba : Hid (∀ w, Calls Try.prog 14 #[.string b, .string a] w fun e w' => e = .returned (.int .i64 c) ∧ Dr w w'))
    (cka : Hid (∀ w, Calls Try.prog 14 #[.string (a.extract 0 k), .string a] w fun e w' => e = .returned (.int .i64 k) ∧ Dr w w'))
    (x : Int) (hx : decide (x ≤ 0) = true) (hx0 : (x == 0) = ((k : Int) == (a.size : Int)))
    (cmp : Hid (∀ w, Calls Try.prog 15 #[.string (a.extract 0 k), .string a] w fun e w' => e = .returned (.int .i64 x) ∧ Dr w w'))
    (hE : (a.extract 0 c).toList = (b.extract 0 c).toList) :
    Calls Try.prog 6 #[.string a, .string b, .int .u16 n] w fun e w' => e = .returned (.bool true) ∧ Below w.heap.size w w' := by
  have Hfew := Lib.hid (few_any w.heap.size 2 [a, b] rfl (by omega) _ (two_cells w a b))
  rw [hf] at Hfew
  have ha' := few_two hf
  clear hf
  obtain ⟨ha1, hb1⟩ := ha'
  go_enter Try.func6, Try.ntmps6
  go_wp2_with (first | (go_at_call 12; (with_reducible refine (Hfew.out).mono ?_); rintro e w' ⟨rfl, rfl⟩) | (go_at_call 14; (with_reducible refine (cab.out _).mono ?_); rintro e w' ⟨rfl, d, rfl⟩))
  go_big_quiet ((first | (go_at_call 15; (first | (with_reducible exact quiet_dr1 (cmp.out _)) | (with_reducible exact quiet_dr0 (cmp.out _)))) | (go_at_call 14; (first | (with_reducible exact quiet_dr1 (cba.out _)) | (with_reducible exact quiet_dr0 (cba.out _)))) | (go_at_call 14; (first | (with_reducible exact quiet_dr1 (cka.out _)) | (with_reducible exact quiet_dr0 (cka.out _)))) | (go_at_call 13; (first | (with_reducible exact quiet_dr1 (awake_any _)) | (with_reducible exact quiet_dr0 (awake_any _))))))
  go_wp2
  go_ret
  exact ⟨rfl, ((Below.refl _ _).alloc (Nat.le_refl _) _).trans (Dr.below (Dr.step ⟨_, rfl⟩ _) _)⟩

theorem begins_out (a b : ByteArray) (n : Int) (w : World) (hf : fewB [a, b] = false) :
    Calls Try.prog 6 #[.string a, .string b, .int .u16 n] w fun e w' => e = .returned (.bool true) ∧ Below w.heap.size w w' := by
  have Hfew := Lib.hid (few_any w.heap.size 2 [a, b] rfl (by omega) _ (two_cells w a b))
  rw [hf] at Hfew
  clear hf
  go_enter Try.func6, Try.ntmps6
  go_wp2_with (first | (go_at_call 12; (with_reducible refine (Hfew.out).mono ?_); rintro e w' ⟨rfl, rfl⟩) | (go_at_call 13; (with_reducible refine (awake_any _).mono ?_); rintro e w' ⟨rfl, d, rfl⟩))
  go_ret
  exact ⟨rfl, ((Below.refl _ _).alloc (Nat.le_refl _) _).trans (Dr.below ⟨_, rfl⟩ _)⟩

theorem begins_walk (a b : ByteArray) (n : Int) (w : World) (ha : a.size ≤ maxLen) (hb : b.size ≤ maxLen) (hn : (Lit.int .u16 n).wf = true) :
    Calls Try.prog 6 #[.string a, .string b, .int .u16 n] w fun e w' => e = .returned (.bool true) ∧ Below w.heap.size w w' := by
  have hn' : 0 ≤ n ∧ n ≤ 65535 := by simpa [Lit.wf, IntKind.min, IntKind.max, IntKind.signed, IntKind.bits] using hn
  cases hf : fewB [a, b]
  · exact begins_out a b n w hf
  · have h0 := Int.emod_nonneg n (show (a.size : Int) + 1 ≠ 0 by omega)
    have h1 := Int.emod_lt_of_pos n (show 0 < (a.size : Int) + 1 by omega)
    obtain ⟨k, hk⟩ := Int.eq_ofNat_of_zero_le h0
    have hka : k ≤ a.size := by omega
    have hkl : k ≤ (Tx a).length := by rw [tx_length]; exact hka
    have hkm : (a.extract 0 k).size ≤ maxLen := Nat.le_trans (by rw [ByteArray.size_extract]; omega) ha
    have hxe : Str.cmp (Tx (a.extract 0 k)) (Tx a) = if k = a.size then 0 else -1 := by rw [tx_extract, cmp_take_self _ _ hkl, tx_length]
    refine begins_in a b n w ha hb hn'.1 (by omega) hf k (Str.common (Tx a) (Tx b)) hk hka (by have := Str.common_le_left (Tx a) (Tx b); rwa [tx_length] at this)
      (by have := Str.common_le_right (Tx a) (Tx b); rwa [tx_length] at this) (Lib.hid fun w => common_any a b w ha hb) (Lib.hid fun w => by rw [Str.common_comm]; exact common_any b a w hb ha)
      (Lib.hid fun w => ?_) (Str.cmp (Tx (a.extract 0 k)) (Tx a)) ?_ ?_ (Lib.hid fun w => compare_any _ _ w hkm ha) (by rw [toList_tx, toList_tx, tx_extract, tx_extract, Str.common_take])
    · have h := common_any (a.extract 0 k) a w hkm ha
      rw [tx_extract, common_take_self _ _ hkl] at h
      exact h
    · rw [hxe, decide_eq_true_iff]; split <;> omega
    · rw [hxe, Bool.eq_iff_iff, beq_iff_eq, beq_iff_eq]
      split <;> simp <;> omega
end Go.Proofs.Ytilmpofbjagcmaa
