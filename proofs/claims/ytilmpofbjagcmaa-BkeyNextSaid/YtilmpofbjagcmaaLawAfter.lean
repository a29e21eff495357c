import Derived.Test.YtilmpofbjagcmaaLawOrder
namespace Go.Proofs.Ytilmpofbjagcmaa
set_option linter.unusedVariables false
open Go.BigFrame Go.RowKit Go.ChangeShapes Go.WideShapes Go.ChangeAt

theorem tx_append (a b : ByteArray) : Tx (a ++ b) = Tx a ++ Tx b := by rw [Tx, ByteArray.data_append]; simp
theorem tx_strOf (xs : List Int) : Tx (strOfNums xs) = xs.map fun n => UInt8.ofNat n.toNat := strOfNums_data xs

theorem nextK_bump (s : ByteArray) (n : Nat) (hn : n ≤ s.size) : (nextK s n).map Tx = Str.bump ((Tx s).take n) := by
  induction n with
  | zero => rfl
  | succ n ih =>
    have hl : n < (Tx s).length := by rw [tx_length]; omega
    rw [List.take_succ_eq_append_getElem hl, Str.bump_snoc, nextK]
    have hg : (Tx s).getD n 0 = (Tx s)[n] := by rw [List.getD_eq_getElem?_getD, List.getElem?_eq_getElem hl]; rfl
    rw [hg]
    by_cases e : (Tx s)[n] = 255
    · rw [if_pos e, if_pos e]; exact ih (by omega)
    · rw [if_neg e, if_neg e]
      simp only [Option.map_some, Option.some.injEq]
      rw [tx_append, tx_extract, tx_strOf]
      simp only [List.map_cons, List.map_nil, List.append_cancel_left_eq, List.cons.injEq, and_true]
      have hx : (Tx s)[n].toNat ≠ 255 := fun q => e (UInt8.toNat_inj.1 q)
      have h2 := (Tx s)[n].toNat_lt
      apply UInt8.toNat_inj.1
      rw [UInt8.toNat_add]
      show ((((Tx s)[n].toNat : Int) + 1) % 256).toNat % 256 = ((Tx s)[n].toNat + 1) % 256
      omega

/-- a key's next one -/
def nextO (s : ByteArray) : Option ByteArray := if s.size < 16 then some (s ++ ⟨#[0]⟩) else nextK s 16

theorem next_any (key : ByteArray) (w : World) (hk : key.size ≤ maxLen) (h : rightB key = true) :
    Calls Try.prog 20 #[.string key] w fun e w' => e = .returned (nextRes (nextO key)) ∧ Gr w w' := by
  have hk' : 1 ≤ key.size ∧ key.size ≤ 16 := by simpa [rightB] using h
  unfold nextO
  by_cases h16 : key.size < 16
  · rw [if_pos h16]
    exact (next_short key w hk h h16).mono fun e w' ⟨he, hw⟩ => ⟨he, hw.gr⟩
  · rw [if_neg h16]
    exact next_long key w hk h (by omega) (by omega)

/-- what holds of a key's next one -/
theorem nextO_some {s m : ByteArray} (hr : rightB s = true) (h : nextO s = some m) :
    rightB m = true ∧ Str.before (Tx s) (Tx m) = true ∧ ∀ b : ByteArray, rightB b = true → Str.before (Tx s) (Tx b) = true → Str.before (Tx b) (Tx m) = false := by
  have hk' : 1 ≤ s.size ∧ s.size ≤ 16 := by simpa [rightB] using hr
  unfold nextO at h
  by_cases h16 : s.size < 16
  · rw [if_pos h16] at h
    obtain rfl : s ++ ⟨#[0]⟩ = m := by simpa using h
    have e : Tx (s ++ ⟨#[0]⟩) = Tx s ++ [0] := by rw [tx_append]
    refine ⟨?_, by rw [e]; exact Str.before_snoc_zero _, fun b hb hs => by rw [e]; exact Str.snoc_zero_least hs⟩
    have : (s ++ ⟨#[0]⟩ : ByteArray).size = s.size + 1 := by rw [ByteArray.size_append]; rfl
    simp [rightB, this]; omega
  · rw [if_neg h16] at h
    have hb := nextK_bump s 16 (by omega)
    have ht : (Tx s).take 16 = Tx s := List.take_of_length_le (by rw [tx_length]; omega)
    rw [h, ht] at hb
    have hb' : Str.bump (Tx s) = some (Tx m) := by simpa using hb.symm
    have hl := Str.bump_length hb'
    rw [tx_length, tx_length] at hl
    refine ⟨by simp [rightB]; omega, Str.bump_before hb', fun b hb2 hs => Str.bump_least hb' ?_ hs⟩
    have : 1 ≤ b.size ∧ b.size ≤ 16 := by simpa [rightB] using hb2
    rw [tx_length, tx_length]; omega
theorem nextO_none {s b : ByteArray} (hr : rightB s = true) (h : nextO s = none) (hb : rightB b = true) : Str.before (Tx s) (Tx b) = false := by
  have hk' : 1 ≤ s.size ∧ s.size ≤ 16 := by simpa [rightB] using hr
  unfold nextO at h
  by_cases h16 : s.size < 16
  · rw [if_pos h16] at h; cases h
  · rw [if_neg h16] at h
    have hb' := nextK_bump s 16 (by omega)
    have ht : (Tx s).take 16 = Tx s := List.take_of_length_le (by rw [tx_length]; omega)
    rw [h, ht] at hb'
    refine Str.bump_none (by simpa using hb'.symm) ?_
    have : 1 ≤ b.size ∧ b.size ≤ 16 := by simpa [rightB] using hb
    rw [tx_length, tx_length]; omega

theorem cmp_le_of {a b : ByteArray} (h : Str.before (Tx b) (Tx a) = false) : Str.cmp (Tx a) (Tx b) ≤ 0 := by
  have : ¬ 0 < Str.cmp (Tx a) (Tx b) := by rw [Str.cmp_pos_iff, h]; simp
  omega
theorem size_of_right {s : ByteArray} (h : rightB s = true) : s.size ≤ maxLen := by
  have : 1 ≤ s.size ∧ s.size ≤ 16 := by simpa [rightB] using h
  unfold maxLen; omega

set_option maxRecDepth 100000 in
set_option maxHeartbeats 1000000 in
theorem after_bad (a b : ByteArray) (w : World) (ha : a.size ≤ maxLen) (hb : b.size ≤ maxLen) (h : ¬ (rightB a = true ∧ rightB b = true)) :
    Calls Try.prog 7 #[.string a, .string b] w fun e w' => e = .returned (.bool true) ∧ Gr w w' := by
  have h' : rightB a = false ∨ (rightB a = true ∧ rightB b = false) := by
    cases h1 : rightB a
    · exact .inl rfl
    · cases h2 : rightB b
      · exact .inr ⟨rfl, rfl⟩
      · exact absurd ⟨h1, h2⟩ h
  clear h
  rcases h' with h1 | ⟨h1, h2⟩
  all_goals
    go_enter Try.func7, Try.ntmps7
    go_wp2_with (first | (go_at_call 18; (with_reducible refine (refRight_any _ _ (by assumption)).mono ?_); rintro e w' ⟨rfl, d, rfl⟩) | (go_at_call 13; (with_reducible refine (awake_any _).mono ?_); rintro e w' ⟨rfl, d, rfl⟩))
    go_ret
    exact ⟨rfl, Dr.gr ⟨_, rfl⟩⟩

set_option maxRecDepth 100000 in
set_option maxHeartbeats 1000000 in
theorem after_none (a b : ByteArray) (w : World) (ha : a.size ≤ maxLen) (hb : b.size ≤ maxLen) (h1 : rightB a = true) (h2 : rightB b = true) (hn : nextO a = none) :
    Calls Try.prog 7 #[.string a, .string b] w fun e w' => e = .returned (.bool true) ∧ Gr w w' := by
  have hc := cmp_le_of (nextO_none h1 hn h2)
  have hN := Lib.hid (fun w => next_any a w ha h1)
  rw [hn] at hN
  clear hn
  unfold nextRes at hN
  go_enter Try.func7, Try.ntmps7
  go_wp2_with (first | (go_at_call 18; (with_reducible refine (refRight_any _ _ (by assumption)).mono ?_); rintro e w' ⟨rfl, d, rfl⟩) | (go_at_call 13; (with_reducible refine (awake_any _).mono ?_); rintro e w' ⟨rfl, d, rfl⟩) | (go_at_call 15; (with_reducible refine (compare_any _ _ _ (by assumption) (by assumption)).mono ?_); rintro e w' ⟨rfl, d, rfl⟩) | (go_at_call 20; (with_reducible refine (hN.out _).mono ?_); rintro e w1 ⟨rfl, hg⟩))
  go_ret
  exact ⟨rfl, Gr.drewN (Gr.trans (Gr.drewN (Gr.refl _) _) hg) _⟩

set_option maxRecDepth 100000 in
set_option maxHeartbeats 1000000 in
theorem after_one (a b n : ByteArray) (w : World) (ha : a.size ≤ maxLen) (hb : b.size ≤ maxLen) (h1 : rightB a = true) (h2 : rightB b = true)
    (hN : Hid (∀ w, Calls Try.prog 20 #[.string a] w fun e w' => e = .returned (.tuple #[.string n, .nilIface]) ∧ Gr w w'))
    (hs : n.size ≤ maxLen) (f1 : Hid (Str.cmp (Tx a) (Tx b) < 0 → Str.cmp (Tx n) (Tx b) ≤ 0))
    (hM : Hid (∀ w, Calls Try.prog 20 #[.string n] w fun e w' => e = .returned (.tuple #[.string ByteArray.empty, errV 6]) ∧ Gr w w')) :
    Calls Try.prog 7 #[.string a, .string b] w fun e w' => e = .returned (.bool true) ∧ Gr w w' := by
  go_enter Try.func7, Try.ntmps7
  go_wp2_with (go_at_call 18; (with_reducible refine (refRight_any _ _ (by assumption)).mono ?_); rintro e w' ⟨rfl, d, rfl⟩)
  refine (hN.out _).mono ?_
  rintro e w1 ⟨rfl, hg1⟩
  go_wp2_with fail
  refine (hM.out _).mono ?_
  rintro e w2 ⟨rfl, hg2⟩
  go_wp2_with (first | (go_at_call 13; (with_reducible refine (awake_any _).mono ?_); rintro e w' ⟨rfl, d, rfl⟩) | (go_at_call 15; (with_reducible refine (compare_any _ _ _ (by assumption) (by assumption)).mono ?_); rintro e w' ⟨rfl, d, rfl⟩))
  all_goals
    go_ret
    refine ⟨ret_bool ?_, Gr.drewN (Gr.trans (Gr.trans (Gr.drewN (Gr.refl _) _) hg1) hg2) _⟩
    first
      | rfl
      | (exfalso; have := f1.out; omega)
      | (have := f1.out; simp only [Bool.or_eq_true, decide_eq_true_eq]; omega)

set_option maxRecDepth 100000 in
set_option maxHeartbeats 1000000 in
theorem after_two (a b n m : ByteArray) (w : World) (ha : a.size ≤ maxLen) (hb : b.size ≤ maxLen) (h1 : rightB a = true) (h2 : rightB b = true)
    (hN : Hid (∀ w, Calls Try.prog 20 #[.string a] w fun e w' => e = .returned (.tuple #[.string n, .nilIface]) ∧ Gr w w'))
    (hs : n.size ≤ maxLen) (hs2 : m.size ≤ maxLen) (f1 : Hid (Str.cmp (Tx a) (Tx b) < 0 → Str.cmp (Tx n) (Tx b) ≤ 0)) (f2 : Str.cmp (Tx n) (Tx m) < 0) (f3 : Str.cmp (Tx a) (Tx m) < 0)
    (hM : Hid (∀ w, Calls Try.prog 20 #[.string n] w fun e w' => e = .returned (.tuple #[.string m, .nilIface]) ∧ Gr w w')) :
    Calls Try.prog 7 #[.string a, .string b] w fun e w' => e = .returned (.bool true) ∧ Gr w w' := by
  go_enter Try.func7, Try.ntmps7
  go_wp2_with (go_at_call 18; (with_reducible refine (refRight_any _ _ (by assumption)).mono ?_); rintro e w' ⟨rfl, d, rfl⟩)
  refine (hN.out _).mono ?_
  rintro e w1 ⟨rfl, hg1⟩
  go_wp2_with fail
  refine (hM.out _).mono ?_
  rintro e w2 ⟨rfl, hg2⟩
  go_wp2_with (first | (go_at_call 13; (with_reducible refine (awake_any _).mono ?_); rintro e w' ⟨rfl, d, rfl⟩) | (go_at_call 15; (with_reducible refine (compare_any _ _ _ (by assumption) (by assumption)).mono ?_); rintro e w' ⟨rfl, d, rfl⟩))
  all_goals
    go_ret
    refine ⟨ret_bool ?_, Gr.drewN (Gr.trans (Gr.trans (Gr.drewN (Gr.refl _) _) hg1) hg2) _⟩
    first
      | rfl
      | (exfalso; have := f1.out; omega)
      | (have := f1.out; simp only [Bool.or_eq_true, decide_eq_true_eq]; omega)

theorem after_walk (a b : ByteArray) (w : World) (ha : a.size ≤ maxLen) (hb : b.size ≤ maxLen) :
    Calls Try.prog 7 #[.string a, .string b] w fun e w' => e = .returned (.bool true) ∧ Gr w w' := by
  by_cases h : rightB a = true ∧ rightB b = true
  · obtain ⟨h1, h2⟩ := h
    cases hn : nextO a with
    | none => exact after_none a b w ha hb h1 h2 hn
    | some n =>
      obtain ⟨r1, b1, l1⟩ := nextO_some h1 hn
      have hs := size_of_right r1
      have hN := Lib.hid (fun w => next_any a w ha h1)
      rw [hn] at hN
      have f1 := Lib.hid (fun h : Str.cmp (Tx a) (Tx b) < 0 => cmp_le_of (l1 b h2 (Str.cmp_neg_iff.1 h)))
      have hM := Lib.hid (fun w => next_any n w hs r1)
      cases hm : nextO n with
      | none =>
        rw [hm] at hM
        exact after_one a b n w ha hb h1 h2 hN hs f1 hM
      | some m =>
        rw [hm] at hM
        obtain ⟨r2, b2, l2⟩ := nextO_some r1 hm
        exact after_two a b n m w ha hb h1 h2 hN hs (size_of_right r2) f1 (Str.cmp_neg_iff.2 b2) (Str.cmp_neg_iff.2 (Str.before_trans b1 b2)) hM
  · exact after_bad a b w ha hb h
end Go.Proofs.Ytilmpofbjagcmaa
