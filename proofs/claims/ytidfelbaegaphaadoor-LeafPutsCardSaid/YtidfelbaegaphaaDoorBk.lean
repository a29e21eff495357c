import Derived.Test.YtidfelbaegaphaaDoorCommon
namespace Go.Proofs.YtidfelbaegaphaaDoor
set_option linter.unusedVariables false
open Go.RowKit

/-- may a text be a key? -/
def rightB (s : ByteArray) : Bool := decide (1 ≤ s.size ∧ s.size ≤ 16)

theorem ret_bool {a b : Bool} (h : a = b) : Ending.returned (.bool a) = .returned (.bool b) := by rw [h]
theorem ret_int {k : IntKind} {a b : Int} (h : a = b) : Ending.returned (.int k a) = .returned (.int k b) := by rw [h]

set_option maxHeartbeats 400000 in
theorem right_any (s : ByteArray) (w : World) (hs : s.size ≤ maxLen) :
    Calls Tryd.prog 63 #[.string s] w fun e w' => e = .returned (.bool (rightB s)) ∧ Dr w w' := by
  unfold maxLen at hs
  go_enter Tryd.func63, Tryd.ntmps63
  go_wp2
  all_goals
    go_ret
    refine ⟨ret_bool ?_, Dr.refl _⟩
    rw [Bool.eq_iff_iff]; simp [rightB]; omega

set_option maxHeartbeats 400000 in
theorem refRight_any (s : ByteArray) (w : World) (hs : s.size ≤ maxLen) :
    Calls Tryd.prog 35 #[.string s] w fun e w' => e = .returned (.bool (rightB s)) ∧ Dr w w' := by
  unfold maxLen at hs
  go_enter Tryd.func35, Tryd.ntmps35
  go_wp2
  all_goals
    go_ret
    refine ⟨ret_bool ?_, Dr.refl _⟩
    rw [Bool.eq_iff_iff]; simp [rightB]; omega

theorem u8_lt {x y : UInt8} : ((x.toNat : Int) < (y.toNat : Int)) ↔ x < y := by rw [UInt8.lt_iff_toNat_lt]; omega

set_option maxHeartbeats 400000 in
theorem compare_any (a b : ByteArray) (w : World) (ha : a.size ≤ maxLen) (hb : b.size ≤ maxLen) :
    Calls Tryd.prog 42 #[.string a, .string b] w fun e w' => e = .returned (.int .i64 (Str.cmp (Tx a) (Tx b))) ∧ Dr w w' := by
  have hc := Str.cmp_of_common (Tx a) (Tx b)
  have hl := Str.common_le_left (Tx a) (Tx b)
  have hr := Str.common_le_right (Tx a) (Tx b)
  rw [tx_length] at hl hr
  rw [tx_length, tx_length] at hc
  have hcall := fun w => common_any a b w ha hb
  unfold maxLen at ha hb
  generalize Str.common (Tx a) (Tx b) = n at *
  generalize hx : Str.cmp (Tx a) (Tx b) = x at *
  clear hx
  have Hc := Lib.hid hc
  have Hcall := Lib.hid hcall
  clear hc hcall
  by_cases h12 : n < a.size ∧ n < b.size
  · obtain ⟨g1, g2⟩ := h12
    go_enter Tryd.func42, Tryd.ntmps42
    go_wp2_with (go_at_call 58; refine (Hcall.out _).mono ?_; rintro e w' ⟨rfl, d, rfl⟩)
    go_quiet (fail)
    go_wp2
    all_goals
      go_ret
      refine ⟨ret_int ?_, Dr.step ⟨d, rfl⟩ _⟩
      have h := Hc.out
      rw [tx_get a n g1, tx_get b n g2, if_neg (by omega), if_neg (by omega), if_neg (by omega)] at h
      rw [h]
      first
        | rw [if_pos (UInt8.lt_iff_toNat_lt.2 (by omega))]
        | rw [if_neg (fun k => by have := UInt8.lt_iff_toNat_lt.1 k; omega)]
  · go_enter Tryd.func42, Tryd.ntmps42
    go_wp2_with (go_at_call 58; refine (Hcall.out _).mono ?_; rintro e w' ⟨rfl, d, rfl⟩)
    all_goals
      go_ret
      refine ⟨ret_int ?_, d, rfl⟩
      simp only [beq_iff_eq, beq_eq_false_iff_ne, ne_eq] at *
      rw [Hc.out]
      first
        | rw [if_pos (by omega)]
        | rw [if_neg (by omega), if_pos (by omega)]
        | rw [if_neg (by omega), if_neg (by omega), if_pos (by omega)]
theorem before_hit {a b : ByteArray} {k : Nat} (hk : k ≤ Str.common (Tx a) (Tx b)) (h1 : k < a.size) (h2 : k < b.size) (h : ((a[k].toNat : Int) != (b[k].toNat : Int)) = true) :
    Str.before (Tx a) (Tx b) = decide ((a[k].toNat : Int) < (b[k].toNat : Int)) := by
  have hc := common_hit hk h1 h2 h
  have h0 := Str.cmp_of_common (Tx a) (Tx b)
  rw [hc, tx_length, tx_length, if_neg (by omega), if_neg (by omega), if_neg (by omega), tx_get a k h1, tx_get b k h2] at h0
  rw [Bool.eq_iff_iff, ← Str.cmp_neg_iff, h0, decide_eq_true_iff, u8_lt]
  split <;> simp [*]
theorem before_end {a b : ByteArray} (hk : b.size ≤ Str.common (Tx a) (Tx b)) : Str.before (Tx a) (Tx b) = false := by
  have hr := Str.common_le_right (Tx a) (Tx b)
  have h0 := Str.cmp_of_common (Tx a) (Tx b)
  rw [tx_length] at hr
  have hc : Str.common (Tx a) (Tx b) = b.size := by omega
  rw [hc, tx_length, tx_length] at h0
  rw [Bool.eq_false_iff, ne_eq, ← Str.cmp_neg_iff, h0]
  by_cases e : b.size = a.size <;> simp [e]
theorem before_short {a b : ByteArray} {k : Nat} (hk : k ≤ Str.common (Tx a) (Tx b)) (h1 : k = a.size) (h2 : k < b.size) : Str.before (Tx a) (Tx b) = true := by
  have hl := Str.common_le_left (Tx a) (Tx b)
  have h0 := Str.cmp_of_common (Tx a) (Tx b)
  rw [tx_length] at hl
  have hc : Str.common (Tx a) (Tx b) = a.size := by omega
  rw [hc, tx_length, tx_length, if_neg (by omega), if_pos rfl] at h0
  rw [← Str.cmp_neg_iff, h0]; omega

set_option maxHeartbeats 400000 in
theorem before_any (a b : ByteArray) (w : World) (ha : a.size ≤ maxLen) (hb : b.size ≤ maxLen) :
    Calls Tryd.prog 30 #[.string a, .string b] w fun e w' => e = .returned (.bool (Str.before (Tx a) (Tx b))) ∧ Dr w w' := by
  unfold maxLen at ha hb
  go_enter Tryd.func30, Tryd.ntmps30
  go_wp2
  go_loopw [5] (fun i wr => ∃ k : Nat, k ≤ a.size ∧ k ≤ b.size ∧ i = .int .i64 k ∧ k ≤ Str.common (Tx a) (Tx b) ∧ ∃ d, wr = w.drewN d) (fun i _ => b.size - (intOf i).toNat)
  case atStart => exact ⟨0, Nat.zero_le _, Nat.zero_le _, rfl, Nat.zero_le _, 0, rfl⟩
  case round =>
    obtain ⟨k, hka, hkb, rfl, hkc, d, rfl⟩ := hrel
    by_cases h2 : k < b.size
    · by_cases h1 : k < a.size
      · have hf : ((k : Int) == (a.size : Int)) = false := by simp; omega
        go_wp2
        go_quiet (fail)
        go_wp2
        · go_quiet (fail)
          go_wp2
          go_ret
          exact ⟨ret_bool ((before_hit hkc h1 h2 (by assumption)).trans (by simp)).symm, Dr.step (Dr.step ⟨d, rfl⟩ _) _⟩
        · go_roundw
          case rel => exact ⟨k + 1, h1, h2, by go_num, common_next hkc h1 h2 (by assumption), d + nq, rfl⟩
          case measure => simp [intOf]; omega
      · have hf : ((k : Int) == (a.size : Int)) = true := by simp; omega
        have hs := Lib.hid (before_short hkc (by omega) h2)
        go_wp2
        go_ret
        exact ⟨ret_bool hs.out.symm, d, rfl⟩
    · have hs := Lib.hid (before_end (a := a) (b := b) (by omega))
      go_wp2
      go_ret
      exact ⟨ret_bool hs.out.symm, d, rfl⟩

/-- is a key in a span? (as the program has it) -/
def inB (low high : ByteArray) (u : Bool) (key : ByteArray) : Bool := decide (Str.cmp (Tx low) (Tx key) ≤ 0) && (u || decide (Str.cmp (Tx key) (Tx high) < 0))
/-- (as the reference has it) -/
def inR (low high : ByteArray) (u : Bool) (key : ByteArray) : Bool := !Str.before (Tx key) (Tx low) && (u || Str.before (Tx key) (Tx high))
theorem inB_eq (low high : ByteArray) (u : Bool) (key : ByteArray) : inB low high u key = inR low high u key := by
  unfold inB inR
  have e1 : decide (Str.cmp (Tx low) (Tx key) ≤ 0) = !Str.before (Tx key) (Tx low) := by
    rw [Bool.eq_iff_iff, decide_eq_true_iff, Bool.not_eq_true', Bool.eq_false_iff, ne_eq, ← Str.cmp_pos_iff]; omega
  have e2 : decide (Str.cmp (Tx key) (Tx high) < 0) = Str.before (Tx key) (Tx high) := by
    rw [Bool.eq_iff_iff, decide_eq_true_iff, Str.cmp_neg_iff]
  rw [e1, e2]

set_option maxHeartbeats 400000 in
theorem in_any (low high : ByteArray) (u : Bool) (key : ByteArray) (w : World) (h1 : low.size ≤ maxLen) (h2 : high.size ≤ maxLen) (h3 : key.size ≤ maxLen) :
    Calls Tryd.prog 52 #[.string low, .string high, .bool u, .string key] w fun e w' => e = .returned (.bool (inB low high u key)) ∧ Dr w w' := by
  cases u
  all_goals
    go_enter Tryd.func52, Tryd.ntmps52
    go_wp2_with (go_at_call 42; refine (compare_any _ _ _ (by assumption) (by assumption)).mono ?_; rintro e w' ⟨rfl, d, rfl⟩)
    all_goals
      go_ret
      refine ⟨ret_bool ?_, by first | exact ⟨_, rfl⟩⟩
      first | (simp [inB, *]; done) | (simp [inB]; omega)

set_option maxHeartbeats 400000 in
theorem refIn_any (low high : ByteArray) (u : Bool) (key : ByteArray) (w : World) (h1 : low.size ≤ maxLen) (h2 : high.size ≤ maxLen) (h3 : key.size ≤ maxLen) :
    Calls Tryd.prog 46 #[.string low, .string high, .bool u, .string key] w fun e w' => e = .returned (.bool (inR low high u key)) ∧ Dr w w' := by
  cases u
  all_goals
    go_enter Tryd.func46, Tryd.ntmps46
    go_wp2_with (go_at_call 30; refine (before_any _ _ _ (by assumption) (by assumption)).mono ?_; rintro e w' ⟨rfl, d, rfl⟩)
    all_goals
      go_ret
      refine ⟨ret_bool ?_, by first | exact ⟨_, rfl⟩⟩
      first | (simp [inR, *]; done) | (simp [inR]; omega)

/-- what lies between two texts, if the first stands ahead -/
def btw (a b : ByteArray) : ByteArray := b.extract 0 (Str.common (Tx a) (Tx b) + 1)

theorem cmp_neg_common {a b : ByteArray} (h : Str.cmp (Tx a) (Tx b) < 0) : Str.common (Tx a) (Tx b) < b.size := by
  have h0 := Str.cmp_of_common (Tx a) (Tx b)
  have hr := Str.common_le_right (Tx a) (Tx b)
  rw [tx_length, tx_length] at h0
  rw [tx_length] at hr
  rcases Nat.lt_or_ge (Str.common (Tx a) (Tx b)) b.size with k | k
  · exact k
  · have e : Str.common (Tx a) (Tx b) = b.size := by omega
    rw [e] at h0
    by_cases e2 : b.size = a.size
    · rw [if_pos ⟨e2, rfl⟩] at h0; omega
    · rw [if_neg (by omega), if_neg (by omega), if_pos rfl] at h0; omega

/-- the error of a code -/
abbrev errV (n : Int) : Value := .iface 34 (.int .i64 n)

set_option maxHeartbeats 400000 in
theorem between_yes (a b : ByteArray) (w : World) (ha : a.size ≤ maxLen) (hb : b.size ≤ maxLen) (h : Str.cmp (Tx a) (Tx b) < 0) :
    Calls Tryd.prog 62 #[.string a, .string b] w fun e w' => e = .returned (.tuple #[.string (btw a b), .nilIface]) ∧ Dr w w' := by
  have hlt := cmp_neg_common h
  have hb' := hb
  unfold maxLen at hb'
  go_enter Tryd.func62, Tryd.ntmps62
  go_wp2_with (first | (go_at_call 42; refine (compare_any _ _ _ (by assumption) (by assumption)).mono ?_; rintro e w' ⟨rfl, d, rfl⟩) | (go_at_call 58; refine (common_any _ _ _ (by assumption) (by assumption)).mono ?_; rintro e w' ⟨rfl, d, rfl⟩))
  go_ret2
  exact ⟨rfl, _, rfl⟩
set_option maxHeartbeats 400000 in
theorem between_no (a b : ByteArray) (w : World) (ha : a.size ≤ maxLen) (hb : b.size ≤ maxLen) (h : ¬ Str.cmp (Tx a) (Tx b) < 0) :
    Calls Tryd.prog 62 #[.string a, .string b] w fun e w' => e = .returned (.tuple #[.string ByteArray.empty, errV 1]) ∧ Dr w w' := by
  go_enter Tryd.func62, Tryd.ntmps62
  go_wp2_with (first | (go_at_call 42; refine (compare_any _ _ _ (by assumption) (by assumption)).mono ?_; rintro e w' ⟨rfl, d, rfl⟩) | (go_at_call 58; refine (common_any _ _ _ (by assumption) (by assumption)).mono ?_; rintro e w' ⟨rfl, d, rfl⟩))
  go_ret2
  exact ⟨rfl, _, rfl⟩


end Go.Proofs.YtidfelbaegaphaaDoor
