import Derived.Test.YtilmpofbjagcmaaFew2
import Derived.Test.YtilmpofbjagcmaaLift
namespace Go.Proofs.Ytilmpofbjagcmaa
open Go.BigFrame Go.RowKit Go.ChangeShapes Go.WideShapes Go.ChangeAt
open Go.ChangeMaps (open_string shut_string)

theorem two_cells (w : World) (a b : ByteArray) : ∀ i, i < 2 → (w.alloc (.cells #[.string a, .string b] 9)).cell? ⟨w.heap.size, i, none⟩ = some (.string (sAt [a, b] i)) := by
  intro i hi
  rw [World.cell?_alloc_new]
  match i, hi with
  | 0, _ => rfl
  | 1, _ => rfl

set_option maxRecDepth 100000 in
set_option maxHeartbeats 1000000 in
theorem order_both (a b : ByteArray) (w : World) (ha : a.size ≤ maxLen) (hb : b.size ≤ maxLen) (hf : fewB [a, b] = true) (c : Nat) (hl : c ≤ a.size) (hr : c ≤ b.size)
    (hcom : Hid (∀ w, Calls Try.prog 14 #[.string a, .string b] w fun e w' => e = .returned (.int .i64 c) ∧ Dr w w'))
    (hE : (a.extract 0 c).toList = (b.extract 0 c).toList) (h1 : c < a.size) (h2 : c < b.size) (hN : ((a[c].toNat : Int) == (b[c].toNat : Int)) = false) :
    Calls Try.prog 3 #[.string a, .string b] w fun e w' => e = .returned (.bool true) ∧ Below w.heap.size w w' := by
  have Hfew := Lib.hid (few_any w.heap.size 2 [a, b] rfl (by omega) _ (two_cells w a b))
  rw [hf] at Hfew
  have ha' := ha
  have hb' := hb
  unfold maxLen at ha' hb'
  have hc0 : decide ((c : Int) < 0) = false := by simp
  have hc1 : decide (a.size < c) = false := by simp; omega
  have hc2 : decide (b.size < c) = false := by simp; omega
  have hd1 : decide (c < a.size) = true := by simp; omega
  have hd2 : decide (c < b.size) = true := by simp; omega
  clear hf
  go_enter Try.func3, Try.ntmps3
  go_wp2_with (first | (go_at_call 12; refine Hfew.out.mono ?_; rintro e w' ⟨rfl, rfl⟩) | (go_at_call 14; refine (hcom.out _).mono ?_; rintro e w' ⟨rfl, d, rfl⟩))
  go_big_quiet (fail)
  go_wp2_with (first | (go_at_call 15; refine (compare_any _ _ _ (by assumption) (by assumption)).mono ?_; rintro e w' ⟨rfl, d, rfl⟩) | (go_at_call 16; refine (refCompare_any _ _ _ (by assumption) (by assumption)).mono ?_; rintro e w' ⟨rfl, d, rfl⟩) | (go_at_call 17; refine (right_any _ _ (by assumption)).mono ?_; rintro e w' ⟨rfl, d, rfl⟩) | (go_at_call 18; refine (refRight_any _ _ (by assumption)).mono ?_; rintro e w' ⟨rfl, d, rfl⟩) | (go_at_call 13; refine (awake_any _).mono ?_; rintro e w' ⟨rfl, d, rfl⟩))
  go_ret
  exact ⟨rfl, ((Below.refl _ _).alloc (Nat.le_refl _) _).trans (Dr.below ⟨_, rfl⟩ _)⟩
set_option maxRecDepth 100000 in
set_option maxHeartbeats 1000000 in
theorem order_left (a b : ByteArray) (w : World) (ha : a.size ≤ maxLen) (hb : b.size ≤ maxLen) (hf : fewB [a, b] = true) (c : Nat) (hl : c ≤ a.size) (hr : c ≤ b.size)
    (hcom : Hid (∀ w, Calls Try.prog 14 #[.string a, .string b] w fun e w' => e = .returned (.int .i64 c) ∧ Dr w w'))
    (hE : (a.extract 0 c).toList = (b.extract 0 c).toList) (h1 : c < a.size) (h2 : ¬ c < b.size) :
    Calls Try.prog 3 #[.string a, .string b] w fun e w' => e = .returned (.bool true) ∧ Below w.heap.size w w' := by
  have Hfew := Lib.hid (few_any w.heap.size 2 [a, b] rfl (by omega) _ (two_cells w a b))
  rw [hf] at Hfew
  have ha' := ha
  have hb' := hb
  unfold maxLen at ha' hb'
  have hc0 : decide ((c : Int) < 0) = false := by simp
  have hc1 : decide (a.size < c) = false := by simp; omega
  have hc2 : decide (b.size < c) = false := by simp; omega
  have hd1 : decide (c < a.size) = true := by simp; omega
  have hd2 : decide (c < b.size) = false := by simp; omega
  clear h2
  clear hf
  go_enter Try.func3, Try.ntmps3
  go_wp2_with (first | (go_at_call 12; refine Hfew.out.mono ?_; rintro e w' ⟨rfl, rfl⟩) | (go_at_call 14; refine (hcom.out _).mono ?_; rintro e w' ⟨rfl, d, rfl⟩))
  go_big_quiet (fail)
  go_wp2_with (first | (go_at_call 15; refine (compare_any _ _ _ (by assumption) (by assumption)).mono ?_; rintro e w' ⟨rfl, d, rfl⟩) | (go_at_call 16; refine (refCompare_any _ _ _ (by assumption) (by assumption)).mono ?_; rintro e w' ⟨rfl, d, rfl⟩) | (go_at_call 17; refine (right_any _ _ (by assumption)).mono ?_; rintro e w' ⟨rfl, d, rfl⟩) | (go_at_call 18; refine (refRight_any _ _ (by assumption)).mono ?_; rintro e w' ⟨rfl, d, rfl⟩) | (go_at_call 13; refine (awake_any _).mono ?_; rintro e w' ⟨rfl, d, rfl⟩))
  go_ret
  exact ⟨rfl, ((Below.refl _ _).alloc (Nat.le_refl _) _).trans (Dr.below ⟨_, rfl⟩ _)⟩
set_option maxRecDepth 100000 in
set_option maxHeartbeats 1000000 in
theorem order_none (a b : ByteArray) (w : World) (ha : a.size ≤ maxLen) (hb : b.size ≤ maxLen) (hf : fewB [a, b] = true) (c : Nat) (hl : c ≤ a.size) (hr : c ≤ b.size)
    (hcom : Hid (∀ w, Calls Try.prog 14 #[.string a, .string b] w fun e w' => e = .returned (.int .i64 c) ∧ Dr w w'))
    (hE : (a.extract 0 c).toList = (b.extract 0 c).toList) (h1 : ¬ c < a.size) :
    Calls Try.prog 3 #[.string a, .string b] w fun e w' => e = .returned (.bool true) ∧ Below w.heap.size w w' := by
  have Hfew := Lib.hid (few_any w.heap.size 2 [a, b] rfl (by omega) _ (two_cells w a b))
  rw [hf] at Hfew
  have ha' := ha
  have hb' := hb
  unfold maxLen at ha' hb'
  have hc0 : decide ((c : Int) < 0) = false := by simp
  have hc1 : decide (a.size < c) = false := by simp; omega
  have hc2 : decide (b.size < c) = false := by simp; omega
  have hd1 : decide (c < a.size) = false := by simp; omega
  clear h1
  clear hf
  go_enter Try.func3, Try.ntmps3
  go_wp2_with (first | (go_at_call 12; refine Hfew.out.mono ?_; rintro e w' ⟨rfl, rfl⟩) | (go_at_call 14; refine (hcom.out _).mono ?_; rintro e w' ⟨rfl, d, rfl⟩))
  go_big_quiet (fail)
  go_wp2_with (first | (go_at_call 15; refine (compare_any _ _ _ (by assumption) (by assumption)).mono ?_; rintro e w' ⟨rfl, d, rfl⟩) | (go_at_call 16; refine (refCompare_any _ _ _ (by assumption) (by assumption)).mono ?_; rintro e w' ⟨rfl, d, rfl⟩) | (go_at_call 17; refine (right_any _ _ (by assumption)).mono ?_; rintro e w' ⟨rfl, d, rfl⟩) | (go_at_call 18; refine (refRight_any _ _ (by assumption)).mono ?_; rintro e w' ⟨rfl, d, rfl⟩) | (go_at_call 13; refine (awake_any _).mono ?_; rintro e w' ⟨rfl, d, rfl⟩))
  go_ret
  exact ⟨rfl, ((Below.refl _ _).alloc (Nat.le_refl _) _).trans (Dr.below ⟨_, rfl⟩ _)⟩

theorem order_walk (a b : ByteArray) (w : World) (ha : a.size ≤ maxLen) (hb : b.size ≤ maxLen) :
    Calls Try.prog 3 #[.string a, .string b] w fun e w' => e = .returned (.bool true) ∧ Below w.heap.size w w' := by
  cases hf : fewB [a, b]
  · have Hfew := Lib.hid (few_any w.heap.size 2 [a, b] rfl (by omega) _ (two_cells w a b))
    rw [hf] at Hfew
    clear hf
    go_enter Try.func3, Try.ntmps3
    go_wp2_with (first | (go_at_call 12; refine Hfew.out.mono ?_; rintro e w' ⟨rfl, rfl⟩) | (go_at_call 13; refine (awake_any _).mono ?_; rintro e w' ⟨rfl, d, rfl⟩))
    go_ret
    exact ⟨rfl, ((Below.refl _ _).alloc (Nat.le_refl _) _).trans (Dr.below ⟨_, rfl⟩ _)⟩
  · have hl := Str.common_le_left (Tx a) (Tx b)
    have hr := Str.common_le_right (Tx a) (Tx b)
    have hcom := Lib.hid (fun w => common_any a b w ha hb)
    have hE : (a.extract 0 (Str.common (Tx a) (Tx b))).toList = (b.extract 0 (Str.common (Tx a) (Tx b))).toList := by
      rw [toList_tx, toList_tx, tx_extract, tx_extract, Str.common_take]
    have hN := fun h1 h2 => Str.common_ne (a := Tx a) (b := Tx b) h1 h2
    rw [tx_length] at hl hr
    rw [tx_length, tx_length] at hN
    generalize Str.common (Tx a) (Tx b) = c at *
    by_cases h1 : c < a.size
    · by_cases h2 : c < b.size
      · refine order_both a b w ha hb hf c hl hr hcom hE h1 h2 ?_
        have := hN h1 h2
        rw [tx_get a c h1, tx_get b c h2] at this
        simp only [beq_eq_false_iff_ne, ne_eq]
        exact fun e => this (UInt8.toNat_inj.1 (by omega))
      · exact order_left a b w ha hb hf c hl hr hcom hE h1 h2
    · exact order_none a b w ha hb hf c hl hr hcom hE h1
end Go.Proofs.Ytilmpofbjagcmaa
