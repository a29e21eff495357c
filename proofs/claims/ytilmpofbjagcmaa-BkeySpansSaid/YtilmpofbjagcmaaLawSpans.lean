import Derived.Test.YtilmpofbjagcmaaMeet
import Derived.Test.YtilmpofbjagcmaaLawLine
import Derived.Test.YtilmpofbjagcmaaLawWhole
namespace Go.Proofs.Ytilmpofbjagcmaa
set_option linter.unusedVariables false
open Go.BigFrame Go.RowKit Go.ChangeShapes Go.WideShapes Go.ChangeAt

theorem cmp_le_trans {a b c : Str.Txt} (h : Str.cmp a b ≤ 0) (k : Str.cmp b c ≤ 0) : Str.cmp a c ≤ 0 := (cmp_chain (a := a) (b := b) (c := c)).1 h k
theorem cmp_lt_le {a b c : Str.Txt} (h : Str.cmp a b < 0) (k : Str.cmp b c ≤ 0) : Str.cmp a c < 0 := (cmp_chain (a := a) (b := b) (c := c)).2 h k
theorem cmp_le_lt {a b c : Str.Txt} (h : Str.cmp a b ≤ 0) (k : Str.cmp b c < 0) : Str.cmp a c < 0 := by
  rcases Int.lt_or_eq_of_le h with h | h
  · exact cmp_lt_le h (by omega)
  · rw [Str.cmp_eq_iff] at h; subst h; exact k
theorem tx_inj {a b : ByteArray} (h : Tx a = Tx b) : a = b := bytes_inj h

theorem meetLow_le (a b : Sp) (k : Str.Txt) : Str.cmp (Tx (meetLow a b)) k ≤ 0 ↔ Str.cmp (Tx a.low) k ≤ 0 ∧ Str.cmp (Tx b.low) k ≤ 0 := by
  unfold meetLow
  split
  · rename_i h
    have h' : Str.cmp (Tx a.low) (Tx b.low) ≤ 0 := by rw [Str.cmp_swap]; omega
    exact ⟨fun q => ⟨cmp_le_trans h' q, q⟩, fun q => q.2⟩
  · rename_i h
    exact ⟨fun q => ⟨q, cmp_le_trans (by omega) q⟩, fun q => q.1⟩
theorem meetHigh_lt (a b : Sp) (k : Str.Txt) (hu : ¬ (a.unb && b.unb) = true) :
    Str.cmp k (Tx (meetHigh a b)) < 0 ↔ (a.unb = true ∨ Str.cmp k (Tx a.high) < 0) ∧ (b.unb = true ∨ Str.cmp k (Tx b.high) < 0) := by
  unfold meetHigh
  cases ha : a.unb
  · cases hb : b.unb
    · simp only [Bool.false_eq_true, ↓reduceIte, Bool.false_or, decide_eq_true_eq, false_or]
      split
      · rename_i h
        exact ⟨fun q => ⟨q, cmp_lt_le q (by omega)⟩, fun q => q.1⟩
      · rename_i h
        have h' : Str.cmp (Tx b.high) (Tx a.high) ≤ 0 := by rw [Str.cmp_swap]; omega
        exact ⟨fun q => ⟨cmp_lt_le q h', q⟩, fun q => q.2⟩
    · simp
  · cases hb : b.unb
    · simp
    · simp [ha, hb] at hu

theorem meetLow_comm (a b : Sp) : meetLow a b = meetLow b a := by
  unfold meetLow
  have hs := Str.cmp_swap (Tx a.low) (Tx b.low)
  by_cases h : 0 < Str.cmp (Tx b.low) (Tx a.low)
  · rw [if_pos h, if_neg (by omega)]
  · rw [if_neg h]
    by_cases k : 0 < Str.cmp (Tx a.low) (Tx b.low)
    · rw [if_pos k]
    · rw [if_neg k]
      exact tx_inj (Str.cmp_eq_iff.1 (by omega))
theorem meetHigh_comm (a b : Sp) (hu : ¬ (a.unb && b.unb) = true) : meetHigh a b = meetHigh b a := by
  unfold meetHigh
  have hs := Str.cmp_swap (Tx a.high) (Tx b.high)
  cases ha : a.unb
  · cases hb : b.unb
    · simp only [Bool.false_eq_true, ↓reduceIte, Bool.false_or, decide_eq_true_eq]
      by_cases h : Str.cmp (Tx a.high) (Tx b.high) < 0
      · rw [if_pos h, if_neg (by omega)]
      · rw [if_neg h]
        by_cases k : Str.cmp (Tx b.high) (Tx a.high) < 0
        · rw [if_pos k]
        · rw [if_neg k]
          exact tx_inj (Str.cmp_eq_iff.1 (by omega))
    · simp
  · cases hb : b.unb
    · simp
    · simp [ha, hb] at hu
theorem meet_comm (a b : Sp) : meet a b = meet b a := by
  unfold meet
  rw [meetLow_comm a b, Bool.and_comm]
  by_cases hu : (b.unb && a.unb) = true
  · rw [if_pos hu, if_pos hu]
  · rw [if_neg hu, if_neg hu, meetHigh_comm a b (by rwa [Bool.and_comm] at hu)]

def Sp.has (s : Sp) (k : ByteArray) : Bool := inB s.low s.high s.unb k
theorem Sp.has_iff (s : Sp) (k : ByteArray) : s.has k = true ↔ Str.cmp (Tx s.low) (Tx k) ≤ 0 ∧ (s.unb = true ∨ Str.cmp (Tx k) (Tx s.high) < 0) := by
  simp [Sp.has, inB]
theorem meet_has (a b : Sp) (k : ByteArray) : ((meet a b).2 && (meet a b).1.has k) = (a.has k && b.has k) := by
  rw [Bool.eq_iff_iff, Bool.and_eq_true, Bool.and_eq_true, Sp.has_iff, Sp.has_iff, Sp.has_iff]
  unfold meet
  have hl := meetLow_le a b (Tx k)
  by_cases hu : (a.unb && b.unb) = true
  · rw [if_pos hu]
    have : a.unb = true ∧ b.unb = true := by simpa using hu
    simp [this, hl]
  · rw [if_neg hu]
    have hh := meetHigh_lt a b (Tx k) hu
    by_cases hc : 0 ≤ Str.cmp (Tx (meetLow a b)) (Tx (meetHigh a b))
    · rw [if_pos hc]
      simp only [Bool.false_eq_true, false_and, false_iff]
      rintro ⟨⟨h1, h2⟩, h3, h4⟩
      have q1 := hl.2 ⟨h1, h3⟩
      have q2 := hh.2 ⟨h2, h4⟩
      have := cmp_le_lt q1 q2
      omega
    · rw [if_neg hc]
      simp only [true_and, Bool.false_eq_true, false_or]
      rw [hl, hh]
      exact ⟨fun ⟨⟨x1, x2⟩, x3, x4⟩ => ⟨⟨x1, x3⟩, x2, x4⟩, fun ⟨⟨x1, x3⟩, x2, x4⟩ => ⟨⟨x1, x2⟩, x3, x4⟩⟩
theorem meet_no (a b : Sp) (h : (meet a b).2 = false) : (meet a b).1 = Sp.zero := by
  unfold meet at *
  split
  · rename_i q; rw [if_pos q] at h; simp at h
  · rename_i q; rw [if_neg q] at h
    split
    · rfl
    · rename_i q2; rw [if_neg q2] at h; simp at h
theorem meet_unb (a b : Sp) (h : (meet a b).1.unb = true) : (meet a b).1.high = ByteArray.empty := by
  unfold meet at *
  split
  · rfl
  · rename_i q; rw [if_neg q] at h
    split
    · rfl
    · rename_i q2; rw [if_neg q2] at h; simp at h
theorem meet_sizes (a b : Sp) (h1 : a.low.size ≤ maxLen) (h2 : a.high.size ≤ maxLen) (h3 : b.low.size ≤ maxLen) (h4 : b.high.size ≤ maxLen) : (meet a b).1.low.size ≤ maxLen ∧ (meet a b).1.high.size ≤ maxLen := by
  have hl : (meetLow a b).size ≤ maxLen := by unfold meetLow; split <;> assumption
  have hh : (meetHigh a b).size ≤ maxLen := by
    unfold meetHigh
    split
    · assumption
    · split <;> assumption
  unfold meet
  split
  · exact ⟨hl, empty_ok⟩
  · split
    · exact ⟨empty_ok, empty_ok⟩
    · exact ⟨hl, hh⟩
end Go.Proofs.Ytilmpofbjagcmaa
