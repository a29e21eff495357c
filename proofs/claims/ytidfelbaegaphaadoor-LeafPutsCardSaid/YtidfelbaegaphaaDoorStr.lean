/-
  Plain facts on texts as lists of bytes: the order, the common beginning. No program in sight.
-/
namespace Go.Proofs.YtidfelbaegaphaaDoor
namespace Str
abbrev Txt := List UInt8

/-- a stands ahead of b -/
def before : Txt → Txt → Bool
  | _, [] => false
  | [], _ :: _ => true
  | x :: xs, y :: ys => if x = y then before xs ys else decide (x < y)

def cmp (a b : Txt) : Int := if before a b then -1 else if before b a then 1 else 0

/-- how many bytes two texts begin with alike -/
def common : Txt → Txt → Nat
  | x :: xs, y :: ys => if x = y then common xs ys + 1 else 0
  | _, _ => 0

theorem before_irrefl (a : Txt) : before a a = false := by
  induction a with
  | nil => rfl
  | cons x xs ih => simp [before, ih]

theorem before_asymm {a b : Txt} (h : before a b = true) : before b a = false := by
  induction a generalizing b with
  | nil => cases b <;> simp_all [before]
  | cons x xs ih =>
    cases b with
    | nil => simp [before] at h
    | cons y ys =>
      simp only [before] at h ⊢
      by_cases e : x = y
      · subst e; simp only [if_true] at h ⊢; exact ih h
      · rw [if_neg e] at h; rw [if_neg (fun k => e k.symm)]
        simp only [decide_eq_true_eq, decide_eq_false_iff_not] at h ⊢
        exact fun k => absurd (UInt8.lt_trans h k) (UInt8.lt_irrefl _)

theorem before_total (a b : Txt) : before a b = true ∨ a = b ∨ before b a = true := by
  induction a generalizing b with
  | nil => cases b <;> simp [before]
  | cons x xs ih =>
    cases b with
    | nil => simp [before]
    | cons y ys =>
      simp only [before]
      by_cases e : x = y
      · subst e; simp only [if_true]
        rcases ih ys with h | h | h
        · exact .inl h
        · exact .inr (.inl (by rw [h]))
        · exact .inr (.inr h)
      · rw [if_neg e, if_neg (fun k => e k.symm)]
        simp only [decide_eq_true_eq]
        rcases UInt8.lt_or_lt_of_ne e with h | h
        · exact .inl h
        · exact .inr (.inr h)

theorem before_trans {a b c : Txt} (h : before a b = true) (k : before b c = true) : before a c = true := by
  induction a generalizing b c with
  | nil =>
    cases c with
    | nil => cases b <;> simp [before] at k
    | cons z zs => rfl
  | cons x xs ih =>
    cases b with
    | nil => simp [before] at h
    | cons y ys =>
      cases c with
      | nil => simp [before] at k
      | cons z zs =>
        simp only [before] at h k ⊢
        by_cases e : x = y
        · subst e
          simp only [if_true] at h
          by_cases e2 : x = z
          · subst e2; simp only [if_true] at k ⊢; exact ih h k
          · rw [if_neg e2] at k ⊢; exact k
        · rw [if_neg e] at h
          by_cases e2 : y = z
          · subst e2; rw [if_neg e]; exact h
          · rw [if_neg e2] at k
            simp only [decide_eq_true_eq] at h k
            have hxz := UInt8.lt_trans h k
            rw [if_neg (fun e3 => by subst e3; exact absurd hxz (UInt8.lt_irrefl _))]
            simpa using hxz

theorem cmp_neg_iff {a b : Txt} : cmp a b < 0 ↔ before a b = true := by
  unfold cmp; split
  · simp [*]
  · split <;> simp [*]

theorem cmp_pos_iff {a b : Txt} : 0 < cmp a b ↔ before b a = true := by
  unfold cmp; split
  · rename_i h; simp [before_asymm h]
  · split <;> simp [*]

theorem cmp_eq_iff {a b : Txt} : cmp a b = 0 ↔ a = b := by
  unfold cmp
  constructor
  · intro h
    rcases before_total a b with k | k | k
    · rw [if_pos k] at h; omega
    · exact k
    · rw [if_neg (by simp [before_asymm k]), if_pos k] at h; omega
  · rintro rfl; simp [before_irrefl]

theorem cmp_swap (a b : Txt) : cmp b a = - cmp a b := by
  unfold cmp
  rcases before_total a b with k | k | k
  · simp [k, before_asymm k]
  · subst k; simp [before_irrefl]
  · simp [k, before_asymm k]

theorem cmp_range (a b : Txt) : -1 ≤ cmp a b ∧ cmp a b ≤ 1 := by
  unfold cmp; split
  · omega
  · split <;> omega

/-- what the program's Compare does, out of the common beginning -/
theorem cmp_of_common (a b : Txt) : cmp a b =
    if common a b = a.length ∧ common a b = b.length then 0 else if common a b = a.length then -1 else if common a b = b.length then 1
      else if (a.getD (common a b) 0) < (b.getD (common a b) 0) then -1 else 1 := by
  induction a generalizing b with
  | nil => cases b <;> simp [cmp, before, common]
  | cons x xs ih =>
    cases b with
    | nil => simp [cmp, before, common]
    | cons y ys =>
      by_cases e : x = y
      · subst e
        have h : cmp (x :: xs) (x :: ys) = cmp xs ys := by simp [cmp, before]
        rw [h, ih ys]; simp [common]
      · have h : ¬ y = x := fun k => e k.symm
        simp only [common, if_neg e, cmp, before, if_neg h]
        rcases UInt8.lt_or_lt_of_ne e with k | k
        · simp [k]
        · have k' : ¬ x < y := fun q => absurd (UInt8.lt_trans k q) (UInt8.lt_irrefl _)
          simp [k, k']

theorem common_le_left (a b : Txt) : common a b ≤ a.length := by
  induction a generalizing b with
  | nil => simp [common]
  | cons x xs ih =>
    cases b with
    | nil => simp [common]
    | cons y ys => simp only [common]; split <;> simp [ih]

theorem common_comm (a b : Txt) : common a b = common b a := by
  induction a generalizing b with
  | nil => cases b <;> simp [common]
  | cons x xs ih =>
    cases b with
    | nil => simp [common]
    | cons y ys =>
      simp only [common]
      by_cases e : x = y
      · subst e; simp [ih]
      · rw [if_neg e, if_neg (fun k => e k.symm)]

theorem common_le_right (a b : Txt) : common a b ≤ b.length := common_comm a b ▸ common_le_left b a

theorem common_take (a b : Txt) : a.take (common a b) = b.take (common a b) := by
  induction a generalizing b with
  | nil => simp [common]
  | cons x xs ih =>
    cases b with
    | nil => simp [common]
    | cons y ys =>
      simp only [common]
      by_cases e : x = y
      · subst e; simp [ih]
      · simp [e]

theorem common_ne {a b : Txt} (h1 : common a b < a.length) (h2 : common a b < b.length) : a.getD (common a b) 0 ≠ b.getD (common a b) 0 := by
  induction a generalizing b with
  | nil => simp at h1
  | cons x xs ih =>
    cases b with
    | nil => simp at h2
    | cons y ys =>
      by_cases e : x = y
      · subst e
        simp only [common, if_true, List.length_cons] at h1 h2 ⊢
        exact ih (by omega) (by omega)
      · simp only [common, if_neg e]; exact e

/-- the common beginning, found byte by byte -/
theorem common_ge {a b : Txt} {n : Nat} (h : n ≤ common a b) (h1 : n < a.length) (h2 : n < b.length) (e : a.getD n 0 = b.getD n 0) : n + 1 ≤ common a b := by
  rcases Nat.lt_or_ge n (common a b) with k | k
  · exact k
  · have : n = common a b := by omega
    subst this
    exact absurd e (common_ne h1 h2)

theorem common_eq {a b : Txt} {n : Nat} (h : n ≤ common a b) (e : n = a.length ∨ n = b.length ∨ a.getD n 0 ≠ b.getD n 0) : common a b = n := by
  have hl := common_le_left a b
  have hr := common_le_right a b
  rcases e with e | e | e
  · omega
  · omega
  · rcases Nat.lt_or_ge n (common a b) with k | k
    · have ht := common_take a b
      have h1 : (a.take (common a b)).getD n 0 = a.getD n 0 := by simp [List.getD, k]
      have h2 : (b.take (common a b)).getD n 0 = b.getD n 0 := by simp [List.getD, k]
      exact absurd (by rw [← h1, ht, h2]) e
    · omega

theorem before_take (a b : Txt) (n : Nat) (hn : n ≤ b.length) : before a (b.take n) = (before a b && decide (common a b < n)) := by
  induction b generalizing a n with
  | nil => cases a <;> simp [before]
  | cons y ys ih =>
    cases n with
    | zero => cases a <;> simp [before]
    | succ n =>
      cases a with
      | nil => simp [before, common]
      | cons x xs =>
        simp only [List.take_succ_cons, before, common]
        by_cases e : x = y
        · subst e
          simp only [if_true]
          rw [ih xs n (by simpa using hn)]
          simp
        · simp [if_neg e]

/-- a full text's next one: the last byte that is not 255 goes up by one, and what is behind it goes -/
def bump : Txt → Option Txt
  | [] => none
  | x :: xs => match bump xs with
    | some ys => some (x :: ys)
    | none => if x = 255 then none else some [x + 1]

theorem bump_snoc (l : Txt) (x : UInt8) : bump (l ++ [x]) = if x = 255 then bump l else some (l ++ [x + 1]) := by
  induction l with
  | nil => simp [bump]
  | cons y ys ih =>
    simp only [List.cons_append, bump, ih]
    by_cases e : x = 255
    · simp [e]
    · simp [e]

theorem lt_succ_of {x y : UInt8} (h : x ≠ 255) (k : y < x + 1) : ¬ x < y := by
  have hx : x.toNat ≠ 255 := fun e => h (UInt8.toNat_inj.1 e)
  have hx2 := x.toNat_lt
  have e : (x + 1).toNat = x.toNat + 1 := by rw [UInt8.toNat_add]; show (x.toNat + 1) % 256 = _; omega
  rw [UInt8.lt_iff_toNat_lt, e] at k
  rw [UInt8.lt_iff_toNat_lt]
  omega
theorem lt_add_one {x : UInt8} (h : x ≠ 255) : x < x + 1 := by
  have hx : x.toNat ≠ 255 := fun e => h (UInt8.toNat_inj.1 e)
  have hx2 := x.toNat_lt
  have e : (x + 1).toNat = x.toNat + 1 := by rw [UInt8.toNat_add]; show (x.toNat + 1) % 256 = _; omega
  rw [UInt8.lt_iff_toNat_lt, e]; omega

theorem bump_none {l b : Txt} (h : bump l = none) (hb : b.length ≤ l.length) : before l b = false := by
  induction l generalizing b with
  | nil => have : b = [] := List.length_eq_zero_iff.1 (by simpa using hb); subst this; rfl
  | cons x xs ih =>
    cases b with
    | nil => rfl
    | cons y ys =>
      simp only [bump] at h
      cases hx : bump xs with
      | some zs => rw [hx] at h; simp at h
      | none =>
        rw [hx] at h
        simp only [ite_eq_left_iff, reduceCtorEq, imp_false, Decidable.not_not] at h
        subst h
        simp only [before]
        by_cases e : (255 : UInt8) = y
        · rw [if_pos e]; exact ih hx (by simpa using hb)
        · rw [if_neg e]
          simp only [decide_eq_false_iff_not]
          intro k
          have := UInt8.lt_iff_toNat_lt.1 k
          have h2 := y.toNat_lt
          have h3 : (255 : UInt8).toNat = 255 := rfl
          omega

theorem bump_before {l m : Txt} (h : bump l = some m) : before l m = true := by
  induction l generalizing m with
  | nil => simp [bump] at h
  | cons x xs ih =>
    simp only [bump] at h
    cases hx : bump xs with
    | some zs =>
      rw [hx] at h
      simp only [Option.some.injEq] at h
      subst h
      simp only [before, if_true]; exact ih hx
    | none =>
      rw [hx] at h
      by_cases e : x = 255
      · simp [e] at h
      · simp only [if_neg e, Option.some.injEq] at h
        subst h
        have := lt_add_one e
        have hne : ¬ x = x + 1 := fun k => by rw [← k] at this; exact UInt8.lt_irrefl _ this
        simp only [before, if_neg hne, decide_eq_true_eq]
        exact this

theorem bump_least {l m b : Txt} (h : bump l = some m) (hb : b.length ≤ l.length) (k : before l b = true) : before b m = false := by
  induction l generalizing m b with
  | nil => simp [bump] at h
  | cons x xs ih =>
    cases b with
    | nil => simp [before] at k
    | cons y ys =>
      simp only [bump] at h
      simp only [before] at k
      cases hx : bump xs with
      | some zs =>
        rw [hx] at h
        simp only [Option.some.injEq] at h
        subst h
        simp only [before]
        by_cases e : x = y
        · subst e
          simp only [if_true] at k ⊢
          exact ih hx (by simpa using hb) k
        · rw [if_neg e] at k
          rw [if_neg (fun q => e q.symm)]
          simp only [decide_eq_true_eq, decide_eq_false_iff_not] at k ⊢
          exact fun q => UInt8.lt_irrefl _ (UInt8.lt_trans k q)
      | none =>
        rw [hx] at h
        by_cases e : x = 255
        · simp [e] at h
        · simp only [if_neg e, Option.some.injEq] at h
          subst h
          by_cases e2 : x = y
          · subst e2
            simp only [if_true] at k
            have := bump_none hx (by simpa using hb)
            rw [this] at k; cases k
          · rw [if_neg e2] at k
            simp only [decide_eq_true_eq] at k
            simp only [before]
            by_cases e3 : y = x + 1
            · rw [if_pos e3]
            · rw [if_neg e3]
              simp only [decide_eq_false_iff_not]
              exact fun q => lt_succ_of e q k

theorem bump_length {l m : Txt} (h : bump l = some m) : 1 ≤ m.length ∧ m.length ≤ l.length := by
  induction l generalizing m with
  | nil => simp [bump] at h
  | cons x xs ih =>
    simp only [bump] at h
    cases hx : bump xs with
    | some zs =>
      rw [hx] at h
      simp only [Option.some.injEq] at h
      subst h
      have := ih hx
      simp; omega
    | none =>
      rw [hx] at h
      by_cases e : x = 255
      · simp [e] at h
      · simp only [if_neg e, Option.some.injEq] at h
        subst h; simp

theorem before_snoc_zero (l : Txt) : before l (l ++ [0]) = true := by
  induction l with
  | nil => rfl
  | cons x xs ih => simp only [List.cons_append, before, if_true]; exact ih

theorem snoc_zero_least {l b : Txt} (k : before l b = true) : before b (l ++ [0]) = false := by
  induction l generalizing b with
  | nil =>
    cases b with
    | nil => simp [before] at k
    | cons y ys =>
      simp only [List.nil_append, before]
      by_cases e : y = 0
      · rw [if_pos e]
      · rw [if_neg e]
        simp only [decide_eq_false_iff_not]
        intro q
        have := UInt8.lt_iff_toNat_lt.1 q
        have h3 : (0 : UInt8).toNat = 0 := rfl
        omega
  | cons x xs ih =>
    cases b with
    | nil => simp [before] at k
    | cons y ys =>
      simp only [before] at k
      simp only [List.cons_append, before]
      by_cases e : x = y
      · subst e; simp only [if_true] at k ⊢; exact ih k
      · rw [if_neg e] at k
        rw [if_neg (fun q => e q.symm)]
        simp only [decide_eq_true_eq, decide_eq_false_iff_not] at k ⊢
        exact fun q => UInt8.lt_irrefl _ (UInt8.lt_trans k q)
end Str
end Go.Proofs.YtidfelbaegaphaaDoor
