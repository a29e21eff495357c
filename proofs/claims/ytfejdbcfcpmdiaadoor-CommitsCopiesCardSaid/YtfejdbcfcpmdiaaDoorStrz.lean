/-
  Plain facts on texts as lists of bytes: the order, the common beginning. No program in sight.
-/
import Derived.Test.YtfejdbcfcpmdiaaDoorRows
import Derived.WalkKit
import Derived.WalkSpells
import Derived.WalkLawsBesides
import Derived.Deep.QuietTactic
import Derived.BigQuiet
import Derived.Lib.Hide
namespace Go.Proofs.YtfejdbcfcpmdiaaDoor
namespace Str
abbrev Txt := List UInt8

/-- a stands ahead of b -/
def before : Txt → Txt → Bool
  | _, [] => false
  | [], _ :: _ => true
  | x :: xs, y :: ys => if x = y then before xs ys else decide (x < y)

def cmp (a b : Txt) : Int := if before a b then -1 else if before b a then 1 else 0

/-- how many bytes two texts begin with alike -/
def common : Txt → Txt → Nat
  | x :: xs, y :: ys => if x = y then common xs ys + 1 else 0
  | _, _ => 0

theorem before_irrefl (a : Txt) : before a a = false := by
  induction a with
  | nil => rfl
  | cons x xs ih => simp [before, ih]

theorem before_asymm {a b : Txt} (h : before a b = true) : before b a = false := by
  induction a generalizing b with
  | nil => cases b <;> simp_all [before]
  | cons x xs ih =>
    cases b with
    | nil => simp [before] at h
    | cons y ys =>
      simp only [before] at h ⊢
      by_cases e : x = y
      · subst e; simp only [if_true] at h ⊢; exact ih h
      · rw [if_neg e] at h; rw [if_neg (fun k => e k.symm)]
        simp only [decide_eq_true_eq, decide_eq_false_iff_not] at h ⊢
        exact fun k => absurd (UInt8.lt_trans h k) (UInt8.lt_irrefl _)

theorem before_total (a b : Txt) : before a b = true ∨ a = b ∨ before b a = true := by
  induction a generalizing b with
  | nil => cases b <;> simp [before]
  | cons x xs ih =>
    cases b with
    | nil => simp [before]
    | cons y ys =>
      simp only [before]
      by_cases e : x = y
      · subst e; simp only [if_true]
        rcases ih ys with h | h | h
        · exact .inl h
        · exact .inr (.inl (by rw [h]))
        · exact .inr (.inr h)
      · rw [if_neg e, if_neg (fun k => e k.symm)]
        simp only [decide_eq_true_eq]
        rcases UInt8.lt_or_lt_of_ne e with h | h
        · exact .inl h
        · exact .inr (.inr h)

theorem before_trans {a b c : Txt} (h : before a b = true) (k : before b c = true) : before a c = true := by
  induction a generalizing b c with
  | nil =>
    cases c with
    | nil => cases b <;> simp [before] at k
    | cons z zs => rfl
  | cons x xs ih =>
    cases b with
    | nil => simp [before] at h
    | cons y ys =>
      cases c with
      | nil => simp [before] at k
      | cons z zs =>
        simp only [before] at h k ⊢
        by_cases e : x = y
        · subst e
          simp only [if_true] at h
          by_cases e2 : x = z
          · subst e2; simp only [if_true] at k ⊢; exact ih h k
          · rw [if_neg e2] at k ⊢; exact k
        · rw [if_neg e] at h
          by_cases e2 : y = z
          · subst e2; rw [if_neg e]; exact h
          · rw [if_neg e2] at k
            simp only [decide_eq_true_eq] at h k
            have hxz := UInt8.lt_trans h k
            rw [if_neg (fun e3 => by subst e3; exact absurd hxz (UInt8.lt_irrefl _))]
            simpa using hxz

theorem cmp_neg_iff {a b : Txt} : cmp a b < 0 ↔ before a b = true := by
  unfold cmp; split
  · simp [*]
  · split <;> simp [*]

theorem cmp_pos_iff {a b : Txt} : 0 < cmp a b ↔ before b a = true := by
  unfold cmp; split
  · rename_i h; simp [before_asymm h]
  · split <;> simp [*]

theorem cmp_eq_iff {a b : Txt} : cmp a b = 0 ↔ a = b := by
  unfold cmp
  constructor
  · intro h
    rcases before_total a b with k | k | k
    · rw [if_pos k] at h; omega
    · exact k
    · rw [if_neg (by simp [before_asymm k]), if_pos k] at h; omega
  · rintro rfl; simp [before_irrefl]

theorem cmp_swap (a b : Txt) : cmp b a = - cmp a b := by
  unfold cmp
  rcases before_total a b with k | k | k
  · simp [k, before_asymm k]
  · subst k; simp [before_irrefl]
  · simp [k, before_asymm k]

theorem cmp_range (a b : Txt) : -1 ≤ cmp a b ∧ cmp a b ≤ 1 := by
  unfold cmp; split
  · omega
  · split <;> omega

/-- what the program's Compare does, out of the common beginning -/
theorem cmp_of_common (a b : Txt) : cmp a b =
    if common a b = a.length ∧ common a b = b.length then 0 else if common a b = a.length then -1 else if common a b = b.length then 1
      else if (a.getD (common a b) 0) < (b.getD (common a b) 0) then -1 else 1 := by
  induction a generalizing b with
  | nil => cases b <;> simp [cmp, before, common]
  | cons x xs ih =>
    cases b with
    | nil => simp [cmp, before, common]
    | cons y ys =>
      by_cases e : x = y
      · subst e
        have h : cmp (x :: xs) (x :: ys) = cmp xs ys := by simp [cmp, before]
        rw [h, ih ys]; simp [common]
      · have h : ¬ y = x := fun k => e k.symm
        simp only [common, if_neg e, cmp, before, if_neg h]
        rcases UInt8.lt_or_lt_of_ne e with k | k
        · simp [k]
        · have k' : ¬ x < y := fun q => absurd (UInt8.lt_trans k q) (UInt8.lt_irrefl _)
          simp [k, k']

theorem common_le_left (a b : Txt) : common a b ≤ a.length := by
  induction a generalizing b with
  | nil => simp [common]
  | cons x xs ih =>
    cases b with
    | nil => simp [common]
    | cons y ys => simp only [common]; split <;> simp [ih]

theorem common_comm (a b : Txt) : common a b = common b a := by
  induction a generalizing b with
  | nil => cases b <;> simp [common]
  | cons x xs ih =>
    cases b with
    | nil => simp [common]
    | cons y ys =>
      simp only [common]
      by_cases e : x = y
      · subst e; simp [ih]
      · rw [if_neg e, if_neg (fun k => e k.symm)]

theorem common_le_right (a b : Txt) : common a b ≤ b.length := common_comm a b ▸ common_le_left b a

theorem common_take (a b : Txt) : a.take (common a b) = b.take (common a b) := by
  induction a generalizing b with
  | nil => simp [common]
  | cons x xs ih =>
    cases b with
    | nil => simp [common]
    | cons y ys =>
      simp only [common]
      by_cases e : x = y
      · subst e; simp [ih]
      · simp [e]

theorem common_ne {a b : Txt} (h1 : common a b < a.length) (h2 : common a b < b.length) : a.getD (common a b) 0 ≠ b.getD (common a b) 0 := by
  induction a generalizing b with
  | nil => simp at h1
  | cons x xs ih =>
    cases b with
    | nil => simp at h2
    | cons y ys =>
      by_cases e : x = y
      · subst e
        simp only [common, if_true, List.length_cons] at h1 h2 ⊢
        exact ih (by omega) (by omega)
      · simp only [common, if_neg e]; exact e

/-- the common beginning, found byte by byte -/
theorem common_ge {a b : Txt} {n : Nat} (h : n ≤ common a b) (h1 : n < a.length) (h2 : n < b.length) (e : a.getD n 0 = b.getD n 0) : n + 1 ≤ common a b := by
  rcases Nat.lt_or_ge n (common a b) with k | k
  · exact k
  · have : n = common a b := by omega
    subst this
    exact absurd e (common_ne h1 h2)

theorem common_eq {a b : Txt} {n : Nat} (h : n ≤ common a b) (e : n = a.length ∨ n = b.length ∨ a.getD n 0 ≠ b.getD n 0) : common a b = n := by
  have hl := common_le_left a b
  have hr := common_le_right a b
  rcases e with e | e | e
  · omega
  · omega
  · rcases Nat.lt_or_ge n (common a b) with k | k
    · have ht := common_take a b
      have h1 : (a.take (common a b)).getD n 0 = a.getD n 0 := by simp [List.getD, k]
      have h2 : (b.take (common a b)).getD n 0 = b.getD n 0 := by simp [List.getD, k]
      exact absurd (by rw [← h1, ht, h2]) e
    · omega

theorem before_take (a b : Txt) (n : Nat) (hn : n ≤ b.length) : before a (b.take n) = (before a b && decide (common a b < n)) := by
  induction b generalizing a n with
  | nil => cases a <;> simp [before]
  | cons y ys ih =>
    cases n with
    | zero => cases a <;> simp [before]
    | succ n =>
      cases a with
      | nil => simp [before, common]
      | cons x xs =>
        simp only [List.take_succ_cons, before, common]
        by_cases e : x = y
        · subst e
          simp only [if_true]
          rw [ih xs n (by simpa using hn)]
          simp
        · simp [if_neg e]

/-- a full text's next one: the last byte that is not 255 goes up by one, and what is behind it goes -/
def bump : Txt → Option Txt
  | [] => none
  | x :: xs => match bump xs with
    | some ys => some (x :: ys)
    | none => if x = 255 then none else some [x + 1]

theorem bump_snoc (l : Txt) (x : UInt8) : bump (l ++ [x]) = if x = 255 then bump l else some (l ++ [x + 1]) := by
  induction l with
  | nil => simp [bump]
  | cons y ys ih =>
    simp only [List.cons_append, bump, ih]
    by_cases e : x = 255
    · simp [e]
    · simp [e]

theorem lt_succ_of {x y : UInt8} (h : x ≠ 255) (k : y < x + 1) : ¬ x < y := by
  have hx : x.toNat ≠ 255 := fun e => h (UInt8.toNat_inj.1 e)
  have hx2 := x.toNat_lt
  have e : (x + 1).toNat = x.toNat + 1 := by rw [UInt8.toNat_add]; show (x.toNat + 1) % 256 = _; omega
  rw [UInt8.lt_iff_toNat_lt, e] at k
  rw [UInt8.lt_iff_toNat_lt]
  omega
theorem lt_add_one {x : UInt8} (h : x ≠ 255) : x < x + 1 := by
  have hx : x.toNat ≠ 255 := fun e => h (UInt8.toNat_inj.1 e)
  have hx2 := x.toNat_lt
  have e : (x + 1).toNat = x.toNat + 1 := by rw [UInt8.toNat_add]; show (x.toNat + 1) % 256 = _; omega
  rw [UInt8.lt_iff_toNat_lt, e]; omega

theorem bump_none {l b : Txt} (h : bump l = none) (hb : b.length ≤ l.length) : before l b = false := by
  induction l generalizing b with
  | nil => have : b = [] := List.length_eq_zero_iff.1 (by simpa using hb); subst this; rfl
  | cons x xs ih =>
    cases b with
    | nil => rfl
    | cons y ys =>
      simp only [bump] at h
      cases hx : bump xs with
      | some zs => rw [hx] at h; simp at h
      | none =>
        rw [hx] at h
        simp only [ite_eq_left_iff, reduceCtorEq, imp_false, Decidable.not_not] at h
        subst h
        simp only [before]
        by_cases e : (255 : UInt8) = y
        · rw [if_pos e]; exact ih hx (by simpa using hb)
        · rw [if_neg e]
          simp only [decide_eq_false_iff_not]
          intro k
          have := UInt8.lt_iff_toNat_lt.1 k
          have h2 := y.toNat_lt
          have h3 : (255 : UInt8).toNat = 255 := rfl
          omega

theorem bump_before {l m : Txt} (h : bump l = some m) : before l m = true := by
  induction l generalizing m with
  | nil => simp [bump] at h
  | cons x xs ih =>
    simp only [bump] at h
    cases hx : bump xs with
    | some zs =>
      rw [hx] at h
      simp only [Option.some.injEq] at h
      subst h
      simp only [before, if_true]; exact ih hx
    | none =>
      rw [hx] at h
      by_cases e : x = 255
      · simp [e] at h
      · simp only [if_neg e, Option.some.injEq] at h
        subst h
        have := lt_add_one e
        have hne : ¬ x = x + 1 := fun k => by rw [← k] at this; exact UInt8.lt_irrefl _ this
        simp only [before, if_neg hne, decide_eq_true_eq]
        exact this

theorem bump_least {l m b : Txt} (h : bump l = some m) (hb : b.length ≤ l.length) (k : before l b = true) : before b m = false := by
  induction l generalizing m b with
  | nil => simp [bump] at h
  | cons x xs ih =>
    cases b with
    | nil => simp [before] at k
    | cons y ys =>
      simp only [bump] at h
      simp only [before] at k
      cases hx : bump xs with
      | some zs =>
        rw [hx] at h
        simp only [Option.some.injEq] at h
        subst h
        simp only [before]
        by_cases e : x = y
        · subst e
          simp only [if_true] at k ⊢
          exact ih hx (by simpa using hb) k
        · rw [if_neg e] at k
          rw [if_neg (fun q => e q.symm)]
          simp only [decide_eq_true_eq, decide_eq_false_iff_not] at k ⊢
          exact fun q => UInt8.lt_irrefl _ (UInt8.lt_trans k q)
      | none =>
        rw [hx] at h
        by_cases e : x = 255
        · simp [e] at h
        · simp only [if_neg e, Option.some.injEq] at h
          subst h
          by_cases e2 : x = y
          · subst e2
            simp only [if_true] at k
            have := bump_none hx (by simpa using hb)
            rw [this] at k; cases k
          · rw [if_neg e2] at k
            simp only [decide_eq_true_eq] at k
            simp only [before]
            by_cases e3 : y = x + 1
            · rw [if_pos e3]
            · rw [if_neg e3]
              simp only [decide_eq_false_iff_not]
              exact fun q => lt_succ_of e q k

theorem bump_length {l m : Txt} (h : bump l = some m) : 1 ≤ m.length ∧ m.length ≤ l.length := by
  induction l generalizing m with
  | nil => simp [bump] at h
  | cons x xs ih =>
    simp only [bump] at h
    cases hx : bump xs with
    | some zs =>
      rw [hx] at h
      simp only [Option.some.injEq] at h
      subst h
      have := ih hx
      simp; omega
    | none =>
      rw [hx] at h
      by_cases e : x = 255
      · simp [e] at h
      · simp only [if_neg e, Option.some.injEq] at h
        subst h; simp

theorem before_snoc_zero (l : Txt) : before l (l ++ [0]) = true := by
  induction l with
  | nil => rfl
  | cons x xs ih => simp only [List.cons_append, before, if_true]; exact ih

theorem snoc_zero_least {l b : Txt} (k : before l b = true) : before b (l ++ [0]) = false := by
  induction l generalizing b with
  | nil =>
    cases b with
    | nil => simp [before] at k
    | cons y ys =>
      simp only [List.nil_append, before]
      by_cases e : y = 0
      · rw [if_pos e]
      · rw [if_neg e]
        simp only [decide_eq_false_iff_not]
        intro q
        have := UInt8.lt_iff_toNat_lt.1 q
        have h3 : (0 : UInt8).toNat = 0 := rfl
        omega
  | cons x xs ih =>
    cases b with
    | nil => simp [before] at k
    | cons y ys =>
      simp only [before] at k
      simp only [List.cons_append, before]
      by_cases e : x = y
      · subst e; simp only [if_true] at k ⊢; exact ih k
      · rw [if_neg e] at k
        rw [if_neg (fun q => e q.symm)]
        simp only [decide_eq_true_eq, decide_eq_false_iff_not] at k ⊢
        exact fun q => UInt8.lt_irrefl _ (UInt8.lt_trans k q)
end Str
end Go.Proofs.YtfejdbcfcpmdiaaDoor

namespace Go.Proofs.YtfejdbcfcpmdiaaDoor
open Go.RowKit

/-- w' is w but for draws -/
def Dr (w w' : World) : Prop := ∃ n, w' = w.drewN n
theorem Dr.refl (w : World) : Dr w w := ⟨0, rfl⟩
theorem Dr.step {w w' : World} (h : Dr w w') (n : Nat) : Dr w (w'.drewN n) := by
  obtain ⟨m, rfl⟩ := h
  exact ⟨m + n, World.drewN_drewN _ _ _⟩
theorem Dr.drew {w w' : World} (h : Dr w w') : Dr w w'.drew := h.step 1
theorem Dr.trans {a b c : World} (h : Dr a b) (k : Dr b c) : Dr a c := by
  obtain ⟨m, rfl⟩ := k
  exact h.step m
theorem Dr.below {w w' : World} (h : Dr w w') (B : Nat) : Below B w w' := by
  obtain ⟨m, rfl⟩ := h
  exact ⟨rfl, rfl, rfl, Nat.le_refl _, fun _ _ => rfl⟩

/-- w' is w with more blocks behind it, and draws -/
def Gr (w w' : World) : Prop := Below w.heap.size w w'
theorem Gr.refl (w : World) : Gr w w := Below.refl _ _
theorem Gr.trans {a b c : World} (h : Gr a b) (k : Gr b c) : Gr a c := Below.trans h (Below.mono k h.size)
theorem Gr.drewN {w w' : World} (h : Gr w w') (n : Nat) : Gr w (w'.drewN n) := ⟨h.os, h.tape, h.output, h.size, h.block⟩
theorem Gr.drew {w w' : World} (h : Gr w w') : Gr w w'.drew := h.drewN 1
theorem Gr.alloc {w w' : World} (h : Gr w w') (o : Obj) : Gr w (w'.alloc o) := Below.alloc h h.size o
theorem Gr.setCell {w w' : World} (h : Gr w w') {p : Addr} (hp : w.heap.size ≤ p.block) (u : Value) : Gr w (w'.setCell p u) := Below.setCell h hp u
theorem Dr.gr {w w' : World} (h : Dr w w') : Gr w w' := h.below _
theorem Gr.le {w w' : World} (h : Gr w w') : w.heap.size ≤ w'.heap.size := h.size
theorem Gr.cell {w w' : World} (h : Gr w w') {b o : Nat} (hb : b < w.heap.size) : w'.cell? ⟨b, o, none⟩ = w.cell? ⟨b, o, none⟩ := Below.cell h (p := ⟨b, o, none⟩) hb
theorem Gr.frozen {w w' : World} (h : Gr w w') {b o : Nat} (hb : b < w.heap.size) : w'.frozen? ⟨b, o, none⟩ = w.frozen? ⟨b, o, none⟩ := Below.frozen h (p := ⟨b, o, none⟩) hb

theorem Gr.cells {W w1 : World} (h : Gr W w1) : ∀ b o, b < W.heap.size → w1.cell? ⟨b, o, none⟩ = W.cell? ⟨b, o, none⟩ := fun _ _ hb => h.cell hb
theorem Gr.frozens {W w1 : World} (h : Gr W w1) : ∀ b o, b < W.heap.size → w1.frozen? ⟨b, o, none⟩ = W.frozen? ⟨b, o, none⟩ := fun _ _ hb => h.frozen hb
theorem quiet_dr0 {P : Program} {f : FuncId} {args : Array Value} {w : World} {n : Nat} {v : Value}
    (h : Calls P f args (w.drewN n) fun e w' => e = .returned v ∧ Dr (w.drewN n) w') : Calls P f args (w.drewN n) fun e w'' => e = .returned v ∧ ∃ m, w'' = w.drewN m :=
  h.mono fun _ _ ⟨he, m, hm⟩ => ⟨he, n + m, by rw [hm, World.drewN_drewN]⟩
theorem quiet_dr1 {P : Program} {f : FuncId} {args : Array Value} {w : World} {d n : Nat} {v : Value}
    (h : Calls P f args (w.drewN (d + n)) fun e w' => e = .returned v ∧ Dr (w.drewN (d + n)) w') : Calls P f args (w.drewN (d + n)) fun e w'' => e = .returned v ∧ ∃ m, w'' = w.drewN (d + m) :=
  h.mono fun _ _ ⟨he, m, hm⟩ => ⟨he, n + m, by rw [hm, World.drewN_drewN, Nat.add_assoc]⟩

/-- a world behind w: more blocks, draws -/
structure After (w : World) where
  W : World
  gr : Gr w W
instance (w : World) : Inhabited (After w) := ⟨⟨w, Gr.refl w⟩⟩
theorem wp_region_after {P : Program} {id : Nat} {Q : Exit → Act → World → Prop} {a : Act} {w : World} {l : List Oper} (hm : P.follows .mixedOrders = true) (hB : Region.lexB .any l.toArray = true)
    (h : wpQuiet P l.toArray (fun w' => ∃ p : After w, w' = p.W) (fun a' => ∀ w', (∃ p : After w, w' = p.W) → Q .normal a' w') l a) : (Code.region id l.toArray true).wp P Q a w :=
  wp_region_quiet (C := fun w' => ∃ p : After w, w' = p.W) hm hB ⟨⟨w.drew, (Gr.refl w).drew⟩, rfl⟩ (by simpa using h)
theorem after_gr {P : Program} {f : FuncId} {args : Array Value} {w : World} {p : After w} {v : Value}
    (h : Calls P f args p.W fun e w' => e = .returned v ∧ Gr p.W w') : Calls P f args p.W fun e w'' => e = .returned v ∧ ∃ q : After w, w'' = q.W :=
  h.mono fun _ w'' ⟨he, hg⟩ => ⟨he, ⟨w'', p.gr.trans hg⟩, rfl⟩
theorem after_dr {P : Program} {f : FuncId} {args : Array Value} {w : World} {p : After w} {v : Value}
    (h : Calls P f args p.W fun e w' => e = .returned v ∧ Dr p.W w') : Calls P f args p.W fun e w'' => e = .returned v ∧ ∃ q : After w, w'' = q.W :=
  h.mono fun _ w'' ⟨he, hg⟩ => ⟨he, ⟨w'', p.gr.trans hg.gr⟩, rfl⟩
theorem after_same {P : Program} {f : FuncId} {args : Array Value} {w : World} {p : After w} {v : Value}
    (h : Calls P f args p.W fun e w' => e = .returned v ∧ p.W = w') : Calls P f args p.W fun e w'' => e = .returned v ∧ ∃ q : After w, w'' = q.W :=
  h.mono fun _ _ ⟨he, hg⟩ => ⟨he, p, hg.symm⟩
theorem After.cell {w : World} {b o : Nat} {v : Value} (h : w.cell? ⟨b, o, none⟩ = some v) : ∀ p : After w, p.W.cell? ⟨b, o, none⟩ = some v := fun p => by
  have hb : b < w.heap.size := by
    rcases Nat.lt_or_ge b w.heap.size with k | k
    · exact k
    · unfold World.cell? at h
      rw [show w.heap[b]? = none from Array.getElem?_eq_none k] at h
      simp at h
  rw [p.gr.cell hb, h]
theorem Gr.keep {w w' : World} (hg : Gr w w') {b o : Nat} {v : Value} (h : w.cell? ⟨b, o, none⟩ = some v) : w'.cell? ⟨b, o, none⟩ = some v := After.cell h ⟨w', hg⟩

/-- a text of a string value -/
abbrev Tx (s : ByteArray) : Str.Txt := s.data.toList

theorem tx_length (s : ByteArray) : (Tx s).length = s.size := by rw [Tx, Array.length_toList]; rfl
theorem tx_get (s : ByteArray) (k : Nat) (h : k < s.size) : (Tx s).getD k 0 = s[k] := by
  have h' : k < s.data.toList.length := by rw [Array.length_toList]; exact h
  rw [Tx, List.getD_eq_getElem?_getD, List.getElem?_eq_getElem h']; rfl

theorem tx_extract (s : ByteArray) (n : Nat) : Tx (s.extract 0 n) = (Tx s).take n := by
  rw [Tx, Tx, ByteArray.data_extract]; simp
theorem toList_tx (s : ByteArray) : s.toList = Tx s := ByteArray.toList_eq s
theorem common_hit {a b : ByteArray} {k : Nat} (hk : k ≤ Str.common (Tx a) (Tx b)) (h1 : k < a.size) (h2 : k < b.size) (h : ((a[k].toNat : Int) != (b[k].toNat : Int)) = true) :
    Str.common (Tx a) (Tx b) = k := by
  refine Str.common_eq hk (.inr (.inr ?_))
  rw [tx_get a k h1, tx_get b k h2]
  intro e; rw [e] at h; simp at h
theorem common_next {a b : ByteArray} {k : Nat} (hk : k ≤ Str.common (Tx a) (Tx b)) (h1 : k < a.size) (h2 : k < b.size) (h : ((a[k].toNat : Int) != (b[k].toNat : Int)) = false) :
    k + 1 ≤ Str.common (Tx a) (Tx b) := by
  refine Str.common_ge hk (by rw [tx_length]; exact h1) (by rw [tx_length]; exact h2) ?_
  rw [tx_get a k h1, tx_get b k h2]
  have h' : (a[k].toNat : Int) = (b[k].toNat : Int) := by simpa using h
  exact UInt8.toNat_inj.1 (by omega)

set_option maxHeartbeats 400000 in
theorem common_any (a b : ByteArray) (w : World) (ha : a.size ≤ maxLen) (hb : b.size ≤ maxLen) :
    Calls Tryd.prog 51 #[.string a, .string b] w fun e w' => e = .returned (.int .i64 (Str.common (Tx a) (Tx b))) ∧ Dr w w' := by
  unfold maxLen at ha hb
  go_enter Tryd.func51, Tryd.ntmps51
  go_wp2
  all_goals
    go_loopw [5, 11] (fun n i wr => ∃ k : Nat, k ≤ a.size ∧ k ≤ b.size ∧ i = .int .i64 k ∧ n = .int .i64 k ∧ k ≤ Str.common (Tx a) (Tx b) ∧ ∃ d, wr = w.drewN d) (fun _ i _ => a.size - (intOf i).toNat)
    case atStart => exact ⟨0, Nat.zero_le _, Nat.zero_le _, rfl, rfl, Nat.zero_le _, 0, rfl⟩
    case round =>
      obtain ⟨k, hka, hkb, rfl, rfl, hkc, d, rfl⟩ := hrel
      by_cases hlt : k < a.size ∧ k < b.size
      · obtain ⟨h1, h2⟩ := hlt
        go_wp2
        go_quiet (fail)
        go_wp2
        · go_ret
          exact ⟨by rw [common_hit hkc h1 h2 (by assumption)]; rfl, (Dr.step ⟨d, rfl⟩ _)⟩
        · go_roundw
          case rel => exact ⟨k + 1, h1, h2, by go_num, by go_num, common_next hkc h1 h2 (by assumption), d + nq, rfl⟩
          case measure => simp [intOf]; omega
      · have hfin : Str.common (Tx a) (Tx b) = k := Str.common_eq hkc (by rw [tx_length, tx_length]; omega)
        have Hfin := Lib.hid hfin
        clear hfin
        go_wp2
        go_ret
        exact ⟨by rw [Hfin.out]; rfl, ⟨d, rfl⟩⟩
end Go.Proofs.YtfejdbcfcpmdiaaDoor

namespace Go.Proofs.YtfejdbcfcpmdiaaDoor
set_option linter.unusedVariables false
open Go.RowKit

/-- may a text be a key? -/
def rightB (s : ByteArray) : Bool := decide (1 ≤ s.size ∧ s.size ≤ 16)

theorem ret_bool {a b : Bool} (h : a = b) : Ending.returned (.bool a) = .returned (.bool b) := by rw [h]
theorem ret_int {k : IntKind} {a b : Int} (h : a = b) : Ending.returned (.int k a) = .returned (.int k b) := by rw [h]

set_option maxHeartbeats 400000 in
theorem right_any (s : ByteArray) (w : World) (hs : s.size ≤ maxLen) :
    Calls Tryd.prog 43 #[.string s] w fun e w' => e = .returned (.bool (rightB s)) ∧ Dr w w' := by
  unfold maxLen at hs
  go_enter Tryd.func43, Tryd.ntmps43
  go_wp2
  all_goals
    go_ret
    refine ⟨ret_bool ?_, Dr.refl _⟩
    rw [Bool.eq_iff_iff]; simp [rightB]; omega

set_option maxHeartbeats 400000 in
theorem refRight_any (s : ByteArray) (w : World) (hs : s.size ≤ maxLen) :
    Calls Tryd.prog 52 #[.string s] w fun e w' => e = .returned (.bool (rightB s)) ∧ Dr w w' := by
  unfold maxLen at hs
  go_enter Tryd.func52, Tryd.ntmps52
  go_wp2
  all_goals
    go_ret
    refine ⟨ret_bool ?_, Dr.refl _⟩
    rw [Bool.eq_iff_iff]; simp [rightB]; omega

theorem u8_lt {x y : UInt8} : ((x.toNat : Int) < (y.toNat : Int)) ↔ x < y := by rw [UInt8.lt_iff_toNat_lt]; omega

set_option maxHeartbeats 400000 in
theorem compare_any (a b : ByteArray) (w : World) (ha : a.size ≤ maxLen) (hb : b.size ≤ maxLen) :
    Calls Tryd.prog 44 #[.string a, .string b] w fun e w' => e = .returned (.int .i64 (Str.cmp (Tx a) (Tx b))) ∧ Dr w w' := by
  have hc := Str.cmp_of_common (Tx a) (Tx b)
  have hl := Str.common_le_left (Tx a) (Tx b)
  have hr := Str.common_le_right (Tx a) (Tx b)
  rw [tx_length] at hl hr
  rw [tx_length, tx_length] at hc
  have hcall := fun w => common_any a b w ha hb
  unfold maxLen at ha hb
  generalize Str.common (Tx a) (Tx b) = n at *
  generalize hx : Str.cmp (Tx a) (Tx b) = x at *
  clear hx
  have Hc := Lib.hid hc
  have Hcall := Lib.hid hcall
  clear hc hcall
  by_cases h12 : n < a.size ∧ n < b.size
  · obtain ⟨g1, g2⟩ := h12
    go_enter Tryd.func44, Tryd.ntmps44
    go_wp2_with (go_at_call 51; refine (Hcall.out _).mono ?_; rintro e w' ⟨rfl, d, rfl⟩)
    go_quiet (fail)
    go_wp2
    all_goals
      go_ret
      refine ⟨ret_int ?_, Dr.step ⟨d, rfl⟩ _⟩
      have h := Hc.out
      rw [tx_get a n g1, tx_get b n g2, if_neg (by omega), if_neg (by omega), if_neg (by omega)] at h
      rw [h]
      first
        | rw [if_pos (UInt8.lt_iff_toNat_lt.2 (by omega))]
        | rw [if_neg (fun k => by have := UInt8.lt_iff_toNat_lt.1 k; omega)]
  · go_enter Tryd.func44, Tryd.ntmps44
    go_wp2_with (go_at_call 51; refine (Hcall.out _).mono ?_; rintro e w' ⟨rfl, d, rfl⟩)
    all_goals
      go_ret
      refine ⟨ret_int ?_, d, rfl⟩
      simp only [beq_iff_eq, beq_eq_false_iff_ne, ne_eq] at *
      rw [Hc.out]
      first
        | rw [if_pos (by omega)]
        | rw [if_neg (by omega), if_pos (by omega)]
        | rw [if_neg (by omega), if_neg (by omega), if_pos (by omega)]
theorem before_hit {a b : ByteArray} {k : Nat} (hk : k ≤ Str.common (Tx a) (Tx b)) (h1 : k < a.size) (h2 : k < b.size) (h : ((a[k].toNat : Int) != (b[k].toNat : Int)) = true) :
    Str.before (Tx a) (Tx b) = decide ((a[k].toNat : Int) < (b[k].toNat : Int)) := by
  have hc := common_hit hk h1 h2 h
  have h0 := Str.cmp_of_common (Tx a) (Tx b)
  rw [hc, tx_length, tx_length, if_neg (by omega), if_neg (by omega), if_neg (by omega), tx_get a k h1, tx_get b k h2] at h0
  rw [Bool.eq_iff_iff, ← Str.cmp_neg_iff, h0, decide_eq_true_iff, u8_lt]
  split <;> simp [*]
theorem before_end {a b : ByteArray} (hk : b.size ≤ Str.common (Tx a) (Tx b)) : Str.before (Tx a) (Tx b) = false := by
  have hr := Str.common_le_right (Tx a) (Tx b)
  have h0 := Str.cmp_of_common (Tx a) (Tx b)
  rw [tx_length] at hr
  have hc : Str.common (Tx a) (Tx b) = b.size := by omega
  rw [hc, tx_length, tx_length] at h0
  rw [Bool.eq_false_iff, ne_eq, ← Str.cmp_neg_iff, h0]
  by_cases e : b.size = a.size <;> simp [e]
theorem before_short {a b : ByteArray} {k : Nat} (hk : k ≤ Str.common (Tx a) (Tx b)) (h1 : k = a.size) (h2 : k < b.size) : Str.before (Tx a) (Tx b) = true := by
  have hl := Str.common_le_left (Tx a) (Tx b)
  have h0 := Str.cmp_of_common (Tx a) (Tx b)
  rw [tx_length] at hl
  have hc : Str.common (Tx a) (Tx b) = a.size := by omega
  rw [hc, tx_length, tx_length, if_neg (by omega), if_pos rfl] at h0
  rw [← Str.cmp_neg_iff, h0]; omega

set_option maxHeartbeats 400000 in
theorem before_any (a b : ByteArray) (w : World) (ha : a.size ≤ maxLen) (hb : b.size ≤ maxLen) :
    Calls Tryd.prog 46 #[.string a, .string b] w fun e w' => e = .returned (.bool (Str.before (Tx a) (Tx b))) ∧ Dr w w' := by
  unfold maxLen at ha hb
  go_enter Tryd.func46, Tryd.ntmps46
  go_wp2
  go_loopw [5] (fun i wr => ∃ k : Nat, k ≤ a.size ∧ k ≤ b.size ∧ i = .int .i64 k ∧ k ≤ Str.common (Tx a) (Tx b) ∧ ∃ d, wr = w.drewN d) (fun i _ => b.size - (intOf i).toNat)
  case atStart => exact ⟨0, Nat.zero_le _, Nat.zero_le _, rfl, Nat.zero_le _, 0, rfl⟩
  case round =>
    obtain ⟨k, hka, hkb, rfl, hkc, d, rfl⟩ := hrel
    by_cases h2 : k < b.size
    · by_cases h1 : k < a.size
      · have hf : ((k : Int) == (a.size : Int)) = false := by simp; omega
        go_wp2
        go_quiet (fail)
        go_wp2
        · go_quiet (fail)
          go_wp2
          go_ret
          exact ⟨ret_bool ((before_hit hkc h1 h2 (by assumption)).trans (by simp)).symm, Dr.step (Dr.step ⟨d, rfl⟩ _) _⟩
        · go_roundw
          case rel => exact ⟨k + 1, h1, h2, by go_num, common_next hkc h1 h2 (by assumption), d + nq, rfl⟩
          case measure => simp [intOf]; omega
      · have hf : ((k : Int) == (a.size : Int)) = true := by simp; omega
        have hs := Lib.hid (before_short hkc (by omega) h2)
        go_wp2
        go_ret
        exact ⟨ret_bool hs.out.symm, d, rfl⟩
    · have hs := Lib.hid (before_end (a := a) (b := b) (by omega))
      go_wp2
      go_ret
      exact ⟨ret_bool hs.out.symm, d, rfl⟩

/-- is a key in a span? (as the program has it) -/
def inB (low high : ByteArray) (u : Bool) (key : ByteArray) : Bool := decide (Str.cmp (Tx low) (Tx key) ≤ 0) && (u || decide (Str.cmp (Tx key) (Tx high) < 0))
/-- (as the reference has it) -/
def inR (low high : ByteArray) (u : Bool) (key : ByteArray) : Bool := !Str.before (Tx key) (Tx low) && (u || Str.before (Tx key) (Tx high))
theorem inB_eq (low high : ByteArray) (u : Bool) (key : ByteArray) : inB low high u key = inR low high u key := by
  unfold inB inR
  have e1 : decide (Str.cmp (Tx low) (Tx key) ≤ 0) = !Str.before (Tx key) (Tx low) := by
    rw [Bool.eq_iff_iff, decide_eq_true_iff, Bool.not_eq_true', Bool.eq_false_iff, ne_eq, ← Str.cmp_pos_iff]; omega
  have e2 : decide (Str.cmp (Tx key) (Tx high) < 0) = Str.before (Tx key) (Tx high) := by
    rw [Bool.eq_iff_iff, decide_eq_true_iff, Str.cmp_neg_iff]
  rw [e1, e2]

/-- what lies between two texts, if the first stands ahead -/
def btw (a b : ByteArray) : ByteArray := b.extract 0 (Str.common (Tx a) (Tx b) + 1)

theorem cmp_neg_common {a b : ByteArray} (h : Str.cmp (Tx a) (Tx b) < 0) : Str.common (Tx a) (Tx b) < b.size := by
  have h0 := Str.cmp_of_common (Tx a) (Tx b)
  have hr := Str.common_le_right (Tx a) (Tx b)
  rw [tx_length, tx_length] at h0
  rw [tx_length] at hr
  rcases Nat.lt_or_ge (Str.common (Tx a) (Tx b)) b.size with k | k
  · exact k
  · have e : Str.common (Tx a) (Tx b) = b.size := by omega
    rw [e] at h0
    by_cases e2 : b.size = a.size
    · rw [if_pos ⟨e2, rfl⟩] at h0; omega
    · rw [if_neg (by omega), if_neg (by omega), if_pos rfl] at h0; omega

/-- the error of a code -/
abbrev errV (n : Int) : Value := .iface 58 (.int .i64 n)


end Go.Proofs.YtfejdbcfcpmdiaaDoor
