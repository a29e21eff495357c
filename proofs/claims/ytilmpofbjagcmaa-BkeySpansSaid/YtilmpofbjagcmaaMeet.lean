import Derived.Test.YtilmpofbjagcmaaLawOrder
namespace Go.Proofs.Ytilmpofbjagcmaa
set_option linter.unusedVariables false
open Go.BigFrame Go.RowKit Go.ChangeShapes Go.WideShapes Go.ChangeAt

/-- a span -/
structure Sp where
  low : ByteArray
  high : ByteArray
  unb : Bool
abbrev Sp.v (s : Sp) : Value := .agg #[.string s.low, .string s.high, .bool s.unb]
def Sp.zero : Sp := ⟨ByteArray.empty, ByteArray.empty, false⟩
def meetLow (a b : Sp) : ByteArray := if 0 < Str.cmp (Tx b.low) (Tx a.low) then b.low else a.low
def meetHigh (a b : Sp) : ByteArray := if a.unb then b.high else if b.unb || decide (Str.cmp (Tx a.high) (Tx b.high) < 0) then a.high else b.high
def meet (a b : Sp) : Sp × Bool :=
  if a.unb && b.unb then (⟨meetLow a b, ByteArray.empty, true⟩, true)
  else if 0 ≤ Str.cmp (Tx (meetLow a b)) (Tx (meetHigh a b)) then (Sp.zero, false)
  else (⟨meetLow a b, meetHigh a b, false⟩, true)

/-- x is the greater one of two lows -/
def LowIs (la lb x : ByteArray) : Prop := (0 < Str.cmp (Tx lb) (Tx la) ∧ x = lb) ∨ (Str.cmp (Tx lb) (Tx la) ≤ 0 ∧ x = la)
theorem LowIs.eq {la ha lb hb x : ByteArray} {ua ub : Bool} (h : LowIs la lb x) : meetLow ⟨la, ha, ua⟩ ⟨lb, hb, ub⟩ = x := by
  unfold meetLow
  rcases h with ⟨h, rfl⟩ | ⟨h, rfl⟩
  · rw [if_pos h]
  · exact if_neg (by show ¬ 0 < Str.cmp (Tx lb) (Tx x); omega)
theorem meet_ff (la ha lb hb x y : ByteArray) (hx : LowIs la lb x) (hy : (Str.cmp (Tx ha) (Tx hb) < 0 ∧ y = ha) ∨ (0 ≤ Str.cmp (Tx ha) (Tx hb) ∧ y = hb)) :
    (0 ≤ Str.cmp (Tx x) (Tx y) → meet ⟨la, ha, false⟩ ⟨lb, hb, false⟩ = (Sp.zero, false)) ∧ (Str.cmp (Tx x) (Tx y) < 0 → meet ⟨la, ha, false⟩ ⟨lb, hb, false⟩ = (⟨x, y, false⟩, true)) := by
  have e : meetHigh ⟨la, ha, false⟩ ⟨lb, hb, false⟩ = y := by
    unfold meetHigh
    rcases hy with ⟨h, rfl⟩ | ⟨h, rfl⟩
    · simp [h]
    · simp; omega
  unfold meet
  rw [hx.eq, e]
  exact ⟨fun h => by rw [if_neg (by simp), if_pos h], fun h => by rw [if_neg (by simp), if_neg (by omega)]⟩
theorem meet_tf (la ha lb hb x y : ByteArray) (hx : LowIs la lb x) (hy : y = hb) :
    (0 ≤ Str.cmp (Tx x) (Tx y) → meet ⟨la, ha, true⟩ ⟨lb, hb, false⟩ = (Sp.zero, false)) ∧ (Str.cmp (Tx x) (Tx y) < 0 → meet ⟨la, ha, true⟩ ⟨lb, hb, false⟩ = (⟨x, y, false⟩, true)) := by
  have e : meetHigh ⟨la, ha, true⟩ ⟨lb, hb, false⟩ = y := by rw [hy]; rfl
  unfold meet
  rw [hx.eq, e]
  exact ⟨fun h => by rw [if_neg (by simp), if_pos h], fun h => by rw [if_neg (by simp), if_neg (by omega)]⟩
theorem meet_ft (la ha lb hb x y : ByteArray) (hx : LowIs la lb x) (hy : y = ha) :
    (0 ≤ Str.cmp (Tx x) (Tx y) → meet ⟨la, ha, false⟩ ⟨lb, hb, true⟩ = (Sp.zero, false)) ∧ (Str.cmp (Tx x) (Tx y) < 0 → meet ⟨la, ha, false⟩ ⟨lb, hb, true⟩ = (⟨x, y, false⟩, true)) := by
  have e : meetHigh ⟨la, ha, false⟩ ⟨lb, hb, true⟩ = y := by rw [hy]; rfl
  unfold meet
  rw [hx.eq, e]
  exact ⟨fun h => by rw [if_neg (by simp), if_pos h], fun h => by rw [if_neg (by simp), if_neg (by omega)]⟩
theorem meet_tt (la ha lb hb x : ByteArray) (hx : LowIs la lb x) : meet ⟨la, ha, true⟩ ⟨lb, hb, true⟩ = (⟨x, ByteArray.empty, true⟩, true) := by
  unfold meet
  rw [hx.eq]; rfl

set_option maxRecDepth 100000 in
set_option maxHeartbeats 2000000 in
theorem meet_any (la ha lb hb : ByteArray) (ua ub : Bool) (w : World) (h1 : la.size ≤ maxLen) (h2 : ha.size ≤ maxLen) (h3 : lb.size ≤ maxLen) (h4 : hb.size ≤ maxLen) :
    Calls Try.prog 23 #[Sp.v ⟨la, ha, ua⟩, Sp.v ⟨lb, hb, ub⟩] w fun e w' => e = .returned (.tuple #[Sp.v (meet ⟨la, ha, ua⟩ ⟨lb, hb, ub⟩).1, .bool (meet ⟨la, ha, ua⟩ ⟨lb, hb, ub⟩).2]) ∧ Gr w w' := by
  generalize hr : meet ⟨la, ha, ua⟩ ⟨lb, hb, ub⟩ = r
  have Hr := Lib.hid hr
  clear hr
  unfold Sp.v
  cases ua <;> cases ub
  · go_enter Try.func23, Try.ntmps23
    go_wp2_with (go_at_call 15; (with_reducible refine (compare_any _ _ _ (by assumption) (by assumption)).mono ?_); rintro e w' ⟨rfl, d, rfl⟩)
    all_goals first
      | (have e := (meet_ff la ha lb hb lb ha (.inl ⟨by assumption, rfl⟩) (.inl ⟨by assumption, rfl⟩)).1 (by assumption); rw [Hr.out] at e; subst e; exact bodyPost_ret (v := .tuple #[.agg #[.string ⟨#[]⟩, .string ⟨#[]⟩, .bool false], .bool false]) (by simp [results, Try.results23, go_sem]) rfl ⟨rfl, by repeat (first | with_reducible exact Gr.refl _ | with_reducible refine Gr.drewN ?_ _ | with_reducible refine Gr.drew ?_ | with_reducible refine Gr.alloc ?_ _ | with_reducible refine Gr.setCell ?_ ?_ _ | (with_reducible refine Gr.trans ?_ (by assumption)) | omega | (dsimp only; omega))⟩)
      | (have e := (meet_ff la ha lb hb lb ha (.inl ⟨by assumption, rfl⟩) (.inl ⟨by assumption, rfl⟩)).2 (by assumption); rw [Hr.out] at e; subst e; exact bodyPost_ret (v := .tuple #[.agg #[.string lb, .string ha, .bool false], .bool true]) (by simp [results, Try.results23, go_sem]) rfl ⟨rfl, by repeat (first | with_reducible exact Gr.refl _ | with_reducible refine Gr.drewN ?_ _ | with_reducible refine Gr.drew ?_ | with_reducible refine Gr.alloc ?_ _ | with_reducible refine Gr.setCell ?_ ?_ _ | (with_reducible refine Gr.trans ?_ (by assumption)) | omega | (dsimp only; omega))⟩)
      | (have e := (meet_ff la ha lb hb lb hb (.inl ⟨by assumption, rfl⟩) (.inr ⟨by assumption, rfl⟩)).1 (by assumption); rw [Hr.out] at e; subst e; exact bodyPost_ret (v := .tuple #[.agg #[.string ⟨#[]⟩, .string ⟨#[]⟩, .bool false], .bool false]) (by simp [results, Try.results23, go_sem]) rfl ⟨rfl, by repeat (first | with_reducible exact Gr.refl _ | with_reducible refine Gr.drewN ?_ _ | with_reducible refine Gr.drew ?_ | with_reducible refine Gr.alloc ?_ _ | with_reducible refine Gr.setCell ?_ ?_ _ | (with_reducible refine Gr.trans ?_ (by assumption)) | omega | (dsimp only; omega))⟩)
      | (have e := (meet_ff la ha lb hb lb hb (.inl ⟨by assumption, rfl⟩) (.inr ⟨by assumption, rfl⟩)).2 (by assumption); rw [Hr.out] at e; subst e; exact bodyPost_ret (v := .tuple #[.agg #[.string lb, .string hb, .bool false], .bool true]) (by simp [results, Try.results23, go_sem]) rfl ⟨rfl, by repeat (first | with_reducible exact Gr.refl _ | with_reducible refine Gr.drewN ?_ _ | with_reducible refine Gr.drew ?_ | with_reducible refine Gr.alloc ?_ _ | with_reducible refine Gr.setCell ?_ ?_ _ | (with_reducible refine Gr.trans ?_ (by assumption)) | omega | (dsimp only; omega))⟩)
      | (have e := (meet_ff la ha lb hb la ha (.inr ⟨by assumption, rfl⟩) (.inl ⟨by assumption, rfl⟩)).1 (by assumption); rw [Hr.out] at e; subst e; exact bodyPost_ret (v := .tuple #[.agg #[.string ⟨#[]⟩, .string ⟨#[]⟩, .bool false], .bool false]) (by simp [results, Try.results23, go_sem]) rfl ⟨rfl, by repeat (first | with_reducible exact Gr.refl _ | with_reducible refine Gr.drewN ?_ _ | with_reducible refine Gr.drew ?_ | with_reducible refine Gr.alloc ?_ _ | with_reducible refine Gr.setCell ?_ ?_ _ | (with_reducible refine Gr.trans ?_ (by assumption)) | omega | (dsimp only; omega))⟩)
      | (have e := (meet_ff la ha lb hb la ha (.inr ⟨by assumption, rfl⟩) (.inl ⟨by assumption, rfl⟩)).2 (by assumption); rw [Hr.out] at e; subst e; exact bodyPost_ret (v := .tuple #[.agg #[.string la, .string ha, .bool false], .bool true]) (by simp [results, Try.results23, go_sem]) rfl ⟨rfl, by repeat (first | with_reducible exact Gr.refl _ | with_reducible refine Gr.drewN ?_ _ | with_reducible refine Gr.drew ?_ | with_reducible refine Gr.alloc ?_ _ | with_reducible refine Gr.setCell ?_ ?_ _ | (with_reducible refine Gr.trans ?_ (by assumption)) | omega | (dsimp only; omega))⟩)
      | (have e := (meet_ff la ha lb hb la hb (.inr ⟨by assumption, rfl⟩) (.inr ⟨by assumption, rfl⟩)).1 (by assumption); rw [Hr.out] at e; subst e; exact bodyPost_ret (v := .tuple #[.agg #[.string ⟨#[]⟩, .string ⟨#[]⟩, .bool false], .bool false]) (by simp [results, Try.results23, go_sem]) rfl ⟨rfl, by repeat (first | with_reducible exact Gr.refl _ | with_reducible refine Gr.drewN ?_ _ | with_reducible refine Gr.drew ?_ | with_reducible refine Gr.alloc ?_ _ | with_reducible refine Gr.setCell ?_ ?_ _ | (with_reducible refine Gr.trans ?_ (by assumption)) | omega | (dsimp only; omega))⟩)
      | (have e := (meet_ff la ha lb hb la hb (.inr ⟨by assumption, rfl⟩) (.inr ⟨by assumption, rfl⟩)).2 (by assumption); rw [Hr.out] at e; subst e; exact bodyPost_ret (v := .tuple #[.agg #[.string la, .string hb, .bool false], .bool true]) (by simp [results, Try.results23, go_sem]) rfl ⟨rfl, by repeat (first | with_reducible exact Gr.refl _ | with_reducible refine Gr.drewN ?_ _ | with_reducible refine Gr.drew ?_ | with_reducible refine Gr.alloc ?_ _ | with_reducible refine Gr.setCell ?_ ?_ _ | (with_reducible refine Gr.trans ?_ (by assumption)) | omega | (dsimp only; omega))⟩)
  · go_enter Try.func23, Try.ntmps23
    go_wp2_with (go_at_call 15; (with_reducible refine (compare_any _ _ _ (by assumption) (by assumption)).mono ?_); rintro e w' ⟨rfl, d, rfl⟩)
    all_goals first
      | (have e := (meet_ft la ha lb hb lb ha (.inl ⟨by assumption, rfl⟩) rfl).1 (by assumption); rw [Hr.out] at e; subst e; exact bodyPost_ret (v := .tuple #[.agg #[.string ⟨#[]⟩, .string ⟨#[]⟩, .bool false], .bool false]) (by simp [results, Try.results23, go_sem]) rfl ⟨rfl, by repeat (first | with_reducible exact Gr.refl _ | with_reducible refine Gr.drewN ?_ _ | with_reducible refine Gr.drew ?_ | with_reducible refine Gr.alloc ?_ _ | with_reducible refine Gr.setCell ?_ ?_ _ | (with_reducible refine Gr.trans ?_ (by assumption)) | omega | (dsimp only; omega))⟩)
      | (have e := (meet_ft la ha lb hb lb ha (.inl ⟨by assumption, rfl⟩) rfl).2 (by assumption); rw [Hr.out] at e; subst e; exact bodyPost_ret (v := .tuple #[.agg #[.string lb, .string ha, .bool false], .bool true]) (by simp [results, Try.results23, go_sem]) rfl ⟨rfl, by repeat (first | with_reducible exact Gr.refl _ | with_reducible refine Gr.drewN ?_ _ | with_reducible refine Gr.drew ?_ | with_reducible refine Gr.alloc ?_ _ | with_reducible refine Gr.setCell ?_ ?_ _ | (with_reducible refine Gr.trans ?_ (by assumption)) | omega | (dsimp only; omega))⟩)
      | (have e := (meet_ft la ha lb hb la ha (.inr ⟨by assumption, rfl⟩) rfl).1 (by assumption); rw [Hr.out] at e; subst e; exact bodyPost_ret (v := .tuple #[.agg #[.string ⟨#[]⟩, .string ⟨#[]⟩, .bool false], .bool false]) (by simp [results, Try.results23, go_sem]) rfl ⟨rfl, by repeat (first | with_reducible exact Gr.refl _ | with_reducible refine Gr.drewN ?_ _ | with_reducible refine Gr.drew ?_ | with_reducible refine Gr.alloc ?_ _ | with_reducible refine Gr.setCell ?_ ?_ _ | (with_reducible refine Gr.trans ?_ (by assumption)) | omega | (dsimp only; omega))⟩)
      | (have e := (meet_ft la ha lb hb la ha (.inr ⟨by assumption, rfl⟩) rfl).2 (by assumption); rw [Hr.out] at e; subst e; exact bodyPost_ret (v := .tuple #[.agg #[.string la, .string ha, .bool false], .bool true]) (by simp [results, Try.results23, go_sem]) rfl ⟨rfl, by repeat (first | with_reducible exact Gr.refl _ | with_reducible refine Gr.drewN ?_ _ | with_reducible refine Gr.drew ?_ | with_reducible refine Gr.alloc ?_ _ | with_reducible refine Gr.setCell ?_ ?_ _ | (with_reducible refine Gr.trans ?_ (by assumption)) | omega | (dsimp only; omega))⟩)
  · go_enter Try.func23, Try.ntmps23
    go_wp2_with (go_at_call 15; (with_reducible refine (compare_any _ _ _ (by assumption) (by assumption)).mono ?_); rintro e w' ⟨rfl, d, rfl⟩)
    all_goals first
      | (have e := (meet_tf la ha lb hb lb hb (.inl ⟨by assumption, rfl⟩) rfl).1 (by assumption); rw [Hr.out] at e; subst e; exact bodyPost_ret (v := .tuple #[.agg #[.string ⟨#[]⟩, .string ⟨#[]⟩, .bool false], .bool false]) (by simp [results, Try.results23, go_sem]) rfl ⟨rfl, by repeat (first | with_reducible exact Gr.refl _ | with_reducible refine Gr.drewN ?_ _ | with_reducible refine Gr.drew ?_ | with_reducible refine Gr.alloc ?_ _ | with_reducible refine Gr.setCell ?_ ?_ _ | (with_reducible refine Gr.trans ?_ (by assumption)) | omega | (dsimp only; omega))⟩)
      | (have e := (meet_tf la ha lb hb lb hb (.inl ⟨by assumption, rfl⟩) rfl).2 (by assumption); rw [Hr.out] at e; subst e; exact bodyPost_ret (v := .tuple #[.agg #[.string lb, .string hb, .bool false], .bool true]) (by simp [results, Try.results23, go_sem]) rfl ⟨rfl, by repeat (first | with_reducible exact Gr.refl _ | with_reducible refine Gr.drewN ?_ _ | with_reducible refine Gr.drew ?_ | with_reducible refine Gr.alloc ?_ _ | with_reducible refine Gr.setCell ?_ ?_ _ | (with_reducible refine Gr.trans ?_ (by assumption)) | omega | (dsimp only; omega))⟩)
      | (have e := (meet_tf la ha lb hb la hb (.inr ⟨by assumption, rfl⟩) rfl).1 (by assumption); rw [Hr.out] at e; subst e; exact bodyPost_ret (v := .tuple #[.agg #[.string ⟨#[]⟩, .string ⟨#[]⟩, .bool false], .bool false]) (by simp [results, Try.results23, go_sem]) rfl ⟨rfl, by repeat (first | with_reducible exact Gr.refl _ | with_reducible refine Gr.drewN ?_ _ | with_reducible refine Gr.drew ?_ | with_reducible refine Gr.alloc ?_ _ | with_reducible refine Gr.setCell ?_ ?_ _ | (with_reducible refine Gr.trans ?_ (by assumption)) | omega | (dsimp only; omega))⟩)
      | (have e := (meet_tf la ha lb hb la hb (.inr ⟨by assumption, rfl⟩) rfl).2 (by assumption); rw [Hr.out] at e; subst e; exact bodyPost_ret (v := .tuple #[.agg #[.string la, .string hb, .bool false], .bool true]) (by simp [results, Try.results23, go_sem]) rfl ⟨rfl, by repeat (first | with_reducible exact Gr.refl _ | with_reducible refine Gr.drewN ?_ _ | with_reducible refine Gr.drew ?_ | with_reducible refine Gr.alloc ?_ _ | with_reducible refine Gr.setCell ?_ ?_ _ | (with_reducible refine Gr.trans ?_ (by assumption)) | omega | (dsimp only; omega))⟩)
  · go_enter Try.func23, Try.ntmps23
    go_wp2_with (go_at_call 15; (with_reducible refine (compare_any _ _ _ (by assumption) (by assumption)).mono ?_); rintro e w' ⟨rfl, d, rfl⟩)
    all_goals first
      | (have e := meet_tt la ha lb hb lb (.inl ⟨by assumption, rfl⟩); rw [Hr.out] at e; subst e; exact bodyPost_ret (v := .tuple #[.agg #[.string lb, .string ⟨#[]⟩, .bool true], .bool true]) (by simp [results, Try.results23, go_sem]) rfl ⟨rfl, by repeat (first | with_reducible exact Gr.refl _ | with_reducible refine Gr.drewN ?_ _ | with_reducible refine Gr.drew ?_ | with_reducible refine Gr.alloc ?_ _ | with_reducible refine Gr.setCell ?_ ?_ _ | (with_reducible refine Gr.trans ?_ (by assumption)) | omega | (dsimp only; omega))⟩)
      | (have e := meet_tt la ha lb hb la (.inr ⟨by assumption, rfl⟩); rw [Hr.out] at e; subst e; exact bodyPost_ret (v := .tuple #[.agg #[.string la, .string ⟨#[]⟩, .bool true], .bool true]) (by simp [results, Try.results23, go_sem]) rfl ⟨rfl, by repeat (first | with_reducible exact Gr.refl _ | with_reducible refine Gr.drewN ?_ _ | with_reducible refine Gr.drew ?_ | with_reducible refine Gr.alloc ?_ _ | with_reducible refine Gr.setCell ?_ ?_ _ | (with_reducible refine Gr.trans ?_ (by assumption)) | omega | (dsimp only; omega))⟩)
end Go.Proofs.Ytilmpofbjagcmaa
