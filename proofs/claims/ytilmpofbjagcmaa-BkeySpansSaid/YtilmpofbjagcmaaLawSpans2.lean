import Derived.Test.YtilmpofbjagcmaaLawSpans
namespace Go.Proofs.Ytilmpofbjagcmaa
set_option linter.unusedVariables false
open Go.BigFrame Go.RowKit Go.ChangeShapes Go.WideShapes Go.ChangeAt

theorem cells5_at (w : World) (n : Nat) (hn : n = w.heap.size) (a b c d e : ByteArray) : ∀ i, i < 5 → (w.alloc (.cells #[.string a, .string b, .string c, .string d, .string e] 9)).cell? ⟨n, i, none⟩ = some (.string (sAt [a, b, c, d, e] i)) := by
  intro i hi
  rw [World.cell?_alloc_at (hn := hn)]
  match i, hi with
  | 0, _ => rfl
  | 1, _ => rfl
  | 2, _ => rfl
  | 3, _ => rfl
  | 4, _ => rfl

set_option maxRecDepth 100000 in
set_option maxHeartbeats 2000000 in
theorem spans_in (la ha lb hb k ml mh : ByteArray) (ua ub mu ok : Bool) (w : World) (h1 : la.size ≤ maxLen) (h2 : ha.size ≤ maxLen) (h3 : lb.size ≤ maxLen) (h4 : hb.size ≤ maxLen) (h5 : k.size ≤ maxLen)
    (h6 : ml.size ≤ maxLen) (h7 : mh.size ≤ maxLen) (hf : fewB [la, ha, lb, hb, k] = true)
    (M1 : Hid (∀ w, Calls Try.prog 23 #[.agg #[.string la, .string ha, .bool ua], .agg #[.string lb, .string hb, .bool ub]] w fun e w' => e = .returned (.tuple #[.agg #[.string ml, .string mh, .bool mu], .bool ok]) ∧ Gr w w'))
    (M2 : Hid (∀ w, Calls Try.prog 23 #[.agg #[.string lb, .string hb, .bool ub], .agg #[.string la, .string ha, .bool ua]] w fun e w' => e = .returned (.tuple #[.agg #[.string ml, .string mh, .bool mu], .bool ok]) ∧ Gr w w'))
    (x y z : Bool)
    (I1 : Hid (∀ w, Calls Try.prog 21 #[.string la, .string ha, .bool ua, .string k] w fun e w' => e = .returned (.bool x) ∧ Dr w w'))
    (I2 : Hid (∀ w, Calls Try.prog 21 #[.string lb, .string hb, .bool ub, .string k] w fun e w' => e = .returned (.bool y) ∧ Dr w w'))
    (I3 : Hid (∀ w, Calls Try.prog 21 #[.string ml, .string mh, .bool mu, .string k] w fun e w' => e = .returned (.bool z) ∧ Dr w w'))
    (J1 : Hid (∀ w, Calls Try.prog 22 #[.string la, .string ha, .bool ua, .string k] w fun e w' => e = .returned (.bool x) ∧ Dr w w'))
    (J2 : Hid (∀ w, Calls Try.prog 22 #[.string lb, .string hb, .bool ub, .string k] w fun e w' => e = .returned (.bool y) ∧ Dr w w'))
    (hz : (ok && z) = (x && y)) (hno : ok = false → ml = ByteArray.empty ∧ mh = ByteArray.empty ∧ mu = false) (hu : mu = true → mh = ByteArray.empty) :
    Calls Try.prog 8 #[.agg #[.string la, .string ha, .bool ua], .agg #[.string lb, .string hb, .bool ub], .string k] w fun e w' => e = .returned (.bool true) ∧ Gr w w' := by
  have hfew := few_any (w.heap.size + 1 + 1) 5 [la, ha, lb, hb, k] rfl (by omega)
  rw [hf] at hfew
  have Hfew := Lib.hid hfew
  have hm : (ok = false ∧ ml = ByteArray.empty ∧ mh = ByteArray.empty ∧ mu = false) ∨ (ok = true ∧ mu = true ∧ mh = ByteArray.empty) ∨ (ok = true ∧ mu = false) := by
    cases ok
    · exact .inl ⟨rfl, hno rfl⟩
    · cases mu
      · exact .inr (.inr ⟨rfl, rfl⟩)
      · exact .inr (.inl ⟨rfl, rfl, hu rfl⟩)
  clear hfew hf hno hu
  rcases hm with ⟨rfl, rfl, rfl, rfl⟩ | ⟨rfl, rfl, rfl⟩ | ⟨rfl, rfl⟩
  all_goals
    have Hz := Lib.hid hz
    clear hz
    go_enter Try.func8, Try.ntmps8
    go_wp2_with fail
    refine (Hfew.out _ (cells5_at _ _ (by simp) _ _ _ _ _)).mono ?_
    rintro e w' ⟨rfl, rfl⟩
    go_wp2_with fail
    go_big_quiet ((first | (go_at_call 21; (first | (with_reducible exact quiet_dr1 (I1.out _)) | (with_reducible exact quiet_dr0 (I1.out _)))) | (go_at_call 21; (first | (with_reducible exact quiet_dr1 (I2.out _)) | (with_reducible exact quiet_dr0 (I2.out _))))))
    go_wp2_with (first | (go_at_call 22; (with_reducible refine (J1.out _).mono ?_); rintro e w' ⟨rfl, d, rfl⟩) | (go_at_call 22; (with_reducible refine (J2.out _).mono ?_); rintro e w' ⟨rfl, d, rfl⟩))
    refine (M1.out _).mono ?_
    rintro e w1 ⟨rfl, hg1⟩
    have hc1 := hg1.cells
    have hz1 : w.heap.size < w1.heap.size := by have := hg1.le; simp at this; omega
    have hz2 : w.heap.size + 1 < w1.heap.size := by have := hg1.le; simp at this; omega
    go_wp2_with fail
    refine (M2.out _).mono ?_
    rintro e w2 ⟨rfl, hg2⟩
    have hc2 := hg2.cells
    have hy0 : w1.heap.size < w2.heap.size := by have := hg2.le; simp at this; omega
    have hy1 : w.heap.size < w2.heap.size := by omega
    have hy2 : w.heap.size + 1 < w2.heap.size := by omega
    go_wp2_with (first | (go_at_call 21; (with_reducible refine (I3.out _).mono ?_); rintro e w' ⟨rfl, d, rfl⟩) | (go_at_call 13; (with_reducible refine (awake_any _).mono ?_); rintro e w' ⟨rfl, d, rfl⟩))
    all_goals
      have hz := Hz.out
      go_ret
      refine ⟨ret_bool ?_, by repeat (first | with_reducible exact Gr.refl _ | with_reducible refine Gr.drewN ?_ _ | with_reducible refine Gr.drew ?_ | with_reducible refine Gr.alloc ?_ _ | with_reducible refine Gr.setCell ?_ ?_ _ | (with_reducible refine Gr.trans ?_ (by assumption)) | omega | (dsimp only; omega))⟩
      first
        | rfl
        | (exfalso; clear hc1 hc2 hg1 hg2 M1 M2 I1 I2 I3 J1 J2 Hfew Hz; simp_all; done)

theorem spans_out (la ha lb hb k : ByteArray) (ua ub : Bool) (w : World) (hf : fewB [la, ha, lb, hb, k] = false) :
    Calls Try.prog 8 #[.agg #[.string la, .string ha, .bool ua], .agg #[.string lb, .string hb, .bool ub], .string k] w fun e w' => e = .returned (.bool true) ∧ Gr w w' := by
  have hfew := few_any (w.heap.size + 1 + 1) 5 [la, ha, lb, hb, k] rfl (by omega)
  rw [hf] at hfew
  have Hfew := Lib.hid hfew
  clear hfew hf
  go_enter Try.func8, Try.ntmps8
  go_wp2_with fail
  refine (Hfew.out _ (cells5_at _ _ (by simp) _ _ _ _ _)).mono ?_
  rintro e w' ⟨rfl, rfl⟩
  go_wp2_with (go_at_call 13; (with_reducible refine (awake_any _).mono ?_); rintro e w' ⟨rfl, d, rfl⟩)
  go_ret
  exact ⟨rfl, by repeat (first | with_reducible exact Gr.refl _ | with_reducible refine Gr.drewN ?_ _ | with_reducible refine Gr.drew ?_ | with_reducible refine Gr.alloc ?_ _ | with_reducible refine Gr.setCell ?_ ?_ _ | (with_reducible refine Gr.trans ?_ (by assumption)) | omega | (dsimp only; omega))⟩

theorem spans_walk (la ha : ByteArray) (ua : Bool) (lb hb : ByteArray) (ub : Bool) (k : ByteArray) (w : World) (h1 : la.size ≤ maxLen) (h2 : ha.size ≤ maxLen) (h3 : lb.size ≤ maxLen) (h4 : hb.size ≤ maxLen) (h5 : k.size ≤ maxLen) :
    Calls Try.prog 8 #[.agg #[.string la, .string ha, .bool ua], .agg #[.string lb, .string hb, .bool ub], .string k] w fun e w' => e = .returned (.bool true) ∧ Gr w w' := by
  cases hf : fewB [la, ha, lb, hb, k]
  · exact spans_out la ha lb hb k ua ub w hf
  · have hs := meet_sizes ⟨la, ha, ua⟩ ⟨lb, hb, ub⟩ h1 h2 h3 h4
    have hh := meet_has ⟨la, ha, ua⟩ ⟨lb, hb, ub⟩ k
    have M1 := fun w => meet_any la ha lb hb ua ub w h1 h2 h3 h4
    have M2 := fun w => meet_any lb hb la ha ub ua w h3 h4 h1 h2
    rw [meet_comm ⟨lb, hb, ub⟩ ⟨la, ha, ua⟩] at M2
    have hno := meet_no ⟨la, ha, ua⟩ ⟨lb, hb, ub⟩
    have hu := meet_unb ⟨la, ha, ua⟩ ⟨lb, hb, ub⟩
    revert hs hh M1 M2 hno hu
    generalize meet ⟨la, ha, ua⟩ ⟨lb, hb, ub⟩ = r
    obtain ⟨⟨ml, mh, mu⟩, ok⟩ := r
    intro hs hh M1 M2 hno hu
    refine spans_in la ha lb hb k ml mh ua ub mu ok w h1 h2 h3 h4 h5 hs.1 hs.2 hf (Lib.hid M1) (Lib.hid M2) (inB la ha ua k) (inB lb hb ub k) (inB ml mh mu k)
      (Lib.hid fun w => in_any _ _ _ _ w h1 h2 h5) (Lib.hid fun w => in_any _ _ _ _ w h3 h4 h5) (Lib.hid fun w => in_any _ _ _ _ w hs.1 hs.2 h5)
      (Lib.hid fun w => by rw [inB_eq]; exact refIn_any _ _ _ _ w h1 h2 h5) (Lib.hid fun w => by rw [inB_eq]; exact refIn_any _ _ _ _ w h3 h4 h5) hh ?_ hu
    intro h
    have := hno h
    simp only [Sp.zero, Sp.mk.injEq] at this
    exact this
end Go.Proofs.Ytilmpofbjagcmaa
