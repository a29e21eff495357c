import Derived.Test.YtidfelbaegaphaaDoorRw3
namespace Go.Proofs.YtidfelbaegaphaaDoor
set_option linter.unusedVariables false
open Go.BigFrame Go.RowKit Go.WideShapes

set_option maxHeartbeats 400000 in
theorem refFits_any (k v : ByteArray) (w : World) (h1 : k.size ≤ maxLen) (h2 : v.size ≤ maxLen) :
    Calls Tryd.prog 17 #[.agg #[.string k, .string v]] w fun e w' => e = .returned (.bool (fitsB ⟨k, v⟩)) ∧ Gr w w' := by
  unfold fitsB
  have h2' := h2
  unfold maxLen at h2'
  cases hr : rightB k
  all_goals
    go_enter Tryd.func17, Tryd.ntmps17
    go_wp2_with (go_at_call 35; (with_reducible refine (refRight_any _ _ (by assumption)).mono ?_); rintro e w' ⟨rfl, d, rfl⟩)
    go_ret
    refine ⟨ret_bool ?_, by repeat (first | with_reducible exact Gr.refl _ | with_reducible refine Gr.drewN ?_ _ | with_reducible refine Gr.drew ?_ | with_reducible refine Gr.alloc ?_ _ | with_reducible refine Gr.setCell ?_ ?_ _ | (with_reducible refine Gr.trans ?_ (by assumption)) | omega | (dsimp only; omega))⟩
    first | rfl | (rw [Bool.eq_iff_iff]; simp; omega)

set_option maxRecDepth 100000 in
set_option maxHeartbeats 1000000 in
theorem refRowsRight_any (oa : Option Addr) (n cap : Nat) (l : List Rw) (w : World) (h : RowsAt w oa n cap l) :
    Calls Tryd.prog 45 #[.slice oa n cap] w fun e w' => e = .returned (.bool (rowsOkB l)) ∧ Gr w w' := by
  obtain ⟨b1, off1, ho1, hc1⟩ := h.cells
  have Hc1 := Lib.hid hc1
  have Ho1 := Lib.hid (fun q => (ho1 q).1)
  have H1 := Lib.hid h
  have hn1 := h.cap_le
  have hm1 := h.cap_max
  unfold maxLen at hm1
  clear hc1 ho1 h
  go_enter Tryd.func45, Tryd.ntmps45
  go_wp2
  go_loopw [3] (fun i wr => ∃ k : Nat, k ≤ n ∧ i = .int .i64 k ∧ Hid (∀ j, j < k → fitsB (rAt l j) = true ∧ (0 < j → Str.cmp (Tx (kAt l (j - 1))) (Tx (kAt l j)) < 0)) ∧ Gr w wr) (fun i _ => n - (intOf i).toNat)
  case atStart => exact ⟨0, Nat.zero_le _, rfl, Lib.hid fun j hj => by omega, Gr.refl _⟩
  case round =>
    obtain ⟨k, hk, rfl, hp, hg⟩ := hrel
    by_cases hlt : k < n
    · have hk1 := hg.keep (Hc1.out k hlt).1
      have hk2 := hg.keep (Hc1.out k hlt).2
      have hs1 := (H1.out.sizes k hlt).1
      have hs2 := (H1.out.sizes k hlt).2
      have hI := run_row cap Ho1.out hlt
      have hF := fun w => refFits_any (kAt l k) (vAt l k) w hs1 hs2
      rw [rw_eta] at hF
      by_cases hf : fitsB (rAt l k) = true
      · rw [hf] at hF
        have HF := Lib.hid hF
        have Hf := Lib.hid hf
        clear hF hf
        by_cases h0 : k = 0
        · have hk0 : decide (0 < k) = false := by simp; omega
          have H0 := Lib.hid h0
          clear h0
          go_wp2_with fail
          refine (HF.out _).mono ?_
          rintro e w1 ⟨rfl, hg1⟩
          go_wp2_with fail
          go_big_quiet (fail)
          go_wp2_with fail
          go_roundw
          case rel => exact ⟨k + 1, by omega, by go_num, Lib.hid fun j hj => by
            have h0 := H0.out
            obtain rfl : j = k := by omega
            exact ⟨Hf.out, fun q => absurd q (by omega)⟩, by repeat (first | with_reducible exact Gr.refl _ | with_reducible refine Gr.drewN ?_ _ | with_reducible refine Gr.drew ?_ | with_reducible refine Gr.alloc ?_ _ | with_reducible refine Gr.setCell ?_ ?_ _ | (with_reducible refine Gr.trans ?_ (by assumption)) | omega | (dsimp only; omega))⟩
          case measure => simp [intOf]; omega
        · have hk0 : decide (0 < k) = true := by simp; omega
          have hk3 := hg.keep (Hc1.out (k - 1) (by omega)).1
          have hs3 := (H1.out.sizes (k - 1) (by omega)).1
          have hI2 := fun w => run_rowI cap Ho1.out (k := (k : Int) - 1) (by omega) (by omega) w
          have e1 : ((k : Int) - 1).toNat = k - 1 := by omega
          rw [e1] at hI2
          by_cases hc : Str.before (Tx (kAt l (k - 1))) (Tx (kAt l k)) = true
          · go_wp2_with fail
            refine (HF.out _).mono ?_
            rintro e w1 ⟨rfl, hg1⟩
            have q1 := hg1.keep hk1
            have q3 := hg1.keep hk3
            go_wp2_with fail
            go_big_quiet ((go_at_call 30; (first | (with_reducible exact quiet_dr1 (before_any _ _ _ (by assumption) (by assumption))) | (with_reducible exact quiet_dr0 (before_any _ _ _ (by assumption) (by assumption))))))
            go_wp2_with fail
            go_roundw
            case rel => exact ⟨k + 1, by omega, by go_num, Lib.hid fun j hj => by
              rcases Nat.lt_or_ge j k with q | q
              · exact hp.out j q
              · obtain rfl : j = k := by omega
                exact ⟨Hf.out, fun _ => Str.cmp_neg_iff.2 hc⟩, by repeat (first | with_reducible exact Gr.refl _ | with_reducible refine Gr.drewN ?_ _ | with_reducible refine Gr.drew ?_ | with_reducible refine Gr.alloc ?_ _ | with_reducible refine Gr.setCell ?_ ?_ _ | (with_reducible refine Gr.trans ?_ (by assumption)) | omega | (dsimp only; omega))⟩
            case measure => simp [intOf]; omega
          · have hc' : Str.before (Tx (kAt l (k - 1))) (Tx (kAt l k)) = false := by simpa using hc
            have e := Lib.hid (rowsOkB_no (by rw [H1.out.len]; exact hlt) (.inr ⟨by omega, by
              have : ¬ Str.cmp (Tx (kAt l (k - 1))) (Tx (kAt l k)) < 0 := fun q => hc (Str.cmp_neg_iff.1 q)
              omega⟩))
            clear hc
            go_wp2_with fail
            refine (HF.out _).mono ?_
            rintro e' w1 ⟨rfl, hg1⟩
            have q1 := hg1.keep hk1
            have q3 := hg1.keep hk3
            go_wp2_with fail
            go_big_quiet ((go_at_call 30; (first | (with_reducible exact quiet_dr1 (before_any _ _ _ (by assumption) (by assumption))) | (with_reducible exact quiet_dr0 (before_any _ _ _ (by assumption) (by assumption))))))
            go_wp2_with fail
            go_ret
            exact ⟨by rw [e.out]; rfl, by repeat (first | with_reducible exact Gr.refl _ | with_reducible refine Gr.drewN ?_ _ | with_reducible refine Gr.drew ?_ | with_reducible refine Gr.alloc ?_ _ | with_reducible refine Gr.setCell ?_ ?_ _ | (with_reducible refine Gr.trans ?_ (by assumption)) | omega | (dsimp only; omega))⟩
      · have hf' : fitsB (rAt l k) = false := by simpa using hf
        rw [hf'] at hF
        have HF := Lib.hid hF
        have e := Lib.hid (rowsOkB_no (by rw [H1.out.len]; exact hlt) (.inl hf'))
        clear hF hf hf'
        go_wp2_with fail
        refine (HF.out _).mono ?_
        rintro e' w1 ⟨rfl, hg1⟩
        go_wp2_with fail
        go_ret
        exact ⟨by rw [e.out]; rfl, by repeat (first | with_reducible exact Gr.refl _ | with_reducible refine Gr.drewN ?_ _ | with_reducible refine Gr.drew ?_ | with_reducible refine Gr.alloc ?_ _ | with_reducible refine Gr.setCell ?_ ?_ _ | (with_reducible refine Gr.trans ?_ (by assumption)) | omega | (dsimp only; omega))⟩
    · obtain rfl : k = n := by omega
      have e : rowsOkB l = true := by
        unfold rowsOkB
        rw [decide_eq_true_iff]
        intro j hj
        exact hp.out j (by rw [H1.out.len] at hj; exact hj)
      have He := Lib.hid e
      clear e
      go_wp2
      go_ret
      exact ⟨by rw [He.out]; rfl, by repeat (first | with_reducible exact Gr.refl _ | with_reducible refine Gr.drewN ?_ _ | with_reducible refine Gr.drew ?_ | with_reducible refine Gr.alloc ?_ _ | with_reducible refine Gr.setCell ?_ ?_ _ | (with_reducible refine Gr.trans ?_ (by assumption)) | omega | (dsimp only; omega))⟩

end Go.Proofs.YtidfelbaegaphaaDoor
