import Derived.Test.YtfejdbcfcpmdiaaDoorWaz
import Derived.Test.YtfejdbcfcpmdiaaDoorFw0z
namespace Go.Proofs.YtfejdbcfcpmdiaaDoor
set_option linter.unusedVariables false
set_option linter.unusedSimpArgs false
open Go.BigFrame Go.RowKit Go.WideShapes

theorem run_rwrI {oa : Option Addr} {n b off : Nat} (cap : Nat) (ho : 0 < n → oa = some ⟨b, off, none⟩) {k : Int} (h0 : 0 ≤ k) (hk : k < n) (w : World) :
    (Instr.indexAt 34 (.slice oa n cap) (.int .i64 k)).run Tryd.prog w = .ok (.pointer (some ⟨b, off + k.toNat * 3, none⟩)) w := by
  obtain ⟨m, rfl⟩ := Int.eq_ofNat_of_zero_le h0
  exact run_rwr cap ho (by omega) w
theorem wfits_cases2 (r : Wt) : (wfits r = true ∧ fitsB ⟨r.key, r.val⟩ = true ∧ (r.gone = false ∨ (r.gone = true ∧ r.val = ⟨#[]⟩))) ∨ (wfits r = false ∧ fitsB ⟨r.key, r.val⟩ = false) ∨ (wfits r = false ∧ fitsB ⟨r.key, r.val⟩ = true ∧ r.gone = true ∧ r.val ≠ ⟨#[]⟩) := by
  have he : ByteArray.empty = ⟨#[]⟩ := rfl
  unfold wfits fitsB
  rw [he]
  cases (rightB r.key && decide (r.val.size ≤ 16))
  · exact .inr (.inl ⟨rfl, rfl⟩)
  · by_cases hq : r.val = ⟨#[]⟩
    · cases hg : r.gone
      · exact .inl ⟨rfl, rfl, .inl rfl⟩
      · exact .inl ⟨by rw [hq]; simp, rfl, .inr ⟨rfl, hq⟩⟩
    · cases hg : r.gone
      · exact .inl ⟨rfl, rfl, .inl rfl⟩
      · exact .inr (.inr ⟨by simp [hq], rfl, rfl, hq⟩)

set_option maxRecDepth 100000 in
set_option maxHeartbeats 4000000 in
theorem refwRight_any (oa : Option Addr) (n cap : Nat) (l : List Wt) (w : World) (h : WritesAt w oa n cap l) :
    Calls Tryd.prog 39 #[.slice oa n cap] w fun e w' => e = .returned (.bool (writesOkB l)) ∧ Gr w w' := by
  obtain ⟨b1, off1, ho1, hc1⟩ := h.cells
  have Hc1 := Lib.hid hc1
  have Ho1 := Lib.hid (fun q => (ho1 q).1)
  have H1 := Lib.hid h
  have hn1 := h.cap_le
  have hm1 := h.cap_max
  unfold maxLen at hm1
  clear hc1 ho1 h
  go_enter Tryd.func39, Tryd.ntmps39
  go_wp2
  go_loopw [3] (fun i wr => ∃ k : Nat, k ≤ n ∧ i = .int .i64 k ∧ Hid (∀ j, j < k → wfits (wAt l j) = true ∧ (0 < j → Str.cmp (Tx (wAt l (j - 1)).key) (Tx (wAt l j).key) < 0)) ∧ Gr w wr) (fun i _ => n - (intOf i).toNat)
  case atStart => exact ⟨0, Nat.zero_le _, rfl, Lib.hid fun j hj => by omega, Gr.refl _⟩
  case round =>
    obtain ⟨k, hk, rfl, hp, hg⟩ := hrel
    by_cases hlt : k < n
    · obtain ⟨a1, a2, a3⟩ := Hc1.out k hlt
      have a1 := hg.keep a1
      have a2 := hg.keep a2
      have a3 := hg.keep a3
      have hs1 := (H1.out.sizes k hlt).1
      have hs2 := (H1.out.sizes k hlt).2
      have hI := run_rwr cap Ho1.out hlt
      have hkl : k < l.length := by rw [H1.out.len]; exact hlt
      have hF := fun w => refFits_any (wAt l k).key (wAt l k).val w hs1 hs2
      rcases wfits_cases2 (wAt l k) with ⟨hf, hr, hq3⟩ | ⟨hf, hr⟩ | ⟨hf, hr, hq1, hq2⟩
      · rw [hr] at hF
        have HF := Lib.hid hF
        have Hf := Lib.hid hf
        clear hF hf hr
        by_cases h0 : k = 0
        · have hk0 : decide (0 < k) = false := by simp; omega
          have H0 := Lib.hid h0
          clear h0
          generalize (wAt l k).val = v at *
          generalize (wAt l k).gone = g at *
          rcases hq3 with rfl | ⟨rfl, rfl⟩
          all_goals
            have v0 := After.cell a1
            have v1 := After.cell a2
            have v2 := After.cell a3
            go_wp2_with fail
            refine wp_region_after (by kernel_rfl) (by kernel_rfl) ?_
            repeat (go_big_quiet_step ((go_at_call 45; (with_reducible exact after_gr (HF.out _)))))
            refine wpQuiet_nil ?_
            rintro _ ⟨⟨w1, hg1⟩, rfl⟩
            clear v0 v1 v2
            have q1 := hg1.keep a1
            have hgn := hg.trans hg1
            go_wp2_with fail
            go_big_quiet (fail)
            go_wp2_with fail
            go_roundw
            case rel => exact ⟨k + 1, by omega, by go_num, Lib.hid fun j hj => by
              have h0 := H0.out
              obtain rfl : j = k := by omega
              exact ⟨Hf.out, fun q => absurd q (by omega)⟩, hgn.trans (by (repeat (first | with_reducible exact Gr.refl _ | with_reducible refine Gr.drewN ?_ _ | with_reducible refine Gr.drew ?_ | with_reducible refine Gr.alloc ?_ _ | with_reducible refine Gr.setCell ?_ ?_ _ | (with_reducible refine Gr.trans ?_ (by assumption)) | omega | (dsimp only; omega))))⟩
            case measure => simp [intOf]; omega
        · have hk0 : decide (0 < k) = true := by simp; omega
          have hk3 := hg.keep (Hc1.out (k - 1) (by omega)).1
          have hs3 := (H1.out.sizes (k - 1) (by omega)).1
          have hI2 := fun w => run_rwrI cap Ho1.out (k := (k : Int) - 1) (by omega) (by omega) w
          have e1 : ((k : Int) - 1).toNat = k - 1 := by omega
          rw [e1] at hI2
          by_cases hc : Str.before (Tx (wAt l (k - 1)).key) (Tx (wAt l k).key) = true
          · have Hc := Lib.hid (Str.cmp_neg_iff.2 hc)
            generalize (wAt l k).val = v at *
            generalize (wAt l k).gone = g at *
            rcases hq3 with rfl | ⟨rfl, rfl⟩
            all_goals
              have v0 := After.cell a1
              have v1 := After.cell a2
              have v2 := After.cell a3
              go_wp2_with fail
              refine wp_region_after (by kernel_rfl) (by kernel_rfl) ?_
              repeat (go_big_quiet_step ((go_at_call 45; (with_reducible exact after_gr (HF.out _)))))
              refine wpQuiet_nil ?_
              rintro _ ⟨⟨w1, hg1⟩, rfl⟩
              clear v0 v1 v2
              have q1 := hg1.keep a1
              have q3 := hg1.keep hk3
              have hgn := hg.trans hg1
              go_wp2_with fail
              go_big_quiet ((go_at_call 46; (first | (with_reducible exact quiet_dr1 (before_any _ _ _ (by assumption) (by assumption))) | (with_reducible exact quiet_dr0 (before_any _ _ _ (by assumption) (by assumption))))))
              go_wp2_with fail
              go_roundw
              case rel => exact ⟨k + 1, by omega, by go_num, Lib.hid fun j hj => by
                rcases Nat.lt_or_ge j k with q | q
                · exact hp.out j q
                · obtain rfl : j = k := by omega
                  exact ⟨Hf.out, fun _ => Hc.out⟩, hgn.trans (by (repeat (first | with_reducible exact Gr.refl _ | with_reducible refine Gr.drewN ?_ _ | with_reducible refine Gr.drew ?_ | with_reducible refine Gr.alloc ?_ _ | with_reducible refine Gr.setCell ?_ ?_ _ | (with_reducible refine Gr.trans ?_ (by assumption)) | omega | (dsimp only; omega))))⟩
              case measure => simp [intOf]; omega
          · have hc' : Str.before (Tx (wAt l (k - 1)).key) (Tx (wAt l k).key) = false := by simpa using hc
            have e := Lib.hid (writesOkB_no hkl (.inr ⟨by omega, by
              have : ¬ Str.cmp (Tx (wAt l (k - 1)).key) (Tx (wAt l k).key) < 0 := fun q => hc (Str.cmp_neg_iff.1 q)
              omega⟩))
            clear hc
            generalize (wAt l k).val = v at *
            generalize (wAt l k).gone = g at *
            rcases hq3 with rfl | ⟨rfl, rfl⟩
            all_goals
              have v0 := After.cell a1
              have v1 := After.cell a2
              have v2 := After.cell a3
              go_wp2_with fail
              refine wp_region_after (by kernel_rfl) (by kernel_rfl) ?_
              repeat (go_big_quiet_step ((go_at_call 45; (with_reducible exact after_gr (HF.out _)))))
              refine wpQuiet_nil ?_
              rintro _ ⟨⟨w1, hg1⟩, rfl⟩
              clear v0 v1 v2
              have q1 := hg1.keep a1
              have q3 := hg1.keep hk3
              have hgn := hg.trans hg1
              go_wp2_with fail
              go_big_quiet ((go_at_call 46; (first | (with_reducible exact quiet_dr1 (before_any _ _ _ (by assumption) (by assumption))) | (with_reducible exact quiet_dr0 (before_any _ _ _ (by assumption) (by assumption))))))
              go_wp2_with fail
              go_ret
              exact ⟨by rw [e.out]; rfl, hgn.trans (by (repeat (first | with_reducible exact Gr.refl _ | with_reducible refine Gr.drewN ?_ _ | with_reducible refine Gr.drew ?_ | with_reducible refine Gr.alloc ?_ _ | with_reducible refine Gr.setCell ?_ ?_ _ | (with_reducible refine Gr.trans ?_ (by assumption)) | omega | (dsimp only; omega))))⟩
      · rw [hr] at hF
        have HF := Lib.hid hF
        have e := Lib.hid (writesOkB_no hkl (.inl hf))
        clear hF hf hr
        have v0 := After.cell a1
        have v1 := After.cell a2
        have v2 := After.cell a3
        go_wp2_with fail
        refine wp_region_after (by kernel_rfl) (by kernel_rfl) ?_
        repeat (go_big_quiet_step ((go_at_call 45; (with_reducible exact after_gr (HF.out _)))))
        refine wpQuiet_nil ?_
        rintro _ ⟨⟨w1, hg1⟩, rfl⟩
        go_wp2_with fail
        go_ret
        exact ⟨by rw [e.out]; rfl, hg.trans hg1⟩
      · rw [hr] at hF
        have HF := Lib.hid hF
        have e := Lib.hid (writesOkB_no hkl (.inl hf))
        have hne := notEmpty hq2
        clear hF hf hr
        generalize (wAt l k).gone = g at *
        subst hq1
        have v0 := After.cell a1
        have v1 := After.cell a2
        have v2 := After.cell a3
        go_wp2_with fail
        refine wp_region_after (by kernel_rfl) (by kernel_rfl) ?_
        repeat (go_big_quiet_step ((go_at_call 45; (with_reducible exact after_gr (HF.out _)))))
        refine wpQuiet_nil ?_
        rintro _ ⟨⟨w1, hg1⟩, rfl⟩
        go_wp2_with fail
        go_ret
        exact ⟨by rw [e.out]; rfl, hg.trans hg1⟩
    · obtain rfl : k = n := by omega
      have e : writesOkB l = true := by
        unfold writesOkB
        rw [decide_eq_true_iff]
        intro j hj
        exact hp.out j (by rw [H1.out.len] at hj; exact hj)
      have He := Lib.hid e
      clear e
      go_wp2
      go_ret
      exact ⟨by rw [He.out]; rfl, by repeat (first | with_reducible exact Gr.refl _ | with_reducible refine Gr.drewN ?_ _ | with_reducible refine Gr.drew ?_ | with_reducible refine Gr.alloc ?_ _ | with_reducible refine Gr.setCell ?_ ?_ _ | (with_reducible refine Gr.trans ?_ (by assumption)) | omega | (dsimp only; omega))⟩
end Go.Proofs.YtfejdbcfcpmdiaaDoor
