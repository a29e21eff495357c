import Derived.Test.YtopomocbjlikjaaDoorSd20z
import Derived.Test.YtopomocbjlikjaaDoorFs20z
import Derived.Test.YtopomocbjlikjaaDoorTrz
import Derived.Deep.RegionHeld3
import Derived.StillTailTactics
namespace Go.Proofs.YtopomocbjlikjaaDoor
set_option linter.unusedVariables false
set_option linter.unusedSimpArgs false
open Go.BigFrame Go.RowKit Go.WideShapes

/-! The document's Fits (txn, serial). -/
theorem refOver_one {o : Option Addr} {q c : Nat} {x : List Rw} {s : Sn} {wr : World} (hR : RowsAt wr o q c x) (hz : SnSz s) (hq : q ≤ 1000) :
    Hid (∀ (w3 : World) (bp : Nat) (hg3 : Gr wr w3) (g0 : w3.cell? ⟨bp, 0, none⟩ = some (.string (wtOf s).key)) (g1 : w3.cell? ⟨bp, 1, none⟩ = some (.string (wtOf s).val)) (g2 : w3.cell? ⟨bp, 2, none⟩ = some (.bool (wtOf s).gone)),
      Calls Tryd.prog 37 #[.slice o q c, .slice (some ⟨bp, 0, none⟩) 1 1] w3 fun e w' => ∃ o1 q1 c1, e = .returned (.slice o1 q1 c1) ∧ RowsAt w' o1 q1 c1 (overL x [wtOf s]) ∧ Gr w3 w') :=
  Lib.hid fun w3 bp hg3 g0 g1 g2 => refOver_any o q c _ (some ⟨bp, 0, none⟩) 1 1 [wtOf s] w3 (hR.keep hg3) (write_one (Nat.le_refl _) (by unfold maxLen; omega) g0 g1 g2 (wtOf_key s hz).1 (wtOf_key s hz).2) hq (by omega)
set_option maxRecDepth 100000 in
set_option maxHeartbeats 20000000 in
theorem refFitL_any (oa : Option Addr) (n cap : Nat) (ss : List Sn) (ob : Option Addr) (m cap2 : Nat) (r : List Rw) (w : World) (h : SeenAt w oa n cap ss) (h2 : RowsAt w ob m cap2 r) (hs : m + n ≤ 1000) (hok : ss.all okS = true) :
    Calls Tryd.prog 44 #[.slice oa n cap, .slice ob m cap2] w fun e w' => e = .returned (.bool (fitL ss r)) ∧ Gr w w' := by
  have Hl := Lib.hid h.len
  have Hl2 := Lib.hid h2.len
  have Hok := Lib.hid hok
  have hcl := h.cap_le
  have hcm := h.cap_max
  unfold maxLen at hcm
  obtain ⟨b, off, ho, hc⟩ := h.get
  have Ho := Lib.hid ho
  have Hc := Lib.hid hc
  have H2 := Lib.hid h2
  clear ho hc h h2 hok
  go_enter Tryd.func44, Tryd.ntmps44
  go_wp2_with fail
  go_loopw [1, 5] (fun s1 s5 wr => ∃ (k : Nat) (o : Option Addr) (q c : Nat), k ≤ n ∧ s5 = .int .i64 k ∧ s1 = .slice o q c ∧ Hid (RowsAt wr o q c (wrL (ss.take k) r)) ∧ Hid (fitL ss r = fitL (ss.drop k) (wrL (ss.take k) r)) ∧ Gr w wr) (fun _ s5 _ => n - (intOf s5).toNat)
  case atStart => exact ⟨0, ob, m, cap2, Nat.zero_le _, rfl, rfl, H2, Lib.hid rfl, Gr.refl _⟩
  case round =>
    obtain ⟨k, o, q, c, hk, rfl, rfl, hR, hF, hg⟩ := hrel
    by_cases hlt : k < n
    · have hy : ss[k]? = some (ss[k]'(by have := Hl.out; omega)) := List.getElem?_eq_getElem _
      generalize (ss[k]'(by have := Hl.out; omega)) = s at hy
      obtain ⟨p1, m1, c1, R0⟩ := Hc.out k s hy
      have R1 := R0.keep hg
      have hz := R1.size
      have hI := run_seen cap Ho.out hlt
      have hq : q ≤ 1000 := by
        have e1 := hR.out.len
        have e2 := wrL_take_len ss k r
        have e3 := Hl2.out
        omega
      have HT := Lib.hid (wrL_take hy r)
      have HW := Lib.hid (@wrS_over s)
      have HNo := Lib.hid (@wrS_none s)
      have HFw := Lib.hid fun h => hF.out.trans (fit_w hy h _)
      have HFs := Lib.hid fun h => hF.out.trans (fit_s hy h _)
      have hks : okS s = true := List.all_eq_true.1 Hok.out s (List.mem_of_getElem? hy)
      have hkind : 2 ≤ s.kind ∧ s.kind ≤ 5 := by
        unfold okS at hks
        simp only [Bool.and_eq_true, decide_eq_true_eq] at hks
        exact hks.1.1
      have Z := (Bx.new wr zS.toArray 51 rfl).of (us := zS) (by simp)
      clear R0 hy hF hks
      go_upto_region 5 with (first | (refine wpList_load_mid rfl 51 _ rfl _ _ rfl _ _ (R1).rng Tryd.underlying51 rfl (by kernel_rfl) ?_) | ((with_reducible refine wpList_store_box (ty := 51) (Z) ((snL s p1 m1 c1)) ?_ ?_ ?_ ?_ ?_ ?_); (focus (exact rfl)); (focus (exact ⟨_, _, rfl, rfl, rfl⟩)); (focus (exact rfl)); (focus kernel_rfl); (focus kernel_rfl)))
      have B8 := Z.setAll (us := snL s p1 m1 c1) rfl
      have hg8 : Gr wr ((wr.alloc (.cells zS.toArray 51)).setCells wr.heap.size 0 (snL s p1 m1 c1)) := (((Gr.refl wr).alloc _).setCells (Nat.le_refl _) _ _)
      have HR1 := Lib.hid (R1.rows.keep hg8)
      have HR := Lib.hid (hR.out.keep hg8)
      have Hz := Lib.hid hz
      have hgw8 := hg.trans hg8
      clear Z R1 hI hR hg8 hz hg
      generalize (wr.alloc (.cells zS.toArray 51)).setCells wr.heap.size 0 (snL s p1 m1 c1) = w8 at *
      generalize wr.heap.size = b8 at *
      have x0 := B8.cell 0 rfl
      have x1 := B8.cell 1 rfl
      have x2 := B8.cell 2 rfl
      (try simp only [Act.put])
      by_cases h34 : s.kind = 3 ∨ s.kind = 4
      · have hO := refOver_one HR.out Hz.out hq
        have HT2 := Lib.hid (HT.out.trans (HW.out h34 _))
        have HF2 := Lib.hid (HFw.out h34)
        have hov := Lib.hid (HW.out h34 (wrL (ss.take k) r))
        clear HFw HFs HNo HW HT Hz hkind
        rcases h34 with h3 | h3
        · have e : wtOf s = ⟨s.key, s.val, false⟩ := by unfold wtOf; rw [if_neg (by omega)]
          rw [e] at hO HT2 hov
          rw [h3] at x0
          have X0 := Lib.hid x0
          clear e h3
          go_wp2_with (go_at_call 37; (with_reducible refine Calls.mono (hO.out _ _ ?_ ?_ ?_ ?_) ?_); (focus ((repeat (first | with_reducible exact Gr.refl _ | with_reducible refine Gr.drewN ?_ _ | with_reducible refine Gr.drew ?_ | with_reducible refine Gr.alloc ?_ _ | with_reducible refine Gr.setCell ?_ ?_ _ | (with_reducible refine Gr.trans ?_ (by assumption)) | omega | (dsimp only; omega))); done)); (focus (first | (simp [go_sem, cell_new_drewN]; done) | (refine Gr.keep (by assumption) ?_; simp [go_sem, cell_new_drewN]; done))); (focus (first | (simp [go_sem, cell_new_drewN]; done) | (refine Gr.keep (by assumption) ?_; simp [go_sem, cell_new_drewN]; done))); (focus (first | (simp [go_sem, cell_new_drewN]; done) | (refine Gr.keep (by assumption) ?_; simp [go_sem, cell_new_drewN]; done))); rintro e w5 ⟨o5, q5, c5, rfl, hr5, hg5⟩; (have hg6 : Gr w8 w5 := Gr.trans (by (repeat (first | with_reducible exact Gr.refl _ | with_reducible refine Gr.drewN ?_ _ | with_reducible refine Gr.drew ?_ | with_reducible refine Gr.alloc ?_ _ | with_reducible refine Gr.setCell ?_ ?_ _ | (with_reducible refine Gr.trans ?_ (by assumption)) | omega | (dsimp only; omega)))) hg5); have Hr5 := Lib.hid hr5; clear hr5; have x0 := hg6.keep X0.out)
          go_big_quiet (fail)
          go_wp2_with fail
          go_roundw
          case rel => exact ⟨k + 1, o5, q5, c5, by omega, by go_num, rfl, Lib.hid (by rw [HT2.out]; exact Hr5.out.keep ((Gr.refl _).drewN _)), Lib.hid (by rw [HF2.out, hov.out, HT2.out]), Gr.drewN (hgw8.trans hg6) _⟩
          case measure => simp [intOf]; omega
        · have e : wtOf s = ⟨s.key, ⟨#[]⟩, true⟩ := by unfold wtOf; rw [if_pos h3]
          rw [e] at hO HT2 hov
          rw [h3] at x0
          have X0 := Lib.hid x0
          clear e h3
          go_wp2_with (go_at_call 37; (with_reducible refine Calls.mono (hO.out _ _ ?_ ?_ ?_ ?_) ?_); (focus ((repeat (first | with_reducible exact Gr.refl _ | with_reducible refine Gr.drewN ?_ _ | with_reducible refine Gr.drew ?_ | with_reducible refine Gr.alloc ?_ _ | with_reducible refine Gr.setCell ?_ ?_ _ | (with_reducible refine Gr.trans ?_ (by assumption)) | omega | (dsimp only; omega))); done)); (focus (first | (simp [go_sem, cell_new_drewN]; done) | (refine Gr.keep (by assumption) ?_; simp [go_sem, cell_new_drewN]; done))); (focus (first | (simp [go_sem, cell_new_drewN]; done) | (refine Gr.keep (by assumption) ?_; simp [go_sem, cell_new_drewN]; done))); (focus (first | (simp [go_sem, cell_new_drewN]; done) | (refine Gr.keep (by assumption) ?_; simp [go_sem, cell_new_drewN]; done))); rintro e w5 ⟨o5, q5, c5, rfl, hr5, hg5⟩; (have hg6 : Gr w8 w5 := Gr.trans (by (repeat (first | with_reducible exact Gr.refl _ | with_reducible refine Gr.drewN ?_ _ | with_reducible refine Gr.drew ?_ | with_reducible refine Gr.alloc ?_ _ | with_reducible refine Gr.setCell ?_ ?_ _ | (with_reducible refine Gr.trans ?_ (by assumption)) | omega | (dsimp only; omega)))) hg5); have Hr5 := Lib.hid hr5; clear hr5; have x0 := hg6.keep X0.out)
          go_big_quiet (fail)
          go_wp2_with fail
          go_roundw
          case rel => exact ⟨k + 1, o5, q5, c5, by omega, by go_num, rfl, Lib.hid (by rw [HT2.out]; exact Hr5.out.keep ((Gr.refl _).drewN _)), Lib.hid (by rw [HF2.out, hov.out, HT2.out]), Gr.drewN (hgw8.trans hg6) _⟩
          case measure => simp [intOf]; omega
      · have HF2 := Lib.hid (HFs.out h34)
        have HT2 := Lib.hid (HT.out.trans (HNo.out ⟨fun e => h34 (.inl e), fun e => h34 (.inr e)⟩ _))
        generalize hX : wrL (ss.take k) r = X at *
        have HX := Lib.hid hX
        clear HFw HFs HNo HW HT hX
        rcases (show s.kind = 2 ∨ s.kind = 5 by omega) with h2 | h5
        · have h5 : s.kind ≠ 5 := by omega
          have hFi := Lib.hid (refFind_any o q c X s.key w8 HR.out Hz.out.key)
          rw [h2] at x0
          have x3 := B8.cell 3 rfl
          clear h34 hkind h2
          cases hb : hasB s.key X
          · have E := Lib.hid (seesB_no h5 hb)
            rw [hb] at hFi
            clear hb h5
            cases hth : s.there
            · rw [hth] at x3
              by_cases hv : s.val.size = 0
              · have e1 := empty_toList hv
                have E1 : Hid (seesB s X = true) := Lib.hid (by rw [E.out, hth, decide_eq_true hv]; rfl)
                clear hth hv
                go_wp2_with (go_at_call 60; (with_reducible refine hFi.out.mono ?_); rintro e w3 ⟨rfl, d3, rfl⟩)
                go_big_quiet (fail)
                go_wp2_with fail
                go_big_quiet (fail)
                go_wp2_with fail
                go_roundw
                case rel => exact ⟨k + 1, o, q, c, by omega, by go_num, rfl, Lib.hid (by rw [HT2.out]; refine HR.out.keep ?_; exact (by repeat (first | with_reducible exact Gr.refl _ | with_reducible refine Gr.drewN ?_ _ | with_reducible refine Gr.drew ?_ | with_reducible refine Gr.alloc ?_ _ | with_reducible refine Gr.setCell ?_ ?_ _ | (with_reducible refine Gr.trans ?_ (by assumption)) | omega | (dsimp only; omega)))), Lib.hid (by rw [HF2.out, E1.out, HT2.out, Bool.true_and]), by repeat (first | with_reducible exact Gr.refl _ | with_reducible refine Gr.drewN ?_ _ | with_reducible refine Gr.drew ?_ | with_reducible refine Gr.alloc ?_ _ | with_reducible refine Gr.setCell ?_ ?_ _ | (with_reducible refine Gr.trans ?_ (by assumption)) | omega | (dsimp only; omega))⟩
                case measure => simp [intOf]; omega
              · have e1 := nonempty_toList hv
                have E1 : Hid (seesB s X = false) := Lib.hid (by rw [E.out, hth, decide_eq_false hv]; rfl)
                clear hth hv
                go_wp2_with (go_at_call 60; (with_reducible refine hFi.out.mono ?_); rintro e w3 ⟨rfl, d3, rfl⟩)
                go_big_quiet (fail)
                go_wp2_with fail
                go_ret
                exact ⟨by rw [HF2.out, E1.out]; rfl, by repeat (first | with_reducible exact Gr.refl _ | with_reducible refine Gr.drewN ?_ _ | with_reducible refine Gr.drew ?_ | with_reducible refine Gr.alloc ?_ _ | with_reducible refine Gr.setCell ?_ ?_ _ | (with_reducible refine Gr.trans ?_ (by assumption)) | omega | (dsimp only; omega))⟩
            · rw [hth] at x3
              have E1 : Hid (seesB s X = false) := Lib.hid (by rw [E.out, hth]; rfl)
              clear hth
              go_wp2_with (go_at_call 60; (with_reducible refine hFi.out.mono ?_); rintro e w3 ⟨rfl, d3, rfl⟩)
              go_big_quiet (fail)
              go_wp2_with fail
              go_ret
              exact ⟨by rw [HF2.out, E1.out]; rfl, by repeat (first | with_reducible exact Gr.refl _ | with_reducible refine Gr.drewN ?_ _ | with_reducible refine Gr.drew ?_ | with_reducible refine Gr.alloc ?_ _ | with_reducible refine Gr.setCell ?_ ?_ _ | (with_reducible refine Gr.trans ?_ (by assumption)) | omega | (dsimp only; omega))⟩
          · have E := Lib.hid (seesB_yes h5 hb)
            have hpl : place s.key X < q := by
              unfold hasB at hb
              simp only [decide_eq_true_eq] at hb
              rw [← HR.out.len]; exact hb.1
            rw [hb] at hFi
            clear hb h5
            have hRR := HR.out
            obtain ⟨b2, off2, ho2, hc2⟩ := hRR.cells
            have Hc2 := Lib.hid hc2
            have Ho2 := Lib.hid (fun q => (ho2 q).1)
            have H2 := Lib.hid hRR
            have hn2 := hRR.cap_le
            have hm2 := hRR.cap_max
            unfold maxLen at hm2
            clear hc2 ho2 hRR
            have hI := run_row c Ho2.out hpl
            have y1 := (Hc2.out _ hpl).2
            generalize place s.key X = pl at *
            cases hth : s.there
            · rw [hth] at x3
              have E1 : Hid (seesB s X = false) := Lib.hid (by rw [E.out, hth]; rfl)
              clear hth
              go_wp2_with (go_at_call 60; (with_reducible refine hFi.out.mono ?_); rintro e w3 ⟨rfl, d3, rfl⟩)
              go_big_quiet (fail)
              go_wp2_with fail
              go_ret
              exact ⟨by rw [HF2.out, E1.out]; rfl, by repeat (first | with_reducible exact Gr.refl _ | with_reducible refine Gr.drewN ?_ _ | with_reducible refine Gr.drew ?_ | with_reducible refine Gr.alloc ?_ _ | with_reducible refine Gr.setCell ?_ ?_ _ | (with_reducible refine Gr.trans ?_ (by assumption)) | omega | (dsimp only; omega))⟩
            · rw [hth] at x3
              by_cases hv : s.val = vAt X pl
              · have e1 := eqL hv
                have e2 := eqL hv.symm
                have E1 : Hid (seesB s X = true) := Lib.hid (by rw [E.out, hth, decide_eq_true hv]; rfl)
                clear hth hv
                go_wp2_with (go_at_call 60; (with_reducible refine hFi.out.mono ?_); rintro e w3 ⟨rfl, d3, rfl⟩)
                go_big_quiet (fail)
                go_wp2_with fail
                go_big_quiet (fail)
                go_wp2_with fail
                go_roundw
                case rel => exact ⟨k + 1, o, q, c, by omega, by go_num, rfl, Lib.hid (by rw [HT2.out]; refine HR.out.keep ?_; exact (by repeat (first | with_reducible exact Gr.refl _ | with_reducible refine Gr.drewN ?_ _ | with_reducible refine Gr.drew ?_ | with_reducible refine Gr.alloc ?_ _ | with_reducible refine Gr.setCell ?_ ?_ _ | (with_reducible refine Gr.trans ?_ (by assumption)) | omega | (dsimp only; omega)))), Lib.hid (by rw [HF2.out, E1.out, HT2.out, Bool.true_and]), by repeat (first | with_reducible exact Gr.refl _ | with_reducible refine Gr.drewN ?_ _ | with_reducible refine Gr.drew ?_ | with_reducible refine Gr.alloc ?_ _ | with_reducible refine Gr.setCell ?_ ?_ _ | (with_reducible refine Gr.trans ?_ (by assumption)) | omega | (dsimp only; omega))⟩
                case measure => simp [intOf]; omega
              · have e1 := neL hv
                have e2 := neL fun q => hv q.symm
                have E1 : Hid (seesB s X = false) := Lib.hid (by rw [E.out, hth, decide_eq_false hv]; rfl)
                clear hth hv
                go_wp2_with (go_at_call 60; (with_reducible refine hFi.out.mono ?_); rintro e w3 ⟨rfl, d3, rfl⟩)
                go_big_quiet (fail)
                go_wp2_with fail
                go_ret
                exact ⟨by rw [HF2.out, E1.out]; rfl, by repeat (first | with_reducible exact Gr.refl _ | with_reducible refine Gr.drewN ?_ _ | with_reducible refine Gr.drew ?_ | with_reducible refine Gr.alloc ?_ _ | with_reducible refine Gr.setCell ?_ ?_ _ | (with_reducible refine Gr.trans ?_ (by assumption)) | omega | (dsimp only; omega))⟩
        · have E := Lib.hid (seesB_5 h5 X)
          rw [h5] at x0
          have hT := Lib.hid fun (w1 : World) (hg : Gr w8 w1) => refTake_any o q c X s.low s.high s.unb s.limit s.rev w1 (HR.out.keep hg) (by omega) Hz.out.low Hz.out.high
          have hS := Lib.hid fun (w1 : World) (o3 : Option Addr) (m3 c3 : Nat) (hg : Gr w8 w1) (h3 : RowsAt w1 o3 m3 c3 (takeR s.low s.high s.unb s.limit s.rev X)) => (refSame_any p1 o3 m1 c1 m3 c3 s.rows _ w1 (HR1.out.keep hg) h3).mono (R' := fun e w' => e = .returned (.bool (decide (s.rows = takeR s.low s.high s.unb s.limit s.rev X))) ∧ Gr w1 w') fun e w' hh => ⟨hh.1, hh.2.below _⟩
          clear h34 hkind h5
          generalize takeR s.low s.high s.unb s.limit s.rev X = tk at *
          have x4 := B8.cell 4 rfl
          have x5 := B8.cell 5 rfl
          have x6 := B8.cell 6 rfl
          have x7 := B8.cell 7 rfl
          have x8 := B8.cell 8 rfl
          have x9 := B8.cell 9 rfl
          clear x1 x2
          go_upto_region 13 with fail
          by_cases hsee : s.rows = tk
          all_goals
            first | rw [decide_eq_true hsee] at hS E | rw [decide_eq_false hsee] at hS E
            clear hsee
            go_region_held3 (fun W' => W'.cell? ⟨b8, 0, none⟩ = some (.int .i64 5) ∧ W'.cell? ⟨b8, 4, none⟩ = some (.string s.low) ∧ W'.cell? ⟨b8, 5, none⟩ = some (.string s.high) ∧ W'.cell? ⟨b8, 6, none⟩ = some (.bool s.unb) ∧ W'.cell? ⟨b8, 7, none⟩ = some (.int .i64 s.limit) ∧ W'.cell? ⟨b8, 8, none⟩ = some (.bool s.rev) ∧ W'.cell? ⟨b8, 9, none⟩ = some (.slice p1 m1 c1))
              (first | (go_split_ands; (repeat' apply And.intro) <;> first | with_reducible assumption | (with_reducible refine Gr.keep hg3 ?_; with_reducible assumption) | ((repeat (first | with_reducible refine drew1 ?_ | with_reducible refine alloc1 ?_ | with_reducible refine far1 ?_ (by omega))); first | with_reducible assumption | (with_reducible refine Gr.keep hg3 ?_; (repeat (first | with_reducible refine drew1 ?_ | with_reducible refine alloc1 ?_)); with_reducible assumption))) | (go_split_ands; (repeat' apply And.intro) <;> first | with_reducible assumption | (with_reducible refine Gr.keep hg9 ?_; with_reducible assumption) | ((repeat (first | with_reducible refine drew1 ?_ | with_reducible refine alloc1 ?_ | with_reducible refine far1 ?_ (by omega))); first | with_reducible assumption | (with_reducible refine Gr.keep hg9 ?_; (repeat (first | with_reducible refine drew1 ?_ | with_reducible refine alloc1 ?_)); with_reducible assumption)))) (first | (go_at_call 61; (with_reducible refine Calls.mono (hT.out _ ?_) ?_); (focus ((repeat (first | with_reducible exact Gr.refl _ | with_reducible refine Gr.drewN ?_ _ | with_reducible refine Gr.drew ?_ | with_reducible refine Gr.alloc ?_ _ | with_reducible refine Gr.setCell ?_ ?_ _ | (with_reducible refine Gr.trans ?_ (by assumption)) | omega | (dsimp only; omega))); done)); rintro e w3 ⟨o3, m3, c3, rfl, hr3, hg3⟩; (have hg8 : Gr w8 w3 := Gr.trans (by (repeat (first | with_reducible exact Gr.refl _ | with_reducible refine Gr.drewN ?_ _ | with_reducible refine Gr.drew ?_ | with_reducible refine Gr.alloc ?_ _ | with_reducible refine Gr.setCell ?_ ?_ _ | (with_reducible refine Gr.trans ?_ (by assumption)) | omega | (dsimp only; omega)))) hg3); have Hr3 := Lib.hid hr3; clear hr3) | (go_at_call 14; (with_reducible refine Calls.mono (hS.out _ _ _ _ hg8 Hr3.out) ?_); rintro e w5 ⟨rfl, hg5⟩; have hg9 := hg8.trans hg5))
          all_goals
            go_wp2_with fail
            first
            | (go_ret
               exact ⟨by rw [HF2.out, E.out]; rfl, hgw8.trans hg9⟩)
            | (go_roundw
               case rel => exact ⟨k + 1, o, q, c, by omega, by go_num, rfl, Lib.hid (by rw [HT2.out]; exact HR.out.keep hg9), Lib.hid (by rw [HF2.out, E.out, HT2.out, Bool.true_and]), hgw8.trans hg9⟩
               case measure => simp [intOf]; omega)
    · obtain rfl : k = n := by omega
      have hE := hF.out
      rw [List.drop_of_length_le (by rw [Hl.out]; exact Nat.le_refl _)] at hE
      have HE := Lib.hid hE
      clear hE hF
      go_wp2_with fail
      go_ret
      exact ⟨by rw [HE.out]; rfl, hg⟩
set_option maxRecDepth 100000 in
set_option maxHeartbeats 20000000 in
theorem refFitsT_any (t : Tr) (p : Option Addr) (n cp : Nat) (ob : Option Addr) (m cap2 : Nat) (r : List Rw) (w : World) (h : SeenAt w p n cp t.seen) (h2 : RowsAt w ob m cap2 r) (hs : m + n ≤ 1000) :
    Calls Tryd.prog 28 #[.agg (trL t p n cp).toArray, .slice ob m cap2] w fun e w' => e = .returned (.bool (fitsT t r)) ∧ Gr w w' := by
  have B0 : Bx (w.alloc (.cells (trL t p n cp).toArray 27)) w.heap.size (trL t p n cp) := (Bx.new w _ _ rfl).of (by simp)
  have hg0 := (Gr.refl w).alloc (.cells (trL t p n cp).toArray 27)
  have HS := Lib.hid (h.keep hg0)
  have H2 := Lib.hid (h2.keep hg0)
  clear h h2
  go_enter Tryd.func28, Tryd.ntmps28
  go_upto_region 1 with fail
  generalize w.alloc (.cells (trL t p n cp).toArray 27) = W at *
  generalize w.heap.size = b1 at *
  have hRi := Lib.hid (refRightT_any t p n cp W HS.out)
  have hRo := Lib.hid fun w1 (hg : Gr W w1) => refRowsRight_any ob m cap2 r w1 (H2.out.keep hg)
  cases hok : okT t
  · have E := Lib.hid (fitsT_no (r := r) (.inl hok))
    rw [hok] at hRi
    clear hok
    go_wp2_with (first | ((with_reducible refine wpList_load_box (ty := 27) (B0) ?_ ?_ Tryd.underlying27 ?_ ?_ ?_); (focus (exact rfl)); (focus (exact ⟨_, rfl, rfl⟩)); (focus (exact rfl)); (focus kernel_rfl)) | (go_at_call 9; (with_reducible refine hRi.out.mono ?_); rintro e w3 ⟨rfl, hg3⟩))
    go_ret
    exact ⟨by first | (rw [E.out]; rfl) | rw [E.out], hg0.trans hg3⟩
  cases hro : rowsOkB r
  · have E := Lib.hid (fitsT_no (t := t) (.inr hro))
    rw [hok] at hRi
    rw [hro] at hRo
    clear hok hro
    go_wp2_with (first | ((with_reducible refine wpList_load_box (ty := 27) (B0) ?_ ?_ Tryd.underlying27 ?_ ?_ ?_); (focus (exact rfl)); (focus (exact ⟨_, rfl, rfl⟩)); (focus (exact rfl)); (focus kernel_rfl)) | (go_at_call 9; (with_reducible refine hRi.out.mono ?_); rintro e w3 ⟨rfl, hg3⟩) | (go_at_call 43; (with_reducible refine (hRo.out _ hg3).mono ?_); rintro e w4 ⟨rfl, hg4⟩))
    go_ret
    exact ⟨by first | (rw [E.out]; rfl) | rw [E.out], hg0.trans (hg3.trans hg4)⟩
  have E := Lib.hid (fitsT_yes hok hro)
  have hall : t.seen.all okS = true := by
    unfold okT at hok
    simp only [Bool.and_eq_true] at hok
    exact hok.2
  have hFt := Lib.hid fun w1 (hg : Gr W w1) => refFitL_any p n cp t.seen ob m cap2 r w1 (HS.out.keep hg) (H2.out.keep hg) hs hall
  rw [hok] at hRi
  rw [hro] at hRo
  have v4 := Lib.hid (B0.cell 4 rfl)
  clear hok hro hall
  go_wp2_with (first | ((with_reducible refine wpList_load_box (ty := 27) (B0) ?_ ?_ Tryd.underlying27 ?_ ?_ ?_); (focus (exact rfl)); (focus (exact ⟨_, rfl, rfl⟩)); (focus (exact rfl)); (focus kernel_rfl)) | (go_at_call 9; (with_reducible refine hRi.out.mono ?_); rintro e w3 ⟨rfl, hg3⟩) | (go_at_call 43; (with_reducible refine (hRo.out _ hg3).mono ?_); rintro e w4 ⟨rfl, hg4⟩; (have hg5 := hg3.trans hg4); have v4 := hg5.keep v4.out) | (go_at_call 44; (with_reducible refine (hFt.out _ hg5).mono ?_); rintro e w6 ⟨rfl, hg6⟩))
  go_ret
  exact ⟨by first | (rw [E.out]; rfl) | rw [E.out], hg0.trans (hg5.trans hg6)⟩
end Go.Proofs.YtopomocbjlikjaaDoor
