import Derived.Test.YtfejdbcfcpmdiaaDoorCyz
namespace Go.Proofs.YtfejdbcfcpmdiaaDoor
set_option linter.unusedVariables false
set_option linter.unusedSimpArgs false
open Go.BigFrame Go.RowKit Go.WideShapes

/-! What a table shows is the document's (all). -/
theorem code_ev (c : Int) (w : World) (hh : w.cell? ⟨0, 0, none⟩ = some handleV) : Calls Tryd.prog 21 #[ev c] w fun e w' => e = .returned (.int .i64 c) ∧ Gr w w' := by
  by_cases h : c = 0
  · subst h; rw [ev_0]; exact code_nil w
  · rw [ev_n h]; exact code_any c w hh
section
variable {S : List Nat} {W w : World} {t cm mk : Nat} {T : Ct} {p : Rp}
set_option maxRecDepth 100000 in
set_option maxHeartbeats 4000000 in
theorem all_v (hT : TabV S w t cm mk T) (hR : RefV S W w T p) (hO : CtOk T) (hW : Gr W w) (hh : w.cell? ⟨0, 0, none⟩ = some handleV) :
    Calls Tryd.prog 11 #[.pointer (some ⟨t, 0, none⟩), .agg (refL T p).toArray] w fun e w' => e = .returned (.bool true) ∧ Gr w w' := by
  have hB := (Bx.new w (refL T p).toArray 31 rfl).of (us := refL T p) (by simp)
  have hg0 : Gr w (w.alloc (.cells (refL T p).toArray 31)) := (Gr.refl w).alloc _
  have HT := Lib.hid (hT.keep hg0)
  have HR := Lib.hid (hR.keep hg0)
  have HO := Lib.hid hO
  have hl2 := hO.cap
  have hl3 := hO.lim
  have h64 := hO.mk2
  have hn1 : ((T.all.length : Int) != (T.all.length : Int)) = false := by simp
  have hn2 : ((T.low : Int) != (T.low : Int)) = false := by simp
  have hn3 : (((cntB T.drp : Nat) : Int) != ((cntB T.drp : Nat) : Int)) = false := by simp
  clear hT hR hO
  go_enter Tryd.func11, Tryd.ntmps11
  go_upto_region 1 with fail
  (show Code.wp _ _ _ _ (w.alloc (.cells (refL T p).toArray 31)))
  generalize w.alloc (.cells (refL T p).toArray 31) = V at *
  generalize w.heap.size = b3 at *
  have v0 := After.cell (hB.cell 0 rfl)
  have v1 := After.cell (hB.cell 1 rfl)
  have v2 := After.cell (hB.cell 2 rfl)
  have v3 := After.cell (hB.cell 3 rfl)
  have v4 := After.cell (hB.cell 4 rfl)
  have v5 := After.cell (hB.cell 5 rfl)
  have hRC := fun (q : After V) => show Calls Tryd.prog 36 #[.agg #[.int .i64 T.lim, .int .i64 T.low, .slice p.oA T.all.length p.cA, .slice p.oD T.drp.length p.cD, .slice p.oM T.marks.length p.cM, .int .i64 T.hold]] q.W fun e w' => e = .returned (.int .i64 (cntB T.drp : Nat)) ∧ Gr q.W w' from refCount_r (HR.out.keep q.gr) HO.out
  refine wp_region_after (by kernel_rfl) (by kernel_rfl) ?_
  repeat (go_big_quiet_step ((first | (go_at_call 12; (with_reducible exact after_same (last_v (HT.out.keep (After.gr _))))) | (go_at_call 13; (with_reducible exact after_same (base_v (HT.out.keep (After.gr _))))) | (go_at_call 14; (with_reducible exact after_same (count_v (HT.out.keep (After.gr _)) HO.out))) | (go_at_call 36; (with_reducible exact after_gr (hRC _))))))
  refine wpQuiet_nil ?_
  rintro w2 ⟨⟨w1, hg1⟩, rfl⟩
  clear v0 v1 v2 v3 v4 v5 hRC hn1 hn2 hn3
  have HB := Lib.hid hB
  clear hB
  have hgh := hg0.keep hh
  go_wp2_with fail
  go_loopw [5] (fun s5 wr => ∃ (k : Nat), k ≤ T.all.length + 2 ∧ s5 = .int .i64 k ∧ Gr V wr) (fun s5 _ => T.all.length + 2 - (intOf s5).toNat)
  case atStart => exact ⟨0, by omega, rfl, hg1⟩
  case round =>
    obtain ⟨k, hk, rfl, hg⟩ := hrel
    have d2 := (HB.out.keep hg).cell 2 rfl
    by_cases hlt : k ≤ T.all.length + 1
    · have hAt := Lib.hid (at_v (HT.out.keep hg) HO.out (k : Int))
      have hRt := Lib.hid fun w3 (hq : Gr V w3) => refAt_r (HR.out.keep hq) HO.out (k : Int)
      have B2 := HB.out.keep hg
      have hwf : (k : Int) ≤ (T.all.length : Int) + 1 := by omega
      go_wp2_with fail
      refine hAt.out.mono ?_
      rintro e w3 ⟨o1, m1, c1, rfl, ho1, hg3⟩
      have Ho1 := Lib.hid ho1.rows
      have hg13 := hg.trans hg3
      have B3 := HB.out.keep hg13
      clear ho1 B2 d2 hAt
      go_wp2_with ((with_reducible refine wpList_load_box (ty := 31) (B3) ?_ ?_ Tryd.underlying31 ?_ ?_ ?_); (focus (exact rfl)); (focus (exact ⟨_, rfl, rfl⟩)); (focus (exact rfl)); (focus kernel_rfl))
      refine (hRt.out _ hg13).mono ?_
      rintro e w4 ⟨o2, m2, c2, rfl, ho2, hg4⟩
      have hg14 := hg13.trans hg4
      have hSm := Lib.hid (sameW_any o1 m1 c1 o2 m2 c2 (atL T k) w4 (Ho1.out.keep hg4) (ho2.keep (hW.trans (hg0.trans hg14))))
      have hh4 := hg14.keep hgh
      have hCd := Lib.hid fun w5 (hd : Gr V w5) => code_ev (atE T k) w5 (hd.keep hgh)
      clear ho2 Ho1 hRt B3 hg3 hg4 hh4
      generalize atE T k = ce at *
      generalize atL T k = le at *
      have hcc : (ce != ce) = false := by simp
      go_wp2_with (first | (go_at_call 23; (with_reducible refine hSm.out.mono ?_); rintro e w5 ⟨rfl, hd5⟩; have hg15 := hg14.trans hd5.gr) | (go_at_call 21; (with_reducible refine (hCd.out _ hg15).mono ?_); rintro e w6 ⟨rfl, hg6⟩; have hg16 := hg15.trans hg6))
      go_roundw
      case rel => exact ⟨k + 1, by omega, by go_num, hg16⟩
      case measure => simp [intOf]; omega
    · have hq : decide ((k : Int) ≤ (T.all.length : Int) + 1) = false := by simp; omega
      have d4 := (HB.out.keep hg).cell 4 rfl
      obtain ⟨WO, rfl⟩ : ∃ W0, W0 = wr := ⟨wr, rfl⟩
      go_wp2_with fail
      clear hq d2
      go_loopw [68] (fun s68 wx => ∃ (j : Nat), j ≤ T.marks.length ∧ s68 = .int .i64 j ∧ Gr V wx) (fun s68 _ => T.marks.length - (intOf s68).toNat)
      case atStart => exact ⟨0, Nat.zero_le _, rfl, hg⟩
      case round =>
        clear hg d4
        obtain ⟨j, hj, rfl, hg⟩ := hrel
        by_cases hlt2 : j < T.marks.length
        · have hMk := Lib.hid (marked_v (HT.out.keep hg) HO.out (j : Int))
          have hRm := Lib.hid (refMarked_r (HR.out.keep hg) HO.out (j : Int))
          have B2 := HB.out.keep hg
          have hCd := Lib.hid fun w5 (hd : Gr V w5) => code_ev (mkE T j) w5 (hd.keep hgh)
          generalize mkE T j = ce at *
          generalize mdN T j = me at *
          have hcc : (ce != ce) = false := by simp
          have hmm : (me != me) = false := by simp
          go_wp2_with (first | ((with_reducible refine wpList_load_box (ty := 31) (B2) ?_ ?_ Tryd.underlying31 ?_ ?_ ?_); (focus (exact rfl)); (focus (exact ⟨_, rfl, rfl⟩)); (focus (exact rfl)); (focus kernel_rfl)) | (go_at_call 26; (with_reducible refine hMk.out.mono ?_); rintro e w3 ⟨rfl, rfl⟩) | (go_at_call 27; (with_reducible refine hRm.out.mono ?_); rintro e w4 ⟨rfl, hg4⟩; have hg14 := hg.trans hg4) | (go_at_call 21; (with_reducible refine (hCd.out _ hg14).mono ?_); rintro e w6 ⟨rfl, hg6⟩; have hg16 := hg14.trans hg6))
          go_roundw
          case rel => exact ⟨j + 1, by omega, by go_num, hg16⟩
          case measure => simp [intOf]; omega
        · obtain rfl : j = T.marks.length := by omega
          go_wp2_with fail
          go_ret
          exact ⟨rfl, hg0.trans hg⟩
end
end Go.Proofs.YtfejdbcfcpmdiaaDoor
