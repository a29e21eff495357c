import Derived.Test.YtidfelbaegaphaaLvy
namespace Go.Proofs.Ytidfelbaegaphaa
set_option linter.unusedVariables false
set_option linter.unusedSimpArgs false
open Go.BigFrame Go.RowKit Go.WideShapes

set_option maxRecDepth 100000 in
set_option maxHeartbeats 8000000 in
theorem up_merge {base : Nat} (v : Vw) (x : Rx) (oa : Option Addr) (n cap : Nat) (oa2 : Option Addr) (n2 cap2 : Nat) (ob : Option Addr) (m cap3 : Nat) (w : World) (hR : RowsAt w oa n cap v.rows) (hR2 : RowsAt w oa2 n2 cap2 x.r.rows) (hn : n ≤ 1000000) (hn2 : n2 ≤ 1000000) (hb : base ≤ w.heap.size) (hv : VwSz v) (hx : RxSz x) (hk : x.r.kind = 6) :
    Calls Try.prog 28 #[vwV v oa n cap, rxV x oa2 n2 cap2 ob m cap3] w (UpPost base w (upP v x.r)) := by
  have hU : upP v x.r = if v.gone = false ∧ v.unb = false ∧ v.high = x.r.key ∧ soundP x.r.rows x.r.key x.r.high x.r.unb = true ∧ (x.r.unb = true ∨ Str.cmp (Tx x.r.key) (Tx x.r.high) < 0) ∧ joinOk v.rows x.r.rows = true then some { v with rows := v.rows ++ x.r.rows, high := x.r.high, unb := x.r.unb, right := x.r.right } else none := by
    unfold upP; rw [if_neg (by omega), if_neg (by omega), if_neg (by omega), if_pos hk]
  have HU := Lib.hid hU
  generalize upP v x.r = res at *
  obtain ⟨B0, hg0⟩ := up_boxes w v x oa n cap oa2 n2 cap2 ob m cap3
  have Hk := Lib.hid hk
  unfold upW at *
  clear hk hU
  obtain ⟨low, high, unb, right, rows, gone⟩ := v
  dsimp only at *
  generalize hBX : w.heap.size = BX at *
  go_enter Try.func28, Try.ntmps28
  go_upto_region 1 with fail
  generalize ((w.alloc (.cells #[.string low, .string high, .bool unb, .int .i64 right, .slice oa n cap, .bool gone] 27)).alloc (.cells #[.int .i64 x.r.kind, .string x.r.low, .string x.r.high, .bool x.r.unb, .int .i64 x.r.right, .slice oa2 n2 cap2, .slice ob m cap3, .string x.r.key, .string x.r.val, .int .i64 x.r.page, .int .i64 x.hpage, .int .i64 x.hleft, .string x.hkey, .int .i64 x.slot, .int .i64 x.gen] 35)).alloc (.cells #[.string ⟨#[]⟩, .string ⟨#[]⟩, .bool false, .int .i64 0, .slice none 0 0, .bool false] 27) = W at *
  have v5 := B0.v.cell 5 rfl
  have x0 := B0.x.cell 0 rfl
  rw [Hk.out] at x0
  have hlt := B0.lt
  obtain ⟨B, hB⟩ : ∃ B : Bool, B = (!gone && (!unb && (decide (high = x.r.key) && (soundP x.r.rows x.r.key x.r.high x.r.unb && (x.r.unb || decide (Str.cmp (Tx x.r.key) (Tx x.r.high) < 0)))))) := ⟨_, rfl⟩
  have HB := Lib.hid hB
  clear hB
  have hS := Lib.hid fun w3 (hq : Gr W w3) => sound_any x.r.rows oa2 n2 cap2 x.r.key x.r.high x.r.unb w3 (hR2.keep (hg0.trans hq)) hn2 hx.key hx.high
  have hC := Lib.hid fun w3 => compare_any x.r.key x.r.high w3 hx.key hx.high
  have x2 := B0.x.cell 2 rfl
  have x3 := B0.x.cell 3 rfl
  have x7 := B0.x.cell 7 rfl
  go_upto_region 18 with fail
  go_cut [10] (fun s10 wx => ∃ b : Nat, s10 = .pointer (some ⟨b, 0, none⟩) ∧ Bx wx b [.string x.r.key, .string x.r.high, .bool x.r.unb] ∧ Gr W wx ∧ W.heap.size ≤ b)
  case first =>
    go_wp2_with fail
    go_meet
    exact ⟨W.heap.size, rfl, Bx.new W #[.string x.r.key, .string x.r.high, .bool x.r.unb] _ rfl, (Gr.refl _).alloc _, Nat.le_refl _⟩
  case rest =>
    obtain ⟨b10, rfl, hb10, hgs, hbl⟩ := hcut
    have B1 := B0.keep hgs
    clear x2 x3 x7
    go_upto_region 19 with fail
    go_cut [6] (fun s6 wx => s6 = .bool B ∧ Gr W wx)
    case first =>
      have v2 := B1.v.cell 2 rfl
      have v1 := B1.v.cell 1 rfl
      have x7 := B1.x.cell 7 rfl
      have x5 := B1.x.cell 5 rfl
      have x3 := B1.x.cell 3 rfl
      have x2 := B1.x.cell 2 rfl
      have s0 := hb10.cell 0 rfl
      have s1 := hb10.cell 1 rfl
      have s2 := hb10.cell 2 rfl
      have hSn := Lib.hid (hS.out _ hgs)
      cases gone
      all_goals simp only [Bool.not_false, Bool.not_true]
      · cases unb
        · by_cases he : high = x.r.key
          · have hf := eqL he
            cases hs : soundP x.r.rows x.r.key x.r.high x.r.unb
            · rw [hs] at hSn
              have HB2 : Hid (B = false) := Lib.hid (by rw [HB.out, hs]; simp)
              clear hs he
              go_wp2_with (first | (go_at_call 26; (with_reducible refine hSn.out.mono ?_); rintro e w3 ⟨rfl, hg3⟩))
              go_meet
              with_reducible exact ⟨congrArg Value.bool HB2.out.symm, hgs.trans hg3⟩
            · rw [hs] at hSn
              cases hu : x.r.unb
              · have HB2 : Hid (B = decide (Str.cmp (Tx x.r.key) (Tx x.r.high) < 0)) := Lib.hid (by rw [HB.out, hs, he, hu]; simp)
                rw [hu] at hSn x3 s2
                clear hs he hu
                go_wp2_with (first | (go_at_call 26; (with_reducible refine hSn.out.mono ?_); rintro e w3 ⟨rfl, hg3⟩; have x3 := hg3.keep x3; have x7 := hg3.keep x7; have x2 := hg3.keep x2) | (go_at_call 40; (with_reducible refine (hC.out _).mono ?_); rintro e w4 ⟨rfl, hd4⟩))
                go_meet
                with_reducible exact ⟨congrArg Value.bool HB2.out.symm, (hgs.trans hg3).trans hd4.gr⟩
              · have HB2 : Hid (B = true) := Lib.hid (by rw [HB.out, hs, he, hu]; simp)
                rw [hu] at hSn x3 s2
                clear hs he hu
                go_wp2_with (first | (go_at_call 26; (with_reducible refine hSn.out.mono ?_); rintro e w3 ⟨rfl, hg3⟩; have x3 := hg3.keep x3))
                go_meet
                with_reducible exact ⟨congrArg Value.bool HB2.out.symm, hgs.trans hg3⟩
          · have hf := neL he
            have HB2 : Hid (B = false) := Lib.hid (by rw [HB.out, decide_eq_false he]; simp)
            clear he
            go_wp2_with fail
            go_meet
            with_reducible exact ⟨congrArg Value.bool HB2.out.symm, hgs⟩
        · have HB2 : Hid (B = false) := Lib.hid (by rw [HB.out]; rfl)
          go_wp2_with fail
          go_meet
          with_reducible exact ⟨congrArg Value.bool HB2.out.symm, hgs⟩
      · have HB2 : Hid (B = false) := Lib.hid (by rw [HB.out]; rfl)
        go_wp2_with fail
        go_meet
        with_reducible exact ⟨congrArg Value.bool HB2.out.symm, hgs⟩
    case rest =>
      obtain ⟨rfl, hgc⟩ := hcut
      clear hS hC
      have B2 := B0.keep hgc
      have v4 := B2.v.cell 4 rfl
      have x5 := B2.x.cell 5 rfl
      have hR3 := Lib.hid (hR.keep (hg0.trans hgc))
      have hR4 := Lib.hid (hR2.keep (hg0.trans hgc))
      have hl1 := hR.len
      have hl2 := hR2.len
      have Hl1 := Lib.hid hl1
      have Hl2 := Lib.hid hl2
      clear hl1 hl2 hR hR2 v5 x0 hgs hbl hb10 B1
      cases hj : joinOk rows x.r.rows
      · have hj2 : 0 < n ∧ 0 < n2 ∧ 0 ≤ Str.cmp (Tx (kAt rows (n - 1))) (Tx (kAt x.r.rows 0)) := by
          unfold joinOk at hj
          rw [decide_eq_false_iff_not, not_or, not_or] at hj
          rw [← Hl1.out, ← Hl2.out]
          exact ⟨List.length_pos_iff.2 hj.1, List.length_pos_iff.2 hj.2.1, by omega⟩
        have hno : res = none := by rw [HU.out, hj]; simp
        have Hno := Lib.hid hno
        have hP := Lib.hid (join_no oa oa2 n cap n2 cap2 rows x.r.rows wc hR3.out hR4.out hn hn2 hj2.1 hj2.2.1 hj2.2.2)
        clear hno hj hj2
        go_wp2_with fail
        (with_reducible refine hP.out.mono ?_)
        rintro e w1 ⟨rfl, hg1⟩
        have B3 := B2.keep hg1
        clear v4 x5
        go_wp2_with (first | (refine wpList_load_mid rfl 27 _ rfl _ 0 rfl _ _ (B3.v).rng Try.underlying27 rfl (by kernel_rfl) ?_) | (refine wpList_store_mid rfl 27 _ _ rfl _ 0 _ rfl rfl (B3.z).may (by kernel_rfl) (by kernel_rfl) ?_))
        refine bodyPost_ret ((B3.z.setAll (us := [.string low, .string high, .bool unb, .int .i64 right, .slice oa n cap, .bool gone]) rfl).ret2 rfl _ rfl rfl Try.underlying27 rfl (by kernel_rfl)) rfl ?_
        refine UpPost.no Hno.out ?_ rfl
        exact ((hg0.trans hgc).trans hg1).setCells (by omega) _ _
      · have hj2 : joinable rows x.r.rows := by
          unfold joinOk at hj
          rw [decide_eq_true_iff] at hj
          intro q1 q2
          rcases hj with r | r | r
          · rw [r] at q1; simp at q1
          · rw [r] at q2; simp at q2
          · exact r
        have hU3 : res = if B = true then some ⟨low, x.r.high, x.r.unb, x.r.right, rows ++ x.r.rows, gone⟩ else none := by
          rw [HU.out, HB.out, hj]; cases gone <;> cases unb <;> simp [Bool.and_eq_true]
        have HU3 := Lib.hid hU3
        have hP := Lib.hid (join_own oa oa2 n cap n2 cap2 rows x.r.rows wc hR3.out hR4.out hn hn2 hj2)
        clear hU3 hj hj2
        go_wp2_with fail
        (with_reducible refine hP.out.mono ?_)
        rintro e w1 ⟨o1, m1, c1, rfl, hO1, hg1⟩
        have hO1 := Lib.hid (hO1.lower2 hgc.le)
        have B3 := B2.keep hg1
        clear v4 x5
        go_upto_region 23 with fail
        have hgW := (hg0.trans hgc).trans hg1
        have hlt3 : W.heap.size ≤ w1.heap.size := (hgc.trans hg1).le
        have x2 := B3.x.cell 2 rfl
        have x3 := B3.x.cell 3 rfl
        have x4 := B3.x.cell 4 rfl
        have v1 := B3.v.cell 1 rfl
        have v2 := B3.v.cell 2 rfl
        have v3 := B3.v.cell 3 rfl
        have v4 := B3.v.cell 4 rfl
        have f1 := B3.v.free 1 (by simp)
        have f2 := B3.v.free 2 (by simp)
        have f3 := B3.v.free 3 (by simp)
        have f4 := B3.v.free 4 (by simp)
        have hend := Lib.hid (show Up3 (((((w1.setCell ⟨BX, 4, none⟩ (.slice o1 m1 c1)).setCell ⟨BX, 1, none⟩ (.string x.r.high)).setCell ⟨BX, 2, none⟩ (.bool x.r.unb)).setCell ⟨BX, 3, none⟩ (.int .i64 x.r.right)).drew) BX [.string low, .string x.r.high, .bool x.r.unb, .int .i64 x.r.right, .slice o1 m1 c1, .bool gone] (xL x oa2 n2 cap2 ob m cap3) zL ∧ Gr w (((((w1.setCell ⟨BX, 4, none⟩ (.slice o1 m1 c1)).setCell ⟨BX, 1, none⟩ (.string x.r.high)).setCell ⟨BX, 2, none⟩ (.bool x.r.unb)).setCell ⟨BX, 3, none⟩ (.int .i64 x.r.right)).drew) ∧ OwnAt (((((w1.setCell ⟨BX, 4, none⟩ (.slice o1 m1 c1)).setCell ⟨BX, 1, none⟩ (.string x.r.high)).setCell ⟨BX, 2, none⟩ (.bool x.r.unb)).setCell ⟨BX, 3, none⟩ (.int .i64 x.r.right)).drew) W.heap.size o1 m1 c1 (rows ++ x.r.rows) from
          ⟨((((B3.setV 4 _).setV 1 _).setV 2 _).setV 3 _).keep (Gr.refl _).drew, ((((hgW.setCell (Nat.le_of_eq hBX) _).setCell (Nat.le_of_eq hBX) _).setCell (Nat.le_of_eq hBX) _).setCell (Nat.le_of_eq hBX) _).drew, (((((hO1.out.setLow (by omega)).setLow (by omega)).setLow (by omega)).setLow (by omega)).keep (Gr.refl _).drew)⟩)
        go_cut [] (fun wx => Up3 wx BX [.string low, .string x.r.high, .bool x.r.unb, .int .i64 x.r.right, .slice o1 m1 c1, .bool gone] (xL x oa2 n2 cap2 ob m cap3) zL ∧ Gr w wx ∧ OwnAt wx W.heap.size o1 m1 c1 (rows ++ x.r.rows))
        case first =>
          go_region
          all_goals (go_wp2_with fail; go_meet; with_reducible exact hend.out)
        case rest =>
          obtain ⟨B4, hg4, hO4⟩ := hcut
          clear x2 x3 x4 v1 v2 v3 v4 f1 f2 f3 f4 hend
          go_wp2_with (first | (refine wpList_load_mid rfl 27 _ rfl _ 0 rfl _ _ (B4.v).rng Try.underlying27 rfl (by kernel_rfl) ?_) | (refine wpList_store_mid rfl 27 _ _ rfl _ 0 _ rfl rfl (B4.z).may (by kernel_rfl) (by kernel_rfl) ?_))
          refine bodyPost_ret ((B4.z.setAll (us := [.string low, .string x.r.high, .bool x.r.unb, .int .i64 x.r.right, .slice o1 m1 c1, .bool gone]) rfl).ret2 rfl _ rfl rfl Try.underlying27 rfl (by kernel_rfl)) rfl ?_
          refine UpPost.mk (v2 := ⟨low, x.r.high, x.r.unb, x.r.right, rows ++ x.r.rows, gone⟩) HU3.out (fun _ => (hO4.setLows (by omega) _ 0).lower2 (by omega)) (hg4.setCells (by omega) _ _) rfl
end Go.Proofs.Ytidfelbaegaphaa
