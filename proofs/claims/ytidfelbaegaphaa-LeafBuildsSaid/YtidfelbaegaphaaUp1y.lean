import Derived.Test.YtidfelbaegaphaaLvy
namespace Go.Proofs.Ytidfelbaegaphaa
set_option linter.unusedVariables false
set_option linter.unusedSimpArgs false
open Go.BigFrame Go.RowKit Go.WideShapes

set_option maxRecDepth 100000 in
set_option maxHeartbeats 4000000 in
theorem up_put {base : Nat} (v : Vw) (x : Rx) (oa : Option Addr) (n cap : Nat) (oa2 : Option Addr) (n2 cap2 : Nat) (ob : Option Addr) (m cap3 : Nat) (w : World) (hR : RowsAt w oa n cap v.rows) (hn : n ≤ 1000000) (hb : base ≤ w.heap.size) (hv : VwSz v) (hx : RxSz x) (hk : x.r.kind = 2) :
    Calls Try.prog 28 #[vwV v oa n cap, rxV x oa2 n2 cap2 ob m cap3] w (UpPost base w (upP v x.r)) := by
  have hU : upP v x.r = if fitsB ⟨x.r.key, x.r.val⟩ = true ∧ v.gone = false ∧ hasK v x.r.key = true then some { v with rows := putL v.rows ⟨x.r.key, x.r.val⟩ } else none := by
    unfold upP; rw [if_pos hk]
  have HU := Lib.hid hU
  generalize upP v x.r = res at *
  obtain ⟨B0, hg0⟩ := up_boxes w v x oa n cap oa2 n2 cap2 ob m cap3
  have Hk := Lib.hid hk
  unfold upW at *
  clear hk hU
  obtain ⟨low, high, unb, right, rows, gone⟩ := v
  dsimp only at *
  generalize hBX : w.heap.size = BX at *
  go_enter Try.func28, Try.ntmps28
  go_upto_region 1 with fail
  generalize ((w.alloc (.cells #[.string low, .string high, .bool unb, .int .i64 right, .slice oa n cap, .bool gone] 27)).alloc (.cells #[.int .i64 x.r.kind, .string x.r.low, .string x.r.high, .bool x.r.unb, .int .i64 x.r.right, .slice oa2 n2 cap2, .slice ob m cap3, .string x.r.key, .string x.r.val, .int .i64 x.r.page, .int .i64 x.hpage, .int .i64 x.hleft, .string x.hkey, .int .i64 x.slot, .int .i64 x.gen] 35)).alloc (.cells #[.string ⟨#[]⟩, .string ⟨#[]⟩, .bool false, .int .i64 0, .slice none 0 0, .bool false] 27) = W at *
  have v4 := B0.v.cell 4 rfl
  have v5 := B0.v.cell 5 rfl
  have x0 := B0.x.cell 0 rfl
  have x7 := B0.x.cell 7 rfl
  have x8 := B0.x.cell 8 rfl
  rw [Hk.out] at x0
  have hlt := B0.lt
  cases hf : fitsB ⟨x.r.key, x.r.val⟩
  · have hno : res = none := by rw [HU.out, hf]; simp
    have Hno := Lib.hid hno
    have hP := Lib.hid (fun w1 => put_bad oa n cap x.r.key x.r.val w1 hx.key hx.val hf)
    clear hno hf
    go_wp2_with fail
    refine (hP.out _).mono ?_
    rintro e w1 ⟨rfl, hg1⟩
    have B1 := B0.keep hg1
    have v4' := B1.v.cell 4 rfl
    have f4 := B1.v.free 4 (by simp)
    clear v4 v5 x0 x7 x8
    go_upto_region 10 with fail
    have hgW : Gr w (w1.setCell ⟨BX, 4, none⟩ (.slice none 0 0)) := (hg0.trans hg1).setCell (Nat.le_of_eq hBX) _
    have B2 := B1.setV 4 (.slice none 0 0)
    generalize w1.setCell ⟨BX, 4, none⟩ (.slice none 0 0) = W2 at *
    go_wp2_with (first | (refine wpList_load_mid rfl 27 _ rfl _ 0 rfl _ _ (B2.v).rng Try.underlying27 rfl (by kernel_rfl) ?_) | (refine wpList_store_mid rfl 27 _ _ rfl _ 0 _ rfl rfl (B2.z).may (by kernel_rfl) (by kernel_rfl) ?_))
    refine bodyPost_ret ((B2.z.setAll (us := [.string low, .string high, .bool unb, .int .i64 right, .slice none 0 0, .bool gone]) rfl).ret2 rfl _ rfl rfl Try.underlying27 rfl (by kernel_rfl)) rfl ?_
    exact UpPost.no Hno.out (hgW.setCells (by omega) _ _) rfl
  · have hP := Lib.hid (fun w1 (hq : Gr W w1) => put_own oa n cap rows x.r.key x.r.val w1 (hR.keep (hg0.trans hq)) hn hx.key hx.val hf)
    have hU2 : res = if gone = false ∧ hasK ⟨low, high, unb, right, rows, gone⟩ x.r.key = true then some ⟨low, high, unb, right, putL rows ⟨x.r.key, x.r.val⟩, gone⟩ else none := by rw [HU.out, hf]; simp
    have HU2 := Lib.hid hU2
    clear hU2 hf
    go_wp2_with fail
    refine (hP.out _ (Gr.refl _)).mono ?_
    rintro e w1 ⟨o1, m1, c1, rfl, hO1, hg1⟩
    have B1 := B0.keep hg1
    have v4' := B1.v.cell 4 rfl
    have f4 := B1.v.free 4 (by simp)
    clear v4 v5 x0 x7 x8
    go_upto_region 10 with fail
    have hgW : Gr w (w1.setCell ⟨BX, 4, none⟩ (.slice o1 m1 c1)) := (hg0.trans hg1).setCell (Nat.le_of_eq hBX) _
    have B2 := B1.setV 4 (.slice o1 m1 c1)
    have hO2 := hO1.setLow (b := BX) (i := 4) (u := .slice o1 m1 c1) (by omega)
    have HO2 := Lib.hid hO2
    clear hO1 hO2
    generalize w1.setCell ⟨BX, 4, none⟩ (.slice o1 m1 c1) = W2 at *
    have hz2 : w.heap.size ≤ BX + 1 + 1 := by omega
    have hlow : BX + 1 + 1 < W.heap.size := by omega
    have hfin := Lib.hid fun (W3 : World) (hq : Gr W2 W3) (b : Bool) => up_end (base := base) (base2 := W.heap.size) (B2.z.keep hq) rfl (hgW.trans hq) hz2 (HO2.out.keep hq) hlow (by omega) (.string low) (.string high) (.bool unb) (.int .i64 right) (.slice o1 m1 c1) (.bool b)
    clear hR hP
    go_upto_region 12 with fail
    cases gone
    all_goals simp only [Bool.not_false, Bool.not_true]
    · have hH := Lib.hid fun w3 => has_any ⟨low, high, unb, right, rows, false⟩ o1 m1 c1 x.r.key w3 ⟨hv.low, hv.high⟩ hx.key
      have v0 := (B2).v.cell 0 rfl; have v1 := (B2).v.cell 1 rfl; have v2 := (B2).v.cell 2 rfl; have v3 := (B2).v.cell 3 rfl; have v4 := (B2).v.cell 4 rfl; have v5 := (B2).v.cell 5 rfl; have z0 := (B2).z.cell 0 rfl; have z1 := (B2).z.cell 1 rfl; have z2 := (B2).z.cell 2 rfl; have z3 := (B2).z.cell 3 rfl; have z4 := (B2).z.cell 4 rfl; have z5 := (B2).z.cell 5 rfl; have f0 := (B2).z.free 0 (by simp); have f1 := (B2).z.free 1 (by simp); have f2 := (B2).z.free 2 (by simp); have f3 := (B2).z.free 3 (by simp); have f4 := (B2).z.free 4 (by simp); have f5 := (B2).z.free 5 (by simp)
      have x7 := B2.x.cell 7 rfl
      go_cut [5] (fun s5 wx => s5 = .bool (hasK ⟨low, high, unb, right, rows, false⟩ x.r.key) ∧ UpEnd base BX w wx [.string low, .string high, .bool unb, .int .i64 right, .slice o1 m1 c1, .bool false] o1 m1 c1 (putL rows ⟨x.r.key, x.r.val⟩))
      case first =>
        go_region_held3 (fun W' => W'.cell? ⟨BX, 0, none⟩ = some (.string low) ∧ W'.cell? ⟨BX, 1, none⟩ = some (.string high) ∧ W'.cell? ⟨BX, 2, none⟩ = some (.bool unb) ∧ W'.cell? ⟨BX, 3, none⟩ = some (.int .i64 right) ∧ W'.cell? ⟨BX, 4, none⟩ = some (.slice o1 m1 c1) ∧ W'.cell? ⟨BX, 5, none⟩ = some (.bool false) ∧ W'.cell? ⟨BX + 1, 7, none⟩ = some (.string x.r.key))
          ((go_split_ands; (repeat' apply And.intro) <;> first | with_reducible assumption | (with_reducible refine drew1 ?_; with_reducible assumption) | (with_reducible refine Gr.keep hg3 ?_; with_reducible assumption) | ((repeat (with_reducible refine far1 ?_ (by omega))); with_reducible assumption))) (first | (go_at_call 38; refine (hH.out _).mono ?_; rintro e w3 ⟨rfl, hg3⟩; have B3 := B2.keep (((Gr.refl W2).drew).trans hg3); have v0 := (B3).v.cell 0 rfl; have v1 := (B3).v.cell 1 rfl; have v2 := (B3).v.cell 2 rfl; have v3 := (B3).v.cell 3 rfl; have v4 := (B3).v.cell 4 rfl; have v5 := (B3).v.cell 5 rfl; have z0 := (B3).z.cell 0 rfl; have z1 := (B3).z.cell 1 rfl; have z2 := (B3).z.cell 2 rfl; have z3 := (B3).z.cell 3 rfl; have z4 := (B3).z.cell 4 rfl; have z5 := (B3).z.cell 5 rfl; have f0 := (B3).z.free 0 (by simp); have f1 := (B3).z.free 1 (by simp); have f2 := (B3).z.free 2 (by simp); have f3 := (B3).z.free 3 (by simp); have f4 := (B3).z.free 4 (by simp); have f5 := (B3).z.free 5 (by simp)))
        all_goals (go_wp2_with fail; go_meet; with_reducible exact ⟨rfl, hfin.out _ (((Gr.refl W2).drew).trans hg3) false⟩)
      case rest =>
        obtain ⟨rfl, hE⟩ := hcut
        go_wp2_with fail
        refine bodyPost_ret (Bx.ret2 hE.z rfl _ rfl rfl Try.underlying27 rfl (by kernel_rfl)) rfl ?_
        exact UpPost.mk (v2 := ⟨low, high, unb, right, putL rows ⟨x.r.key, x.r.val⟩, false⟩) (by rw [HU2.out]; simp) (fun _ => hE.own) hE.gr rfl
    · have hno : res = none := by rw [HU2.out]; simp
      have Hno := Lib.hid hno
      clear hno
      have v0 := (B2).v.cell 0 rfl; have v1 := (B2).v.cell 1 rfl; have v2 := (B2).v.cell 2 rfl; have v3 := (B2).v.cell 3 rfl; have v4 := (B2).v.cell 4 rfl; have v5 := (B2).v.cell 5 rfl; have z0 := (B2).z.cell 0 rfl; have z1 := (B2).z.cell 1 rfl; have z2 := (B2).z.cell 2 rfl; have z3 := (B2).z.cell 3 rfl; have z4 := (B2).z.cell 4 rfl; have z5 := (B2).z.cell 5 rfl; have f0 := (B2).z.free 0 (by simp); have f1 := (B2).z.free 1 (by simp); have f2 := (B2).z.free 2 (by simp); have f3 := (B2).z.free 3 (by simp); have f4 := (B2).z.free 4 (by simp); have f5 := (B2).z.free 5 (by simp)
      go_cut [5] (fun s5 wx => s5 = .bool false ∧ UpEnd base BX w wx [.string low, .string high, .bool unb, .int .i64 right, .slice o1 m1 c1, .bool true] o1 m1 c1 (putL rows ⟨x.r.key, x.r.val⟩))
      case first =>
        go_region
        all_goals (go_wp2_with fail; go_meet; with_reducible exact ⟨rfl, (hfin.out _ (Gr.refl W2) true).drew⟩)
      case rest =>
        obtain ⟨rfl, hE⟩ := hcut
        go_wp2_with fail
        refine bodyPost_ret (Bx.ret2 hE.z rfl _ rfl rfl Try.underlying27 rfl (by kernel_rfl)) rfl ?_
        exact UpPost.no Hno.out hE.gr rfl
end Go.Proofs.Ytidfelbaegaphaa

namespace Go.Proofs.Ytidfelbaegaphaa
set_option linter.unusedVariables false
set_option linter.unusedSimpArgs false
open Go.BigFrame Go.RowKit Go.WideShapes

set_option maxRecDepth 100000 in
set_option maxHeartbeats 4000000 in
theorem up_split {base : Nat} (v : Vw) (x : Rx) (oa : Option Addr) (n cap : Nat) (oa2 : Option Addr) (n2 cap2 : Nat) (ob : Option Addr) (m cap3 : Nat) (w : World) (hR : RowsAt w oa n cap v.rows) (hn : n ≤ 1000000) (hb : base ≤ w.heap.size) (hv : VwSz v) (hx : RxSz x) (hk : x.r.kind = 4) :
    Calls Try.prog 28 #[vwV v oa n cap, rxV x oa2 n2 cap2 ob m cap3] w (UpPost base w (upP v x.r)) := by
  have hU : upP v x.r = if v.gone = false ∧ hasK v x.r.key = true ∧ Str.cmp (Tx v.low) (Tx x.r.key) < 0 then some { v with rows := v.rows.take (place x.r.key v.rows), high := x.r.key, unb := false, right := x.r.page } else none := by
    unfold upP; rw [if_neg (by omega), if_neg (by omega), if_pos hk]
  have HU := Lib.hid hU
  generalize upP v x.r = res at *
  obtain ⟨B0, hg0⟩ := up_boxes w v x oa n cap oa2 n2 cap2 ob m cap3
  have Hk := Lib.hid hk
  unfold upW at *
  clear hk hU
  obtain ⟨low, high, unb, right, rows, gone⟩ := v
  dsimp only at *
  generalize hBX : w.heap.size = BX at *
  go_enter Try.func28, Try.ntmps28
  go_upto_region 1 with fail
  generalize ((w.alloc (.cells #[.string low, .string high, .bool unb, .int .i64 right, .slice oa n cap, .bool gone] 27)).alloc (.cells #[.int .i64 x.r.kind, .string x.r.low, .string x.r.high, .bool x.r.unb, .int .i64 x.r.right, .slice oa2 n2 cap2, .slice ob m cap3, .string x.r.key, .string x.r.val, .int .i64 x.r.page, .int .i64 x.hpage, .int .i64 x.hleft, .string x.hkey, .int .i64 x.slot, .int .i64 x.gen] 35)).alloc (.cells #[.string ⟨#[]⟩, .string ⟨#[]⟩, .bool false, .int .i64 0, .slice none 0 0, .bool false] 27) = W at *
  have v5 := B0.v.cell 5 rfl
  have x0 := B0.x.cell 0 rfl
  rw [Hk.out] at x0
  have hlt := B0.lt
  obtain ⟨B, hB⟩ : ∃ B : Bool, B = (!gone && (hasK ⟨low, high, unb, right, rows, gone⟩ x.r.key && decide (Str.cmp (Tx low) (Tx x.r.key) < 0))) := ⟨_, rfl⟩
  have HB := Lib.hid hB
  clear hB
  have hH := Lib.hid fun w3 => has_any ⟨low, high, unb, right, rows, gone⟩ oa n cap x.r.key w3 ⟨hv.low, hv.high⟩ hx.key
  have hC := Lib.hid fun w3 => compare_any low x.r.key w3 hv.low hx.key
  go_upto_region 15 with fail
  go_cut [6] (fun s6 wx => s6 = .bool B ∧ Gr W wx)
  case first =>
    have x7 := B0.x.cell 7 rfl
    have v0 := (B0).v.cell 0 rfl; have v1 := (B0).v.cell 1 rfl; have v2 := (B0).v.cell 2 rfl; have v3 := (B0).v.cell 3 rfl; have v4 := (B0).v.cell 4 rfl; have v5 := (B0).v.cell 5 rfl
    cases gone
    all_goals simp only [Bool.not_false, Bool.not_true]
    · cases hh : hasK ⟨low, high, unb, right, rows, false⟩ x.r.key
      · rw [hh] at hH HB
        have HB2 : Hid (B = false) := Lib.hid (by rw [HB.out]; rfl)
        clear hh HB
        go_wp2_with (first | (go_at_call 38; (with_reducible refine (hH.out _).mono ?_); rintro e w3 ⟨rfl, hg3⟩))
        go_meet
        with_reducible exact ⟨congrArg Value.bool HB2.out.symm, hg3⟩
      · rw [hh] at hH HB
        have HB2 : Hid (B = decide (Str.cmp (Tx low) (Tx x.r.key) < 0)) := Lib.hid (by rw [HB.out]; simp)
        clear hh HB
        go_wp2_with (first | (go_at_call 38; (with_reducible refine (hH.out _).mono ?_); rintro e w3 ⟨rfl, hg3⟩; have B3 := B0.keep hg3; have v0 := B3.v.cell 0 rfl; have x7 := B3.x.cell 7 rfl) | (go_at_call 40; (with_reducible refine (hC.out _).mono ?_); rintro e w4 ⟨rfl, hd4⟩))
        go_meet
        with_reducible exact ⟨congrArg Value.bool HB2.out.symm, hg3.trans hd4.gr⟩
    · have HB2 : Hid (B = false) := Lib.hid (by rw [HB.out]; rfl)
      go_wp2_with fail
      go_meet
      with_reducible exact ⟨congrArg Value.bool HB2.out.symm, Gr.refl _⟩
  case rest =>
    obtain ⟨rfl, hgc⟩ := hcut
    have B1 := B0.keep hgc
    have v4 := B1.v.cell 4 rfl
    have x7 := B1.x.cell 7 rfl
    have hP := Lib.hid (cut_own oa n cap rows x.r.key wc (hR.keep (hg0.trans hgc)) hn hx.key)
    clear v5 x0
    go_wp2_with fail
    (with_reducible refine hP.out.mono ?_)
    rintro e w1 ⟨o1, m1, c1, o2, m2, c2, rfl, hO1, -, hg1⟩
    have B2 := B1.keep hg1
    have v4' := B2.v.cell 4 rfl
    have f4 := B2.v.free 4 (by simp)
    clear v4 x7
    go_upto_region 17 with fail
    have hgW : Gr w (w1.setCell ⟨BX, 4, none⟩ (.slice o1 m1 c1)) := ((hg0.trans hgc).trans hg1).setCell (Nat.le_of_eq hBX) _
    have B3 := B2.setV 4 (.slice o1 m1 c1)
    have hO2 := (hO1.setLow (b := BX) (i := 4) (u := .slice o1 m1 c1) (by have := hgc.le; omega)).lower2 (Nat.le_trans (Nat.le_of_eq rfl) hgc.le)
    have HO2 := Lib.hid hO2
    clear hO1 hO2 v4'
    generalize w1.setCell ⟨BX, 4, none⟩ (.slice o1 m1 c1) = W2 at *
    have x7 := B3.x.cell 7 rfl
    have x9 := B3.x.cell 9 rfl
    have v1 := B3.v.cell 1 rfl
    have v2 := B3.v.cell 2 rfl
    have v3 := B3.v.cell 3 rfl
    have f1 := B3.v.free 1 (by simp)
    have f2 := B3.v.free 2 (by simp)
    have f3 := B3.v.free 3 (by simp)
    have hend := Lib.hid (show Up3 ((((W2.setCell ⟨BX, 1, none⟩ (.string x.r.key)).setCell ⟨BX, 2, none⟩ (.bool false)).setCell ⟨BX, 3, none⟩ (.int .i64 x.r.page)).drew) BX [.string low, .string x.r.key, .bool false, .int .i64 x.r.page, .slice o1 m1 c1, .bool gone] (xL x oa2 n2 cap2 ob m cap3) zL ∧ Gr w ((((W2.setCell ⟨BX, 1, none⟩ (.string x.r.key)).setCell ⟨BX, 2, none⟩ (.bool false)).setCell ⟨BX, 3, none⟩ (.int .i64 x.r.page)).drew) ∧ OwnAt ((((W2.setCell ⟨BX, 1, none⟩ (.string x.r.key)).setCell ⟨BX, 2, none⟩ (.bool false)).setCell ⟨BX, 3, none⟩ (.int .i64 x.r.page)).drew) W.heap.size o1 m1 c1 (rows.take (place x.r.key rows)) from
      ⟨(((B3.setV 1 _).setV 2 _).setV 3 _).keep (Gr.refl _).drew, (((hgW.setCell (Nat.le_of_eq hBX) _).setCell (Nat.le_of_eq hBX) _).setCell (Nat.le_of_eq hBX) _).drew, ((((HO2.out.setLow (by omega)).setLow (by omega)).setLow (by omega)).keep (Gr.refl _).drew)⟩)
    go_cut [] (fun wx => Up3 wx BX [.string low, .string x.r.key, .bool false, .int .i64 x.r.page, .slice o1 m1 c1, .bool gone] (xL x oa2 n2 cap2 ob m cap3) zL ∧ Gr w wx ∧ OwnAt wx W.heap.size o1 m1 c1 (rows.take (place x.r.key rows)))
    case first =>
      go_region
      all_goals (go_wp2_with fail; go_meet; with_reducible exact hend.out)
    case rest =>
      obtain ⟨B4, hg4, hO4⟩ := hcut
      clear x7 x9 v1 v2 v3 f1 f2 f3 hend
      go_wp2_with (first | (refine wpList_load_mid rfl 27 _ rfl _ 0 rfl _ _ (B4.v).rng Try.underlying27 rfl (by kernel_rfl) ?_) | (refine wpList_store_mid rfl 27 _ _ rfl _ 0 _ rfl rfl (B4.z).may (by kernel_rfl) (by kernel_rfl) ?_))
      refine bodyPost_ret ((B4.z.setAll (us := [.string low, .string x.r.key, .bool false, .int .i64 x.r.page, .slice o1 m1 c1, .bool gone]) rfl).ret2 rfl _ rfl rfl Try.underlying27 rfl (by kernel_rfl)) rfl ?_
      refine UpPost.mk (v2 := ⟨low, x.r.key, false, x.r.page, rows.take (place x.r.key rows), gone⟩) (by rw [HU.out, HB.out]; cases gone <;> simp [Bool.and_eq_true]) (fun _ => (hO4.setLows (by omega) _ 0).lower2 (by omega)) (hg4.setCells (by omega) _ _) rfl
end Go.Proofs.Ytidfelbaegaphaa
