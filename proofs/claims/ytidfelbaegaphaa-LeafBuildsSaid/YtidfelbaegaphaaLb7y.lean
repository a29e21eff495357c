import Derived.Test.YtidfelbaegaphaaFw7y
import Derived.Test.YtidfelbaegaphaaRfy
import Derived.Test.YtidfelbaegaphaaSp9y
import Derived.Test.YtidfelbaegaphaaStry
import Derived.Deep.RegionHeld3
namespace Go.Proofs.Ytidfelbaegaphaa
set_option linter.unusedVariables false
set_option linter.unusedSimpArgs false
open Go.BigFrame Go.RowKit Go.WideShapes

/-! The law of bases, splits, growths and merges. -/
set_option maxRecDepth 100000 in
theorem faultIs7 (n m : Int) (w : World) : Calls Try.prog 13 #[errV n, .int .i64 m] w fun e w' => e = .returned (.bool (n == m)) ∧ Gr w w' := by
  go_enter Try.func13, Try.ntmps13
  go_wp2_with fail
  refine (is_code n m _).mono ?_
  rintro e w1 ⟨rfl, rfl⟩
  go_wp2_with fail
  go_ret
  exact ⟨rfl, by repeat (first | with_reducible exact Gr.refl _ | with_reducible refine Gr.drewN ?_ _ | with_reducible refine Gr.drew ?_ | with_reducible refine Gr.alloc ?_ _ | with_reducible refine Gr.setCell ?_ ?_ _ | (with_reducible refine Gr.trans ?_ (by assumption)) | omega | (dsimp only; omega))⟩
/-- the four ways -/
theorem ways (v : Vw) {n : Nat} (hl : v.rows.length = n) :
    (v.gone = false ∧ 2 ≤ n ∧ errE v = .nilIface ∧ (hvV v).1.isSome = true ∧ errM v = errV 13) ∨ (v.gone = true ∧ errE v = errV 13 ∧ (hvV v).1.isSome = false ∧ errM v = .nilIface) ∨
    (v.gone = false ∧ n < 2 ∧ errE v = errV 2 ∧ (hvV v).1.isSome = false ∧ errM v = errV 13) ∨ (v.gone = false ∧ 2 ≤ n ∧ errE v = errV 1 ∧ (hvV v).1.isSome = false ∧ errM v = errV 13) := by
  unfold errE errM hvV hvK
  rw [hl]
  cases v.gone
  · by_cases h2 : n < 2
    · simp [h2]
    · by_cases hc : Str.cmp (Tx (kAt v.rows (n / 2 - 1))) (Tx (kAt v.rows (n / 2))) < 0
      · simp [h2, hc]; omega
      · simp [h2, hc]; omega
  · simp
set_option maxRecDepth 100000 in
set_option maxHeartbeats 40000000 in
theorem builds7 (v : Vw) (left right : Int) (oa : Option Addr) (n cap : Nat) (w : World) (h : RowsAt w oa n cap v.rows) (hv : VwSz v) :
    Calls Try.prog 3 #[vwV v oa n cap, .int .i64 left, .int .i64 right] w fun e w' => e = .returned (.bool true) ∧ Gr w w' := by
  have B0 : Bx (w.alloc (.cells (vL v oa n cap).toArray 24)) w.heap.size (vL v oa n cap) := (Bx.new w _ _ rfl).of (by simp)
  have hg0 := (Gr.refl w).alloc (.cells (vL v oa n cap).toArray 24)
  have HV := Lib.hid hv
  have HW := Lib.hid (ways v h.len)
  have hR0 := h.keep hg0
  clear h hv
  go_enter Try.func3, Try.ntmps3
  go_upto_region 1 with fail
  generalize w.alloc (.cells (vL v oa n cap).toArray 24) = W at *
  generalize w.heap.size = b3 at *
  have HR := Lib.hid hR0
  have hFe := Lib.hid (fewV_any v oa n cap W hR0 HV.out)
  clear hR0
  go_cut [28] (fun s28 wx => ∃ t : Bool, s28 = .bool t ∧ Gr W wx ∧ Hid (t = false → n ≤ 100))
  case first =>
    go_wp2_with (first | ((with_reducible refine wpList_load_box (ty := 24) (B0) ?_ ?_ Try.underlying24 ?_ ?_ ?_); (focus (exact rfl)); (focus (exact ⟨_, rfl, rfl⟩)); (focus (exact rfl)); (focus kernel_rfl)) | (go_at_call 4; (with_reducible refine hFe.out.mono ?_); rintro e w1 ⟨⟨b, rfl, hb⟩, hg1⟩; have Hb := Lib.hid hb; clear hb; cases b))
    all_goals
      go_meet
      first
      | exact ⟨true, rfl, hg1, Lib.hid fun q => by cases q⟩
      | exact ⟨_, rfl, hg1, Lib.hid fun q => Hb.out (by trivial)⟩
  case rest =>
    obtain ⟨t, rfl, hg1, Ht⟩ := hcut
    cases t
    rotate_left
    · go_wp2_with (go_at_call 5; (with_reducible refine (awake7_any _).mono ?_); rintro e w1 ⟨rfl, hg2⟩)
      go_ret
      exact ⟨rfl, (hg0.trans hg1).trans hg2⟩
    have hn := Ht.out rfl
    have B3 := B0.keep hg1
    have HR := Lib.hid (HR.out.keep hg1)
    have hgw := hg0.trans hg1
    clear Ht hFe B0 hg0 hg1
    have hGi := Lib.hid (given_any v oa n cap wc HR.out (by omega))
    go_upto_region 4 with (first | ((with_reducible refine wpList_load_box (ty := 24) (B3) ?_ ?_ Try.underlying24 ?_ ?_ ?_); (focus (exact rfl)); (focus (exact ⟨_, rfl, rfl⟩)); (focus (exact rfl)); (focus kernel_rfl)) | (go_at_call 6; (with_reducible refine hGi.out.mono ?_); rintro e w3 ⟨o7, c7, rfl, hR7, hg3⟩; have N0 := (Bx.new w3 zL.toArray 27 rfl).of (us := zL) (by simp)) | ((with_reducible refine wpList_store_box (ty := 27) (N0) ((vL v o7 n c7)) ?_ ?_ ?_ ?_ ?_ ?_); (focus (exact rfl)); (focus (exact ⟨_, _, rfl, rfl, rfl⟩)); (focus (exact rfl)); (focus kernel_rfl); (focus kernel_rfl)))
    have B7 := N0.setAll (us := vL v o7 n c7) rfl
    have hgx := ((Gr.refl w3).alloc (.cells zL.toArray 27)).setCells (Nat.le_refl _) (vL v o7 n c7) 0
    have hR7 := hR7.keep hgx
    have hg3 := hg3.trans hgx
    clear N0 hgx hGi
    generalize (w3.alloc (.cells zL.toArray 27)).setCells w3.heap.size 0 (vL v o7 n c7) = w7 at B7 hR7 hg3 ⊢
    generalize w3.heap.size = b7 at B7 ⊢
    have B3 := B3.keep hg3
    have HR := Lib.hid (HR.out.keep hg3)
    have HR7 := Lib.hid hR7
    have hgw := hgw.trans hg3
    clear hR7 hg3
    have hSp := Lib.hid fun w1 (hq : Gr w7 w1) => split_u v right o7 n c7 w1 (HR7.out.keep hq) (by omega)
    have hSr := Lib.hid fun w1 (hq : Gr w7 w1) => refSplit_u v right oa n cap w1 (HR.out.keep hq) (by omega)
    have hGp := Lib.hid fun w1 (hq : Gr w7 w1) => grow_u v left right o7 n c7 w1 (HR7.out.keep hq) (by omega) HV.out
    have hGr := Lib.hid fun w1 (hq : Gr w7 w1) => refGrow_u v left right oa n cap w1 (HR.out.keep hq) (by omega) HV.out
    have hMp := Lib.hid fun w1 (hq : Gr w7 w1) => merge_u v o7 n c7 w1 (HR7.out.keep hq) (by omega)
    obtain ⟨gn, hgv⟩ : ∃ gn, gn = v.gone := ⟨_, rfl⟩
    have hMr := fun w1 (hq : Gr w7 w1) => refMerge_u v oa n cap w1 (HR.out.keep hq)
    rw [← hgv] at hMr
    have hMr := Lib.hid hMr
    have HGN := Lib.hid hgv
    clear hgv
    generalize (splitY v right).1 = ya at *
    generalize (splitY v right).2 = yb at *
    generalize (growY v left right).1 = yp at *
    generalize (growY v left right).2.1 = yq at *
    generalize (growY v left right).2.2 = yr at *
    generalize mergeY v = ym at *
    generalize errE v = eE at *
    generalize errM v = eM at *
    generalize (hvV v).1.isSome = ok at *
    have hg9 := Gr.refl w7
    go_upto_region 5 with (first | ((with_reducible refine wpList_load_box (ty := 27) (B7) ?_ ?_ Try.underlying27 ?_ ?_ ?_); (focus (exact rfl)); (focus (exact ⟨_, rfl, rfl⟩)); (focus (exact rfl)); (focus kernel_rfl)) | (go_at_call 7; (with_reducible refine (hSp.out _ hg9).mono ?_); rintro e v4 ⟨oA, nA, cA, pA, mA, dA, oB, nB, cB, pB, mB, dB, rfl, hA, hB, hgn⟩; have N0 : Bx ((v4.alloc (.cells zR.toArray 35)).alloc (.cells zR.toArray 35)) (v4.heap.size) zR := ((Bx.new v4 zR.toArray 35 (by simp [size_alloc1])).keep ((Gr.refl _).alloc (.cells zR.toArray 35))).of (by simp); have N1 : Bx ((v4.alloc (.cells zR.toArray 35)).alloc (.cells zR.toArray 35)) (v4.heap.size + 1) zR := (Bx.new (v4.alloc (.cells zR.toArray 35)) zR.toArray 35 (by simp [size_alloc1])).of (by simp)) | ((with_reducible refine wpList_store_box (ty := 35) (N0) ((xL ya.x oA nA cA pA mA dA)) ?_ ?_ ?_ ?_ ?_ ?_); (focus (exact rfl)); (focus (exact ⟨_, _, rfl, rfl, rfl⟩)); (focus (exact rfl)); (focus kernel_rfl); (focus kernel_rfl)) | ((with_reducible refine wpList_store_box (ty := 35) ((N1.others (b' := v4.heap.size) (by omega) (xL ya.x oA nA cA pA mA dA))) ((xL yb.x oB nB cB pB mB dB)) ?_ ?_ ?_ ?_ ?_ ?_); (focus (exact rfl)); (focus (exact ⟨_, _, rfl, rfl, rfl⟩)); (focus (exact rfl)); (focus kernel_rfl); (focus kernel_rfl)))
    clear N0 N1
    obtain ⟨RA, RB, hgm⟩ := rb_two hA hB _ rfl
    generalize (((v4.alloc (.cells zR.toArray 35)).alloc (.cells zR.toArray 35)).setCells v4.heap.size 0 (xL ya.x oA nA cA pA mA dA)).setCells (v4.heap.size + 1) 0 (xL yb.x oB nB cB pB mB dB) = u4 at RA RB hgm ⊢
    have hgn := hgn.trans hgm
    have hg9 := hg9.trans hgn
    have B3 := B3.keep hgn
    have B7 := B7.keep hgn
    generalize v4.heap.size = z4 at RA RB ⊢
    clear hgm hgn hA hB hSp
    skip
    go_upto_region 6 with (first | ((with_reducible refine wpList_load_box (ty := 24) (B3) ?_ ?_ Try.underlying24 ?_ ?_ ?_); (focus (exact rfl)); (focus (exact ⟨_, rfl, rfl⟩)); (focus (exact rfl)); (focus kernel_rfl)) | (go_at_call 8; (with_reducible refine (hSr.out _ hg9).mono ?_); rintro e v5 ⟨oC, nC, cC, pC, mC, dC, oD, nD, cD, pD, mD, dD, rfl, hC, hD, hgn⟩; have N0 : Bx ((v5.alloc (.cells zR.toArray 35)).alloc (.cells zR.toArray 35)) (v5.heap.size) zR := ((Bx.new v5 zR.toArray 35 (by simp [size_alloc1])).keep ((Gr.refl _).alloc (.cells zR.toArray 35))).of (by simp); have N1 : Bx ((v5.alloc (.cells zR.toArray 35)).alloc (.cells zR.toArray 35)) (v5.heap.size + 1) zR := (Bx.new (v5.alloc (.cells zR.toArray 35)) zR.toArray 35 (by simp [size_alloc1])).of (by simp)) | ((with_reducible refine wpList_store_box (ty := 35) (N0) ((xL ya.x oC nC cC pC mC dC)) ?_ ?_ ?_ ?_ ?_ ?_); (focus (exact rfl)); (focus (exact ⟨_, _, rfl, rfl, rfl⟩)); (focus (exact rfl)); (focus kernel_rfl); (focus kernel_rfl)) | ((with_reducible refine wpList_store_box (ty := 35) ((N1.others (b' := v5.heap.size) (by omega) (xL ya.x oC nC cC pC mC dC))) ((xL yb.x oD nD cD pD mD dD)) ?_ ?_ ?_ ?_ ?_ ?_); (focus (exact rfl)); (focus (exact ⟨_, _, rfl, rfl, rfl⟩)); (focus (exact rfl)); (focus kernel_rfl); (focus kernel_rfl)))
    clear N0 N1
    obtain ⟨RC, RD, hgm⟩ := rb_two hC hD _ rfl
    generalize (((v5.alloc (.cells zR.toArray 35)).alloc (.cells zR.toArray 35)).setCells v5.heap.size 0 (xL ya.x oC nC cC pC mC dC)).setCells (v5.heap.size + 1) 0 (xL yb.x oD nD cD pD mD dD) = u5 at RC RD hgm ⊢
    have hgn := hgn.trans hgm
    have hg9 := hg9.trans hgn
    have B3 := B3.keep hgn
    have B7 := B7.keep hgn
    have RA := RA.keep hgn
    have RB := RB.keep hgn
    generalize v5.heap.size = z5 at RC RD ⊢
    clear hgm hgn hC hD hSr
    skip
    go_upto_region 7 with (first | ((with_reducible refine wpList_load_box (ty := 27) (B7) ?_ ?_ Try.underlying27 ?_ ?_ ?_); (focus (exact rfl)); (focus (exact ⟨_, rfl, rfl⟩)); (focus (exact rfl)); (focus kernel_rfl)) | (go_at_call 9; (with_reducible refine (hGp.out _ hg9).mono ?_); rintro e v6 ⟨oP, nP, cP, pP, mP, dP, oQ, nQ, cQ, pQ, mQ, dQ, oR, nR, cR, pR, mR, dR, rfl, hP, hQ, hR, hgn⟩; have N0 : Bx (((v6.alloc (.cells zR.toArray 35)).alloc (.cells zR.toArray 35)).alloc (.cells zR.toArray 35)) (v6.heap.size) zR := (((Bx.new v6 zR.toArray 35 (by simp [size_alloc1])).keep ((Gr.refl _).alloc (.cells zR.toArray 35))).keep ((Gr.refl _).alloc (.cells zR.toArray 35))).of (by simp); have N1 : Bx (((v6.alloc (.cells zR.toArray 35)).alloc (.cells zR.toArray 35)).alloc (.cells zR.toArray 35)) (v6.heap.size + 1) zR := ((Bx.new (v6.alloc (.cells zR.toArray 35)) zR.toArray 35 (by simp [size_alloc1])).keep ((Gr.refl _).alloc (.cells zR.toArray 35))).of (by simp); have N2 : Bx (((v6.alloc (.cells zR.toArray 35)).alloc (.cells zR.toArray 35)).alloc (.cells zR.toArray 35)) (v6.heap.size + 1 + 1) zR := (Bx.new ((v6.alloc (.cells zR.toArray 35)).alloc (.cells zR.toArray 35)) zR.toArray 35 (by simp [size_alloc1])).of (by simp)) | ((with_reducible refine wpList_store_box (ty := 35) (N0) ((xL yp.x oP nP cP pP mP dP)) ?_ ?_ ?_ ?_ ?_ ?_); (focus (exact rfl)); (focus (exact ⟨_, _, rfl, rfl, rfl⟩)); (focus (exact rfl)); (focus kernel_rfl); (focus kernel_rfl)) | ((with_reducible refine wpList_store_box (ty := 35) ((N1.others (b' := v6.heap.size) (by omega) (xL yp.x oP nP cP pP mP dP))) ((xL yq.x oQ nQ cQ pQ mQ dQ)) ?_ ?_ ?_ ?_ ?_ ?_); (focus (exact rfl)); (focus (exact ⟨_, _, rfl, rfl, rfl⟩)); (focus (exact rfl)); (focus kernel_rfl); (focus kernel_rfl)) | ((with_reducible refine wpList_store_box (ty := 35) (((N2.others (b' := v6.heap.size) (by omega) (xL yp.x oP nP cP pP mP dP)).others (b' := v6.heap.size + 1) (by omega) (xL yq.x oQ nQ cQ pQ mQ dQ))) ((xL yr.x oR nR cR pR mR dR)) ?_ ?_ ?_ ?_ ?_ ?_); (focus (exact rfl)); (focus (exact ⟨_, _, rfl, rfl, rfl⟩)); (focus (exact rfl)); (focus kernel_rfl); (focus kernel_rfl)))
    clear N0 N1 N2
    obtain ⟨RP, RQ, RR, hgm⟩ := rb_three hP hQ hR _ rfl
    generalize (((((v6.alloc (.cells zR.toArray 35)).alloc (.cells zR.toArray 35)).alloc (.cells zR.toArray 35)).setCells v6.heap.size 0 (xL yp.x oP nP cP pP mP dP)).setCells (v6.heap.size + 1) 0 (xL yq.x oQ nQ cQ pQ mQ dQ)).setCells (v6.heap.size + 1 + 1) 0 (xL yr.x oR nR cR pR mR dR) = u6 at RP RQ RR hgm ⊢
    have hgn := hgn.trans hgm
    have hg9 := hg9.trans hgn
    have B3 := B3.keep hgn
    have B7 := B7.keep hgn
    have RA := RA.keep hgn
    have RB := RB.keep hgn
    have RC := RC.keep hgn
    have RD := RD.keep hgn
    generalize v6.heap.size = z6 at RP RQ RR ⊢
    clear hgm hgn hP hQ hR hGp
    skip
    go_upto_region 8 with (first | ((with_reducible refine wpList_load_box (ty := 24) (B3) ?_ ?_ Try.underlying24 ?_ ?_ ?_); (focus (exact rfl)); (focus (exact ⟨_, rfl, rfl⟩)); (focus (exact rfl)); (focus kernel_rfl)) | (go_at_call 10; (with_reducible refine (hGr.out _ hg9).mono ?_); rintro e v7 ⟨oS, nS, cS, pS, mS, dS, oT, nT, cT, pT, mT, dT, oU, nU, cU, pU, mU, dU, rfl, hS, hT, hU, hgn⟩; have N0 : Bx (((v7.alloc (.cells zR.toArray 35)).alloc (.cells zR.toArray 35)).alloc (.cells zR.toArray 35)) (v7.heap.size) zR := (((Bx.new v7 zR.toArray 35 (by simp [size_alloc1])).keep ((Gr.refl _).alloc (.cells zR.toArray 35))).keep ((Gr.refl _).alloc (.cells zR.toArray 35))).of (by simp); have N1 : Bx (((v7.alloc (.cells zR.toArray 35)).alloc (.cells zR.toArray 35)).alloc (.cells zR.toArray 35)) (v7.heap.size + 1) zR := ((Bx.new (v7.alloc (.cells zR.toArray 35)) zR.toArray 35 (by simp [size_alloc1])).keep ((Gr.refl _).alloc (.cells zR.toArray 35))).of (by simp); have N2 : Bx (((v7.alloc (.cells zR.toArray 35)).alloc (.cells zR.toArray 35)).alloc (.cells zR.toArray 35)) (v7.heap.size + 1 + 1) zR := (Bx.new ((v7.alloc (.cells zR.toArray 35)).alloc (.cells zR.toArray 35)) zR.toArray 35 (by simp [size_alloc1])).of (by simp)) | ((with_reducible refine wpList_store_box (ty := 35) (N0) ((xL yp.x oS nS cS pS mS dS)) ?_ ?_ ?_ ?_ ?_ ?_); (focus (exact rfl)); (focus (exact ⟨_, _, rfl, rfl, rfl⟩)); (focus (exact rfl)); (focus kernel_rfl); (focus kernel_rfl)) | ((with_reducible refine wpList_store_box (ty := 35) ((N1.others (b' := v7.heap.size) (by omega) (xL yp.x oS nS cS pS mS dS))) ((xL yq.x oT nT cT pT mT dT)) ?_ ?_ ?_ ?_ ?_ ?_); (focus (exact rfl)); (focus (exact ⟨_, _, rfl, rfl, rfl⟩)); (focus (exact rfl)); (focus kernel_rfl); (focus kernel_rfl)) | ((with_reducible refine wpList_store_box (ty := 35) (((N2.others (b' := v7.heap.size) (by omega) (xL yp.x oS nS cS pS mS dS)).others (b' := v7.heap.size + 1) (by omega) (xL yq.x oT nT cT pT mT dT))) ((xL yr.x oU nU cU pU mU dU)) ?_ ?_ ?_ ?_ ?_ ?_); (focus (exact rfl)); (focus (exact ⟨_, _, rfl, rfl, rfl⟩)); (focus (exact rfl)); (focus kernel_rfl); (focus kernel_rfl)))
    clear N0 N1 N2
    obtain ⟨RS, RT, RU, hgm⟩ := rb_three hS hT hU _ rfl
    generalize (((((v7.alloc (.cells zR.toArray 35)).alloc (.cells zR.toArray 35)).alloc (.cells zR.toArray 35)).setCells v7.heap.size 0 (xL yp.x oS nS cS pS mS dS)).setCells (v7.heap.size + 1) 0 (xL yq.x oT nT cT pT mT dT)).setCells (v7.heap.size + 1 + 1) 0 (xL yr.x oU nU cU pU mU dU) = u7 at RS RT RU hgm ⊢
    have hgn := hgn.trans hgm
    have hg9 := hg9.trans hgn
    have B3 := B3.keep hgn
    have B7 := B7.keep hgn
    have RA := RA.keep hgn
    have RB := RB.keep hgn
    have RC := RC.keep hgn
    have RD := RD.keep hgn
    have RP := RP.keep hgn
    have RQ := RQ.keep hgn
    have RR := RR.keep hgn
    generalize v7.heap.size = z7 at RS RT RU ⊢
    clear hgm hgn hS hT hU hGr
    skip
    go_upto_region 9 with (first | ((with_reducible refine wpList_load_box (ty := 27) (B7) ?_ ?_ Try.underlying27 ?_ ?_ ?_); (focus (exact rfl)); (focus (exact ⟨_, rfl, rfl⟩)); (focus (exact rfl)); (focus kernel_rfl)) | (go_at_call 11; (with_reducible refine (hMp.out _ hg9).mono ?_); rintro e v8 ⟨oM, nM, cM, pM, mM, dM, rfl, hM, hgn⟩; have N0 : Bx (v8.alloc (.cells zR.toArray 35)) (v8.heap.size) zR := (Bx.new v8 zR.toArray 35 (by simp [size_alloc1])).of (by simp)) | ((with_reducible refine wpList_store_box (ty := 35) (N0) ((xL ym.x oM nM cM pM mM dM)) ?_ ?_ ?_ ?_ ?_ ?_); (focus (exact rfl)); (focus (exact ⟨_, _, rfl, rfl, rfl⟩)); (focus (exact rfl)); (focus kernel_rfl); (focus kernel_rfl)))
    clear N0
    obtain ⟨RM, hgm⟩ := rb_one hM
    generalize (v8.alloc (.cells zR.toArray 35)).setCells v8.heap.size 0 (xL ym.x oM nM cM pM mM dM) = u8 at RM hgm ⊢
    have hgn := hgn.trans hgm
    have hg9 := hg9.trans hgn
    have B3 := B3.keep hgn
    have B7 := B7.keep hgn
    have RA := RA.keep hgn
    have RB := RB.keep hgn
    have RC := RC.keep hgn
    have RD := RD.keep hgn
    have RP := RP.keep hgn
    have RQ := RQ.keep hgn
    have RR := RR.keep hgn
    have RS := RS.keep hgn
    have RT := RT.keep hgn
    have RU := RU.keep hgn
    generalize v8.heap.size = z8 at RM ⊢
    clear hgm hgn hM hMp
    skip
    go_upto_region 10 with (first | ((with_reducible refine wpList_load_box (ty := 24) (B3) ?_ ?_ Try.underlying24 ?_ ?_ ?_); (focus (exact rfl)); (focus (exact ⟨_, rfl, rfl⟩)); (focus (exact rfl)); (focus kernel_rfl)) | (go_at_call 12; (with_reducible refine (hMr.out _ hg9).mono ?_); rintro e v9 ⟨oN, nN, cN, pN, mN, dN, rfl, hN, hgn⟩; have N0 : Bx (v9.alloc (.cells zR.toArray 35)) (v9.heap.size) zR := (Bx.new v9 zR.toArray 35 (by simp [size_alloc1])).of (by simp)) | ((with_reducible refine wpList_store_box (ty := 35) (N0) ((xL ym.x oN nN cN pN mN dN)) ?_ ?_ ?_ ?_ ?_ ?_); (focus (exact rfl)); (focus (exact ⟨_, _, rfl, rfl, rfl⟩)); (focus (exact rfl)); (focus kernel_rfl); (focus kernel_rfl)))
    clear N0
    obtain ⟨RN, hgm⟩ := rb_one hN
    generalize (v9.alloc (.cells zR.toArray 35)).setCells v9.heap.size 0 (xL ym.x oN nN cN pN mN dN) = u9 at RN hgm ⊢
    have hgn := hgn.trans hgm
    have hg9 := hg9.trans hgn
    have B3 := B3.keep hgn
    have B7 := B7.keep hgn
    have RA := RA.keep hgn
    have RB := RB.keep hgn
    have RC := RC.keep hgn
    have RD := RD.keep hgn
    have RP := RP.keep hgn
    have RQ := RQ.keep hgn
    have RR := RR.keep hgn
    have RS := RS.keep hgn
    have RT := RT.keep hgn
    have RU := RU.keep hgn
    have RM := RM.keep hgn
    generalize v9.heap.size = z9 at RN ⊢
    clear hgm hgn hN hMr
    skip
    have hgw := hgw.trans hg9
    have HR := Lib.hid (HR.out.keep hg9)
    have HR7 := Lib.hid (HR7.out.keep hg9)
    clear hg9
    go_cut [128] (fun s128 wx => s128 = .bool false ∧ Gr u9 wx)
    case first => as_aux_lemma =>
      have t5 := B3.cell 5 rfl
      have t4 := B3.cell 4 rfl
      rcases HW.out with ⟨hgo, h2, rfl, rfl, rfl⟩ | ⟨hgo, rfl, rfl, rfl⟩ | ⟨hgo, h2, rfl, rfl, rfl⟩ | ⟨hgo, h2, rfl, rfl, rfl⟩
      all_goals
        obtain rfl := HGN.out.trans hgo
        rw [hgo] at t5
        clear HW hgo HGN
        (try (have h3 : ¬ ((n : Int) < 2) := by omega))
        (try (have h3 : (n : Int) < 2 := by omega))
        go_wp2_with (go_at_call 13; (with_reducible refine (faultIs7 _ _ _).mono ?_); rintro e w1 ⟨rfl, hgi⟩; (have hgH : Gr u9 w1 := Gr.trans (by (repeat (first | with_reducible exact Gr.refl _ | with_reducible refine Gr.drewN ?_ _ | with_reducible refine Gr.drew ?_ | with_reducible refine Gr.alloc ?_ _ | with_reducible refine Gr.setCell ?_ ?_ _ | (with_reducible refine Gr.trans ?_ (by assumption)) | omega | (dsimp only; omega)))) hgi); have t5 := hgi.keep t5; have t4 := hgi.keep t4)
        go_meet
        exact ⟨rfl, hgH⟩
    case rest =>
      obtain ⟨rfl, hg11⟩ := hcut
      as_aux_lemma =>
        have hg11w := hgw.trans hg11
        clear hgw HW
        have B3 := B3.keep hg11
        have B7 := B7.keep hg11
        have RA := RA.keep hg11
        have RB := RB.keep hg11
        have RC := RC.keep hg11
        have RD := RD.keep hg11
        have RP := RP.keep hg11
        have RQ := RQ.keep hg11
        have RR := RR.keep hg11
        have RS := RS.keep hg11
        have RT := RT.keep hg11
        have RU := RU.keep hg11
        have RM := RM.keep hg11
        have RN := RN.keep hg11
        have HR := Lib.hid (HR.out.keep hg11)
        have HR7 := Lib.hid (HR7.out.keep hg11)
        have hBa := Lib.hid fun w1 (hq : Gr wc w1) => base_any v o7 n c7 w1 (HR7.out.keep hq) (by omega)
        have hBr := Lib.hid fun w1 (hq : Gr wc w1) => refBase_any v oa n cap w1
        have hVi := Lib.hid fun w1 (hq : Gr wc w1) => view_any v o7 n c7 w1
        have hVs := Lib.hid fun w1 (hq : Gr wc w1) => same7_any v o7 n c7 oa n cap w1 (HR7.out.keep hq) (HR.out.keep hq)
        have hS0 := Lib.hid fun w1 (o : Option Addr) (m c : Nat) (hq : Gr wc w1) (hO : RowsAt w1 o m c v.rows) => recSame_any ⟨bRc v, []⟩ o m c none 0 0 oa n cap none 0 0 w1 hO (SlE.nil _ _ _) (HR.out.keep hq) (SlE.nil _ _ _)
        have hSA := Lib.hid fun w1 (hq : Gr wc w1) => recSame_any ya oA nA cA pA mA dA oC nC cC pC mC dC w1 (RA.rows.keep hq) (SlE.keep EnE_mono RA.ents hq) (RC.rows.keep hq) (SlE.keep EnE_mono RC.ents hq)
        have hSB := Lib.hid fun w1 (hq : Gr wc w1) => recSame_any yb oB nB cB pB mB dB oD nD cD pD mD dD w1 (RB.rows.keep hq) (SlE.keep EnE_mono RB.ents hq) (RD.rows.keep hq) (SlE.keep EnE_mono RD.ents hq)
        have hSP := Lib.hid fun w1 (hq : Gr wc w1) => recSame_any yp oP nP cP pP mP dP oS nS cS pS mS dS w1 (RP.rows.keep hq) (SlE.keep EnE_mono RP.ents hq) (RS.rows.keep hq) (SlE.keep EnE_mono RS.ents hq)
        have hSQ := Lib.hid fun w1 (hq : Gr wc w1) => recSame_any yq oQ nQ cQ pQ mQ dQ oT nT cT pT mT dT w1 (RQ.rows.keep hq) (SlE.keep EnE_mono RQ.ents hq) (RT.rows.keep hq) (SlE.keep EnE_mono RT.ents hq)
        have hSR := Lib.hid fun w1 (hq : Gr wc w1) => recSame_any yr oR nR cR pR mR dR oU nU cU pU mU dU w1 (RR.rows.keep hq) (SlE.keep EnE_mono RR.ents hq) (RU.rows.keep hq) (SlE.keep EnE_mono RU.ents hq)
        have hSM := Lib.hid fun w1 (hq : Gr wc w1) => recSame_any ym oM nM cM pM mM dM oN nN cN pN mN dN w1 (RM.rows.keep hq) (SlE.keep EnE_mono RM.ents hq) (RN.rows.keep hq) (SlE.keep EnE_mono RN.ents hq)
        have hgd := (Gr.refl wc).drew
        have Rg := And.intro (hgd.range B3.rng) (And.intro (hgd.range B7.rng) (And.intro (hgd.range RA.box.rng) (And.intro (hgd.range RB.box.rng) (And.intro (hgd.range RC.box.rng) (And.intro (hgd.range RD.box.rng) (And.intro (hgd.range RP.box.rng) (And.intro (hgd.range RQ.box.rng) (And.intro (hgd.range RR.box.rng) (And.intro (hgd.range RS.box.rng) (And.intro (hgd.range RT.box.rng) (And.intro (hgd.range RU.box.rng) (And.intro (hgd.range RM.box.rng) (hgd.range RN.box.rng)))))))))))))
        clear hgd
        clear B3 B7 hg11 RA RB RC RD RP RQ RR RS RT RU RM RN
        go_upto_region 12 with fail
        have hu := Try.underlying35
        have hi : (Try.prog.info? 35).map (·.size) = some 15 := by kernel_rfl
        have hu2 := Try.underlying27
        have hi2 : (Try.prog.info? 27).map (·.size) = some 6 := by kernel_rfl
        have hu3 := Try.underlying24
        have hi3 : (Try.prog.info? 24).map (·.size) = some 6 := by kernel_rfl
        have hHx := Rg
        clear Rg
        have hgH := (Gr.refl wc).drew
        refine wp_region_held_drew (S := fun w' => w'.rangeAt (b3) 0 (vL v oa n cap) ∧ w'.rangeAt (b7) 0 (vL v o7 n c7) ∧ w'.rangeAt (z4) 0 (xL ya.x oA nA cA pA mA dA) ∧ w'.rangeAt (z4 + 1) 0 (xL yb.x oB nB cB pB mB dB) ∧ w'.rangeAt (z5) 0 (xL ya.x oC nC cC pC mC dC) ∧ w'.rangeAt (z5 + 1) 0 (xL yb.x oD nD cD pD mD dD) ∧ w'.rangeAt (z6) 0 (xL yp.x oP nP cP pP mP dP) ∧ w'.rangeAt (z6 + 1) 0 (xL yq.x oQ nQ cQ pQ mQ dQ) ∧ w'.rangeAt (z6 + 1 + 1) 0 (xL yr.x oR nR cR pR mR dR) ∧ w'.rangeAt (z7) 0 (xL yp.x oS nS cS pS mS dS) ∧ w'.rangeAt (z7 + 1) 0 (xL yq.x oT nT cT pT mT dT) ∧ w'.rangeAt (z7 + 1 + 1) 0 (xL yr.x oU nU cU pU mU dU) ∧ w'.rangeAt (z8) 0 (xL ym.x oM nM cM pM mM dM) ∧ w'.rangeAt (z9) 0 (xL ym.x oN nN cN pN mN dN)) (by kernel_rfl) hHx (fun hHeld => ?_)
        clear hHx
        refine' wpAnyH_take (i := 0) (oi := { dst := some 129, op := .load 27 (.tmp 7), type := _, pos := _, after := _, guard := none }) (v := _) rfl (by kernel_rfl) (by kernel_rfl) (by kernel_rfl) (fun _ _ _ h => h) (yieldsIf_load_mid (by rfl) _ _ rfl _ _ rfl _ _ (fun w h => h.2.1) hu2 rfl hi2) hHeld ?_
        simp only [Act.put, List.setIfInBounds_toArray, List.set_cons_zero, List.set_cons_succ]
        refine' wpAnyH_take (i := 2) (oi := { dst := some 131, op := .load 24 (.tmp 3), type := _, pos := _, after := _, guard := none }) (v := _) rfl (by kernel_rfl) (by kernel_rfl) (by kernel_rfl) (fun _ _ _ h => h) (yieldsIf_load_mid (by rfl) _ _ rfl _ _ rfl _ _ (fun w h => h.1) hu3 rfl hi3) hHeld ?_
        simp only [Act.put, List.setIfInBounds_toArray, List.set_cons_zero, List.set_cons_succ]
        refine wpAnyH_ready (rs := [1]) (by kernel_rfl) (by simp) ?_
        refine AllReadyH.cons (o := { dst := some 130, op := .call { callee := .value (.func 15), args := #[.tmp 129], argTypes := #[27] }, type := _, pos := _, after := _, guard := none }) rfl (fun K hK => ?_) AllReadyH.nil
        go_simp
        (go_at_call 15; (with_reducible refine (hBa.out _ hgH).mono ?_); rintro e x1 ⟨ob, mb, cb, rfl, hOb, hgi⟩)
        have HOb := Lib.hid hOb.rows
        clear hOb hBa
        go_wp2_with fail
        refine hK.out _ _ ⟨hgi.range hHeld.1, hgi.range hHeld.2.1, hgi.range hHeld.2.2.1, hgi.range hHeld.2.2.2.1, hgi.range hHeld.2.2.2.2.1, hgi.range hHeld.2.2.2.2.2.1, hgi.range hHeld.2.2.2.2.2.2.1, hgi.range hHeld.2.2.2.2.2.2.2.1, hgi.range hHeld.2.2.2.2.2.2.2.2.1, hgi.range hHeld.2.2.2.2.2.2.2.2.2.1, hgi.range hHeld.2.2.2.2.2.2.2.2.2.2.1, hgi.range hHeld.2.2.2.2.2.2.2.2.2.2.2.1, hgi.range hHeld.2.2.2.2.2.2.2.2.2.2.2.2.1, hgi.range hHeld.2.2.2.2.2.2.2.2.2.2.2.2.2⟩ (fun hHeld => ?_)
        clear hK K
        have hgH := hgH.trans hgi
        clear hgi
        refine wpAnyH_ready (rs := [3]) (by kernel_rfl) (by simp) ?_
        refine AllReadyH.cons (o := { dst := some 132, op := .call { callee := .value (.func 16), args := #[.tmp 131], argTypes := #[24] }, type := _, pos := _, after := _, guard := none }) rfl (fun K hK => ?_) AllReadyH.nil
        go_simp
        (go_at_call 16; (with_reducible refine (hBr.out _ hgH).mono ?_); rintro e x2 ⟨rfl, hgi⟩)
        clear hBr
        have HOb := Lib.hid (HOb.out.keep hgi)
        go_wp2_with fail
        refine hK.out _ _ ⟨hgi.range hHeld.1, hgi.range hHeld.2.1, hgi.range hHeld.2.2.1, hgi.range hHeld.2.2.2.1, hgi.range hHeld.2.2.2.2.1, hgi.range hHeld.2.2.2.2.2.1, hgi.range hHeld.2.2.2.2.2.2.1, hgi.range hHeld.2.2.2.2.2.2.2.1, hgi.range hHeld.2.2.2.2.2.2.2.2.1, hgi.range hHeld.2.2.2.2.2.2.2.2.2.1, hgi.range hHeld.2.2.2.2.2.2.2.2.2.2.1, hgi.range hHeld.2.2.2.2.2.2.2.2.2.2.2.1, hgi.range hHeld.2.2.2.2.2.2.2.2.2.2.2.2.1, hgi.range hHeld.2.2.2.2.2.2.2.2.2.2.2.2.2⟩ (fun hHeld => ?_)
        clear hK K
        have hgH := hgH.trans hgi
        clear hgi
        refine wpAnyH_ready (rs := [4]) (by kernel_rfl) (by simp) ?_
        refine AllReadyH.cons (o := { dst := some 133, op := .call { callee := .value (.func 14), args := #[.tmp 130, .tmp 132], argTypes := #[35, 35] }, type := _, pos := _, after := _, guard := none }) rfl (fun K hK => ?_) AllReadyH.nil
        go_simp
        (go_at_call 14; (with_reducible refine (hS0.out _ _ _ _ hgH HOb.out).mono ?_); rintro e x3 ⟨rfl, hgi⟩)
        clear HOb hS0
        go_wp2_with fail
        refine hK.out _ _ ⟨hgi.range hHeld.1, hgi.range hHeld.2.1, hgi.range hHeld.2.2.1, hgi.range hHeld.2.2.2.1, hgi.range hHeld.2.2.2.2.1, hgi.range hHeld.2.2.2.2.2.1, hgi.range hHeld.2.2.2.2.2.2.1, hgi.range hHeld.2.2.2.2.2.2.2.1, hgi.range hHeld.2.2.2.2.2.2.2.2.1, hgi.range hHeld.2.2.2.2.2.2.2.2.2.1, hgi.range hHeld.2.2.2.2.2.2.2.2.2.2.1, hgi.range hHeld.2.2.2.2.2.2.2.2.2.2.2.1, hgi.range hHeld.2.2.2.2.2.2.2.2.2.2.2.2.1, hgi.range hHeld.2.2.2.2.2.2.2.2.2.2.2.2.2⟩ (fun hHeld => ?_)
        clear hK K
        have hgH := hgH.trans hgi
        clear hgi
        refine wpAnyH_take (i := 5) (oi := { dst := some 134, op := .move (.tmp 133), type := _, pos := _, after := _, guard := none }) (v := .bool true) rfl (by kernel_rfl) (by kernel_rfl) (by kernel_rfl) (fun _ _ _ h => h) (Or.inl ⟨by rfl, by intro w hSw; clear hSw; go_simp⟩) hHeld ?_
        simp only [Act.put, List.setIfInBounds_toArray, List.set_cons_zero, List.set_cons_succ]
        refine' wpAnyH_take (i := 6) (oi := { dst := some 135, op := .load 35 (.tmp 8), type := _, pos := _, after := _, guard := some (5, true) }) (v := _) rfl (by kernel_rfl) (by kernel_rfl) (by kernel_rfl) (fun _ _ _ h => h) (yieldsIf_load_mid (by rfl) _ _ rfl _ _ rfl _ _ (fun w h => h.2.2.1) hu rfl hi) hHeld ?_
        simp only [Act.put, List.setIfInBounds_toArray, List.set_cons_zero, List.set_cons_succ]
        refine' wpAnyH_take (i := 7) (oi := { dst := some 136, op := .load 35 (.tmp 11), type := _, pos := _, after := _, guard := some (5, true) }) (v := _) rfl (by kernel_rfl) (by kernel_rfl) (by kernel_rfl) (fun _ _ _ h => h) (yieldsIf_load_mid (by rfl) _ _ rfl _ _ rfl _ _ (fun w h => h.2.2.2.2.1) hu rfl hi) hHeld ?_
        simp only [Act.put, List.setIfInBounds_toArray, List.set_cons_zero, List.set_cons_succ]
        refine wpAnyH_ready (rs := [8]) (by kernel_rfl) (by simp) ?_
        refine AllReadyH.cons (o := { dst := some 137, op := .call { callee := .value (.func 14), args := #[.tmp 135, .tmp 136], argTypes := #[35, 35] }, type := _, pos := _, after := _, guard := some (5, true) }) rfl (fun K hK => ?_) AllReadyH.nil
        go_simp
        (go_at_call 14; (with_reducible refine (hSA.out _ hgH).mono ?_); rintro e x4 ⟨rfl, hgi⟩)
        clear hSA
        go_wp2_with fail
        refine hK.out _ _ ⟨hgi.range hHeld.1, hgi.range hHeld.2.1, hgi.range hHeld.2.2.1, hgi.range hHeld.2.2.2.1, hgi.range hHeld.2.2.2.2.1, hgi.range hHeld.2.2.2.2.2.1, hgi.range hHeld.2.2.2.2.2.2.1, hgi.range hHeld.2.2.2.2.2.2.2.1, hgi.range hHeld.2.2.2.2.2.2.2.2.1, hgi.range hHeld.2.2.2.2.2.2.2.2.2.1, hgi.range hHeld.2.2.2.2.2.2.2.2.2.2.1, hgi.range hHeld.2.2.2.2.2.2.2.2.2.2.2.1, hgi.range hHeld.2.2.2.2.2.2.2.2.2.2.2.2.1, hgi.range hHeld.2.2.2.2.2.2.2.2.2.2.2.2.2⟩ (fun hHeld => ?_)
        clear hK K
        have hgH := hgH.trans hgi
        clear hgi
        refine wpAnyH_take (i := 9) (oi := { dst := some 138, op := .pick (.tmp 134) (.tmp 137) (.const (.bool false)), type := _, pos := _, after := _, guard := none }) (v := .bool true) rfl (by kernel_rfl) (by kernel_rfl) (by kernel_rfl) (fun _ _ _ h => h) (Or.inl ⟨by rfl, by intro w hSw; clear hSw; go_simp⟩) hHeld ?_
        simp only [Act.put, List.setIfInBounds_toArray, List.set_cons_zero, List.set_cons_succ]
        refine wpAnyH_take (i := 10) (oi := { dst := some 139, op := .move (.tmp 138), type := _, pos := _, after := _, guard := none }) (v := .bool true) rfl (by kernel_rfl) (by kernel_rfl) (by kernel_rfl) (fun _ _ _ h => h) (Or.inl ⟨by rfl, by intro w hSw; clear hSw; go_simp⟩) hHeld ?_
        simp only [Act.put, List.setIfInBounds_toArray, List.set_cons_zero, List.set_cons_succ]
        refine' wpAnyH_take (i := 11) (oi := { dst := some 140, op := .load 35 (.tmp 9), type := _, pos := _, after := _, guard := some (10, true) }) (v := _) rfl (by kernel_rfl) (by kernel_rfl) (by kernel_rfl) (fun _ _ _ h => h) (yieldsIf_load_mid (by rfl) _ _ rfl _ _ rfl _ _ (fun w h => h.2.2.2.1) hu rfl hi) hHeld ?_
        simp only [Act.put, List.setIfInBounds_toArray, List.set_cons_zero, List.set_cons_succ]
        refine' wpAnyH_take (i := 12) (oi := { dst := some 141, op := .load 35 (.tmp 12), type := _, pos := _, after := _, guard := some (10, true) }) (v := _) rfl (by kernel_rfl) (by kernel_rfl) (by kernel_rfl) (fun _ _ _ h => h) (yieldsIf_load_mid (by rfl) _ _ rfl _ _ rfl _ _ (fun w h => h.2.2.2.2.2.1) hu rfl hi) hHeld ?_
        simp only [Act.put, List.setIfInBounds_toArray, List.set_cons_zero, List.set_cons_succ]
        refine wpAnyH_ready (rs := [13]) (by kernel_rfl) (by simp) ?_
        refine AllReadyH.cons (o := { dst := some 142, op := .call { callee := .value (.func 14), args := #[.tmp 140, .tmp 141], argTypes := #[35, 35] }, type := _, pos := _, after := _, guard := some (10, true) }) rfl (fun K hK => ?_) AllReadyH.nil
        go_simp
        (go_at_call 14; (with_reducible refine (hSB.out _ hgH).mono ?_); rintro e x5 ⟨rfl, hgi⟩)
        clear hSB
        go_wp2_with fail
        refine hK.out _ _ ⟨hgi.range hHeld.1, hgi.range hHeld.2.1, hgi.range hHeld.2.2.1, hgi.range hHeld.2.2.2.1, hgi.range hHeld.2.2.2.2.1, hgi.range hHeld.2.2.2.2.2.1, hgi.range hHeld.2.2.2.2.2.2.1, hgi.range hHeld.2.2.2.2.2.2.2.1, hgi.range hHeld.2.2.2.2.2.2.2.2.1, hgi.range hHeld.2.2.2.2.2.2.2.2.2.1, hgi.range hHeld.2.2.2.2.2.2.2.2.2.2.1, hgi.range hHeld.2.2.2.2.2.2.2.2.2.2.2.1, hgi.range hHeld.2.2.2.2.2.2.2.2.2.2.2.2.1, hgi.range hHeld.2.2.2.2.2.2.2.2.2.2.2.2.2⟩ (fun hHeld => ?_)
        clear hK K
        have hgH := hgH.trans hgi
        clear hgi
        refine wpAnyH_take (i := 14) (oi := { dst := some 143, op := .pick (.tmp 139) (.tmp 142) (.const (.bool false)), type := _, pos := _, after := _, guard := none }) (v := .bool true) rfl (by kernel_rfl) (by kernel_rfl) (by kernel_rfl) (fun _ _ _ h => h) (Or.inl ⟨by rfl, by intro w hSw; clear hSw; go_simp⟩) hHeld ?_
        simp only [Act.put, List.setIfInBounds_toArray, List.set_cons_zero, List.set_cons_succ]
        refine wpAnyH_take (i := 15) (oi := { dst := some 144, op := .move (.tmp 143), type := _, pos := _, after := _, guard := none }) (v := .bool true) rfl (by kernel_rfl) (by kernel_rfl) (by kernel_rfl) (fun _ _ _ h => h) (Or.inl ⟨by rfl, by intro w hSw; clear hSw; go_simp⟩) hHeld ?_
        simp only [Act.put, List.setIfInBounds_toArray, List.set_cons_zero, List.set_cons_succ]
        refine' wpAnyH_take (i := 16) (oi := { dst := some 145, op := .load 35 (.tmp 14), type := _, pos := _, after := _, guard := some (15, true) }) (v := _) rfl (by kernel_rfl) (by kernel_rfl) (by kernel_rfl) (fun _ _ _ h => h) (yieldsIf_load_mid (by rfl) _ _ rfl _ _ rfl _ _ (fun w h => h.2.2.2.2.2.2.1) hu rfl hi) hHeld ?_
        simp only [Act.put, List.setIfInBounds_toArray, List.set_cons_zero, List.set_cons_succ]
        refine' wpAnyH_take (i := 17) (oi := { dst := some 146, op := .load 35 (.tmp 18), type := _, pos := _, after := _, guard := some (15, true) }) (v := _) rfl (by kernel_rfl) (by kernel_rfl) (by kernel_rfl) (fun _ _ _ h => h) (yieldsIf_load_mid (by rfl) _ _ rfl _ _ rfl _ _ (fun w h => h.2.2.2.2.2.2.2.2.2.1) hu rfl hi) hHeld ?_
        simp only [Act.put, List.setIfInBounds_toArray, List.set_cons_zero, List.set_cons_succ]
        refine wpAnyH_ready (rs := [18]) (by kernel_rfl) (by simp) ?_
        refine AllReadyH.cons (o := { dst := some 147, op := .call { callee := .value (.func 14), args := #[.tmp 145, .tmp 146], argTypes := #[35, 35] }, type := _, pos := _, after := _, guard := some (15, true) }) rfl (fun K hK => ?_) AllReadyH.nil
        go_simp
        (go_at_call 14; (with_reducible refine (hSP.out _ hgH).mono ?_); rintro e x6 ⟨rfl, hgi⟩)
        clear hSP
        go_wp2_with fail
        refine hK.out _ _ ⟨hgi.range hHeld.1, hgi.range hHeld.2.1, hgi.range hHeld.2.2.1, hgi.range hHeld.2.2.2.1, hgi.range hHeld.2.2.2.2.1, hgi.range hHeld.2.2.2.2.2.1, hgi.range hHeld.2.2.2.2.2.2.1, hgi.range hHeld.2.2.2.2.2.2.2.1, hgi.range hHeld.2.2.2.2.2.2.2.2.1, hgi.range hHeld.2.2.2.2.2.2.2.2.2.1, hgi.range hHeld.2.2.2.2.2.2.2.2.2.2.1, hgi.range hHeld.2.2.2.2.2.2.2.2.2.2.2.1, hgi.range hHeld.2.2.2.2.2.2.2.2.2.2.2.2.1, hgi.range hHeld.2.2.2.2.2.2.2.2.2.2.2.2.2⟩ (fun hHeld => ?_)
        clear hK K
        have hgH := hgH.trans hgi
        clear hgi
        refine wpAnyH_take (i := 19) (oi := { dst := some 148, op := .pick (.tmp 144) (.tmp 147) (.const (.bool false)), type := _, pos := _, after := _, guard := none }) (v := .bool true) rfl (by kernel_rfl) (by kernel_rfl) (by kernel_rfl) (fun _ _ _ h => h) (Or.inl ⟨by rfl, by intro w hSw; clear hSw; go_simp⟩) hHeld ?_
        simp only [Act.put, List.setIfInBounds_toArray, List.set_cons_zero, List.set_cons_succ]
        refine wpAnyH_take (i := 20) (oi := { dst := some 149, op := .move (.tmp 148), type := _, pos := _, after := _, guard := none }) (v := .bool true) rfl (by kernel_rfl) (by kernel_rfl) (by kernel_rfl) (fun _ _ _ h => h) (Or.inl ⟨by rfl, by intro w hSw; clear hSw; go_simp⟩) hHeld ?_
        simp only [Act.put, List.setIfInBounds_toArray, List.set_cons_zero, List.set_cons_succ]
        refine' wpAnyH_take (i := 21) (oi := { dst := some 150, op := .load 35 (.tmp 15), type := _, pos := _, after := _, guard := some (20, true) }) (v := _) rfl (by kernel_rfl) (by kernel_rfl) (by kernel_rfl) (fun _ _ _ h => h) (yieldsIf_load_mid (by rfl) _ _ rfl _ _ rfl _ _ (fun w h => h.2.2.2.2.2.2.2.1) hu rfl hi) hHeld ?_
        simp only [Act.put, List.setIfInBounds_toArray, List.set_cons_zero, List.set_cons_succ]
        refine' wpAnyH_take (i := 22) (oi := { dst := some 151, op := .load 35 (.tmp 19), type := _, pos := _, after := _, guard := some (20, true) }) (v := _) rfl (by kernel_rfl) (by kernel_rfl) (by kernel_rfl) (fun _ _ _ h => h) (yieldsIf_load_mid (by rfl) _ _ rfl _ _ rfl _ _ (fun w h => h.2.2.2.2.2.2.2.2.2.2.1) hu rfl hi) hHeld ?_
        simp only [Act.put, List.setIfInBounds_toArray, List.set_cons_zero, List.set_cons_succ]
        refine wpAnyH_ready (rs := [23]) (by kernel_rfl) (by simp) ?_
        refine AllReadyH.cons (o := { dst := some 152, op := .call { callee := .value (.func 14), args := #[.tmp 150, .tmp 151], argTypes := #[35, 35] }, type := _, pos := _, after := _, guard := some (20, true) }) rfl (fun K hK => ?_) AllReadyH.nil
        go_simp
        (go_at_call 14; (with_reducible refine (hSQ.out _ hgH).mono ?_); rintro e x7 ⟨rfl, hgi⟩)
        clear hSQ
        go_wp2_with fail
        refine hK.out _ _ ⟨hgi.range hHeld.1, hgi.range hHeld.2.1, hgi.range hHeld.2.2.1, hgi.range hHeld.2.2.2.1, hgi.range hHeld.2.2.2.2.1, hgi.range hHeld.2.2.2.2.2.1, hgi.range hHeld.2.2.2.2.2.2.1, hgi.range hHeld.2.2.2.2.2.2.2.1, hgi.range hHeld.2.2.2.2.2.2.2.2.1, hgi.range hHeld.2.2.2.2.2.2.2.2.2.1, hgi.range hHeld.2.2.2.2.2.2.2.2.2.2.1, hgi.range hHeld.2.2.2.2.2.2.2.2.2.2.2.1, hgi.range hHeld.2.2.2.2.2.2.2.2.2.2.2.2.1, hgi.range hHeld.2.2.2.2.2.2.2.2.2.2.2.2.2⟩ (fun hHeld => ?_)
        clear hK K
        have hgH := hgH.trans hgi
        clear hgi
        refine wpAnyH_take (i := 24) (oi := { dst := some 153, op := .pick (.tmp 149) (.tmp 152) (.const (.bool false)), type := _, pos := _, after := _, guard := none }) (v := .bool true) rfl (by kernel_rfl) (by kernel_rfl) (by kernel_rfl) (fun _ _ _ h => h) (Or.inl ⟨by rfl, by intro w hSw; clear hSw; go_simp⟩) hHeld ?_
        simp only [Act.put, List.setIfInBounds_toArray, List.set_cons_zero, List.set_cons_succ]
        refine wpAnyH_take (i := 25) (oi := { dst := some 154, op := .move (.tmp 153), type := _, pos := _, after := _, guard := none }) (v := .bool true) rfl (by kernel_rfl) (by kernel_rfl) (by kernel_rfl) (fun _ _ _ h => h) (Or.inl ⟨by rfl, by intro w hSw; clear hSw; go_simp⟩) hHeld ?_
        simp only [Act.put, List.setIfInBounds_toArray, List.set_cons_zero, List.set_cons_succ]
        refine' wpAnyH_take (i := 26) (oi := { dst := some 155, op := .load 35 (.tmp 16), type := _, pos := _, after := _, guard := some (25, true) }) (v := _) rfl (by kernel_rfl) (by kernel_rfl) (by kernel_rfl) (fun _ _ _ h => h) (yieldsIf_load_mid (by rfl) _ _ rfl _ _ rfl _ _ (fun w h => h.2.2.2.2.2.2.2.2.1) hu rfl hi) hHeld ?_
        simp only [Act.put, List.setIfInBounds_toArray, List.set_cons_zero, List.set_cons_succ]
        refine' wpAnyH_take (i := 27) (oi := { dst := some 156, op := .load 35 (.tmp 20), type := _, pos := _, after := _, guard := some (25, true) }) (v := _) rfl (by kernel_rfl) (by kernel_rfl) (by kernel_rfl) (fun _ _ _ h => h) (yieldsIf_load_mid (by rfl) _ _ rfl _ _ rfl _ _ (fun w h => h.2.2.2.2.2.2.2.2.2.2.2.1) hu rfl hi) hHeld ?_
        simp only [Act.put, List.setIfInBounds_toArray, List.set_cons_zero, List.set_cons_succ]
        refine wpAnyH_ready (rs := [28]) (by kernel_rfl) (by simp) ?_
        refine AllReadyH.cons (o := { dst := some 157, op := .call { callee := .value (.func 14), args := #[.tmp 155, .tmp 156], argTypes := #[35, 35] }, type := _, pos := _, after := _, guard := some (25, true) }) rfl (fun K hK => ?_) AllReadyH.nil
        go_simp
        (go_at_call 14; (with_reducible refine (hSR.out _ hgH).mono ?_); rintro e x8 ⟨rfl, hgi⟩)
        clear hSR
        go_wp2_with fail
        refine hK.out _ _ ⟨hgi.range hHeld.1, hgi.range hHeld.2.1, hgi.range hHeld.2.2.1, hgi.range hHeld.2.2.2.1, hgi.range hHeld.2.2.2.2.1, hgi.range hHeld.2.2.2.2.2.1, hgi.range hHeld.2.2.2.2.2.2.1, hgi.range hHeld.2.2.2.2.2.2.2.1, hgi.range hHeld.2.2.2.2.2.2.2.2.1, hgi.range hHeld.2.2.2.2.2.2.2.2.2.1, hgi.range hHeld.2.2.2.2.2.2.2.2.2.2.1, hgi.range hHeld.2.2.2.2.2.2.2.2.2.2.2.1, hgi.range hHeld.2.2.2.2.2.2.2.2.2.2.2.2.1, hgi.range hHeld.2.2.2.2.2.2.2.2.2.2.2.2.2⟩ (fun hHeld => ?_)
        clear hK K
        have hgH := hgH.trans hgi
        clear hgi
        refine wpAnyH_take (i := 29) (oi := { dst := some 158, op := .pick (.tmp 154) (.tmp 157) (.const (.bool false)), type := _, pos := _, after := _, guard := none }) (v := .bool true) rfl (by kernel_rfl) (by kernel_rfl) (by kernel_rfl) (fun _ _ _ h => h) (Or.inl ⟨by rfl, by intro w hSw; clear hSw; go_simp⟩) hHeld ?_
        simp only [Act.put, List.setIfInBounds_toArray, List.set_cons_zero, List.set_cons_succ]
        refine wpAnyH_take (i := 30) (oi := { dst := some 159, op := .move (.tmp 158), type := _, pos := _, after := _, guard := none }) (v := .bool true) rfl (by kernel_rfl) (by kernel_rfl) (by kernel_rfl) (fun _ _ _ h => h) (Or.inl ⟨by rfl, by intro w hSw; clear hSw; go_simp⟩) hHeld ?_
        simp only [Act.put, List.setIfInBounds_toArray, List.set_cons_zero, List.set_cons_succ]
        refine' wpAnyH_take (i := 31) (oi := { dst := some 160, op := .load 35 (.tmp 22), type := _, pos := _, after := _, guard := some (30, true) }) (v := _) rfl (by kernel_rfl) (by kernel_rfl) (by kernel_rfl) (fun _ _ _ h => h) (yieldsIf_load_mid (by rfl) _ _ rfl _ _ rfl _ _ (fun w h => h.2.2.2.2.2.2.2.2.2.2.2.2.1) hu rfl hi) hHeld ?_
        simp only [Act.put, List.setIfInBounds_toArray, List.set_cons_zero, List.set_cons_succ]
        refine' wpAnyH_take (i := 32) (oi := { dst := some 161, op := .load 35 (.tmp 24), type := _, pos := _, after := _, guard := some (30, true) }) (v := _) rfl (by kernel_rfl) (by kernel_rfl) (by kernel_rfl) (fun _ _ _ h => h) (yieldsIf_load_mid (by rfl) _ _ rfl _ _ rfl _ _ (fun w h => h.2.2.2.2.2.2.2.2.2.2.2.2.2) hu rfl hi) hHeld ?_
        simp only [Act.put, List.setIfInBounds_toArray, List.set_cons_zero, List.set_cons_succ]
        refine wpAnyH_ready (rs := [33]) (by kernel_rfl) (by simp) ?_
        refine AllReadyH.cons (o := { dst := some 162, op := .call { callee := .value (.func 14), args := #[.tmp 160, .tmp 161], argTypes := #[35, 35] }, type := _, pos := _, after := _, guard := some (30, true) }) rfl (fun K hK => ?_) AllReadyH.nil
        go_simp
        (go_at_call 14; (with_reducible refine (hSM.out _ hgH).mono ?_); rintro e x9 ⟨rfl, hgi⟩)
        clear hSM
        go_wp2_with fail
        refine hK.out _ _ ⟨hgi.range hHeld.1, hgi.range hHeld.2.1, hgi.range hHeld.2.2.1, hgi.range hHeld.2.2.2.1, hgi.range hHeld.2.2.2.2.1, hgi.range hHeld.2.2.2.2.2.1, hgi.range hHeld.2.2.2.2.2.2.1, hgi.range hHeld.2.2.2.2.2.2.2.1, hgi.range hHeld.2.2.2.2.2.2.2.2.1, hgi.range hHeld.2.2.2.2.2.2.2.2.2.1, hgi.range hHeld.2.2.2.2.2.2.2.2.2.2.1, hgi.range hHeld.2.2.2.2.2.2.2.2.2.2.2.1, hgi.range hHeld.2.2.2.2.2.2.2.2.2.2.2.2.1, hgi.range hHeld.2.2.2.2.2.2.2.2.2.2.2.2.2⟩ (fun hHeld => ?_)
        clear hK K
        have hgH := hgH.trans hgi
        clear hgi
        refine wpAnyH_take (i := 34) (oi := { dst := some 163, op := .pick (.tmp 159) (.tmp 162) (.const (.bool false)), type := _, pos := _, after := _, guard := none }) (v := .bool true) rfl (by kernel_rfl) (by kernel_rfl) (by kernel_rfl) (fun _ _ _ h => h) (Or.inl ⟨by rfl, by intro w hSw; clear hSw; go_simp⟩) hHeld ?_
        simp only [Act.put, List.setIfInBounds_toArray, List.set_cons_zero, List.set_cons_succ]
        refine wpAnyH_take (i := 35) (oi := { dst := some 164, op := .move (.tmp 163), type := _, pos := _, after := _, guard := none }) (v := .bool true) rfl (by kernel_rfl) (by kernel_rfl) (by kernel_rfl) (fun _ _ _ h => h) (Or.inl ⟨by rfl, by intro w hSw; clear hSw; go_simp⟩) hHeld ?_
        simp only [Act.put, List.setIfInBounds_toArray, List.set_cons_zero, List.set_cons_succ]
        refine' wpAnyH_take (i := 36) (oi := { dst := some 165, op := .load 27 (.tmp 7), type := _, pos := _, after := _, guard := some (35, true) }) (v := _) rfl (by kernel_rfl) (by kernel_rfl) (by kernel_rfl) (fun _ _ _ h => h) (yieldsIf_load_mid (by rfl) _ _ rfl _ _ rfl _ _ (fun w h => h.2.1) hu2 rfl hi2) hHeld ?_
        simp only [Act.put, List.setIfInBounds_toArray, List.set_cons_zero, List.set_cons_succ]
        refine' wpAnyH_take (i := 38) (oi := { dst := some 167, op := .load 24 (.tmp 3), type := _, pos := _, after := _, guard := some (35, true) }) (v := _) rfl (by kernel_rfl) (by kernel_rfl) (by kernel_rfl) (fun _ _ _ h => h) (yieldsIf_load_mid (by rfl) _ _ rfl _ _ rfl _ _ (fun w h => h.1) hu3 rfl hi3) hHeld ?_
        simp only [Act.put, List.setIfInBounds_toArray, List.set_cons_zero, List.set_cons_succ]
        refine wpAnyH_ready (rs := [37]) (by kernel_rfl) (by simp) ?_
        refine AllReadyH.cons (o := { dst := some 166, op := .call { callee := .value (.func 18), args := #[.tmp 165], argTypes := #[27] }, type := _, pos := _, after := _, guard := some (35, true) }) rfl (fun K hK => ?_) AllReadyH.nil
        go_simp
        (go_at_call 18; (with_reducible refine (hVi.out _ hgH).mono ?_); rintro e x10 ⟨rfl, hgi⟩)
        clear hVi
        go_wp2_with fail
        refine hK.out _ _ ⟨hgi.range hHeld.1, hgi.range hHeld.2.1, hgi.range hHeld.2.2.1, hgi.range hHeld.2.2.2.1, hgi.range hHeld.2.2.2.2.1, hgi.range hHeld.2.2.2.2.2.1, hgi.range hHeld.2.2.2.2.2.2.1, hgi.range hHeld.2.2.2.2.2.2.2.1, hgi.range hHeld.2.2.2.2.2.2.2.2.1, hgi.range hHeld.2.2.2.2.2.2.2.2.2.1, hgi.range hHeld.2.2.2.2.2.2.2.2.2.2.1, hgi.range hHeld.2.2.2.2.2.2.2.2.2.2.2.1, hgi.range hHeld.2.2.2.2.2.2.2.2.2.2.2.2.1, hgi.range hHeld.2.2.2.2.2.2.2.2.2.2.2.2.2⟩ (fun hHeld => ?_)
        clear hK K
        have hgH := hgH.trans hgi
        clear hgi
        refine wpAnyH_ready (rs := [39]) (by kernel_rfl) (by simp) ?_
        refine AllReadyH.cons (o := { dst := some 168, op := .call { callee := .value (.func 17), args := #[.tmp 166, .tmp 167], argTypes := #[24, 24] }, type := _, pos := _, after := _, guard := some (35, true) }) rfl (fun K hK => ?_) AllReadyH.nil
        go_simp
        (go_at_call 17; (with_reducible refine (hVs.out _ hgH).mono ?_); rintro e x11 ⟨rfl, hgi⟩)
        clear hVs
        go_wp2_with fail
        refine hK.out _ _ ⟨hgi.range hHeld.1, hgi.range hHeld.2.1, hgi.range hHeld.2.2.1, hgi.range hHeld.2.2.2.1, hgi.range hHeld.2.2.2.2.1, hgi.range hHeld.2.2.2.2.2.1, hgi.range hHeld.2.2.2.2.2.2.1, hgi.range hHeld.2.2.2.2.2.2.2.1, hgi.range hHeld.2.2.2.2.2.2.2.2.1, hgi.range hHeld.2.2.2.2.2.2.2.2.2.1, hgi.range hHeld.2.2.2.2.2.2.2.2.2.2.1, hgi.range hHeld.2.2.2.2.2.2.2.2.2.2.2.1, hgi.range hHeld.2.2.2.2.2.2.2.2.2.2.2.2.1, hgi.range hHeld.2.2.2.2.2.2.2.2.2.2.2.2.2⟩ (fun hHeld => ?_)
        clear hK K
        have hgH := hgH.trans hgi
        clear hgi
        refine wpAnyH_take (i := 40) (oi := { dst := some 169, op := .pick (.tmp 164) (.tmp 168) (.const (.bool false)), type := _, pos := _, after := _, guard := none }) (v := .bool true) rfl (by kernel_rfl) (by kernel_rfl) (by kernel_rfl) (fun _ _ _ h => h) (Or.inl ⟨by rfl, by intro w hSw; clear hSw; go_simp⟩) hHeld ?_
        simp only [Act.put, List.setIfInBounds_toArray, List.set_cons_zero, List.set_cons_succ]
        refine wpAnyH_take (i := 41) (oi := { dst := some 170, op := .move (.tmp 169), type := _, pos := _, after := _, guard := none }) (v := .bool true) rfl (by kernel_rfl) (by kernel_rfl) (by kernel_rfl) (fun _ _ _ h => h) (Or.inl ⟨by rfl, by intro w hSw; clear hSw; go_simp⟩) hHeld ?_
        simp only [Act.put, List.setIfInBounds_toArray, List.set_cons_zero, List.set_cons_succ]
        refine wpAnyH_ready (rs := [42]) (by kernel_rfl) (by simp) ?_
        refine AllReadyH.cons (o := { dst := some 171, op := .call { callee := .value (.func 5), args := #[], argTypes := #[] }, type := _, pos := _, after := _, guard := some (41, true) }) rfl (fun K hK => ?_) AllReadyH.nil
        go_simp
        (go_at_call 5; (with_reducible refine (awake7_any _).mono ?_); rintro e x12 ⟨rfl, hgi⟩)
        go_wp2_with fail
        refine hK.out _ _ ⟨hgi.range hHeld.1, hgi.range hHeld.2.1, hgi.range hHeld.2.2.1, hgi.range hHeld.2.2.2.1, hgi.range hHeld.2.2.2.2.1, hgi.range hHeld.2.2.2.2.2.1, hgi.range hHeld.2.2.2.2.2.2.1, hgi.range hHeld.2.2.2.2.2.2.2.1, hgi.range hHeld.2.2.2.2.2.2.2.2.1, hgi.range hHeld.2.2.2.2.2.2.2.2.2.1, hgi.range hHeld.2.2.2.2.2.2.2.2.2.2.1, hgi.range hHeld.2.2.2.2.2.2.2.2.2.2.2.1, hgi.range hHeld.2.2.2.2.2.2.2.2.2.2.2.2.1, hgi.range hHeld.2.2.2.2.2.2.2.2.2.2.2.2.2⟩ (fun hHeld => ?_)
        clear hK K
        have hgH := hgH.trans hgi
        clear hgi
        refine wpAnyH_take (i := 43) (oi := { dst := some 172, op := .pick (.tmp 170) (.tmp 171) (.const (.bool false)), type := _, pos := _, after := _, guard := none }) (v := .bool true) rfl (by kernel_rfl) (by kernel_rfl) (by kernel_rfl) (fun _ _ _ h => h) (Or.inl ⟨by rfl, by intro w hSw; clear hSw; go_simp⟩) hHeld ?_
        simp only [Act.put, List.setIfInBounds_toArray, List.set_cons_zero, List.set_cons_succ]
        refine wpAnyH_ready (rs := [44]) (by kernel_rfl) (by simp) ?_
        refine AllReadyH.cons rfl (fun K hK => ?_) AllReadyH.nil
        go_simp
        refine hK.out _ _ hHeld (fun hHeld => ?_)
        clear hK K
        refine wpAnyH_done (by kernel_rfl) ?_ _
        all_goals
          go_wp2_with fail
          go_ret
          exact ⟨rfl, hg11w.trans hgH⟩
theorem builds_walk (v : Vw) (oa : Option Addr) (n cap : Nat) (left right : Int) (w : World) (h : RowsAt w oa n cap v.rows) (hv : VwSz v) {p1 p2 : Prop} (_ : p1) (_ : p2) :
    Calls Try.prog 3 #[vwV v oa n cap, .int .i64 left, .int .i64 right] w fun e w2 => e = .returned (.bool true) ∧ Gr w w2 := builds7 v left right oa n cap w h hv
end Go.Proofs.Ytidfelbaegaphaa
