import Derived.Test.YtfejdbcfcpmdiaaDoorCcpz
namespace Go.Proofs.YtfejdbcfcpmdiaaDoor
set_option linter.unusedVariables false
set_option linter.unusedSimpArgs false
open Go.BigFrame Go.RowKit Go.WideShapes

/-! The document's table: what makes no slices. -/
theorem Bx.ret2b {P : Program} {w : World} {b : Nat} {vs : List Value} (h : Bx w b vs) {fn : Func} {p u q : Tmp} {ty : TypeId} (hr : fn.results = #[.cell p ty, .tmp u, .tmp q]) (tmps : Array Value) (hp : tmps.getD p undef = .pointer (some ⟨b, 0, none⟩)) {v x : Value} (hv : tmps.getD u undef = v) (hx : tmps.getD q undef = x)
    {d : TypeDesc} (hu : P.underlying ty = some d) (hd : d.isRow = true) (hi : (P.info? ty).map (·.size) = some vs.length) : (results fn tmps).run P w = .ok (.tuple #[.agg vs.toArray, v, x]) w := by
  have hp' : tmps[p]?.getD undef = .pointer (some ⟨b, 0, none⟩) := by simpa using hp
  have hv' : tmps[u]?.getD undef = v := by simpa using hv
  have hx' : tmps[q]?.getD undef = x := by simpa using hx
  simp [results, hr, hp', hv', hx', asAddr, run_loadVar_mid w b 0 ty vs d h.rng hu hd hi]
abbrev zRT : List Value := [.int .i64 0, .int .i64 0, .slice none 0 0, .slice none 0 0, .slice none 0 0, .int .i64 0]
theorem boxes2 (w : World) (T : TypeId) (us zs : List Value) : ∃ W, W = (w.alloc (.cells us.toArray T)).alloc (.cells zs.toArray T) ∧ Bx W w.heap.size us ∧ Bx W (w.heap.size + 1) zs ∧ Gr w W ∧ W.heap.size = w.heap.size + 1 + 1 := by
  refine ⟨_, rfl, ((Bx.new w _ _ rfl).keep ((Gr.refl _).alloc _)).of (by simp), (Bx.new (w.alloc _) _ _ (by rw [size_alloc1])).of (by simp), ((Gr.refl w).alloc _).alloc _, by rw [size_alloc1, size_alloc1]⟩
section
variable {S : List Nat} {W w : World} {T : Ct} {p : Rp}
set_option maxRecDepth 100000 in
set_option maxHeartbeats 2000000 in
theorem refIs_r (th : Int) (hm : T.marks.length ≤ 64) : Calls Tryd.prog 42 #[.agg (refL T p).toArray, .int .i64 th] w fun e w' => e = .returned (.bool (isT T th)) ∧ Gr w w' := by
  have hB := (Bx.new w (refL T p).toArray 31 rfl).of (us := refL T p) (by simp)
  have c4 := hB.cell 4 rfl
  unfold isT
  by_cases h0 : 0 ≤ th
  · have h1 : decide (0 ≤ th) = true := by simpa using h0
    by_cases h2 : th < (T.marks.length : Int)
    · have h3 : decide (th < (T.marks.length : Int)) = true := by simpa using h2
      go_enter Tryd.func42, Tryd.ntmps42
      go_wp2_with fail
      go_ret
      exact ⟨by simp [h0, h2], by repeat (first | with_reducible exact Gr.refl _ | with_reducible refine Gr.drewN ?_ _ | with_reducible refine Gr.drew ?_ | with_reducible refine Gr.alloc ?_ _ | with_reducible refine Gr.setCell ?_ ?_ _ | (with_reducible refine Gr.trans ?_ (by assumption)) | omega | (dsimp only; omega))⟩
    · have h3 : decide (th < (T.marks.length : Int)) = false := by simpa using h2
      go_enter Tryd.func42, Tryd.ntmps42
      go_wp2_with fail
      go_ret
      exact ⟨by simp [h0, h2], by repeat (first | with_reducible exact Gr.refl _ | with_reducible refine Gr.drewN ?_ _ | with_reducible refine Gr.drew ?_ | with_reducible refine Gr.alloc ?_ _ | with_reducible refine Gr.setCell ?_ ?_ _ | (with_reducible refine Gr.trans ?_ (by assumption)) | omega | (dsimp only; omega))⟩
  · have h1 : decide (0 ≤ th) = false := by simpa using h0
    go_enter Tryd.func42, Tryd.ntmps42
    go_wp2_with fail
    go_ret
    exact ⟨by simp [h0], by repeat (first | with_reducible exact Gr.refl _ | with_reducible refine Gr.drewN ?_ _ | with_reducible refine Gr.drew ?_ | with_reducible refine Gr.alloc ?_ _ | with_reducible refine Gr.setCell ?_ ?_ _ | (with_reducible refine Gr.trans ?_ (by assumption)) | omega | (dsimp only; omega))⟩
theorem refIs_at {th : Int} {b : Bool} (hm : T.marks.length ≤ 64) (hb : isT T th = b) (w : World) : Calls Tryd.prog 42 #[.agg (refL T p).toArray, .int .i64 th] w fun e w' => e = .returned (.bool b) ∧ Gr w w' := by
  rw [← hb]; exact refIs_r th hm
set_option maxRecDepth 100000 in
set_option maxHeartbeats 2000000 in
theorem refGrab_r (hO : CtOk T) (th : Int) : Calls Tryd.prog 29 #[.agg (refL T p).toArray, .int .i64 th] w fun e w' => e = .returned (.tuple #[.agg (refL (grR T th) p).toArray, .bool (grOk T th), .int .i64 (mkE T th)]) ∧ Gr w w' := by
  unfold grR grOk mkE
  cases hi : isT T th
  · have hI := refIs_at (p := p) hO.mk2 hi
    rw [if_neg (by simp), if_neg (by simp)]
    clear hO hi
    obtain ⟨V, hV, B0, B1, hg0, hsz⟩ := boxes2 w 31 (refL T p) zRT
    go_enter Tryd.func29, Tryd.ntmps29
    go_upto_region 1 with fail
    rw [← hV]
    clear hV
    have Hsz := Lib.hid hsz
    generalize hbx : w.heap.size = bx at *
    have Hbx := Lib.hid hbx
    clear hbx hsz
    go_wp2_with (first | ((with_reducible refine wpList_load_box (ty := 31) (B0) ?_ ?_ Tryd.underlying31 ?_ ?_ ?_); (focus (exact rfl)); (focus (exact ⟨_, rfl, rfl⟩)); (focus (exact rfl)); (focus kernel_rfl)) | (go_at_call 42; (with_reducible refine (hI _).mono ?_); rintro e w1 ⟨rfl, hg1⟩; (have B0 := B0.keep hg1); (have B1 := B1.keep hg1); (have hgw := hg0.trans hg1)) | ((with_reducible refine wpList_store_box (ty := 31) (B1) ((refL T p)) ?_ ?_ ?_ ?_ ?_ ?_); (focus (exact rfl)); (focus (exact ⟨_, _, rfl, rfl, rfl⟩)); (focus (exact rfl)); (focus kernel_rfl); (focus kernel_rfl)))
    have Z := (B1).setAll (us := refL T p) rfl
    refine bodyPost_ret (Bx.ret2b Z rfl _ rfl rfl rfl Tryd.underlying31 rfl (by kernel_rfl)) rfl ?_
    exact ⟨rfl, (hgw).setCells (by rw [Hbx.out]; omega) _ _⟩
  · have hI := refIs_at (p := p) hO.mk2 hi
    rw [if_pos rfl]
    clear hO hi
    by_cases h0 : T.hold < 0
    · have hb : (true && decide (T.hold < 0)) = true := by simpa using h0
      rw [if_pos hb, hb]
      have hd : decide (0 ≤ T.hold) = false := by simpa using h0
      clear hb
      obtain ⟨V, hV, B0, B1, hg0, hsz⟩ := boxes2 w 31 (refL T p) zRT
      go_enter Tryd.func29, Tryd.ntmps29
      go_upto_region 1 with fail
      rw [← hV]
      clear hV
      have Hsz := Lib.hid hsz
      generalize hbx : w.heap.size = bx at *
      have Hbx := Lib.hid hbx
      clear hbx hsz
      go_upto_region 5 with (first | ((with_reducible refine wpList_load_box (ty := 31) (B0) ?_ ?_ Tryd.underlying31 ?_ ?_ ?_); (focus (exact rfl)); (focus (exact ⟨_, rfl, rfl⟩)); (focus (exact rfl)); (focus kernel_rfl)) | ((go_at_call 42; (with_reducible refine (hI _).mono ?_); rintro e w1 ⟨rfl, hg1⟩; (have B0 := B0.keep hg1); (have B1 := B1.keep hg1); (have hgw := hg0.trans hg1)); have d5 := B0.cell 5 rfl; have f5 := B0.free 5 (by simp)))
      go_upto_region 6 with fail
      have C0 := (B0.set 5 (.int .i64 th)).of (us := refL (hoT T th) p) rfl
      have C1 := B1.other (b' := bx) (j := 5) (by omega) (.int .i64 th)
      have hgw2 := hgw.setCell (p := ⟨bx, 5, none⟩) (by rw [Hbx.out]; exact Nat.le_refl _) (.int .i64 th)
      clear B0 B1 d5 f5 hgw hg1
      generalize w1.setCell ⟨bx, 5, none⟩ (.int .i64 th) = w2 at *
      (try simp only [Act.put])
      go_wp2_with (first | ((with_reducible refine wpList_load_box (ty := 31) (C0) ?_ ?_ Tryd.underlying31 ?_ ?_ ?_); (focus (exact rfl)); (focus (exact ⟨_, rfl, rfl⟩)); (focus (exact rfl)); (focus kernel_rfl)) | ((with_reducible refine wpList_store_box (ty := 31) (C1) ((refL (hoT T th) p)) ?_ ?_ ?_ ?_ ?_ ?_); (focus (exact rfl)); (focus (exact ⟨_, _, rfl, rfl, rfl⟩)); (focus (exact rfl)); (focus kernel_rfl); (focus kernel_rfl)))
      have Z := (C1).setAll (us := refL (hoT T th) p) rfl
      refine bodyPost_ret (Bx.ret2b Z rfl _ rfl rfl rfl Tryd.underlying31 rfl (by kernel_rfl)) rfl ?_
      exact ⟨rfl, (hgw2).setCells (by rw [Hbx.out]; omega) _ _⟩
    · have hb : (true && decide (T.hold < 0)) = false := by simpa using h0
      rw [if_neg (by rw [hb]; decide), hb]
      have hd : decide (0 ≤ T.hold) = true := by simp; omega
      clear hb
      obtain ⟨V, hV, B0, B1, hg0, hsz⟩ := boxes2 w 31 (refL T p) zRT
      go_enter Tryd.func29, Tryd.ntmps29
      go_upto_region 1 with fail
      rw [← hV]
      clear hV
      have Hsz := Lib.hid hsz
      generalize hbx : w.heap.size = bx at *
      have Hbx := Lib.hid hbx
      clear hbx hsz
      go_wp2_with (first | ((with_reducible refine wpList_load_box (ty := 31) (B0) ?_ ?_ Tryd.underlying31 ?_ ?_ ?_); (focus (exact rfl)); (focus (exact ⟨_, rfl, rfl⟩)); (focus (exact rfl)); (focus kernel_rfl)) | ((go_at_call 42; (with_reducible refine (hI _).mono ?_); rintro e w1 ⟨rfl, hg1⟩; (have B0 := B0.keep hg1); (have B1 := B1.keep hg1); (have hgw := hg0.trans hg1)); have d5 := B0.cell 5 rfl) | ((with_reducible refine wpList_store_box (ty := 31) (B1) ((refL T p)) ?_ ?_ ?_ ?_ ?_ ?_); (focus (exact rfl)); (focus (exact ⟨_, _, rfl, rfl, rfl⟩)); (focus (exact rfl)); (focus kernel_rfl); (focus kernel_rfl)))
      have Z := (B1).setAll (us := refL T p) rfl
      refine bodyPost_ret (Bx.ret2b Z rfl _ rfl rfl rfl Tryd.underlying31 rfl (by kernel_rfl)) rfl ?_
      exact ⟨rfl, (hgw).setCells (by rw [Hbx.out]; omega) _ _⟩
set_option maxRecDepth 100000 in
set_option maxHeartbeats 2000000 in
theorem refYield_r (hO : CtOk T) (th : Int) : Calls Tryd.prog 31 #[.agg (refL T p).toArray, .int .i64 th] w fun e w' => e = .returned (.tuple #[.agg (refL (yiR T th) p).toArray, .bool (yiOk T th), .int .i64 (mkE T th)]) ∧ Gr w w' := by
  unfold yiR yiOk mkE
  cases hi : isT T th
  · have hI := refIs_at (p := p) hO.mk2 hi
    rw [if_neg (by simp), if_neg (by simp)]
    clear hO hi
    obtain ⟨V, hV, B0, B1, hg0, hsz⟩ := boxes2 w 31 (refL T p) zRT
    go_enter Tryd.func31, Tryd.ntmps31
    go_upto_region 1 with fail
    rw [← hV]
    clear hV
    have Hsz := Lib.hid hsz
    generalize hbx : w.heap.size = bx at *
    have Hbx := Lib.hid hbx
    clear hbx hsz
    go_wp2_with (first | ((with_reducible refine wpList_load_box (ty := 31) (B0) ?_ ?_ Tryd.underlying31 ?_ ?_ ?_); (focus (exact rfl)); (focus (exact ⟨_, rfl, rfl⟩)); (focus (exact rfl)); (focus kernel_rfl)) | (go_at_call 42; (with_reducible refine (hI _).mono ?_); rintro e w1 ⟨rfl, hg1⟩; (have B0 := B0.keep hg1); (have B1 := B1.keep hg1); (have hgw := hg0.trans hg1)) | ((with_reducible refine wpList_store_box (ty := 31) (B1) ((refL T p)) ?_ ?_ ?_ ?_ ?_ ?_); (focus (exact rfl)); (focus (exact ⟨_, _, rfl, rfl, rfl⟩)); (focus (exact rfl)); (focus kernel_rfl); (focus kernel_rfl)))
    have Z := (B1).setAll (us := refL T p) rfl
    refine bodyPost_ret (Bx.ret2b Z rfl _ rfl rfl rfl Tryd.underlying31 rfl (by kernel_rfl)) rfl ?_
    exact ⟨rfl, (hgw).setCells (by rw [Hbx.out]; omega) _ _⟩
  · have hI := refIs_at (p := p) hO.mk2 hi
    rw [if_pos rfl]
    clear hO hi
    by_cases h0 : T.hold = th
    · have hb : (true && decide (T.hold = th)) = true := by simpa using h0
      rw [if_pos hb, hb]
      have hd : (T.hold != th) = false := by simpa using h0
      clear hb h0
      obtain ⟨V, hV, B0, B1, hg0, hsz⟩ := boxes2 w 31 (refL T p) zRT
      go_enter Tryd.func31, Tryd.ntmps31
      go_upto_region 1 with fail
      rw [← hV]
      clear hV
      have Hsz := Lib.hid hsz
      generalize hbx : w.heap.size = bx at *
      have Hbx := Lib.hid hbx
      clear hbx hsz
      go_upto_region 5 with (first | ((with_reducible refine wpList_load_box (ty := 31) (B0) ?_ ?_ Tryd.underlying31 ?_ ?_ ?_); (focus (exact rfl)); (focus (exact ⟨_, rfl, rfl⟩)); (focus (exact rfl)); (focus kernel_rfl)) | ((go_at_call 42; (with_reducible refine (hI _).mono ?_); rintro e w1 ⟨rfl, hg1⟩; (have B0 := B0.keep hg1); (have B1 := B1.keep hg1); (have hgw := hg0.trans hg1)); have d5 := B0.cell 5 rfl; have f5 := B0.free 5 (by simp)))
      go_upto_region 6 with fail
      have C0 := (B0.set 5 (.int .i64 (-1))).of (us := refL (hoT T (-1)) p) rfl
      have C1 := B1.other (b' := bx) (j := 5) (by omega) (.int .i64 (-1))
      have hgw2 := hgw.setCell (p := ⟨bx, 5, none⟩) (by rw [Hbx.out]; exact Nat.le_refl _) (.int .i64 (-1))
      clear B0 B1 d5 f5 hgw hg1
      generalize w1.setCell ⟨bx, 5, none⟩ (.int .i64 (-1)) = w2 at *
      (try simp only [Act.put])
      go_wp2_with (first | ((with_reducible refine wpList_load_box (ty := 31) (C0) ?_ ?_ Tryd.underlying31 ?_ ?_ ?_); (focus (exact rfl)); (focus (exact ⟨_, rfl, rfl⟩)); (focus (exact rfl)); (focus kernel_rfl)) | ((with_reducible refine wpList_store_box (ty := 31) (C1) ((refL (hoT T (-1)) p)) ?_ ?_ ?_ ?_ ?_ ?_); (focus (exact rfl)); (focus (exact ⟨_, _, rfl, rfl, rfl⟩)); (focus (exact rfl)); (focus kernel_rfl); (focus kernel_rfl)))
      have Z := (C1).setAll (us := refL (hoT T (-1)) p) rfl
      refine bodyPost_ret (Bx.ret2b Z rfl _ rfl rfl rfl Tryd.underlying31 rfl (by kernel_rfl)) rfl ?_
      exact ⟨rfl, (hgw2).setCells (by rw [Hbx.out]; omega) _ _⟩
    · have hb : (true && decide (T.hold = th)) = false := by simpa using h0
      rw [if_neg (by rw [hb]; decide), hb]
      have hd : (T.hold != th) = true := by simpa using h0
      clear hb h0
      obtain ⟨V, hV, B0, B1, hg0, hsz⟩ := boxes2 w 31 (refL T p) zRT
      go_enter Tryd.func31, Tryd.ntmps31
      go_upto_region 1 with fail
      rw [← hV]
      clear hV
      have Hsz := Lib.hid hsz
      generalize hbx : w.heap.size = bx at *
      have Hbx := Lib.hid hbx
      clear hbx hsz
      go_wp2_with (first | ((with_reducible refine wpList_load_box (ty := 31) (B0) ?_ ?_ Tryd.underlying31 ?_ ?_ ?_); (focus (exact rfl)); (focus (exact ⟨_, rfl, rfl⟩)); (focus (exact rfl)); (focus kernel_rfl)) | ((go_at_call 42; (with_reducible refine (hI _).mono ?_); rintro e w1 ⟨rfl, hg1⟩; (have B0 := B0.keep hg1); (have B1 := B1.keep hg1); (have hgw := hg0.trans hg1)); have d5 := B0.cell 5 rfl) | ((with_reducible refine wpList_store_box (ty := 31) (B1) ((refL T p)) ?_ ?_ ?_ ?_ ?_ ?_); (focus (exact rfl)); (focus (exact ⟨_, _, rfl, rfl, rfl⟩)); (focus (exact rfl)); (focus kernel_rfl); (focus kernel_rfl)))
      have Z := (B1).setAll (us := refL T p) rfl
      refine bodyPost_ret (Bx.ret2b Z rfl _ rfl rfl rfl Tryd.underlying31 rfl (by kernel_rfl)) rfl ?_
      exact ⟨rfl, (hgw).setCells (by rw [Hbx.out]; omega) _ _⟩
set_option maxRecDepth 100000 in
set_option maxHeartbeats 2000000 in
theorem refAdvance_r (hO : CtOk T) (n : Int) : Calls Tryd.prog 33 #[.agg (refL T p).toArray, .int .i64 n] w fun e w' => e = .returned (.tuple #[.agg (refL (adR T n) p).toArray, .bool (adOk T n), .int .i64 (adE T)]) ∧ Gr w w' := by
  have h1 := hO.low
  have h2 := hO.cap
  have h3 := hO.lim
  unfold adR adOk adE
  clear hO
  by_cases h0 : T.low = T.all.length
  · have hd : ((T.low : Int) == (T.all.length : Int)) = true := by rw [h0]; simp
    have e0 : decide (T.low ≠ T.all.length) = false := by simpa using h0
    rw [if_pos h0, e0, if_neg (by simp)]
    clear e0
    have H0 := Lib.hid h0
    clear h0
    obtain ⟨V, hV, B0, B1, hg0, hsz⟩ := boxes2 w 31 (refL T p) zRT
    go_enter Tryd.func33, Tryd.ntmps33
    go_upto_region 1 with fail
    rw [← hV]
    clear hV
    have Hsz := Lib.hid hsz
    generalize hbx : w.heap.size = bx at *
    have Hbx := Lib.hid hbx
    clear hbx hsz
    have d1 := B0.cell 1 rfl
    have d2 := B0.cell 2 rfl
    go_wp2_with (first | ((with_reducible refine wpList_load_box (ty := 31) (B0) ?_ ?_ Tryd.underlying31 ?_ ?_ ?_); (focus (exact rfl)); (focus (exact ⟨_, rfl, rfl⟩)); (focus (exact rfl)); (focus kernel_rfl)) | ((with_reducible refine wpList_store_box (ty := 31) (B1) ((refL T p)) ?_ ?_ ?_ ?_ ?_ ?_); (focus (exact rfl)); (focus (exact ⟨_, _, rfl, rfl, rfl⟩)); (focus (exact rfl)); (focus kernel_rfl); (focus kernel_rfl)))
    have Z := (B1).setAll (us := refL T p) rfl
    refine bodyPost_ret (Bx.ret2b Z rfl _ rfl rfl rfl Tryd.underlying31 rfl (by kernel_rfl)) rfl ?_
    exact ⟨rfl, (hg0).setCells (by rw [Hbx.out]; omega) _ _⟩
  · have hd : ((T.low : Int) == (T.all.length : Int)) = false := by rw [beq_eq_false_iff_ne]; omega
    have e0 : decide (T.low ≠ T.all.length) = true := by simpa using h0
    rw [if_neg h0, e0, Bool.true_and]
    clear e0
    by_cases h4 : (T.low : Int) = n
    · have hd2 : ((T.low : Int) != n) = false := by simpa using h4
      rw [decide_eq_true h4, if_pos rfl]
      clear h4
      obtain ⟨V, hV, B0, B1, hg0, hsz⟩ := boxes2 w 31 (refL T p) zRT
      go_enter Tryd.func33, Tryd.ntmps33
      go_upto_region 1 with fail
      rw [← hV]
      clear hV
      have Hsz := Lib.hid hsz
      generalize hbx : w.heap.size = bx at *
      have Hbx := Lib.hid hbx
      clear hbx hsz
      have d1 := B0.cell 1 rfl
      have d2 := B0.cell 2 rfl
      have f1 := B0.free 1 (by simp)
      go_upto_region 5 with fail
      go_upto_region 6 with fail
      have C0 := (B0.set 1 (.int .i64 ((T.low : Int) + 1))).of (us := refL (adT T) p) (by unfold adT; simp)
      have C1 := B1.other (b' := bx) (j := 1) (by omega) (.int .i64 ((T.low : Int) + 1))
      have hgw2 := hg0.setCell (p := ⟨bx, 1, none⟩) (by rw [Hbx.out]; exact Nat.le_refl _) (.int .i64 ((T.low : Int) + 1))
      clear B0 B1 d1 d2 f1 hg0
      generalize V.setCell ⟨bx, 1, none⟩ (.int .i64 ((T.low : Int) + 1)) = w2 at *
      (try simp only [Act.put])
      go_wp2_with (first | ((with_reducible refine wpList_load_box (ty := 31) (C0) ?_ ?_ Tryd.underlying31 ?_ ?_ ?_); (focus (exact rfl)); (focus (exact ⟨_, rfl, rfl⟩)); (focus (exact rfl)); (focus kernel_rfl)) | ((with_reducible refine wpList_store_box (ty := 31) (C1) ((refL (adT T) p)) ?_ ?_ ?_ ?_ ?_ ?_); (focus (exact rfl)); (focus (exact ⟨_, _, rfl, rfl, rfl⟩)); (focus (exact rfl)); (focus kernel_rfl); (focus kernel_rfl)))
      have Z := (C1).setAll (us := refL (adT T) p) rfl
      refine bodyPost_ret (Bx.ret2b Z rfl _ rfl rfl rfl Tryd.underlying31 rfl (by kernel_rfl)) rfl ?_
      exact ⟨rfl, (hgw2).setCells (by rw [Hbx.out]; omega) _ _⟩
    · have hd2 : ((T.low : Int) != n) = true := by simpa using h4
      rw [decide_eq_false h4, if_neg (by decide)]
      clear h4
      obtain ⟨V, hV, B0, B1, hg0, hsz⟩ := boxes2 w 31 (refL T p) zRT
      go_enter Tryd.func33, Tryd.ntmps33
      go_upto_region 1 with fail
      rw [← hV]
      clear hV
      have Hsz := Lib.hid hsz
      generalize hbx : w.heap.size = bx at *
      have Hbx := Lib.hid hbx
      clear hbx hsz
      have d1 := B0.cell 1 rfl
      have d2 := B0.cell 2 rfl
      go_wp2_with (first | ((with_reducible refine wpList_load_box (ty := 31) (B0) ?_ ?_ Tryd.underlying31 ?_ ?_ ?_); (focus (exact rfl)); (focus (exact ⟨_, rfl, rfl⟩)); (focus (exact rfl)); (focus kernel_rfl)) | ((with_reducible refine wpList_store_box (ty := 31) (B1) ((refL T p)) ?_ ?_ ?_ ?_ ?_ ?_); (focus (exact rfl)); (focus (exact ⟨_, _, rfl, rfl, rfl⟩)); (focus (exact rfl)); (focus kernel_rfl); (focus kernel_rfl)))
      have Z := (B1).setAll (us := refL T p) rfl
      refine bodyPost_ret (Bx.ret2b Z rfl _ rfl rfl rfl Tryd.underlying31 rfl (by kernel_rfl)) rfl ?_
      exact ⟨rfl, (hg0).setCells (by rw [Hbx.out]; omega) _ _⟩
end
end Go.Proofs.YtfejdbcfcpmdiaaDoor
