import Derived.Test.YtfejdbcfcpmdiaaDoorCsz
import Derived.Test.YtfejdbcfcpmdiaaDoorFwz
namespace Go.Proofs.YtfejdbcfcpmdiaaDoor
set_option linter.unusedVariables false
set_option linter.unusedSimpArgs false
open Go.BigFrame Go.RowKit Go.WideShapes

/-! The document's table: what makes slices. -/
theorem SlE.one1 {α : Type} {E : EP α} {w : World} {b : Nat} {x : α} {v : Value} {r : Option Nat} (hv : v.oneCell' = true) (hE : ∀ w, E w x [v]) (hc : w.cell? ⟨b, 0, Option.none⟩ = some v) (hr : r ≠ some b) : SlE E 1 (hideB w r) (some ⟨b, 0, Option.none⟩) 1 1 [x] := by
  refine SlE.one (by simp) (Nat.le_refl _) (by unfold maxLen; omega) rfl (by simpa using hv) (hE _) fun j u hj => ?_
  have hj0 : j = 0 := by have := (List.getElem?_eq_some_iff.1 hj).1; simp at this; exact this
  subst hj0
  obtain rfl : v = u := by simpa using hj
  exact hideB_cell.2 ⟨hr, hc⟩
theorem ap_bad {T : Ct} {n : Int} {l : List Wt} (h : okL l = false) : apR T n l = T ∧ apOk T n (okL l) = false ∧ apE T n (okL l) = 1 := by
  have e : apOk T n (okL l) = false := by rw [h]; unfold apOk; simp
  exact ⟨by unfold apR; rw [if_neg (by rw [e]; decide)], e, by unfold apE; rw [if_pos h]⟩
theorem ap_late {T : Ct} {n : Int} {l : List Wt} (h : okL l = true) (hn : n ≠ T.all.length) : apR T n l = T ∧ apOk T n (okL l) = false ∧ apE T n (okL l) = 0 := by
  have e : apOk T n (okL l) = false := by unfold apOk; rw [decide_eq_false hn]; simp
  exact ⟨by unfold apR; rw [if_neg (by rw [e]; decide)], e, by unfold apE; rw [if_neg (by rw [h]; decide), if_pos hn]⟩
theorem ap_full {T : Ct} {l : List Wt} (h : okL l = true) (hn : T.all.length = T.lim) : apR T T.all.length l = T ∧ apOk T T.all.length (okL l) = false ∧ apE T T.all.length (okL l) = 5 := by
  have e : apOk T T.all.length (okL l) = false := by unfold apOk; rw [decide_eq_false (by omega : ¬ T.all.length < T.lim)]; simp
  exact ⟨by unfold apR; rw [if_neg (by rw [e]; decide)], e, by unfold apE; rw [if_neg (by rw [h]; decide), if_neg (by simp), if_pos hn]⟩
theorem ap_yes {T : Ct} {l : List Wt} (h : okL l = true) (hn : T.all.length < T.lim) : apR T T.all.length l = apT T l ∧ apOk T T.all.length (okL l) = true ∧ apE T T.all.length (okL l) = 0 := by
  have e : apOk T T.all.length (okL l) = true := by unfold apOk; rw [h, decide_eq_true hn]; simp
  exact ⟨by unfold apR; rw [if_pos e], e, by unfold apE; rw [if_neg (by rw [h]; decide), if_neg (by simp), if_neg (by omega)]⟩
theorem Bx.grown {w w' : World} {b : Nat} {vs : List Value} {r : Option Nat} (h : Bx w b vs) (hg : w.grownBy w' r) (hr : r ≠ some b) : Bx w' b vs := by
  cases r with
  | none => exact (Mod.grown hg (S := []) fun x e => by cases e).box (by simp) h
  | some g => exact (Mod.grown hg (S := [g]) fun x e => by cases e; simp).box (by simp only [List.mem_singleton]; intro e; exact hr (by rw [e])) h
/-- a copy of a slice is appended to a fresh one -/
theorem src_old {α : Type} {E : EP α} (hE : Mono E) {k : Nat} {w1 w2 : World} {oa : Option Addr} {n cap : Nat} {l : List α} (h : SlE E k w1 oa n cap l) (hg : Gr w1 w2) {b : Nat} (hb : w1.heap.size ≤ b) : SlE E k (hideB w2 (some b)) oa n cap l :=
  h.ex hE (ex_hide hg.ex fun g e => by cases e; exact hb)
section
variable {S : List Nat} {W w : World} {T : Ct} {p : Rp}
/-- the document's table behind a step: told, and where it lies -/
def RefT1 (S : List Nat) (W w : World) (T' : Ct) (c : Value) (e : Ending) (w' : World) : Prop := ∃ p', e = .returned (.tuple #[.agg (refL T' p').toArray, c]) ∧ RefV S W w' T' p' ∧ Gr w w'
def RefT2 (S : List Nat) (W w : World) (T' : Ct) (ok : Bool) (c : Int) (e : Ending) (w' : World) : Prop := ∃ p', e = .returned (.tuple #[.agg (refL T' p').toArray, .bool ok, .int .i64 c]) ∧ RefV S W w' T' p' ∧ Gr w w'
set_option maxRecDepth 100000 in
set_option maxHeartbeats 4000000 in
theorem refAppend_r (hR : RefV S W w T p) (hO : CtOk T) (hS : ∀ b ∈ S, b < w.heap.size) {oa : Option Addr} {n cap : Nat} {l : List Wt} (h : WritesAt W oa n cap l) (hW : Gr W w) (at_ : Int) :
    Calls Tryd.prog 20 #[.agg (refL T p).toArray, .int .i64 at_, .slice oa n cap] w (RefT2 S W w (apR T at_ l) (apOk T at_ (okL l)) (apE T at_ (okL l))) := by
  have hL := Lib.hid fun (w2 : World) (hq : Gr w w2) => refwRight_any oa n cap l w2 (h.keep (hW.trans hq))
  have H := Lib.hid h
  have HR := Lib.hid hR
  have HO := Lib.hid hO
  have hl2 := hO.cap
  have hl3 := hO.lim
  have hcl := h.cap_le
  have hk : okL l = (decide (n ≠ 0) && writesOkB l) := by
    unfold okL
    congr 1
    rw [Bool.eq_iff_iff, decide_eq_true_iff, decide_eq_true_iff, ← h.len]
    cases l <;> simp
  clear h hR hO
  by_cases h0 : n = 0
  · obtain ⟨e1, e2, e3⟩ := ap_bad (T := T) (n := at_) (l := l) (by rw [hk, h0]; rfl)
    rw [e1, e2, e3]
    subst h0
    clear e1 e2 e3 hk hL
    unfold RefT2
    obtain ⟨V, hV, B0, B1, hg0, hsz⟩ := boxes2 w 31 (refL T p) zRT
    go_enter Tryd.func20, Tryd.ntmps20
    go_upto_region 1 with fail
    rw [← hV]
    clear hV
    have Hsz := Lib.hid hsz
    generalize hbx : w.heap.size = bx at *
    have Hbx := Lib.hid hbx
    clear hbx hsz
    go_wp2_with (first | ((with_reducible refine wpList_load_box (ty := 31) (B0) ?_ ?_ Tryd.underlying31 ?_ ?_ ?_); (focus (exact rfl)); (focus (exact ⟨_, rfl, rfl⟩)); (focus (exact rfl)); (focus kernel_rfl)) | ((with_reducible refine wpList_store_box (ty := 31) (B1) ((refL T p)) ?_ ?_ ?_ ?_ ?_ ?_); (focus (exact rfl)); (focus (exact ⟨_, _, rfl, rfl, rfl⟩)); (focus (exact rfl)); (focus kernel_rfl); (focus kernel_rfl)))
    have Z := B1.setAll (us := refL T p) rfl
    have hgz : Gr w (V.setCells (bx + 1) 0 (refL T p)) := hg0.setCells (by rw [Hbx.out]; omega) _ _
    refine bodyPost_ret (Bx.ret2b Z rfl _ rfl rfl rfl Tryd.underlying31 rfl (by kernel_rfl)) rfl ?_
    exact ⟨p, rfl, HR.out.keep hgz, hgz⟩
  have e0 : decide (n ≠ 0) = true := by simpa using h0
  rw [e0, Bool.true_and] at hk
  have hz : ((n : Int) == 0) = false := by rw [beq_eq_false_iff_ne]; omega
  cases hr : writesOkB l
  · rw [hr] at hL hk
    obtain ⟨e1, e2, e3⟩ := ap_bad (T := T) (n := at_) (l := l) hk
    rw [e1, e2, e3]
    clear e0 hr e1 e2 e3 hk
    unfold RefT2
    obtain ⟨V, hV, B0, B1, hg0, hsz⟩ := boxes2 w 31 (refL T p) zRT
    go_enter Tryd.func20, Tryd.ntmps20
    go_upto_region 1 with fail
    rw [← hV]
    clear hV
    have Hsz := Lib.hid hsz
    generalize hbx : w.heap.size = bx at *
    have Hbx := Lib.hid hbx
    clear hbx hsz
    go_wp2_with (first | ((with_reducible refine wpList_load_box (ty := 31) (B0) ?_ ?_ Tryd.underlying31 ?_ ?_ ?_); (focus (exact rfl)); (focus (exact ⟨_, rfl, rfl⟩)); (focus (exact rfl)); (focus kernel_rfl)) | (go_at_call 39; (with_reducible refine (hL.out _ hg0).mono ?_); rintro e w1 ⟨rfl, hg1⟩; (have B0 := B0.keep hg1); (have B1 := B1.keep hg1); (have hgw := hg0.trans hg1)) | ((with_reducible refine wpList_store_box (ty := 31) (B1) ((refL T p)) ?_ ?_ ?_ ?_ ?_ ?_); (focus (exact rfl)); (focus (exact ⟨_, _, rfl, rfl, rfl⟩)); (focus (exact rfl)); (focus kernel_rfl); (focus kernel_rfl)))
    have Z := B1.setAll (us := refL T p) rfl
    have hgz : Gr w (w1.setCells (bx + 1) 0 (refL T p)) := hgw.setCells (by rw [Hbx.out]; omega) _ _
    refine bodyPost_ret (Bx.ret2b Z rfl _ rfl rfl rfl Tryd.underlying31 rfl (by kernel_rfl)) rfl ?_
    exact ⟨p, rfl, HR.out.keep hgz, hgz⟩
  rw [hr] at hL hk
  clear e0 hr
  by_cases h1 : at_ = (T.all.length : Int)
  rotate_left
  · have hd : (at_ != (T.all.length : Int)) = true := by simpa using h1
    obtain ⟨e1, e2, e3⟩ := ap_late (T := T) (n := at_) (l := l) hk h1
    rw [e1, e2, e3]
    clear h1 e1 e2 e3 hk
    unfold RefT2
    obtain ⟨V, hV, B0, B1, hg0, hsz⟩ := boxes2 w 31 (refL T p) zRT
    go_enter Tryd.func20, Tryd.ntmps20
    go_upto_region 1 with fail
    rw [← hV]
    clear hV
    have Hsz := Lib.hid hsz
    generalize hbx : w.heap.size = bx at *
    have Hbx := Lib.hid hbx
    clear hbx hsz
    go_wp2_with (first | ((with_reducible refine wpList_load_box (ty := 31) (B0) ?_ ?_ Tryd.underlying31 ?_ ?_ ?_); (focus (exact rfl)); (focus (exact ⟨_, rfl, rfl⟩)); (focus (exact rfl)); (focus kernel_rfl)) | (go_at_call 39; (with_reducible refine (hL.out _ hg0).mono ?_); rintro e w1 ⟨rfl, hg1⟩; (have B0 := B0.keep hg1); (have B1 := B1.keep hg1); (have d2 := B0.cell 2 rfl); (have hgw := hg0.trans hg1)) | ((with_reducible refine wpList_store_box (ty := 31) (B1) ((refL T p)) ?_ ?_ ?_ ?_ ?_ ?_); (focus (exact rfl)); (focus (exact ⟨_, _, rfl, rfl, rfl⟩)); (focus (exact rfl)); (focus kernel_rfl); (focus kernel_rfl)))
    have Z := B1.setAll (us := refL T p) rfl
    have hgz : Gr w (w1.setCells (bx + 1) 0 (refL T p)) := hgw.setCells (by rw [Hbx.out]; omega) _ _
    refine bodyPost_ret (Bx.ret2b Z rfl _ rfl rfl rfl Tryd.underlying31 rfl (by kernel_rfl)) rfl ?_
    exact ⟨p, rfl, HR.out.keep hgz, hgz⟩
  subst h1
  have hd : ((T.all.length : Int) != (T.all.length : Int)) = false := by simp
  by_cases h2 : T.all.length = T.lim
  · have hd2 : ((T.all.length : Int) == (T.lim : Int)) = true := by rw [h2]; simp
    obtain ⟨e1, e2, e3⟩ := ap_full (T := T) (l := l) hk h2
    rw [e1, e2, e3]
    clear h2 e1 e2 e3 hk
    unfold RefT2
    obtain ⟨V, hV, B0, B1, hg0, hsz⟩ := boxes2 w 31 (refL T p) zRT
    go_enter Tryd.func20, Tryd.ntmps20
    go_upto_region 1 with fail
    rw [← hV]
    clear hV
    have Hsz := Lib.hid hsz
    generalize hbx : w.heap.size = bx at *
    have Hbx := Lib.hid hbx
    clear hbx hsz
    go_wp2_with (first | ((with_reducible refine wpList_load_box (ty := 31) (B0) ?_ ?_ Tryd.underlying31 ?_ ?_ ?_); (focus (exact rfl)); (focus (exact ⟨_, rfl, rfl⟩)); (focus (exact rfl)); (focus kernel_rfl)) | (go_at_call 39; (with_reducible refine (hL.out _ hg0).mono ?_); rintro e w1 ⟨rfl, hg1⟩; (have B0 := B0.keep hg1); (have B1 := B1.keep hg1); (have d2 := B0.cell 2 rfl); (have d0 := B0.cell 0 rfl); (have hgw := hg0.trans hg1)) | ((with_reducible refine wpList_store_box (ty := 31) (B1) ((refL T p)) ?_ ?_ ?_ ?_ ?_ ?_); (focus (exact rfl)); (focus (exact ⟨_, _, rfl, rfl, rfl⟩)); (focus (exact rfl)); (focus kernel_rfl); (focus kernel_rfl)))
    have Z := B1.setAll (us := refL T p) rfl
    have hgz : Gr w (w1.setCells (bx + 1) 0 (refL T p)) := hgw.setCells (by rw [Hbx.out]; omega) _ _
    refine bodyPost_ret (Bx.ret2b Z rfl _ rfl rfl rfl Tryd.underlying31 rfl (by kernel_rfl)) rfl ?_
    exact ⟨p, rfl, HR.out.keep hgz, hgz⟩
  have hd2 : ((T.all.length : Int) == (T.lim : Int)) = false := by rw [beq_eq_false_iff_ne]; omega
  have hlt : T.all.length < T.lim := by omega
  obtain ⟨e1, e2, e3⟩ := ap_yes (T := T) (l := l) hk hlt
  rw [e1, e2, e3]
  clear h2 e1 e2 e3 hk
  have hdl := HO.out.len
  have Hdl := Lib.hid hdl
  have hdn : T.drp.length ≤ 1099511627776 := by omega
  clear hdl
  unfold RefT2
  obtain ⟨V, hV, B0, B1, hg0, hsz⟩ := boxes2 w 31 (refL T p) zRT
  go_enter Tryd.func20, Tryd.ntmps20
  go_upto_region 1 with fail
  rw [← hV]
  clear hV
  have Hsz := Lib.hid hsz
  generalize hbx : w.heap.size = bx at *
  have Hbx := Lib.hid hbx
  clear hbx hsz
  go_upto_region 7 with (go_at_call 39; (with_reducible refine (hL.out _ hg0).mono ?_); rintro e w1 ⟨rfl, hg1⟩; (have B0 := B0.keep hg1); (have B1 := B1.keep hg1); (have d2 := B0.cell 2 rfl); (have d0 := B0.cell 0 rfl); (have f2 := B0.free 2 (by simp)); (have hgw := hg0.trans hg1))
  have HF := Lib.hid (OwnS.fresh (WsI W) 1 34 (w := w1) rfl (Nat.le_refl w1.heap.size))
  have HS1 := Lib.hid (src_old (WsI_mono W) (HR.out.wA.keep (WsI_mono W) hgw) ((Gr.refl w1).alloc (.cells #[] 34)) (Nat.le_refl w1.heap.size))
  have hbx1 := B0.lt (by simp)
  have hbx2 := B1.lt (by simp)
  have hS2 : ∀ b ∈ bx :: (bx + 1) :: S, b < w1.heap.size := fun b hb => by
    simp only [List.mem_cons] at hb
    rcases hb with rfl | rfl | hb
    · exact hbx1
    · exact hbx2
    · have := hS b hb; have := hgw.le; have := Hbx.out; omega
  have HS2 := Lib.hid hS2
  have RV1 := Lib.hid (HR.out.ex (S' := bx :: (bx + 1) :: S) (hideL_new hgw fun b hb => by
    have := Hbx.out
    simp only [List.mem_cons] at hb
    rcases hb with rfl | rfl | hb
    · exact .inr (by omega)
    · exact .inr (by omega)
    · exact .inl hb))
  have hw1 := Hbx.out
  clear hS2
  have tok1 : True := trivial
  have tok2 : True := trivial
  go_upto_region 8 with (first
    | (at_builtin; have _t := tok1; refine wpList_app (WsI_mono W) wssT rfl _ _ rfl (base := w1.heap.size) (Gr.le ((Gr.refl w1).alloc _)) rfl HF.out rfl HS1.out (by unfold maxLen; omega) (by omega) ?_; intro oc c3 w2 ho2 hb2; clear tok1 _t; (simp only [Nat.zero_add, List.nil_append] at ho2); (have B0 := (B0.keep ((Gr.refl w1).alloc (.cells #[] 34))).grown hb2 (fun e => by simp [Value.ownBlock] at e; omega)); (have B1 := (B1.keep ((Gr.refl w1).alloc (.cells #[] 34))).grown hb2 (fun e => by simp [Value.ownBlock] at e; omega)); (have hg12 : Gr w1 w2 := HF.out.gr hb2 ((Gr.refl w1).alloc _) (Nat.le_refl _)); have HG12 := Lib.hid hg12; (have HO2 := Lib.hid (ho2.keep (WsI_mono W) ((Gr.refl w2).alloc (.cells #[.slice oa n cap] 34)))); (have HS3 := Lib.hid (SlE.one1 (E := WsI W) (x := l) (v := .slice oa n cap) (r := Value.ownBlock (.slice oc T.all.length c3)) (w := w2.alloc (.cells #[.slice oa n cap] 34)) (b := w2.heap.size) rfl (fun w => ⟨oa, n, cap, rfl, H.out⟩) (World.cell?_alloc_new w2 _ _ 0) (fun e => by have := (ho2.lt _ e).2; omega))); clear ho2 hb2 hg12)
    | (at_builtin; have _t := tok2; refine wpList_app (WsI_mono W) wssT rfl _ _ rfl (base := w1.heap.size) (Gr.le (HG12.out.alloc _)) rfl HO2.out rfl HS3.out (by unfold maxLen; omega) (by omega) ?_; intro oc2 c4 w3 ho3 hb3; clear tok2 _t; (have B0 := (B0.keep ((Gr.refl w2).alloc (.cells #[.slice oa n cap] 34))).grown hb3 (fun e => by have := (HO2.out.lt _ e).1; omega)); (have B1 := (B1.keep ((Gr.refl w2).alloc (.cells #[.slice oa n cap] 34))).grown hb3 (fun e => by have := (HO2.out.lt _ e).1; omega)); (have hg13 : Gr w1 w3 := HO2.out.gr hb3 (HG12.out.alloc _) (Nat.le_refl _)); have HG13 := Lib.hid hg13; have y2 := B0.cell 2 rfl; have f2 := B0.free 2 (by simp); have HA3 := Lib.hid (ho3.hide (WsI_mono W) HS2.out (fun x vs h => h)); clear ho3 hb3 hg13))
  have C0 := (B0.set 2 (.slice oc2 (T.all.length + 1) c4)).of (us := [.int .i64 T.lim, .int .i64 T.low, .slice oc2 (T.all.length + 1) c4, .slice p.oD T.drp.length p.cD, .slice p.oM T.marks.length p.cM, .int .i64 T.hold]) rfl
  have C1 := B1.other (b' := bx) (j := 2) (by omega) (.slice oc2 (T.all.length + 1) c4)
  have hM4 : Mod [bx] w3 (w3.setCell ⟨bx, 2, none⟩ (.slice oc2 (T.all.length + 1) c4)) := Mod.setCell _ _ _ (by simp)
  have HA4 := Lib.hid (HA3.out.ex (WsI_mono W) (hM4.ex2 (S' := bx :: (bx + 1) :: S) (by simp)))
  have RV4 := Lib.hid ((RV1.out.keep HG13.out).mod hM4 (by simp))
  have hg14 : Gr w (w3.setCell ⟨bx, 2, none⟩ (.slice oc2 (T.all.length + 1) c4)) := hM4.gr (hgw.trans HG13.out) (fun b hb => by rw [List.mem_singleton] at hb; omega)
  have hs14 : w1.heap.size ≤ (w3.setCell ⟨bx, 2, none⟩ (.slice oc2 (T.all.length + 1) c4)).heap.size := Nat.le_trans HG13.out.le hM4.size
  clear HF HS1 B0 B1 y2 f2 HA3 RV1 hM4 HO2 HS3 d2 d0 hgw hg1
  generalize w3.setCell ⟨bx, 2, none⟩ (.slice oc2 (T.all.length + 1) c4) = w4 at *
  (try simp only [Act.put])
  clear B0 B1 f2
  have HF := Lib.hid (OwnS.fresh BoE 1 4 (w := w4) rfl (Nat.le_refl w4.heap.size))
  have HD1 := Lib.hid (src_old BoE_mono RV4.out.wD ((Gr.refl w4).alloc (.cells #[] 4)) (Nat.le_refl w4.heap.size))
  have d3 := C0.cell 3 rfl
  have hcd := RV4.out.d.cap_le
  have hcd2 := RV4.out.d.cap_max
  have hdo := RV4.out.d.none
  have HS4 := Lib.hid fun b hb => Nat.lt_of_lt_of_le (HS2.out b hb) hs14
  have hb4 : bx < w4.heap.size := by omega
  have hb5 : bx + 1 < w4.heap.size := by omega
  have tok1 : True := trivial
  have tok2 : True := trivial
  go_upto_region 9 with (first
    | (at_builtin; have _t := tok1; refine wpList_app BoE_mono boT rfl _ _ rfl (base := w4.heap.size) (Gr.le ((Gr.refl w4).alloc _)) rfl HF.out rfl HD1.out (by unfold maxLen; omega) (by omega) ?_; intro oc5 c5 w5 ho5 hb5; clear tok1 _t; (simp only [Nat.zero_add, List.nil_append] at ho5); (have C0 := (C0.keep ((Gr.refl w4).alloc (.cells #[] 4))).grown hb5 (fun e => by simp [Value.ownBlock] at e; omega)); (have C1 := (C1.keep ((Gr.refl w4).alloc (.cells #[] 4))).grown hb5 (fun e => by simp [Value.ownBlock] at e; omega)); (have hg45 : Gr w4 w5 := HF.out.gr hb5 ((Gr.refl w4).alloc _) (Nat.le_refl _)); have HG45 := Lib.hid hg45; (have HO5 := Lib.hid (ho5.keep BoE_mono ((Gr.refl w5).alloc (.cells #[.bool false] 4)))); (have HS5 := Lib.hid (SlE.one1 (E := BoE) (x := false) (v := .bool false) (r := Value.ownBlock (.slice oc5 T.drp.length c5)) (w := w5.alloc (.cells #[.bool false] 4)) (b := w5.heap.size) rfl (fun w => rfl) (World.cell?_alloc_new w5 _ _ 0) (fun e => by have := (ho5.lt _ e).2; omega))); clear ho5 hb5 hg45)
    | (at_builtin; have _t := tok2; refine wpList_app BoE_mono boT rfl _ _ rfl (base := w4.heap.size) (Gr.le (HG45.out.alloc _)) rfl HO5.out rfl HS5.out (by unfold maxLen; omega) (by omega) ?_; intro oc6 c6 w6 ho6 hb6; clear tok2 _t; (have C0 := (C0.keep ((Gr.refl w5).alloc (.cells #[.bool false] 4))).grown hb6 (fun e => by have := (HO5.out.lt _ e).1; omega)); (have C1 := (C1.keep ((Gr.refl w5).alloc (.cells #[.bool false] 4))).grown hb6 (fun e => by have := (HO5.out.lt _ e).1; omega)); (have hg46 : Gr w4 w6 := HO5.out.gr hb6 (HG45.out.alloc _) (Nat.le_refl _)); have HG46 := Lib.hid hg46; have y3 := C0.cell 3 rfl; have f3 := C0.free 3 (by simp); have HD6 := Lib.hid (ho6.hide BoE_mono HS4.out (fun x vs h => h)); clear ho6 hb6 hg46))
  have D0 := (C0.set 3 (.slice oc6 (T.drp.length + 1) c6)).of (us := [.int .i64 T.lim, .int .i64 T.low, .slice oc2 (T.all.length + 1) c4, .slice oc6 (T.drp.length + 1) c6, .slice p.oM T.marks.length p.cM, .int .i64 T.hold]) rfl
  have D1 := C1.other (b' := bx) (j := 3) (by omega) (.slice oc6 (T.drp.length + 1) c6)
  have hM7 : Mod [bx] w6 (w6.setCell ⟨bx, 3, none⟩ (.slice oc6 (T.drp.length + 1) c6)) := Mod.setCell _ _ _ (by simp)
  have HA7 := Lib.hid ((HA4.out.ex (WsI_mono W) (hideL_gr HG46.out _)).ex (WsI_mono W) (hM7.ex2 (S' := bx :: (bx + 1) :: S) (by simp)))
  have HD7 := Lib.hid (HD6.out.ex BoE_mono (hM7.ex2 (S' := bx :: (bx + 1) :: S) (by simp)))
  have RV7 := Lib.hid ((RV4.out.keep HG46.out).mod hM7 (by simp))
  have hg17 : Gr w (w6.setCell ⟨bx, 3, none⟩ (.slice oc6 (T.drp.length + 1) c6)) := hM7.gr (hg14.trans HG46.out) (fun b hb => by rw [List.mem_singleton] at hb; omega)
  clear HF HD1 C0 C1 y3 f3 HD6 RV4 HA4 hM7 HO5 HS5 d3 hg14
  generalize w6.setCell ⟨bx, 3, none⟩ (.slice oc6 (T.drp.length + 1) c6) = w7 at *
  (try simp only [Act.put])
  go_wp2_with (first | ((with_reducible refine wpList_load_box (ty := 31) (D0) ?_ ?_ Tryd.underlying31 ?_ ?_ ?_); (focus (exact rfl)); (focus (exact ⟨_, rfl, rfl⟩)); (focus (exact rfl)); (focus kernel_rfl)) | ((with_reducible refine wpList_store_box (ty := 31) (D1) ([.int .i64 T.lim, .int .i64 T.low, .slice oc2 (T.all.length + 1) c4, .slice oc6 (T.drp.length + 1) c6, .slice p.oM T.marks.length p.cM, .int .i64 T.hold]) ?_ ?_ ?_ ?_ ?_ ?_); (focus (exact rfl)); (focus (exact ⟨_, _, rfl, rfl, rfl⟩)); (focus (exact rfl)); (focus kernel_rfl); (focus kernel_rfl)))
  have Z := D1.setAll (us := [.int .i64 T.lim, .int .i64 T.low, .slice oc2 (T.all.length + 1) c4, .slice oc6 (T.drp.length + 1) c6, .slice p.oM T.marks.length p.cM, .int .i64 T.hold]) rfl
  have hM8 : Mod [bx + 1] w7 (w7.setCells (bx + 1) 0 [.int .i64 T.lim, .int .i64 T.low, .slice oc2 (T.all.length + 1) c4, .slice oc6 (T.drp.length + 1) c6, .slice p.oM T.marks.length p.cM, .int .i64 T.hold]) := Mod.setCells (by simp) _ _ _
  have hgz := hM8.gr hg17 (fun b hb => by rw [List.mem_singleton] at hb; omega)
  have hx8 := (hM8.ex2 (S' := bx :: (bx + 1) :: S) (by simp)).trans (hideL_sub _ (S' := S) (by simp +contextual))
  refine bodyPost_ret (Bx.ret2b Z rfl _ rfl rfl rfl Tryd.underlying31 rfl (by kernel_rfl)) rfl ?_
  refine ⟨⟨oc2, c4, oc6, c6, p.oM, p.cM⟩, ?_, ⟨?_, ?_, ?_⟩, hgz⟩
  · unfold apT refL
    dsimp only
    rw [List.length_append, List.length_append, List.length_singleton, List.length_singleton]
    rfl
  · show SlE (WsI W) 1 _ oc2 (T.all ++ [l]).length c4 (T.all ++ [l])
    rw [List.length_append, List.length_singleton]
    exact HA7.out.ex (WsI_mono W) hx8
  · show SlE BoE 1 _ oc6 (T.drp ++ [false]).length c6 (T.drp ++ [false])
    rw [List.length_append, List.length_singleton]
    exact HD7.out.ex BoE_mono hx8
  · exact RV7.out.m.ex InE_mono hx8
end
end Go.Proofs.YtfejdbcfcpmdiaaDoor
