import Derived.Test.YtfejdbcfcpmdiaaDoorCuz
namespace Go.Proofs.YtfejdbcfcpmdiaaDoor
set_option linter.unusedVariables false
set_option linter.unusedSimpArgs false
open Go.BigFrame Go.RowKit Go.WideShapes

/-! The document's table: Mark, Trim, New. -/
theorem flatten_set1 (v : Value) : ∀ (vss : List (List Value)) (i : Nat), (∀ vs ∈ vss, vs.length = 1) → (vss.set i [v]).flatten = vss.flatten.set i v
  | [], _, _ => by simp
  | a :: r, i, h => by
    obtain ⟨u, rfl⟩ := List.length_eq_one_iff.1 (h a (by simp))
    cases i with
    | zero => rfl
    | succ i =>
      have ih := flatten_set1 v r i fun vs hv => h vs (by simp [hv])
      show [u] ++ (r.set i [v]).flatten = u :: (r.flatten.set i v)
      rw [ih]; rfl
/-- one element of a slice of one's own is written -/
theorem OwnS.set1 {α : Type} {E : EP α} (hEw : ∀ w w' x vs, E w x vs → E w' x vs) {T : TypeId} {w : World} {base : Nat} {oa : Option Addr} {n cap : Nat} {l : List α} (h : OwnS E 1 T w base oa n cap l) {i : Nat} (hi : i < n) {x : α} {v : Value} (hv : v.oneCell' = true) (hx : ∀ w, E w x [v]) :
    ∃ g, oa = some ⟨g, 0, none⟩ ∧ base ≤ g ∧ g < w.heap.size ∧ (∃ u, w.cell? ⟨g, i, none⟩ = some u) ∧ w.frozen? ⟨g, i, none⟩ = false ∧ OwnS E 1 T (w.setCell ⟨g, i, none⟩ v) base oa n cap (l.set i x) := by
  have hlt := h.lt
  obtain ⟨hl, vss, h1, h2, ⟨h3, h4⟩, h5⟩ := h
  rcases h4 with ⟨e, e0⟩ | ⟨g, cp, cur, e, hb, hcur, r1, r2, r3, r4⟩
  · omega
  · simp only [Value.slice.injEq, true_and] at e
    obtain ⟨rfl, rfl⟩ := e
    have hcl : i < cur.size := by rw [r3]; omega
    have hh : (w.setCell ⟨g, i, none⟩ v).heap[g]? = some (.cells (cur.setIfInBounds i v) T (0, 0)) := by
      unfold World.setCell
      rw [Array.getElem?_modify, if_pos rfl, hcur]
      rfl
    refine ⟨g, rfl, hb, (hlt g rfl).2, ⟨cur[i], ?_⟩, ?_, ⟨by rw [List.length_set]; exact hl, vss.set i [v], by rw [List.length_set]; exact h1, fun vs hvs => ?_, ⟨?_, .inr ⟨g, cap, cur.setIfInBounds i v, rfl, hb, hh, r1, r2, by rw [Array.size_setIfInBounds]; exact r3, ?_⟩⟩, fun j y us hj hu => ?_⟩⟩
    · unfold World.cell?
      rw [show w.heap[(⟨g, i, Option.none⟩ : Addr).block]? = _ from hcur]
      simp [hcl]
    · simp [World.frozen?, hcur]
    · rcases List.mem_or_eq_of_mem_set hvs with q | rfl
      · exact h2 vs q
      · exact ⟨rfl, by simpa using hv⟩
    · rw [flatten_set1 v vss i (fun vs q => (h2 vs q).1), List.length_set]; exact h3
    · rw [flatten_set1 v vss i (fun vs q => (h2 vs q).1), Array.toList_setIfInBounds, List.take_set, r4]
    · by_cases e : j = i
      · subst e
        have hjl : j < l.length := by omega
        rw [List.getElem?_set_self hjl] at hj
        rw [List.getElem?_set_self (by omega)] at hu
        obtain rfl := Option.some.inj hj
        obtain rfl := Option.some.inj hu
        exact hx _
      · rw [List.getElem?_set_ne (fun q => e q.symm)] at hj hu
        exact hEw _ _ _ _ (h5 j y us hj hu)
section
variable {S : List Nat} {W w : World} {T : Ct} {p : Rp}
set_option maxRecDepth 100000 in
set_option maxHeartbeats 4000000 in
theorem refMark_r (hR : RefV S W w T p) (hO : CtOk T) (hS : ∀ b ∈ S, b < w.heap.size) (th n : Int) (hn : (Lit.int .i64 n).wf = true) :
    Calls Tryd.prog 25 #[.agg (refL T p).toArray, .int .i64 th, .int .i64 n] w (RefT1 S W w (mkR T th n) (.int .i64 (mkE T th))) := by
  have HR := Lib.hid hR
  unfold mkR mkE
  cases hi : isT T th
  · have hI := refIs_at (p := p) hO.mk2 hi
    rw [if_neg (by decide), if_neg (by decide)]
    clear hO hi hR
    unfold RefT1
    obtain ⟨V, hV, B0, B1, hg0, hsz⟩ := boxes2 w 31 (refL T p) zRT
    go_enter Tryd.func25, Tryd.ntmps25
    go_upto_region 1 with fail
    rw [← hV]
    clear hV
    have Hsz := Lib.hid hsz
    generalize hbx : w.heap.size = bx at *
    have Hbx := Lib.hid hbx
    clear hbx hsz
    go_wp2_with (first | ((with_reducible refine wpList_load_box (ty := 31) (B0) ?_ ?_ Tryd.underlying31 ?_ ?_ ?_); (focus (exact rfl)); (focus (exact ⟨_, rfl, rfl⟩)); (focus (exact rfl)); (focus kernel_rfl)) | (go_at_call 42; (with_reducible refine (hI _).mono ?_); rintro e w1 ⟨rfl, hg1⟩; (have B0 := B0.keep hg1); (have B1 := B1.keep hg1); (have hgw := hg0.trans hg1)) | ((with_reducible refine wpList_store_box (ty := 31) (B1) ((refL T p)) ?_ ?_ ?_ ?_ ?_ ?_); (focus (exact rfl)); (focus (exact ⟨_, _, rfl, rfl, rfl⟩)); (focus (exact rfl)); (focus kernel_rfl); (focus kernel_rfl)))
    have Z := B1.setAll (us := refL T p) rfl
    have hgz : Gr w (w1.setCells (bx + 1) 0 (refL T p)) := hgw.setCells (by rw [Hbx.out]; omega) _ _
    refine bodyPost_ret (Bx.ret2 Z rfl _ rfl rfl Tryd.underlying31 rfl (by kernel_rfl)) rfl ?_
    exact ⟨p, rfl, HR.out.keep hgz, hgz⟩
  · have hI := refIs_at (p := p) hO.mk2 hi
    rw [if_pos rfl, if_pos rfl]
    obtain ⟨i, rfl, hil⟩ := isT_nat hi
    have h64 := hO.mk2
    have hbn := wf_bd hn
    clear hO hi hR
    unfold RefT1
    obtain ⟨V, hV, B0, B1, hg0, hsz⟩ := boxes2 w 31 (refL T p) zRT
    go_enter Tryd.func25, Tryd.ntmps25
    go_upto_region 1 with fail
    rw [← hV]
    clear hV
    have Hsz := Lib.hid hsz
    generalize hbx : w.heap.size = bx at *
    have Hbx := Lib.hid hbx
    clear hbx hsz
    go_upto_region 3 with (first | ((with_reducible refine wpList_load_box (ty := 31) (B0) ?_ ?_ Tryd.underlying31 ?_ ?_ ?_); (focus (exact rfl)); (focus (exact ⟨_, rfl, rfl⟩)); (focus (exact rfl)); (focus kernel_rfl)) | (go_at_call 42; (with_reducible refine (hI _).mono ?_); rintro e w1 ⟨rfl, hg1⟩; (have B0 := B0.keep hg1); (have B1 := B1.keep hg1); (have hgw := hg0.trans hg1)))
    have hbx1 := B0.lt (by simp)
    have hbx2 := B1.lt (by simp)
    have hS2 : ∀ b ∈ bx :: (bx + 1) :: S, b < w1.heap.size := fun b hb => by
      simp only [List.mem_cons] at hb
      rcases hb with rfl | rfl | hb
      · exact hbx1
      · exact hbx2
      · have := hS b hb; have := hgw.le; have := Hbx.out; omega
    have HS2 := Lib.hid hS2
    have RV1 := Lib.hid (HR.out.ex (S' := bx :: (bx + 1) :: S) (hideL_new hgw fun b hb => by
      have := Hbx.out
      simp only [List.mem_cons] at hb
      rcases hb with rfl | rfl | hb
      · exact .inr (by omega)
      · exact .inr (by omega)
      · exact .inl hb))
    have hw1 := Hbx.out
    clear hS2
    have HF := Lib.hid (OwnS.fresh InE 1 3 (w := w1) rfl (Nat.le_refl w1.heap.size))
    have HS1 := Lib.hid (src_old InE_mono (HR.out.wM.keep InE_mono hgw) ((Gr.refl w1).alloc (.cells #[] 3)) (Nat.le_refl w1.heap.size))
    have d4 := B0.cell 4 rfl
    go_upto_region 4 with (at_builtin; refine wpList_app InE_mono inT rfl _ _ rfl (base := w1.heap.size) (Gr.le ((Gr.refl w1).alloc _)) rfl HF.out rfl HS1.out (by unfold maxLen; omega) (by omega) ?_; intro oc c3 w2 ho2 hb2; (simp only [Nat.zero_add, List.nil_append] at ho2); (have B0 := (B0.keep ((Gr.refl w1).alloc (.cells #[] 3))).grown hb2 (fun e => by simp [Value.ownBlock] at e; omega)); (have B1 := (B1.keep ((Gr.refl w1).alloc (.cells #[] 3))).grown hb2 (fun e => by simp [Value.ownBlock] at e; omega)); (have hg12 : Gr w1 w2 := HF.out.gr hb2 ((Gr.refl w1).alloc _) (Nat.le_refl _)); have HG12 := Lib.hid hg12; have HO2 := Lib.hid ho2; clear ho2 hb2 hg12)
    obtain ⟨g, hoc, hgb, hgl, ⟨u0, hu0⟩, hfz, hset⟩ := HO2.out.set1 (fun w w' x vs h => h) hil (x := max n (-1)) (v := .int .i64 (if n < -1 then -1 else n)) rfl (fun w => by show [_] = [_]; congr 2; split <;> omega)
    have Hset := Lib.hid hset
    have hIx := fun w => run_in c3 (fun _ => hoc) w (k := i) hil
    have hcc := HO2.out.sl InE_mono |>.cap_le
    rw [Nat.zero_add] at hIx
    clear hset hoc
    go_upto_region 5 with fail
    have hM3 : Mod [g] w2 (w2.setCell ⟨g, i, none⟩ (.int .i64 (if n < -1 then -1 else n))) := Mod.setCell _ _ _ (by simp)
    have B3 := hM3.box (by simp only [List.mem_singleton]; omega) B0
    have D3 := hM3.box (by simp only [List.mem_singleton]; omega) B1
    have hg13 : Gr w1 (w2.setCell ⟨g, i, none⟩ (.int .i64 (if n < -1 then -1 else n))) := HG12.out.setCell (p := ⟨g, i, none⟩) hgb _
    have RV3 := Lib.hid (RV1.out.keep hg13)
    have HM3 := Lib.hid (Hset.out.hide InE_mono HS2.out (fun x vs h => h))
    have HG13 := Lib.hid hg13
    clear hg13 Hset hM3 B0 B1 HF HS1 HO2 hu0 hfz hIx RV1 HG12
    generalize (if n < -1 then -1 else n) = mx at *
    generalize w2.setCell ⟨g, i, none⟩ (.int .i64 mx) = w3 at *
    (try simp only [Act.put])
    have y4 := B3.cell 4 rfl
    have f4 := B3.free 4 (by simp)
    go_upto_region 6 with fail
    have E0 := (B3.set 4 (.slice oc T.marks.length c3)).of (us := [.int .i64 T.lim, .int .i64 T.low, .slice p.oA T.all.length p.cA, .slice p.oD T.drp.length p.cD, .slice oc T.marks.length c3, .int .i64 T.hold]) rfl
    have E1 := D3.other (b' := bx) (j := 4) (by omega) (.slice oc T.marks.length c3)
    have hM4 : Mod [bx] w3 (w3.setCell ⟨bx, 4, none⟩ (.slice oc T.marks.length c3)) := Mod.setCell _ _ _ (by simp)
    have HM4 := Lib.hid (HM3.out.ex InE_mono (hM4.ex2 (S' := bx :: (bx + 1) :: S) (by simp)))
    have RV4 := Lib.hid (RV3.out.mod hM4 (by simp))
    have hg14 : Gr w (w3.setCell ⟨bx, 4, none⟩ (.slice oc T.marks.length c3)) := hM4.gr (hgw.trans HG13.out) (fun b hb => by rw [List.mem_singleton] at hb; omega)
    clear B3 D3 y4 f4 hM4 HM3 RV3 d4 hgw hg1
    generalize w3.setCell ⟨bx, 4, none⟩ (.slice oc T.marks.length c3) = w4 at *
    (try simp only [Act.put])
    go_wp2_with (first | ((with_reducible refine wpList_load_box (ty := 31) (E0) ?_ ?_ Tryd.underlying31 ?_ ?_ ?_); (focus (exact rfl)); (focus (exact ⟨_, rfl, rfl⟩)); (focus (exact rfl)); (focus kernel_rfl)) | ((with_reducible refine wpList_store_box (ty := 31) (E1) ([.int .i64 T.lim, .int .i64 T.low, .slice p.oA T.all.length p.cA, .slice p.oD T.drp.length p.cD, .slice oc T.marks.length c3, .int .i64 T.hold]) ?_ ?_ ?_ ?_ ?_ ?_); (focus (exact rfl)); (focus (exact ⟨_, _, rfl, rfl, rfl⟩)); (focus (exact rfl)); (focus kernel_rfl); (focus kernel_rfl)))
    have Z := E1.setAll (us := [.int .i64 T.lim, .int .i64 T.low, .slice p.oA T.all.length p.cA, .slice p.oD T.drp.length p.cD, .slice oc T.marks.length c3, .int .i64 T.hold]) rfl
    have hM8 : Mod [bx + 1] w4 (w4.setCells (bx + 1) 0 [.int .i64 T.lim, .int .i64 T.low, .slice p.oA T.all.length p.cA, .slice p.oD T.drp.length p.cD, .slice oc T.marks.length c3, .int .i64 T.hold]) := Mod.setCells (by simp) _ _ _
    have hgz := hM8.gr hg14 (fun b hb => by rw [List.mem_singleton] at hb; omega)
    have hx8 := (hM8.ex2 (S' := bx :: (bx + 1) :: S) (by simp)).trans (hideL_sub _ (S' := S) (by simp +contextual))
    refine bodyPost_ret (Bx.ret2 Z rfl _ rfl rfl Tryd.underlying31 rfl (by kernel_rfl)) rfl ?_
    refine ⟨⟨p.oA, p.cA, p.oD, p.cD, oc, c3⟩, ?_, ⟨?_, ?_, ?_⟩, hgz⟩
    · unfold mkT refL
      dsimp only
      rw [List.length_set]
      rfl
    · exact RV4.out.a.ex (WsI_mono W) hx8
    · exact RV4.out.d.ex BoE_mono hx8
    · show SlE InE 1 _ oc (T.marks.set (i : Int).toNat (max n (-1))).length c3 (T.marks.set (i : Int).toNat (max n (-1)))
      rw [List.length_set, Int.toNat_natCast]
      exact HM4.out.ex InE_mono hx8
end
end Go.Proofs.YtfejdbcfcpmdiaaDoor
