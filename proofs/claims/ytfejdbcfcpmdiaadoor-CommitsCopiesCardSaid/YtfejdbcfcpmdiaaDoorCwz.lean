import Derived.Test.YtfejdbcfcpmdiaaDoorCvz
namespace Go.Proofs.YtfejdbcfcpmdiaaDoor
set_option linter.unusedVariables false
set_option linter.unusedSimpArgs false
open Go.BigFrame Go.RowKit Go.WideShapes

/-! The document's Trim. -/
/-- the list where the loop stands -/
def trB (T : Ct) (n : Int) (k : Nat) : List Bool := T.drp.mapIdx fun i b => if i < k then tmB T n i b else b
theorem trB_get (T : Ct) (n : Int) (k i : Nat) : (trB T n k)[i]? = (T.drp[i]?).map fun b => if i < k then tmB T n i b else b := by unfold trB; rw [List.getElem?_mapIdx]
theorem trB_len (T : Ct) (n : Int) (k : Nat) : (trB T n k).length = T.drp.length := by unfold trB; rw [List.length_mapIdx]
theorem trB_0 (T : Ct) (n : Int) : trB T n 0 = T.drp := by
  refine List.ext_getElem? fun i => ?_
  rw [trB_get]
  cases T.drp[i]? <;> simp
theorem trB_end (T : Ct) (n : Int) : trB T n T.drp.length = tmD T n := by
  refine List.ext_getElem? fun i => ?_
  rw [trB_get, tmD_get]
  cases h : T.drp[i]? with
  | none => rfl
  | some b =>
    have := (List.getElem?_eq_some_iff.1 h).1
    simp [this]
theorem trB_keep {T : Ct} {n : Int} {k : Nat} {b : Bool} (h : T.drp[k]? = some b) (hb : tmB T n k b = b) : trB T n (k + 1) = trB T n k := by
  refine List.ext_getElem? fun i => ?_
  rw [trB_get, trB_get]
  by_cases e : i = k
  · subst e; rw [h]; simp [hb]
  · by_cases q : i < k
    · simp [q, Nat.lt_succ_of_lt q]
    · simp [q, show ¬ i < k + 1 by omega]
theorem trB_set {T : Ct} {n : Int} {k : Nat} {b : Bool} (h : T.drp[k]? = some b) (hb : tmB T n k b = true) : trB T n (k + 1) = (trB T n k).set k true := by
  have hk := (List.getElem?_eq_some_iff.1 h).1
  refine List.ext_getElem? fun i => ?_
  by_cases e : i = k
  · subst e
    rw [List.getElem?_set_self (by rw [trB_len]; exact hk), trB_get, h]
    simp [hb]
  · rw [List.getElem?_set_ne (fun q => e q.symm), trB_get, trB_get]
    by_cases q : i < k
    · simp [q, Nat.lt_succ_of_lt q]
    · simp [q, show ¬ i < k + 1 by omega]
theorem cntB_set : ∀ {l : List Bool} {k : Nat}, l[k]? = some false → cntB (l.set k true) + 1 = cntB l
  | [], k, h => by simp at h
  | b :: l, 0, h => by
    obtain rfl : b = false := by simpa using h
    unfold cntB; simp
  | b :: l, k + 1, h => by
    have ih := cntB_set (l := l) (k := k) (by simpa using h)
    unfold cntB at *
    cases b <;> simp <;> omega
section
variable {S : List Nat} {W w : World} {T : Ct} {p : Rp}
set_option maxRecDepth 100000 in
set_option maxHeartbeats 4000000 in
theorem refTrim_r (hR : RefV S W w T p) (hO : CtOk T) (hS : ∀ b ∈ S, b < w.heap.size) (n : Int) :
    Calls Tryd.prog 35 #[.agg (refL T p).toArray, .int .i64 n] w (RefT1 S W w (tmT T n) (.int .i64 ((cntB T.drp : Int) - (cntB (tmD T n) : Int)))) := by
  have HR := Lib.hid hR
  have hl1 := hO.low
  have hl2 := hO.cap
  have hl3 := hO.lim
  have hdl : T.drp.length ≤ 1099511627776 := by rw [hO.len]; omega
  clear hO hR
  unfold RefT1
  obtain ⟨V, hV, B0, B1, hg0, hsz⟩ := boxes2 w 31 (refL T p) zRT
  go_enter Tryd.func35, Tryd.ntmps35
  go_upto_region 1 with fail
  rw [← hV]
  clear hV
  have Hsz := Lib.hid hsz
  generalize hbx : w.heap.size = bx at *
  have Hbx := Lib.hid hbx
  clear hbx hsz
  have hbx1 := B0.lt (by simp)
  have hbx2 := B1.lt (by simp)
  have hS2 : ∀ b ∈ bx :: (bx + 1) :: S, b < V.heap.size := fun b hb => by
    simp only [List.mem_cons] at hb
    rcases hb with rfl | rfl | hb
    · exact hbx1
    · exact hbx2
    · have := hS b hb; have := hg0.le; have := Hbx.out; omega
  have HS2 := Lib.hid hS2
  have RV1 := Lib.hid (HR.out.ex (S' := bx :: (bx + 1) :: S) (hideL_new hg0 fun b hb => by
    have := Hbx.out
    simp only [List.mem_cons] at hb
    rcases hb with rfl | rfl | hb
    · exact .inr (by omega)
    · exact .inr (by omega)
    · exact .inl hb))
  have hw1 := Hbx.out
  clear hS2
  have HF := Lib.hid (OwnS.fresh BoE 1 4 (w := V) rfl (Nat.le_refl V.heap.size))
  have HS1 := Lib.hid (src_old BoE_mono (HR.out.wD.keep BoE_mono hg0) ((Gr.refl V).alloc (.cells #[] 4)) (Nat.le_refl V.heap.size))
  have d3 := B0.cell 3 rfl
  go_upto_region 3 with (at_builtin; refine wpList_app BoE_mono boT rfl _ _ rfl (base := V.heap.size) (Gr.le ((Gr.refl V).alloc _)) rfl HF.out rfl HS1.out (by unfold maxLen; omega) (by omega) ?_; intro oc c3 w2 ho2 hb2; (simp only [Nat.zero_add, List.nil_append] at ho2); (have B0 := (B0.keep ((Gr.refl V).alloc (.cells #[] 4))).grown hb2 (fun e => by simp [Value.ownBlock] at e; omega)); (have B1 := (B1.keep ((Gr.refl V).alloc (.cells #[] 4))).grown hb2 (fun e => by simp [Value.ownBlock] at e; omega)); (have hg12 : Gr V w2 := HF.out.gr hb2 ((Gr.refl V).alloc _) (Nat.le_refl _)); have HG12 := Lib.hid hg12; have HO2 := Lib.hid ho2; clear ho2 hb2 hg12)
  generalize hN : T.drp.length = N at *
  have HN := Lib.hid hN
  clear hN HF HS1 d3
  have HB0 := Lib.hid B0
  have HB1 := Lib.hid B1
  clear B0 B1
  go_wp2_with fail
  go_loopw [6, 8] (fun s6 s8 wr => ∃ (k m : Nat), k ≤ N ∧ m ≤ k ∧ s8 = .int .i64 k ∧ s6 = .int .i64 m ∧ Hid (m + cntB (trB T n k) = cntB T.drp) ∧ Hid (OwnS BoE 1 4 wr V.heap.size oc N c3 (trB T n k)) ∧ Gr V wr ∧ Hid (Bx wr bx (refL T p)) ∧ Hid (Bx wr (bx + 1) zRT)) (fun _ s8 _ => N - (intOf s8).toNat)
  case atStart => exact ⟨0, 0, Nat.zero_le _, Nat.le_refl _, rfl, rfl, Lib.hid (by rw [trB_0, Nat.zero_add]), by rw [trB_0]; exact HO2, HG12.out, HB0, HB1⟩
  case round =>
    obtain ⟨k, m, hk, hmk, rfl, rfl, hm, hOw, hg, hB0, hB1⟩ := hrel
    by_cases hlt : k < N
    · have hgd : T.drp[k]? = some (T.drp[k]'(by rw [HN.out]; exact hlt)) := List.getElem?_eq_getElem _
      generalize (T.drp[k]'(by rw [HN.out]; exact hlt)) = b at hgd
      have hgk : (trB T n k)[k]? = some b := by rw [trB_get, hgd]; simp
      obtain ⟨g, hoc, hgb, hgl, ⟨u0, hu0⟩, hfz, hset⟩ := hOw.out.set1 (fun w w' x vs h => h) hlt (x := true) (v := .bool true) rfl (fun w => rfl)
      obtain ⟨g2, off2, ho2, hc2⟩ := BoE_get (hOw.out.sl BoE_mono)
      have hoe := ho2 (by omega)
      rw [hoc] at hoe
      obtain ⟨rfl, rfl⟩ : g2 = g ∧ off2 = 0 := by
        have := Option.some.inj hoe
        simp only [Addr.mk.injEq, and_true] at this
        exact ⟨this.1.symm, this.2.symm⟩
      have x1 := hc2 k b hgk
      rw [Nat.zero_add] at x1
      have hIx := fun w => run_bo c3 (fun _ => hoc) w (k := k) hlt
      rw [Nat.zero_add] at hIx
      have d1 := hB0.out.cell 1 rfl
      have Hset := Lib.hid hset
      have Hgk := Lib.hid hgk
      have Hgd := Lib.hid hgd
      clear hset hgk hgd hoe ho2 hc2 hu0 hoc
      by_cases h1 : (k : Int) < n
      · have q1 : decide ((k : Int) < n) = true := by simpa using h1
        by_cases h2 : k < T.low
        · have q2 : decide (k < T.low) = true := by simpa using h2
          cases b
          · have hT : tmB T n k false = true := by unfold tmB; rw [q1, q2]; rfl
            have hs := trB_set Hgd.out hT
            have hcs := cntB_set Hgk.out
            have Hs := Lib.hid hs
            have Hcs := Lib.hid hcs
            have hM3 : Mod [g2] wr (wr.setCell ⟨g2, k, none⟩ (.bool true)) := Mod.setCell _ _ _ (by simp)
            have HC0 := Lib.hid (hM3.box (by simp only [List.mem_singleton]; omega) hB0.out)
            have HC1 := Lib.hid (hM3.box (by simp only [List.mem_singleton]; omega) hB1.out)
            have HGn := Lib.hid (hg.setCell (p := ⟨g2, k, none⟩) hgb (.bool true))
            clear hT hs hcs h1 h2 hM3
            go_wp2_with fail
            go_roundw
            case rel => exact ⟨k + 1, m + 1, by omega, by omega, by go_num, by go_num, Lib.hid (by rw [Hs.out]; have := hm.out; have := Hcs.out; omega), Lib.hid (by rw [Hs.out]; exact Hset.out), HGn.out, HC0, HC1⟩
            case measure => simp [intOf]; omega
          · have hs := Lib.hid (trB_keep (n := n) Hgd.out (by unfold tmB; rfl))
            clear h1 h2
            go_wp2_with fail
            go_roundw
            case rel => exact ⟨k + 1, m, by omega, by omega, by go_num, rfl, Lib.hid (by rw [hs.out]; exact hm.out), Lib.hid (by rw [hs.out]; exact hOw.out), hg, hB0, hB1⟩
            case measure => simp [intOf]; omega
        · have q2 : decide (k < T.low) = false := by simpa using h2
          have hs := Lib.hid (trB_keep (n := n) Hgd.out (by unfold tmB; rw [q2]; simp))
          clear h1 h2
          go_wp2_with fail
          go_roundw
          case rel => exact ⟨k + 1, m, by omega, by omega, by go_num, rfl, Lib.hid (by rw [hs.out]; exact hm.out), Lib.hid (by rw [hs.out]; exact hOw.out), hg, hB0, hB1⟩
          case measure => simp [intOf]; omega
      · have q1 : decide ((k : Int) < n) = false := by simpa using h1
        have hs := Lib.hid (trB_keep (n := n) Hgd.out (by unfold tmB; rw [q1]; simp))
        clear h1
        go_wp2_with fail
        go_roundw
        case rel => exact ⟨k + 1, m, by omega, by omega, by go_num, rfl, Lib.hid (by rw [hs.out]; exact hm.out), Lib.hid (by rw [hs.out]; exact hOw.out), hg, hB0, hB1⟩
        case measure => simp [intOf]; omega
    · obtain rfl : k = N := by omega
      have hme := hm.out
      have hOe := hOw.out
      have eT : trB T n k = tmD T n := HN.out ▸ trB_end T n
      rw [eT] at hme hOe
      clear eT
      have HMe := Lib.hid hme
      have HM3 := Lib.hid (hOe.hide BoE_mono HS2.out (fun x vs h => h))
      have RV3 := Lib.hid (RV1.out.keep hg)
      have B3 := hB0.out
      have D3 := hB1.out
      have hcc := HO2.out.sl BoE_mono |>.cap_le
      clear hme hOe hm hOw hB0 hB1 HO2 HB0 HB1 RV1
      have y3 := B3.cell 3 rfl
      have f3 := B3.free 3 (by simp)
      go_upto_region 10 with fail
      have E0 := (B3.set 3 (.slice oc k c3)).of (us := [.int .i64 T.lim, .int .i64 T.low, .slice p.oA T.all.length p.cA, .slice oc k c3, .slice p.oM T.marks.length p.cM, .int .i64 T.hold]) rfl
      have E1 := D3.other (b' := bx) (j := 3) (by omega) (.slice oc k c3)
      have hM4 : Mod [bx] wr (wr.setCell ⟨bx, 3, none⟩ (.slice oc k c3)) := Mod.setCell _ _ _ (by simp)
      have HM4 := Lib.hid (HM3.out.ex BoE_mono (hM4.ex2 (S' := bx :: (bx + 1) :: S) (by simp)))
      have RV4 := Lib.hid (RV3.out.mod hM4 (by simp))
      have hg14 : Gr w (wr.setCell ⟨bx, 3, none⟩ (.slice oc k c3)) := hM4.gr (hg0.trans hg) (fun b hb => by rw [List.mem_singleton] at hb; omega)
      clear B3 D3 y3 f3 hM4 HM3 RV3 hg
      generalize wr.setCell ⟨bx, 3, none⟩ (.slice oc k c3) = w4 at *
      (try simp only [Act.put])
      go_wp2_with (first | ((with_reducible refine wpList_load_box (ty := 31) (E0) ?_ ?_ Tryd.underlying31 ?_ ?_ ?_); (focus (exact rfl)); (focus (exact ⟨_, rfl, rfl⟩)); (focus (exact rfl)); (focus kernel_rfl)) | ((with_reducible refine wpList_store_box (ty := 31) (E1) ([.int .i64 T.lim, .int .i64 T.low, .slice p.oA T.all.length p.cA, .slice oc k c3, .slice p.oM T.marks.length p.cM, .int .i64 T.hold]) ?_ ?_ ?_ ?_ ?_ ?_); (focus (exact rfl)); (focus (exact ⟨_, _, rfl, rfl, rfl⟩)); (focus (exact rfl)); (focus kernel_rfl); (focus kernel_rfl)))
      have Z := E1.setAll (us := [.int .i64 T.lim, .int .i64 T.low, .slice p.oA T.all.length p.cA, .slice oc k c3, .slice p.oM T.marks.length p.cM, .int .i64 T.hold]) rfl
      have hM8 : Mod [bx + 1] w4 (w4.setCells (bx + 1) 0 [.int .i64 T.lim, .int .i64 T.low, .slice p.oA T.all.length p.cA, .slice oc k c3, .slice p.oM T.marks.length p.cM, .int .i64 T.hold]) := Mod.setCells (by simp) _ _ _
      have hgz := hM8.gr hg14 (fun b hb => by rw [List.mem_singleton] at hb; omega)
      have hx8 := (hM8.ex2 (S' := bx :: (bx + 1) :: S) (by simp)).trans (hideL_sub _ (S' := S) (by simp +contextual))
      refine bodyPost_ret (Bx.ret2 Z rfl _ rfl rfl Tryd.underlying31 rfl (by kernel_rfl)) rfl ?_
      refine ⟨⟨p.oA, p.cA, oc, c3, p.oM, p.cM⟩, ?_, ⟨?_, ?_, ?_⟩, hgz⟩
      · unfold tmT refL
        dsimp only
        rw [tmD_len, HN.out, show (cntB T.drp : Int) - (cntB (tmD T n) : Int) = (m : Int) by have := HMe.out; omega]
        rfl
      · exact RV4.out.a.ex (WsI_mono W) hx8
      · show SlE BoE 1 _ oc (tmD T n).length c3 (tmD T n)
        rw [tmD_len, HN.out]
        exact HM4.out.ex BoE_mono hx8
      · exact RV4.out.m.ex InE_mono hx8
end
end Go.Proofs.YtfejdbcfcpmdiaaDoor
