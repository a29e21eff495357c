import Derived.Test.YtfejdbcfcpmdiaaDoorDaz
import Derived.Deep.RegionHeld
namespace Go.Proofs.YtfejdbcfcpmdiaaDoor
set_option linter.unusedVariables false
set_option linter.unusedSimpArgs false
open Go.BigFrame Go.RowKit Go.WideShapes

/-! A step in both tables (does), case by case (printed by a program). -/
theorem step_wanted {ops : Array Oper} {o : Oper} {a : Act} {A B : Prop} (h : Region.wanted o (yielded ops a.tmps) = true) (k : A) : if Region.wanted o (yielded ops a.tmps) = true then A else B := by
  rw [if_pos h]; exact k
theorem boxes3 (w : World) (T1 T2 T3 : TypeId) (us vs zs : List Value) : ∃ W, W = ((w.alloc (.cells us.toArray T1)).alloc (.cells vs.toArray T2)).alloc (.cells zs.toArray T3) ∧ Bx W w.heap.size us ∧ Bx W (w.heap.size + 1) vs ∧ Bx W (w.heap.size + 1 + 1) zs ∧ Gr w W ∧ W.heap.size = w.heap.size + 3 := by
  refine ⟨_, rfl, (((Bx.new w _ _ rfl).keep ((Gr.refl _).alloc _)).keep ((Gr.refl _).alloc _)).of (by simp), ((Bx.new (w.alloc _) _ _ (by rw [size_alloc1])).keep ((Gr.refl _).alloc _)).of (by simp), (Bx.new ((w.alloc _).alloc _) _ _ (by rw [size_alloc1, size_alloc1])).of (by simp), (((Gr.refl w).alloc _).alloc _).alloc _, by rw [size_alloc1, size_alloc1, size_alloc1]⟩
theorem RefV.same {S : List Nat} {W w : World} {T T' : Ct} {p : Rp} (h : RefV S W w T p) (h1 : T'.all = T.all) (h2 : T'.drp = T.drp) (h3 : T'.marks = T.marks) : RefV S W w T' p :=
  ⟨by rw [h1]; exact h.a, by rw [h2]; exact h.d, by rw [h3]; exact h.m⟩
section
variable {S : List Nat} {W w : World} {t cm mk : Nat} {T : Ct} {p : Rp}
theorem refGrab_t (hr : RefV S W w T p) (hO : CtOk T) (th : Int) : Calls Tryd.prog 29 #[.agg (refL T p).toArray, .int .i64 th] w (RefT2 S W w (grR T th) (grOk T th) (mkE T th)) :=
  (refGrab_r hO th).mono fun e w' ⟨he, hg⟩ => ⟨p, he, (hr.keep hg).same (by unfold grR; split <;> rfl) (by unfold grR; split <;> rfl) (by unfold grR; split <;> rfl), hg⟩
theorem refYield_t (hr : RefV S W w T p) (hO : CtOk T) (th : Int) : Calls Tryd.prog 31 #[.agg (refL T p).toArray, .int .i64 th] w (RefT2 S W w (yiR T th) (yiOk T th) (mkE T th)) :=
  (refYield_r hO th).mono fun e w' ⟨he, hg⟩ => ⟨p, he, (hr.keep hg).same (by unfold yiR; split <;> rfl) (by unfold yiR; split <;> rfl) (by unfold yiR; split <;> rfl), hg⟩
theorem refAdvance_t (hr : RefV S W w T p) (hO : CtOk T) (n : Int) : Calls Tryd.prog 33 #[.agg (refL T p).toArray, .int .i64 n] w (RefT2 S W w (adR T n) (adOk T n) (adE T)) :=
  (refAdvance_r hO n).mono fun e w' ⟨he, hg⟩ => ⟨p, he, (hr.keep hg).same (by unfold adR; split <;> rfl) (by unfold adR; split <;> rfl) (by unfold adR; split <;> rfl), hg⟩
/-- what holds of both tables -/
structure Both (S : List Nat) (W w : World) (t cm mk : Nat) (T : Ct) (p : Rp) : Prop where
  tab : TabV S w t cm mk T
  ref : RefV S W w T p
  ok : CtOk T
  lt : ∀ b ∈ S, b < w.heap.size
  gr : Gr W w
  bt : W.heap.size ≤ t
  bc : W.heap.size ≤ cm
  bm : W.heap.size ≤ mk
  hd : W.cell? ⟨0, 0, none⟩ = some handleV
/-- what a step hands back -/
def DoesT (S : List Nat) (W w : World) (t cm mk : Nat) (T' : Ct) (e : Ending) (w' : World) : Prop := ∃ p', e = .returned (.tuple #[.agg (refL T' p').toArray, .bool true]) ∧ TabV S w' t cm mk T' ∧ RefV S W w' T' p' ∧ Mod [t, cm, mk] w w'
theorem fin_both {V w2 w5 w6 : World} {T' : Ct} {p' : Rp} {bx : Nat} {Sx : List Nat} (hg0 : Gr w V) (hbx : w.heap.size = bx) (hM : Mod Sx V w2) (hx : ∀ b ∈ Sx, b = t ∨ b = cm ∨ b = mk) (hT : TabV ((bx + 1 + 1) :: S) w2 t cm mk T') (h25 : Gr w2 w5) (hM6 : Mod [bx + 1 + 1] w5 w6)
    (tlt : t < bx) (clt : cm < bx) (mlt : mk < bx) (hT0 : TabV S w t cm mk T) (hR : RefV ((bx + 1 + 1) :: S) W w5 T' p') : TabV S w6 t cm mk T' ∧ RefV S W w6 T' p' ∧ Mod [t, cm, mk] w w6 := by
  refine ⟨?_, ?_, ?_⟩
  · exact ((hT.keep h25).mod hM6 (by simp) (by simp only [List.mem_singleton]; omega) (by simp only [List.mem_singleton]; omega) (by simp only [List.mem_singleton]; omega)).sub hT0.in1 hT0.in2 hT0.in3 (fun b hb => List.mem_cons_of_mem _ hb)
  · exact (hR.mod hM6 (by simp)).ex (hideL_sub _ fun b hb => List.mem_cons_of_mem _ hb)
  · refine ((((hg0.mod [t, cm, mk]).trans (hM.sub fun b hb => ?_)).trans (h25.mod _))).then hM6 fun b hb => ?_
    · rcases hx b hb with rfl | rfl | rfl <;> simp
    · rw [List.mem_singleton] at hb; right; omega
set_option maxRecDepth 100000 in
set_option maxHeartbeats 8000000 in
theorem does_4 (hB : Both S W w t cm mk T p) (n th : Int) (rt : Bool) (l : List Wt) (o1 : Option Addr) (m1 c1 : Nat) (hw : WritesAt W o1 m1 c1 l) (hf : FewWs l) (hn : (Lit.int .i64 n).wf = true) :
    Calls Tryd.prog 10 #[.pointer (some ⟨t, 0, none⟩), .agg (refL T p).toArray, .agg (doL ⟨4, n, th, rt, l⟩ o1 m1 c1).toArray] w (DoesT S W w t cm mk (grR T th)) := by
  obtain ⟨V, hV, B0, B1, B2, hg0, hsz⟩ := boxes3 w 31 36 31 (refL T p) (doL ⟨4, n, th, rt, l⟩ o1 m1 c1) zRT
  have HB := Lib.hid hB
  have tlt := hB.tab.lt
  have clt := hB.tab.lt2
  have mlt := hB.tab.lt3
  have hnb : ∀ b ∈ (w.heap.size + 1 + 1) :: S, b ∈ S ∨ w.heap.size ≤ b := fun b hb => by
    rcases List.mem_cons.1 hb with rfl | q
    · exact .inr (by omega)
    · exact .inl q
  have HTV := Lib.hid (hB.tab.keepN hg0 (List.mem_cons_of_mem _ hB.tab.in1) (List.mem_cons_of_mem _ hB.tab.in2) (List.mem_cons_of_mem _ hB.tab.in3) hnb)
  have HRV := Lib.hid (hB.ref.ex (hideL_new hg0 hnb))
  have HLT := Lib.hid (show ∀ b ∈ (w.heap.size + 1 + 1) :: S, b < V.heap.size from fun b hb => by
    rcases List.mem_cons.1 hb with rfl | q
    · omega
    · have := hB.lt b q; omega)
  have hsz2 : w.heap.size + 1 + 1 < V.heap.size := by omega
  have hO := hB.ok
  have HO := Lib.hid hO
  have Hw := Lib.hid hw
  have Hf := Lib.hid hf
  have hGb := Lib.hid (grab_v HTV.out th)
  have hRg := Lib.hid fun w2 (hr : RefV ((w.heap.size + 1 + 1) :: S) W w2 T p) => refGrab_t hr hO th
  clear hB hnb hO hw hf
  unfold DoesT
  go_enter Tryd.func10, Tryd.ntmps10
  go_upto_region 1 with fail
  rw [← hV]
  clear hV hsz
  generalize hbx : w.heap.size = bx at *
  have Hbx := Lib.hid hbx
  clear hbx
  have d0 := B1.cell 0 rfl
  have d2 := B1.cell 2 rfl
  go_upto_region 35 with (go_at_call 28; (with_reducible refine hGb.out.mono ?_); rintro e w2 ⟨rfl, hT2, hM2⟩; (have HT2 := Lib.hid hT2); (have HM2 := Lib.hid hM2); clear hT2 hM2)
  have C0 := HM2.out.box (by simp only [List.mem_cons, List.not_mem_nil, or_false, not_or]; omega) B0
  have C1 := HM2.out.box (by simp only [List.mem_cons, List.not_mem_nil, or_false, not_or]; omega) B1
  have C2 := HM2.out.box (by simp only [List.mem_cons, List.not_mem_nil, or_false, not_or]; omega) B2
  have HR2 := Lib.hid (HRV.out.mod HM2.out (fun b hb => by simp only [List.mem_cons, List.not_mem_nil, or_false] at hb; rcases hb with rfl <;> first | exact HTV.out.in1 | exact HTV.out.in2 | exact HTV.out.in3))
  have HL2 := Lib.hid (show ∀ b ∈ (bx + 1 + 1) :: S, b < w2.heap.size from fun b hb => Nat.lt_of_lt_of_le (HLT.out b hb) HM2.out.size)
  have HgW := Lib.hid (show Gr W w2 from HM2.out.gr (HB.out.gr.trans hg0) (fun b hb => by simp only [List.mem_cons, List.not_mem_nil, or_false] at hb; rcases hb with rfl <;> first | exact HB.out.bt | exact HB.out.bc | exact HB.out.bm))
  have HMx := Lib.hid (show ∀ b ∈ [t], b = t ∨ b = cm ∨ b = mk from by simp)
  have e2 := C1.cell 2 rfl
  clear d0 d2
  clear B0 B1 B2 hGb
  generalize grOk T th = ok at *
  generalize mkE T th = ce at *
  go_upto_region 36 with (first | ((with_reducible refine wpList_load_box (ty := 31) (C0) ?_ ?_ Tryd.underlying31 ?_ ?_ ?_); (focus (exact rfl)); (focus (exact ⟨_, rfl, rfl⟩)); (focus (exact rfl)); (focus kernel_rfl)) | (go_at_call 29; (with_reducible refine (hRg.out _ HR2.out).mono ?_); rintro e w3 ⟨p', rfl, hR3, hg3⟩; have HR3 := Lib.hid hR3; clear hR3))
  have E7 := (Bx.new w3 (refL (grR T th) p').toArray 31 rfl).of (us := refL (grR T th) p') (by simp)
  have hgA : Gr w2 (w3.alloc (.cells (refL (grR T th) p').toArray 31)) := hg3.alloc _
  (show Code.wp _ _ _ _ (w3.alloc (.cells (refL (grR T th) p').toArray 31)))
  have h7 : w2.heap.size ≤ w3.heap.size := hg3.le
  have hc2 := C2.lt (by simp)
  have HE2 := Lib.hid (C2.keep hgA)
  have HR4 := Lib.hid (HR3.out.keep ((Gr.refl w3).alloc (.cells (refL (grR T th) p').toArray 31)))
  have HgA := Lib.hid hgA
  clear C0 C1 C2 hg3 hgA
  generalize w3.alloc (.cells (refL (grR T th) p').toArray 31) = w4 at *
  generalize w3.heap.size = b7 at *
  have HCd := Lib.hid fun w5 (hq : Gr W w5) => code_ev ce w5 (hq.keep HB.out.hd)
  have hok : (ok == ok) = true := by simp
  have hcc : (ce == ce) = true := by simp
  have hd4 : Gr w4 w4.drew := (Gr.refl w4).drew
  have hR4 := hd4.range E7.rng
  refine wp_region_held_drew (S := fun w' => w'.rangeAt b7 0 (refL (grR T th) p')) (by kernel_rfl) hR4 (fun hHeld => ?_)
  refine' wpAnyH_take (i := 0) (oi := { dst := some 208, op := _, type := _, pos := _, after := _, guard := _ }) (v := _) rfl (by kernel_rfl) (by kernel_rfl) (by kernel_rfl) (fun _ _ _ h => h) (yieldsIf_load_mid (by rfl) _ _ rfl _ _ rfl _ _ (fun w h => h) Tryd.underlying31 rfl (by kernel_rfl)) hHeld ?_
  (try simp only [Act.put, List.setIfInBounds_toArray, List.set_cons_zero, List.set_cons_succ])
  refine' wpAnyH_take (i := 1) (oi := { dst := some 209, op := _, type := _, pos := _, after := _, guard := _ }) (v := .bool ok) rfl (by kernel_rfl) (by kernel_rfl) (by kernel_rfl) (fun _ _ _ h => h) (Or.inl ⟨by rfl, ?_⟩) hHeld ?_
  · (intro w hSw; go_simp)
  (try simp only [Act.put, List.setIfInBounds_toArray, List.set_cons_zero, List.set_cons_succ])
  refine' wpAnyH_take (i := 2) (oi := { dst := some 210, op := _, type := _, pos := _, after := _, guard := _ }) (v := .bool ok) rfl (by kernel_rfl) (by kernel_rfl) (by kernel_rfl) (fun _ _ _ h => h) (Or.inl ⟨by rfl, ?_⟩) hHeld ?_
  · (intro w hSw; go_simp)
  (try simp only [Act.put, List.setIfInBounds_toArray, List.set_cons_zero, List.set_cons_succ])
  refine' wpAnyH_take (i := 3) (oi := { dst := some 211, op := _, type := _, pos := _, after := _, guard := _ }) (v := .bool true) rfl (by kernel_rfl) (by kernel_rfl) (by kernel_rfl) (fun _ _ _ h => h) (Or.inl ⟨by rfl, ?_⟩) hHeld ?_
  · (intro w hSw; go_simp)
  (try simp only [Act.put, List.setIfInBounds_toArray, List.set_cons_zero, List.set_cons_succ])
  refine' wpAnyH_take (i := 4) (oi := { dst := some 212, op := _, type := _, pos := _, after := _, guard := _ }) (v := .bool true) rfl (by kernel_rfl) (by kernel_rfl) (by kernel_rfl) (fun _ _ _ h => h) (Or.inl ⟨by rfl, ?_⟩) hHeld ?_
  · (intro w hSw; go_simp)
  (try simp only [Act.put, List.setIfInBounds_toArray, List.set_cons_zero, List.set_cons_succ])
  refine' wpAnyH_take (i := 5) (oi := { dst := some 213, op := _, type := _, pos := _, after := _, guard := _ }) (v := ev ce) rfl (by kernel_rfl) (by kernel_rfl) (by kernel_rfl) (fun _ _ _ h => h) (Or.inl ⟨by rfl, ?_⟩) hHeld ?_
  · (intro w hSw; go_simp)
  (try simp only [Act.put, List.setIfInBounds_toArray, List.set_cons_zero, List.set_cons_succ])
  refine' wpAnyH_take (i := 7) (oi := { dst := some 215, op := _, type := _, pos := _, after := _, guard := _ }) (v := .int .i64 ce) rfl (by kernel_rfl) (by kernel_rfl) (by kernel_rfl) (fun _ _ _ h => h) (Or.inl ⟨by rfl, ?_⟩) hHeld ?_
  · (intro w hSw; go_simp)
  (try simp only [Act.put, List.setIfInBounds_toArray, List.set_cons_zero, List.set_cons_succ])
  refine wpAnyH_ready (rs := [6]) (by kernel_rfl) (by simp) ?_
  refine AllReadyH.cons (o := { dst := some 214, op := _, type := _, pos := _, after := _, guard := _ }) rfl (fun K hK => ?_) AllReadyH.nil
  refine step_wanted (by rfl) ?_
  go_simp
  go_at_call 21
  with_reducible refine (HCd.out _ ((HgW.out.trans HgA.out).trans hd4)).mono ?_
  rintro e w5 ⟨rfl, hg5⟩
  have hg45 := hd4.trans hg5
  refine hK.out _ _ (hg45.range E7.rng) (fun hHeld => ?_)
  clear hK K
  (try simp only [Act.put, List.setIfInBounds_toArray, List.set_cons_zero, List.set_cons_succ])
  refine' wpAnyH_take (i := 8) (oi := { dst := some 216, op := _, type := _, pos := _, after := _, guard := _ }) (v := .bool true) rfl (by kernel_rfl) (by kernel_rfl) (by kernel_rfl) (fun _ _ _ h => h) (Or.inl ⟨by rfl, ?_⟩) hHeld ?_
  · (intro w hSw; go_simp)
  (try simp only [Act.put, List.setIfInBounds_toArray, List.set_cons_zero, List.set_cons_succ])
  refine' wpAnyH_take (i := 9) (oi := { dst := some 217, op := _, type := _, pos := _, after := _, guard := _ }) (v := .bool true) rfl (by kernel_rfl) (by kernel_rfl) (by kernel_rfl) (fun _ _ _ h => h) (Or.inl ⟨by rfl, ?_⟩) hHeld ?_
  · (intro w hSw; go_simp)
  (try simp only [Act.put, List.setIfInBounds_toArray, List.set_cons_zero, List.set_cons_succ])
  have hM5 := (HE2.out.keep hg45).may
  refine wpAnyH_ready (rs := [10]) (by kernel_rfl) (by simp) ?_
  refine AllReadyH.cons (o := { dst := none, op := _, type := _, pos := _, after := _, guard := _ }) rfl (fun K hK => ?_) AllReadyH.nil
  refine step_wanted (by rfl) ?_
  refine wp_store_mid _ _ _ rfl _ _ (refL (grR T th) p').toArray rfl rfl hM5 (by kernel_rfl) (by simp [Value.oneCell']) ?_
  simp only [Act.put, List.setIfInBounds_toArray, List.set_cons_zero, List.set_cons_succ, List.toList_toArray]
  refine hK.out _ _ (World.rangeAt_setCells_apart hHeld _ _ _ (.inl (by omega))) (fun hHeld => ?_)
  clear hK K hM5
  have Z := (HE2.out.keep hg45).setAll (us := refL (grR T th) p') rfl
  have HM6 := Lib.hid (show Mod [bx + 1 + 1] w5 (w5.setCells (bx + 1 + 1) 0 (refL (grR T th) p')) from Mod.setCells (by simp) _ _ _)
  generalize w5.setCells (bx + 1 + 1) 0 (refL (grR T th) p') = w6 at hHeld Z HM6 ⊢
  refine' wpAnyH_take (i := 11) (oi := { dst := some 7, op := _, type := _, pos := _, after := _, guard := _ }) (v := .bool true) rfl (by kernel_rfl) (by kernel_rfl) (by kernel_rfl) (fun _ _ _ h => h) (Or.inl ⟨by rfl, ?_⟩) hHeld ?_
  · (intro w hSw; go_simp)
  (try simp only [Act.put, List.setIfInBounds_toArray, List.set_cons_zero, List.set_cons_succ])
  refine wpAnyH_done (by kernel_rfl) ?_ _
  go_wp2_with fail
  have hfin := fin_both hg0 Hbx.out HM2.out HMx.out HT2.out (HgA.out.trans hg45) HM6.out tlt clt mlt HB.out.tab (HR4.out.keep hg45)
  refine bodyPost_ret (Bx.ret2 Z rfl _ rfl rfl Tryd.underlying31 rfl (by kernel_rfl)) rfl ?_
  exact ⟨p', rfl, hfin⟩
set_option maxRecDepth 100000 in
set_option maxHeartbeats 8000000 in
theorem does_5 (hB : Both S W w t cm mk T p) (n th : Int) (rt : Bool) (l : List Wt) (o1 : Option Addr) (m1 c1 : Nat) (hw : WritesAt W o1 m1 c1 l) (hf : FewWs l) (hn : (Lit.int .i64 n).wf = true) :
    Calls Tryd.prog 10 #[.pointer (some ⟨t, 0, none⟩), .agg (refL T p).toArray, .agg (doL ⟨5, n, th, rt, l⟩ o1 m1 c1).toArray] w (DoesT S W w t cm mk (yiR T th)) := by
  obtain ⟨V, hV, B0, B1, B2, hg0, hsz⟩ := boxes3 w 31 36 31 (refL T p) (doL ⟨5, n, th, rt, l⟩ o1 m1 c1) zRT
  have HB := Lib.hid hB
  have tlt := hB.tab.lt
  have clt := hB.tab.lt2
  have mlt := hB.tab.lt3
  have hnb : ∀ b ∈ (w.heap.size + 1 + 1) :: S, b ∈ S ∨ w.heap.size ≤ b := fun b hb => by
    rcases List.mem_cons.1 hb with rfl | q
    · exact .inr (by omega)
    · exact .inl q
  have HTV := Lib.hid (hB.tab.keepN hg0 (List.mem_cons_of_mem _ hB.tab.in1) (List.mem_cons_of_mem _ hB.tab.in2) (List.mem_cons_of_mem _ hB.tab.in3) hnb)
  have HRV := Lib.hid (hB.ref.ex (hideL_new hg0 hnb))
  have HLT := Lib.hid (show ∀ b ∈ (w.heap.size + 1 + 1) :: S, b < V.heap.size from fun b hb => by
    rcases List.mem_cons.1 hb with rfl | q
    · omega
    · have := hB.lt b q; omega)
  have hsz2 : w.heap.size + 1 + 1 < V.heap.size := by omega
  have hO := hB.ok
  have HO := Lib.hid hO
  have Hw := Lib.hid hw
  have Hf := Lib.hid hf
  have hGb := Lib.hid (yield_v HTV.out th)
  have hRg := Lib.hid fun w2 (hr : RefV ((w.heap.size + 1 + 1) :: S) W w2 T p) => refYield_t hr hO th
  clear hB hnb hO hw hf
  unfold DoesT
  go_enter Tryd.func10, Tryd.ntmps10
  go_upto_region 1 with fail
  rw [← hV]
  clear hV hsz
  generalize hbx : w.heap.size = bx at *
  have Hbx := Lib.hid hbx
  clear hbx
  have d0 := B1.cell 0 rfl
  have d2 := B1.cell 2 rfl
  go_upto_region 39 with (go_at_call 30; (with_reducible refine hGb.out.mono ?_); rintro e w2 ⟨rfl, hT2, hM2⟩; (have HT2 := Lib.hid hT2); (have HM2 := Lib.hid hM2); clear hT2 hM2)
  have C0 := HM2.out.box (by simp only [List.mem_cons, List.not_mem_nil, or_false, not_or]; omega) B0
  have C1 := HM2.out.box (by simp only [List.mem_cons, List.not_mem_nil, or_false, not_or]; omega) B1
  have C2 := HM2.out.box (by simp only [List.mem_cons, List.not_mem_nil, or_false, not_or]; omega) B2
  have HR2 := Lib.hid (HRV.out.mod HM2.out (fun b hb => by simp only [List.mem_cons, List.not_mem_nil, or_false] at hb; rcases hb with rfl <;> first | exact HTV.out.in1 | exact HTV.out.in2 | exact HTV.out.in3))
  have HL2 := Lib.hid (show ∀ b ∈ (bx + 1 + 1) :: S, b < w2.heap.size from fun b hb => Nat.lt_of_lt_of_le (HLT.out b hb) HM2.out.size)
  have HgW := Lib.hid (show Gr W w2 from HM2.out.gr (HB.out.gr.trans hg0) (fun b hb => by simp only [List.mem_cons, List.not_mem_nil, or_false] at hb; rcases hb with rfl <;> first | exact HB.out.bt | exact HB.out.bc | exact HB.out.bm))
  have HMx := Lib.hid (show ∀ b ∈ [t], b = t ∨ b = cm ∨ b = mk from by simp)
  have e2 := C1.cell 2 rfl
  clear d0 d2
  clear B0 B1 B2 hGb
  generalize yiOk T th = ok at *
  generalize mkE T th = ce at *
  go_upto_region 40 with (first | ((with_reducible refine wpList_load_box (ty := 31) (C0) ?_ ?_ Tryd.underlying31 ?_ ?_ ?_); (focus (exact rfl)); (focus (exact ⟨_, rfl, rfl⟩)); (focus (exact rfl)); (focus kernel_rfl)) | (go_at_call 31; (with_reducible refine (hRg.out _ HR2.out).mono ?_); rintro e w3 ⟨p', rfl, hR3, hg3⟩; have HR3 := Lib.hid hR3; clear hR3))
  have E7 := (Bx.new w3 (refL (yiR T th) p').toArray 31 rfl).of (us := refL (yiR T th) p') (by simp)
  have hgA : Gr w2 (w3.alloc (.cells (refL (yiR T th) p').toArray 31)) := hg3.alloc _
  (show Code.wp _ _ _ _ (w3.alloc (.cells (refL (yiR T th) p').toArray 31)))
  have h7 : w2.heap.size ≤ w3.heap.size := hg3.le
  have hc2 := C2.lt (by simp)
  have HE2 := Lib.hid (C2.keep hgA)
  have HR4 := Lib.hid (HR3.out.keep ((Gr.refl w3).alloc (.cells (refL (yiR T th) p').toArray 31)))
  have HgA := Lib.hid hgA
  clear C0 C1 C2 hg3 hgA
  generalize w3.alloc (.cells (refL (yiR T th) p').toArray 31) = w4 at *
  generalize w3.heap.size = b7 at *
  have HCd := Lib.hid fun w5 (hq : Gr W w5) => code_ev ce w5 (hq.keep HB.out.hd)
  have hok : (ok == ok) = true := by simp
  have hcc : (ce == ce) = true := by simp
  have hd4 : Gr w4 w4.drew := (Gr.refl w4).drew
  have hR4 := hd4.range E7.rng
  refine wp_region_held_drew (S := fun w' => w'.rangeAt b7 0 (refL (yiR T th) p')) (by kernel_rfl) hR4 (fun hHeld => ?_)
  refine' wpAnyH_take (i := 0) (oi := { dst := some 235, op := _, type := _, pos := _, after := _, guard := _ }) (v := _) rfl (by kernel_rfl) (by kernel_rfl) (by kernel_rfl) (fun _ _ _ h => h) (yieldsIf_load_mid (by rfl) _ _ rfl _ _ rfl _ _ (fun w h => h) Tryd.underlying31 rfl (by kernel_rfl)) hHeld ?_
  (try simp only [Act.put, List.setIfInBounds_toArray, List.set_cons_zero, List.set_cons_succ])
  refine' wpAnyH_take (i := 1) (oi := { dst := some 236, op := _, type := _, pos := _, after := _, guard := _ }) (v := .bool ok) rfl (by kernel_rfl) (by kernel_rfl) (by kernel_rfl) (fun _ _ _ h => h) (Or.inl ⟨by rfl, ?_⟩) hHeld ?_
  · (intro w hSw; go_simp)
  (try simp only [Act.put, List.setIfInBounds_toArray, List.set_cons_zero, List.set_cons_succ])
  refine' wpAnyH_take (i := 2) (oi := { dst := some 237, op := _, type := _, pos := _, after := _, guard := _ }) (v := .bool ok) rfl (by kernel_rfl) (by kernel_rfl) (by kernel_rfl) (fun _ _ _ h => h) (Or.inl ⟨by rfl, ?_⟩) hHeld ?_
  · (intro w hSw; go_simp)
  (try simp only [Act.put, List.setIfInBounds_toArray, List.set_cons_zero, List.set_cons_succ])
  refine' wpAnyH_take (i := 3) (oi := { dst := some 238, op := _, type := _, pos := _, after := _, guard := _ }) (v := .bool true) rfl (by kernel_rfl) (by kernel_rfl) (by kernel_rfl) (fun _ _ _ h => h) (Or.inl ⟨by rfl, ?_⟩) hHeld ?_
  · (intro w hSw; go_simp)
  (try simp only [Act.put, List.setIfInBounds_toArray, List.set_cons_zero, List.set_cons_succ])
  refine' wpAnyH_take (i := 4) (oi := { dst := some 239, op := _, type := _, pos := _, after := _, guard := _ }) (v := .bool true) rfl (by kernel_rfl) (by kernel_rfl) (by kernel_rfl) (fun _ _ _ h => h) (Or.inl ⟨by rfl, ?_⟩) hHeld ?_
  · (intro w hSw; go_simp)
  (try simp only [Act.put, List.setIfInBounds_toArray, List.set_cons_zero, List.set_cons_succ])
  refine' wpAnyH_take (i := 5) (oi := { dst := some 240, op := _, type := _, pos := _, after := _, guard := _ }) (v := ev ce) rfl (by kernel_rfl) (by kernel_rfl) (by kernel_rfl) (fun _ _ _ h => h) (Or.inl ⟨by rfl, ?_⟩) hHeld ?_
  · (intro w hSw; go_simp)
  (try simp only [Act.put, List.setIfInBounds_toArray, List.set_cons_zero, List.set_cons_succ])
  refine' wpAnyH_take (i := 7) (oi := { dst := some 242, op := _, type := _, pos := _, after := _, guard := _ }) (v := .int .i64 ce) rfl (by kernel_rfl) (by kernel_rfl) (by kernel_rfl) (fun _ _ _ h => h) (Or.inl ⟨by rfl, ?_⟩) hHeld ?_
  · (intro w hSw; go_simp)
  (try simp only [Act.put, List.setIfInBounds_toArray, List.set_cons_zero, List.set_cons_succ])
  refine wpAnyH_ready (rs := [6]) (by kernel_rfl) (by simp) ?_
  refine AllReadyH.cons (o := { dst := some 241, op := _, type := _, pos := _, after := _, guard := _ }) rfl (fun K hK => ?_) AllReadyH.nil
  refine step_wanted (by rfl) ?_
  go_simp
  go_at_call 21
  with_reducible refine (HCd.out _ ((HgW.out.trans HgA.out).trans hd4)).mono ?_
  rintro e w5 ⟨rfl, hg5⟩
  have hg45 := hd4.trans hg5
  refine hK.out _ _ (hg45.range E7.rng) (fun hHeld => ?_)
  clear hK K
  (try simp only [Act.put, List.setIfInBounds_toArray, List.set_cons_zero, List.set_cons_succ])
  refine' wpAnyH_take (i := 8) (oi := { dst := some 243, op := _, type := _, pos := _, after := _, guard := _ }) (v := .bool true) rfl (by kernel_rfl) (by kernel_rfl) (by kernel_rfl) (fun _ _ _ h => h) (Or.inl ⟨by rfl, ?_⟩) hHeld ?_
  · (intro w hSw; go_simp)
  (try simp only [Act.put, List.setIfInBounds_toArray, List.set_cons_zero, List.set_cons_succ])
  refine' wpAnyH_take (i := 9) (oi := { dst := some 244, op := _, type := _, pos := _, after := _, guard := _ }) (v := .bool true) rfl (by kernel_rfl) (by kernel_rfl) (by kernel_rfl) (fun _ _ _ h => h) (Or.inl ⟨by rfl, ?_⟩) hHeld ?_
  · (intro w hSw; go_simp)
  (try simp only [Act.put, List.setIfInBounds_toArray, List.set_cons_zero, List.set_cons_succ])
  have hM5 := (HE2.out.keep hg45).may
  refine wpAnyH_ready (rs := [10]) (by kernel_rfl) (by simp) ?_
  refine AllReadyH.cons (o := { dst := none, op := _, type := _, pos := _, after := _, guard := _ }) rfl (fun K hK => ?_) AllReadyH.nil
  refine step_wanted (by rfl) ?_
  refine wp_store_mid _ _ _ rfl _ _ (refL (yiR T th) p').toArray rfl rfl hM5 (by kernel_rfl) (by simp [Value.oneCell']) ?_
  simp only [Act.put, List.setIfInBounds_toArray, List.set_cons_zero, List.set_cons_succ, List.toList_toArray]
  refine hK.out _ _ (World.rangeAt_setCells_apart hHeld _ _ _ (.inl (by omega))) (fun hHeld => ?_)
  clear hK K hM5
  have Z := (HE2.out.keep hg45).setAll (us := refL (yiR T th) p') rfl
  have HM6 := Lib.hid (show Mod [bx + 1 + 1] w5 (w5.setCells (bx + 1 + 1) 0 (refL (yiR T th) p')) from Mod.setCells (by simp) _ _ _)
  generalize w5.setCells (bx + 1 + 1) 0 (refL (yiR T th) p') = w6 at hHeld Z HM6 ⊢
  refine' wpAnyH_take (i := 11) (oi := { dst := some 7, op := _, type := _, pos := _, after := _, guard := _ }) (v := .bool true) rfl (by kernel_rfl) (by kernel_rfl) (by kernel_rfl) (fun _ _ _ h => h) (Or.inl ⟨by rfl, ?_⟩) hHeld ?_
  · (intro w hSw; go_simp)
  (try simp only [Act.put, List.setIfInBounds_toArray, List.set_cons_zero, List.set_cons_succ])
  refine wpAnyH_done (by kernel_rfl) ?_ _
  go_wp2_with fail
  have hfin := fin_both hg0 Hbx.out HM2.out HMx.out HT2.out (HgA.out.trans hg45) HM6.out tlt clt mlt HB.out.tab (HR4.out.keep hg45)
  refine bodyPost_ret (Bx.ret2 Z rfl _ rfl rfl Tryd.underlying31 rfl (by kernel_rfl)) rfl ?_
  exact ⟨p', rfl, hfin⟩
set_option maxRecDepth 100000 in
set_option maxHeartbeats 8000000 in
theorem does_6t (hB : Both S W w t cm mk T p) (n th : Int) (l : List Wt) (o1 : Option Addr) (m1 c1 : Nat) (hw : WritesAt W o1 m1 c1 l) (hf : FewWs l) (hn : (Lit.int .i64 n).wf = true) :
    Calls Tryd.prog 10 #[.pointer (some ⟨t, 0, none⟩), .agg (refL T p).toArray, .agg (doL ⟨6, n, th, true, l⟩ o1 m1 c1).toArray] w (DoesT S W w t cm mk (adR T (T.low : Int))) := by
  obtain ⟨V, hV, B0, B1, B2, hg0, hsz⟩ := boxes3 w 31 36 31 (refL T p) (doL ⟨6, n, th, true, l⟩ o1 m1 c1) zRT
  have HB := Lib.hid hB
  have tlt := hB.tab.lt
  have clt := hB.tab.lt2
  have mlt := hB.tab.lt3
  have hnb : ∀ b ∈ (w.heap.size + 1 + 1) :: S, b ∈ S ∨ w.heap.size ≤ b := fun b hb => by
    rcases List.mem_cons.1 hb with rfl | q
    · exact .inr (by omega)
    · exact .inl q
  have HTV := Lib.hid (hB.tab.keepN hg0 (List.mem_cons_of_mem _ hB.tab.in1) (List.mem_cons_of_mem _ hB.tab.in2) (List.mem_cons_of_mem _ hB.tab.in3) hnb)
  have HRV := Lib.hid (hB.ref.ex (hideL_new hg0 hnb))
  have HLT := Lib.hid (show ∀ b ∈ (w.heap.size + 1 + 1) :: S, b < V.heap.size from fun b hb => by
    rcases List.mem_cons.1 hb with rfl | q
    · omega
    · have := hB.lt b q; omega)
  have hsz2 : w.heap.size + 1 + 1 < V.heap.size := by omega
  have hO := hB.ok
  have HO := Lib.hid hO
  have Hw := Lib.hid hw
  have Hf := Lib.hid hf
  have hGb := Lib.hid (advance_v HTV.out hO (T.low : Int))
  have hRg := Lib.hid fun w2 (hr : RefV ((w.heap.size + 1 + 1) :: S) W w2 T p) => refAdvance_t hr hO (T.low : Int)
  clear hB hnb hO hw hf
  unfold DoesT
  go_enter Tryd.func10, Tryd.ntmps10
  go_upto_region 1 with fail
  rw [← hV]
  clear hV hsz
  generalize hbx : w.heap.size = bx at *
  have Hbx := Lib.hid hbx
  clear hbx
  have d0 := B1.cell 0 rfl
  have d1 := B1.cell 1 rfl
  have d3 := B1.cell 3 rfl
  have q1 := B0.cell 1 rfl
  go_upto_region 46 with (go_at_call 32; (with_reducible refine hGb.out.mono ?_); rintro e w2 ⟨rfl, hT2, hM2⟩; (have HT2 := Lib.hid hT2); (have HM2 := Lib.hid hM2); clear hT2 hM2)
  have C0 := HM2.out.box (by simp only [List.mem_cons, List.not_mem_nil, or_false, not_or]; omega) B0
  have C1 := HM2.out.box (by simp only [List.mem_cons, List.not_mem_nil, or_false, not_or]; omega) B1
  have C2 := HM2.out.box (by simp only [List.mem_cons, List.not_mem_nil, or_false, not_or]; omega) B2
  have HR2 := Lib.hid (HRV.out.mod HM2.out (fun b hb => by simp only [List.mem_cons, List.not_mem_nil, or_false] at hb; rcases hb with rfl <;> first | exact HTV.out.in1 | exact HTV.out.in2 | exact HTV.out.in3))
  have HL2 := Lib.hid (show ∀ b ∈ (bx + 1 + 1) :: S, b < w2.heap.size from fun b hb => Nat.lt_of_lt_of_le (HLT.out b hb) HM2.out.size)
  have HgW := Lib.hid (show Gr W w2 from HM2.out.gr (HB.out.gr.trans hg0) (fun b hb => by simp only [List.mem_cons, List.not_mem_nil, or_false] at hb; rcases hb with rfl <;> first | exact HB.out.bt | exact HB.out.bc | exact HB.out.bm))
  have HMx := Lib.hid (show ∀ b ∈ [t], b = t ∨ b = cm ∨ b = mk from by simp)
  clear d0 d1 d3 q1
  clear B0 B1 B2 hGb
  generalize adOk T (T.low : Int) = ok at *
  generalize adE T = ce at *
  go_upto_region 47 with (first | ((with_reducible refine wpList_load_box (ty := 31) (C0) ?_ ?_ Tryd.underlying31 ?_ ?_ ?_); (focus (exact rfl)); (focus (exact ⟨_, rfl, rfl⟩)); (focus (exact rfl)); (focus kernel_rfl)) | (go_at_call 33; (with_reducible refine (hRg.out _ HR2.out).mono ?_); rintro e w3 ⟨p', rfl, hR3, hg3⟩; have HR3 := Lib.hid hR3; clear hR3))
  have E7 := (Bx.new w3 (refL (adR T (T.low : Int)) p').toArray 31 rfl).of (us := refL (adR T (T.low : Int)) p') (by simp)
  have hgA : Gr w2 (w3.alloc (.cells (refL (adR T (T.low : Int)) p').toArray 31)) := hg3.alloc _
  (show Code.wp _ _ _ _ (w3.alloc (.cells (refL (adR T (T.low : Int)) p').toArray 31)))
  have h7 : w2.heap.size ≤ w3.heap.size := hg3.le
  have hc2 := C2.lt (by simp)
  have HE2 := Lib.hid (C2.keep hgA)
  have HR4 := Lib.hid (HR3.out.keep ((Gr.refl w3).alloc (.cells (refL (adR T (T.low : Int)) p').toArray 31)))
  have HgA := Lib.hid hgA
  clear C0 C1 C2 hg3 hgA
  generalize w3.alloc (.cells (refL (adR T (T.low : Int)) p').toArray 31) = w4 at *
  generalize w3.heap.size = b7 at *
  have HCd := Lib.hid fun w5 (hq : Gr W w5) => code_ev ce w5 (hq.keep HB.out.hd)
  have hok : (ok == ok) = true := by simp
  have hcc : (ce == ce) = true := by simp
  have hd4 : Gr w4 w4.drew := (Gr.refl w4).drew
  have hR4 := hd4.range E7.rng
  refine wp_region_held_drew (S := fun w' => w'.rangeAt b7 0 (refL (adR T (T.low : Int)) p')) (by kernel_rfl) hR4 (fun hHeld => ?_)
  refine' wpAnyH_take (i := 0) (oi := { dst := some 266, op := _, type := _, pos := _, after := _, guard := _ }) (v := _) rfl (by kernel_rfl) (by kernel_rfl) (by kernel_rfl) (fun _ _ _ h => h) (yieldsIf_load_mid (by rfl) _ _ rfl _ _ rfl _ _ (fun w h => h) Tryd.underlying31 rfl (by kernel_rfl)) hHeld ?_
  (try simp only [Act.put, List.setIfInBounds_toArray, List.set_cons_zero, List.set_cons_succ])
  refine' wpAnyH_take (i := 1) (oi := { dst := some 267, op := _, type := _, pos := _, after := _, guard := _ }) (v := .bool ok) rfl (by kernel_rfl) (by kernel_rfl) (by kernel_rfl) (fun _ _ _ h => h) (Or.inl ⟨by rfl, ?_⟩) hHeld ?_
  · (intro w hSw; go_simp)
  (try simp only [Act.put, List.setIfInBounds_toArray, List.set_cons_zero, List.set_cons_succ])
  refine' wpAnyH_take (i := 2) (oi := { dst := some 268, op := _, type := _, pos := _, after := _, guard := _ }) (v := .bool ok) rfl (by kernel_rfl) (by kernel_rfl) (by kernel_rfl) (fun _ _ _ h => h) (Or.inl ⟨by rfl, ?_⟩) hHeld ?_
  · (intro w hSw; go_simp)
  (try simp only [Act.put, List.setIfInBounds_toArray, List.set_cons_zero, List.set_cons_succ])
  refine' wpAnyH_take (i := 3) (oi := { dst := some 269, op := _, type := _, pos := _, after := _, guard := _ }) (v := .bool true) rfl (by kernel_rfl) (by kernel_rfl) (by kernel_rfl) (fun _ _ _ h => h) (Or.inl ⟨by rfl, ?_⟩) hHeld ?_
  · (intro w hSw; go_simp)
  (try simp only [Act.put, List.setIfInBounds_toArray, List.set_cons_zero, List.set_cons_succ])
  refine' wpAnyH_take (i := 4) (oi := { dst := some 270, op := _, type := _, pos := _, after := _, guard := _ }) (v := .bool true) rfl (by kernel_rfl) (by kernel_rfl) (by kernel_rfl) (fun _ _ _ h => h) (Or.inl ⟨by rfl, ?_⟩) hHeld ?_
  · (intro w hSw; go_simp)
  (try simp only [Act.put, List.setIfInBounds_toArray, List.set_cons_zero, List.set_cons_succ])
  refine' wpAnyH_take (i := 5) (oi := { dst := some 271, op := _, type := _, pos := _, after := _, guard := _ }) (v := ev ce) rfl (by kernel_rfl) (by kernel_rfl) (by kernel_rfl) (fun _ _ _ h => h) (Or.inl ⟨by rfl, ?_⟩) hHeld ?_
  · (intro w hSw; go_simp)
  (try simp only [Act.put, List.setIfInBounds_toArray, List.set_cons_zero, List.set_cons_succ])
  refine' wpAnyH_take (i := 7) (oi := { dst := some 273, op := _, type := _, pos := _, after := _, guard := _ }) (v := .int .i64 ce) rfl (by kernel_rfl) (by kernel_rfl) (by kernel_rfl) (fun _ _ _ h => h) (Or.inl ⟨by rfl, ?_⟩) hHeld ?_
  · (intro w hSw; go_simp)
  (try simp only [Act.put, List.setIfInBounds_toArray, List.set_cons_zero, List.set_cons_succ])
  refine wpAnyH_ready (rs := [6]) (by kernel_rfl) (by simp) ?_
  refine AllReadyH.cons (o := { dst := some 272, op := _, type := _, pos := _, after := _, guard := _ }) rfl (fun K hK => ?_) AllReadyH.nil
  refine step_wanted (by rfl) ?_
  go_simp
  go_at_call 21
  with_reducible refine (HCd.out _ ((HgW.out.trans HgA.out).trans hd4)).mono ?_
  rintro e w5 ⟨rfl, hg5⟩
  have hg45 := hd4.trans hg5
  refine hK.out _ _ (hg45.range E7.rng) (fun hHeld => ?_)
  clear hK K
  (try simp only [Act.put, List.setIfInBounds_toArray, List.set_cons_zero, List.set_cons_succ])
  refine' wpAnyH_take (i := 8) (oi := { dst := some 274, op := _, type := _, pos := _, after := _, guard := _ }) (v := .bool true) rfl (by kernel_rfl) (by kernel_rfl) (by kernel_rfl) (fun _ _ _ h => h) (Or.inl ⟨by rfl, ?_⟩) hHeld ?_
  · (intro w hSw; go_simp)
  (try simp only [Act.put, List.setIfInBounds_toArray, List.set_cons_zero, List.set_cons_succ])
  refine' wpAnyH_take (i := 9) (oi := { dst := some 275, op := _, type := _, pos := _, after := _, guard := _ }) (v := .bool true) rfl (by kernel_rfl) (by kernel_rfl) (by kernel_rfl) (fun _ _ _ h => h) (Or.inl ⟨by rfl, ?_⟩) hHeld ?_
  · (intro w hSw; go_simp)
  (try simp only [Act.put, List.setIfInBounds_toArray, List.set_cons_zero, List.set_cons_succ])
  have hM5 := (HE2.out.keep hg45).may
  refine wpAnyH_ready (rs := [10]) (by kernel_rfl) (by simp) ?_
  refine AllReadyH.cons (o := { dst := none, op := _, type := _, pos := _, after := _, guard := _ }) rfl (fun K hK => ?_) AllReadyH.nil
  refine step_wanted (by rfl) ?_
  refine wp_store_mid _ _ _ rfl _ _ (refL (adR T (T.low : Int)) p').toArray rfl rfl hM5 (by kernel_rfl) (by simp [Value.oneCell']) ?_
  simp only [Act.put, List.setIfInBounds_toArray, List.set_cons_zero, List.set_cons_succ, List.toList_toArray]
  refine hK.out _ _ (World.rangeAt_setCells_apart hHeld _ _ _ (.inl (by omega))) (fun hHeld => ?_)
  clear hK K hM5
  have Z := (HE2.out.keep hg45).setAll (us := refL (adR T (T.low : Int)) p') rfl
  have HM6 := Lib.hid (show Mod [bx + 1 + 1] w5 (w5.setCells (bx + 1 + 1) 0 (refL (adR T (T.low : Int)) p')) from Mod.setCells (by simp) _ _ _)
  generalize w5.setCells (bx + 1 + 1) 0 (refL (adR T (T.low : Int)) p') = w6 at hHeld Z HM6 ⊢
  refine' wpAnyH_take (i := 11) (oi := { dst := some 7, op := _, type := _, pos := _, after := _, guard := _ }) (v := .bool true) rfl (by kernel_rfl) (by kernel_rfl) (by kernel_rfl) (fun _ _ _ h => h) (Or.inl ⟨by rfl, ?_⟩) hHeld ?_
  · (intro w hSw; go_simp)
  (try simp only [Act.put, List.setIfInBounds_toArray, List.set_cons_zero, List.set_cons_succ])
  refine wpAnyH_done (by kernel_rfl) ?_ _
  go_wp2_with fail
  have hfin := fin_both hg0 Hbx.out HM2.out HMx.out HT2.out (HgA.out.trans hg45) HM6.out tlt clt mlt HB.out.tab (HR4.out.keep hg45)
  refine bodyPost_ret (Bx.ret2 Z rfl _ rfl rfl Tryd.underlying31 rfl (by kernel_rfl)) rfl ?_
  exact ⟨p', rfl, hfin⟩
set_option maxRecDepth 100000 in
set_option maxHeartbeats 8000000 in
theorem does_6f (hB : Both S W w t cm mk T p) (n th : Int) (l : List Wt) (o1 : Option Addr) (m1 c1 : Nat) (hw : WritesAt W o1 m1 c1 l) (hf : FewWs l) (hn : (Lit.int .i64 n).wf = true) :
    Calls Tryd.prog 10 #[.pointer (some ⟨t, 0, none⟩), .agg (refL T p).toArray, .agg (doL ⟨6, n, th, false, l⟩ o1 m1 c1).toArray] w (DoesT S W w t cm mk (adR T n)) := by
  obtain ⟨V, hV, B0, B1, B2, hg0, hsz⟩ := boxes3 w 31 36 31 (refL T p) (doL ⟨6, n, th, false, l⟩ o1 m1 c1) zRT
  have HB := Lib.hid hB
  have tlt := hB.tab.lt
  have clt := hB.tab.lt2
  have mlt := hB.tab.lt3
  have hnb : ∀ b ∈ (w.heap.size + 1 + 1) :: S, b ∈ S ∨ w.heap.size ≤ b := fun b hb => by
    rcases List.mem_cons.1 hb with rfl | q
    · exact .inr (by omega)
    · exact .inl q
  have HTV := Lib.hid (hB.tab.keepN hg0 (List.mem_cons_of_mem _ hB.tab.in1) (List.mem_cons_of_mem _ hB.tab.in2) (List.mem_cons_of_mem _ hB.tab.in3) hnb)
  have HRV := Lib.hid (hB.ref.ex (hideL_new hg0 hnb))
  have HLT := Lib.hid (show ∀ b ∈ (w.heap.size + 1 + 1) :: S, b < V.heap.size from fun b hb => by
    rcases List.mem_cons.1 hb with rfl | q
    · omega
    · have := hB.lt b q; omega)
  have hsz2 : w.heap.size + 1 + 1 < V.heap.size := by omega
  have hO := hB.ok
  have HO := Lib.hid hO
  have Hw := Lib.hid hw
  have Hf := Lib.hid hf
  have hGb := Lib.hid (advance_v HTV.out hO n)
  have hRg := Lib.hid fun w2 (hr : RefV ((w.heap.size + 1 + 1) :: S) W w2 T p) => refAdvance_t hr hO n
  clear hB hnb hO hw hf
  unfold DoesT
  go_enter Tryd.func10, Tryd.ntmps10
  go_upto_region 1 with fail
  rw [← hV]
  clear hV hsz
  generalize hbx : w.heap.size = bx at *
  have Hbx := Lib.hid hbx
  clear hbx
  have d0 := B1.cell 0 rfl
  have d1 := B1.cell 1 rfl
  have d3 := B1.cell 3 rfl
  have q1 := B0.cell 1 rfl
  go_upto_region 46 with (go_at_call 32; (with_reducible refine hGb.out.mono ?_); rintro e w2 ⟨rfl, hT2, hM2⟩; (have HT2 := Lib.hid hT2); (have HM2 := Lib.hid hM2); clear hT2 hM2)
  have C0 := HM2.out.box (by simp only [List.mem_cons, List.not_mem_nil, or_false, not_or]; omega) B0
  have C1 := HM2.out.box (by simp only [List.mem_cons, List.not_mem_nil, or_false, not_or]; omega) B1
  have C2 := HM2.out.box (by simp only [List.mem_cons, List.not_mem_nil, or_false, not_or]; omega) B2
  have HR2 := Lib.hid (HRV.out.mod HM2.out (fun b hb => by simp only [List.mem_cons, List.not_mem_nil, or_false] at hb; rcases hb with rfl <;> first | exact HTV.out.in1 | exact HTV.out.in2 | exact HTV.out.in3))
  have HL2 := Lib.hid (show ∀ b ∈ (bx + 1 + 1) :: S, b < w2.heap.size from fun b hb => Nat.lt_of_lt_of_le (HLT.out b hb) HM2.out.size)
  have HgW := Lib.hid (show Gr W w2 from HM2.out.gr (HB.out.gr.trans hg0) (fun b hb => by simp only [List.mem_cons, List.not_mem_nil, or_false] at hb; rcases hb with rfl <;> first | exact HB.out.bt | exact HB.out.bc | exact HB.out.bm))
  have HMx := Lib.hid (show ∀ b ∈ [t], b = t ∨ b = cm ∨ b = mk from by simp)
  clear d0 d1 d3 q1
  clear B0 B1 B2 hGb
  generalize adOk T n = ok at *
  generalize adE T = ce at *
  go_upto_region 47 with (first | ((with_reducible refine wpList_load_box (ty := 31) (C0) ?_ ?_ Tryd.underlying31 ?_ ?_ ?_); (focus (exact rfl)); (focus (exact ⟨_, rfl, rfl⟩)); (focus (exact rfl)); (focus kernel_rfl)) | (go_at_call 33; (with_reducible refine (hRg.out _ HR2.out).mono ?_); rintro e w3 ⟨p', rfl, hR3, hg3⟩; have HR3 := Lib.hid hR3; clear hR3))
  have E7 := (Bx.new w3 (refL (adR T n) p').toArray 31 rfl).of (us := refL (adR T n) p') (by simp)
  have hgA : Gr w2 (w3.alloc (.cells (refL (adR T n) p').toArray 31)) := hg3.alloc _
  (show Code.wp _ _ _ _ (w3.alloc (.cells (refL (adR T n) p').toArray 31)))
  have h7 : w2.heap.size ≤ w3.heap.size := hg3.le
  have hc2 := C2.lt (by simp)
  have HE2 := Lib.hid (C2.keep hgA)
  have HR4 := Lib.hid (HR3.out.keep ((Gr.refl w3).alloc (.cells (refL (adR T n) p').toArray 31)))
  have HgA := Lib.hid hgA
  clear C0 C1 C2 hg3 hgA
  generalize w3.alloc (.cells (refL (adR T n) p').toArray 31) = w4 at *
  generalize w3.heap.size = b7 at *
  have HCd := Lib.hid fun w5 (hq : Gr W w5) => code_ev ce w5 (hq.keep HB.out.hd)
  have hok : (ok == ok) = true := by simp
  have hcc : (ce == ce) = true := by simp
  have hd4 : Gr w4 w4.drew := (Gr.refl w4).drew
  have hR4 := hd4.range E7.rng
  refine wp_region_held_drew (S := fun w' => w'.rangeAt b7 0 (refL (adR T n) p')) (by kernel_rfl) hR4 (fun hHeld => ?_)
  refine' wpAnyH_take (i := 0) (oi := { dst := some 266, op := _, type := _, pos := _, after := _, guard := _ }) (v := _) rfl (by kernel_rfl) (by kernel_rfl) (by kernel_rfl) (fun _ _ _ h => h) (yieldsIf_load_mid (by rfl) _ _ rfl _ _ rfl _ _ (fun w h => h) Tryd.underlying31 rfl (by kernel_rfl)) hHeld ?_
  (try simp only [Act.put, List.setIfInBounds_toArray, List.set_cons_zero, List.set_cons_succ])
  refine' wpAnyH_take (i := 1) (oi := { dst := some 267, op := _, type := _, pos := _, after := _, guard := _ }) (v := .bool ok) rfl (by kernel_rfl) (by kernel_rfl) (by kernel_rfl) (fun _ _ _ h => h) (Or.inl ⟨by rfl, ?_⟩) hHeld ?_
  · (intro w hSw; go_simp)
  (try simp only [Act.put, List.setIfInBounds_toArray, List.set_cons_zero, List.set_cons_succ])
  refine' wpAnyH_take (i := 2) (oi := { dst := some 268, op := _, type := _, pos := _, after := _, guard := _ }) (v := .bool ok) rfl (by kernel_rfl) (by kernel_rfl) (by kernel_rfl) (fun _ _ _ h => h) (Or.inl ⟨by rfl, ?_⟩) hHeld ?_
  · (intro w hSw; go_simp)
  (try simp only [Act.put, List.setIfInBounds_toArray, List.set_cons_zero, List.set_cons_succ])
  refine' wpAnyH_take (i := 3) (oi := { dst := some 269, op := _, type := _, pos := _, after := _, guard := _ }) (v := .bool true) rfl (by kernel_rfl) (by kernel_rfl) (by kernel_rfl) (fun _ _ _ h => h) (Or.inl ⟨by rfl, ?_⟩) hHeld ?_
  · (intro w hSw; go_simp)
  (try simp only [Act.put, List.setIfInBounds_toArray, List.set_cons_zero, List.set_cons_succ])
  refine' wpAnyH_take (i := 4) (oi := { dst := some 270, op := _, type := _, pos := _, after := _, guard := _ }) (v := .bool true) rfl (by kernel_rfl) (by kernel_rfl) (by kernel_rfl) (fun _ _ _ h => h) (Or.inl ⟨by rfl, ?_⟩) hHeld ?_
  · (intro w hSw; go_simp)
  (try simp only [Act.put, List.setIfInBounds_toArray, List.set_cons_zero, List.set_cons_succ])
  refine' wpAnyH_take (i := 5) (oi := { dst := some 271, op := _, type := _, pos := _, after := _, guard := _ }) (v := ev ce) rfl (by kernel_rfl) (by kernel_rfl) (by kernel_rfl) (fun _ _ _ h => h) (Or.inl ⟨by rfl, ?_⟩) hHeld ?_
  · (intro w hSw; go_simp)
  (try simp only [Act.put, List.setIfInBounds_toArray, List.set_cons_zero, List.set_cons_succ])
  refine' wpAnyH_take (i := 7) (oi := { dst := some 273, op := _, type := _, pos := _, after := _, guard := _ }) (v := .int .i64 ce) rfl (by kernel_rfl) (by kernel_rfl) (by kernel_rfl) (fun _ _ _ h => h) (Or.inl ⟨by rfl, ?_⟩) hHeld ?_
  · (intro w hSw; go_simp)
  (try simp only [Act.put, List.setIfInBounds_toArray, List.set_cons_zero, List.set_cons_succ])
  refine wpAnyH_ready (rs := [6]) (by kernel_rfl) (by simp) ?_
  refine AllReadyH.cons (o := { dst := some 272, op := _, type := _, pos := _, after := _, guard := _ }) rfl (fun K hK => ?_) AllReadyH.nil
  refine step_wanted (by rfl) ?_
  go_simp
  go_at_call 21
  with_reducible refine (HCd.out _ ((HgW.out.trans HgA.out).trans hd4)).mono ?_
  rintro e w5 ⟨rfl, hg5⟩
  have hg45 := hd4.trans hg5
  refine hK.out _ _ (hg45.range E7.rng) (fun hHeld => ?_)
  clear hK K
  (try simp only [Act.put, List.setIfInBounds_toArray, List.set_cons_zero, List.set_cons_succ])
  refine' wpAnyH_take (i := 8) (oi := { dst := some 274, op := _, type := _, pos := _, after := _, guard := _ }) (v := .bool true) rfl (by kernel_rfl) (by kernel_rfl) (by kernel_rfl) (fun _ _ _ h => h) (Or.inl ⟨by rfl, ?_⟩) hHeld ?_
  · (intro w hSw; go_simp)
  (try simp only [Act.put, List.setIfInBounds_toArray, List.set_cons_zero, List.set_cons_succ])
  refine' wpAnyH_take (i := 9) (oi := { dst := some 275, op := _, type := _, pos := _, after := _, guard := _ }) (v := .bool true) rfl (by kernel_rfl) (by kernel_rfl) (by kernel_rfl) (fun _ _ _ h => h) (Or.inl ⟨by rfl, ?_⟩) hHeld ?_
  · (intro w hSw; go_simp)
  (try simp only [Act.put, List.setIfInBounds_toArray, List.set_cons_zero, List.set_cons_succ])
  have hM5 := (HE2.out.keep hg45).may
  refine wpAnyH_ready (rs := [10]) (by kernel_rfl) (by simp) ?_
  refine AllReadyH.cons (o := { dst := none, op := _, type := _, pos := _, after := _, guard := _ }) rfl (fun K hK => ?_) AllReadyH.nil
  refine step_wanted (by rfl) ?_
  refine wp_store_mid _ _ _ rfl _ _ (refL (adR T n) p').toArray rfl rfl hM5 (by kernel_rfl) (by simp [Value.oneCell']) ?_
  simp only [Act.put, List.setIfInBounds_toArray, List.set_cons_zero, List.set_cons_succ, List.toList_toArray]
  refine hK.out _ _ (World.rangeAt_setCells_apart hHeld _ _ _ (.inl (by omega))) (fun hHeld => ?_)
  clear hK K hM5
  have Z := (HE2.out.keep hg45).setAll (us := refL (adR T n) p') rfl
  have HM6 := Lib.hid (show Mod [bx + 1 + 1] w5 (w5.setCells (bx + 1 + 1) 0 (refL (adR T n) p')) from Mod.setCells (by simp) _ _ _)
  generalize w5.setCells (bx + 1 + 1) 0 (refL (adR T n) p') = w6 at hHeld Z HM6 ⊢
  refine' wpAnyH_take (i := 11) (oi := { dst := some 7, op := _, type := _, pos := _, after := _, guard := _ }) (v := .bool true) rfl (by kernel_rfl) (by kernel_rfl) (by kernel_rfl) (fun _ _ _ h => h) (Or.inl ⟨by rfl, ?_⟩) hHeld ?_
  · (intro w hSw; go_simp)
  (try simp only [Act.put, List.setIfInBounds_toArray, List.set_cons_zero, List.set_cons_succ])
  refine wpAnyH_done (by kernel_rfl) ?_ _
  go_wp2_with fail
  have hfin := fin_both hg0 Hbx.out HM2.out HMx.out HT2.out (HgA.out.trans hg45) HM6.out tlt clt mlt HB.out.tab (HR4.out.keep hg45)
  refine bodyPost_ret (Bx.ret2 Z rfl _ rfl rfl Tryd.underlying31 rfl (by kernel_rfl)) rfl ?_
  exact ⟨p', rfl, hfin⟩
end
end Go.Proofs.YtfejdbcfcpmdiaaDoor
