import Derived.Test.YtfejdbcfcpmdiaaDoorDbz
namespace Go.Proofs.YtfejdbcfcpmdiaaDoor
set_option linter.unusedVariables false
set_option linter.unusedSimpArgs false
open Go.BigFrame Go.RowKit Go.WideShapes

/-! A step in both tables (does): marks, Trim, other verbs (printed by a program). -/
section
variable {S : List Nat} {W w : World} {t cm mk : Nat} {T : Ct} {p : Rp}
set_option maxRecDepth 100000 in
set_option maxHeartbeats 8000000 in
theorem does_2 (hB : Both S W w t cm mk T p) (n th : Int) (rt : Bool) (l : List Wt) (o1 : Option Addr) (m1 c1 : Nat) (hw : WritesAt W o1 m1 c1 l) (hf : FewWs l) (hn : (Lit.int .i64 n).wf = true) :
    Calls Tryd.prog 10 #[.pointer (some ⟨t, 0, none⟩), .agg (refL T p).toArray, .agg (doL ⟨2, n, th, rt, l⟩ o1 m1 c1).toArray] w (DoesT S W w t cm mk (mkR T th n)) := by
  obtain ⟨V, hV, B0, B1, B2, hg0, hsz⟩ := boxes3 w 31 36 31 (refL T p) (doL ⟨2, n, th, rt, l⟩ o1 m1 c1) zRT
  have HB := Lib.hid hB
  have tlt := hB.tab.lt
  have clt := hB.tab.lt2
  have mlt := hB.tab.lt3
  have hnb : ∀ b ∈ (w.heap.size + 1 + 1) :: S, b ∈ S ∨ w.heap.size ≤ b := fun b hb => by
    rcases List.mem_cons.1 hb with rfl | q
    · exact .inr (by omega)
    · exact .inl q
  have HTV := Lib.hid (hB.tab.keepN hg0 (List.mem_cons_of_mem _ hB.tab.in1) (List.mem_cons_of_mem _ hB.tab.in2) (List.mem_cons_of_mem _ hB.tab.in3) hnb)
  have HRV := Lib.hid (hB.ref.ex (hideL_new hg0 hnb))
  have HLT := Lib.hid (show ∀ b ∈ (w.heap.size + 1 + 1) :: S, b < V.heap.size from fun b hb => by
    rcases List.mem_cons.1 hb with rfl | q
    · omega
    · have := hB.lt b q; omega)
  have hsz2 : w.heap.size + 1 + 1 < V.heap.size := by omega
  have hO := hB.ok
  have HO := Lib.hid hO
  have Hw := Lib.hid hw
  have Hf := Lib.hid hf
  have hGb := Lib.hid (mark_v HTV.out hO th n hn)
  have hRg := Lib.hid fun w2 (hr : RefV ((w.heap.size + 1 + 1) :: S) W w2 T p) (hl : ∀ b ∈ (w.heap.size + 1 + 1) :: S, b < w2.heap.size) => refMark_r hr hO hl th n hn
  clear hB hnb hO hw hf
  unfold DoesT
  go_enter Tryd.func10, Tryd.ntmps10
  go_upto_region 1 with fail
  rw [← hV]
  clear hV hsz
  generalize hbx : w.heap.size = bx at *
  have Hbx := Lib.hid hbx
  clear hbx
  have d0 := B1.cell 0 rfl
  have d1 := B1.cell 1 rfl
  have d2 := B1.cell 2 rfl
  go_upto_region 27 with (go_at_call 24; (with_reducible refine hGb.out.mono ?_); rintro e w2 ⟨rfl, hT2, hM2⟩; (have HT2 := Lib.hid hT2); (have HM2 := Lib.hid hM2); clear hT2 hM2)
  have C0 := HM2.out.box (by simp only [List.mem_cons, List.not_mem_nil, or_false, not_or]; omega) B0
  have C1 := HM2.out.box (by simp only [List.mem_cons, List.not_mem_nil, or_false, not_or]; omega) B1
  have C2 := HM2.out.box (by simp only [List.mem_cons, List.not_mem_nil, or_false, not_or]; omega) B2
  have HR2 := Lib.hid (HRV.out.mod HM2.out (fun b hb => by simp only [List.mem_cons, List.not_mem_nil, or_false] at hb; rcases hb with rfl <;> first | exact HTV.out.in1 | exact HTV.out.in2 | exact HTV.out.in3))
  have HL2 := Lib.hid (show ∀ b ∈ (bx + 1 + 1) :: S, b < w2.heap.size from fun b hb => Nat.lt_of_lt_of_le (HLT.out b hb) HM2.out.size)
  have HgW := Lib.hid (show Gr W w2 from HM2.out.gr (HB.out.gr.trans hg0) (fun b hb => by simp only [List.mem_cons, List.not_mem_nil, or_false] at hb; rcases hb with rfl <;> first | exact HB.out.bt | exact HB.out.bc | exact HB.out.bm))
  have HMx := Lib.hid (show ∀ b ∈ [mk], b = t ∨ b = cm ∨ b = mk from by simp)
  have e1 := C1.cell 1 rfl
  have e2 := C1.cell 2 rfl
  clear d0 d1 d2 B0 B1 B2 hGb
  generalize mkE T th = ce at *
  go_upto_region 28 with (first | ((with_reducible refine wpList_load_box (ty := 31) (C0) ?_ ?_ Tryd.underlying31 ?_ ?_ ?_); (focus (exact rfl)); (focus (exact ⟨_, rfl, rfl⟩)); (focus (exact rfl)); (focus kernel_rfl)) | (go_at_call 25; (with_reducible refine (hRg.out _ HR2.out HL2.out).mono ?_); rintro e w3 ⟨p', rfl, hR3, hg3⟩; have HR3 := Lib.hid hR3; clear hR3))
  have E7 := (Bx.new w3 (refL (mkR T th n) p').toArray 31 rfl).of (us := refL (mkR T th n) p') (by simp)
  have hgA : Gr w2 (w3.alloc (.cells (refL (mkR T th n) p').toArray 31)) := hg3.alloc _
  (show Code.wp _ _ _ _ (w3.alloc (.cells (refL (mkR T th n) p').toArray 31)))
  have h7 : w2.heap.size ≤ w3.heap.size := hg3.le
  have hc2 := C2.lt (by simp)
  have HE2 := Lib.hid (C2.keep hgA)
  have HR4 := Lib.hid (HR3.out.keep ((Gr.refl w3).alloc (.cells (refL (mkR T th n) p').toArray 31)))
  have HgA := Lib.hid hgA
  clear C0 C1 C2 hg3 hgA
  generalize w3.alloc (.cells (refL (mkR T th n) p').toArray 31) = w4 at *
  generalize w3.heap.size = b7 at *
  have HCd := Lib.hid fun w5 (hq : Gr W w5) => code_ev ce w5 (hq.keep HB.out.hd)
  have hcc : (ce == ce) = true := by simp
  have hd4 : Gr w4 w4.drew := (Gr.refl w4).drew
  have hR4 := hd4.range E7.rng
  refine wp_region_held_drew (S := fun w' => w'.rangeAt b7 0 (refL (mkR T th n) p')) (by kernel_rfl) hR4 (fun hHeld => ?_)
  refine' wpAnyH_take (i := 0) (oi := { dst := some 160, op := _, type := _, pos := _, after := _, guard := _ }) (v := _) rfl (by kernel_rfl) (by kernel_rfl) (by kernel_rfl) (fun _ _ _ h => h) (yieldsIf_load_mid (by rfl) _ _ rfl _ _ rfl _ _ (fun w h => h) Tryd.underlying31 rfl (by kernel_rfl)) hHeld ?_
  (try simp only [Act.put, List.setIfInBounds_toArray, List.set_cons_zero, List.set_cons_succ])
  refine' wpAnyH_take (i := 1) (oi := { dst := some 161, op := _, type := _, pos := _, after := _, guard := _ }) (v := ev ce) rfl (by kernel_rfl) (by kernel_rfl) (by kernel_rfl) (fun _ _ _ h => h) (Or.inl ⟨by rfl, ?_⟩) hHeld ?_
  · (intro w hSw; go_simp)
  (try simp only [Act.put, List.setIfInBounds_toArray, List.set_cons_zero, List.set_cons_succ])
  refine' wpAnyH_take (i := 3) (oi := { dst := some 163, op := _, type := _, pos := _, after := _, guard := _ }) (v := .int .i64 ce) rfl (by kernel_rfl) (by kernel_rfl) (by kernel_rfl) (fun _ _ _ h => h) (Or.inl ⟨by rfl, ?_⟩) hHeld ?_
  · (intro w hSw; go_simp)
  (try simp only [Act.put, List.setIfInBounds_toArray, List.set_cons_zero, List.set_cons_succ])
  refine wpAnyH_ready (rs := [2]) (by kernel_rfl) (by simp) ?_
  refine AllReadyH.cons (o := { dst := some 162, op := _, type := _, pos := _, after := _, guard := _ }) rfl (fun K hK => ?_) AllReadyH.nil
  refine step_wanted (by rfl) ?_
  go_simp
  go_at_call 21
  with_reducible refine (HCd.out _ ((HgW.out.trans HgA.out).trans hd4)).mono ?_
  rintro e w5 ⟨rfl, hg5⟩
  have hg45 := hd4.trans hg5
  refine hK.out _ _ (hg45.range E7.rng) (fun hHeld => ?_)
  clear hK K
  (try simp only [Act.put, List.setIfInBounds_toArray, List.set_cons_zero, List.set_cons_succ])
  refine' wpAnyH_take (i := 4) (oi := { dst := some 164, op := _, type := _, pos := _, after := _, guard := _ }) (v := .bool true) rfl (by kernel_rfl) (by kernel_rfl) (by kernel_rfl) (fun _ _ _ h => h) (Or.inl ⟨by rfl, ?_⟩) hHeld ?_
  · (intro w hSw; go_simp)
  (try simp only [Act.put, List.setIfInBounds_toArray, List.set_cons_zero, List.set_cons_succ])
  have hM5 := (HE2.out.keep hg45).may
  refine wpAnyH_ready (rs := [5]) (by kernel_rfl) (by simp) ?_
  refine AllReadyH.cons (o := { dst := none, op := _, type := _, pos := _, after := _, guard := _ }) rfl (fun K hK => ?_) AllReadyH.nil
  refine step_wanted (by rfl) ?_
  refine wp_store_mid _ _ _ rfl _ _ (refL (mkR T th n) p').toArray rfl rfl hM5 (by kernel_rfl) (by simp [Value.oneCell']) ?_
  simp only [Act.put, List.setIfInBounds_toArray, List.set_cons_zero, List.set_cons_succ, List.toList_toArray]
  refine hK.out _ _ (World.rangeAt_setCells_apart hHeld _ _ _ (.inl (by omega))) (fun hHeld => ?_)
  clear hK K hM5
  have Z := (HE2.out.keep hg45).setAll (us := refL (mkR T th n) p') rfl
  have HM6 := Lib.hid (show Mod [bx + 1 + 1] w5 (w5.setCells (bx + 1 + 1) 0 (refL (mkR T th n) p')) from Mod.setCells (by simp) _ _ _)
  generalize w5.setCells (bx + 1 + 1) 0 (refL (mkR T th n) p') = w6 at hHeld Z HM6 ⊢
  refine' wpAnyH_take (i := 6) (oi := { dst := some 7, op := _, type := _, pos := _, after := _, guard := _ }) (v := .bool true) rfl (by kernel_rfl) (by kernel_rfl) (by kernel_rfl) (fun _ _ _ h => h) (Or.inl ⟨by rfl, ?_⟩) hHeld ?_
  · (intro w hSw; go_simp)
  (try simp only [Act.put, List.setIfInBounds_toArray, List.set_cons_zero, List.set_cons_succ])
  refine wpAnyH_done (by kernel_rfl) ?_ _
  go_wp2_with fail
  have hfin := fin_both hg0 Hbx.out HM2.out HMx.out HT2.out (HgA.out.trans hg45) HM6.out tlt clt mlt HB.out.tab (HR4.out.keep hg45)
  refine bodyPost_ret (Bx.ret2 Z rfl _ rfl rfl Tryd.underlying31 rfl (by kernel_rfl)) rfl ?_
  exact ⟨p', rfl, hfin⟩
set_option maxRecDepth 100000 in
set_option maxHeartbeats 8000000 in
theorem does_3 (hB : Both S W w t cm mk T p) (n th : Int) (rt : Bool) (l : List Wt) (o1 : Option Addr) (m1 c1 : Nat) (hw : WritesAt W o1 m1 c1 l) (hf : FewWs l) (hn : (Lit.int .i64 n).wf = true) :
    Calls Tryd.prog 10 #[.pointer (some ⟨t, 0, none⟩), .agg (refL T p).toArray, .agg (doL ⟨3, n, th, rt, l⟩ o1 m1 c1).toArray] w (DoesT S W w t cm mk (T)) := by
  obtain ⟨V, hV, B0, B1, B2, hg0, hsz⟩ := boxes3 w 31 36 31 (refL T p) (doL ⟨3, n, th, rt, l⟩ o1 m1 c1) zRT
  have HB := Lib.hid hB
  have tlt := hB.tab.lt
  have clt := hB.tab.lt2
  have mlt := hB.tab.lt3
  have hnb : ∀ b ∈ (w.heap.size + 1 + 1) :: S, b ∈ S ∨ w.heap.size ≤ b := fun b hb => by
    rcases List.mem_cons.1 hb with rfl | q
    · exact .inr (by omega)
    · exact .inl q
  have HTV := Lib.hid (hB.tab.keepN hg0 (List.mem_cons_of_mem _ hB.tab.in1) (List.mem_cons_of_mem _ hB.tab.in2) (List.mem_cons_of_mem _ hB.tab.in3) hnb)
  have HRV := Lib.hid (hB.ref.ex (hideL_new hg0 hnb))
  have HLT := Lib.hid (show ∀ b ∈ (w.heap.size + 1 + 1) :: S, b < V.heap.size from fun b hb => by
    rcases List.mem_cons.1 hb with rfl | q
    · omega
    · have := hB.lt b q; omega)
  have hsz2 : w.heap.size + 1 + 1 < V.heap.size := by omega
  have hO := hB.ok
  have HO := Lib.hid hO
  have Hw := Lib.hid hw
  have Hf := Lib.hid hf
  have hGb := Lib.hid (marked_v HTV.out hO th)
  have hRg := Lib.hid (refMarked_r HRV.out hO th)
  clear hB hnb hO hw hf
  unfold DoesT
  go_enter Tryd.func10, Tryd.ntmps10
  go_upto_region 1 with fail
  rw [← hV]
  clear hV hsz
  generalize hbx : w.heap.size = bx at *
  have Hbx := Lib.hid hbx
  clear hbx
  have d0 := B1.cell 0 rfl
  have d2 := B1.cell 2 rfl
  generalize mdN T th = me at *
  generalize mkE T th = ce at *
  go_upto_region 32 with (first | ((with_reducible refine wpList_load_box (ty := 31) (B0) ?_ ?_ Tryd.underlying31 ?_ ?_ ?_); (focus (exact rfl)); (focus (exact ⟨_, rfl, rfl⟩)); (focus (exact rfl)); (focus kernel_rfl)) | (go_at_call 26; (with_reducible refine hGb.out.mono ?_); rintro e w2 ⟨rfl, rfl⟩) | (go_at_call 27; (with_reducible refine hRg.out.mono ?_); rintro e w4 ⟨rfl, hg4⟩))
  have HM2 := Lib.hid (Mod.refl [] V)
  have HMx := Lib.hid (show ∀ b ∈ ([] : List Nat), b = t ∨ b = cm ∨ b = mk from by simp)
  have HT2 := HTV
  have HgA := Lib.hid hg4
  have HgW := Lib.hid (HB.out.gr.trans hg0)
  have HE2 := Lib.hid (B2.keep hg4)
  have HR4 := Lib.hid (HRV.out.keep hg4)
  have E7 := B0.keep hg4
  have HCd := Lib.hid fun w5 (hq : Gr W w5) => code_ev ce w5 (hq.keep HB.out.hd)
  clear B0 B1 B2 d0 d2 hg4
  have hok : (me == me) = true := by simp
  have hcc : (ce == ce) = true := by simp
  have hd4 : Gr w4 w4.drew := (Gr.refl w4).drew
  have hR4 := hd4.range E7.rng
  refine wp_region_held_drew (S := fun w' => w'.rangeAt bx 0 (refL T p)) (by kernel_rfl) hR4 (fun hHeld => ?_)
  refine' wpAnyH_take (i := 0) (oi := { dst := some 181, op := _, type := _, pos := _, after := _, guard := _ }) (v := _) rfl (by kernel_rfl) (by kernel_rfl) (by kernel_rfl) (fun _ _ _ h => h) (yieldsIf_load_mid (by rfl) _ _ rfl _ _ rfl _ _ (fun w h => h) Tryd.underlying31 rfl (by kernel_rfl)) hHeld ?_
  (try simp only [Act.put, List.setIfInBounds_toArray, List.set_cons_zero, List.set_cons_succ])
  refine' wpAnyH_take (i := 1) (oi := { dst := some 182, op := _, type := _, pos := _, after := _, guard := _ }) (v := .int .i64 me) rfl (by kernel_rfl) (by kernel_rfl) (by kernel_rfl) (fun _ _ _ h => h) (Or.inl ⟨by rfl, ?_⟩) hHeld ?_
  · (intro w hSw; go_simp)
  (try simp only [Act.put, List.setIfInBounds_toArray, List.set_cons_zero, List.set_cons_succ])
  refine' wpAnyH_take (i := 2) (oi := { dst := some 183, op := _, type := _, pos := _, after := _, guard := _ }) (v := .int .i64 me) rfl (by kernel_rfl) (by kernel_rfl) (by kernel_rfl) (fun _ _ _ h => h) (Or.inl ⟨by rfl, ?_⟩) hHeld ?_
  · (intro w hSw; go_simp)
  (try simp only [Act.put, List.setIfInBounds_toArray, List.set_cons_zero, List.set_cons_succ])
  refine' wpAnyH_take (i := 3) (oi := { dst := some 184, op := _, type := _, pos := _, after := _, guard := _ }) (v := .bool true) rfl (by kernel_rfl) (by kernel_rfl) (by kernel_rfl) (fun _ _ _ h => h) (Or.inl ⟨by rfl, ?_⟩) hHeld ?_
  · (intro w hSw; go_simp)
  (try simp only [Act.put, List.setIfInBounds_toArray, List.set_cons_zero, List.set_cons_succ])
  refine' wpAnyH_take (i := 4) (oi := { dst := some 185, op := _, type := _, pos := _, after := _, guard := _ }) (v := .bool true) rfl (by kernel_rfl) (by kernel_rfl) (by kernel_rfl) (fun _ _ _ h => h) (Or.inl ⟨by rfl, ?_⟩) hHeld ?_
  · (intro w hSw; go_simp)
  (try simp only [Act.put, List.setIfInBounds_toArray, List.set_cons_zero, List.set_cons_succ])
  refine' wpAnyH_take (i := 5) (oi := { dst := some 186, op := _, type := _, pos := _, after := _, guard := _ }) (v := ev ce) rfl (by kernel_rfl) (by kernel_rfl) (by kernel_rfl) (fun _ _ _ h => h) (Or.inl ⟨by rfl, ?_⟩) hHeld ?_
  · (intro w hSw; go_simp)
  (try simp only [Act.put, List.setIfInBounds_toArray, List.set_cons_zero, List.set_cons_succ])
  refine' wpAnyH_take (i := 7) (oi := { dst := some 188, op := _, type := _, pos := _, after := _, guard := _ }) (v := .int .i64 ce) rfl (by kernel_rfl) (by kernel_rfl) (by kernel_rfl) (fun _ _ _ h => h) (Or.inl ⟨by rfl, ?_⟩) hHeld ?_
  · (intro w hSw; go_simp)
  (try simp only [Act.put, List.setIfInBounds_toArray, List.set_cons_zero, List.set_cons_succ])
  refine wpAnyH_ready (rs := [6]) (by kernel_rfl) (by simp) ?_
  refine AllReadyH.cons (o := { dst := some 187, op := _, type := _, pos := _, after := _, guard := _ }) rfl (fun K hK => ?_) AllReadyH.nil
  refine step_wanted (by rfl) ?_
  go_simp
  go_at_call 21
  with_reducible refine (HCd.out _ ((HgW.out.trans HgA.out).trans hd4)).mono ?_
  rintro e w5 ⟨rfl, hg5⟩
  have hg45 := hd4.trans hg5
  refine hK.out _ _ (hg45.range E7.rng) (fun hHeld => ?_)
  clear hK K
  (try simp only [Act.put, List.setIfInBounds_toArray, List.set_cons_zero, List.set_cons_succ])
  refine' wpAnyH_take (i := 8) (oi := { dst := some 189, op := _, type := _, pos := _, after := _, guard := _ }) (v := .bool true) rfl (by kernel_rfl) (by kernel_rfl) (by kernel_rfl) (fun _ _ _ h => h) (Or.inl ⟨by rfl, ?_⟩) hHeld ?_
  · (intro w hSw; go_simp)
  (try simp only [Act.put, List.setIfInBounds_toArray, List.set_cons_zero, List.set_cons_succ])
  refine' wpAnyH_take (i := 9) (oi := { dst := some 190, op := _, type := _, pos := _, after := _, guard := _ }) (v := .bool true) rfl (by kernel_rfl) (by kernel_rfl) (by kernel_rfl) (fun _ _ _ h => h) (Or.inl ⟨by rfl, ?_⟩) hHeld ?_
  · (intro w hSw; go_simp)
  (try simp only [Act.put, List.setIfInBounds_toArray, List.set_cons_zero, List.set_cons_succ])
  have hM5 := (HE2.out.keep hg45).may
  refine wpAnyH_ready (rs := [10]) (by kernel_rfl) (by simp) ?_
  refine AllReadyH.cons (o := { dst := none, op := _, type := _, pos := _, after := _, guard := _ }) rfl (fun K hK => ?_) AllReadyH.nil
  refine step_wanted (by rfl) ?_
  refine wp_store_mid _ _ _ rfl _ _ (refL T p).toArray rfl rfl hM5 (by kernel_rfl) (by simp [Value.oneCell']) ?_
  simp only [Act.put, List.setIfInBounds_toArray, List.set_cons_zero, List.set_cons_succ, List.toList_toArray]
  refine hK.out _ _ (World.rangeAt_setCells_apart hHeld _ _ _ (.inl (by omega))) (fun hHeld => ?_)
  clear hK K hM5
  have Z := (HE2.out.keep hg45).setAll (us := refL T p) rfl
  have HM6 := Lib.hid (show Mod [bx + 1 + 1] w5 (w5.setCells (bx + 1 + 1) 0 (refL T p)) from Mod.setCells (by simp) _ _ _)
  generalize w5.setCells (bx + 1 + 1) 0 (refL T p) = w6 at hHeld Z HM6 ⊢
  refine' wpAnyH_take (i := 11) (oi := { dst := some 7, op := _, type := _, pos := _, after := _, guard := _ }) (v := .bool true) rfl (by kernel_rfl) (by kernel_rfl) (by kernel_rfl) (fun _ _ _ h => h) (Or.inl ⟨by rfl, ?_⟩) hHeld ?_
  · (intro w hSw; go_simp)
  (try simp only [Act.put, List.setIfInBounds_toArray, List.set_cons_zero, List.set_cons_succ])
  refine wpAnyH_done (by kernel_rfl) ?_ _
  go_wp2_with fail
  have hfin := fin_both hg0 Hbx.out HM2.out HMx.out HT2.out (HgA.out.trans hg45) HM6.out tlt clt mlt HB.out.tab (HR4.out.keep hg45)
  refine bodyPost_ret (Bx.ret2 Z rfl _ rfl rfl Tryd.underlying31 rfl (by kernel_rfl)) rfl ?_
  exact ⟨p, rfl, hfin⟩
set_option maxRecDepth 100000 in
set_option maxHeartbeats 8000000 in
theorem does_7 (hB : Both S W w t cm mk T p) (n th : Int) (rt : Bool) (l : List Wt) (o1 : Option Addr) (m1 c1 : Nat) (hw : WritesAt W o1 m1 c1 l) (hf : FewWs l) (hn : (Lit.int .i64 n).wf = true) :
    Calls Tryd.prog 10 #[.pointer (some ⟨t, 0, none⟩), .agg (refL T p).toArray, .agg (doL ⟨7, n, th, rt, l⟩ o1 m1 c1).toArray] w (DoesT S W w t cm mk (tmT T n)) := by
  obtain ⟨V, hV, B0, B1, B2, hg0, hsz⟩ := boxes3 w 31 36 31 (refL T p) (doL ⟨7, n, th, rt, l⟩ o1 m1 c1) zRT
  have HB := Lib.hid hB
  have tlt := hB.tab.lt
  have clt := hB.tab.lt2
  have mlt := hB.tab.lt3
  have hnb : ∀ b ∈ (w.heap.size + 1 + 1) :: S, b ∈ S ∨ w.heap.size ≤ b := fun b hb => by
    rcases List.mem_cons.1 hb with rfl | q
    · exact .inr (by omega)
    · exact .inl q
  have HTV := Lib.hid (hB.tab.keepN hg0 (List.mem_cons_of_mem _ hB.tab.in1) (List.mem_cons_of_mem _ hB.tab.in2) (List.mem_cons_of_mem _ hB.tab.in3) hnb)
  have HRV := Lib.hid (hB.ref.ex (hideL_new hg0 hnb))
  have HLT := Lib.hid (show ∀ b ∈ (w.heap.size + 1 + 1) :: S, b < V.heap.size from fun b hb => by
    rcases List.mem_cons.1 hb with rfl | q
    · omega
    · have := hB.lt b q; omega)
  have hsz2 : w.heap.size + 1 + 1 < V.heap.size := by omega
  have hO := hB.ok
  have HO := Lib.hid hO
  have Hw := Lib.hid hw
  have Hf := Lib.hid hf
  have hGb := Lib.hid (trim_v HTV.out hO n)
  have hRg := Lib.hid fun w2 (hr : RefV ((w.heap.size + 1 + 1) :: S) W w2 T p) (hl : ∀ b ∈ (w.heap.size + 1 + 1) :: S, b < w2.heap.size) => refTrim_r hr hO hl n
  clear hB hnb hO hw hf
  unfold DoesT
  go_enter Tryd.func10, Tryd.ntmps10
  go_upto_region 1 with fail
  rw [← hV]
  clear hV hsz
  generalize hbx : w.heap.size = bx at *
  have Hbx := Lib.hid hbx
  clear hbx
  have d0 := B1.cell 0 rfl
  have d1 := B1.cell 1 rfl
  go_upto_region 50 with (go_at_call 34; (with_reducible refine hGb.out.mono ?_); rintro e w2 ⟨rfl, hT2, hM2⟩; (have HT2 := Lib.hid hT2); (have HM2 := Lib.hid hM2); clear hT2 hM2)
  have C0 := HM2.out.box (by simp only [List.mem_cons, List.not_mem_nil, or_false, not_or]; omega) B0
  have C1 := HM2.out.box (by simp only [List.mem_cons, List.not_mem_nil, or_false, not_or]; omega) B1
  have C2 := HM2.out.box (by simp only [List.mem_cons, List.not_mem_nil, or_false, not_or]; omega) B2
  have HR2 := Lib.hid (HRV.out.mod HM2.out (fun b hb => by simp only [List.mem_cons, List.not_mem_nil, or_false] at hb; rcases hb with rfl <;> first | exact HTV.out.in1 | exact HTV.out.in2 | exact HTV.out.in3))
  have HL2 := Lib.hid (show ∀ b ∈ (bx + 1 + 1) :: S, b < w2.heap.size from fun b hb => Nat.lt_of_lt_of_le (HLT.out b hb) HM2.out.size)
  have HgW := Lib.hid (show Gr W w2 from HM2.out.gr (HB.out.gr.trans hg0) (fun b hb => by simp only [List.mem_cons, List.not_mem_nil, or_false] at hb; rcases hb with rfl <;> first | exact HB.out.bt | exact HB.out.bc | exact HB.out.bm))
  have HMx := Lib.hid (show ∀ b ∈ [cm], b = t ∨ b = cm ∨ b = mk from by simp)
  have e1 := C1.cell 1 rfl
  clear d0 d1 B0 B1 B2 hGb
  generalize (cntB T.drp : Int) - (cntB (tmD T n) : Int) = ce at *
  have hcc : (ce == ce) = true := by simp
  go_upto_region 51 with (first | ((with_reducible refine wpList_load_box (ty := 31) (C0) ?_ ?_ Tryd.underlying31 ?_ ?_ ?_); (focus (exact rfl)); (focus (exact ⟨_, rfl, rfl⟩)); (focus (exact rfl)); (focus kernel_rfl)) | (go_at_call 35; (with_reducible refine (hRg.out _ HR2.out HL2.out).mono ?_); rintro e w3 ⟨p', rfl, hR3, hg3⟩; have HR3 := Lib.hid hR3; clear hR3))
  have E7 := (Bx.new w3 (refL (tmT T n) p').toArray 31 rfl).of (us := refL (tmT T n) p') (by simp)
  have hgA : Gr w2 (w3.alloc (.cells (refL (tmT T n) p').toArray 31)) := hg3.alloc _
  (show Code.wp _ _ _ _ (w3.alloc (.cells (refL (tmT T n) p').toArray 31)))
  have h7 : w2.heap.size ≤ w3.heap.size := hg3.le
  have hc2 := C2.lt (by simp)
  have HE2 := Lib.hid (C2.keep hgA)
  have HR4 := Lib.hid (HR3.out.keep ((Gr.refl w3).alloc (.cells (refL (tmT T n) p').toArray 31)))
  have HgA := Lib.hid hgA
  clear C0 C1 C2 hg3 hgA
  generalize w3.alloc (.cells (refL (tmT T n) p').toArray 31) = w4 at *
  generalize w3.heap.size = b7 at *
  have HCd := Lib.hid fun w5 (hq : Gr W w5) => code_ev ce w5 (hq.keep HB.out.hd)
  have E2 := HE2.out
  go_wp2_with (first | ((with_reducible refine wpList_load_box (ty := 31) (E7) ?_ ?_ Tryd.underlying31 ?_ ?_ ?_); (focus (exact rfl)); (focus (exact ⟨_, rfl, rfl⟩)); (focus (exact rfl)); (focus kernel_rfl)) | ((with_reducible refine wpList_store_box (ty := 31) (E2) ((refL (tmT T n) p')) ?_ ?_ ?_ ?_ ?_ ?_); (focus (exact rfl)); (focus (exact ⟨_, _, rfl, rfl, rfl⟩)); (focus (exact rfl)); (focus kernel_rfl); (focus kernel_rfl)))
  have Z := E2.setAll (us := refL (tmT T n) p') rfl
  have HM6 := Lib.hid (show Mod [bx + 1 + 1] w4 (w4.setCells (bx + 1 + 1) 0 (refL (tmT T n) p')) from Mod.setCells (by simp) _ _ _)
  have hfin := fin_both hg0 Hbx.out HM2.out HMx.out HT2.out HgA.out HM6.out tlt clt mlt HB.out.tab HR4.out
  refine bodyPost_ret (Bx.ret2 Z rfl _ rfl rfl Tryd.underlying31 rfl (by kernel_rfl)) rfl ?_
  exact ⟨p', rfl, hfin⟩
set_option maxRecDepth 100000 in
set_option maxHeartbeats 8000000 in
theorem does_8 (hB : Both S W w t cm mk T p) (n th : Int) (rt : Bool) (l : List Wt) (o1 : Option Addr) (m1 c1 : Nat) (hw : WritesAt W o1 m1 c1 l) (hf : FewWs l) (hn : (Lit.int .i64 n).wf = true) (vb : Int) (hv : vb ≠ 0 ∧ vb ≠ 1 ∧ vb ≠ 2 ∧ vb ≠ 3 ∧ vb ≠ 4 ∧ vb ≠ 5 ∧ vb ≠ 6 ∧ vb ≠ 7) :
    Calls Tryd.prog 10 #[.pointer (some ⟨t, 0, none⟩), .agg (refL T p).toArray, .agg (doL ⟨vb, n, th, rt, l⟩ o1 m1 c1).toArray] w (DoesT S W w t cm mk (T)) := by
  obtain ⟨V, hV, B0, B1, B2, hg0, hsz⟩ := boxes3 w 31 36 31 (refL T p) (doL ⟨vb, n, th, rt, l⟩ o1 m1 c1) zRT
  have HB := Lib.hid hB
  have tlt := hB.tab.lt
  have clt := hB.tab.lt2
  have mlt := hB.tab.lt3
  have hnb : ∀ b ∈ (w.heap.size + 1 + 1) :: S, b ∈ S ∨ w.heap.size ≤ b := fun b hb => by
    rcases List.mem_cons.1 hb with rfl | q
    · exact .inr (by omega)
    · exact .inl q
  have HTV := Lib.hid (hB.tab.keepN hg0 (List.mem_cons_of_mem _ hB.tab.in1) (List.mem_cons_of_mem _ hB.tab.in2) (List.mem_cons_of_mem _ hB.tab.in3) hnb)
  have HRV := Lib.hid (hB.ref.ex (hideL_new hg0 hnb))
  have HLT := Lib.hid (show ∀ b ∈ (w.heap.size + 1 + 1) :: S, b < V.heap.size from fun b hb => by
    rcases List.mem_cons.1 hb with rfl | q
    · omega
    · have := hB.lt b q; omega)
  have hsz2 : w.heap.size + 1 + 1 < V.heap.size := by omega
  have hO := hB.ok
  have HO := Lib.hid hO
  have Hw := Lib.hid hw
  have Hf := Lib.hid hf
  clear hB hnb hO hw hf
  unfold DoesT
  go_enter Tryd.func10, Tryd.ntmps10
  go_upto_region 1 with fail
  rw [← hV]
  clear hV hsz
  generalize hbx : w.heap.size = bx at *
  have Hbx := Lib.hid hbx
  clear hbx
  have d0 := B1.cell 0 rfl
  have v0 : (vb == 0) = false := by rw [beq_eq_false_iff_ne]; omega
  have v1 : (vb == 1) = false := by rw [beq_eq_false_iff_ne]; omega
  have v2 : (vb == 2) = false := by rw [beq_eq_false_iff_ne]; omega
  have v3 : (vb == 3) = false := by rw [beq_eq_false_iff_ne]; omega
  have v4 : (vb == 4) = false := by rw [beq_eq_false_iff_ne]; omega
  have v5 : (vb == 5) = false := by rw [beq_eq_false_iff_ne]; omega
  have v6 : (vb == 6) = false := by rw [beq_eq_false_iff_ne]; omega
  have v7 : (vb == 7) = false := by rw [beq_eq_false_iff_ne]; omega
  clear hv
  go_wp2_with (first | ((with_reducible refine wpList_load_box (ty := 31) (B0) ?_ ?_ Tryd.underlying31 ?_ ?_ ?_); (focus (exact rfl)); (focus (exact ⟨_, rfl, rfl⟩)); (focus (exact rfl)); (focus kernel_rfl)) | ((with_reducible refine wpList_store_box (ty := 31) (B2) ((refL T p)) ?_ ?_ ?_ ?_ ?_ ?_); (focus (exact rfl)); (focus (exact ⟨_, _, rfl, rfl, rfl⟩)); (focus (exact rfl)); (focus kernel_rfl); (focus kernel_rfl)))
  have Z := B2.setAll (us := refL T p) rfl
  have HM6 := Lib.hid (show Mod [bx + 1 + 1] V (V.setCells (bx + 1 + 1) 0 (refL T p)) from Mod.setCells (by simp) _ _ _)
  have hfin := fin_both hg0 Hbx.out (Mod.refl [] V) (by simp) HTV.out (Gr.refl V) HM6.out tlt clt mlt HB.out.tab HRV.out
  refine bodyPost_ret (Bx.ret2 Z rfl _ rfl rfl Tryd.underlying31 rfl (by kernel_rfl)) rfl ?_
  exact ⟨p, rfl, hfin⟩
end
end Go.Proofs.YtfejdbcfcpmdiaaDoor
