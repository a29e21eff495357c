import Derived.Test.YtfejdbcfcpmdiaaDoorDcz
namespace Go.Proofs.YtfejdbcfcpmdiaaDoor
set_option linter.unusedVariables false
set_option linter.unusedSimpArgs false
open Go.BigFrame Go.RowKit Go.WideShapes

/-! A step in both tables (does): At and Append, whose writes are spoilt behind it (printed by a program). -/
def ownL : Option Addr → List Nat
  | some a => [a.block]
  | none => []
theorem OwnW.at_ {w : World} {base : Nat} {oa : Option Addr} {n cap : Nat} {l : List Wt} (h : OwnW w base oa n cap l) (hn : 0 < n) : ∃ g, oa = some ⟨g, 0, none⟩ ∧ base ≤ g ∧ g < w.heap.size ∧ (∀ j, j < n → w.cell? ⟨g, j * 3 + 1, none⟩ = some (.string (wAt l j).val)) ∧ ∀ o, w.frozen? ⟨g, o, none⟩ = false := by
  have hlt := h.own.lt
  have hr := h.rows
  rcases h.own.2 with ⟨e, e0⟩ | ⟨g, cp, cur, e, hb, hcur, -⟩
  · omega
  · simp only [Value.slice.injEq] at e
    obtain ⟨e1, -⟩ := e
    obtain ⟨b, off, h5, h6⟩ := hr.cells
    have h7 := (h5 hn).1
    rw [e1] at h7
    obtain ⟨rfl, rfl⟩ : b = g ∧ off = 0 := by
      have := Option.some.inj h7
      simp only [Addr.mk.injEq, and_true] at this
      exact ⟨this.1.symm, this.2.symm⟩
    refine ⟨b, e1, hb, (hlt b (by rw [e1]; rfl)).2, fun j hj => ?_, fun o => ?_⟩
    · have := (h6 j hj).2.1
      rwa [Nat.zero_add] at this
    · simp [World.frozen?, hcur]
theorem ownL_lt {w : World} {base : Nat} {oa : Option Addr} {n cap : Nat} {l : List Wt} (h : OwnW w base oa n cap l) : ∀ b ∈ ownL oa, base ≤ b ∧ b < w.heap.size := fun b hb => by
  cases oa with
  | none => cases hb
  | some a =>
    unfold ownL at hb
    rw [List.mem_singleton] at hb
    subst hb
    exact h.own.lt _ rfl
/-- writes of one's own, of which the first k are spoilt -/
structure Spoil (w2 : World) (oa : Option Addr) (n : Nat) (l : List Wt) (k : Nat) (wr : World) : Prop where
  cells : ∀ g j, oa = some ⟨g, 0, none⟩ → k ≤ j → j < n → wr.cell? ⟨g, j * 3 + 1, none⟩ = some (.string (wAt l j).val)
  free : ∀ g o, 0 < n → oa = some ⟨g, 0, none⟩ → wr.frozen? ⟨g, o, none⟩ = false
  mod : Mod (ownL oa) w2 wr
theorem Spoil.start {w w2 : World} {base : Nat} {oa : Option Addr} {n cap : Nat} {l : List Wt} (h : OwnW w base oa n cap l) {Sx : List Nat} (hM : Mod Sx w w2) (hx : ∀ b ∈ Sx, b < base) : Spoil w2 oa n l 0 w2 := by
  refine ⟨fun g j hg _ hj => ?_, fun g o hn hg => ?_, Mod.refl _ _⟩
  · obtain ⟨g', e, hb, hl, hc, -⟩ := h.at_ (by omega)
    rw [hg] at e
    simp only [Option.some.injEq, Addr.mk.injEq, and_true] at e
    subst e
    exact hM.cell (fun q => by have := hx g q; omega) (hc j hj)
  · obtain ⟨g', e, hb, hl, hc, hf⟩ := h.at_ hn
    rw [hg] at e
    simp only [Option.some.injEq, Addr.mk.injEq, and_true] at e
    subst e
    rw [World.frozen?_of_block (w := w) (hM.block g hl (fun q => by have := hx g q; omega))]
    exact hf o
theorem Spoil.next {w2 : World} {oa : Option Addr} {n : Nat} {l : List Wt} {k : Nat} {wr : World} (h : Spoil w2 oa n l k wr) {g : Nat} (hg : oa = some ⟨g, 0, none⟩) (u : Value) : Spoil w2 oa n l (k + 1) (wr.setCell ⟨g, k * 3 + 1, none⟩ u) := by
  subst hg
  refine ⟨fun g' j hg' hk hj => ?_, fun g' o hn hg' => ?_, h.mod.trans (Mod.setCell _ _ _ (by simp [ownL]))⟩
  · rw [World.cell?_setCell_other _ _ _ _ (fun e => by
      simp only [Addr.mk.injEq, and_true] at e
      omega)]
    exact h.cells g' j hg' (by omega) hj
  · exact (World.frozen?_setCell _ _ _ _).trans (h.free g' o hn hg')
section
variable {S : List Nat} {W w : World} {t cm mk : Nat} {T : Ct} {p : Rp}
set_option maxRecDepth 100000 in
set_option maxHeartbeats 8000000 in
theorem does_0t (hB : Both S W w t cm mk T p) (n th : Int) (l : List Wt) (o1 : Option Addr) (m1 c1 : Nat) (hw : WritesAt W o1 m1 c1 l) (hf : FewWs l) (hn : (Lit.int .i64 n).wf = true) :
    Calls Tryd.prog 10 #[.pointer (some ⟨t, 0, none⟩), .agg (refL T p).toArray, .agg (doL ⟨0, n, th, true, l⟩ o1 m1 c1).toArray] w (DoesT S W w t cm mk (apR T (T.all.length : Int) l)) := by
  obtain ⟨V, hV, B0, B1, B2, hg0, hsz⟩ := boxes3 w 31 36 31 (refL T p) (doL ⟨0, n, th, true, l⟩ o1 m1 c1) zRT
  have HB := Lib.hid hB
  have tlt := hB.tab.lt
  have clt := hB.tab.lt2
  have mlt := hB.tab.lt3
  have hnb : ∀ b ∈ (w.heap.size + 1 + 1) :: S, b ∈ S ∨ w.heap.size ≤ b := fun b hb => by
    rcases List.mem_cons.1 hb with rfl | q
    · exact .inr (by omega)
    · exact .inl q
  have HTV := Lib.hid (hB.tab.keepN hg0 (List.mem_cons_of_mem _ hB.tab.in1) (List.mem_cons_of_mem _ hB.tab.in2) (List.mem_cons_of_mem _ hB.tab.in3) hnb)
  have HRV := Lib.hid (hB.ref.ex (hideL_new hg0 hnb))
  have HLT := Lib.hid (show ∀ b ∈ (w.heap.size + 1 + 1) :: S, b < V.heap.size from fun b hb => by
    rcases List.mem_cons.1 hb with rfl | q
    · omega
    · have := hB.lt b q; omega)
  have hsz2 : w.heap.size + 1 + 1 < V.heap.size := by omega
  have hO := hB.ok
  have HO := Lib.hid hO
  have Hw := Lib.hid hw
  have Hf := Lib.hid hf
  have hgWV := hB.gr.trans hg0
  have hm40 : m1 ≤ 40 := by have := hw.len; have := hf.len; omega
  have hGv := Lib.hid (given_n (hw.keep hgWV) (by omega))
  have hRg := Lib.hid fun w2 (hr : RefV ((w.heap.size + 1 + 1) :: S) W w2 T p) (hl : ∀ b ∈ (w.heap.size + 1 + 1) :: S, b < w2.heap.size) (hq : Gr W w2) => refAppend_r hr hO hl hw hq (T.all.length : Int)
  have hl2 := hO.cap
  have hl3 := hO.lim
  clear hB hnb hO hw hf
  unfold DoesT
  go_enter Tryd.func10, Tryd.ntmps10
  go_upto_region 1 with fail
  rw [← hV]
  clear hV hsz
  generalize hbx : w.heap.size = bx at *
  have Hbx := Lib.hid hbx
  clear hbx
  have d0 := B1.cell 0 rfl
  have d1 := B1.cell 1 rfl
  have d3 := B1.cell 3 rfl
  have d4 := B1.cell 4 rfl
  have q2 := B0.cell 2 rfl
  have hb3 := B2.lt (by simp)
  go_upto_region 7 with (go_at_call 19; (with_reducible refine hGv.out.mono ?_); rintro e w3 ⟨oc, cc, rfl, ho, hg3⟩; (have Ho := Lib.hid ho); clear ho)
  have hbo := ownL_lt Ho.out
  have hnew : ∀ b ∈ ownL oc ++ ((bx + 1 + 1) :: S), b ∈ (bx + 1 + 1) :: S ∨ V.heap.size ≤ b := fun b hb => by
    rcases List.mem_append.1 hb with q | q
    · exact .inr (hbo b q).1
    · exact .inl q
  have HT3 := Lib.hid (HTV.out.keepN hg3 (List.mem_append_right _ HTV.out.in1) (List.mem_append_right _ HTV.out.in2) (List.mem_append_right _ HTV.out.in3) hnew)
  have HR3a := Lib.hid (HRV.out.ex (hideL_new hg3 hnew))
  have HL3 := Lib.hid (show ∀ b ∈ ownL oc ++ ((bx + 1 + 1) :: S), b < w3.heap.size from fun b hb => by
    rcases List.mem_append.1 hb with q | q
    · exact (hbo b q).2
    · exact Nat.lt_of_lt_of_le (HLT.out b q) hg3.le)
  have HAp := Lib.hid (append_v HT3.out HO.out HL3.out Ho.out.rows Hf.out (T.all.length : Int))
  have HG3 := Lib.hid hg3
  have Hbo := Lib.hid hbo
  have HB0 := Lib.hid (B0.keep hg3)
  have HB1 := Lib.hid (B1.keep hg3)
  have HB2 := Lib.hid (B2.keep hg3)
  have hcl := Ho.out.rows.cap_le
  have hcm := Ho.out.rows.cap_max
  unfold maxLen at hcm
  clear hnew hbo hg3 B0 B1 B2 d0 d1 d3 d4 q2 hgWV hGv HT3 HL3
  generalize apOk T (T.all.length : Int) (okL l) = ok at *
  generalize apE T (T.all.length : Int) (okL l) = ce at *
  go_upto_region 8 with (go_at_call 17; (with_reducible refine HAp.out.mono ?_); rintro e w4 ⟨rfl, hT4, hM4⟩; (have HT4 := Lib.hid hT4); (have HM4 := Lib.hid hM4); clear hT4 hM4)
  have HSp := Lib.hid (Spoil.start Ho.out HM4.out (fun b hb => by simp only [List.mem_cons, List.not_mem_nil, or_false] at hb; omega))
  clear HAp
  go_wp2_with fail
  go_loopw [71] (fun s71 wr => ∃ (k : Nat), k ≤ m1 ∧ s71 = .int .i64 k ∧ Hid (Spoil w4 oc m1 l k wr)) (fun s71 _ => m1 - (intOf s71).toNat)
  case atStart => exact ⟨0, Nat.zero_le _, rfl, HSp⟩
  case round =>
    obtain ⟨k, hk, rfl, hSp⟩ := hrel
    by_cases hlt : k < m1
    · obtain ⟨g, hoc, -, -, -, -⟩ := Ho.out.at_ (by omega)
      have x1 := hSp.out.cells g k hoc (Nat.le_refl _) hlt
      have f1 := hSp.out.free g (k * 3 + 1) (by omega) hoc
      have hIx := fun w => run_wr cc (fun _ => hoc) hlt w
      rw [Nat.zero_add] at hIx
      have hsz := (Hf.out.sz (wAt l k) (by rw [wAt_lt (by rw [Hw.out.len]; exact hlt)]; exact List.getElem_mem _)).2
      have HNx := Lib.hid (hSp.out.next hoc (.string ((wAt l k).val ++ ⟨#[120]⟩)))
      clear hoc
      go_wp2_with fail
      go_roundw
      case rel => exact ⟨k + 1, by omega, by go_num, HNx⟩
      case measure => simp [intOf]; omega
    · obtain rfl : k = m1 := by omega
      obtain ⟨w2, hw2⟩ : ∃ x, x = wr := ⟨_, rfl⟩
      subst hw2
      have hMo := hSp.out.mod
      have HM2 := Lib.hid (show Mod [t, cm] V w2 from (((HG3.out.mod [t, cm]).trans HM4.out)).then hMo fun b hb => .inr (Hbo.out b hb).1)
      have HMx := Lib.hid (show ∀ b ∈ [t, cm], b = t ∨ b = cm ∨ b = mk from fun b hb => by simp only [List.mem_cons, List.not_mem_nil, or_false] at hb; rcases hb with rfl | rfl <;> simp)
      have hno : ∀ b, b < V.heap.size → b ∉ ownL oc := fun b hb q => by have := (Hbo.out b q).1; omega
      have HT2 := Lib.hid (show TabV ((bx + 1 + 1) :: S) w2 t cm mk (apR T (T.all.length : Int) l) from (HT4.out.mod hMo (fun b hb => List.mem_append_left _ hb) (hno _ (by omega)) (hno _ (by omega)) (hno _ (by omega))).sub HTV.out.in1 HTV.out.in2 HTV.out.in3 (fun b hb => List.mem_append_right _ hb))
      have HR2 := Lib.hid (((HR3a.out.mod HM4.out (fun b hb => by simp only [List.mem_cons, List.not_mem_nil, or_false] at hb; rcases hb with rfl | rfl; exact List.mem_append_right _ HTV.out.in1; exact List.mem_append_right _ HTV.out.in2)).mod hMo (fun b hb => List.mem_append_left _ hb)).ex (hideL_sub _ fun b hb => List.mem_append_right _ hb))
      have HL2 := Lib.hid (show ∀ b ∈ (bx + 1 + 1) :: S, b < w2.heap.size from fun b hb => Nat.lt_of_lt_of_le (HLT.out b hb) HM2.out.size)
      have HgW := Lib.hid (show Gr W w2 from HM2.out.gr (HB.out.gr.trans hg0) (fun b hb => by simp only [List.mem_cons, List.not_mem_nil, or_false] at hb; rcases hb with rfl | rfl; exact HB.out.bt; exact HB.out.bc))
      have C0 := (HM4.out.box (by simp only [List.mem_cons, List.not_mem_nil, or_false, not_or]; omega) HB0.out)
      have C1 := (HM4.out.box (by simp only [List.mem_cons, List.not_mem_nil, or_false, not_or]; omega) HB1.out)
      have C2 := (HM4.out.box (by simp only [List.mem_cons, List.not_mem_nil, or_false, not_or]; omega) HB2.out)
      have C0 := hMo.box (hno _ (by omega)) C0
      have C1 := hMo.box (hno _ (by omega)) C1
      have C2 := hMo.box (hno _ (by omega)) C2
      have e4 := C1.cell 4 rfl
      clear hMo hno hSp HSp HT4 HM4 HR3a HB0 HB1 HB2
      go_upto_region 14 with (first | ((with_reducible refine wpList_load_box (ty := 31) (C0) ?_ ?_ Tryd.underlying31 ?_ ?_ ?_); (focus (exact rfl)); (focus (exact ⟨_, rfl, rfl⟩)); (focus (exact rfl)); (focus kernel_rfl)) | (go_at_call 20; (with_reducible refine (hRg.out _ HR2.out HL2.out HgW.out).mono ?_); rintro e w3 ⟨p', rfl, hR3, hg3⟩; have HR3 := Lib.hid hR3; clear hR3))
      have E7 := (Bx.new w3 (refL (apR T (T.all.length : Int) l) p').toArray 31 rfl).of (us := refL (apR T (T.all.length : Int) l) p') (by simp)
      have hgA : Gr w2 (w3.alloc (.cells (refL (apR T (T.all.length : Int) l) p').toArray 31)) := hg3.alloc _
      (show Code.wp _ _ _ _ (w3.alloc (.cells (refL (apR T (T.all.length : Int) l) p').toArray 31)))
      have h7 : w2.heap.size ≤ w3.heap.size := hg3.le
      have hc2 := C2.lt (by simp)
      have HE2 := Lib.hid (C2.keep hgA)
      have HR4 := Lib.hid (HR3.out.keep ((Gr.refl w3).alloc (.cells (refL (apR T (T.all.length : Int) l) p').toArray 31)))
      have HgA := Lib.hid hgA
      clear C0 C1 C2 hg3 hgA
      generalize w3.alloc (.cells (refL (apR T (T.all.length : Int) l) p').toArray 31) = w4 at *
      generalize w3.heap.size = b7 at *
      have HCd := Lib.hid fun w5 (hq : Gr W w5) => code_ev ce w5 (hq.keep HB.out.hd)
      have hok : (ok == ok) = true := by simp
      have hcc : (ce == ce) = true := by simp
      have hd4 : Gr w4 w4.drew := (Gr.refl w4).drew
      have hR4 := hd4.range E7.rng
      refine wp_region_held_drew (S := fun w' => w'.rangeAt b7 0 (refL (apR T (T.all.length : Int) l) p')) (by kernel_rfl) hR4 (fun hHeld => ?_)
      refine' wpAnyH_take (i := 0) (oi := { dst := some 92, op := _, type := _, pos := _, after := _, guard := _ }) (v := _) rfl (by kernel_rfl) (by kernel_rfl) (by kernel_rfl) (fun _ _ _ h => h) (yieldsIf_load_mid (by rfl) _ _ rfl _ _ rfl _ _ (fun w h => h) Tryd.underlying31 rfl (by kernel_rfl)) hHeld ?_
      (try simp only [Act.put, List.setIfInBounds_toArray, List.set_cons_zero, List.set_cons_succ])
      refine' wpAnyH_take (i := 1) (oi := { dst := some 93, op := _, type := _, pos := _, after := _, guard := _ }) (v := .bool ok) rfl (by kernel_rfl) (by kernel_rfl) (by kernel_rfl) (fun _ _ _ h => h) (Or.inl ⟨by rfl, ?_⟩) hHeld ?_
      · (intro w hSw; go_simp)
      (try simp only [Act.put, List.setIfInBounds_toArray, List.set_cons_zero, List.set_cons_succ])
      refine' wpAnyH_take (i := 2) (oi := { dst := some 94, op := _, type := _, pos := _, after := _, guard := _ }) (v := .bool ok) rfl (by kernel_rfl) (by kernel_rfl) (by kernel_rfl) (fun _ _ _ h => h) (Or.inl ⟨by rfl, ?_⟩) hHeld ?_
      · (intro w hSw; go_simp)
      (try simp only [Act.put, List.setIfInBounds_toArray, List.set_cons_zero, List.set_cons_succ])
      refine' wpAnyH_take (i := 3) (oi := { dst := some 95, op := _, type := _, pos := _, after := _, guard := _ }) (v := .bool true) rfl (by kernel_rfl) (by kernel_rfl) (by kernel_rfl) (fun _ _ _ h => h) (Or.inl ⟨by rfl, ?_⟩) hHeld ?_
      · (intro w hSw; go_simp)
      (try simp only [Act.put, List.setIfInBounds_toArray, List.set_cons_zero, List.set_cons_succ])
      refine' wpAnyH_take (i := 4) (oi := { dst := some 96, op := _, type := _, pos := _, after := _, guard := _ }) (v := .bool true) rfl (by kernel_rfl) (by kernel_rfl) (by kernel_rfl) (fun _ _ _ h => h) (Or.inl ⟨by rfl, ?_⟩) hHeld ?_
      · (intro w hSw; go_simp)
      (try simp only [Act.put, List.setIfInBounds_toArray, List.set_cons_zero, List.set_cons_succ])
      refine' wpAnyH_take (i := 5) (oi := { dst := some 97, op := _, type := _, pos := _, after := _, guard := _ }) (v := ev ce) rfl (by kernel_rfl) (by kernel_rfl) (by kernel_rfl) (fun _ _ _ h => h) (Or.inl ⟨by rfl, ?_⟩) hHeld ?_
      · (intro w hSw; go_simp)
      (try simp only [Act.put, List.setIfInBounds_toArray, List.set_cons_zero, List.set_cons_succ])
      refine' wpAnyH_take (i := 7) (oi := { dst := some 99, op := _, type := _, pos := _, after := _, guard := _ }) (v := .int .i64 ce) rfl (by kernel_rfl) (by kernel_rfl) (by kernel_rfl) (fun _ _ _ h => h) (Or.inl ⟨by rfl, ?_⟩) hHeld ?_
      · (intro w hSw; go_simp)
      (try simp only [Act.put, List.setIfInBounds_toArray, List.set_cons_zero, List.set_cons_succ])
      refine wpAnyH_ready (rs := [6]) (by kernel_rfl) (by simp) ?_
      refine AllReadyH.cons (o := { dst := some 98, op := _, type := _, pos := _, after := _, guard := _ }) rfl (fun K hK => ?_) AllReadyH.nil
      refine step_wanted (by rfl) ?_
      go_simp
      go_at_call 21
      with_reducible refine (HCd.out _ ((HgW.out.trans HgA.out).trans hd4)).mono ?_
      rintro e w5 ⟨rfl, hg5⟩
      have hg45 := hd4.trans hg5
      refine hK.out _ _ (hg45.range E7.rng) (fun hHeld => ?_)
      clear hK K
      (try simp only [Act.put, List.setIfInBounds_toArray, List.set_cons_zero, List.set_cons_succ])
      refine' wpAnyH_take (i := 8) (oi := { dst := some 100, op := _, type := _, pos := _, after := _, guard := _ }) (v := .bool true) rfl (by kernel_rfl) (by kernel_rfl) (by kernel_rfl) (fun _ _ _ h => h) (Or.inl ⟨by rfl, ?_⟩) hHeld ?_
      · (intro w hSw; go_simp)
      (try simp only [Act.put, List.setIfInBounds_toArray, List.set_cons_zero, List.set_cons_succ])
      refine' wpAnyH_take (i := 9) (oi := { dst := some 101, op := _, type := _, pos := _, after := _, guard := _ }) (v := .bool true) rfl (by kernel_rfl) (by kernel_rfl) (by kernel_rfl) (fun _ _ _ h => h) (Or.inl ⟨by rfl, ?_⟩) hHeld ?_
      · (intro w hSw; go_simp)
      (try simp only [Act.put, List.setIfInBounds_toArray, List.set_cons_zero, List.set_cons_succ])
      have hM5 := (HE2.out.keep hg45).may
      refine wpAnyH_ready (rs := [10]) (by kernel_rfl) (by simp) ?_
      refine AllReadyH.cons (o := { dst := none, op := _, type := _, pos := _, after := _, guard := _ }) rfl (fun K hK => ?_) AllReadyH.nil
      refine step_wanted (by rfl) ?_
      refine wp_store_mid _ _ _ rfl _ _ (refL (apR T (T.all.length : Int) l) p').toArray rfl rfl hM5 (by kernel_rfl) (by simp [Value.oneCell']) ?_
      simp only [Act.put, List.setIfInBounds_toArray, List.set_cons_zero, List.set_cons_succ, List.toList_toArray]
      refine hK.out _ _ (World.rangeAt_setCells_apart hHeld _ _ _ (.inl (by omega))) (fun hHeld => ?_)
      clear hK K hM5
      have Z := (HE2.out.keep hg45).setAll (us := refL (apR T (T.all.length : Int) l) p') rfl
      have HM6 := Lib.hid (show Mod [bx + 1 + 1] w5 (w5.setCells (bx + 1 + 1) 0 (refL (apR T (T.all.length : Int) l) p')) from Mod.setCells (by simp) _ _ _)
      generalize w5.setCells (bx + 1 + 1) 0 (refL (apR T (T.all.length : Int) l) p') = w6 at hHeld Z HM6 ⊢
      refine' wpAnyH_take (i := 11) (oi := { dst := some 7, op := _, type := _, pos := _, after := _, guard := _ }) (v := .bool true) rfl (by kernel_rfl) (by kernel_rfl) (by kernel_rfl) (fun _ _ _ h => h) (Or.inl ⟨by rfl, ?_⟩) hHeld ?_
      · (intro w hSw; go_simp)
      (try simp only [Act.put, List.setIfInBounds_toArray, List.set_cons_zero, List.set_cons_succ])
      refine wpAnyH_done (by kernel_rfl) ?_ _
      go_wp2_with fail
      have hfin := fin_both hg0 Hbx.out HM2.out HMx.out HT2.out (HgA.out.trans hg45) HM6.out tlt clt mlt HB.out.tab (HR4.out.keep hg45)
      refine bodyPost_ret (Bx.ret2 Z rfl _ rfl rfl Tryd.underlying31 rfl (by kernel_rfl)) rfl ?_
      exact ⟨p', rfl, hfin⟩
set_option maxRecDepth 100000 in
set_option maxHeartbeats 8000000 in
theorem does_0f (hB : Both S W w t cm mk T p) (n th : Int) (l : List Wt) (o1 : Option Addr) (m1 c1 : Nat) (hw : WritesAt W o1 m1 c1 l) (hf : FewWs l) (hn : (Lit.int .i64 n).wf = true) :
    Calls Tryd.prog 10 #[.pointer (some ⟨t, 0, none⟩), .agg (refL T p).toArray, .agg (doL ⟨0, n, th, false, l⟩ o1 m1 c1).toArray] w (DoesT S W w t cm mk (apR T n l)) := by
  obtain ⟨V, hV, B0, B1, B2, hg0, hsz⟩ := boxes3 w 31 36 31 (refL T p) (doL ⟨0, n, th, false, l⟩ o1 m1 c1) zRT
  have HB := Lib.hid hB
  have tlt := hB.tab.lt
  have clt := hB.tab.lt2
  have mlt := hB.tab.lt3
  have hnb : ∀ b ∈ (w.heap.size + 1 + 1) :: S, b ∈ S ∨ w.heap.size ≤ b := fun b hb => by
    rcases List.mem_cons.1 hb with rfl | q
    · exact .inr (by omega)
    · exact .inl q
  have HTV := Lib.hid (hB.tab.keepN hg0 (List.mem_cons_of_mem _ hB.tab.in1) (List.mem_cons_of_mem _ hB.tab.in2) (List.mem_cons_of_mem _ hB.tab.in3) hnb)
  have HRV := Lib.hid (hB.ref.ex (hideL_new hg0 hnb))
  have HLT := Lib.hid (show ∀ b ∈ (w.heap.size + 1 + 1) :: S, b < V.heap.size from fun b hb => by
    rcases List.mem_cons.1 hb with rfl | q
    · omega
    · have := hB.lt b q; omega)
  have hsz2 : w.heap.size + 1 + 1 < V.heap.size := by omega
  have hO := hB.ok
  have HO := Lib.hid hO
  have Hw := Lib.hid hw
  have Hf := Lib.hid hf
  have hgWV := hB.gr.trans hg0
  have hm40 : m1 ≤ 40 := by have := hw.len; have := hf.len; omega
  have hGv := Lib.hid (given_n (hw.keep hgWV) (by omega))
  have hRg := Lib.hid fun w2 (hr : RefV ((w.heap.size + 1 + 1) :: S) W w2 T p) (hl : ∀ b ∈ (w.heap.size + 1 + 1) :: S, b < w2.heap.size) (hq : Gr W w2) => refAppend_r hr hO hl hw hq n
  have hl2 := hO.cap
  have hl3 := hO.lim
  clear hB hnb hO hw hf
  unfold DoesT
  go_enter Tryd.func10, Tryd.ntmps10
  go_upto_region 1 with fail
  rw [← hV]
  clear hV hsz
  generalize hbx : w.heap.size = bx at *
  have Hbx := Lib.hid hbx
  clear hbx
  have d0 := B1.cell 0 rfl
  have d1 := B1.cell 1 rfl
  have d3 := B1.cell 3 rfl
  have d4 := B1.cell 4 rfl
  have q2 := B0.cell 2 rfl
  have hb3 := B2.lt (by simp)
  go_upto_region 7 with (go_at_call 19; (with_reducible refine hGv.out.mono ?_); rintro e w3 ⟨oc, cc, rfl, ho, hg3⟩; (have Ho := Lib.hid ho); clear ho)
  have hbo := ownL_lt Ho.out
  have hnew : ∀ b ∈ ownL oc ++ ((bx + 1 + 1) :: S), b ∈ (bx + 1 + 1) :: S ∨ V.heap.size ≤ b := fun b hb => by
    rcases List.mem_append.1 hb with q | q
    · exact .inr (hbo b q).1
    · exact .inl q
  have HT3 := Lib.hid (HTV.out.keepN hg3 (List.mem_append_right _ HTV.out.in1) (List.mem_append_right _ HTV.out.in2) (List.mem_append_right _ HTV.out.in3) hnew)
  have HR3a := Lib.hid (HRV.out.ex (hideL_new hg3 hnew))
  have HL3 := Lib.hid (show ∀ b ∈ ownL oc ++ ((bx + 1 + 1) :: S), b < w3.heap.size from fun b hb => by
    rcases List.mem_append.1 hb with q | q
    · exact (hbo b q).2
    · exact Nat.lt_of_lt_of_le (HLT.out b q) hg3.le)
  have HAp := Lib.hid (append_v HT3.out HO.out HL3.out Ho.out.rows Hf.out n)
  have HG3 := Lib.hid hg3
  have Hbo := Lib.hid hbo
  have HB0 := Lib.hid (B0.keep hg3)
  have HB1 := Lib.hid (B1.keep hg3)
  have HB2 := Lib.hid (B2.keep hg3)
  have hcl := Ho.out.rows.cap_le
  have hcm := Ho.out.rows.cap_max
  unfold maxLen at hcm
  clear hnew hbo hg3 B0 B1 B2 d0 d1 d3 d4 q2 hgWV hGv HT3 HL3
  generalize apOk T n (okL l) = ok at *
  generalize apE T n (okL l) = ce at *
  go_upto_region 8 with (go_at_call 17; (with_reducible refine HAp.out.mono ?_); rintro e w4 ⟨rfl, hT4, hM4⟩; (have HT4 := Lib.hid hT4); (have HM4 := Lib.hid hM4); clear hT4 hM4)
  have HSp := Lib.hid (Spoil.start Ho.out HM4.out (fun b hb => by simp only [List.mem_cons, List.not_mem_nil, or_false] at hb; omega))
  clear HAp
  go_wp2_with fail
  go_loopw [71] (fun s71 wr => ∃ (k : Nat), k ≤ m1 ∧ s71 = .int .i64 k ∧ Hid (Spoil w4 oc m1 l k wr)) (fun s71 _ => m1 - (intOf s71).toNat)
  case atStart => exact ⟨0, Nat.zero_le _, rfl, HSp⟩
  case round =>
    obtain ⟨k, hk, rfl, hSp⟩ := hrel
    by_cases hlt : k < m1
    · obtain ⟨g, hoc, -, -, -, -⟩ := Ho.out.at_ (by omega)
      have x1 := hSp.out.cells g k hoc (Nat.le_refl _) hlt
      have f1 := hSp.out.free g (k * 3 + 1) (by omega) hoc
      have hIx := fun w => run_wr cc (fun _ => hoc) hlt w
      rw [Nat.zero_add] at hIx
      have hsz := (Hf.out.sz (wAt l k) (by rw [wAt_lt (by rw [Hw.out.len]; exact hlt)]; exact List.getElem_mem _)).2
      have HNx := Lib.hid (hSp.out.next hoc (.string ((wAt l k).val ++ ⟨#[120]⟩)))
      clear hoc
      go_wp2_with fail
      go_roundw
      case rel => exact ⟨k + 1, by omega, by go_num, HNx⟩
      case measure => simp [intOf]; omega
    · obtain rfl : k = m1 := by omega
      obtain ⟨w2, hw2⟩ : ∃ x, x = wr := ⟨_, rfl⟩
      subst hw2
      have hMo := hSp.out.mod
      have HM2 := Lib.hid (show Mod [t, cm] V w2 from (((HG3.out.mod [t, cm]).trans HM4.out)).then hMo fun b hb => .inr (Hbo.out b hb).1)
      have HMx := Lib.hid (show ∀ b ∈ [t, cm], b = t ∨ b = cm ∨ b = mk from fun b hb => by simp only [List.mem_cons, List.not_mem_nil, or_false] at hb; rcases hb with rfl | rfl <;> simp)
      have hno : ∀ b, b < V.heap.size → b ∉ ownL oc := fun b hb q => by have := (Hbo.out b q).1; omega
      have HT2 := Lib.hid (show TabV ((bx + 1 + 1) :: S) w2 t cm mk (apR T n l) from (HT4.out.mod hMo (fun b hb => List.mem_append_left _ hb) (hno _ (by omega)) (hno _ (by omega)) (hno _ (by omega))).sub HTV.out.in1 HTV.out.in2 HTV.out.in3 (fun b hb => List.mem_append_right _ hb))
      have HR2 := Lib.hid (((HR3a.out.mod HM4.out (fun b hb => by simp only [List.mem_cons, List.not_mem_nil, or_false] at hb; rcases hb with rfl | rfl; exact List.mem_append_right _ HTV.out.in1; exact List.mem_append_right _ HTV.out.in2)).mod hMo (fun b hb => List.mem_append_left _ hb)).ex (hideL_sub _ fun b hb => List.mem_append_right _ hb))
      have HL2 := Lib.hid (show ∀ b ∈ (bx + 1 + 1) :: S, b < w2.heap.size from fun b hb => Nat.lt_of_lt_of_le (HLT.out b hb) HM2.out.size)
      have HgW := Lib.hid (show Gr W w2 from HM2.out.gr (HB.out.gr.trans hg0) (fun b hb => by simp only [List.mem_cons, List.not_mem_nil, or_false] at hb; rcases hb with rfl | rfl; exact HB.out.bt; exact HB.out.bc))
      have C0 := (HM4.out.box (by simp only [List.mem_cons, List.not_mem_nil, or_false, not_or]; omega) HB0.out)
      have C1 := (HM4.out.box (by simp only [List.mem_cons, List.not_mem_nil, or_false, not_or]; omega) HB1.out)
      have C2 := (HM4.out.box (by simp only [List.mem_cons, List.not_mem_nil, or_false, not_or]; omega) HB2.out)
      have C0 := hMo.box (hno _ (by omega)) C0
      have C1 := hMo.box (hno _ (by omega)) C1
      have C2 := hMo.box (hno _ (by omega)) C2
      have e4 := C1.cell 4 rfl
      clear hMo hno hSp HSp HT4 HM4 HR3a HB0 HB1 HB2
      go_upto_region 14 with (first | ((with_reducible refine wpList_load_box (ty := 31) (C0) ?_ ?_ Tryd.underlying31 ?_ ?_ ?_); (focus (exact rfl)); (focus (exact ⟨_, rfl, rfl⟩)); (focus (exact rfl)); (focus kernel_rfl)) | (go_at_call 20; (with_reducible refine (hRg.out _ HR2.out HL2.out HgW.out).mono ?_); rintro e w3 ⟨p', rfl, hR3, hg3⟩; have HR3 := Lib.hid hR3; clear hR3))
      have E7 := (Bx.new w3 (refL (apR T n l) p').toArray 31 rfl).of (us := refL (apR T n l) p') (by simp)
      have hgA : Gr w2 (w3.alloc (.cells (refL (apR T n l) p').toArray 31)) := hg3.alloc _
      (show Code.wp _ _ _ _ (w3.alloc (.cells (refL (apR T n l) p').toArray 31)))
      have h7 : w2.heap.size ≤ w3.heap.size := hg3.le
      have hc2 := C2.lt (by simp)
      have HE2 := Lib.hid (C2.keep hgA)
      have HR4 := Lib.hid (HR3.out.keep ((Gr.refl w3).alloc (.cells (refL (apR T n l) p').toArray 31)))
      have HgA := Lib.hid hgA
      clear C0 C1 C2 hg3 hgA
      generalize w3.alloc (.cells (refL (apR T n l) p').toArray 31) = w4 at *
      generalize w3.heap.size = b7 at *
      have HCd := Lib.hid fun w5 (hq : Gr W w5) => code_ev ce w5 (hq.keep HB.out.hd)
      have hok : (ok == ok) = true := by simp
      have hcc : (ce == ce) = true := by simp
      have hd4 : Gr w4 w4.drew := (Gr.refl w4).drew
      have hR4 := hd4.range E7.rng
      refine wp_region_held_drew (S := fun w' => w'.rangeAt b7 0 (refL (apR T n l) p')) (by kernel_rfl) hR4 (fun hHeld => ?_)
      refine' wpAnyH_take (i := 0) (oi := { dst := some 92, op := _, type := _, pos := _, after := _, guard := _ }) (v := _) rfl (by kernel_rfl) (by kernel_rfl) (by kernel_rfl) (fun _ _ _ h => h) (yieldsIf_load_mid (by rfl) _ _ rfl _ _ rfl _ _ (fun w h => h) Tryd.underlying31 rfl (by kernel_rfl)) hHeld ?_
      (try simp only [Act.put, List.setIfInBounds_toArray, List.set_cons_zero, List.set_cons_succ])
      refine' wpAnyH_take (i := 1) (oi := { dst := some 93, op := _, type := _, pos := _, after := _, guard := _ }) (v := .bool ok) rfl (by kernel_rfl) (by kernel_rfl) (by kernel_rfl) (fun _ _ _ h => h) (Or.inl ⟨by rfl, ?_⟩) hHeld ?_
      · (intro w hSw; go_simp)
      (try simp only [Act.put, List.setIfInBounds_toArray, List.set_cons_zero, List.set_cons_succ])
      refine' wpAnyH_take (i := 2) (oi := { dst := some 94, op := _, type := _, pos := _, after := _, guard := _ }) (v := .bool ok) rfl (by kernel_rfl) (by kernel_rfl) (by kernel_rfl) (fun _ _ _ h => h) (Or.inl ⟨by rfl, ?_⟩) hHeld ?_
      · (intro w hSw; go_simp)
      (try simp only [Act.put, List.setIfInBounds_toArray, List.set_cons_zero, List.set_cons_succ])
      refine' wpAnyH_take (i := 3) (oi := { dst := some 95, op := _, type := _, pos := _, after := _, guard := _ }) (v := .bool true) rfl (by kernel_rfl) (by kernel_rfl) (by kernel_rfl) (fun _ _ _ h => h) (Or.inl ⟨by rfl, ?_⟩) hHeld ?_
      · (intro w hSw; go_simp)
      (try simp only [Act.put, List.setIfInBounds_toArray, List.set_cons_zero, List.set_cons_succ])
      refine' wpAnyH_take (i := 4) (oi := { dst := some 96, op := _, type := _, pos := _, after := _, guard := _ }) (v := .bool true) rfl (by kernel_rfl) (by kernel_rfl) (by kernel_rfl) (fun _ _ _ h => h) (Or.inl ⟨by rfl, ?_⟩) hHeld ?_
      · (intro w hSw; go_simp)
      (try simp only [Act.put, List.setIfInBounds_toArray, List.set_cons_zero, List.set_cons_succ])
      refine' wpAnyH_take (i := 5) (oi := { dst := some 97, op := _, type := _, pos := _, after := _, guard := _ }) (v := ev ce) rfl (by kernel_rfl) (by kernel_rfl) (by kernel_rfl) (fun _ _ _ h => h) (Or.inl ⟨by rfl, ?_⟩) hHeld ?_
      · (intro w hSw; go_simp)
      (try simp only [Act.put, List.setIfInBounds_toArray, List.set_cons_zero, List.set_cons_succ])
      refine' wpAnyH_take (i := 7) (oi := { dst := some 99, op := _, type := _, pos := _, after := _, guard := _ }) (v := .int .i64 ce) rfl (by kernel_rfl) (by kernel_rfl) (by kernel_rfl) (fun _ _ _ h => h) (Or.inl ⟨by rfl, ?_⟩) hHeld ?_
      · (intro w hSw; go_simp)
      (try simp only [Act.put, List.setIfInBounds_toArray, List.set_cons_zero, List.set_cons_succ])
      refine wpAnyH_ready (rs := [6]) (by kernel_rfl) (by simp) ?_
      refine AllReadyH.cons (o := { dst := some 98, op := _, type := _, pos := _, after := _, guard := _ }) rfl (fun K hK => ?_) AllReadyH.nil
      refine step_wanted (by rfl) ?_
      go_simp
      go_at_call 21
      with_reducible refine (HCd.out _ ((HgW.out.trans HgA.out).trans hd4)).mono ?_
      rintro e w5 ⟨rfl, hg5⟩
      have hg45 := hd4.trans hg5
      refine hK.out _ _ (hg45.range E7.rng) (fun hHeld => ?_)
      clear hK K
      (try simp only [Act.put, List.setIfInBounds_toArray, List.set_cons_zero, List.set_cons_succ])
      refine' wpAnyH_take (i := 8) (oi := { dst := some 100, op := _, type := _, pos := _, after := _, guard := _ }) (v := .bool true) rfl (by kernel_rfl) (by kernel_rfl) (by kernel_rfl) (fun _ _ _ h => h) (Or.inl ⟨by rfl, ?_⟩) hHeld ?_
      · (intro w hSw; go_simp)
      (try simp only [Act.put, List.setIfInBounds_toArray, List.set_cons_zero, List.set_cons_succ])
      refine' wpAnyH_take (i := 9) (oi := { dst := some 101, op := _, type := _, pos := _, after := _, guard := _ }) (v := .bool true) rfl (by kernel_rfl) (by kernel_rfl) (by kernel_rfl) (fun _ _ _ h => h) (Or.inl ⟨by rfl, ?_⟩) hHeld ?_
      · (intro w hSw; go_simp)
      (try simp only [Act.put, List.setIfInBounds_toArray, List.set_cons_zero, List.set_cons_succ])
      have hM5 := (HE2.out.keep hg45).may
      refine wpAnyH_ready (rs := [10]) (by kernel_rfl) (by simp) ?_
      refine AllReadyH.cons (o := { dst := none, op := _, type := _, pos := _, after := _, guard := _ }) rfl (fun K hK => ?_) AllReadyH.nil
      refine step_wanted (by rfl) ?_
      refine wp_store_mid _ _ _ rfl _ _ (refL (apR T n l) p').toArray rfl rfl hM5 (by kernel_rfl) (by simp [Value.oneCell']) ?_
      simp only [Act.put, List.setIfInBounds_toArray, List.set_cons_zero, List.set_cons_succ, List.toList_toArray]
      refine hK.out _ _ (World.rangeAt_setCells_apart hHeld _ _ _ (.inl (by omega))) (fun hHeld => ?_)
      clear hK K hM5
      have Z := (HE2.out.keep hg45).setAll (us := refL (apR T n l) p') rfl
      have HM6 := Lib.hid (show Mod [bx + 1 + 1] w5 (w5.setCells (bx + 1 + 1) 0 (refL (apR T n l) p')) from Mod.setCells (by simp) _ _ _)
      generalize w5.setCells (bx + 1 + 1) 0 (refL (apR T n l) p') = w6 at hHeld Z HM6 ⊢
      refine' wpAnyH_take (i := 11) (oi := { dst := some 7, op := _, type := _, pos := _, after := _, guard := _ }) (v := .bool true) rfl (by kernel_rfl) (by kernel_rfl) (by kernel_rfl) (fun _ _ _ h => h) (Or.inl ⟨by rfl, ?_⟩) hHeld ?_
      · (intro w hSw; go_simp)
      (try simp only [Act.put, List.setIfInBounds_toArray, List.set_cons_zero, List.set_cons_succ])
      refine wpAnyH_done (by kernel_rfl) ?_ _
      go_wp2_with fail
      have hfin := fin_both hg0 Hbx.out HM2.out HMx.out HT2.out (HgA.out.trans hg45) HM6.out tlt clt mlt HB.out.tab (HR4.out.keep hg45)
      refine bodyPost_ret (Bx.ret2 Z rfl _ rfl rfl Tryd.underlying31 rfl (by kernel_rfl)) rfl ?_
      exact ⟨p', rfl, hfin⟩
set_option maxRecDepth 100000 in
set_option maxHeartbeats 8000000 in
theorem does_1 (hB : Both S W w t cm mk T p) (n th : Int) (rt : Bool) (l : List Wt) (o1 : Option Addr) (m1 c1 : Nat) (hw : WritesAt W o1 m1 c1 l) (hf : FewWs l) (hn : (Lit.int .i64 n).wf = true) :
    Calls Tryd.prog 10 #[.pointer (some ⟨t, 0, none⟩), .agg (refL T p).toArray, .agg (doL ⟨1, n, th, rt, l⟩ o1 m1 c1).toArray] w (DoesT S W w t cm mk (T)) := by
  obtain ⟨V, hV, B0, B1, B2, hg0, hsz⟩ := boxes3 w 31 36 31 (refL T p) (doL ⟨1, n, th, rt, l⟩ o1 m1 c1) zRT
  have HB := Lib.hid hB
  have tlt := hB.tab.lt
  have clt := hB.tab.lt2
  have mlt := hB.tab.lt3
  have hnb : ∀ b ∈ (w.heap.size + 1 + 1) :: S, b ∈ S ∨ w.heap.size ≤ b := fun b hb => by
    rcases List.mem_cons.1 hb with rfl | q
    · exact .inr (by omega)
    · exact .inl q
  have HTV := Lib.hid (hB.tab.keepN hg0 (List.mem_cons_of_mem _ hB.tab.in1) (List.mem_cons_of_mem _ hB.tab.in2) (List.mem_cons_of_mem _ hB.tab.in3) hnb)
  have HRV := Lib.hid (hB.ref.ex (hideL_new hg0 hnb))
  have HLT := Lib.hid (show ∀ b ∈ (w.heap.size + 1 + 1) :: S, b < V.heap.size from fun b hb => by
    rcases List.mem_cons.1 hb with rfl | q
    · omega
    · have := hB.lt b q; omega)
  have hsz2 : w.heap.size + 1 + 1 < V.heap.size := by omega
  have hO := hB.ok
  have HO := Lib.hid hO
  have Hw := Lib.hid hw
  have Hf := Lib.hid hf
  have hgWV := hB.gr.trans hg0
  have hGb := Lib.hid (at_v HTV.out hO n)
  have hRg := Lib.hid fun w2 (hr : RefV ((w.heap.size + 1 + 1) :: S) W w2 T p) => refAt_r hr hO n
  have hFl := Lib.hid (show FewWs (atL T n) from by
    unfold atL
    split
    · rename_i h
      have hx : T.all.getD (n - 1).toNat [] = [] ∨ T.all.getD (n - 1).toNat [] ∈ T.all := by
        rw [List.getD_eq_getElem?_getD]
        cases hq : T.all[(n - 1).toNat]? with
        | none => exact .inl rfl
        | some y => exact .inr (List.mem_of_getElem? hq)
      rcases hx with e | e
      · rw [e]; exact ⟨by simp, fun x hx => by cases hx⟩
      · exact hO.few _ e
    · exact ⟨by simp, fun x hx => by cases hx⟩)
  clear hB hnb hO hw hf
  unfold DoesT
  go_enter Tryd.func10, Tryd.ntmps10
  go_upto_region 1 with fail
  rw [← hV]
  clear hV hsz
  generalize hbx : w.heap.size = bx at *
  have Hbx := Lib.hid hbx
  clear hbx
  have d0 := B1.cell 0 rfl
  have d1 := B1.cell 1 rfl
  have hb3 := B2.lt (by simp)
  go_upto_region 17 with (go_at_call 18; (with_reducible refine hGb.out.mono ?_); rintro e w3 ⟨oc, nc, cc, rfl, ho, hg3⟩; (have Ho := Lib.hid ho); clear ho)
  have C0 := B0.keep hg3
  have C1 := B1.keep hg3
  have HR3a := Lib.hid (HRV.out.keep hg3)
  have e1 := C1.cell 1 rfl
  clear d0 d1 hGb
  go_upto_region 18 with (first | ((with_reducible refine wpList_load_box (ty := 31) (C0) ?_ ?_ Tryd.underlying31 ?_ ?_ ?_); (focus (exact rfl)); (focus (exact ⟨_, rfl, rfl⟩)); (focus (exact rfl)); (focus kernel_rfl)) | (go_at_call 22; (with_reducible refine (hRg.out _ HR3a.out).mono ?_); rintro e w4 ⟨o5, n5, c5, rfl, hw5, hg4⟩; (have Hw5 := Lib.hid hw5); clear hw5))
  have hg34 := hg3.trans hg4
  have hSm := Lib.hid (sameW_any oc nc cc o5 n5 c5 (atL T n) w4 (Ho.out.rows.keep hg4) (Hw5.out.keep (hgWV.trans hg34)))
  have HCd := Lib.hid fun w5 (hq : Gr W w5) => code_ev (atE T n) w5 (hq.keep HB.out.hd)
  have hcl := Ho.out.rows.cap_le
  have hcm := Ho.out.rows.cap_max
  have hnc : nc ≤ 40 := by have := Ho.out.rows.len; have := hFl.out.len; omega
  unfold maxLen at hcm
  have HgWV := Lib.hid hgWV
  clear C0 C1 e1 hRg Hw5 HR3a hgWV
  generalize atE T n = ce at *
  generalize atL T n = le at *
  have hcc : (ce == ce) = true := by simp
  go_upto_region 19 with (first | (go_at_call 23; (with_reducible refine hSm.out.mono ?_); rintro e w5 ⟨rfl, hd5⟩; have hg15 := hg34.trans hd5.gr) | (go_at_call 21; (with_reducible refine (HCd.out _ (HgWV.out.trans hg15)).mono ?_); rintro e w6 ⟨rfl, hg6⟩; have hg16 := hg15.trans hg6))
  have HSp := Lib.hid (Spoil.start Ho.out ((show Gr w3 w6 from (hg4.trans hd5.gr).trans hg6).mod []) (by simp))
  have HG6 := Lib.hid hg16
  clear hSm hg4 hd5 hg6 hg15 hg34 hg3 hg16
  go_wp2_with fail
  go_loopw [129] (fun s129 wr => ∃ (k : Nat), k ≤ nc ∧ s129 = .int .i64 k ∧ Hid (Spoil w6 oc nc le k wr)) (fun s129 _ => nc - (intOf s129).toNat)
  case atStart => exact ⟨0, Nat.zero_le _, rfl, HSp⟩
  case round =>
    obtain ⟨k, hk, rfl, hSp⟩ := hrel
    by_cases hlt : k < nc
    · obtain ⟨g, hoc, -, -, -, -⟩ := Ho.out.at_ (by omega)
      have x1 := hSp.out.cells g k hoc (Nat.le_refl _) hlt
      have f1 := hSp.out.free g (k * 3 + 1) (by omega) hoc
      have hIx := fun w => run_wr cc (fun _ => hoc) hlt w
      rw [Nat.zero_add] at hIx
      have hsz := (hFl.out.sz (wAt le k) (by rw [wAt_lt (by rw [Ho.out.rows.len]; exact hlt)]; exact List.getElem_mem _)).2
      have HNx := Lib.hid (hSp.out.next hoc (.string ((wAt le k).val ++ ⟨#[120]⟩)))
      clear hoc
      go_wp2_with fail
      go_roundw
      case rel => exact ⟨k + 1, by omega, by go_num, HNx⟩
      case measure => simp [intOf]; omega
    · obtain rfl : k = nc := by omega
      have hbo := ownL_lt Ho.out
      have hnew : ∀ b ∈ ownL oc ++ ((bx + 1 + 1) :: S), b ∈ (bx + 1 + 1) :: S ∨ V.heap.size ≤ b := fun b hb => by
        rcases List.mem_append.1 hb with q | q
        · exact .inr (hbo b q).1
        · exact .inl q
      have hMo := hSp.out.mod
      have hno : ∀ b, b < V.heap.size → b ∉ ownL oc := fun b hb q => by have := (hbo b q).1; omega
      have hT3 := HTV.out.keepN HG6.out (List.mem_append_right _ HTV.out.in1) (List.mem_append_right _ HTV.out.in2) (List.mem_append_right _ HTV.out.in3) hnew
      have HTx := Lib.hid ((hT3.mod hMo (fun b hb => List.mem_append_left _ hb) (hno _ (by omega)) (hno _ (by omega)) (hno _ (by omega))).sub HTV.out.in1 HTV.out.in2 HTV.out.in3 (fun b hb => List.mem_append_right _ hb))
      have HRx := Lib.hid (((HRV.out.ex (hideL_new HG6.out hnew)).mod hMo (fun b hb => List.mem_append_left _ hb)).ex (hideL_sub _ fun b hb => List.mem_append_right _ hb))
      have HGx := Lib.hid (show Gr V wr from hMo.gr HG6.out (fun b hb => (hbo b hb).1))
      clear hT3 hMo hno hnew hbo hSp HSp
      have D0 := B0.keep HGx.out
      have D2 := B2.keep HGx.out
      go_wp2_with (first | ((with_reducible refine wpList_load_box (ty := 31) (D0) ?_ ?_ Tryd.underlying31 ?_ ?_ ?_); (focus (exact rfl)); (focus (exact ⟨_, rfl, rfl⟩)); (focus (exact rfl)); (focus kernel_rfl)) | ((with_reducible refine wpList_store_box (ty := 31) (D2) ((refL T p)) ?_ ?_ ?_ ?_ ?_ ?_); (focus (exact rfl)); (focus (exact ⟨_, _, rfl, rfl, rfl⟩)); (focus (exact rfl)); (focus kernel_rfl); (focus kernel_rfl)))
      have Z := D2.setAll (us := refL T p) rfl
      have HM6 := Lib.hid (show Mod [bx + 1 + 1] wr (wr.setCells (bx + 1 + 1) 0 (refL T p)) from Mod.setCells (by simp) _ _ _)
      have hfin := fin_both (hg0.trans HGx.out) Hbx.out (Mod.refl [] wr) (by simp) HTx.out (Gr.refl wr) HM6.out tlt clt mlt HB.out.tab HRx.out
      refine bodyPost_ret (Bx.ret2 Z rfl _ rfl rfl Tryd.underlying31 rfl (by kernel_rfl)) rfl ?_
      exact ⟨p, rfl, hfin⟩
end
end Go.Proofs.YtfejdbcfcpmdiaaDoor
