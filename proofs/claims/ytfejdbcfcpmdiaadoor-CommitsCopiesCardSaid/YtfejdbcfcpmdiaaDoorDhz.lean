import Derived.Test.YtfejdbcfcpmdiaaDoorDgz
namespace Go.Proofs.YtfejdbcfcpmdiaaDoor
set_option linter.unusedVariables false
set_option linter.unusedSimpArgs false
open Go.BigFrame Go.RowKit Go.WideShapes

/-! The law of copies (commits). -/
set_option maxRecDepth 100000 in
theorem copyP_nil (w : World) : Calls Tryd.prog 15 #[.pointer none] w fun e w' => e = .returned (.pointer none) ∧ w = w' := by
  go_enter Tryd.func15, Tryd.ntmps15
  go_wp2
  go_ret
  exact ⟨rfl, rfl⟩
def tailD (oa : Option Addr) (k cap : Nat) : Option Addr := if cap = k then oa else oa.map (·.add (k * 5))
theorem run_headD (oa : Option Addr) (n cap k : Nat) (h : k ≤ cap) (w : World) :
    (Instr.sliceAt 22 (.slice oa n cap) none (some (.int .i64 (k : Int))) none).run Tryd.prog w = .ok (.slice oa k cap) w := by
  have e : (if cap = 0 then oa else Option.map (fun x => x.add 0) oa) = oa := by
    split
    · rfl
    · cases oa with
      | none => rfl
      | some a => simp [Addr.add]
  go_simp
theorem run_tailD (oa : Option Addr) (n cap k : Nat) (h : k ≤ n) (w : World) :
    (Instr.sliceAt 22 (.slice oa n cap) (some (.int .i64 (k : Int))) none none).run Tryd.prog w = .ok (.slice (tailD oa k cap) (n - k) (cap - k)) w := by
  unfold tailD
  go_simp
theorem tailD_at {oa : Option Addr} {k cap n b off : Nat} (h : oa = some ⟨b, off, none⟩) (hk : k < n) (hc : n ≤ cap) : tailD oa k cap = some ⟨b, off + k * 5, none⟩ := by
  unfold tailD
  rw [if_neg (by omega), h, Option.map_some, add_blockW]
/-- what the copy leaves -/
structure Cop16 (W : World) (S0 : List Nat) (b8 t cm mk : Nat) (T : Ct) (p : Rp) (t2 cm2 mk2 b16 : Nat) (w' : World) : Prop where
  one : Both (b16 :: t2 :: cm2 :: mk2 :: S0) W w' t cm mk T p
  two : Both (b16 :: t2 :: cm2 :: mk2 :: S0) W w' t2 cm2 mk2 T p
  x8 : Bx w' b8 (refL T p)
  x16 : Bx w' b16 (refL T p)
  far : b8 < t2 ∧ b8 < cm2 ∧ b8 < mk2 ∧ b8 < b16
  ne : b16 ≠ t2 ∧ b16 ≠ cm2 ∧ b16 ≠ mk2
theorem mkCop {W w0 w6 : World} {b8 t cm mk t2 cm2 mk2 b16 : Nat} {T : Ct} {p : Rp} {v : List Value} (hB : Both [b8, t, cm, mk] W w0 t cm mk T p) (hE : Bx w0 b8 (refL T p)) (h8 : t < b8 ∧ cm < b8 ∧ mk < b8)
    (hT : TabV [b16, t2, cm2, mk2, b8, t, cm, mk] w6 t2 cm2 mk2 T) (hg : Gr w0 w6) (h2 : w0.heap.size ≤ t2) (h3 : w0.heap.size ≤ cm2) (h4 : w0.heap.size ≤ mk2) (h16 : w0.heap.size ≤ b16)
    (n1 : b16 ≠ t2) (n2 : b16 ≠ cm2) (n3 : b16 ≠ mk2) (hZ : Bx w6 b16 v) (hv : v.length = (refL T p).length) (hv0 : 0 < v.length) : Cop16 W [b8, t, cm, mk] b8 t cm mk T p t2 cm2 mk2 b16 (w6.setCells b16 0 (refL T p)) := by
  have hM : Mod [b16] w6 (w6.setCells b16 0 (refL T p)) := Mod.setCells (by simp) _ _ _
  have l8 := hE.lt (by simp)
  have lz := hZ.lt hv0
  have hW := hB.gr.le
  have hs : ∀ b ∈ [b16, t2, cm2, mk2, b8, t, cm, mk], b ∈ [b8, t, cm, mk] ∨ w0.heap.size ≤ b := fun b hb => by
    simp only [List.mem_cons, List.not_mem_nil, or_false] at hb ⊢
    omega
  have lt1 := hT.lt
  have lt2 := hT.lt2
  have lt3 := hT.lt3
  have hl : ∀ b ∈ [b16, t2, cm2, mk2, b8, t, cm, mk], b < w6.heap.size := fun b hb => by
    have := hg.le
    simp only [List.mem_cons, List.not_mem_nil, or_false] at hb
    omega
  have h1 : Both [b16, t2, cm2, mk2, b8, t, cm, mk] W w6 t cm mk T p := hB.grow hg (by simp) (by simp) (by simp) hs hl
  have h5 : Both [b16, t2, cm2, mk2, b8, t, cm, mk] W w6 t2 cm2 mk2 T p := ⟨hT, h1.ref, hB.ok, hl, hB.gr.trans hg, Nat.le_trans hW h2, Nat.le_trans hW h3, Nat.le_trans hW h4, hB.hd⟩
  have hb : ∀ b ∈ [b16], W.heap.size ≤ b := fun b hb => by rw [List.mem_singleton] at hb; omega
  refine ⟨h1.other hM (by simp) ?_ ?_ ?_ hb, h5.other hM (by simp) ?_ ?_ ?_ hb, hM.box ?_ (hE.keep hg), hZ.setAll hv.symm, by omega, by omega⟩ <;> simp only [List.mem_singleton] <;> omega
theorem cut5 {P : Nat → Nat → Nat → Nat → World → Prop} {R : Prop} {G : Nat → Nat → Nat → Nat → World → Prop} (h1 : (∀ a b c d w, P a b c d w → G a b c d w) → R) (h2 : ∀ a b c d w, P a b c d w → G a b c d w) : R := h1 h2
set_option maxRecDepth 100000 in
set_option maxHeartbeats 40000000 in
theorem copies16 (thr lim : Int) (oa : Option Addr) (n cap : Nat) (l : List Ds) (m : Nat) (hm8 : m < 256) (w : World) (h : DosAt w oa n cap l) (hh : w.cell? ⟨0, 0, none⟩ = some handleV) :
    Calls Tryd.prog 5 #[.int .i64 thr, .int .i64 lim, .slice oa n cap, .int .u8 (m : Int)] w fun e w' => e = .returned (.bool true) ∧ Gr w w' := by
  have hFE := Lib.hid (fews_v oa n cap l w h)
  have Hh := Lib.hid hh
  have hcl := h.cap_le
  have hcm := h.cap_max
  unfold maxLen at hcm
  obtain ⟨b, off, ho, hc⟩ := h.get
  have Ho := Lib.hid ho
  have Hc := Lib.hid hc
  have Hl := Lib.hid h.len
  clear ho hc h hh
  cases hnb : newB thr lim
  · have hP := Lib.hid fun w1 => newP_bad thr lim w1 hnb
    have hN := Lib.hid fun w1 => refNew_bad thr lim w1 hnb
    clear hnb
    go_enter Tryd.func5, Tryd.ntmps5
    go_wp2_with fail
    refine hFE.out.mono ?_
    rintro e w1 ⟨⟨b1, rfl, hb1⟩, hg1⟩
    cases b1
    · go_wp2_with fail
      refine (awake_any _).mono ?_
      rintro e w2 ⟨rfl, hg2⟩
      go_wp2_with fail
      go_ret
      exact ⟨rfl, hg1.trans hg2⟩
    clear hb1
    go_wp2_with (first | (go_at_call 8; (with_reducible refine (hP.out _).mono ?_); rintro e w2 ⟨rfl, rfl⟩) | (go_at_call 9; (with_reducible refine (hN.out _).mono ?_); rintro e w3 ⟨rfl, hg3⟩; have hg13 := hg1.trans hg3) | (go_at_call 15; (with_reducible refine (copyP_nil _).mono ?_); rintro e w5 ⟨rfl, rfl⟩) | (go_at_call 7; (with_reducible refine (awake_any _).mono ?_); rintro e w4 ⟨rfl, hg4⟩))
    go_ret
    exact ⟨rfl, (hg13.alloc _).trans hg4⟩
  obtain ⟨a, bl, rfl, rfl, ha1, ha2, hl1, hl2⟩ := newB_nat hnb
  clear hnb
  have hP := Lib.hid fun w1 => newP_v a bl w1 ha1 ha2 hl1 hl2
  have hN := Lib.hid fun (S : List Nat) w1 (hS : ∀ x ∈ S, x < w1.heap.size) => refNew_r (S := S) (W := w) (w := w1) a bl ha1 ha2 hl1 hl2 hS
  go_enter Tryd.func5, Tryd.ntmps5
  go_wp2_with fail
  refine hFE.out.mono ?_
  rintro e w1 ⟨⟨b1, rfl, hb1⟩, hg1⟩
  cases b1
  · go_wp2_with fail
    refine (awake_any _).mono ?_
    rintro e w2 ⟨rfl, hg2⟩
    go_wp2_with fail
    go_ret
    exact ⟨rfl, hg1.trans hg2⟩
  have Hf := Lib.hid (hb1 rfl)
  have hn60 : n ≤ 60 := by have := Hf.out.1; have := Hl.out; omega
  clear hb1 hFE
  go_wp2_with fail
  refine (hP.out _).mono ?_
  rintro e w2 ⟨t, cm, mk, rfl, ht, hc, hm, hT2, hg2⟩
  have hS2 : ∀ x ∈ [t, cm, mk], x < w2.heap.size := fun x hx => by
    simp only [List.mem_cons, List.not_mem_nil, or_false] at hx
    rcases hx with rfl | rfl | rfl
    · exact hT2.lt
    · exact hT2.lt2
    · exact hT2.lt3
  have hNn := Lib.hid (hN.out [t, cm, mk] w2 hS2)
  have HT2 := Lib.hid hT2
  have tlt := hT2.lt
  have clt := hT2.lt2
  have mlt := hT2.lt3
  clear hN hP hT2
  go_upto_region 5 with (go_at_call 9; (with_reducible refine hNn.out.mono ?_); rintro e w3 ⟨p, rfl, hR3, hg3⟩; (have HR3 := Lib.hid hR3); clear hR3)
  have hgB : Gr w w3 := (hg1.trans hg2).trans hg3
  have hB3 := both_new ha1 ha2 hl2 hg1 ht hc hm (HT2.out.keep hg3) HR3.out hgB Hh.out
  have E8 := (Bx.new w3 (refL (newC a bl) p).toArray 31 rfl).of (us := refL (newC a bl) p) (by simp)
  have hl8 : t < w3.heap.size ∧ cm < w3.heap.size ∧ mk < w3.heap.size := by have := hg3.le; omega
  have hsz4 : (w3.alloc (.cells (refL (newC a bl) p).toArray 31)).heap.size = w3.heap.size + 1 := size_alloc1 _ _
  have hw3 := hgB.le
  have hB4 := hB3.grow (S' := [w3.heap.size, t, cm, mk]) ((Gr.refl w3).alloc (.cells (refL (newC a bl) p).toArray 31)) (by simp) (by simp) (by simp)
    (fun b hb => by
      rcases List.mem_cons.1 hb with rfl | q
      · exact .inr (Nat.le_refl _)
      · exact .inl q)
    (fun b hb => by
      simp only [List.mem_cons, List.not_mem_nil, or_false] at hb
      rcases hb with rfl | rfl | rfl | rfl <;> omega)
  (show Code.wp _ _ _ _ (w3.alloc (.cells (refL (newC a bl) p).toArray 31)))
  have HB4 := Lib.hid hB4
  have HE8 := Lib.hid E8
  clear hB3 hB4 E8 hgB hg3 HR3 HT2 hNn hsz4
  generalize w3.alloc (.cells (refL (newC a bl) p).toArray 31) = w4 at *
  generalize w3.heap.size = b8 at *
  generalize newC a bl = T0 at *
  have hkm0 : m % (n + 1) < n + 1 := Nat.mod_lt _ (by omega)
  have hrem0 : (m : Int) % ((n : Int) + 1) = ((m % (n + 1) : Nat) : Int) := by simp
  generalize m % (n + 1) = q at *
  have hqn : q ≤ n := by omega
  have hqc : q ≤ cap := by omega
  have hHd := run_headD oa n cap q hqc
  have hTl := run_tailD oa n cap q hqn
  have hn0 : (n : Int) + 1 ≠ 0 := by omega
  (try simp only [Act.put])
  go_upto_region 8 with fail
  rw [hrem0]
  go_wp2_with fail
  clear hHd hrem0
  go_loopw [63] (fun s63 wr => ∃ (k : Nat) (T : Ct) (p : Rp), k ≤ q ∧ s63 = .int .i64 k ∧ Hid (Both [b8, t, cm, mk] w wr t cm mk T p) ∧ Hid (Bx wr b8 (refL T p))) (fun s63 _ => q - (intOf s63).toNat)
  case atStart => exact ⟨0, T0, p, Nat.zero_le _, rfl, HB4, HE8⟩
  case round =>
    clear HB4 HE8
    obtain ⟨k, T, p, hk, rfl, hB, hE⟩ := hrel
    by_cases hlt : k < q
    · have hy : l[k]? = some (l[k]'(by have := Hl.out; omega)) := List.getElem?_eq_getElem _
      generalize (l[k]'(by have := Hl.out; omega)) = d at hy
      obtain ⟨p1, m1, c1, D0⟩ := Hc.out k d hy
      have D1 := D0.keep hB.out.gr
      have hI := run_do cap (fun _ => Ho.out (by omega)) hlt
      have Hy := Lib.hid hy
      have Z := (Bx.new wr zDo.toArray 36 rfl).of (us := zDo) (by simp)
      have HD := Lib.hid (show WritesAt w p1 m1 c1 d.l ∧ (Lit.int .i64 d.n).wf = true from ⟨D0.ws, D0.wn⟩)
      clear hy D0
      go_upto_region 11 with (first | (refine wpList_load_mid rfl 36 _ rfl _ _ rfl _ _ (D1).rng Tryd.underlying36 rfl (by kernel_rfl) ?_) | ((with_reducible refine wpList_store_box (ty := 36) (Z) ((doL d p1 m1 c1)) ?_ ?_ ?_ ?_ ?_ ?_); (focus (exact rfl)); (focus (exact ⟨_, _, rfl, rfl, rfl⟩)); (focus (exact rfl)); (focus kernel_rfl); (focus kernel_rfl)))
      have B11 := Z.setAll (us := doL d p1 m1 c1) rfl
      have hg5 : Gr wr ((wr.alloc (.cells zDo.toArray 36)).setCells wr.heap.size 0 (doL d p1 m1 c1)) := ((Gr.refl wr).alloc _).setCells (Nat.le_refl _) _ _
      have E5 := hE.out.keep hg5
      have hB5 := hB.out.keep hg5
      have HDo := Lib.hid (does_v hB5 d HD.out.1 (Hf.out.get Hy.out) HD.out.2)
      have HB5 := Lib.hid hB5
      clear Z D1 hI hE hB hg5 hB5
      generalize (wr.alloc (.cells zDo.toArray 36)).setCells wr.heap.size 0 (doL d p1 m1 c1) = w5 at *
      generalize wr.heap.size = b11 at *
      (try simp only [Act.put])
      go_upto_region 12 with (first | ((with_reducible refine wpList_load_box (ty := 31) (E5) ?_ ?_ Tryd.underlying31 ?_ ?_ ?_); (focus (exact rfl)); (focus (exact ⟨_, rfl, rfl⟩)); (focus (exact rfl)); (focus kernel_rfl)) | ((with_reducible refine wpList_load_box (ty := 36) (B11) ?_ ?_ Tryd.underlying36 ?_ ?_ ?_); (focus (exact rfl)); (focus (exact ⟨_, rfl, rfl⟩)); (focus (exact rfl)); (focus kernel_rfl)) | (go_at_call 10; (with_reducible refine HDo.out.mono ?_); rintro e w6 ⟨p', rfl, hT6, hR6, hM6⟩; (have HT6 := Lib.hid hT6); (have HR6 := Lib.hid hR6); (have HM6 := Lib.hid hM6); (have E6 := hM6.box (by simp only [List.mem_cons, List.not_mem_nil, or_false, not_or]; omega) E5); clear hT6 hR6 hM6) | ((with_reducible refine wpList_store_box (ty := 31) (E6) ((refL (stp T d) p')) ?_ ?_ ?_ ?_ ?_ ?_); (focus (exact rfl)); (focus (exact ⟨_, _, rfl, rfl, rfl⟩)); (focus (exact rfl)); (focus kernel_rfl); (focus kernel_rfl)))
      have HB6 := Lib.hid (HB5.out.next HT6.out HR6.out HM6.out (stp_ok HB5.out.ok (Hf.out.get Hy.out) HD.out.2))
      have HB8 := Lib.hid (HB6.out.other (S' := [b8]) (w' := w6.setCells b8 0 (refL (stp T d) p')) (Mod.setCells (by simp) _ _ _) (by simp) (by simp only [List.mem_singleton]; omega) (by simp only [List.mem_singleton]; omega) (by simp only [List.mem_singleton]; omega) (fun x hx => by rw [List.mem_singleton] at hx; omega))
      have HE9 := Lib.hid (E6.setAll (us := refL (stp T d) p') rfl)
      clear E6 E5 B11 HB5 HB6 HT6 HR6 HM6 HDo
      generalize w6.setCells b8 0 (refL (stp T d) p') = w8 at *
      generalize stp T d = T' at *
      (try simp only [Act.put])
      go_wp2_with fail
      go_roundw
      case rel => exact ⟨k + 1, T', p', by omega, by go_num, HB8, HE9⟩
      case measure => simp [intOf]; omega
    · obtain rfl : k = q := by omega
      have E10 := hE.out
      have hB0 := hB.out
      have HCo := Lib.hid fun (S' : List Nat) w5 (hq : TabV S' w5 t cm mk T) => copy_v hq hB0.ok
      have HB0 := Lib.hid hB0
      clear hE hB hB0
      go_upto_region 13 with fail
      have hd4 : Gr wr wr.drew := (Gr.refl wr).drew
      have hR4 := hd4.range E10.rng
      apply cut5 (P := Cop16 w [b8, t, cm, mk] b8 t cm mk T p)
      case h1 =>
        intro REST
        refine wp_region_held_drew (S := fun w' => w'.rangeAt b8 0 (refL T p)) (by kernel_rfl) hR4 (fun hHeld => ?_)
        refine' wpAnyH_take (i := 0) (oi := { dst := some 75, op := _, type := _, pos := _, after := _, guard := _ }) (v := .pointer (some ⟨t, 0, none⟩)) rfl (by kernel_rfl) (by kernel_rfl) (by kernel_rfl) (fun _ _ _ h => h) (Or.inl ⟨by rfl, ?_⟩) hHeld ?_
        · (intro w hSw; go_simp)
        (try simp only [Act.put, List.setIfInBounds_toArray, List.set_cons_zero, List.set_cons_succ])
        refine' wpAnyH_take (i := 2) (oi := { dst := some 77, op := _, type := _, pos := _, after := _, guard := _ }) (v := _) rfl (by kernel_rfl) (by kernel_rfl) (by kernel_rfl) (fun _ _ _ h => h) (yieldsIf_load_mid (by rfl) _ _ rfl _ _ rfl _ _ (fun w h => h) Tryd.underlying31 rfl (by kernel_rfl)) hHeld ?_
        (try simp only [Act.put, List.setIfInBounds_toArray, List.set_cons_zero, List.set_cons_succ])
        refine wpAnyH_ready (rs := [1, 3]) (by kernel_rfl) (by simp) ?_
        refine AllReadyH.cons (o := { dst := some 76, op := _, type := _, pos := _, after := _, guard := _ }) rfl (fun K hK => ?_) (AllReadyH.cons (o := { dst := some 16, op := _, type := _, pos := _, after := _, guard := _ }) rfl (fun K hK => ?_) AllReadyH.nil)
        · refine step_wanted (by rfl) ?_
          go_simp
          go_at_call 15
          with_reducible refine (HCo.out _ _ (HB0.out.tab.keep hd4)).mono ?_
          rintro e w5 ⟨t2, cm2, mk2, rfl, q1, q2, q3, hT5, hg5⟩
          have hg45 := hd4.trans hg5
          have HT5 := Lib.hid hT5
          clear hT5
          refine hK.out _ _ (hg45.range E10.rng) (fun hHeld => ?_)
          clear hK K
          (try simp only [Act.put, List.setIfInBounds_toArray, List.set_cons_zero, List.set_cons_succ])
          refine wpAnyH_ready (rs := [3]) (by kernel_rfl) (by simp) ?_
          refine AllReadyH.cons (o := { dst := some 16, op := _, type := _, pos := _, after := _, guard := _ }) rfl (fun K hK => ?_) AllReadyH.nil
          refine step_wanted (by rfl) ?_
          go_simp
          have hgA : Gr w5 (w5.alloc (.cells zRT.toArray 31)) := (Gr.refl w5).alloc _
          have hg46 := hg45.trans hgA
          have hZ6 := (Bx.new w5 zRT.toArray 31 rfl).of (us := zRT) (by simp)
          have hM6 := hZ6.may
          refine hK.out _ _ (hg46.range E10.rng) (fun hHeld => ?_)
          clear hK K
          (try simp only [Act.put, List.setIfInBounds_toArray, List.set_cons_zero, List.set_cons_succ])
          have t5 := HT5.out.lt
          have t6 := HT5.out.lt2
          have t7 := HT5.out.lt3
          have HT6 := Lib.hid (HT5.out.keepN (S' := [w5.heap.size, t2, cm2, mk2, b8, t, cm, mk]) hgA (by simp) (by simp) (by simp) (fun b hb => by
            rcases List.mem_cons.1 hb with rfl | q
            · exact .inr (Nat.le_refl _)
            · exact .inl q))
          have HF := Lib.hid (mkCop HB0.out E10 hl8 HT6.out hg46 q1 q2 q3 hg45.le (by omega) (by omega) (by omega) hZ6 rfl (by simp))
          clear hZ6 HT6 t5 t6 t7
          generalize w5.alloc (.cells zRT.toArray 31) = w6 at *
          generalize w5.heap.size = b16 at *
          refine' wpAnyH_take (i := 4) (oi := { dst := some 15, op := _, type := _, pos := _, after := _, guard := _ }) (v := .pointer (some ⟨t2, 0, none⟩)) rfl (by kernel_rfl) (by kernel_rfl) (by kernel_rfl) (fun _ _ _ h => h) (Or.inl ⟨by rfl, ?_⟩) hHeld ?_
          · (intro w hSw; go_simp)
          (try simp only [Act.put, List.setIfInBounds_toArray, List.set_cons_zero, List.set_cons_succ])
          refine wpAnyH_ready (rs := [5]) (by kernel_rfl) (by simp) ?_
          refine AllReadyH.cons (o := { dst := none, op := _, type := _, pos := _, after := _, guard := _ }) rfl (fun K hK => ?_) AllReadyH.nil
          refine step_wanted (by rfl) ?_
          refine wp_store_mid _ _ _ rfl _ _ (refL T p).toArray rfl rfl hM6 (by kernel_rfl) (by simp [Value.oneCell']) ?_
          simp only [Act.put, List.setIfInBounds_toArray, List.set_cons_zero, List.set_cons_succ, List.toList_toArray]
          refine hK.out _ _ (HF.out.x8.rng) (fun hHeld => ?_)
          clear hK K hM6 hHeld
          refine wpAnyH_done (by kernel_rfl) ?_ _
          exact REST _ _ _ _ _ HF.out
        · refine step_wanted (by rfl) ?_
          go_simp
          have hgA : Gr wr (wr.alloc (.cells zRT.toArray 31)).drew := ((Gr.refl wr).alloc _).drew
          have hZ6 := ((Bx.new wr zRT.toArray 31 rfl).of (us := zRT) (by simp)).keep ((Gr.refl _).drew)
          have l8 := E10.lt (by simp)
          have hsz : wr.heap.size < (wr.alloc (.cells zRT.toArray 31)).drew.heap.size := hZ6.lt (by simp)
          refine hK.out _ _ (hgA.range E10.rng) (fun hHeld => ?_)
          clear hK K
          (try simp only [Act.put, List.setIfInBounds_toArray, List.set_cons_zero, List.set_cons_succ])
          have HT4 := Lib.hid (HB0.out.tab.keepN (S' := [wr.heap.size, b8, t, cm, mk]) hgA (by simp) (by simp) (by simp) (fun b hb => by
            rcases List.mem_cons.1 hb with rfl | q
            · exact .inr (Nat.le_refl _)
            · exact .inl q))
          (show wpAnyH _ _ _ _ _ _ _ _ (wr.alloc (.cells zRT.toArray 31)).drew)
          generalize (wr.alloc (.cells zRT.toArray 31)).drew = w4 at *
          have hle := Lib.hid (Nat.le_refl wr.heap.size)
          generalize hb16 : wr.heap.size = b16 at *
          have Hb16 := Lib.hid hb16
          clear hb16
          refine wpAnyH_ready (rs := [1]) (by kernel_rfl) (by simp) ?_
          refine AllReadyH.cons (o := { dst := some 76, op := _, type := _, pos := _, after := _, guard := _ }) rfl (fun K hK => ?_) AllReadyH.nil
          refine step_wanted (by rfl) ?_
          go_simp
          go_at_call 15
          with_reducible refine (HCo.out _ _ HT4.out).mono ?_
          rintro e w6 ⟨t2, cm2, mk2, rfl, q1, q2, q3, hT6, hg6⟩
          have hg46 := hgA.trans hg6
          have hZ7 := hZ6.keep hg6
          have hM6 := hZ7.may
          have HT6 := Lib.hid (hT6.sub (S' := [b16, t2, cm2, mk2, b8, t, cm, mk]) (by simp) (by simp) (by simp) (fun b hb => by
            simp only [List.mem_cons, List.not_mem_nil, or_false] at hb ⊢
            omega))
          have HF := Lib.hid (mkCop HB0.out E10 hl8 HT6.out hg46 (by have := Hb16.out; omega) (by have := Hb16.out; omega) (by have := Hb16.out; omega) (by have := Hb16.out; omega) (by omega) (by omega) (by omega) hZ7 rfl (by simp))
          clear hT6 HT6 hZ7 hZ6 HT4
          refine hK.out _ _ (hg46.range E10.rng) (fun hHeld => ?_)
          clear hK K
          (try simp only [Act.put, List.setIfInBounds_toArray, List.set_cons_zero, List.set_cons_succ])
          refine' wpAnyH_take (i := 4) (oi := { dst := some 15, op := _, type := _, pos := _, after := _, guard := _ }) (v := .pointer (some ⟨t2, 0, none⟩)) rfl (by kernel_rfl) (by kernel_rfl) (by kernel_rfl) (fun _ _ _ h => h) (Or.inl ⟨by rfl, ?_⟩) hHeld ?_
          · (intro w hSw; go_simp)
          (try simp only [Act.put, List.setIfInBounds_toArray, List.set_cons_zero, List.set_cons_succ])
          refine wpAnyH_ready (rs := [5]) (by kernel_rfl) (by simp) ?_
          refine AllReadyH.cons (o := { dst := none, op := _, type := _, pos := _, after := _, guard := _ }) rfl (fun K hK => ?_) AllReadyH.nil
          refine step_wanted (by rfl) ?_
          refine wp_store_mid _ _ _ rfl _ _ (refL T p).toArray rfl rfl hM6 (by kernel_rfl) (by simp [Value.oneCell']) ?_
          simp only [Act.put, List.setIfInBounds_toArray, List.set_cons_zero, List.set_cons_succ, List.toList_toArray]
          refine hK.out _ _ (HF.out.x8.rng) (fun hHeld => ?_)
          clear hK K hM6 hHeld
          refine wpAnyH_done (by kernel_rfl) ?_ _
          exact REST _ _ _ _ _ HF.out
      case h2 =>
        intro t2 cm2 mk2 b16 w6 hCop
        have HA0 := Lib.hid hCop.one
        have HC0 := Lib.hid hCop.two
        have HE0 := Lib.hid hCop.x8
        have HF0 := Lib.hid hCop.x16
        have far := hCop.far
        have nee := hCop.ne
        clear hCop HB0 HCo E10 hd4 hR4
        obtain ⟨r, hr⟩ : ∃ r, r = n - k := ⟨_, rfl⟩
        rw [← hr] at hTl
        have hrn : r ≤ n := by omega
        have Hr := Lib.hid hr
        clear hr
        go_wp2_with fail
        clear hTl
        go_loopw [82] (fun s82 wr => ∃ (j : Nat) (T1 : Ct) (p1 : Rp), j ≤ r ∧ s82 = .int .i64 j ∧ Hid (Both [b16, t2, cm2, mk2, b8, t, cm, mk] w wr t cm mk T1 p1) ∧ Hid (Both [b16, t2, cm2, mk2, b8, t, cm, mk] w wr t2 cm2 mk2 T p) ∧ Hid (Bx wr b8 (refL T1 p1)) ∧ Hid (Bx wr b16 (refL T p))) (fun s82 _ => r - (intOf s82).toNat)
        case atStart => exact ⟨0, T, p, Nat.zero_le _, rfl, HA0, HC0, HE0, HF0⟩
        case round =>
          clear HA0 HC0 HE0 HF0
          obtain ⟨j, T1, p1, hj, rfl, hA, hC, hE, hF⟩ := hrel
          by_cases hlj : j < r
          · have hy : l[k + j]? = some (l[k + j]'(by have := Hl.out; have := Hr.out; omega)) := List.getElem?_eq_getElem _
            generalize (l[k + j]'(by have := Hl.out; have := Hr.out; omega)) = d at hy
            obtain ⟨o1, m1, c1, D0⟩ := Hc.out (k + j) d hy
            have D1 := D0.keep hA.out.gr
            have eo : off + (k + j) * 5 = off + k * 5 + j * 5 := by omega
            rw [eo] at D1
            clear eo
            have hI := run_do (oa := tailD oa k cap) (n := r) (b := b) (off := off + k * 5) (cap - k) (fun _ => tailD_at (Ho.out (by have := Hr.out; omega)) (show k < n by have := Hr.out; omega) hcl) hlj
            have Hy := Lib.hid hy
            have Z := (Bx.new wr zDo.toArray 36 rfl).of (us := zDo) (by simp)
            have HD := Lib.hid (show WritesAt w o1 m1 c1 d.l ∧ (Lit.int .i64 d.n).wf = true from ⟨D0.ws, D0.wn⟩)
            clear hy D0
            go_upto_region 17 with (first | (refine wpList_load_mid rfl 36 _ rfl _ _ rfl _ _ (D1).rng Tryd.underlying36 rfl (by kernel_rfl) ?_) | ((with_reducible refine wpList_store_box (ty := 36) (Z) ((doL d o1 m1 c1)) ?_ ?_ ?_ ?_ ?_ ?_); (focus (exact rfl)); (focus (exact ⟨_, _, rfl, rfl, rfl⟩)); (focus (exact rfl)); (focus kernel_rfl); (focus kernel_rfl)))
            have B11 := Z.setAll (us := doL d o1 m1 c1) rfl
            have hg5 : Gr wr ((wr.alloc (.cells zDo.toArray 36)).setCells wr.heap.size 0 (doL d o1 m1 c1)) := ((Gr.refl wr).alloc _).setCells (Nat.le_refl _) _ _
            have E5 := hE.out.keep hg5
            have hA5 := hA.out.keep hg5
            have HC5 := Lib.hid (hC.out.keep hg5)
            have HF5 := Lib.hid (hF.out.keep hg5)
            have HDo := Lib.hid (does_v hA5 d HD.out.1 (Hf.out.get Hy.out) HD.out.2)
            have HA5 := Lib.hid hA5
            clear Z D1 hI hE hA hC hF hg5 hA5
            generalize (wr.alloc (.cells zDo.toArray 36)).setCells wr.heap.size 0 (doL d o1 m1 c1) = w5 at *
            generalize wr.heap.size = b11 at *
            (try simp only [Act.put])
            go_upto_region 18 with (first | ((with_reducible refine wpList_load_box (ty := 31) (E5) ?_ ?_ Tryd.underlying31 ?_ ?_ ?_); (focus (exact rfl)); (focus (exact ⟨_, rfl, rfl⟩)); (focus (exact rfl)); (focus kernel_rfl)) | ((with_reducible refine wpList_load_box (ty := 36) (B11) ?_ ?_ Tryd.underlying36 ?_ ?_ ?_); (focus (exact rfl)); (focus (exact ⟨_, rfl, rfl⟩)); (focus (exact rfl)); (focus kernel_rfl)) | (go_at_call 10; (with_reducible refine HDo.out.mono ?_); rintro e w6 ⟨p', rfl, hT6, hR6, hM6⟩; (have HT6 := Lib.hid hT6); (have HR6 := Lib.hid hR6); (have HM6 := Lib.hid hM6); (have E6 := hM6.box (by simp only [List.mem_cons, List.not_mem_nil, or_false, not_or]; omega) E5); clear hT6 hR6 hM6) | ((with_reducible refine wpList_store_box (ty := 31) (E6) ((refL (stp T1 d) p')) ?_ ?_ ?_ ?_ ?_ ?_); (focus (exact rfl)); (focus (exact ⟨_, _, rfl, rfl, rfl⟩)); (focus (exact rfl)); (focus kernel_rfl); (focus kernel_rfl)))
            have hin : ∀ b ∈ [t, cm, mk], b ∈ [b16, t2, cm2, mk2, b8, t, cm, mk] := fun b hb => by
              simp only [List.mem_cons, List.not_mem_nil, or_false] at hb ⊢
              omega
            have hbt := HA5.out.bt
            have hbc := HA5.out.bc
            have hbm := HA5.out.bm
            have HC6 := Lib.hid (HC5.out.other HM6.out hin (by simp only [List.mem_cons, List.not_mem_nil, or_false]; omega) (by simp only [List.mem_cons, List.not_mem_nil, or_false]; omega) (by simp only [List.mem_cons, List.not_mem_nil, or_false]; omega) (fun x hx => by simp only [List.mem_cons, List.not_mem_nil, or_false] at hx; omega))
            have HF6 := Lib.hid (HM6.out.box (by simp only [List.mem_cons, List.not_mem_nil, or_false, not_or]; omega) HF5.out)
            have HA6 := Lib.hid (HA5.out.next HT6.out HR6.out HM6.out (stp_ok HA5.out.ok (Hf.out.get Hy.out) HD.out.2))
            have hM8 : Mod [b8] w6 (w6.setCells b8 0 (refL (stp T1 d) p')) := Mod.setCells (by simp) _ _ _
            have HA8 := Lib.hid (HA6.out.other hM8 (by simp) (by simp only [List.mem_singleton]; omega) (by simp only [List.mem_singleton]; omega) (by simp only [List.mem_singleton]; omega) (fun x hx => by rw [List.mem_singleton] at hx; omega))
            have HC8 := Lib.hid (HC6.out.other hM8 (by simp) (by simp only [List.mem_singleton]; omega) (by simp only [List.mem_singleton]; omega) (by simp only [List.mem_singleton]; omega) (fun x hx => by rw [List.mem_singleton] at hx; omega))
            have HE9 := Lib.hid (E6.setAll (us := refL (stp T1 d) p') rfl)
            have HF9 := Lib.hid (hM8.box (by simp only [List.mem_singleton]; omega) HF6.out)
            clear E6 E5 B11 HA5 HA6 HC5 HC6 HF5 HF6 HT6 HR6 HM6 HDo hM8 hin hbt hbc hbm
            generalize w6.setCells b8 0 (refL (stp T1 d) p') = w8 at *
            generalize stp T1 d = T' at *
            (try simp only [Act.put])
            go_wp2_with fail
            go_roundw
            case rel => exact ⟨j + 1, T', p', by omega, by go_num, HA8, HC8, HE9, HF9⟩
            case measure => simp [intOf]; omega
          · obtain rfl : j = r := by omega
            have HA1 := hA
            have HC1 := hC
            have HE1 := hE
            have HF1 := hF
            clear hA hC hE hF
            go_wp2_with fail
            go_loopw [19] (fun s19 wr => ∃ (i : Nat) (x : Int) (T2 : Ct) (p2 : Rp), i ≤ j ∧ s19 = .int .i64 x ∧ x = (k : Int) + (i : Int) - 1 ∧ Hid (Both [b16, t2, cm2, mk2, b8, t, cm, mk] w wr t cm mk T1 p1) ∧ Hid (Both [b16, t2, cm2, mk2, b8, t, cm, mk] w wr t2 cm2 mk2 T2 p2) ∧ Hid (Bx wr b8 (refL T1 p1)) ∧ Hid (Bx wr b16 (refL T2 p2))) (fun s19 _ => (intOf s19 + 1 - (k : Int)).toNat)
            case atStart => exact ⟨j, _, T, p, Nat.le_refl _, rfl, by have := Hr.out; omega, HA1, HC1, HE1, HF1⟩
            case round =>
              clear HA1 HC1 HE1 HF1
              obtain ⟨i, x, T2, p2, hi, rfl, hx, hA, hC, hE, hF⟩ := hrel
              cases i with
              | zero =>
                have hdx : decide ((k : Int) ≤ x) = false := by simp; omega
                have hdy : ¬ (k : Int) ≤ x := by omega
                have HAl1 := Lib.hid (all_v hA.out.tab hA.out.ref hA.out.ok hA.out.gr (hA.out.gr.keep Hh.out))
                have HAl2 := Lib.hid fun w9 (hg : Gr wr w9) => all_v (hC.out.tab.keep hg) (hC.out.ref.keep hg) hC.out.ok (hC.out.gr.trans hg) ((hC.out.gr.trans hg).keep Hh.out)
                have HgA := Lib.hid hA.out.gr
                have E8 := hE.out
                have E16 := hF.out
                have y0 := E16.cell 0 rfl
                have y1 := E16.cell 1 rfl
                have y2 := E16.cell 2 rfl
                have y3 := E16.cell 3 rfl
                have y4 := E16.cell 4 rfl
                have y5 := E16.cell 5 rfl
                clear hA hC hE hF hx
                go_wp2_with (first | ((with_reducible refine wpList_load_box (ty := 31) (E8) ?_ ?_ Tryd.underlying31 ?_ ?_ ?_); (focus (exact rfl)); (focus (exact ⟨_, rfl, rfl⟩)); (focus (exact rfl)); (focus kernel_rfl)) | (go_at_call 11; (with_reducible refine HAl1.out.mono ?_); rintro e w9 ⟨rfl, hg9⟩; (have y0 := hg9.keep y0); (have y1 := hg9.keep y1); (have y2 := hg9.keep y2); (have y3 := hg9.keep y3); (have y4 := hg9.keep y4); (have y5 := hg9.keep y5)) | (go_at_call 11; (with_reducible refine (HAl2.out _ hg9).mono ?_); rintro e w10 ⟨rfl, hg10⟩) | (go_at_call 7; (with_reducible refine (awake_any _).mono ?_); rintro e w11 ⟨rfl, hg11⟩))
                go_ret
                exact ⟨rfl, ((HgA.out.trans hg9).trans hg10).trans hg11⟩
              | succ i =>
                obtain ⟨s, hs⟩ : ∃ s, s = k + i := ⟨_, rfl⟩
                obtain rfl : x = (s : Int) := by omega
                have hks : k ≤ s := by omega
                have hsn : s < n := by have := Hr.out; omega
                have hdx : decide ((k : Int) ≤ (s : Int)) = true := by simp; omega
                have Hs := Lib.hid hs
                have Hi := Lib.hid hi
                clear hx hs hi
                have hy : l[s]? = some (l[s]'(by have := Hl.out; omega)) := List.getElem?_eq_getElem _
                generalize (l[s]'(by have := Hl.out; omega)) = d at hy
                obtain ⟨o1, m1, c1, D0⟩ := Hc.out s d hy
                have D1 := Lib.hid (D0.keep hA.out.gr)
                have hI := run_do cap (fun _ => Ho.out (by omega)) hsn
                have HD0 := Lib.hid D0.rng
                have Hy := Lib.hid hy
                have HD := Lib.hid (show WritesAt w o1 m1 c1 d.l ∧ (Lit.int .i64 d.n).wf = true from ⟨D0.ws, D0.wn⟩)
                clear hy D0
                go_upto_region 22 with fail
                have hd4 : Gr wr wr.drew := (Gr.refl wr).drew
                have HA4 := Lib.hid (hA.out.keep hd4)
                have hC4 := hC.out.keep hd4
                have HE4 := Lib.hid (hE.out.keep hd4)
                have HF4 := Lib.hid (hF.out.keep hd4)
                have D4 := Lib.hid (hd4.range D1.out.rng)
                have HDo := Lib.hid (does_v hC4 d HD.out.1 (Hf.out.get Hy.out) HD.out.2)
                have HC4 := Lib.hid hC4
                clear hA hC hE hF D1 hC4 hd4
                refine wp_region_held_drew (S := fun w' => w'.rangeAt b (off + s * 5) (doL d o1 m1 c1)) (by kernel_rfl) D4.out (fun hHeld => ?_)
                generalize wr.drew = w4 at *
                refine' wpAnyH_take (i := 0) (oi := { dst := some 103, op := _, type := _, pos := _, after := _, guard := _ }) (v := .pointer (some ⟨t2, 0, none⟩)) rfl (by kernel_rfl) (by kernel_rfl) (by kernel_rfl) (fun _ _ _ h => h) (Or.inl ⟨by rfl, ?_⟩) hHeld ?_
                · (intro w hSw; go_simp)
                (try simp only [Act.put, List.setIfInBounds_toArray, List.set_cons_zero, List.set_cons_succ])
                refine' wpAnyH_take (i := 2) (oi := { dst := some 105, op := _, type := _, pos := _, after := _, guard := _ }) (v := .slice oa n cap) rfl (by kernel_rfl) (by kernel_rfl) (by kernel_rfl) (fun _ _ _ h => h) (Or.inl ⟨by rfl, ?_⟩) hHeld ?_
                · (intro w hSw; go_simp)
                (try simp only [Act.put, List.setIfInBounds_toArray, List.set_cons_zero, List.set_cons_succ])
                refine' wpAnyH_take (i := 3) (oi := { dst := some 106, op := _, type := _, pos := _, after := _, guard := _ }) (v := .int .i64 (s : Int)) rfl (by kernel_rfl) (by kernel_rfl) (by kernel_rfl) (fun _ _ _ h => h) (Or.inl ⟨by rfl, ?_⟩) hHeld ?_
                · (intro w hSw; go_simp)
                (try simp only [Act.put, List.setIfInBounds_toArray, List.set_cons_zero, List.set_cons_succ])
                refine' wpAnyH_take (i := 4) (oi := { dst := some 107, op := _, type := _, pos := _, after := _, guard := _ }) (v := .pointer (some ⟨b, off + s * 5, none⟩)) rfl (by kernel_rfl) (by kernel_rfl) (by kernel_rfl) (fun _ _ _ h => h) (Or.inl ⟨by rfl, ?_⟩) hHeld ?_
                · (intro w hSw; go_simp)
                (try simp only [Act.put, List.setIfInBounds_toArray, List.set_cons_zero, List.set_cons_succ])
                refine' wpAnyH_take (i := 5) (oi := { dst := some 108, op := _, type := _, pos := _, after := _, guard := _ }) (v := _) rfl (by kernel_rfl) (by kernel_rfl) (by kernel_rfl) (fun _ _ _ h => h) (yieldsIf_load_mid (by rfl) _ _ rfl _ _ rfl _ _ (fun w h => h) Tryd.underlying36 rfl (by kernel_rfl)) hHeld ?_
                (try simp only [Act.put, List.setIfInBounds_toArray, List.set_cons_zero, List.set_cons_succ])
                refine wpAnyH_ready (rs := [1]) (by kernel_rfl) (by simp) ?_
                refine AllReadyH.cons (o := { dst := some 104, op := _, type := _, pos := _, after := _, guard := _ }) rfl (fun K hK => ?_) AllReadyH.nil
                refine step_wanted (by rfl) ?_
                refine wp_load_mid _ _ rfl _ _ rfl _ _ HF4.out.rng Tryd.underlying31 rfl (by kernel_rfl) ?_
                simp only [Act.put, List.setIfInBounds_toArray, List.set_cons_zero, List.set_cons_succ, List.toList_toArray]
                refine hK.out _ _ (hHeld) (fun hHeld => ?_)
                clear hK K
                (try simp only [Act.put, List.setIfInBounds_toArray, List.set_cons_zero, List.set_cons_succ])
                refine wpAnyH_ready (rs := [6]) (by kernel_rfl) (by simp) ?_
                refine AllReadyH.cons (o := { dst := some 109, op := _, type := _, pos := _, after := _, guard := _ }) rfl (fun K hK => ?_) AllReadyH.nil
                refine step_wanted (by rfl) ?_
                go_simp
                go_at_call 10
                with_reducible refine HDo.out.mono ?_
                rintro e w6 ⟨p', rfl, hT6, hR6, hM6⟩
                have HT6 := Lib.hid hT6
                have HR6 := Lib.hid hR6
                have HM6 := Lib.hid hM6
                have hbt := HC4.out.bt
                have hbc := HC4.out.bc
                have hbm := HC4.out.bm
                have hWt := HA4.out.gr
                clear hT6 hR6 hM6
                have HF6 := Lib.hid (HM6.out.box (by simp only [List.mem_cons, List.not_mem_nil, or_false, not_or]; omega) HF4.out)
                have HG6 := Lib.hid (HM6.out.gr hWt (fun x hx => by simp only [List.mem_cons, List.not_mem_nil, or_false] at hx; omega))
                refine hK.out _ _ (HG6.out.range HD0.out) (fun hHeld => ?_)
                clear hK K
                (try simp only [Act.put, List.setIfInBounds_toArray, List.set_cons_zero, List.set_cons_succ])
                refine' wpAnyH_take (i := 7) (oi := { dst := some 102, op := _, type := _, pos := _, after := _, guard := _ }) (v := .tuple #[.agg (refL (stp T2 d) p').toArray, .bool true]) rfl (by kernel_rfl) (by kernel_rfl) (by kernel_rfl) (fun _ _ _ h => h) (Or.inl ⟨by rfl, ?_⟩) hHeld ?_
                · (intro w hSw; go_simp)
                (try simp only [Act.put, List.setIfInBounds_toArray, List.set_cons_zero, List.set_cons_succ])
                refine' wpAnyH_take (i := 8) (oi := { dst := some 110, op := _, type := _, pos := _, after := _, guard := _ }) (v := .agg (refL (stp T2 d) p').toArray) rfl (by kernel_rfl) (by kernel_rfl) (by kernel_rfl) (fun _ _ _ h => h) (Or.inl ⟨by rfl, ?_⟩) hHeld ?_
                · (intro w hSw; go_simp)
                (try simp only [Act.put, List.setIfInBounds_toArray, List.set_cons_zero, List.set_cons_succ])
                refine' wpAnyH_take (i := 9) (oi := { dst := some 111, op := _, type := _, pos := _, after := _, guard := _ }) (v := .bool true) rfl (by kernel_rfl) (by kernel_rfl) (by kernel_rfl) (fun _ _ _ h => h) (Or.inl ⟨by rfl, ?_⟩) hHeld ?_
                · (intro w hSw; go_simp)
                (try simp only [Act.put, List.setIfInBounds_toArray, List.set_cons_zero, List.set_cons_succ])
                have hin : ∀ b ∈ [t2, cm2, mk2], b ∈ [b16, t2, cm2, mk2, b8, t, cm, mk] := fun b hb => by
                  simp only [List.mem_cons, List.not_mem_nil, or_false] at hb ⊢
                  omega
                have HA6 := Lib.hid (HA4.out.other HM6.out hin (by simp only [List.mem_cons, List.not_mem_nil, or_false]; omega) (by simp only [List.mem_cons, List.not_mem_nil, or_false]; omega) (by simp only [List.mem_cons, List.not_mem_nil, or_false]; omega) (fun x hx => by simp only [List.mem_cons, List.not_mem_nil, or_false] at hx; omega))
                have HE6 := Lib.hid (HM6.out.box (by simp only [List.mem_cons, List.not_mem_nil, or_false, not_or]; omega) HE4.out)
                have HC6 := Lib.hid (HC4.out.next HT6.out HR6.out HM6.out (stp_ok HC4.out.ok (Hf.out.get Hy.out) HD.out.2))
                have hM8 : Mod [b16] w6 (w6.setCells b16 0 (refL (stp T2 d) p')) := Mod.setCells (by simp) _ _ _
                have HA8 := Lib.hid (HA6.out.other hM8 (by simp) (by simp only [List.mem_singleton]; omega) (by simp only [List.mem_singleton]; omega) (by simp only [List.mem_singleton]; omega) (fun x hx => by rw [List.mem_singleton] at hx; omega))
                have HC8 := Lib.hid (HC6.out.other hM8 (by simp) (by simp only [List.mem_singleton]; omega) (by simp only [List.mem_singleton]; omega) (by simp only [List.mem_singleton]; omega) (fun x hx => by rw [List.mem_singleton] at hx; omega))
                have HF9 := Lib.hid (HF6.out.setAll (us := refL (stp T2 d) p') rfl)
                have HE9 := Lib.hid (hM8.box (by simp only [List.mem_singleton]; omega) HE6.out)
                have HG8 := Lib.hid (hM8.gr HG6.out (fun x hx => by simp only [List.mem_singleton] at hx; omega))
                have hM6 := HF6.out.may
                refine wpAnyH_ready (rs := [10]) (by kernel_rfl) (by simp) ?_
                refine AllReadyH.cons (o := { dst := none, op := _, type := _, pos := _, after := _, guard := _ }) rfl (fun K hK => ?_) AllReadyH.nil
                refine step_wanted (by rfl) ?_
                refine wp_store_mid _ _ _ rfl _ _ (refL (stp T2 d) p').toArray rfl rfl hM6 (by kernel_rfl) (by simp [Value.oneCell']) ?_
                simp only [Act.put, List.setIfInBounds_toArray, List.set_cons_zero, List.set_cons_succ, List.toList_toArray]
                clear hM6 hHeld
                refine hK.out _ _ (HG8.out.range HD0.out) (fun hHeld => ?_)
                clear hK K hHeld
                clear HA4 HE4 HF4 HC4 HA6 HE6 HF6 HC6 hM8 hin HDo HT6 HR6 HM6 HG6
                generalize w6.setCells b16 0 (refL (stp T2 d) p') = w8 at *
                generalize stp T2 d = T' at *
                refine wpAnyH_done (by kernel_rfl) ?_ _
                go_wp2_with fail
                exact ⟨⟨i, _, T', p', by have := Hi.out; omega, rfl, by have := Hs.out; omega, HA8, HC8, HE9, HF9⟩, by simp [intOf]; omega⟩
theorem copies16f (thr lim : Int) (oa : Option Addr) (n cap : Nat) (l : List Ds) (m : Int) (w : World) (_ : (Lit.int .i64 thr).wf = true) (_ : (Lit.int .i64 lim).wf = true) (h : DosAt w oa n cap l) (hm : (Lit.int .u8 m).wf = true) (hh : w.cell? ⟨0, 0, none⟩ = some handleV) :
    Calls Tryd.prog 5 #[.int .i64 thr, .int .i64 lim, .slice oa n cap, .int .u8 m] w fun e w' => e = .returned (.bool true) ∧ Gr w w' := by
  have h2 : 0 ≤ m ∧ m < 256 := by
    have hw2 : 0 ≤ m ∧ m ≤ 255 := by simpa [Lit.wf, IntKind.min, IntKind.max, IntKind.signed, IntKind.bits] using hm
    omega
  obtain ⟨k, rfl⟩ : ∃ k : Nat, m = k := ⟨m.toNat, by omega⟩
  exact copies16 thr lim oa n cap l k (by omega) w h hh
end Go.Proofs.YtfejdbcfcpmdiaaDoor
