import Derived.Test.YtfejdbcfcpmdiaaDoorDez
namespace Go.Proofs.YtfejdbcfcpmdiaaDoor
set_option linter.unusedVariables false
set_option linter.unusedSimpArgs false
open Go.BigFrame Go.RowKit Go.WideShapes

/-! The law of plays (commits). -/
abbrev zBad (lim : Int) : List Value := [.int .i64 lim, .int .i64 0, .slice none 0 0, .slice none 0 0, .slice none 0 0, .int .i64 (-1)]
theorem FewDs.get {l : List Ds} (h : FewDs l) {k : Nat} {d : Ds} (hd : l[k]? = some d) : FewWs d.l := h.2 d (List.mem_of_getElem? hd)
theorem both_new {w w1 w2 : World} {t cm mk : Nat} {a b : Nat} {p : Rp} (h1 : 1 ≤ a) (h2 : a ≤ 64) (h4 : b ≤ 1099511627776) (hg0 : Gr w w1) (ht : w1.heap.size ≤ t) (hc : w1.heap.size ≤ cm) (hm : w1.heap.size ≤ mk) (hT : TabV [t, cm, mk] w2 t cm mk (newC a b)) (hR : RefV [t, cm, mk] w w2 (newC a b) p) (hg : Gr w w2) (hh : w.cell? ⟨0, 0, none⟩ = some handleV) : Both [t, cm, mk] w w2 t cm mk (newC a b) p :=
  ⟨hT, hR, newC_ok h1 h2 h4, fun x hx => by
    simp only [List.mem_cons, List.not_mem_nil, or_false] at hx
    rcases hx with rfl | rfl | rfl
    · exact hT.lt
    · exact hT.lt2
    · exact hT.lt3, hg, Nat.le_trans hg0.le ht, Nat.le_trans hg0.le hc, Nat.le_trans hg0.le hm, hh⟩
set_option maxRecDepth 100000 in
set_option maxHeartbeats 20000000 in
theorem plays16 (thr lim : Int) (oa : Option Addr) (n cap : Nat) (l : List Ds) (w : World) (h : DosAt w oa n cap l) (hh : w.cell? ⟨0, 0, none⟩ = some handleV) :
    Calls Tryd.prog 3 #[.int .i64 thr, .int .i64 lim, .slice oa n cap] w fun e w' => e = .returned (.bool true) ∧ Gr w w' := by
  have hFE := Lib.hid (fews_v oa n cap l w h)
  have Hh := Lib.hid hh
  have hcl := h.cap_le
  have hcm := h.cap_max
  unfold maxLen at hcm
  obtain ⟨b, off, ho, hc⟩ := h.get
  have Ho := Lib.hid ho
  have Hc := Lib.hid hc
  have Hl := Lib.hid h.len
  clear ho hc h hh
  cases hnb : newB thr lim
  · have hP := Lib.hid fun w1 => newP_bad thr lim w1 hnb
    have hN := Lib.hid fun w1 => refNew_bad thr lim w1 hnb
    clear hnb
    go_enter Tryd.func3, Tryd.ntmps3
    go_wp2_with fail
    refine hFE.out.mono ?_
    rintro e w1 ⟨⟨b1, rfl, hb1⟩, hg1⟩
    cases b1
    · go_wp2_with fail
      refine (awake_any _).mono ?_
      rintro e w2 ⟨rfl, hg2⟩
      go_wp2_with fail
      go_ret
      exact ⟨rfl, hg1.trans hg2⟩
    clear hb1
    go_wp2_with (first | (go_at_call 8; (with_reducible refine (hP.out _).mono ?_); rintro e w2 ⟨rfl, rfl⟩) | (go_at_call 9; (with_reducible refine (hN.out _).mono ?_); rintro e w3 ⟨rfl, hg3⟩; have hg13 := hg1.trans hg3) | (go_at_call 7; (with_reducible refine (awake_any _).mono ?_); rintro e w4 ⟨rfl, hg4⟩))
    go_ret
    exact ⟨rfl, (hg13.alloc _).trans hg4⟩
  obtain ⟨a, bl, rfl, rfl, ha1, ha2, hl1, hl2⟩ := newB_nat hnb
  clear hnb
  have hP := Lib.hid fun w1 => newP_v a bl w1 ha1 ha2 hl1 hl2
  have hN := Lib.hid fun (S : List Nat) w1 (hS : ∀ x ∈ S, x < w1.heap.size) => refNew_r (S := S) (W := w) (w := w1) a bl ha1 ha2 hl1 hl2 hS
  go_enter Tryd.func3, Tryd.ntmps3
  go_wp2_with fail
  refine hFE.out.mono ?_
  rintro e w1 ⟨⟨b1, rfl, hb1⟩, hg1⟩
  cases b1
  · go_wp2_with fail
    refine (awake_any _).mono ?_
    rintro e w2 ⟨rfl, hg2⟩
    go_wp2_with fail
    go_ret
    exact ⟨rfl, hg1.trans hg2⟩
  have Hf := Lib.hid (hb1 rfl)
  clear hb1 hFE
  go_wp2_with fail
  refine (hP.out _).mono ?_
  rintro e w2 ⟨t, cm, mk, rfl, ht, hc, hm, hT2, hg2⟩
  have hS2 : ∀ x ∈ [t, cm, mk], x < w2.heap.size := fun x hx => by
    simp only [List.mem_cons, List.not_mem_nil, or_false] at hx
    rcases hx with rfl | rfl | rfl
    · exact hT2.lt
    · exact hT2.lt2
    · exact hT2.lt3
  have hNn := Lib.hid (hN.out [t, cm, mk] w2 hS2)
  have HT2 := Lib.hid hT2
  have tlt := hT2.lt
  have clt := hT2.lt2
  have mlt := hT2.lt3
  clear hN hP hT2
  go_upto_region 5 with (go_at_call 9; (with_reducible refine hNn.out.mono ?_); rintro e w3 ⟨p, rfl, hR3, hg3⟩; (have HR3 := Lib.hid hR3); clear hR3)
  have hgB : Gr w w3 := (hg1.trans hg2).trans hg3
  have hB3 := both_new ha1 ha2 hl2 hg1 ht hc hm (HT2.out.keep hg3) HR3.out hgB Hh.out
  have E8 := (Bx.new w3 (refL (newC a bl) p).toArray 31 rfl).of (us := refL (newC a bl) p) (by simp)
  have hl8 : t < w3.heap.size ∧ cm < w3.heap.size ∧ mk < w3.heap.size := by have := hg3.le; omega
  have hsz4 : (w3.alloc (.cells (refL (newC a bl) p).toArray 31)).heap.size = w3.heap.size + 1 := size_alloc1 _ _
  have hw3 := hgB.le
  have hB4 := hB3.grow (S' := [w3.heap.size, t, cm, mk]) ((Gr.refl w3).alloc (.cells (refL (newC a bl) p).toArray 31)) (by simp) (by simp) (by simp)
    (fun b hb => by
      rcases List.mem_cons.1 hb with rfl | q
      · exact .inr (Nat.le_refl _)
      · exact .inl q)
    (fun b hb => by
      simp only [List.mem_cons, List.not_mem_nil, or_false] at hb
      rcases hb with rfl | rfl | rfl | rfl <;> omega)
  (show Code.wp _ _ _ _ (w3.alloc (.cells (refL (newC a bl) p).toArray 31)))
  have HB4 := Lib.hid hB4
  have HE8 := Lib.hid E8
  clear hB3 hB4 E8 hgB hg3 HR3 HT2 hNn hsz4
  generalize w3.alloc (.cells (refL (newC a bl) p).toArray 31) = w4 at *
  generalize w3.heap.size = b8 at *
  obtain ⟨T0, hT0⟩ : ∃ x, x = newC a bl := ⟨_, rfl⟩
  rw [← hT0] at HB4 HE8
  clear hT0
  (try simp only [Act.put])
  go_wp2_with fail
  go_loopw [44] (fun s44 wr => ∃ (k : Nat) (T : Ct) (p : Rp), k ≤ n ∧ s44 = .int .i64 k ∧ Hid (Both [b8, t, cm, mk] w wr t cm mk T p) ∧ Hid (Bx wr b8 (refL T p))) (fun s44 _ => n - (intOf s44).toNat)
  case atStart => exact ⟨0, T0, p, Nat.zero_le _, rfl, HB4, HE8⟩
  case round =>
    clear HB4 HE8
    obtain ⟨k, T, p, hk, rfl, hB, hE⟩ := hrel
    by_cases hlt : k < n
    · have hy : l[k]? = some (l[k]'(by have := Hl.out; omega)) := List.getElem?_eq_getElem _
      generalize (l[k]'(by have := Hl.out; omega)) = d at hy
      obtain ⟨p1, m1, c1, D0⟩ := Hc.out k d hy
      have D1 := D0.keep hB.out.gr
      have hI := run_do cap Ho.out hlt
      have Hy := Lib.hid hy
      have Z := (Bx.new wr zDo.toArray 36 rfl).of (us := zDo) (by simp)
      have HD := Lib.hid (show WritesAt w p1 m1 c1 d.l ∧ (Lit.int .i64 d.n).wf = true from ⟨D0.ws, D0.wn⟩)
      clear hy D0
      go_upto_region 10 with (first | (refine wpList_load_mid rfl 36 _ rfl _ _ rfl _ _ (D1).rng Tryd.underlying36 rfl (by kernel_rfl) ?_) | ((with_reducible refine wpList_store_box (ty := 36) (Z) ((doL d p1 m1 c1)) ?_ ?_ ?_ ?_ ?_ ?_); (focus (exact rfl)); (focus (exact ⟨_, _, rfl, rfl, rfl⟩)); (focus (exact rfl)); (focus kernel_rfl); (focus kernel_rfl)))
      have B11 := Z.setAll (us := doL d p1 m1 c1) rfl
      have hg5 : Gr wr ((wr.alloc (.cells zDo.toArray 36)).setCells wr.heap.size 0 (doL d p1 m1 c1)) := ((Gr.refl wr).alloc _).setCells (Nat.le_refl _) _ _
      have E5 := hE.out.keep hg5
      have hB5 := hB.out.keep hg5
      have HDo := Lib.hid (does_v hB5 d HD.out.1 (Hf.out.get Hy.out) HD.out.2)
      have HB5 := Lib.hid hB5
      clear Z D1 hI hE hB hg5 hB5
      generalize (wr.alloc (.cells zDo.toArray 36)).setCells wr.heap.size 0 (doL d p1 m1 c1) = w5 at *
      generalize wr.heap.size = b11 at *
      (try simp only [Act.put])
      go_upto_region 11 with (first | ((with_reducible refine wpList_load_box (ty := 31) (E5) ?_ ?_ Tryd.underlying31 ?_ ?_ ?_); (focus (exact rfl)); (focus (exact ⟨_, rfl, rfl⟩)); (focus (exact rfl)); (focus kernel_rfl)) | ((with_reducible refine wpList_load_box (ty := 36) (B11) ?_ ?_ Tryd.underlying36 ?_ ?_ ?_); (focus (exact rfl)); (focus (exact ⟨_, rfl, rfl⟩)); (focus (exact rfl)); (focus kernel_rfl)) | (go_at_call 10; (with_reducible refine HDo.out.mono ?_); rintro e w6 ⟨p', rfl, hT6, hR6, hM6⟩; (have HT6 := Lib.hid hT6); (have HR6 := Lib.hid hR6); (have HM6 := Lib.hid hM6); clear hT6 hR6 hM6))
      have HB6 := Lib.hid (HB5.out.next HT6.out HR6.out HM6.out (stp_ok HB5.out.ok (Hf.out.get Hy.out) HD.out.2))
      have E6 := HM6.out.box (by simp only [List.mem_cons, List.not_mem_nil, or_false, not_or]; omega) E5
      have E12 := (Bx.new w6 (refL (stp T d) p').toArray 31 rfl).of (us := refL (stp T d) p') (by simp)
      have E8 := E6.keep ((Gr.refl w6).alloc (.cells (refL (stp T d) p').toArray 31))
      have HB7 := Lib.hid (HB6.out.keep ((Gr.refl w6).alloc (.cells (refL (stp T d) p').toArray 31)))
      (show Code.wp _ _ _ _ (w6.alloc (.cells (refL (stp T d) p').toArray 31)))
      clear E5 E6 B11 HB5 HB6 HT6 HR6 HM6 HDo
      generalize w6.alloc (.cells (refL (stp T d) p').toArray 31) = w7 at *
      generalize w6.heap.size = b12 at *
      generalize stp T d = T' at *
      (try simp only [Act.put])
      go_upto_region 12 with (first | ((with_reducible refine wpList_load_box (ty := 31) (E12) ?_ ?_ Tryd.underlying31 ?_ ?_ ?_); (focus (exact rfl)); (focus (exact ⟨_, rfl, rfl⟩)); (focus (exact rfl)); (focus kernel_rfl)) | ((with_reducible refine wpList_store_box (ty := 31) (E8) ((refL T' p')) ?_ ?_ ?_ ?_ ?_ ?_); (focus (exact rfl)); (focus (exact ⟨_, _, rfl, rfl, rfl⟩)); (focus (exact rfl)); (focus kernel_rfl); (focus kernel_rfl)))
      have HB8 := Lib.hid (HB7.out.other (S' := [b8]) (w' := w7.setCells b8 0 (refL T' p')) (Mod.setCells (by simp) _ _ _) (by simp) (by simp only [List.mem_singleton]; omega) (by simp only [List.mem_singleton]; omega) (by simp only [List.mem_singleton]; omega) (fun x hx => by rw [List.mem_singleton] at hx; omega))
      have E9 := E8.setAll (us := refL T' p') rfl
      clear E8 E12 HB7
      generalize w7.setCells b8 0 (refL T' p') = w8 at *
      (try simp only [Act.put])
      have HAl := Lib.hid (all_v HB8.out.tab HB8.out.ref HB8.out.ok HB8.out.gr (HB8.out.gr.keep Hh.out))
      have y0 := E9.cell 0 rfl
      have y1 := E9.cell 1 rfl
      have y2 := E9.cell 2 rfl
      have y3 := E9.cell 3 rfl
      have y4 := E9.cell 4 rfl
      have y5 := E9.cell 5 rfl
      go_wp2_with (first | (go_at_call 11; (with_reducible refine HAl.out.mono ?_); rintro e w9 ⟨rfl, hg9⟩))
      have HB9 := Lib.hid (HB8.out.keep hg9)
      have HE9 := Lib.hid (E9.keep hg9)
      go_roundw
      case rel => exact ⟨k + 1, T', p', by omega, by go_num, HB9, HE9⟩
      case measure => simp [intOf]; omega
    · obtain rfl : k = n := by omega
      go_wp2_with (go_at_call 7; (with_reducible refine (awake_any _).mono ?_); rintro e w6 ⟨rfl, hg6⟩)
      go_ret
      exact ⟨rfl, hB.out.gr.trans hg6⟩
theorem plays16f (thr lim : Int) (oa : Option Addr) (n cap : Nat) (l : List Ds) (w : World) (_ : (Lit.int .i64 thr).wf = true) (_ : (Lit.int .i64 lim).wf = true) (h : DosAt w oa n cap l) (hh : w.cell? ⟨0, 0, none⟩ = some handleV) :
    Calls Tryd.prog 3 #[.int .i64 thr, .int .i64 lim, .slice oa n cap] w fun e w' => e = .returned (.bool true) ∧ Gr w w' := plays16 thr lim oa n cap l w h hh
end Go.Proofs.YtfejdbcfcpmdiaaDoor
