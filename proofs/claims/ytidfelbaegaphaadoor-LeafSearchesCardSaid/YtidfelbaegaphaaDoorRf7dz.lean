import Derived.Test.YtidfelbaegaphaaDoorRf7lz
namespace Go.Proofs.YtidfelbaegaphaaDoor
set_option linter.unusedVariables false
set_option linter.unusedSimpArgs false
open Go.BigFrame Go.RowKit Go.WideShapes

set_option maxRecDepth 100000 in
set_option maxHeartbeats 4000000 in
theorem refFold_run (oa : Option Addr) (n cap : Nat) (l : List Ry) (w : World) (h : RecsAt w oa n cap l) (hn : n ≤ 1000) (hrs : ∀ (i : Nat) (y : Ry), l[i]? = some y → y.x.r.rows.length ≤ 100) (hKB : kindsB l) (hPI : posI l) (hn0 : 0 < n) :
    Calls Tryd.prog 10 #[.slice oa n cap] w (RefTells w (foldR (rcs l))) := by
  have HKB := Lib.hid hKB
  have HPosI := Lib.hid hPI
  clear hPI
  have HR2 := Lib.hid (@foldR_last l)
  have HR0 : Hid (n = 0 → foldR (rcs l) = (none, 10)) := Lib.hid fun q => by
    have : l = [] := List.length_eq_zero_iff.1 (by rw [h.len, q])
    rw [this]; exact foldR_nil
  have Hl := Lib.hid h.len
  have Hrs := Lib.hid hrs
  have hcl := h.cap_le
  have hcm := h.cap_max
  unfold maxLen at hcm
  obtain ⟨b, off, ho, hc⟩ := h.get
  have Ho := Lib.hid ho
  have Hc := Lib.hid hc
  clear hrs h ho hc hKB
  generalize foldR (rcs l) = res at *
  have B2 : Bx (w.alloc (.cells #[.string ⟨#[]⟩, .string ⟨#[]⟩, .bool false, .int .i64 0, .slice none 0 0, .bool false] 33)) w.heap.size zL := Bx.new w _ _ rfl
  have hg2 := (Gr.refl w).alloc (.cells #[.string ⟨#[]⟩, .string ⟨#[]⟩, .bool false, .int .i64 0, .slice none 0 0, .bool false] 33)
  go_enter Tryd.func10, Tryd.ntmps10
  go_upto_region 2 with fail
  generalize w.alloc (.cells #[.string ⟨#[]⟩, .string ⟨#[]⟩, .bool false, .int .i64 0, .slice none 0 0, .bool false] 33) = W at *
  have hzlt : w.heap.size < W.heap.size := B2.lt (by simp)
  go_loopw [4] (fun s4 wr => ∃ k : Nat, k ≤ n ∧ s4 = .int .i64 k ∧ W = wr) (fun s4 _ => n - (intOf s4).toNat)
  case atStart => exact ⟨0, Nat.zero_le _, rfl, rfl⟩
  case round =>
    obtain ⟨k, hk, rfl, rfl⟩ := hrel
    by_cases hlt : k < n
    · have hy : l[k]? = some (l[k]'(by have := Hl.out; omega)) := List.getElem?_eq_getElem _
      generalize (l[k]'(by have := Hl.out; omega)) = y at hy
      obtain ⟨o1, n1, c1, o2, n2, c2, R⟩ := Hc.out k y hy
      have R1 := R.keep hg2
      have hI := run_rec cap Ho.out hlt
      have a0 : W.cell? ⟨b, off + k * 15, none⟩ = some (.int .i64 y.x.r.kind) := R1.cell 0 rfl
      have Hy := Lib.hid hy
      clear hy R R1
      have h16 := HKB.out k y Hy.out
      have h1 : 1 ≤ y.x.r.kind := h16.1
      have h6 : y.x.r.kind ≤ 6 := h16.2
      clear h16
      go_wp2_with fail
      go_roundw
      case rel => exact ⟨k + 1, by omega, by go_num, trivial⟩
      case measure => simp [intOf]; omega
    · obtain rfl : k = n := by omega
      have hK := HKB
      rcases Nat.eq_zero_or_pos k with h0 | hpos
      · omega
      · have hyb : l[k - 1]? = some (l[k - 1]'(by have := Hl.out; omega)) := List.getElem?_eq_getElem _
        generalize (l[k - 1]'(by have := Hl.out; omega)) = yb at hyb
        have hFl := Lib.hid (HR2.out hK.out (by rw [Hl.out]; exact hyb))
        have Hyb := Lib.hid hyb
        have hk0 : ((k : Int) == 0) = false := by rw [beq_eq_false_iff_ne]; omega
        clear hyb HR0 HR2
        go_wp2_with fail
        go_loopw [5] (fun s5 wr => ∃ j : Nat, j ≤ k ∧ s5 = .int .i64 j ∧ Dr W wr) (fun s5 _ => k - (intOf s5).toNat)
        case atStart => exact ⟨0, Nat.zero_le _, rfl, Dr.refl _⟩
        case round =>
          obtain ⟨j, hj, rfl, hd⟩ := hrel
          by_cases hlt2 : j < k
          · have hy : l[j]? = some (l[j]'(by have := Hl.out; omega)) := List.getElem?_eq_getElem _
            generalize (l[j]'(by have := Hl.out; omega)) = y at hy
            obtain ⟨o1, n1, c1, o2, n2, c2, R⟩ := Hc.out j y hy
            have R1 := R.keep (hg2.trans hd.gr)
            have hI := run_rec cap Ho.out hlt2
            have a0 : wr.cell? ⟨b, off + j * 15, none⟩ = some (.int .i64 y.x.r.kind) := R1.cell 0 rfl
            have Hy := Lib.hid hy
            clear hy R R1
            have hgood := HPosI.out j y Hy.out
            rw [Hl.out] at hgood
            have t2 : ((j : Int) == (k : Int) - 1) = (y.x.r.kind == 1) := by rw [Bool.eq_iff_iff, beq_iff_eq, beq_iff_eq, hgood.1]; omega
            have t6 : ((y.x.r.kind == 1) != (y.x.r.kind == 1)) = false := by cases (y.x.r.kind == 1) <;> rfl
            have t3 : (y.x.r.kind == 5) = true → ¬ 0 < j := fun q => by rw [beq_iff_eq] at q; have := hgood.2 q; omega
            clear hgood
            cases t5 : (y.x.r.kind == 5)
            all_goals
              rw [t5] at t3
              try (have t4 := t3 rfl)
              clear t3
              go_wp2_with fail
              go_roundw
              case rel => exact ⟨j + 1, by omega, by go_num, hd⟩
              case measure => simp [intOf]; omega
          · obtain rfl : j = k := by omega
            have HPos := HPosI
            obtain ⟨o1, n1, c1, o2, n2, c2, R⟩ := Hc.out (j - 1) yb Hyb.out
            have R1 := R.keep (hg2.trans hd.gr)
            have HR0 := Lib.hid R.rows
            have HRz := Lib.hid R.size
            have hI := fun w1 => run_recI cap Ho.out (k := (j : Int) - 1) (by omega) (by omega) w1
            have e1 : ((j : Int) - 1).toNat = j - 1 := by omega
            rw [e1] at hI
            clear e1 R
            have Z6 := (Bx.new wr zR.toArray 49 rfl).of (us := zR) (by simp)
            go_upto_region 16 with (first | (refine wpList_load_mid rfl 49 _ rfl _ _ rfl _ _ (R1).rng Tryd.underlying49 rfl (by kernel_rfl) ?_) | ((with_reducible refine wpList_store_box (ty := 49) (Z6) ((xL yb.x o1 n1 c1 o2 n2 c2)) ?_ ?_ ?_ ?_ ?_ ?_); (focus (exact rfl)); (focus (exact ⟨_, _, rfl, rfl, rfl⟩)); (focus (exact rfl)); (focus kernel_rfl); (focus kernel_rfl)))
            have B6 := Z6.setAll (us := xL yb.x o1 n1 c1 o2 n2 c2) rfl
            have hg6 : Gr W ((wr.alloc (.cells zR.toArray 49)).setCells wr.heap.size 0 (xL yb.x o1 n1 c1 o2 n2 c2)) := (hd.gr.alloc _).setCells hd.gr.le _ _
            clear Z6 hI R1
            generalize (wr.alloc (.cells zR.toArray 49)).setCells wr.heap.size 0 (xL yb.x o1 n1 c1 o2 n2 c2) = W6 at *
            generalize wr.heap.size = b6 at *
            have y1 := B6.cell 1 rfl
            have y2 := B6.cell 2 rfl
            have y3 := B6.cell 3 rfl
            have y4 := B6.cell 4 rfl
            have y5 := B6.cell 5 rfl
            have Z7 := (Bx.new W6 zL.toArray 33 rfl).of (us := zL) (by simp)
            go_upto_region 17 with ((with_reducible refine wpList_store_box (ty := 33) (Z7) ((vL (baseV yb.x.r) o1 n1 c1)) ?_ ?_ ?_ ?_ ?_ ?_); (focus (exact rfl)); (focus (exact ⟨_, _, rfl, rfl, rfl⟩)); (focus (exact rfl)); (focus kernel_rfl); (focus kernel_rfl))
            have B7 := Z7.setAll (us := vL (baseV yb.x.r) o1 n1 c1) rfl
            have hg7 : Gr W6 ((W6.alloc (.cells zL.toArray 33)).setCells W6.heap.size 0 (vL (baseV yb.x.r) o1 n1 c1)) := ((Gr.refl _).alloc _).setCells (Nat.le_refl _) _ _
            have hb7 := hg6.le
            clear Z7
            generalize (W6.alloc (.cells zL.toArray 33)).setCells W6.heap.size 0 (vL (baseV yb.x.r) o1 n1 c1) = W7 at *
            generalize W6.heap.size = b7 at *
            have y1 := hg7.keep y1
            have y2 := hg7.keep y2
            have y3 := hg7.keep y3
            have y5 := hg7.keep y5
            have hg7 := hg6.trans hg7
            have hRw := HR0.out.keep (hg2.trans hg7)
            obtain ⟨S0, hS0⟩ : ∃ S0 : Bool, S0 = soundR yb.x.r.rows yb.x.r.low yb.x.r.high yb.x.r.unb := ⟨_, rfl⟩
            have HS0 := Lib.hid hS0
            have hSo := refSound_any yb.x.r.rows o1 n1 c1 yb.x.r.low yb.x.r.high yb.x.r.unb W7 hRw HRz.out.low HRz.out.high
            rw [← hS0] at hSo
            have hSo := Lib.hid hSo
            clear hS0 hRw B6
            go_upto_region 18 with (go_at_call 25; (with_reducible refine hSo.out.mono ?_); rintro e wc ⟨rfl, hg8⟩)
            have B7 := B7.keep hg8
            have hg8 := hg7.trans hg8
            clear y1 y2 y3 y4 y5 hSo
            have HFl : Hid (res = if S0 = true then (match viewAtR l yb 0 with | some v => (some v, (0 : Int)) | none => (none, 10)) else (none, 10)) := Lib.hid (by
              rw [hFl.out]
              cases S0
              · rw [pick_neg (fun q => by rw [← HS0.out] at q; exact absurd q.2 (by decide))]; rfl
              · rw [pick_pos ⟨HPos.out, HS0.out.symm⟩]; rfl)
            have hst : Hid (RefRd w b7 l yb res ((j : Int) - 2) S0 wc) := Lib.hid (by
              unfold RefRd
              cases S0
              · rw [if_neg (by decide), HFl.out, if_neg (by decide)]
              · rw [if_pos rfl]
                have hlj := Hl.out
                have e2 : ((j : Int) - 2 + 1).toNat = j - 1 := by omega
                have hr1 := Hrs.out _ _ Hyb.out
                exact ⟨baseV yb.x.r, o1, n1, c1, by rw [e2]; exact viewAtR_end l yb (by omega), B7, .inl HR0.out, ⟨HRz.out.low, HRz.out.high⟩, by rw [e2]; show yb.x.r.rows.length ≤ _; omega⟩)
            clear B7 hFl
            go_wp2_with fail
            go_loopw [8, 9] (fun s8 s9 wr => ∃ (ok : Bool) (i : Int), s8 = .bool ok ∧ s9 = .int .i64 i ∧ -1 ≤ i ∧ i ≤ (j : Int) - 2 ∧ Hid (ok = true → S0 = true) ∧ Hid (RefRd w b7 l yb res i ok wr) ∧ Gr W wr) (fun _ s9 _ => (intOf s9 + 1).toNat)
            case atStart => exact ⟨S0, (j : Int) - 2, rfl, rfl, by omega, by omega, Lib.hid id, hst, hg8⟩
            case round =>
              obtain ⟨ok, i, rfl, rfl, hi0, hi1, hSok, hRd, hg⟩ := hrel
              have B3 := B2.keep hg
              cases ok
              · have hno : res = (none, 10) := by
                  have := hRd.out
                  unfold RefRd at this
                  rwa [if_neg (by decide)] at this
                have Hno := Lib.hid hno
                clear hno hst hRd
                by_cases hi : 0 ≤ i
                all_goals
                  go_wp2_with ((with_reducible refine wpList_store_box (ty := 33) (B3) (zL) ?_ ?_ ?_ ?_ ?_ ?_); (focus (exact rfl)); (focus (exact ⟨_, _, rfl, rfl, rfl⟩)); (focus (exact rfl)); (focus kernel_rfl); (focus kernel_rfl))
                  refine bodyPost_ret ((B3.setAll (us := zL) rfl).ret2 rfl _ rfl rfl Tryd.underlying33 rfl (by kernel_rfl)) rfl ?_
                  rw [Hno.out]
                  exact ⟨rfl, (hg2.trans hg).setCells (Nat.le_refl _) _ _⟩
              · have hRA := hRd.out
                unfold RefRd at hRA
                rw [if_pos rfl] at hRA
                obtain ⟨v, o, m, c, hA⟩ := hRA
                have HA := Lib.hid hA
                have HFv : Hid (res = (match viewAtR l yb 0 with | some v => (some v, 0) | none => (none, 10) : Option Vw × Int)) := Lib.hid (by rw [HFl.out, if_pos (hSok.out rfl)])
                clear hA hst hRd
                by_cases hi : 0 ≤ i
                · have hlj := Hl.out
                  have hil : i.toNat < l.length := by omega
                  have hy : l[i.toNat]? = some (l[i.toNat]'hil) := List.getElem?_eq_getElem _
                  generalize l[i.toNat]'hil = y at hy
                  obtain ⟨p1, q1, d1, p2, q2, d2, R⟩ := Hc.out i.toNat y hy
                  have R1 := R.keep (hg2.trans hg)
                  have hI := fun w1 => run_recI cap Ho.out (k := i) hi (by omega) w1
                  have hk6 := hK.out i.toNat y hy
                  have hp15 := HPos.out i.toNat y hy
                  have hk1 : y.x.r.kind ≠ 1 := fun q => by have := hp15.1.1 q; omega
                  have hr1 := Hrs.out _ _ hy
                  have hfew := HA.out.few
                  have hmc : m ≤ 1000000 := by
                    have := (HA.out.rows.rows (hg2.trans hg)).len
                    have h5 : 101 * (l.length - (i + 1).toNat) ≤ 101 * 1000 := Nat.mul_le_mul_left _ (by omega)
                    omega
                  have hq1 : q1 ≤ 100 := by have := R1.rows.len; omega
                  have Hrw := Lib.hid R1.rows
                  have Hz := Lib.hid R.size
                  have HSt := Lib.hid fun (wx : World) (ok : Bool) h1 h2 => rd_step (w := w) (wx := wx) (b7 := b7) (res := res) HA.out.at' hi hy (by omega) HA.out.few HA.out.size R.size hr1 HFv.out ok h1 h2
                  have hb7l : b7 < wr.heap.size := HA.out.box.lt (by simp)
                  clear R hp15 hr1 hfew hil hy
                  have Z10 := (Bx.new wr zR.toArray 49 rfl).of (us := zR) (by simp)
                  go_upto_region 22 with (first | (refine wpList_load_mid rfl 49 _ rfl _ _ rfl _ _ (R1).rng Tryd.underlying49 rfl (by kernel_rfl) ?_) | ((with_reducible refine wpList_store_box (ty := 49) (Z10) ((xL y.x p1 q1 d1 p2 q2 d2)) ?_ ?_ ?_ ?_ ?_ ?_); (focus (exact rfl)); (focus (exact ⟨_, _, rfl, rfl, rfl⟩)); (focus (exact rfl)); (focus kernel_rfl); (focus kernel_rfl)))
                  have B10 := Z10.setAll (us := xL y.x p1 q1 d1 p2 q2 d2) rfl
                  have hg10 : Gr wr ((wr.alloc (.cells zR.toArray 49)).setCells wr.heap.size 0 (xL y.x p1 q1 d1 p2 q2 d2)) := ((Gr.refl _).alloc _).setCells (Nat.le_refl _) _ _
                  clear Z10
                  have B7 := HA.out.box.keep hg10
                  have HRo := Lib.hid (HA.out.rows.keep hg10)
                  have Hrw := Lib.hid (Hrw.out.keep hg10)
                  have hgx := hg.trans hg10
                  have hb7c : b7 < ((wr.alloc (.cells zR.toArray 49)).setCells wr.heap.size 0 (xL y.x p1 q1 d1 p2 q2 d2)).heap.size := Nat.lt_of_lt_of_le hb7l hg10.le
                  generalize (wr.alloc (.cells zR.toArray 49)).setCells wr.heap.size 0 (xL y.x p1 q1 d1 p2 q2 d2) = wc at *
                  generalize wr.heap.size = b10 at *
                  have hgw := hg2.trans hgx
                  have hvz := HA.out.size
                  have x0 := B10.cell 0 rfl
                  clear hI R1 hg10
                  have hks : y.x.r.kind = 2 ∨ y.x.r.kind = 3 ∨ y.x.r.kind = 4 ∨ y.x.r.kind = 5 ∨ y.x.r.kind = 6 := by omega
                  clear hk6 hk1
                  rcases hks with hkd | hkd | hkd | hkd | hkd
                  · as_aux_lemma =>
                    have hU := Lib.hid (upR2 (v := v) hkd)
                    have HK := Lib.hid hkd
                    rw [hkd] at x0
                    clear hkd
                    have x7 := B10.cell 7 rfl
                    have x8 := B10.cell 8 rfl
                    obtain ⟨f, hf⟩ : ∃ f : Bool, f = fitsB ⟨y.x.r.key, y.x.r.val⟩ := ⟨_, rfl⟩
                    obtain ⟨h, hh⟩ : ∃ h : Bool, h = hasK v y.x.r.key := ⟨_, rfl⟩
                    have hFi := fun w1 => refFits_any y.x.r.key y.x.r.val w1 Hz.out.key Hz.out.val
                    have hHa := fun w1 => refHas_any v o m c y.x.r.key w1 hvz Hz.out.key
                    rw [← hf] at hFi
                    rw [← hh] at hHa
                    have hHa := Lib.hid hHa
                    have Hf := Lib.hid hf
                    have Hh := Lib.hid hh
                    clear hf hh
                    have Z := (Bx.new wc #[.string ⟨#[]⟩, .string ⟨#[]⟩] 41 rfl).of (us := [.string ⟨#[]⟩, .string ⟨#[]⟩]) (by simp)
                    go_upto_region 24 with ((with_reducible refine wpList_store_box (ty := 41) (Z) ([.string y.x.r.key, .string y.x.r.val]) ?_ ?_ ?_ ?_ ?_ ?_); (focus (exact rfl)); (focus (exact ⟨_, _, rfl, rfl, rfl⟩)); (focus (exact rfl)); (focus kernel_rfl); (focus kernel_rfl))
                    have B11 := Z.setAll (us := [.string y.x.r.key, .string y.x.r.val]) rfl
                    have hg11 : Gr wc ((wc.alloc (.cells #[.string ⟨#[]⟩, .string ⟨#[]⟩] 41)).setCells wc.heap.size 0 [.string y.x.r.key, .string y.x.r.val]) := ((Gr.refl _).alloc _).setCells (Nat.le_refl _) _ _
                    clear Z
                    replace B10 := B10.keep hg11
                    replace B7 := B7.keep hg11
                    replace HRo := Lib.hid (HRo.out.keep hg11)
                    replace hgw := hgw.trans hg11
                    replace hgx := hgx.trans hg11
                    replace hb7c := Nat.lt_of_lt_of_le hb7c (hg11).le
                    have x7 := hg11.keep x7
                    generalize (wc.alloc (.cells #[.string ⟨#[]⟩, .string ⟨#[]⟩] 41)).setCells wc.heap.size 0 [.string y.x.r.key, .string y.x.r.val] = wd at *
                    generalize wc.heap.size = b11 at *
                    clear x0 x8 hg11
                    have t0 := B7.cell 0 rfl
                    have t1 := B7.cell 1 rfl
                    have t2 := B7.cell 2 rfl
                    have t3 := B7.cell 3 rfl
                    have t4 := B7.cell 4 rfl
                    have t5 := B7.cell 5 rfl
                    cases f
                    · have hFi := Lib.hid hFi
                      go_upto_region 25 with (first | ((with_reducible refine wpList_load_box (ty := 41) (B11) ?_ ?_ Tryd.underlying41 ?_ ?_ ?_); (focus (exact rfl)); (focus (exact ⟨_, rfl, rfl⟩)); (focus (exact rfl)); (focus kernel_rfl)) | (go_at_call 17; (with_reducible refine (hFi.out _).mono ?_); rintro e w3 ⟨rfl, hg3⟩))
                      replace B10 := B10.keep hg3
                      replace B7 := B7.keep hg3
                      replace HRo := Lib.hid (HRo.out.keep hg3)
                      replace hgw := hgw.trans hg3
                      replace hgx := hgx.trans hg3
                      replace hb7c := Nat.lt_of_lt_of_le hb7c (hg3).le
                      have B11 := B11.keep hg3
                      have hPu := Lib.hid (refPut_new o m c v.rows y.x.r.key y.x.r.val _ (HRo.out.rows hgw) hmc Hz.out.key Hz.out.val)
                      have t4 := B7.cell 4 rfl
                      clear t0 t1 t2 t3 t5 x7 hg3 hFi hHa
                      go_upto_region 26 with (first | ((with_reducible refine wpList_load_box (ty := 41) (B11) ?_ ?_ Tryd.underlying41 ?_ ?_ ?_); (focus (exact rfl)); (focus (exact ⟨_, rfl, rfl⟩)); (focus (exact rfl)); (focus kernel_rfl)) | (go_at_call 27; (with_reducible refine hPu.out.mono ?_); rintro e w5 ⟨o3, m3, c3, rfl, hO3, hg5⟩; have f4 := (B7.keep hg5).free 4 (by simp); have t4 := (B7.keep hg5).cell 4 rfl))
                      have Bz := (B7.keep hg5).set 4 (.slice o3 m3 c3)
                      have By := (B10.keep hg5).other (b' := b7) (j := 4) (by omega) (.slice o3 m3 c3)
                      have Ro := RowsO.set (.inr (hO3.lower2 (by omega)) : RowsO w w5 b7 o3 m3 c3 (putL v.rows ⟨y.x.r.key, y.x.r.val⟩)) (Nat.le_refl b7) 4 (.slice o3 m3 c3)
                      have gz := (hgx.trans hg5).setCell (p := ⟨b7, 4, none⟩) hb7 (.slice o3 m3 c3)
                      have HRd := Lib.hid (HSt.out (w5.setCell ⟨b7, 4, none⟩ (.slice o3 m3 c3)) false (fun q => by cases q) (fun _ => by rw [hU.out, if_neg]; intro z; rw [← Hf.out] at z; cases z.1))
                      generalize w5.setCell ⟨b7, 4, none⟩ (.slice o3 m3 c3) = wz at *
                      have x0 := By.cell 0 rfl
                      rw [HK.out] at x0
                      clear Bz Ro
                      go_wp2_with fail
                      go_roundw
                      case rel => exact ⟨false, i - 1, rfl, rfl, by omega, by omega, Lib.hid fun _ => hSok.out (by trivial), HRd, gz⟩
                      case measure => simp [intOf]; omega
                    · have hFi := Lib.hid hFi
                      go_upto_region 25 with (first | ((with_reducible refine wpList_load_box (ty := 41) (B11) ?_ ?_ Tryd.underlying41 ?_ ?_ ?_); (focus (exact rfl)); (focus (exact ⟨_, rfl, rfl⟩)); (focus (exact rfl)); (focus kernel_rfl)) | (go_at_call 17; (with_reducible refine (hFi.out _).mono ?_); rintro e w3 ⟨rfl, hg3⟩; have t0 := hg3.keep t0; have t1 := hg3.keep t1; have t2 := hg3.keep t2; have t3 := hg3.keep t3; have t4 := hg3.keep t4; have t5 := hg3.keep t5; have x7 := hg3.keep x7) | (go_at_call 26; (with_reducible refine (hHa.out _).mono ?_); rintro e w4 ⟨rfl, hg4⟩))
                      have hg3 := hg3.trans hg4
                      replace B10 := B10.keep hg3
                      replace B7 := B7.keep hg3
                      replace HRo := Lib.hid (HRo.out.keep hg3)
                      replace hgw := hgw.trans hg3
                      replace hgx := hgx.trans hg3
                      replace hb7c := Nat.lt_of_lt_of_le hb7c (hg3).le
                      have B11 := B11.keep hg3
                      have hPu := Lib.hid (refPut_new o m c v.rows y.x.r.key y.x.r.val _ (HRo.out.rows hgw) hmc Hz.out.key Hz.out.val)
                      have t4 := B7.cell 4 rfl
                      clear t0 t1 t2 t3 t5 x7 hg3 hFi hHa
                      go_upto_region 26 with (first | ((with_reducible refine wpList_load_box (ty := 41) (B11) ?_ ?_ Tryd.underlying41 ?_ ?_ ?_); (focus (exact rfl)); (focus (exact ⟨_, rfl, rfl⟩)); (focus (exact rfl)); (focus kernel_rfl)) | (go_at_call 27; (with_reducible refine hPu.out.mono ?_); rintro e w5 ⟨o3, m3, c3, rfl, hO3, hg5⟩; have f4 := (B7.keep hg5).free 4 (by simp); have t4 := (B7.keep hg5).cell 4 rfl))
                      have Bz := (B7.keep hg5).set 4 (.slice o3 m3 c3)
                      have By := (B10.keep hg5).other (b' := b7) (j := 4) (by omega) (.slice o3 m3 c3)
                      have Ro := RowsO.set (.inr (hO3.lower2 (by omega)) : RowsO w w5 b7 o3 m3 c3 (putL v.rows ⟨y.x.r.key, y.x.r.val⟩)) (Nat.le_refl b7) 4 (.slice o3 m3 c3)
                      have gz := (hgx.trans hg5).setCell (p := ⟨b7, 4, none⟩) hb7 (.slice o3 m3 c3)
                      have HRd := Lib.hid (HSt.out (w5.setCell ⟨b7, 4, none⟩ (.slice o3 m3 c3)) h (fun q => ⟨{ v with rows := putL v.rows ⟨y.x.r.key, y.x.r.val⟩ }, o3, m3, c3, by rw [hU.out, if_pos ⟨Hf.out.symm, Hh.out ▸ q⟩], Bz, Ro⟩) (fun q => by rw [hU.out, if_neg]; intro z; rw [← Hh.out, q] at z; cases z.2))
                      generalize w5.setCell ⟨b7, 4, none⟩ (.slice o3 m3 c3) = wz at *
                      have x0 := By.cell 0 rfl
                      rw [HK.out] at x0
                      clear Bz Ro
                      go_wp2_with fail
                      go_roundw
                      case rel => exact ⟨h, i - 1, rfl, rfl, by omega, by omega, Lib.hid fun _ => hSok.out (by trivial), HRd, gz⟩
                      case measure => simp [intOf]; omega
                  · as_aux_lemma =>
                    have hU := Lib.hid (upR3 (v := v) hkd)
                    have HK := Lib.hid hkd
                    rw [hkd] at x0
                    clear hkd
                    have x7 := B10.cell 7 rfl
                    obtain ⟨h, hh⟩ : ∃ h : Bool, h = hasK v y.x.r.key := ⟨_, rfl⟩
                    have hHa := fun w1 => refHas_any v o m c y.x.r.key w1 hvz Hz.out.key
                    rw [← hh] at hHa
                    have hHa := Lib.hid hHa
                    have Hh := Lib.hid hh
                    clear hh
                    go_upto_region 28 with (first | ((with_reducible refine wpList_load_box (ty := 33) (B7) ?_ ?_ Tryd.underlying33 ?_ ?_ ?_); (focus (exact rfl)); (focus (exact ⟨_, rfl, rfl⟩)); (focus (exact rfl)); (focus kernel_rfl)) | (go_at_call 26; (with_reducible refine (hHa.out _).mono ?_); rintro e w4 ⟨rfl, hg4⟩))
                    replace B10 := B10.keep hg4
                    replace B7 := B7.keep hg4
                    replace HRo := Lib.hid (HRo.out.keep hg4)
                    replace hgw := hgw.trans hg4
                    replace hgx := hgx.trans hg4
                    replace hb7c := Nat.lt_of_lt_of_le hb7c (hg4).le
                    have hPu := Lib.hid (refDrop_new o m c v.rows y.x.r.key _ (HRo.out.rows hgw) hmc Hz.out.key)
                    have t4 := B7.cell 4 rfl
                    have x7 := hg4.keep x7
                    clear x0 hg4 hHa
                    go_upto_region 29 with (go_at_call 28; (with_reducible refine hPu.out.mono ?_); rintro e w3 ⟨o3, m3, c3, rfl, hO3, hg3⟩; have f4 := (B7.keep hg3).free 4 (by simp); have t4 := (B7.keep hg3).cell 4 rfl; have HO3 := Lib.hid hO3; clear hO3)
                    have hr3 : RowsO w w3 b7 o3 m3 c3 (dropL v.rows y.x.r.key) := by
                      rcases HO3.out with ⟨rfl, rfl, rfl, e⟩ | q
                      · rw [e]; exact HRo.out.keep hg3
                      · exact .inr (q.lower2 (by omega))
                    have Bz := (B7.keep hg3).set 4 (.slice o3 m3 c3)
                    have By := (B10.keep hg3).other (b' := b7) (j := 4) (by omega) (.slice o3 m3 c3)
                    have Ro := hr3.set (Nat.le_refl b7) 4 (.slice o3 m3 c3)
                    have gz := (hgx.trans hg3).setCell (p := ⟨b7, 4, none⟩) hb7 (.slice o3 m3 c3)
                    have HRd := Lib.hid (HSt.out (w3.setCell ⟨b7, 4, none⟩ (.slice o3 m3 c3)) h (fun q => ⟨{ v with rows := dropL v.rows y.x.r.key }, o3, m3, c3, by rw [hU.out, if_pos (Hh.out ▸ q)], Bz, Ro⟩) (fun q => by
                      rw [hU.out, if_neg]
                      intro z
                      rw [← Hh.out, q] at z
                      cases z))
                    generalize w3.setCell ⟨b7, 4, none⟩ (.slice o3 m3 c3) = wz at *
                    have x0 := By.cell 0 rfl
                    rw [HK.out] at x0
                    clear Bz Ro
                    go_wp2_with fail
                    go_roundw
                    case rel => exact ⟨h, i - 1, rfl, rfl, by omega, by omega, Lib.hid fun _ => hSok.out (by trivial), HRd, gz⟩
                    case measure => simp [intOf]; omega
                  · as_aux_lemma =>
                    have hU := Lib.hid (upR4 (v := v) hkd)
                    have HK := Lib.hid hkd
                    rw [hkd] at x0
                    clear hkd
                    have x7 := B10.cell 7 rfl
                    have x9 := B10.cell 9 rfl
                    obtain ⟨h, hh⟩ : ∃ h : Bool, h = hasK v y.x.r.key := ⟨_, rfl⟩
                    obtain ⟨d, hd⟩ : ∃ d : Bool, d = decide (y.x.r.key ≠ v.low) := ⟨_, rfl⟩
                    have hHa := fun w1 => refHas_any v o m c y.x.r.key w1 hvz Hz.out.key
                    rw [← hh] at hHa
                    have Hh := Lib.hid hh
                    have Hd := Lib.hid hd
                    have hql : (y.x.r.key.toList == v.low.toList) = !d := by
                      rw [hd]
                      by_cases z : y.x.r.key = v.low
                      · rw [eqL z, decide_eq_false (fun q => q z)]; rfl
                      · rw [neL z, decide_eq_true z]; rfl
                    clear hh hd
                    have t0 := B7.cell 0 rfl
                    cases h
                    · have hHa := Lib.hid hHa
                      go_upto_region 31 with (first | ((with_reducible refine wpList_load_box (ty := 33) (B7) ?_ ?_ Tryd.underlying33 ?_ ?_ ?_); (focus (exact rfl)); (focus (exact ⟨_, rfl, rfl⟩)); (focus (exact rfl)); (focus kernel_rfl)) | (go_at_call 26; (with_reducible refine (hHa.out _).mono ?_); rintro e w4 ⟨rfl, hg4⟩))
                      replace B10 := B10.keep hg4
                      replace B7 := B7.keep hg4
                      replace HRo := Lib.hid (HRo.out.keep hg4)
                      replace hgw := hgw.trans hg4
                      replace hgx := hgx.trans hg4
                      replace hb7c := Nat.lt_of_lt_of_le hb7c (hg4).le
                      have hPu := Lib.hid (refAheadL_new v.rows o m c y.x.r.key _ (HRo.out.rows hgw) hmc Hz.out.key)
                      have t4 := B7.cell 4 rfl
                      have x7 := hg4.keep x7
                      clear x0 t0 hg4 hHa hql
                      go_upto_region 32 with (go_at_call 29; (with_reducible refine hPu.out.mono ?_); rintro e w3 ⟨o3, m3, c3, rfl, hO3, hg3⟩; have f4 := (B7.keep hg3).free 4 (by simp); have t4 := (B7.keep hg3).cell 4 rfl)
                      have B7 := (B7.keep hg3).set 4 (.slice o3 m3 c3)
                      have B10 := (B10.keep hg3).other (b' := b7) (j := 4) (by omega) (.slice o3 m3 c3)
                      have HRo := Lib.hid (RowsO.set (.inr (hO3.lower2 (by omega)) : RowsO w w3 b7 o3 m3 c3 (aheadL y.x.r.key v.rows)) (Nat.le_refl b7) 4 (.slice o3 m3 c3))
                      have hgz := (hgx.trans hg3).setCell (p := ⟨b7, 4, none⟩) hb7 (.slice o3 m3 c3)
                      clear hO3 hg3
                      generalize w3.setCell ⟨b7, 4, none⟩ (.slice o3 m3 c3) = wy at *
                      have x7 := B10.cell 7 rfl
                      have x9 := B10.cell 9 rfl
                      have t1 := B7.cell 1 rfl
                      have t2 := B7.cell 2 rfl
                      have t3 := B7.cell 3 rfl
                      have f1 := B7.free 1 (by simp)
                      have f2 := B7.free 2 (by simp)
                      have f3 := B7.free 3 (by simp)
                      have Bz := ((B7.set 1 (.string y.x.r.key)).set 2 (.bool false)).set 3 (.int .i64 y.x.r.page)
                      have By := ((B10.other (b' := b7) (j := 1) (by omega) (.string y.x.r.key)).other (b' := b7) (j := 2) (by omega) (.bool false)).other (b' := b7) (j := 3) (by omega) (.int .i64 y.x.r.page)
                      have Ro := ((HRo.out.set (Nat.le_refl b7) 1 (.string y.x.r.key)).set (Nat.le_refl b7) 2 (.bool false)).set (Nat.le_refl b7) 3 (.int .i64 y.x.r.page)
                      have gz := ((hgz.setCell (p := ⟨b7, 1, none⟩) hb7 (.string y.x.r.key)).setCell (p := ⟨b7, 2, none⟩) hb7 (.bool false)).setCell (p := ⟨b7, 3, none⟩) hb7 (.int .i64 y.x.r.page)
                      go_upto_region 35 with fail
                      have HRd := Lib.hid (HSt.out (((wy.setCell ⟨b7, 1, none⟩ (.string y.x.r.key)).setCell ⟨b7, 2, none⟩ (.bool false)).setCell ⟨b7, 3, none⟩ (.int .i64 y.x.r.page)) false (fun q => by cases q) (fun _ => by rw [hU.out, if_neg]; intro z; rw [← Hh.out] at z; cases z.1))
                      generalize ((wy.setCell ⟨b7, 1, none⟩ (.string y.x.r.key)).setCell ⟨b7, 2, none⟩ (.bool false)).setCell ⟨b7, 3, none⟩ (.int .i64 y.x.r.page) = wz at *
                      have x0 := By.cell 0 rfl
                      rw [HK.out] at x0
                      clear Bz Ro
                      go_wp2_with fail
                      go_roundw
                      case rel => exact ⟨false, i - 1, rfl, rfl, by omega, by omega, Lib.hid fun _ => hSok.out (by trivial), HRd, gz⟩
                      case measure => simp [intOf]; omega
                    cases d
                    · have hHa := Lib.hid hHa
                      simp only [Bool.not_true, Bool.not_false] at hql
                      go_upto_region 31 with (first | ((with_reducible refine wpList_load_box (ty := 33) (B7) ?_ ?_ Tryd.underlying33 ?_ ?_ ?_); (focus (exact rfl)); (focus (exact ⟨_, rfl, rfl⟩)); (focus (exact rfl)); (focus kernel_rfl)) | (go_at_call 26; (with_reducible refine (hHa.out _).mono ?_); rintro e w4 ⟨rfl, hg4⟩; have t0 := hg4.keep t0; have x7 := hg4.keep x7))
                      replace B10 := B10.keep hg4
                      replace B7 := B7.keep hg4
                      replace HRo := Lib.hid (HRo.out.keep hg4)
                      replace hgw := hgw.trans hg4
                      replace hgx := hgx.trans hg4
                      replace hb7c := Nat.lt_of_lt_of_le hb7c (hg4).le
                      have hPu := Lib.hid (refAheadL_new v.rows o m c y.x.r.key _ (HRo.out.rows hgw) hmc Hz.out.key)
                      have t4 := B7.cell 4 rfl

                      clear x0 t0 hg4 hHa hql
                      go_upto_region 32 with (go_at_call 29; (with_reducible refine hPu.out.mono ?_); rintro e w3 ⟨o3, m3, c3, rfl, hO3, hg3⟩; have f4 := (B7.keep hg3).free 4 (by simp); have t4 := (B7.keep hg3).cell 4 rfl)
                      have B7 := (B7.keep hg3).set 4 (.slice o3 m3 c3)
                      have B10 := (B10.keep hg3).other (b' := b7) (j := 4) (by omega) (.slice o3 m3 c3)
                      have HRo := Lib.hid (RowsO.set (.inr (hO3.lower2 (by omega)) : RowsO w w3 b7 o3 m3 c3 (aheadL y.x.r.key v.rows)) (Nat.le_refl b7) 4 (.slice o3 m3 c3))
                      have hgz := (hgx.trans hg3).setCell (p := ⟨b7, 4, none⟩) hb7 (.slice o3 m3 c3)
                      clear hO3 hg3
                      generalize w3.setCell ⟨b7, 4, none⟩ (.slice o3 m3 c3) = wy at *
                      have x7 := B10.cell 7 rfl
                      have x9 := B10.cell 9 rfl
                      have t1 := B7.cell 1 rfl
                      have t2 := B7.cell 2 rfl
                      have t3 := B7.cell 3 rfl
                      have f1 := B7.free 1 (by simp)
                      have f2 := B7.free 2 (by simp)
                      have f3 := B7.free 3 (by simp)
                      have Bz := ((B7.set 1 (.string y.x.r.key)).set 2 (.bool false)).set 3 (.int .i64 y.x.r.page)
                      have By := ((B10.other (b' := b7) (j := 1) (by omega) (.string y.x.r.key)).other (b' := b7) (j := 2) (by omega) (.bool false)).other (b' := b7) (j := 3) (by omega) (.int .i64 y.x.r.page)
                      have Ro := ((HRo.out.set (Nat.le_refl b7) 1 (.string y.x.r.key)).set (Nat.le_refl b7) 2 (.bool false)).set (Nat.le_refl b7) 3 (.int .i64 y.x.r.page)
                      have gz := ((hgz.setCell (p := ⟨b7, 1, none⟩) hb7 (.string y.x.r.key)).setCell (p := ⟨b7, 2, none⟩) hb7 (.bool false)).setCell (p := ⟨b7, 3, none⟩) hb7 (.int .i64 y.x.r.page)
                      go_upto_region 35 with fail
                      have HRd := Lib.hid (HSt.out (((wy.setCell ⟨b7, 1, none⟩ (.string y.x.r.key)).setCell ⟨b7, 2, none⟩ (.bool false)).setCell ⟨b7, 3, none⟩ (.int .i64 y.x.r.page)) false (fun q => by cases q) (fun _ => by rw [hU.out, if_neg]; intro z; have z2 := Hd.out; rw [decide_eq_true z.2] at z2; cases z2))
                      generalize ((wy.setCell ⟨b7, 1, none⟩ (.string y.x.r.key)).setCell ⟨b7, 2, none⟩ (.bool false)).setCell ⟨b7, 3, none⟩ (.int .i64 y.x.r.page) = wz at *
                      have x0 := By.cell 0 rfl
                      rw [HK.out] at x0
                      clear Bz Ro
                      go_wp2_with fail
                      go_roundw
                      case rel => exact ⟨false, i - 1, rfl, rfl, by omega, by omega, Lib.hid fun _ => hSok.out (by trivial), HRd, gz⟩
                      case measure => simp [intOf]; omega
                    · have hHa := Lib.hid hHa
                      simp only [Bool.not_true, Bool.not_false] at hql
                      go_upto_region 31 with (first | ((with_reducible refine wpList_load_box (ty := 33) (B7) ?_ ?_ Tryd.underlying33 ?_ ?_ ?_); (focus (exact rfl)); (focus (exact ⟨_, rfl, rfl⟩)); (focus (exact rfl)); (focus kernel_rfl)) | (go_at_call 26; (with_reducible refine (hHa.out _).mono ?_); rintro e w4 ⟨rfl, hg4⟩; have t0 := hg4.keep t0; have x7 := hg4.keep x7))
                      replace B10 := B10.keep hg4
                      replace B7 := B7.keep hg4
                      replace HRo := Lib.hid (HRo.out.keep hg4)
                      replace hgw := hgw.trans hg4
                      replace hgx := hgx.trans hg4
                      replace hb7c := Nat.lt_of_lt_of_le hb7c (hg4).le
                      have hPu := Lib.hid (refAheadL_new v.rows o m c y.x.r.key _ (HRo.out.rows hgw) hmc Hz.out.key)
                      have t4 := B7.cell 4 rfl

                      clear x0 t0 hg4 hHa hql
                      go_upto_region 32 with (go_at_call 29; (with_reducible refine hPu.out.mono ?_); rintro e w3 ⟨o3, m3, c3, rfl, hO3, hg3⟩; have f4 := (B7.keep hg3).free 4 (by simp); have t4 := (B7.keep hg3).cell 4 rfl)
                      have B7 := (B7.keep hg3).set 4 (.slice o3 m3 c3)
                      have B10 := (B10.keep hg3).other (b' := b7) (j := 4) (by omega) (.slice o3 m3 c3)
                      have HRo := Lib.hid (RowsO.set (.inr (hO3.lower2 (by omega)) : RowsO w w3 b7 o3 m3 c3 (aheadL y.x.r.key v.rows)) (Nat.le_refl b7) 4 (.slice o3 m3 c3))
                      have hgz := (hgx.trans hg3).setCell (p := ⟨b7, 4, none⟩) hb7 (.slice o3 m3 c3)
                      clear hO3 hg3
                      generalize w3.setCell ⟨b7, 4, none⟩ (.slice o3 m3 c3) = wy at *
                      have x7 := B10.cell 7 rfl
                      have x9 := B10.cell 9 rfl
                      have t1 := B7.cell 1 rfl
                      have t2 := B7.cell 2 rfl
                      have t3 := B7.cell 3 rfl
                      have f1 := B7.free 1 (by simp)
                      have f2 := B7.free 2 (by simp)
                      have f3 := B7.free 3 (by simp)
                      have Bz := ((B7.set 1 (.string y.x.r.key)).set 2 (.bool false)).set 3 (.int .i64 y.x.r.page)
                      have By := ((B10.other (b' := b7) (j := 1) (by omega) (.string y.x.r.key)).other (b' := b7) (j := 2) (by omega) (.bool false)).other (b' := b7) (j := 3) (by omega) (.int .i64 y.x.r.page)
                      have Ro := ((HRo.out.set (Nat.le_refl b7) 1 (.string y.x.r.key)).set (Nat.le_refl b7) 2 (.bool false)).set (Nat.le_refl b7) 3 (.int .i64 y.x.r.page)
                      have gz := ((hgz.setCell (p := ⟨b7, 1, none⟩) hb7 (.string y.x.r.key)).setCell (p := ⟨b7, 2, none⟩) hb7 (.bool false)).setCell (p := ⟨b7, 3, none⟩) hb7 (.int .i64 y.x.r.page)
                      go_upto_region 35 with fail
                      have HRd := Lib.hid (HSt.out (((wy.setCell ⟨b7, 1, none⟩ (.string y.x.r.key)).setCell ⟨b7, 2, none⟩ (.bool false)).setCell ⟨b7, 3, none⟩ (.int .i64 y.x.r.page)) true (fun q => ⟨⟨v.low, y.x.r.key, false, y.x.r.page, aheadL y.x.r.key v.rows, v.gone⟩, o3, m3, c3, by rw [hU.out, if_pos ⟨Hh.out.symm, of_decide_eq_true Hd.out.symm⟩], Bz, Ro⟩) (fun q => by cases q))
                      generalize ((wy.setCell ⟨b7, 1, none⟩ (.string y.x.r.key)).setCell ⟨b7, 2, none⟩ (.bool false)).setCell ⟨b7, 3, none⟩ (.int .i64 y.x.r.page) = wz at *
                      have x0 := By.cell 0 rfl
                      rw [HK.out] at x0
                      clear Bz Ro
                      go_wp2_with fail
                      go_roundw
                      case rel => exact ⟨true, i - 1, rfl, rfl, by omega, by omega, Lib.hid fun _ => hSok.out (by trivial), HRd, gz⟩
                      case measure => simp [intOf]; omega
                  · as_aux_lemma =>
                    have hU := Lib.hid (upR5 (v := v) hkd)
                    have HK := Lib.hid hkd
                    rw [hkd] at x0
                    clear hkd
                    have t5 := B7.cell 5 rfl
                    have f5 := B7.free 5 (by simp)
                    have hne : b10 ≠ b7 := by omega
                    have Bz := B7.set 5 (.bool true)
                    have By := B10.other (b' := b7) (j := 5) (by omega) (.bool true)
                    have Ro := HRo.out.set (Nat.le_refl b7) 5 (.bool true)
                    have gz := hgx.setCell (p := ⟨b7, 5, none⟩) hb7 (.bool true)
                    go_upto_region 37 with fail
                    have HRd := Lib.hid (HSt.out (wc.setCell ⟨b7, 5, none⟩ (.bool true)) true (fun q => ⟨_, o, m, c, hU.out, Bz, Ro⟩) (fun q => by cases q))
                    generalize wc.setCell ⟨b7, 5, none⟩ (.bool true) = wz at *
                    have x0 := By.cell 0 rfl
                    rw [HK.out] at x0
                    clear Bz Ro
                    go_wp2_with fail
                    go_roundw
                    case rel => exact ⟨true, i - 1, rfl, rfl, by omega, by omega, Lib.hid fun _ => hSok.out (by trivial), HRd, gz⟩
                    case measure => simp [intOf]; omega
                  · as_aux_lemma =>
                    have hU := Lib.hid (upR6 (v := v) hkd)
                    have HK := Lib.hid hkd
                    rw [hkd] at x0
                    clear hkd
                    have x7 := B10.cell 7 rfl
                    have x2 := B10.cell 2 rfl
                    have x3 := B10.cell 3 rfl
                    have x4 := B10.cell 4 rfl
                    have x5 := B10.cell 5 rfl
                    have t1 := B7.cell 1 rfl
                    have t2 := B7.cell 2 rfl
                    have t4 := B7.cell 4 rfl
                    have hSo := fun (w1 : World) (hq : Gr wc w1) => refSound_any y.x.r.rows p1 q1 d1 y.x.r.key y.x.r.high y.x.r.unb w1 (Hrw.out.keep hq) Hz.out.key Hz.out.high
                    have hBf := fun w1 => before_any y.x.r.key y.x.r.high w1 Hz.out.key Hz.out.high
                    have HrV := Lib.hid (HRo.out.rows hgw)
                    obtain ⟨bf, hbf⟩ : ∃ bf : Bool, bf = Str.before (Tx y.x.r.key) (Tx y.x.r.high) := ⟨_, rfl⟩
                    obtain ⟨S, hS⟩ : ∃ S : Bool, S = soundR y.x.r.rows y.x.r.key y.x.r.high y.x.r.unb := ⟨_, rfl⟩
                    obtain ⟨ub, hub⟩ : ∃ ub : Bool, ub = y.x.r.unb := ⟨_, rfl⟩
                    obtain ⟨u, hu⟩ : ∃ u : Bool, u = v.unb := ⟨_, rfl⟩
                    obtain ⟨d, hd⟩ : ∃ d : Bool, d = decide (v.high = y.x.r.key) := ⟨_, rfl⟩
                    have hql : (v.high.toList == y.x.r.key.toList) = d := by
                      rw [hd]
                      by_cases z : v.high = y.x.r.key
                      · rw [eqL z, decide_eq_true z]
                      · rw [neL z, decide_eq_false z]
                    rw [← hS, ← hub] at hSo
                    rw [← hbf] at hBf
                    rw [← hu] at t2
                    rw [← hub] at x3
                    have HBf := Lib.hid hbf
                    have HSo := Lib.hid hS
                    have Hub := Lib.hid hub
                    have Hu := Lib.hid hu
                    have Hd := Lib.hid hd
                    have hSo := Lib.hid hSo
                    have hBf := Lib.hid hBf
                    clear hbf hS hu hub hd
                    go_upto_region 38 with fail
                    go_cut [8] (fun s8 wx => ∃ ok : Bool, s8 = .bool ok ∧ Hid (ok = true ↔ (v.unb = false ∧ v.high = y.x.r.key ∧ soundR y.x.r.rows y.x.r.key y.x.r.high y.x.r.unb = true ∧ (y.x.r.unb = true ∨ Str.before (Tx y.x.r.key) (Tx y.x.r.high) = true))) ∧ Gr wc wx)
                    case first => as_aux_lemma =>
                      have HC : Hid (∀ ok : Bool, ok = (!u && d && S && (ub || bf)) → Hid (ok = true ↔ (v.unb = false ∧ v.high = y.x.r.key ∧ soundR y.x.r.rows y.x.r.key y.x.r.high y.x.r.unb = true ∧ (y.x.r.unb = true ∨ Str.before (Tx y.x.r.key) (Tx y.x.r.high) = true)))) := Lib.hid fun ok q => Lib.hid (by
                        rw [← Hu.out, ← HSo.out, ← Hub.out, ← HBf.out, q]
                        have e : (v.high = y.x.r.key) ↔ d = true := by rw [Hd.out]; exact decide_eq_true_iff.symm
                        rw [e]
                        cases u <;> cases d <;> cases S <;> cases ub <;> cases bf <;> decide)
                      clear Hu Hd HSo Hub HBf
                      cases u
                      rotate_left
                      · go_wp2_with fail
                        go_meet
                        exact ⟨false, rfl, HC.out _ rfl, Gr.refl _⟩
                      cases d
                      · go_wp2_with fail
                        go_meet
                        exact ⟨false, rfl, HC.out _ rfl, Gr.refl _⟩
                      cases S
                      · go_wp2_with (go_at_call 25; (with_reducible refine (hSo.out _ (Gr.refl _)).mono ?_); rintro e w3 ⟨rfl, hg3⟩; have x2 := hg3.keep x2; have x3 := hg3.keep x3; have x4 := hg3.keep x4; have x5 := hg3.keep x5; have x7 := hg3.keep x7; have t1 := hg3.keep t1; have t2 := hg3.keep t2; have t4 := hg3.keep t4)
                        go_meet
                        exact ⟨false, rfl, HC.out _ rfl, hg3⟩
                      cases ub
                      · go_wp2_with (first | (go_at_call 25; (with_reducible refine (hSo.out _ (Gr.refl _)).mono ?_); rintro e w3 ⟨rfl, hg3⟩; have x2 := hg3.keep x2; have x3 := hg3.keep x3; have x4 := hg3.keep x4; have x5 := hg3.keep x5; have x7 := hg3.keep x7; have t1 := hg3.keep t1; have t2 := hg3.keep t2; have t4 := hg3.keep t4) | (go_at_call 30; (with_reducible refine (hBf.out _).mono ?_); rintro e w4 ⟨rfl, d9, rfl⟩; have hg4 := (Gr.refl w3).drewN d9))
                        go_meet
                        exact ⟨bf, rfl, HC.out _ (by cases bf <;> rfl), hg3.trans hg4⟩
                      · go_wp2_with (go_at_call 25; (with_reducible refine (hSo.out _ (Gr.refl _)).mono ?_); rintro e w3 ⟨rfl, hg3⟩; have x2 := hg3.keep x2; have x3 := hg3.keep x3; have x4 := hg3.keep x4; have x5 := hg3.keep x5; have x7 := hg3.keep x7; have t1 := hg3.keep t1; have t2 := hg3.keep t2; have t4 := hg3.keep t4)
                        go_meet
                        exact ⟨true, rfl, HC.out _ rfl, hg3⟩
                    case rest =>
                      obtain ⟨ok, rfl, Hok, hg12⟩ := hcut
                      have B10 := B10.keep hg12
                      have B7 := B7.keep hg12
                      have HRo := Lib.hid (HRo.out.keep hg12)
                      have hgw := hgw.trans hg12
                      have hgx := hgx.trans hg12
                      have hb7c := Nat.lt_of_lt_of_le hb7c (hg12).le
                      have Hrw := Lib.hid (Hrw.out.keep hg12)
                      have HrV := Lib.hid (HRo.out.rows hgw)
                      clear x0 x7 t1 t2 t4 x2 x3 x4 x5 hql hSo hBf Hu Hd HSo Hub HBf hg12
                      have t4 := B7.cell 4 rfl
                      have x5 := B10.cell 5 rfl
                      go_upto_region 39 with fail
                      go_cut [] (fun wx => ∃ (oc : Option Addr) (c4 : Nat), Bx wx b7 (vL ⟨v.low, v.high, v.unb, v.right, v.rows ++ y.x.r.rows, v.gone⟩ oc (m + q1) c4) ∧ Bx wx b10 (xL y.x p1 q1 d1 p2 q2 d2) ∧ RowsO w wx b7 oc (m + q1) c4 (v.rows ++ y.x.r.rows) ∧ Gr W wx)
                      case first => as_aux_lemma =>
                        have hx5 : (wc.alloc (.cells #[] 41)).cell? ⟨b10, 5, none⟩ = some (.slice p1 q1 d1) := alloc1 x5
                        have ht4 : (wc.alloc (.cells #[] 41)).cell? ⟨b7, 4, none⟩ = some (.slice o m c) := alloc1 t4
                        go_region_law (first
                          | (refine step_rows (w0 := wc) rfl _ _ rfl (by repeat (first | with_reducible exact Gr.refl _ | with_reducible refine Gr.drewN ?_ _ | with_reducible refine Gr.drew ?_ | with_reducible refine Gr.alloc ?_ _ | with_reducible refine Gr.setCell ?_ ?_ _ | (with_reducible refine Gr.trans ?_ (by assumption)) | omega | (dsimp only; omega))) rfl ((own_empty (w := wc) (Gr.refl wc)).keep (by repeat (first | with_reducible exact Gr.refl _ | with_reducible refine Gr.drewN ?_ _ | with_reducible refine Gr.drew ?_ | with_reducible refine Gr.alloc ?_ _ | with_reducible refine Gr.setCell ?_ ?_ _ | (with_reducible refine Gr.trans ?_ (by assumption)) | omega | (dsimp only; omega)))) rfl (HrV.out.keep (by repeat (first | with_reducible exact Gr.refl _ | with_reducible refine Gr.drewN ?_ _ | with_reducible refine Gr.drew ?_ | with_reducible refine Gr.alloc ?_ _ | with_reducible refine Gr.setCell ?_ ?_ _ | (with_reducible refine Gr.trans ?_ (by assumption)) | omega | (dsimp only; omega)))) (by omega) ?_; intro oc c3 w5 ho1 hg5; simp only [Nat.zero_add, List.nil_append] at ho1; have t4 := (B7.keep hg5).cell 4 rfl; have x5 := (B10.keep hg5).cell 5 rfl)
                          | (refine step_rows (w0 := wc) rfl _ _ rfl hg5 rfl ho1 rfl (Hrw.out.keep hg5) (by omega) ?_; intro oc2 c4 w6 ho2 hg6; have t4 := (B7.keep hg6).cell 4 rfl; have f4 := (B7.keep hg6).free 4 (by simp)))
                        all_goals
                          go_wp2_with fail
                          go_meet
                          exact ⟨oc2, c4, (B7.keep hg6).set 4 _, (B10.keep hg6).other (b' := b7) (j := 4) (by omega) _, RowsO.set (.inr (ho2.lower2 (by omega))) (Nat.le_refl _) _ _, (hgx.trans hg6).setCell (p := ⟨b7, 4, none⟩) hb7 _⟩
                      case rest =>
                        obtain ⟨oc2, c4, B7, B10, hRo, hgz⟩ := hcut
                        have HRo := Lib.hid hRo
                        have x2 := B10.cell 2 rfl
                        have x3 := B10.cell 3 rfl
                        have x4 := B10.cell 4 rfl
                        clear hRo
                        have t1 := B7.cell 1 rfl
                        have t2 := B7.cell 2 rfl
                        have t3 := B7.cell 3 rfl
                        have f1 := B7.free 1 (by simp)
                        have f2 := B7.free 2 (by simp)
                        have f3 := B7.free 3 (by simp)
                        have Bz := ((B7.set 1 (.string y.x.r.high)).set 2 (.bool y.x.r.unb)).set 3 (.int .i64 y.x.r.right)
                        have By := ((B10.other (b' := b7) (j := 1) (by omega) (.string y.x.r.high)).other (b' := b7) (j := 2) (by omega) (.bool y.x.r.unb)).other (b' := b7) (j := 3) (by omega) (.int .i64 y.x.r.right)
                        have Ro := ((HRo.out.set (Nat.le_refl b7) 1 (.string y.x.r.high)).set (Nat.le_refl b7) 2 (.bool y.x.r.unb)).set (Nat.le_refl b7) 3 (.int .i64 y.x.r.right)
                        have gz := ((hgz.setCell (p := ⟨b7, 1, none⟩) hb7 (.string y.x.r.high)).setCell (p := ⟨b7, 2, none⟩) hb7 (.bool y.x.r.unb)).setCell (p := ⟨b7, 3, none⟩) hb7 (.int .i64 y.x.r.right)
                        go_upto_region 20 with fail
                        have HRd := Lib.hid (HSt.out (((wc.setCell ⟨b7, 1, none⟩ (.string y.x.r.high)).setCell ⟨b7, 2, none⟩ (.bool y.x.r.unb)).setCell ⟨b7, 3, none⟩ (.int .i64 y.x.r.right)) ok (fun q => ⟨⟨v.low, y.x.r.high, y.x.r.unb, y.x.r.right, v.rows ++ y.x.r.rows, v.gone⟩, oc2, m + q1, c4, by rw [hU.out, if_pos (Hok.out.1 q)], Bz, Ro⟩) (fun q => by rw [hU.out, if_neg]; intro z; rw [Hok.out.2 z] at q; cases q))
                        generalize ((wc.setCell ⟨b7, 1, none⟩ (.string y.x.r.high)).setCell ⟨b7, 2, none⟩ (.bool y.x.r.unb)).setCell ⟨b7, 3, none⟩ (.int .i64 y.x.r.right) = wz at *
                        have x0 := By.cell 0 rfl
                        rw [HK.out] at x0
                        clear Bz Ro
                        go_wp2_with fail
                        go_roundw
                        case rel => exact ⟨ok, i - 1, rfl, rfl, by omega, by omega, Lib.hid fun _ => hSok.out (by trivial), HRd, gz⟩
                        case measure => simp [intOf]; omega
                · have hi1 : i = -1 := by omega
                  have hno : res = (some v, 0) := by
                    have := HA.out.at'
                    rw [hi1] at this
                    rw [HFv.out, show (0 : Nat) = (-1 + 1 : Int).toNat from rfl, this]
                  have Hno := Lib.hid hno
                  have B7 := HA.out.box
                  clear hno
                  go_wp2_with (first | ((with_reducible refine wpList_load_box (ty := 33) (B7) ?_ ?_ Tryd.underlying33 ?_ ?_ ?_); (focus (exact rfl)); (focus (exact ⟨_, rfl, rfl⟩)); (focus (exact rfl)); (focus kernel_rfl)) | ((with_reducible refine wpList_store_box (ty := 33) (B3) ((vL v o m c)) ?_ ?_ ?_ ?_ ?_ ?_); (focus (exact rfl)); (focus (exact ⟨_, _, rfl, rfl, rfl⟩)); (focus (exact rfl)); (focus kernel_rfl); (focus kernel_rfl)))
                  refine bodyPost_ret ((B3.setAll (us := vL v o m c) rfl).ret2 rfl _ rfl rfl Tryd.underlying33 rfl (by kernel_rfl)) rfl ?_
                  rw [Hno.out]
                  exact ⟨o, m, c, rfl, (HA.out.rows.sets (by omega) _).rows ((hg2.trans hg).setCells (Nat.le_refl _) _ _), HA.out.size, (hg2.trans hg).setCells (Nat.le_refl _) _ _⟩
end Go.Proofs.YtidfelbaegaphaaDoor

