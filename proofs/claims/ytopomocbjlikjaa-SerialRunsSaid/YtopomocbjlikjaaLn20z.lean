import Derived.Test.YtopomocbjlikjaaRm20z
import Derived.Test.YtopomocbjlikjaaAw20z
import Derived.Deep.RegionHeld3
namespace Go.Proofs.Ytopomocbjlikjaa
set_option linter.unusedVariables false
set_option linter.unusedSimpArgs false
open Go.BigFrame Go.RowKit Go.WideShapes

/-! The law of runs (serial). -/
theorem okT_one (s : Sn) : okT ⟨0, 0, 0, 0, [s]⟩ = okS s := by
  unfold okT
  simp
theorem rowsN (w : World) : RowsAt w none 0 0 ([] : List Rw) := ⟨rfl, Nat.le_refl _, Nat.zero_le _, fun _ => rfl, ⟨0, 0, fun q => absurd q (by omega), fun i hi => absurd hi (by omega)⟩, fun i hi => absurd hi (by omega)⟩
theorem keep_2 {s : Sn} (h : s.kind = 2) : keepS s = true := by unfold keepS; simp [h]
theorem keep_5 {s : Sn} (h : s.kind = 5) : keepS s = false := by unfold keepS; simp [h]
theorem keep_N {s : Sn} (h2 : s.kind ≠ 2) (h5 : s.kind ≠ 5) : keepS s = okS s := by unfold keepS; simp [h2, h5]
abbrev s2 (s : Sn) (v : ByteArray) (b : Bool) : Sn := ⟨2, s.key, v, b, ⟨#[]⟩, ⟨#[]⟩, false, 0, false, []⟩
set_option maxRecDepth 100000 in
set_option maxHeartbeats 40000000 in
theorem runs20m (oa : Option Addr) (n cap : Nat) (l : List Tr) (m : Nat) (hm8 : m < 256) (w : World) (h : TripsAt w oa n cap l) :
    Calls Try.prog 3 #[.slice oa n cap, .int .u8 (m : Int)] w fun e w' => e = .returned (.bool true) ∧ Gr w w' := by
  have hFE := Lib.hid (few20_any oa n cap l w h)
  have hcl := h.cap_le
  have hcm := h.cap_max
  unfold maxLen at hcm
  obtain ⟨b, off, ho, hc⟩ := h.get
  have Ho := Lib.hid ho
  have Hc := Lib.hid hc
  have Hl := Lib.hid h.len
  clear ho hc h
  go_enter Try.func3, Try.ntmps3
  go_wp2_with fail
  refine hFE.out.mono ?_
  rintro e w1 ⟨⟨b1, rfl, hb1⟩, hg1⟩
  cases b1
  · go_wp2_with fail
    refine (awake20_any _).mono ?_
    rintro e w2 ⟨rfl, hg2⟩
    go_wp2_with fail
    go_ret
    exact ⟨rfl, hg1.trans hg2⟩
  have Hf := Lib.hid (hb1 rfl)
  clear hb1 hFE
  have hn : n ≤ 8 := by have h1 := Hf.out.1; have h2 := Hl.out; omega
  have HN := Lib.hid (own_nil w1 w.heap.size)
  have HIL := Lib.hid (InL.start l)
  go_wp2_with fail
  go_loopw [5, 6, 7, 30] (fun s5 s6 s7 s30 wr => ∃ (i N : Nat) (L : List Tr) (R : List Rw) (oR : Option Addr) (qR cR : Nat) (oL : Option Addr) (cL : Nat), i ≤ n ∧ N ≤ i ∧ s30 = .int .i64 i ∧ s7 = .int .i64 N ∧ s5 = .slice oR qR cR ∧ s6 = .slice oL i cL ∧ Hid (InL l i L N R) ∧ Hid (OwnAt wr w.heap.size oR qR cR R) ∧ Hid (OwnS (TrI w) 5 28 wr w.heap.size oL i cL L) ∧ Gr w wr) (fun _ _ _ s30 _ => n - (intOf s30).toNat)
  case atStart => exact ⟨0, 0, [], [], none, 0, 0, none, 0, Nat.zero_le _, Nat.le_refl _, rfl, rfl, rfl, rfl, HIL, HN, Lib.hid (OwnS.nil _ _ _ _ _), hg1⟩
  case round =>
    obtain ⟨i, N, L, R, oR, qR, cR, oL, cL, hi, hNi, rfl, rfl, rfl, rfl, hIL, hR, hOL, hg⟩ := hrel
    by_cases hlt : i < n
    · have hy : l[i]? = some (l[i]'(by have := Hl.out; omega)) := List.getElem?_eq_getElem _
      generalize (l[i]'(by have := Hl.out; omega)) = t at hy
      obtain ⟨p, mt, ct, R0⟩ := Hc.out i t hy
      have R1 := R0.keep hg
      have hI := run_trip cap Ho.out hlt
      have Hy := Lib.hid hy
      have hm8 : mt ≤ 8 := by
        have h1 := (Hf.out.2 i t hy).1
        have h2 := R1.seen.len
        omega
      have Hft := Lib.hid (Hf.out.2 i t hy).2
      have hcmt := R1.seen.cap_le
      have hcmm := R1.seen.cap_max
      unfold maxLen at hcmm
      have Hmt := Lib.hid R1.seen.len
      obtain ⟨b2, off2, ho2, hc2⟩ := R0.seen.get
      have Ho2 := Lib.hid ho2
      have Hc2 := Lib.hid hc2
      have Z := (Bx.new wr zT.toArray 28 rfl).of (us := zT) (by simp)
      clear hy R0 ho2 hc2
      go_upto_region 9 with (first | (refine wpList_load_mid rfl 28 _ rfl _ _ rfl _ _ (R1).rng Try.underlying28 rfl (by kernel_rfl) ?_) | ((with_reducible refine wpList_store_box (ty := 28) (Z) ((trL t p mt ct)) ?_ ?_ ?_ ?_ ?_ ?_); (focus (exact rfl)); (focus (exact ⟨_, _, rfl, rfl, rfl⟩)); (focus (exact rfl)); (focus kernel_rfl); (focus kernel_rfl)))
      have B9 := Z.setAll (us := trL t p mt ct) rfl
      have hg9 : Gr wr ((wr.alloc (.cells zT.toArray 28)).setCells wr.heap.size 0 (trL t p mt ct)) := ((Gr.refl wr).alloc _).setCells (Nat.le_refl _) _ _
      clear Z R1 hI
      generalize (wr.alloc (.cells zT.toArray 28)).setCells wr.heap.size 0 (trL t p mt ct) = w9 at *
      generalize wr.heap.size = b9 at *
      (try simp only [Act.put])
      have e1 : IntKind.i64.wrap (2 * (i : Int)) = 2 * (i : Int) := IntWalk.i64_in _ (by omega)
      have e2 : IntKind.i64.wrap (2 * (i : Int) + 1) = 2 * (i : Int) + 1 := IntWalk.i64_in _ (by omega)
      have v4 := B9.cell 4 rfl
      clear B9
      go_upto_region 11 with fail
      have Bx9 := (Bx.new w9 (trL ⟨2 * i, 2 * i + 1, N, 0, []⟩ none 0 0).toArray 28 rfl).of (us := trL ⟨2 * i, 2 * i + 1, N, 0, []⟩ none 0 0) rfl
      have hg10 : Gr w9 (w9.alloc (.cells (trL ⟨2 * i, 2 * i + 1, N, 0, []⟩ none 0 0).toArray 28)) := (Gr.refl w9).alloc _
      have TX9 := TyAt.new w9 (trL ⟨2 * i, 2 * i + 1, N, 0, []⟩ none 0 0).toArray 28 rfl
      have hbx := Bx9.lt (by simp)
      have v4 := hg10.keep v4
      have hgr10 := hg9.trans hg10
      generalize w9.alloc (.cells (trL ⟨2 * i, 2 * i + 1, N, 0, []⟩ none 0 0).toArray 28) = w10 at *
      have hwb : wr.heap.size ≤ w9.heap.size := hg9.le
      generalize w9.heap.size = bx at *
      clear hg10 hg9 e1 e2
      have HT0 := Lib.hid (InT.start (ss := t.seen) hIL.out.sml)
      have HN0 := Lib.hid (hR.out.keep hgr10)
      have hWr := Lib.hid hg
      obtain ⟨WO, rfl⟩ : ∃ W0, W0 = wr := ⟨wr, rfl⟩
      go_wp2_with fail
      clear v4
      go_loopw [11, 46] (fun s11 s46 wx => ∃ (j : Nat) (S : List Sn) (now : List Rw) (oN : Option Addr) (qN cN : Nat) (oS : Option Addr) (mS cS : Nat), j ≤ mt ∧ mS ≤ j ∧ s46 = .int .i64 j ∧ s11 = .slice oN qN cN ∧ Hid (InT t.seen R j S now) ∧ Hid (OwnAt wx w.heap.size oN qN cN now) ∧ Bx wx bx (trL ⟨2 * i, 2 * i + 1, N, 0, S⟩ oS mS cS) ∧ TyAt wx bx 28 ∧ Hid (OwnS (SnI w) 10 30 wx w10.heap.size oS mS cS S) ∧ w10.heap.size ≤ wx.heap.size ∧ Gr WO wx) (fun _ s46 _ => mt - (intOf s46).toNat)
      case atStart => exact ⟨0, [], R, oR, qR, cR, none, 0, 0, Nat.zero_le _, Nat.le_refl _, rfl, rfl, HT0, HN0, Bx9, TX9, Lib.hid (OwnS.nil _ _ _ _ _), Nat.le_refl _, hgr10⟩
      case round =>
        clear Bx9 TX9 HT0 HN0 hgr10
        obtain ⟨j, S, now, oN, qN, cN, oS, mS, cS, hj, hmS, rfl, rfl, hT, hN, BX, TX, hOS, hszj, hgj⟩ := hrel
        by_cases hltj : j < mt
        · have hys : t.seen[j]? = some (t.seen[j]'(by have := Hmt.out; omega)) := List.getElem?_eq_getElem _
          generalize (t.seen[j]'(by have := Hmt.out; omega)) = s at hys
          obtain ⟨p1, m1, c1, S0⟩ := Hc2.out j s hys
          have S1 := S0.keep (hWr.out.trans hgj)
          have hI := run_seen ct Ho2.out hltj
          have Hys := Lib.hid hys
          have Hfs := Lib.hid (Hft.out j s hys)
          have HR0 := Lib.hid S0.rows
          have Z := (Bx.new wr zS.toArray 30 rfl).of (us := zS) (by simp)
          clear hys S0
          go_upto_region 14 with (first | (refine wpList_load_mid rfl 30 _ rfl _ _ rfl _ _ (S1).rng Try.underlying30 rfl (by kernel_rfl) ?_) | ((with_reducible refine wpList_store_box (ty := 30) (Z) ((snL s p1 m1 c1)) ?_ ?_ ?_ ?_ ?_ ?_); (focus (exact rfl)); (focus (exact ⟨_, _, rfl, rfl, rfl⟩)); (focus (exact rfl)); (focus kernel_rfl); (focus kernel_rfl)))
          have B13 := Z.setAll (us := snL s p1 m1 c1) rfl
          have hg13 : Gr wr ((wr.alloc (.cells zS.toArray 30)).setCells wr.heap.size 0 (snL s p1 m1 c1)) := ((Gr.refl wr).alloc _).setCells (Nat.le_refl _) _ _
          clear Z S1 hI
          generalize (wr.alloc (.cells zS.toArray 30)).setCells wr.heap.size 0 (snL s p1 m1 c1) = w13 at *
          have hb13x : bx < wr.heap.size := BX.lt (by simp)
          have hbw13 : wr.heap.size ≤ wr.heap.size := Nat.le_refl _
          generalize hb13 : wr.heap.size = b13 at B13 hb13x hbw13 ⊢
          have Hb13 := Lib.hid hb13
          clear hb13
          (try simp only [Act.put])
          have x0 := B13.cell 0 rfl
          have HTs := Lib.hid fun hk => hT.out.keep Hys.out hk Hfs.out
          have HTk := Lib.hid fun hk => hT.out.skip Hys.out hk
          have hgs := hgj.trans hg13
          by_cases h5 : s.kind = 5
          · have HT2 := Lib.hid (HTk.out (keep_5 h5))
            rw [h5] at x0
            clear h5 HTs HTk
            go_wp2_with fail
            go_roundw
            case rel => exact ⟨j + 1, S, now, oN, qN, cN, oS, mS, cS, by omega, by omega, by go_num, rfl, HT2, Lib.hid (hN.out.keep hg13), BX.keep hg13, TX.keep hg13, Lib.hid (hOS.out.keep (SnI_mono w) hg13), Nat.le_trans hszj hg13.le, hgs⟩
            case measure => simp [intOf]; omega
          by_cases h2 : s.kind = 2
          · have hFi := Lib.hid (refFind_any oN qN cN now s.key w13 (hN.out.keep hg13).rows (few_sz Hfs.out (by decide)).key)
            have HT2 := HTs.out (keep_2 h2)
            have hRe := re_kind2 h2 now
            have hZe := few_sz (few_re hT.out.sml Hfs.out) (by decide : 100 ≤ 1000)
            rw [h2] at x0
            have x1 := B13.cell 1 rfl
            have HR3 := Lib.hid (rowsN w)
            clear h5 h2 HTs HTk
            cases hb : hasB s.key now
            · rw [hb] at hFi hRe
              rw [if_neg (by decide)] at hRe
              rw [hRe] at HT2 hZe
              have HT2 := Lib.hid HT2
              have HZ3 := Lib.hid hZe
              clear hRe hZe hb
              go_upto_region 17 with (go_at_call 8; (with_reducible refine hFi.out.mono ?_); rintro e w14 ⟨rfl, d3, rfl⟩)
              have hgd : Gr w13 (w13.drewN d3) := (Gr.refl w13).drewN d3
              have B14 := B13.keep hgd
              have x1 := hgd.keep x1
              have hg14 := hg13.trans hgd
              generalize w13.drewN d3 = w14 at *
              clear hFi hgd
              go_upto_region 20 with ((with_reducible refine wpList_store_box (ty := 30) (B14) ((snL (s2 s ⟨#[]⟩ false) none 0 0)) ?_ ?_ ?_ ?_ ?_ ?_); (focus (exact rfl)); (focus (exact ⟨_, _, rfl, rfl, rfl⟩)); (focus (exact rfl)); (focus kernel_rfl); (focus kernel_rfl))
              have B19 := B14.setAll (us := snL (s2 s ⟨#[]⟩ false) none 0 0) rfl
              have hg19 := hg14.setCells (b := b13) (by rw [Hb13.out]; exact Nat.le_refl _) (snL (s2 s ⟨#[]⟩ false) none 0 0) 0
              generalize w14.setCells b13 0 (snL (s2 s ⟨#[]⟩ false) none 0 0) = w19 at *
              clear B14 hg14 x1
              (try simp only [Act.put])
              have BX19 := BX.keep hg19
              have TX19 := TX.keep hg19
              have HN19 := Lib.hid (hN.out.keep hg19)
              have HOS19 := Lib.hid (hOS.out.keep (SnI_mono w) hg19)
              have x4 := BX19.cell 4 rfl
              have hgA19 : Gr w19 (w19.alloc (.cells (snL (s2 s ⟨#[]⟩ false) none 0 0).toArray 30)) := (Gr.refl w19).alloc _
              have hlt19 := Lib.hid fun g e => HOS19.out.lt g e
              have hsz19 : w10.heap.size ≤ w19.heap.size := Nat.le_trans hszj hg19.le
              have HO20 := Lib.hid (HOS19.out.keep (SnI_mono w) hgA19)
              have Hsrc := Lib.hid (seenI_one (T := 30) (w3 := w19) (r := Value.ownBlock (.slice oS mS cS)) HR3.out HZ3.out (fun g e => (hlt19.out g e).2))
              have hgw19 := hWr.out.trans (hgj.trans hg19)
              have hgo19 := hgj.trans hg19
              have hown13 : some b13 ≠ Value.ownBlock (.slice oS mS cS) := fun e => by
                have h1 := (hOS.out.lt b13 e.symm).2
                rw [Hb13.out] at h1
                omega
              have hownx : some bx ≠ Value.ownBlock (.slice oS mS cS) := fun e => by
                have h1 := (hOS.out.lt bx e.symm).1
                omega
              clear x0 BX TX
              go_upto_region 21 with (first | ((with_reducible refine wpList_load_box (ty := 30) (B19) ?_ ?_ Try.underlying30 ?_ ?_ ?_); (focus (exact rfl)); (focus (exact ⟨_, rfl, rfl⟩)); (focus (exact rfl)); (focus kernel_rfl)) | (at_builtin; refine wpList_app (SnI_mono w) seenRT rfl _ _ rfl (base := w10.heap.size) (Nat.le_trans hsz19 hgA19.le) rfl HO20.out rfl Hsrc.out (by unfold maxLen; omega) (by omega) ?_; intro oc k3 w20 ho4 hb4; (have hg20 : Gr WO w20 := HO20.out.gr hb4 (hgo19.trans hgA19) (Nat.le_of_lt (Nat.lt_of_le_of_lt hwb hbx))); (have B20 := bx_block (hb4.block b13 (Nat.lt_of_lt_of_le (B19.lt (by simp)) hgA19.le) hown13) (B19.keep hgA19)); (have BX20 := bx_block (hb4.block bx (Nat.lt_of_lt_of_le (BX19.lt (by simp)) hgA19.le) hownx) (BX19.keep hgA19)); (have TX20 := (TX19.keep hgA19).grown hb4 hownx); (have HN20 := Lib.hid ((HN19.out.keep hgA19).grownN hb4 (fun g e => (TyAt.own HO20.out e).rows (by decide) (HN19.out.keep hgA19)))); (have hsz20 := Nat.le_trans hsz19 (Nat.le_trans hgA19.le hb4.size)); have f4 := BX20.free 4 (by simp); have y4 := BX20.cell 4 rfl; have HO21 := Lib.hid ho4; clear ho4 hb4))
              have BX21 := (BX20.set 4 (.slice oc (mS + 1) k3)).of (us := trL ⟨2 * i, 2 * i + 1, N, 0, S ++ [(s2 s ⟨#[]⟩ false)]⟩ oc (mS + 1) k3) rfl
              have B21 := B20.other (b' := bx) (j := 4) (by omega) (.slice oc (mS + 1) k3)
              have TX21 := TX20.set bx 4 (.slice oc (mS + 1) k3)
              have HN21 := Lib.hid (HN20.out.setO (j := 4) (TX20.rows (by decide) HN20.out) (.slice oc (mS + 1) k3))
              have HO21 := Lib.hid (ownI_store (j := 4) HO21.out hbx (.slice oc (mS + 1) k3))
              have hg21 := hg20.setCell (p := ⟨bx, 4, none⟩) hwb (.slice oc (mS + 1) k3)
              have hsz21 : w10.heap.size ≤ (w20.setCell ⟨bx, 4, none⟩ (.slice oc (mS + 1) k3)).heap.size := by unfold World.setCell; simpa using hsz20
              clear f4 y4 x4 BX20 TX20 HN20 B20 HO20 Hsrc BX19 TX19 HN19 HOS19 B19 hgA19 hg20
              generalize w20.setCell ⟨bx, 4, none⟩ (.slice oc (mS + 1) k3) = w21 at *
              (try simp only [Act.put])
              have hgA21 : Gr w21 (w21.alloc (.cells (snL (s2 s ⟨#[]⟩ false) none 0 0).toArray 30)) := (Gr.refl w21).alloc _
              have hSA := Lib.hid (seenI (seenI_one (T := 30) (r := none) HR3.out HZ3.out (w3 := w21) (fun g e => by cases e)) ((hWr.out.trans hg21).trans hgA21))
              have hql : qN ≤ 200 := by
                have h1 := HN21.out.rows.len
                have h2 := hT.out.size
                have h3 := hIL.out.size
                omega
              have hWn := Lib.hid (written_own (some ⟨w21.heap.size, 0, none⟩) 1 1 [(s2 s ⟨#[]⟩ false)] oN qN cN now _ hSA.out (base := w.heap.size) (Nat.le_trans (hWr.out.trans hg21).le hgA21.le) (HN21.out.keep hgA21) (by omega))
              go_wp2_with (first | ((with_reducible refine wpList_load_box (ty := 30) (B21) ?_ ?_ Try.underlying30 ?_ ?_ ?_); (focus (exact rfl)); (focus (exact ⟨_, rfl, rfl⟩)); (focus (exact rfl)); (focus kernel_rfl)) | (go_at_call 9; (refine hWn.out.mono ?_); rintro e w22 ⟨o22, q22, c22, rfl, hr22, hg22⟩; have Hr22 := Lib.hid hr22; clear hr22))
              have hg23 := hgA21.trans hg22
              go_roundw
              case rel => exact ⟨j + 1, S ++ [(s2 s ⟨#[]⟩ false)], _, o22, q22, c22, oc, mS + 1, k3, by omega, by omega, by go_num, rfl, HT2, Hr22, BX21.keep hg23, TX21.keep hg23, Lib.hid (HO21.out.keep (SnI_mono w) hg23), Nat.le_trans hsz21 hg23.le, hg21.trans hg23⟩
              case measure => simp [intOf]; omega
            · rw [hb] at hFi hRe
              rw [if_pos rfl] at hRe
              rw [hRe] at HT2 hZe
              have HT2 := Lib.hid HT2
              have HZ3 := Lib.hid hZe
              have hpl : place s.key now < qN := by
                unfold hasB at hb
                simp only [decide_eq_true_eq] at hb
                rw [← hN.out.rows.len]; exact hb.1
              clear hRe hZe hb
              have hRR := hN.out.rows
              obtain ⟨b3, off3, ho3, hc3⟩ := hRR.cells
              have Hc3 := Lib.hid hc3
              have Ho3 := Lib.hid (fun q => (ho3 q).1)
              have H3 := Lib.hid hRR
              have hn3 := hRR.cap_le
              have hm3 := hRR.cap_max
              unfold maxLen at hm3
              clear hc3 ho3 hRR
              have hI3 := run_row cN Ho3.out hpl
              have Y3 := Lib.hid (Hc3.out _ hpl).2
              generalize place s.key now = pl at *
              generalize vAt now pl = vv at *
              go_upto_region 17 with (go_at_call 8; (with_reducible refine hFi.out.mono ?_); rintro e w14 ⟨rfl, d3, rfl⟩)
              have hgd : Gr w13 (w13.drewN d3) := (Gr.refl w13).drewN d3
              have B14 := B13.keep hgd
              have x1 := hgd.keep x1
              have hg14 := hg13.trans hgd
              generalize w13.drewN d3 = w14 at *
              clear hFi hgd
              go_upto_region 18 with ((with_reducible refine wpList_store_box (ty := 30) (B14) ((snL (s2 s ⟨#[]⟩ true) none 0 0)) ?_ ?_ ?_ ?_ ?_ ?_); (focus (exact rfl)); (focus (exact ⟨_, _, rfl, rfl, rfl⟩)); (focus (exact rfl)); (focus kernel_rfl); (focus kernel_rfl))
              have B17 := B14.setAll (us := snL (s2 s ⟨#[]⟩ true) none 0 0) rfl
              have hg17 := hg14.setCells (b := b13) (by rw [Hb13.out]; exact Nat.le_refl _) (snL (s2 s ⟨#[]⟩ true) none 0 0) 0
              generalize w14.setCells b13 0 (snL (s2 s ⟨#[]⟩ true) none 0 0) = w17 at *
              clear B14 hg14 x1
              (try simp only [Act.put])
              have y3 := hg17.keep Y3.out
              have f2 := B17.free 2 (by simp)
              have z2 := B17.cell 2 rfl
              go_upto_region 20 with fail
              have B19 := (B17.set 2 (.string vv)).of (us := snL (s2 s vv true) none 0 0) rfl
              have hg19 := hg17.setCell (p := ⟨b13, 2, none⟩) (by rw [Hb13.out]; exact Nat.le_refl _) (.string vv)
              generalize w17.setCell ⟨b13, 2, none⟩ (.string vv) = w19 at *
              clear B17 hg17 y3 f2 z2 hI3 Ho3 Hc3 Y3
              (try simp only [Act.put])
              have BX19 := BX.keep hg19
              have TX19 := TX.keep hg19
              have HN19 := Lib.hid (hN.out.keep hg19)
              have HOS19 := Lib.hid (hOS.out.keep (SnI_mono w) hg19)
              have x4 := BX19.cell 4 rfl
              have hgA19 : Gr w19 (w19.alloc (.cells (snL (s2 s vv true) none 0 0).toArray 30)) := (Gr.refl w19).alloc _
              have hlt19 := Lib.hid fun g e => HOS19.out.lt g e
              have hsz19 : w10.heap.size ≤ w19.heap.size := Nat.le_trans hszj hg19.le
              have HO20 := Lib.hid (HOS19.out.keep (SnI_mono w) hgA19)
              have Hsrc := Lib.hid (seenI_one (T := 30) (w3 := w19) (r := Value.ownBlock (.slice oS mS cS)) HR3.out HZ3.out (fun g e => (hlt19.out g e).2))
              have hgw19 := hWr.out.trans (hgj.trans hg19)
              have hgo19 := hgj.trans hg19
              have hown13 : some b13 ≠ Value.ownBlock (.slice oS mS cS) := fun e => by
                have h1 := (hOS.out.lt b13 e.symm).2
                rw [Hb13.out] at h1
                omega
              have hownx : some bx ≠ Value.ownBlock (.slice oS mS cS) := fun e => by
                have h1 := (hOS.out.lt bx e.symm).1
                omega
              clear x0 BX TX
              go_upto_region 21 with (first | ((with_reducible refine wpList_load_box (ty := 30) (B19) ?_ ?_ Try.underlying30 ?_ ?_ ?_); (focus (exact rfl)); (focus (exact ⟨_, rfl, rfl⟩)); (focus (exact rfl)); (focus kernel_rfl)) | (at_builtin; refine wpList_app (SnI_mono w) seenRT rfl _ _ rfl (base := w10.heap.size) (Nat.le_trans hsz19 hgA19.le) rfl HO20.out rfl Hsrc.out (by unfold maxLen; omega) (by omega) ?_; intro oc k3 w20 ho4 hb4; (have hg20 : Gr WO w20 := HO20.out.gr hb4 (hgo19.trans hgA19) (Nat.le_of_lt (Nat.lt_of_le_of_lt hwb hbx))); (have B20 := bx_block (hb4.block b13 (Nat.lt_of_lt_of_le (B19.lt (by simp)) hgA19.le) hown13) (B19.keep hgA19)); (have BX20 := bx_block (hb4.block bx (Nat.lt_of_lt_of_le (BX19.lt (by simp)) hgA19.le) hownx) (BX19.keep hgA19)); (have TX20 := (TX19.keep hgA19).grown hb4 hownx); (have HN20 := Lib.hid ((HN19.out.keep hgA19).grownN hb4 (fun g e => (TyAt.own HO20.out e).rows (by decide) (HN19.out.keep hgA19)))); (have hsz20 := Nat.le_trans hsz19 (Nat.le_trans hgA19.le hb4.size)); have f4 := BX20.free 4 (by simp); have y4 := BX20.cell 4 rfl; have HO21 := Lib.hid ho4; clear ho4 hb4))
              have BX21 := (BX20.set 4 (.slice oc (mS + 1) k3)).of (us := trL ⟨2 * i, 2 * i + 1, N, 0, S ++ [(s2 s vv true)]⟩ oc (mS + 1) k3) rfl
              have B21 := B20.other (b' := bx) (j := 4) (by omega) (.slice oc (mS + 1) k3)
              have TX21 := TX20.set bx 4 (.slice oc (mS + 1) k3)
              have HN21 := Lib.hid (HN20.out.setO (j := 4) (TX20.rows (by decide) HN20.out) (.slice oc (mS + 1) k3))
              have HO21 := Lib.hid (ownI_store (j := 4) HO21.out hbx (.slice oc (mS + 1) k3))
              have hg21 := hg20.setCell (p := ⟨bx, 4, none⟩) hwb (.slice oc (mS + 1) k3)
              have hsz21 : w10.heap.size ≤ (w20.setCell ⟨bx, 4, none⟩ (.slice oc (mS + 1) k3)).heap.size := by unfold World.setCell; simpa using hsz20
              clear f4 y4 x4 BX20 TX20 HN20 B20 HO20 Hsrc BX19 TX19 HN19 HOS19 B19 hgA19 hg20
              generalize w20.setCell ⟨bx, 4, none⟩ (.slice oc (mS + 1) k3) = w21 at *
              (try simp only [Act.put])
              have hgA21 : Gr w21 (w21.alloc (.cells (snL (s2 s vv true) none 0 0).toArray 30)) := (Gr.refl w21).alloc _
              have hSA := Lib.hid (seenI (seenI_one (T := 30) (r := none) HR3.out HZ3.out (w3 := w21) (fun g e => by cases e)) ((hWr.out.trans hg21).trans hgA21))
              have hql : qN ≤ 200 := by
                have h1 := HN21.out.rows.len
                have h2 := hT.out.size
                have h3 := hIL.out.size
                omega
              have hWn := Lib.hid (written_own (some ⟨w21.heap.size, 0, none⟩) 1 1 [(s2 s vv true)] oN qN cN now _ hSA.out (base := w.heap.size) (Nat.le_trans (hWr.out.trans hg21).le hgA21.le) (HN21.out.keep hgA21) (by omega))
              go_wp2_with (first | ((with_reducible refine wpList_load_box (ty := 30) (B21) ?_ ?_ Try.underlying30 ?_ ?_ ?_); (focus (exact rfl)); (focus (exact ⟨_, rfl, rfl⟩)); (focus (exact rfl)); (focus kernel_rfl)) | (go_at_call 9; (refine hWn.out.mono ?_); rintro e w22 ⟨o22, q22, c22, rfl, hr22, hg22⟩; have Hr22 := Lib.hid hr22; clear hr22))
              have hg23 := hgA21.trans hg22
              go_roundw
              case rel => exact ⟨j + 1, S ++ [(s2 s vv true)], _, o22, q22, c22, oc, mS + 1, k3, by omega, by omega, by go_num, rfl, HT2, Hr22, BX21.keep hg23, TX21.keep hg23, Lib.hid (HO21.out.keep (SnI_mono w) hg23), Nat.le_trans hsz21 hg23.le, hg21.trans hg23⟩
              case measure => simp [intOf]; omega
          · have hRi := Lib.hid fun w3 bn (hq : SeenAt w3 (some ⟨bn, 0, none⟩) 1 1 [s]) => show Calls Try.prog 7 #[.agg #[.int .i64 0, .int .i64 0, .int .i64 0, .int .i64 0, .slice (some ⟨bn, 0, none⟩) 1 1]] w3 fun e w' => e = .returned (.bool (okS s)) ∧ Gr w3 w' by
              have := refRightT_any ⟨0, 0, 0, 0, [s]⟩ (some ⟨bn, 0, none⟩) 1 1 w3 hq
              rwa [okT_one] at this
            have e5 : (s.kind == 5) = false := by rw [beq_eq_false_iff_ne]; exact h5
            have e2 : (s.kind == 2) = false := by rw [beq_eq_false_iff_ne]; exact h2
            have e2' : (s.kind != 2) = true := by simpa using h2
            have x1 := B13.cell 1 rfl
            have x2 := B13.cell 2 rfl
            have x3 := B13.cell 3 rfl
            have x4 := B13.cell 4 rfl
            have x5 := B13.cell 5 rfl
            have x6 := B13.cell 6 rfl
            have x7 := B13.cell 7 rfl
            have x8 := B13.cell 8 rfl
            have x9 := B13.cell 9 rfl
            have X0 := Lib.hid x0
            have hgA := (Gr.refl w13).alloc (.cells (snL s p1 m1 c1).toArray 30)
            have hSA := Lib.hid (show SeenAt (w13.alloc (.cells #[.int .i64 s.kind, .string s.key, .string s.val, .bool s.there, .string s.low, .string s.high, .bool s.unb, .int .i64 s.limit, .bool s.rev, .slice p1 m1 c1] 30)) (some ⟨w13.heap.size, 0, none⟩) 1 1 [s] from seenI (seenI_one (T := 30) (r := none) HR0.out (few_sz Hfs.out (by decide)) (w3 := w13) (fun g e => by cases e)) (hWr.out.trans (hgs.trans hgA)))
            have hKN := Lib.hid (keep_N h2 h5)
            have hRe := Lib.hid (re_kindN h2 now)
            clear h5 h2
            cases hok : okS s
            · have HT2 := Lib.hid (HTk.out (hKN.out.trans hok))
              rw [hok] at hRi
              clear hok HTs HTk
              go_wp2_with (go_at_call 7; (with_reducible refine (hRi.out _ _ hSA.out).mono ?_); rintro e w15 ⟨rfl, hg15⟩)
              have hg16 := hg13.trans (hgA.trans hg15)
              go_roundw
              case rel => exact ⟨j + 1, S, now, oN, qN, cN, oS, mS, cS, by omega, by omega, by go_num, rfl, HT2, Lib.hid (hN.out.keep hg16), BX.keep hg16, TX.keep hg16, Lib.hid (hOS.out.keep (SnI_mono w) hg16), Nat.le_trans hszj hg16.le, hgj.trans hg16⟩
              case measure => simp [intOf]; omega
            · have HT2 := Lib.hid (HTs.out (hKN.out.trans hok))
              rw [hok] at hRi
              rw [hRe.out] at HT2
              clear hok HTs HTk
              go_upto_region 20 with (go_at_call 7; (with_reducible refine (hRi.out _ _ hSA.out).mono ?_); rintro e w19 ⟨rfl, hg15⟩; have x0 := (hgA.trans hg15).keep X0.out)
              have hg19 := hg13.trans (hgA.trans hg15)
              have B19 := B13.keep (hgA.trans hg15)
              have HR3 := HR0
              have HZ3 := Lib.hid (few_sz Hfs.out (by decide))
              clear x1 x2 x3 x4 x5 x6 x7 x8 x9 hRi hSA hgA hg15 e5 e2 e2' hKN hRe X0
              have BX19 := BX.keep hg19
              have TX19 := TX.keep hg19
              have HN19 := Lib.hid (hN.out.keep hg19)
              have HOS19 := Lib.hid (hOS.out.keep (SnI_mono w) hg19)
              have x4 := BX19.cell 4 rfl
              have hgA19 : Gr w19 (w19.alloc (.cells (snL s p1 m1 c1).toArray 30)) := (Gr.refl w19).alloc _
              have hlt19 := Lib.hid fun g e => HOS19.out.lt g e
              have hsz19 : w10.heap.size ≤ w19.heap.size := Nat.le_trans hszj hg19.le
              have HO20 := Lib.hid (HOS19.out.keep (SnI_mono w) hgA19)
              have Hsrc := Lib.hid (seenI_one (T := 30) (w3 := w19) (r := Value.ownBlock (.slice oS mS cS)) HR3.out HZ3.out (fun g e => (hlt19.out g e).2))
              have hgw19 := hWr.out.trans (hgj.trans hg19)
              have hgo19 := hgj.trans hg19
              have hown13 : some b13 ≠ Value.ownBlock (.slice oS mS cS) := fun e => by
                have h1 := (hOS.out.lt b13 e.symm).2
                rw [Hb13.out] at h1
                omega
              have hownx : some bx ≠ Value.ownBlock (.slice oS mS cS) := fun e => by
                have h1 := (hOS.out.lt bx e.symm).1
                omega
              clear x0 BX TX
              go_upto_region 21 with (first | ((with_reducible refine wpList_load_box (ty := 30) (B19) ?_ ?_ Try.underlying30 ?_ ?_ ?_); (focus (exact rfl)); (focus (exact ⟨_, rfl, rfl⟩)); (focus (exact rfl)); (focus kernel_rfl)) | (at_builtin; refine wpList_app (SnI_mono w) seenRT rfl _ _ rfl (base := w10.heap.size) (Nat.le_trans hsz19 hgA19.le) rfl HO20.out rfl Hsrc.out (by unfold maxLen; omega) (by omega) ?_; intro oc k3 w20 ho4 hb4; (have hg20 : Gr WO w20 := HO20.out.gr hb4 (hgo19.trans hgA19) (Nat.le_of_lt (Nat.lt_of_le_of_lt hwb hbx))); (have B20 := bx_block (hb4.block b13 (Nat.lt_of_lt_of_le (B19.lt (by simp)) hgA19.le) hown13) (B19.keep hgA19)); (have BX20 := bx_block (hb4.block bx (Nat.lt_of_lt_of_le (BX19.lt (by simp)) hgA19.le) hownx) (BX19.keep hgA19)); (have TX20 := (TX19.keep hgA19).grown hb4 hownx); (have HN20 := Lib.hid ((HN19.out.keep hgA19).grownN hb4 (fun g e => (TyAt.own HO20.out e).rows (by decide) (HN19.out.keep hgA19)))); (have hsz20 := Nat.le_trans hsz19 (Nat.le_trans hgA19.le hb4.size)); have f4 := BX20.free 4 (by simp); have y4 := BX20.cell 4 rfl; have HO21 := Lib.hid ho4; clear ho4 hb4))
              have BX21 := (BX20.set 4 (.slice oc (mS + 1) k3)).of (us := trL ⟨2 * i, 2 * i + 1, N, 0, S ++ [s]⟩ oc (mS + 1) k3) rfl
              have B21 := B20.other (b' := bx) (j := 4) (by omega) (.slice oc (mS + 1) k3)
              have TX21 := TX20.set bx 4 (.slice oc (mS + 1) k3)
              have HN21 := Lib.hid (HN20.out.setO (j := 4) (TX20.rows (by decide) HN20.out) (.slice oc (mS + 1) k3))
              have HO21 := Lib.hid (ownI_store (j := 4) HO21.out hbx (.slice oc (mS + 1) k3))
              have hg21 := hg20.setCell (p := ⟨bx, 4, none⟩) hwb (.slice oc (mS + 1) k3)
              have hsz21 : w10.heap.size ≤ (w20.setCell ⟨bx, 4, none⟩ (.slice oc (mS + 1) k3)).heap.size := by unfold World.setCell; simpa using hsz20
              clear f4 y4 x4 BX20 TX20 HN20 B20 HO20 Hsrc BX19 TX19 HN19 HOS19 B19 hgA19 hg20
              generalize w20.setCell ⟨bx, 4, none⟩ (.slice oc (mS + 1) k3) = w21 at *
              (try simp only [Act.put])
              have hgA21 : Gr w21 (w21.alloc (.cells (snL s p1 m1 c1).toArray 30)) := (Gr.refl w21).alloc _
              have hSA := Lib.hid (seenI (seenI_one (T := 30) (r := none) HR3.out HZ3.out (w3 := w21) (fun g e => by cases e)) ((hWr.out.trans hg21).trans hgA21))
              have hql : qN ≤ 200 := by
                have h1 := HN21.out.rows.len
                have h2 := hT.out.size
                have h3 := hIL.out.size
                omega
              have hWn := Lib.hid (written_own (some ⟨w21.heap.size, 0, none⟩) 1 1 [s] oN qN cN now _ hSA.out (base := w.heap.size) (Nat.le_trans (hWr.out.trans hg21).le hgA21.le) (HN21.out.keep hgA21) (by omega))
              go_wp2_with (first | ((with_reducible refine wpList_load_box (ty := 30) (B21) ?_ ?_ Try.underlying30 ?_ ?_ ?_); (focus (exact rfl)); (focus (exact ⟨_, rfl, rfl⟩)); (focus (exact rfl)); (focus kernel_rfl)) | (go_at_call 9; (refine hWn.out.mono ?_); rintro e w22 ⟨o22, q22, c22, rfl, hr22, hg22⟩; have Hr22 := Lib.hid hr22; clear hr22))
              have hg23 := hgA21.trans hg22
              go_roundw
              case rel => exact ⟨j + 1, S ++ [s], _, o22, q22, c22, oc, mS + 1, k3, by omega, by omega, by go_num, rfl, HT2, Hr22, BX21.keep hg23, TX21.keep hg23, Lib.hid (HO21.out.keep (SnI_mono w) hg23), Nat.le_trans hsz21 hg23.le, hg21.trans hg23⟩
              case measure => simp [intOf]; omega
        · obtain rfl : j = mt := by omega
          have hTe := hT.out
          rw [← Hmt.out] at hTe
          obtain ⟨hx, hNx⟩ := hIL.out.next Hy.out hTe (by rw [Hmt.out]; exact hm8)
          have Hx := Lib.hid hx
          have HNx := Lib.hid hNx
          clear hTe hx hNx
          have hWs := Lib.hid (writes17_any oS mS cS S wr (seenI (hOS.out.sl (SnI_mono w)) (hWr.out.trans hgj)))
          have y4 := BX.cell 4 rfl
          rw [Hx.out] at HNx
          cases hw : writesL S
          · rw [hw] at hWs HNx
            rw [if_neg (by decide), if_neg (by decide), if_neg (by decide)] at HNx
            clear hw
            go_upto_region 27 with (go_at_call 10; (with_reducible refine hWs.out.mono ?_); rintro e w26 ⟨rfl, hg25⟩)
            have BX26 := BX.keep hg25
            have hOS26 := Lib.hid (hOS.out.keep (SnI_mono w) hg25)
            have hg26 := hgj.trans hg25
            have HR26 := Lib.hid (hR.out.keep hg26)
            clear BX hOS hg25 y4 hWs Hx
            have hz26 : TrSz ⟨2 * i, 2 * i + 1, N, 0, S⟩ := ⟨wf_small (k := 0) (by omega), wf_small (by omega)⟩
            have HOL26 := Lib.hid (hOL.out.keep (TrI_mono w) hg26)
            have hgA : Gr w26 (w26.alloc (.cells (trL ⟨2 * i, 2 * i + 1, N, 0, S⟩ oS mS cS).toArray 28)) := (Gr.refl w26).alloc _
            have hltL := Lib.hid fun g e => Nat.lt_of_lt_of_le (hOL.out.lt g e).2 hwb
            have hbw := BX26.lt (by simp)
            have HOL27 := Lib.hid (HOL26.out.keep (TrI_mono w) hgA)
            have Hsrc := Lib.hid (tripI_one (T := 28) (t := ⟨2 * i, 2 * i + 1, N, 0, S⟩) hOS26.out hz26 (r := Value.ownBlock (.slice oL i cL)) (fun g e => ⟨Nat.lt_trans (hltL.out g e) hbx, Nat.lt_trans (hltL.out g e) hbw⟩))
            have hgw26 := hWr.out.trans hg26
            clear HOL26 hOL hIL hT hbw
            go_wp2_with (first | ((with_reducible refine wpList_load_box (ty := 28) (BX26) ?_ ?_ Try.underlying28 ?_ ?_ ?_); (focus (exact rfl)); (focus (exact ⟨_, rfl, rfl⟩)); (focus (exact rfl)); (focus kernel_rfl)) | (at_builtin; refine wpList_app (TrI_mono w) tripRT rfl _ _ rfl (base := w.heap.size) (hgw26.trans hgA).le rfl HOL27.out rfl Hsrc.out (by unfold maxLen; omega) (by omega) ?_; intro oc k3 w28 ho4 hb4; (have hg28 : Gr w w28 := HOL27.out.gr hb4 (hgw26.trans hgA) (Nat.le_refl _)); (have HR28 := Lib.hid ((HR26.out.keep hgA).grownN hb4 (fun g e => (TyAt.own HOL27.out e).rows (by decide) (HR26.out.keep hgA)))); have HL28 := Lib.hid ho4; clear ho4 hb4))
            go_roundw
            case rel => exact ⟨i + 1, N, L ++ [⟨2 * i, 2 * i + 1, N, 0, S⟩], _, oR, qR, cR, oc, k3, by omega, by omega, by go_num, by go_num, rfl, rfl, HNx, HR28, HL28, hg28⟩
            case measure => simp [intOf]; omega
          · rw [hw] at hWs HNx
            rw [if_pos rfl, if_pos rfl, if_pos rfl] at HNx
            clear hw
            go_upto_region 25 with (go_at_call 10; (with_reducible refine hWs.out.mono ?_); rintro e w24 ⟨rfl, hg25⟩)
            have BX25 := BX.keep hg25
            have TX25 := TX.keep hg25
            have f3 := BX25.free 3 (by simp)
            have y3 := BX25.cell 3 rfl
            have eN : IntKind.i64.wrap ((N : Int) + 1) = (N : Int) + 1 := IntWalk.i64_in _ (by omega)
            go_upto_region 27 with fail
            have BX26 := (BX25.set 3 (.int .i64 ((N : Int) + 1))).of (us := trL ⟨2 * i, 2 * i + 1, N, (N : Int) + 1, S⟩ oS mS cS) rfl
            have hOS26 := Lib.hid (ownI_store (j := 3) (hOS.out.keep (SnI_mono w) hg25) hbx (.int .i64 ((N : Int) + 1)))
            have hg26 := (hgj.trans hg25).setCell (p := ⟨bx, 3, none⟩) hwb (.int .i64 ((N : Int) + 1))
            have HR26 := Lib.hid ((hN.out.keep hg25).setO (j := 3) (TX25.rows (by decide) (hN.out.keep hg25)) (.int .i64 ((N : Int) + 1)))
            generalize w24.setCell ⟨bx, 3, none⟩ (.int .i64 ((N : Int) + 1)) = w26 at *
            clear BX hOS hg25 y4 hWs Hx f3 y3 BX25 TX25
            (try simp only [Act.put])
            have hz26 : TrSz ⟨2 * i, 2 * i + 1, N, (N : Int) + 1, S⟩ := ⟨(by have := wf_small (k := N + 1) (by omega); rwa [show ((N + 1 : Nat) : Int) = (N : Int) + 1 by omega] at this), wf_small (by omega)⟩
            have HOL26 := Lib.hid (hOL.out.keep (TrI_mono w) hg26)
            have hgA : Gr w26 (w26.alloc (.cells (trL ⟨2 * i, 2 * i + 1, N, (N : Int) + 1, S⟩ oS mS cS).toArray 28)) := (Gr.refl w26).alloc _
            have hltL := Lib.hid fun g e => Nat.lt_of_lt_of_le (hOL.out.lt g e).2 hwb
            have hbw := BX26.lt (by simp)
            have HOL27 := Lib.hid (HOL26.out.keep (TrI_mono w) hgA)
            have Hsrc := Lib.hid (tripI_one (T := 28) (t := ⟨2 * i, 2 * i + 1, N, (N : Int) + 1, S⟩) hOS26.out hz26 (r := Value.ownBlock (.slice oL i cL)) (fun g e => ⟨Nat.lt_trans (hltL.out g e) hbx, Nat.lt_trans (hltL.out g e) hbw⟩))
            have hgw26 := hWr.out.trans hg26
            clear HOL26 hOL hIL hT hbw
            go_wp2_with (first | ((with_reducible refine wpList_load_box (ty := 28) (BX26) ?_ ?_ Try.underlying28 ?_ ?_ ?_); (focus (exact rfl)); (focus (exact ⟨_, rfl, rfl⟩)); (focus (exact rfl)); (focus kernel_rfl)) | (at_builtin; refine wpList_app (TrI_mono w) tripRT rfl _ _ rfl (base := w.heap.size) (hgw26.trans hgA).le rfl HOL27.out rfl Hsrc.out (by unfold maxLen; omega) (by omega) ?_; intro oc k3 w28 ho4 hb4; (have hg28 : Gr w w28 := HOL27.out.gr hb4 (hgw26.trans hgA) (Nat.le_refl _)); (have HR28 := Lib.hid ((HR26.out.keep hgA).grownN hb4 (fun g e => (TyAt.own HOL27.out e).rows (by decide) (HR26.out.keep hgA)))); have HL28 := Lib.hid ho4; clear ho4 hb4))
            go_roundw
            case rel => exact ⟨i + 1, N + 1, L ++ [⟨2 * i, 2 * i + 1, N, (N : Int) + 1, S⟩], _, oN, qN, cN, oc, k3, by omega, by omega, by go_num, by go_num, rfl, rfl, HNx, HR28, HL28, hg28⟩
            case measure => simp [intOf]; omega
    · obtain rfl : i = n := by omega
      have hLe := hIL.out.stop (by rw [Hl.out]; exact Nat.le_refl _)
      have HFew := Lib.hid (hIL.out.fewL hn)
      have HT := Lib.hid (tripsI (hOL.out.sl (TrI_mono w)) hg)
      have HLl := Lib.hid hIL.out.len
      have hck := (run_check l).2
      have HRw := Lib.hid fun (k j : Nat) (x : Tr) (s : Sn) (h1 : (runL l 0 0 [])[k]? = some x) (h2 : x.seen[j]? = some s) (h3 : s.kind = 2) => run_wrong l h1 h2 h3
      rw [← hLe] at hck HRw
      have HCk := Lib.hid fun w2 o2 c2 (hT : TripsAt w2 o2 i c2 L) => show Calls Try.prog 11 #[.slice o2 i c2] w2 fun e w' => e = .returned (.tuple #[.int .i64 (-1), .nilIface]) ∧ Gr w2 w' by
        have := check_any o2 i c2 L w2 hT HFew.out
        rwa [chkV_none hck] at this
      have hAl := Lib.hid (all20_any oL i cL L wr HT.out HFew.out)
      clear hck hLe hIL hOL hR HIL HN Hc Ho
      rcases Nat.eq_zero_or_pos i with h0 | hpos
      · subst h0
        go_wp2_with (first | (go_at_call 12; (with_reducible refine hAl.out.mono ?_); rintro e w2 ⟨o2, c2, rfl, hT2, hg2⟩; (have HT2 := Lib.hid hT2); clear hT2) | (go_at_call 11; (with_reducible refine (HCk.out _ _ _ HT2.out).mono ?_); rintro e w3 ⟨rfl, hg3⟩) | (go_at_call 6; (with_reducible refine (awake20_any _).mono ?_); rintro e w6 ⟨rfl, hg6⟩))
        go_ret
        exact ⟨rfl, hg.trans (hg2.trans (hg3.trans hg6))⟩
      have hkm0 : m % i < i := Nat.mod_lt _ hpos
      have hrem0 : (m : Int) % (i : Int) = ((m % i : Nat) : Int) := by simp
      generalize hkk : m % i = kk at *
      have hkm := hkm0
      have hrem := hrem0
      have hi0 : (i : Int) ≠ 0 := by omega
      clear hkm0 hrem0 hkk
      have hAo := Lib.hid fun w2 (hq : Gr wr w2) => allOwn_any oL i cL L w2 (HT.out.keep hq) HFew.out
      go_upto_region 36 with (first | (go_at_call 12; (with_reducible refine hAl.out.mono ?_); rintro e w2 ⟨o2, c2, rfl, hT2, hg2⟩; (have HT2 := Lib.hid hT2); clear hT2 hAl) | (go_at_call 11; (with_reducible refine (HCk.out _ _ _ HT2.out).mono ?_); rintro e w3 ⟨rfl, hg3⟩; have hg23 := hg2.trans hg3) | (go_at_call 12; (with_reducible refine (hAo.out _ hg23).mono ?_); rintro e w4 ⟨o4, c4, GL, rfl, hM4, hO4, hF4, hA4, hLo4, hg4⟩; have HM4 := Lib.hid hM4; have HO4 := Lib.hid hO4; have HF4 := Lib.hid hF4; have HA4 := Lib.hid hA4; have HLo4 := Lib.hid hLo4; clear hM4 hO4 hF4 hA4 hLo4))
      have hgr4 : Gr wr w4 := hg23.trans hg4
      have hxk : ∃ x, GL[kk]? = some x := ⟨GL[kk]'(by have := congrArg List.length HM4.out; rw [List.length_map, HLl.out] at this; omega), List.getElem?_eq_getElem _⟩
      obtain ⟨x, hx⟩ := hxk
      have hLx : L[kk]? = some x.t := by rw [← HM4.out, List.getElem?_map, hx]; rfl
      obtain ⟨bT, offT, hoT, hcT⟩ := (HO4.out.sl GvE_mono).cells
      obtain ⟨vsx, -, -, ⟨rfl, hSx, -, -⟩, hclx⟩ := hcT kk x hx
      have y4 := hclx 4 _ rfl
      have HoT := Lib.hid fun (q : 0 < i) => (hoT q).1
      have hIT := run_tripP c4 HoT.out hkm
      have hcT4 := (HO4.out.sl GvE_mono).cap_le
      have hcT5 := (HO4.out.sl GvE_mono).cap_max
      have hm8x : x.t.seen.length ≤ 8 := (HFew.out.2 kk x.t hLx).1
      have hcx1 := hSx.cap_le
      have hcx2 := hSx.cap_max
      unfold maxLen at hcx2 hcT5
      have Hx := Lib.hid hx
      have HLx := Lib.hid hLx
      have hbase : w.heap.size ≤ x.lo := Nat.le_trans (hg.trans hg23).le (HLo4.out x (List.mem_of_getElem? hx))
      clear hx hLx hoT hcT hSx hclx HCk hAo HT2
      generalize hmx : x.t.seen.length = mx at *
      have Hmx := Lib.hid hmx
      clear hmx
      generalize hpx : x.p = px at *
      have Hpx := Lib.hid hpx
      clear hpx
      generalize hcx : x.c = cx at *
      have Hcx := Lib.hid hcx
      clear hcx
      go_wp2_with fail
      go_loopw [139] (fun s139 wx => ∃ (j : Nat), j ≤ mx ∧ s139 = .int .i64 j ∧ Gr w4 wx) (fun s139 _ => mx - (intOf s139).toNat)
      case atStart => exact ⟨0, Nat.zero_le _, rfl, Gr.refl _⟩
      case round =>
        obtain ⟨j, hj, rfl, hg5⟩ := hrel
        by_cases hltj : j < mx
        · have hys : x.t.seen[j]? = some (x.t.seen[j]'(by have := Hmx.out; omega)) := List.getElem?_eq_getElem _
          generalize (x.t.seen[j]'(by have := Hmx.out; omega)) = s at hys
          obtain ⟨bT2, offT2, g, og, o3, n3, c3, hoT2, hpx, -, -, hcell4, hrng, -, hrows, hszs, -, hneg, hgl, hlog, hWs⟩ := long_store HO4.out HF4.out HA4.out Hx.out hys
          have ebT : (⟨bT2, offT2, none⟩ : Addr) = ⟨bT, offT, none⟩ := by
            have e1 := HoT.out (by omega)
            rw [hoT2] at e1
            exact Option.some.inj e1
          obtain ⟨rfl, rfl⟩ : bT2 = bT ∧ offT2 = offT := by simpa using ebT
          rw [Hpx.out] at hpx
          have S1 : SnAt wr g (og + j * 10) s o3 n3 c3 := ⟨hg5.range hrng, hrows.keep hg5, hszs⟩
          have hI := run_seenP cx (fun _ => hpx) hltj
          have Hys := Lib.hid hys
          have HWs := Lib.hid hWs
          have Z := (Bx.new wr zS.toArray 50 rfl).of (us := zS) (by simp)
          clear hys hWs ebT hcell4 hrng hoT2 hrows
          go_upto_region 39 with (first | (refine wpList_load_mid rfl 50 _ rfl _ _ rfl _ _ (S1).rng Try.underlying50 rfl (by kernel_rfl) ?_) | ((with_reducible refine wpList_store_box (ty := 50) (Z) ((snL s o3 n3 c3)) ?_ ?_ ?_ ?_ ?_ ?_); (focus (exact rfl)); (focus (exact ⟨_, _, rfl, rfl, rfl⟩)); (focus (exact rfl)); (focus kernel_rfl); (focus kernel_rfl)))
          have B13 := Z.setAll (us := snL s o3 n3 c3) rfl
          have hg13 : Gr wr ((wr.alloc (.cells zS.toArray 50)).setCells wr.heap.size 0 (snL s o3 n3 c3)) := ((Gr.refl wr).alloc _).setCells (Nat.le_refl _) _ _
          clear Z S1
          generalize (wr.alloc (.cells zS.toArray 50)).setCells wr.heap.size 0 (snL s o3 n3 c3) = w13 at *
          have hgb13 : g < wr.heap.size := Nat.lt_of_lt_of_le hgl hg5.le
          have hw4b13 : w4.heap.size ≤ wr.heap.size := hg5.le
          generalize wr.heap.size = b13 at *
          (try simp only [Act.put])
          have x0 := B13.cell 0 rfl
          have hgs := hg5.trans hg13
          by_cases h2 : s.kind = 2
          · have hk2 := Lib.hid h2
            rw [h2] at x0
            clear h2
            have x2 := B13.cell 2 rfl
            have f2 := B13.free 2 (by simp)
            have hsv : s.val.size ≤ 100 := ((HFew.out.2 kk x.t HLx.out).2 j s Hys.out).val
            go_upto_region 41 with fail
            have B14 := (B13.set 2 (.string (s.val ++ ⟨#[120]⟩))).of (us := snL (longS s) o3 n3 c3) rfl
            have hg14 := hgs.setCell (p := ⟨b13, 2, none⟩) hw4b13 (.string (s.val ++ ⟨#[120]⟩))
            have y5 := hg14.keep y4
            clear x0 x2 f2 B13 hg13 hgs y4
            generalize w13.setCell ⟨b13, 2, none⟩ (.string (s.val ++ ⟨#[120]⟩)) = w14 at *
            (try simp only [Act.put])
            have hgd := hg14.drew
            have hT := (HWs.out _ hgd).2 (longS s) rfl ⟨hszs.key, (show (s.val ++ X1).size ≤ maxLen by rw [ByteArray.size_append, show X1.size = 1 from rfl]; unfold maxLen; omega), hszs.low, hszs.high⟩
            rw [HM4.out] at hT
            have HT := Lib.hid hT
            have hmay := (HWs.out _ hgd).1
            have hCk := check_any o4 i c4 _ _ hT (few_long HFew.out HLx.out Hys.out)
            rw [chkV_err (HRw.out kk j x.t s HLx.out Hys.out hk2.out) (by decide)] at hCk
            have HCk := Lib.hid hCk
            have hgZ : Gr w ((World.drew w14).setCells g (og + j * 10) (snL (longS s) o3 n3 c3)) := ((hg.trans hgr4).trans hgd).setCells (Nat.le_trans hbase hlog) _ _
            clear hT hCk HWs hszs HT
            refine wp_region_held_drew (S := fun w' => w'.rangeAt b13 0 (snL (longS s) o3 n3 c3) ∧ w'.cell? ⟨bT2, offT2 + kk * 5 + 4, none⟩ = some (.slice px mx cx)) (by kernel_rfl) ⟨((Gr.refl w14).drew).range B14.rng, y5⟩ (fun hHeld => ?_)
            refine' wpAnyH_take (i := 0) (oi := { dst := some 151, op := _, type := _, pos := _, after := _, guard := _ }) (v := .slice o4 i c4) rfl (by kernel_rfl) (by kernel_rfl) (by kernel_rfl) (fun _ _ _ h => h) (Or.inl ⟨by rfl, ?_⟩) hHeld ?_
            · (intro w hSw; go_simp)
            (try simp only [Act.put, List.setIfInBounds_toArray, List.set_cons_zero, List.set_cons_succ])
            refine' wpAnyH_take (i := 1) (oi := { dst := some 152, op := _, type := _, pos := _, after := _, guard := _ }) (v := .int .i64 kk) rfl (by kernel_rfl) (by kernel_rfl) (by kernel_rfl) (fun _ _ _ h => h) (Or.inl ⟨by rfl, ?_⟩) hHeld ?_
            · (intro w hSw; go_simp)
            (try simp only [Act.put, List.setIfInBounds_toArray, List.set_cons_zero, List.set_cons_succ])
            refine' wpAnyH_take (i := 2) (oi := { dst := some 153, op := _, type := _, pos := _, after := _, guard := _ }) (v := .pointer (some ⟨bT2, offT2 + kk * 5, none⟩)) rfl (by kernel_rfl) (by kernel_rfl) (by kernel_rfl) (fun _ _ _ h => h) (Or.inl ⟨by rfl, ?_⟩) hHeld ?_
            · (intro w hSw; go_simp)
            (try simp only [Act.put, List.setIfInBounds_toArray, List.set_cons_zero, List.set_cons_succ])
            refine' wpAnyH_take (i := 3) (oi := { dst := some 154, op := _, type := _, pos := _, after := _, guard := _ }) (v := .pointer (some ⟨bT2, offT2 + kk * 5 + 4, none⟩)) rfl (by kernel_rfl) (by kernel_rfl) (by kernel_rfl) (fun _ _ _ h => h) (Or.inl ⟨by rfl, ?_⟩) hHeld ?_
            · (intro w hSw; go_simp)
            (try simp only [Act.put, List.setIfInBounds_toArray, List.set_cons_zero, List.set_cons_succ])
            refine' wpAnyH_take (i := 4) (oi := { dst := some 155, op := _, type := _, pos := _, after := _, guard := _ }) (v := .slice px mx cx) rfl (by kernel_rfl) (by kernel_rfl) (by kernel_rfl) (fun _ _ _ h => h) (Or.inl ⟨by rfl, ?_⟩) hHeld ?_
            · (intro w hSw; have hSc := hSw.2; clear hSw; go_simp)
            (try simp only [Act.put, List.setIfInBounds_toArray, List.set_cons_zero, List.set_cons_succ])
            refine' wpAnyH_take (i := 5) (oi := { dst := some 156, op := _, type := _, pos := _, after := _, guard := _ }) (v := .int .i64 j) rfl (by kernel_rfl) (by kernel_rfl) (by kernel_rfl) (fun _ _ _ h => h) (Or.inl ⟨by rfl, ?_⟩) hHeld ?_
            · (intro w hSw; go_simp)
            (try simp only [Act.put, List.setIfInBounds_toArray, List.set_cons_zero, List.set_cons_succ])
            refine' wpAnyH_take (i := 6) (oi := { dst := some 157, op := _, type := _, pos := _, after := _, guard := _ }) (v := _) rfl (by kernel_rfl) (by kernel_rfl) (by kernel_rfl) (fun _ _ _ h => h) (yieldsIf_load_mid (by rfl) _ _ rfl _ _ rfl _ _ (fun w h => h.1) Try.underlying50 rfl (by kernel_rfl)) hHeld ?_
            (try simp only [Act.put, List.setIfInBounds_toArray, List.set_cons_zero, List.set_cons_succ])
            refine' wpAnyH_take (i := 7) (oi := { dst := some 158, op := _, type := _, pos := _, after := _, guard := _ }) (v := .pointer (some ⟨g, og + j * 10, none⟩)) rfl (by kernel_rfl) (by kernel_rfl) (by kernel_rfl) (fun _ _ _ h => h) (Or.inl ⟨by rfl, ?_⟩) hHeld ?_
            · (intro w hSw; go_simp)
            (try simp only [Act.put, List.setIfInBounds_toArray, List.set_cons_zero, List.set_cons_succ])
            refine wpAnyH_ready (rs := [8]) (by kernel_rfl) (by simp) ?_
            refine AllReadyH.cons (o := { dst := none, op := _, type := _, pos := _, after := _, guard := _ }) rfl (fun K hK => ?_) AllReadyH.nil
            refine step_wanted (by rfl) ?_
            refine wp_store_mid _ _ _ rfl _ _ (snL (longS s) o3 n3 c3).toArray rfl rfl hmay (by kernel_rfl) (by simp [Value.oneCell']) ?_
            simp only [Act.put, List.setIfInBounds_toArray, List.set_cons_zero, List.set_cons_succ, List.toList_toArray]
            refine hK.out _ _ ⟨World.rangeAt_setCells_apart hHeld.1 _ _ _ (.inl (by omega)), by rw [World.cell?_setCells_out g _ _ _ ⟨bT2, offT2 + kk * 5 + 4, none⟩ (fun e _ => absurd e hneg)]; exact hHeld.2⟩ (fun hHeld => ?_)
            clear hK K hmay
            generalize (World.drew w14).setCells g (og + j * 10) (snL (longS s) o3 n3 c3) = w15 at HCk hHeld hgZ ⊢
            refine wpAnyH_done (by kernel_rfl) ?_ _
            go_wp2_with (first | (go_at_call 11; (with_reducible refine HCk.out.mono ?_); rintro e w16 ⟨rfl, hg16⟩; have hgz16 := hgZ.trans hg16) | (go_at_call 13; (with_reducible refine (faultIs20 12 12 _).mono ?_); rintro e w17 ⟨rfl, hg17⟩; have hgz17 := hgz16.trans hg17) | (go_at_call 6; (with_reducible refine (awake20_any _).mono ?_); rintro e w18 ⟨rfl, hg18⟩))
            go_ret
            exact ⟨rfl, hgz17.trans hg18⟩
          · have e2 : (s.kind == 2) = false := by rw [beq_eq_false_iff_ne]; exact h2
            have Hgs := Lib.hid hgs
            clear h2 hgs hg13
            go_wp2_with fail
            go_roundw
            case rel => (refine ⟨_, _, _, _, _, _, ⟨j + 1, by omega, ?_, Hgs.out⟩, rfl, rfl, rfl, rfl, rfl, rfl⟩; go_num)
            case measure => simp [intOf]; omega
        · go_wp2_with (go_at_call 6; (with_reducible refine (awake20_any _).mono ?_); rintro e w6 ⟨rfl, hg6⟩)
          go_ret
          exact ⟨rfl, hg.trans (hgr4.trans (hg5.trans hg6))⟩
theorem runs20 (oa : Option Addr) (n cap : Nat) (l : List Tr) (a : Int) (w : World) (h : TripsAt w oa n cap l) (hw : (Lit.int .u8 a).wf = true) :
    Calls Try.prog 3 #[.slice oa n cap, .int .u8 a] w fun e w' => e = .returned (.bool true) ∧ Gr w w' := by
  have h2 : 0 ≤ a ∧ a < 256 := by
    have hw2 : 0 ≤ a ∧ a ≤ 255 := by simpa [Lit.wf, IntKind.min, IntKind.max, IntKind.signed, IntKind.bits] using hw
    omega
  obtain ⟨m, rfl⟩ : ∃ m : Nat, a = m := ⟨a.toNat, by omega⟩
  exact runs20m oa n cap l m (by omega) w h
end Go.Proofs.Ytopomocbjlikjaa
