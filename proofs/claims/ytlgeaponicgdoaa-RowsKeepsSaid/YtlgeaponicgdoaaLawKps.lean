import Derived.Test.YtlgeaponicgdoaaSrt
import Derived.Test.YtlgeaponicgdoaaAw
import Derived.Test.YtlgeaponicgdoaaErr
import Derived.Deep.RegionWith
namespace Go.Proofs.Ytlgeaponicgdoaa
set_option linter.unusedVariables false
set_option linter.unusedSimpArgs false
open Go.BigFrame Go.RowKit Go.WideShapes

theorem key_max {k : ByteArray} (h : k.size ≤ 100) : k.size ≤ maxLen := by unfold maxLen; omega
theorem has_lt {key : ByteArray} {l : List Rw} (h : hasB key l = true) : place key l < l.length := by
  unfold hasB at h
  rw [decide_eq_true_iff] at h
  exact h.1
theorem of_drew {w w' : World} (h : Gr w.drew w') : Gr w w' := ((Gr.refl w).drew).trans h
theorem fits_sizes {k v : ByteArray} (h : fitsB ⟨k, v⟩ = true) : k.size ≤ 100 ∧ v.size ≤ 100 := by
  unfold fitsB rightB at h
  simp at h
  omega

set_option maxRecDepth 100000 in
set_option maxHeartbeats 2000000 in
theorem keeps_skip (oa : Option Addr) (n cap : Nat) (l : List Rw) (k v other : ByteArray) (w : World) (h : RowsAt w oa n cap l) (hk : k.size ≤ maxLen) (hv : v.size ≤ maxLen) (ho : other.size ≤ maxLen)
    (hs : rowsOkB l = false ∨ (rowsOkB l = true ∧ fitsB ⟨k, v⟩ = false) ∨ (rowsOkB l = true ∧ fitsB ⟨k, v⟩ = true ∧ 100 < other.size)) :
    Calls Try.prog 7 #[.slice oa n cap, .agg #[.string k, .string v], .string other] w fun e w' => e = .returned (.bool true) ∧ Gr w w' := by
  have hF := Lib.hid (few_any oa n cap l (boxW w k v) (h.keep (by repeat (first | with_reducible exact Gr.refl _ | with_reducible refine Gr.drewN ?_ _ | with_reducible refine Gr.drew ?_ | with_reducible refine Gr.alloc ?_ _ | with_reducible refine Gr.setCell ?_ ?_ _ | (with_reducible refine Gr.trans ?_ (by assumption)) | omega | (dsimp only; omega)))))
  have b0 := box_key w k v
  have b1 := box_val w k v
  have hR := Lib.hid (fun w1 (hg : Gr w w1) => refRowsRight_any oa n cap l w1 (h.keep hg))
  have hT := Lib.hid (fun w1 => refFits_any k v w1 hk hv)
  clear h
  unfold maxLen at ho
  have Hb := Lib.hid (fun w2 (hg : Gr (boxW w k v) w2) => And.intro (hg.keep b0) (hg.keep b1))
  rcases hs with hs | ⟨hs, hs2⟩ | ⟨hs, hs2, hs3⟩
  all_goals
    rw [hs] at hR
    (try rw [hs2] at hT)
    clear hs
    (try clear hs2)
    go_enter Try.func7, Try.ntmps7
    go_wp2_with fail
    refine hF.out.mono ?_
    rintro e w1 ⟨⟨b, rfl, hb⟩, d, rfl⟩
    have hg1 : Gr (boxW w k v) ((boxW w k v).drewN d) := by repeat (first | with_reducible exact Gr.refl _ | with_reducible refine Gr.drewN ?_ _ | with_reducible refine Gr.drew ?_ | with_reducible refine Gr.alloc ?_ _ | with_reducible refine Gr.setCell ?_ ?_ _ | (with_reducible refine Gr.trans ?_ (by assumption)) | omega | (dsimp only; omega))
    have hg01 : Gr w ((boxW w k v).drewN d) := by repeat (first | with_reducible exact Gr.refl _ | with_reducible refine Gr.drewN ?_ _ | with_reducible refine Gr.drew ?_ | with_reducible refine Gr.alloc ?_ _ | with_reducible refine Gr.setCell ?_ ?_ _ | (with_reducible refine Gr.trans ?_ (by assumption)) | omega | (dsimp only; omega))
    obtain ⟨b0, b1⟩ := Hb.out _ hg1
    generalize (boxW w k v).drewN d = w1 at *
    cases b
    · go_wp2_with fail
      refine (awake_any _).mono ?_
      rintro e w2 ⟨rfl, hg2⟩
      go_wp2_with fail
      go_ret
      exact ⟨rfl, by repeat (first | with_reducible exact Gr.refl _ | with_reducible refine Gr.drewN ?_ _ | with_reducible refine Gr.drew ?_ | with_reducible refine Gr.alloc ?_ _ | with_reducible refine Gr.setCell ?_ ?_ _ | (with_reducible refine Gr.trans ?_ (by assumption)) | omega | (dsimp only; omega))⟩
    · go_wp2_with fail
      refine (hR.out _ hg01).mono ?_
      rintro e w2 ⟨rfl, hg2⟩
      obtain ⟨b0, b1⟩ := Hb.out _ (hg1.trans hg2)
      have hg02 : Gr w w2 := hg01.trans hg2
      clear hg1 hg01 hg2
      go_wp2_with fail
      first
        | (refine (awake_any _).mono ?_
           rintro e w3 ⟨rfl, hg3⟩
           go_wp2_with fail
           go_ret
           exact ⟨rfl, hg02.trans (by (repeat (first | with_reducible exact Gr.refl _ | with_reducible refine Gr.drewN ?_ _ | with_reducible refine Gr.drew ?_ | with_reducible refine Gr.alloc ?_ _ | with_reducible refine Gr.setCell ?_ ?_ _ | (with_reducible refine Gr.trans ?_ (by assumption)) | omega | (dsimp only; omega))))⟩)
        | (refine (hT.out _).mono ?_
           rintro e w3 ⟨rfl, hg3⟩
           go_wp2_with fail
           refine (awake_any _).mono ?_
           rintro e w4 ⟨rfl, hg4⟩
           go_wp2_with fail
           go_ret
           exact ⟨rfl, hg02.trans (hg3.trans (by (repeat (first | with_reducible exact Gr.refl _ | with_reducible refine Gr.drewN ?_ _ | with_reducible refine Gr.drew ?_ | with_reducible refine Gr.alloc ?_ _ | with_reducible refine Gr.setCell ?_ ?_ _ | (with_reducible refine Gr.trans ?_ (by assumption)) | omega | (dsimp only; omega)))))⟩)

set_option maxRecDepth 100000 in
set_option maxHeartbeats 20000000 in
theorem keeps_main (oa : Option Addr) (n cap : Nat) (l : List Rw) (k v other : ByteArray) (w : World) (h : RowsAt w oa n cap l) (hs : rowsOkB l = true) (hf : fitsB ⟨k, v⟩ = true) (ho : other.size ≤ 100) :
    Calls Try.prog 7 #[.slice oa n cap, .agg #[.string k, .string v], .string other] w fun e w' => e = .returned (.bool true) ∧ Gr w w' := by
  have hF := Lib.hid (few_any oa n cap l (boxW w k v) (h.keep (by repeat (first | with_reducible exact Gr.refl _ | with_reducible refine Gr.drewN ?_ _ | with_reducible refine Gr.drew ?_ | with_reducible refine Gr.alloc ?_ _ | with_reducible refine Gr.setCell ?_ ?_ _ | (with_reducible refine Gr.trans ?_ (by assumption)) | omega | (dsimp only; omega)))))
  have b0 := box_key w k v
  have b1 := box_val w k v
  have hk := key_max (fits_sizes hf).1
  have hv := key_max (fits_sizes hf).2
  obtain ⟨k1, k2, k3, k4, k5, k6, k7⟩ := keeps hs hf
  have HPut := Lib.hid (fun (w1 : World) (o1 : Option Addr) (c1 : Nat) (hr : RowsAt w1 o1 n c1 l) (hn : n ≤ 100) => put_any o1 n c1 l k v w1 hr (by omega) hk hv hf)
  have HDrop := Lib.hid (fun (w1 : World) (o1 : Option Addr) (c1 : Nat) (hr : RowsAt w1 o1 n c1 l) (hn : n ≤ 100) => drop_any o1 n c1 l k w1 hr (by omega) hk)
  have HfP := Lib.hid (fun (w1 : World) (o1 : Option Addr) (m1 c1 : Nat) (hr : RowsAt w1 o1 m1 c1 (putL l ⟨k, v⟩)) => find_any o1 m1 c1 _ k w1 hr hk)
  have HfD := Lib.hid (fun (w1 : World) (o1 : Option Addr) (m1 c1 : Nat) (hr : RowsAt w1 o1 m1 c1 (dropL l k)) => find_any o1 m1 c1 _ k w1 hr hk)
  have HrP := Lib.hid (fun (w1 : World) (o1 : Option Addr) (m1 c1 : Nat) (hr : RowsAt w1 o1 m1 c1 (putL l ⟨k, v⟩)) => rowsRight_any o1 m1 c1 _ w1 hr)
  have HrD := Lib.hid (fun (w1 : World) (o1 : Option Addr) (m1 c1 : Nat) (hr : RowsAt w1 o1 m1 c1 (dropL l k)) => rowsRight_any o1 m1 c1 _ w1 hr)
  rw [k1] at HrP
  rw [k2] at HrD
  have K7 := Lib.hid (fun (q : other ≠ k) => And.intro (others (other := other) hs k1 (k7 other q).1) (others (other := other) hs k2 (k7 other q).2))
  have hpl : place k (putL l ⟨k, v⟩) < (putL l ⟨k, v⟩).length := by
    have k3' := k3
    unfold hasB at k3'
    rw [decide_eq_true_iff] at k3'
    exact k3'.1
  rw [k3] at HfP
  rw [k5] at HfD
  have hR := Lib.hid (fun w1 (hg : Gr w w1) => refRowsRight_any oa n cap l w1 (h.keep hg))
  have hT := Lib.hid (fun w1 => refFits_any k v w1 hk hv)
  rw [hs] at hR
  rw [hf] at hT
  have K4 := Lib.hid k4
  have K6 := Lib.hid k6
  have H := Lib.hid h
  clear h hs hf k1 k2 k3 k4 k5 k6 k7
  generalize putL l ⟨k, v⟩ = P at *
  generalize dropL l k = D at *
  generalize place k P = p at *
  generalize place k D = p2 at *
  have Hpl := Lib.hid hpl
  clear hpl
  have Hb := Lib.hid (fun w2 (hg : Gr (boxW w k v) w2) => And.intro (hg.keep b0) (hg.keep b1))
  go_enter Try.func7, Try.ntmps7
  go_wp2_with fail
  refine hF.out.mono ?_
  rintro e w1 ⟨⟨b, rfl, hb⟩, d, rfl⟩
  have hg1 : Gr (boxW w k v) ((boxW w k v).drewN d) := by repeat (first | with_reducible exact Gr.refl _ | with_reducible refine Gr.drewN ?_ _ | with_reducible refine Gr.drew ?_ | with_reducible refine Gr.alloc ?_ _ | with_reducible refine Gr.setCell ?_ ?_ _ | (with_reducible refine Gr.trans ?_ (by assumption)) | omega | (dsimp only; omega))
  have hg01 : Gr w ((boxW w k v).drewN d) := by repeat (first | with_reducible exact Gr.refl _ | with_reducible refine Gr.drewN ?_ _ | with_reducible refine Gr.drew ?_ | with_reducible refine Gr.alloc ?_ _ | with_reducible refine Gr.setCell ?_ ?_ _ | (with_reducible refine Gr.trans ?_ (by assumption)) | omega | (dsimp only; omega))
  obtain ⟨b0, b1⟩ := Hb.out _ hg1
  generalize (boxW w k v).drewN d = w1 at *
  cases b
  · go_wp2_with fail
    refine (awake_any _).mono ?_
    rintro e w2 ⟨rfl, hg2⟩
    go_wp2_with fail
    go_ret
    exact ⟨rfl, by repeat (first | with_reducible exact Gr.refl _ | with_reducible refine Gr.drewN ?_ _ | with_reducible refine Gr.drew ?_ | with_reducible refine Gr.alloc ?_ _ | with_reducible refine Gr.setCell ?_ ?_ _ | (with_reducible refine Gr.trans ?_ (by assumption)) | omega | (dsimp only; omega))⟩
  have hn := hb rfl
  clear hb hF
  go_wp2_with fail
  refine (hR.out _ hg01).mono ?_
  rintro e w2 ⟨rfl, hg2⟩
  obtain ⟨b0, b1⟩ := Hb.out _ (hg1.trans hg2)
  have hg02 : Gr w w2 := hg01.trans hg2
  have hgb2 := hg1.trans hg2
  clear hg1 hg01 hg2
  go_wp2_with fail
  refine (hT.out _).mono ?_
  rintro e w3 ⟨rfl, hg3⟩
  obtain ⟨b0, b1⟩ := Hb.out _ (hgb2.trans hg3)
  have hg03 : Gr w w3 := hg02.trans hg3
  have hgb3 := hgb2.trans hg3
  clear hg02 hgb2 hg3 hT hR
  go_wp2_with fail
  go_region_with (first
    | (go_at_call 26; ((with_reducible refine Calls.mono (own_any oa n cap l _ (H.out.keep (hg03.trans ?_)) (by omega)) ?_); (focus ((repeat (first | with_reducible exact Gr.refl _ | with_reducible refine Gr.drewN ?_ _ | with_reducible refine Gr.drew ?_ | with_reducible refine Gr.alloc ?_ _ | with_reducible refine Gr.setCell ?_ ?_ _ | (with_reducible refine Gr.trans ?_ (by assumption)) | omega | (dsimp only; omega))); done))); rintro e w4 ⟨o1, m1, c1, rfl, hr1, hg4, -⟩; obtain ⟨b0, b1⟩ := Hb.out w4 (hgb3.trans (by (repeat (first | with_reducible exact Gr.refl _ | with_reducible refine Gr.drewN ?_ _ | with_reducible refine Gr.drew ?_ | with_reducible refine Gr.alloc ?_ _ | with_reducible refine Gr.setCell ?_ ?_ _ | (with_reducible refine Gr.trans ?_ (by assumption)) | omega | (dsimp only; omega))))); obtain rfl : n = m1 := by rw [← hr1.len, H.out.len])
    | (go_at_call 28; ((with_reducible refine Calls.mono (HPut.out _ o1 c1 (hr1.keep ?_) hn) ?_); (focus ((repeat (first | with_reducible exact Gr.refl _ | with_reducible refine Gr.drewN ?_ _ | with_reducible refine Gr.drew ?_ | with_reducible refine Gr.alloc ?_ _ | with_reducible refine Gr.setCell ?_ ?_ _ | (with_reducible refine Gr.trans ?_ (by assumption)) | omega | (dsimp only; omega))); done))); rintro e w5 ⟨o2, m2, c2, rfl, hr2, hg5⟩; obtain ⟨b0, b1⟩ := Hb.out w5 (hgb3.trans (by (repeat (first | with_reducible exact Gr.refl _ | with_reducible refine Gr.drewN ?_ _ | with_reducible refine Gr.drew ?_ | with_reducible refine Gr.alloc ?_ _ | with_reducible refine Gr.setCell ?_ ?_ _ | (with_reducible refine Gr.trans ?_ (by assumption)) | omega | (dsimp only; omega)))))))
  all_goals
    have HP := Lib.hid hr2
    have hg35 : Gr w3 w5 := (of_drew hg4).trans hg5
    have hg05 := hg03.trans hg35
    have hgb5 := hgb3.trans hg35
    clear hr1 hr2 hg4 hg5 hg03 hgb3 hg35
    go_wp2_with fail
    go_region_with (first
      | (go_at_call 26; ((with_reducible refine Calls.mono (own_any oa n cap l _ (H.out.keep (hg05.trans ?_)) (by omega)) ?_); (focus ((repeat (first | with_reducible exact Gr.refl _ | with_reducible refine Gr.drewN ?_ _ | with_reducible refine Gr.drew ?_ | with_reducible refine Gr.alloc ?_ _ | with_reducible refine Gr.setCell ?_ ?_ _ | (with_reducible refine Gr.trans ?_ (by assumption)) | omega | (dsimp only; omega))); done))); rintro e w6 ⟨o3, m3, c3, rfl, hr3, hg6, -⟩; obtain ⟨b0, b1⟩ := Hb.out w6 (hgb5.trans (by (repeat (first | with_reducible exact Gr.refl _ | with_reducible refine Gr.drewN ?_ _ | with_reducible refine Gr.drew ?_ | with_reducible refine Gr.alloc ?_ _ | with_reducible refine Gr.setCell ?_ ?_ _ | (with_reducible refine Gr.trans ?_ (by assumption)) | omega | (dsimp only; omega))))); obtain rfl : n = m3 := by rw [← hr3.len, H.out.len])
      | (go_at_call 29; ((with_reducible refine Calls.mono (HDrop.out _ o3 c3 (hr3.keep ?_) hn) ?_); (focus ((repeat (first | with_reducible exact Gr.refl _ | with_reducible refine Gr.drewN ?_ _ | with_reducible refine Gr.drew ?_ | with_reducible refine Gr.alloc ?_ _ | with_reducible refine Gr.setCell ?_ ?_ _ | (with_reducible refine Gr.trans ?_ (by assumption)) | omega | (dsimp only; omega))); done))); rintro e w7 ⟨o4, m4, c4, rfl, hr4, hg7⟩; obtain ⟨b0, b1⟩ := Hb.out w7 (hgb5.trans (by (repeat (first | with_reducible exact Gr.refl _ | with_reducible refine Gr.drewN ?_ _ | with_reducible refine Gr.drew ?_ | with_reducible refine Gr.alloc ?_ _ | with_reducible refine Gr.setCell ?_ ?_ _ | (with_reducible refine Gr.trans ?_ (by assumption)) | omega | (dsimp only; omega)))))))
    all_goals
      have hg57 : Gr w5 w7 := (of_drew hg6).trans hg7
      have HP := Lib.hid (HP.out.keep hg57)
      have HD := Lib.hid hr4
      have hg07 := hg05.trans hg57
      have hgb7 := hgb5.trans hg57
      clear hr3 hr4 hg6 hg7 hg05 hgb5 hg57
      clear HPut HDrop
      go_wp2_with fail
      refine (HfP.out _ _ _ _ HP.out).mono ?_
      rintro e w8 ⟨rfl, hg8⟩
      have hg8 := hg8.gr
      obtain ⟨b0, b1⟩ := Hb.out w8 (hgb7.trans hg8)
      go_wp2_with fail
      refine (HfD.out _ _ _ _ (HD.out.keep hg8)).mono ?_
      rintro e w9 ⟨rfl, hg9⟩
      have hg79 := hg8.trans hg9.gr
      obtain ⟨b0, b1⟩ := Hb.out w9 (hgb7.trans hg79)
      have HP := Lib.hid (HP.out.keep hg79)
      have HD := Lib.hid (HD.out.keep hg79)
      have hg09 := hg07.trans hg79
      have hgb9 := hgb7.trans hg79
      clear hg8 hg9 hg79 hg07 hgb7 HfP HfD
      go_wp2_with fail
      have hml : m2 = m4 + 1 := by rw [← HP.out.len, ← HD.out.len]; exact K6.out
      subst hml
      have hp : p < m4 + 1 := by rw [← HP.out.len]; exact Hpl.out
      obtain ⟨bP, offP, hoP, hcP⟩ := HP.out.cells
      have hI := run_row c2 (fun q => (hoP q).1) hp
      have a1 := (hcP p hp).1
      have a2 := (hcP p hp).2
      unfold kAt at a1
      unfold vAt at a2
      rw [K4.out] at a1 a2
      have a1 := After.cell a1
      have a2 := After.cell a2
      have ab0 := After.cell b0
      have ab1 := After.cell b1
      clear hoP hcP
      have HA := Lib.hid (fun q : After w9 => HrP.out q.W _ _ _ (HP.out.keep q.gr))
      have HB := Lib.hid (fun q : After w9 => HrD.out q.W _ _ _ (HD.out.keep q.gr))
      have hcapP := HP.out.cap_le
      have hcapm := HP.out.cap_max
      unfold maxLen at hcapm
      clear HrP HrD K4 K6 Hpl
      generalize hasB k l = g at *
      refine wp_region_after (by kernel_rfl) (by kernel_rfl) ?_
      repeat (go_big_quiet_step ((first | (go_at_call 24; (with_reducible exact after_gr (HA.out _))) | (go_at_call 24; (with_reducible exact after_gr (HB.out _))))))
      refine wpQuiet_nil ?_
      rintro _ ⟨⟨w1, hg1⟩, rfl⟩
      rename_i w10
      have hg1 : Gr w9 w10 := hg1
      obtain ⟨b0, b1⟩ := Hb.out w10 (hgb9.trans hg1)
      have hg010 : Gr w w10 := hg09.trans hg1
      have HP := Lib.hid (HP.out.keep hg1)
      have HD := Lib.hid (HD.out.keep hg1)
      clear HA HB ab0 ab1 a1 a2 hI hg09 hgb9 hg1 Hb
      by_cases heq : other = k
      · subst heq
        clear K7
        go_wp2_with fail
        refine (awake_any _).mono ?_
        rintro e w11 ⟨rfl, hg11⟩
        go_wp2_with fail
        go_ret
        exact ⟨rfl, hg010.trans (by (repeat (first | with_reducible exact Gr.refl _ | with_reducible refine Gr.drewN ?_ _ | with_reducible refine Gr.drew ?_ | with_reducible refine Gr.alloc ?_ _ | with_reducible refine Gr.setCell ?_ ?_ _ | (with_reducible refine Gr.trans ?_ (by assumption)) | omega | (dsimp only; omega))))⟩
      · have hne := neL heq
        have k7 := K7.out heq
        obtain ⟨⟨k1, k2⟩, k3, k4⟩ := k7
        have hko : other.size ≤ maxLen := key_max ho
        have f1 := Lib.hid (find_any oa n cap l other w10 (H.out.keep hg010) hko)
        have f2 := Lib.hid (fun w1 (hg : Gr w10 w1) => find_any o2 (m4 + 1) c2 P other w1 (HP.out.keep hg) hko)
        have f3 := Lib.hid (fun w1 (hg : Gr w10 w1) => find_any o4 m4 c4 D other w1 (HD.out.keep hg) hko)
        rw [k1] at f2
        rw [k3] at f3
        have l1 := has_lt (key := other) (l := l)
        have l2 := has_lt (key := other) (l := P)
        have l3 := has_lt (key := other) (l := D)
        rw [k1] at l2
        rw [k3] at l3
        rw [H.out.len] at l1
        rw [HP.out.len] at l2
        rw [HD.out.len] at l3
        clear k1 k3
        generalize hasB other l = hx at *
        generalize place other l = pa at *
        generalize place other P = pb at *
        generalize place other D = pc at *
        cases hx
        · clear k2 k4 l1 l2 l3
          go_wp2_with fail
          refine f1.out.mono ?_
          rintro e w11 ⟨rfl, hg11⟩
          go_wp2_with fail
          refine (f2.out w11 hg11.gr).mono ?_
          rintro e w12 ⟨rfl, hg12⟩
          go_wp2_with fail
          refine (f3.out w12 (hg11.gr.trans hg12.gr)).mono ?_
          rintro e w13 ⟨rfl, hg13⟩
          have hgE : Gr w w13 := hg010.trans (hg11.gr.trans (hg12.gr.trans hg13.gr))
          clear f1 f2 f3 hg11 hg12 hg13
          go_wp2_with fail
          refine wp_region_after (by kernel_rfl) (by kernel_rfl) ?_
          repeat (go_big_quiet_step ((go_at_call 13; (with_reducible exact after_gr (awake_any _)))))
          refine wpQuiet_nil ?_
          rintro _ ⟨⟨w1, hg1⟩, rfl⟩
          go_wp2_with fail
          go_ret
          exact ⟨rfl, hgE.trans hg1⟩
        · have k2 := k2 rfl
          have k4 := k4 rfl
          have l1 := l1 rfl
          have l2 := l2 rfl
          have l3 := l3 rfl
          have hcl := H.out.cap_le
          have hcm := H.out.cap_max
          have hdl := HD.out.cap_le
          have hdm := HD.out.cap_max
          unfold maxLen at hcm hdm
          obtain ⟨bA, offA, hoA, hcA⟩ := (H.out.keep hg010).cells
          obtain ⟨bB, offB, hoB, hcB⟩ := HP.out.cells
          obtain ⟨bC, offC, hoC, hcC⟩ := HD.out.cells
          have hIA := run_row cap (fun q => (hoA q).1) l1
          have hIB := run_row c2 (fun q => (hoB q).1) l2
          have hIC := run_row c4 (fun q => (hoC q).1) l3
          obtain ⟨x1, x2⟩ := hcA pa l1
          obtain ⟨x3, x4⟩ := hcB pb l2
          obtain ⟨x5, x6⟩ := hcC pc l3
          unfold kAt at x1 x3 x5
          unfold vAt at x2 x4 x6
          rw [k2] at x3 x4
          rw [k4] at x5 x6
          clear hoA hoB hoC hcA hcB hcC k2 k4
          go_wp2_with fail
          refine f1.out.mono ?_
          rintro e w11 ⟨rfl, hg11⟩
          go_wp2_with fail
          refine (f2.out w11 hg11.gr).mono ?_
          rintro e w12 ⟨rfl, hg12⟩
          go_wp2_with fail
          refine (f3.out w12 (hg11.gr.trans hg12.gr)).mono ?_
          rintro e w13 ⟨rfl, hg13⟩
          have hgD : Gr w10 w13 := hg11.gr.trans (hg12.gr.trans hg13.gr)
          have hgE : Gr w w13 := hg010.trans hgD
          have x1 := hgD.keep x1
          have x2 := hgD.keep x2
          have x3 := hgD.keep x3
          have x4 := hgD.keep x4
          have x5 := hgD.keep x5
          have x6 := hgD.keep x6
          have x1 := After.cell x1
          have x2 := After.cell x2
          have x3 := After.cell x3
          have x4 := After.cell x4
          have x5 := After.cell x5
          have x6 := After.cell x6
          clear f1 f2 f3 hg11 hg12 hg13
          go_wp2_with fail
          refine wp_region_after (by kernel_rfl) (by kernel_rfl) ?_
          repeat (go_big_quiet_step ((go_at_call 13; (with_reducible exact after_gr (awake_any _)))))
          refine wpQuiet_nil ?_
          rintro _ ⟨⟨w1, hg1⟩, rfl⟩
          go_wp2_with fail
          go_ret
          exact ⟨rfl, hgE.trans hg1⟩

theorem keeps_walk (oa : Option Addr) (n cap : Nat) (l : List Rw) (k v other : ByteArray) (w : World) (h : RowsAt w oa n cap l) (hk : k.size ≤ maxLen) (hv : v.size ≤ maxLen) (ho : other.size ≤ maxLen) :
    Calls Try.prog 7 #[.slice oa n cap, .agg #[.string k, .string v], .string other] w fun e w' => e = .returned (.bool true) ∧ Gr w w' := by
  cases hB : rowsOkB l
  · exact keeps_skip oa n cap l k v other w h hk hv ho (.inl hB)
  · cases hf : fitsB ⟨k, v⟩
    · exact keeps_skip oa n cap l k v other w h hk hv ho (.inr (.inl ⟨hB, hf⟩))
    · by_cases h1 : other.size ≤ 100
      · exact keeps_main oa n cap l k v other w h hB hf h1
      · exact keeps_skip oa n cap l k v other w h hk hv ho (.inr (.inr ⟨hB, hf, by omega⟩))
end Go.Proofs.Ytlgeaponicgdoaa
