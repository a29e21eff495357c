import Derived.Test.YtfejdbcfcpmdiaaFo
namespace Go.Proofs.Ytfejdbcfcpmdiaa
set_option linter.unusedVariables false
set_option linter.unusedSimpArgs false
open Go.BigFrame Go.RowKit Go.WideShapes

theorem key_max {k : ByteArray} (h : k.size ≤ 100) : k.size ≤ maxLen := by unfold maxLen; omega
theorem has_lt {key : ByteArray} {l : List Rw} (h : hasB key l = true) : place key l < l.length := by
  unfold hasB at h
  rw [decide_eq_true_iff] at h
  exact h.1

theorem hit_has {key : ByteArray} {R : List Rw} {r : Wt} (hR : rowsOkB R = true) (h : look key R = if r.gone = true then none else some ⟨r.key, r.val⟩) : hasB key R = !r.gone ∧ (r.gone = false → rAt R (place key R) = ⟨r.key, r.val⟩) := by
  rw [look_spec ((rowsOkB_iff _).1 hR).2] at h
  cases hg : r.gone <;> cases hh : hasB key R <;> rw [hg, hh] at h <;> simp at h ⊢
  exact h
theorem wlook_key {key : ByteArray} {p : List Wt} {r : Wt} (h : wlook key p = some r) : r.key = key := by
  have := List.find?_some h
  exact of_decide_eq_true this
/-- what Find tells, and what rows by the parts have -/
theorem finds_plain {l : List Rw} {a b : List Wt} (h : rowsOkB l = true) (ha : writesOkB a = true) (hb : writesOkB b = true) (key : ByteArray) :
    (∃ k v g, findV key a b = .tuple #[.agg #[.string k, .string v, .bool g], .bool true] ∧ k = key ∧ hasB key (overL (overL l a) b) = !g ∧ (g = false → rAt (overL (overL l a) b) (place key (overL (overL l a) b)) = ⟨k, v⟩))
    ∨ (findV key a b = .tuple #[.agg #[.string ⟨#[]⟩, .string ⟨#[]⟩, .bool false], .bool false] ∧ hasB key (overL (overL l a) b) = hasB key l ∧ (hasB key l = true → rAt (overL (overL l a) b) (place key (overL (overL l a) b)) = rAt l (place key l))) := by
  obtain ⟨h1, h2⟩ := over_look h ha key
  obtain ⟨h3, h4⟩ := over_look h1 hb key
  cases hB : wlook key b with
  | some r =>
    rw [hB] at h4
    obtain ⟨q1, q2⟩ := hit_has h3 h4
    exact .inl ⟨r.key, r.val, r.gone, by unfold findV; rw [hB], wlook_key hB, q1, q2⟩
  | none =>
    rw [hB] at h4
    cases hA : wlook key a with
    | some r =>
      rw [hA] at h2
      rw [h2] at h4
      obtain ⟨q1, q2⟩ := hit_has h3 h4
      exact .inl ⟨r.key, r.val, r.gone, by unfold findV; rw [hB, hA], wlook_key hA, q1, q2⟩
    | none =>
      rw [hA] at h2
      rw [h2] at h4
      obtain ⟨q1, q2⟩ := others h h3 h4
      exact .inr ⟨by unfold findV; rw [hB, hA], q1, q2⟩

set_option maxRecDepth 100000 in
set_option maxHeartbeats 8000000 in
theorem finds_main (oa : Option Addr) (n cap : Nat) (l : List Rw) (ob : Option Addr) (m cap2 : Nat) (a : List Wt) (oc : Option Addr) (q cap3 : Nat) (b : List Wt) (key : ByteArray) (w : World)
    (h : RowsAt w oa n cap l) (ha : WritesAt w ob m cap2 a) (hb : WritesAt w oc q cap3 b) (hk : key.size ≤ maxLen) :
    Calls Try.prog 3 #[.slice oa n cap, .slice ob m cap2, .slice oc q cap3, .string key] w fun e w' => e = .returned (.bool true) ∧ Gr w w' := by
  have hF := Lib.hid (few_any oa n cap l w h)
  have hFa := Lib.hid (fun w1 (hg : Gr w w1) => few_w ob m cap2 a w1 (ha.keep hg))
  have hFb := Lib.hid (fun w1 (hg : Gr w w1) => few_w oc q cap3 b w1 (hb.keep hg))
  have hR := Lib.hid (fun w1 (hg : Gr w w1) => refRowsRight_any oa n cap l w1 (h.keep hg))
  have hRa := Lib.hid (fun w1 (hg : Gr w w1) => refwRight_any ob m cap2 a w1 (ha.keep hg))
  have hRb := Lib.hid (fun w1 (hg : Gr w w1) => refwRight_any oc q cap3 b w1 (hb.keep hg))
  have H := Lib.hid h
  have Ha := Lib.hid ha
  have Hb := Lib.hid hb
  have hk' := hk
  unfold maxLen at hk'
  clear h ha hb
  go_enter Try.func3, Try.ntmps3
  go_wp2_with fail
  refine hF.out.mono ?_
  rintro e w1 ⟨⟨t, rfl, ht⟩, d, rfl⟩
  have hg1 : Gr w (w.drewN d) := by repeat (first | with_reducible exact Gr.refl _ | with_reducible refine Gr.drewN ?_ _ | with_reducible refine Gr.drew ?_ | with_reducible refine Gr.alloc ?_ _ | with_reducible refine Gr.setCell ?_ ?_ _ | (with_reducible refine Gr.trans ?_ (by assumption)) | omega | (dsimp only; omega))
  generalize w.drewN d = w1 at *
  cases t
  · go_wp2_with fail
    refine (awake_any _).mono ?_
    rintro e w2 ⟨rfl, hg2⟩
    go_wp2_with fail
    go_ret
    exact ⟨rfl, hg1.trans (by (repeat (first | with_reducible exact Gr.refl _ | with_reducible refine Gr.drewN ?_ _ | with_reducible refine Gr.drew ?_ | with_reducible refine Gr.alloc ?_ _ | with_reducible refine Gr.setCell ?_ ?_ _ | (with_reducible refine Gr.trans ?_ (by assumption)) | omega | (dsimp only; omega))))⟩
  have hn := ht rfl
  clear ht hF
  go_wp2_with fail
  refine (hR.out _ hg1).mono ?_
  rintro e w2 ⟨rfl, hg2⟩
  have hg2 := hg1.trans hg2
  cases hok : rowsOkB l
  · go_wp2_with fail
    refine (awake_any _).mono ?_
    rintro e w2 ⟨rfl, hg3⟩
    go_wp2_with fail
    go_ret
    exact ⟨rfl, hg2.trans (by (repeat (first | with_reducible exact Gr.refl _ | with_reducible refine Gr.drewN ?_ _ | with_reducible refine Gr.drew ?_ | with_reducible refine Gr.alloc ?_ _ | with_reducible refine Gr.setCell ?_ ?_ _ | (with_reducible refine Gr.trans ?_ (by assumption)) | omega | (dsimp only; omega))))⟩
  clear hR
  go_wp2_with fail
  refine (hFa.out _ hg2).mono ?_
  rintro e w1 ⟨⟨t, rfl, ht⟩, d, rfl⟩
  have hg3 : Gr w (w2.drewN d) := hg2.drewN d
  generalize w2.drewN d = w3 at *
  cases t
  · go_wp2_with fail
    refine (awake_any _).mono ?_
    rintro e w2 ⟨rfl, hg4⟩
    go_wp2_with fail
    go_ret
    exact ⟨rfl, hg3.trans (by (repeat (first | with_reducible exact Gr.refl _ | with_reducible refine Gr.drewN ?_ _ | with_reducible refine Gr.drew ?_ | with_reducible refine Gr.alloc ?_ _ | with_reducible refine Gr.setCell ?_ ?_ _ | (with_reducible refine Gr.trans ?_ (by assumption)) | omega | (dsimp only; omega))))⟩
  have hm := ht rfl
  clear ht hFa
  go_wp2_with fail
  refine (hFb.out _ hg3).mono ?_
  rintro e w1 ⟨⟨t, rfl, ht⟩, d, rfl⟩
  have hg4 : Gr w (w3.drewN d) := hg3.drewN d
  generalize w3.drewN d = w4 at *
  cases t
  · go_wp2_with fail
    refine (awake_any _).mono ?_
    rintro e w2 ⟨rfl, hg5⟩
    go_wp2_with fail
    go_ret
    exact ⟨rfl, hg4.trans (by (repeat (first | with_reducible exact Gr.refl _ | with_reducible refine Gr.drewN ?_ _ | with_reducible refine Gr.drew ?_ | with_reducible refine Gr.alloc ?_ _ | with_reducible refine Gr.setCell ?_ ?_ _ | (with_reducible refine Gr.trans ?_ (by assumption)) | omega | (dsimp only; omega))))⟩
  have hq := ht rfl
  clear ht hFb
  go_wp2_with fail
  refine (hRa.out _ hg4).mono ?_
  rintro e w5 ⟨rfl, hg5⟩
  have hg5 := hg4.trans hg5
  cases hoka : writesOkB a
  · go_wp2_with fail
    refine (awake_any _).mono ?_
    rintro e w2 ⟨rfl, hg6⟩
    go_wp2_with fail
    go_ret
    exact ⟨rfl, hg5.trans (by (repeat (first | with_reducible exact Gr.refl _ | with_reducible refine Gr.drewN ?_ _ | with_reducible refine Gr.drew ?_ | with_reducible refine Gr.alloc ?_ _ | with_reducible refine Gr.setCell ?_ ?_ _ | (with_reducible refine Gr.trans ?_ (by assumption)) | omega | (dsimp only; omega))))⟩
  clear hRa
  go_wp2_with fail
  refine (hRb.out _ hg5).mono ?_
  rintro e w6 ⟨rfl, hg6⟩
  have hg6 := hg5.trans hg6
  cases hokb : writesOkB b
  · go_wp2_with fail
    refine (awake_any _).mono ?_
    rintro e w2 ⟨rfl, hg7⟩
    go_wp2_with fail
    go_ret
    exact ⟨rfl, hg6.trans (by (repeat (first | with_reducible exact Gr.refl _ | with_reducible refine Gr.drewN ?_ _ | with_reducible refine Gr.drew ?_ | with_reducible refine Gr.alloc ?_ _ | with_reducible refine Gr.setCell ?_ ?_ _ | (with_reducible refine Gr.trans ?_ (by assumption)) | omega | (dsimp only; omega))))⟩
  clear hRb hg1 hg2 hg3 hg4 hg5
  by_cases hk1 : key.size ≤ 100
  rotate_left
  · go_wp2_with fail
    refine (awake_any _).mono ?_
    rintro e w2 ⟨rfl, hg7⟩
    go_wp2_with fail
    go_ret
    exact ⟨rfl, hg6.trans (by (repeat (first | with_reducible exact Gr.refl _ | with_reducible refine Gr.drewN ?_ _ | with_reducible refine Gr.drew ?_ | with_reducible refine Gr.alloc ?_ _ | with_reducible refine Gr.setCell ?_ ?_ _ | (with_reducible refine Gr.trans ?_ (by assumption)) | omega | (dsimp only; omega))))⟩
  have hcase := Lib.hid (finds_plain hok hoka hokb key)
  clear hok hoka hokb
  have hlen1 := overL_length l a
  have hHl := H.out.len
  have hAl := Ha.out.len
  have HO2 := Lib.hid (fun (w1 : World) (o1 : Option Addr) (q1 c1 : Nat) (hr : RowsAt w1 o1 q1 c1 (overL l a)) => refOver_any o1 q1 c1 _ oc q cap3 b w1 hr)
  go_wp2_with fail
  refine (given_n (Ha.out.keep hg6) (by omega)).mono ?_
  rintro e w7 ⟨o1, c1, rfl, ho1, hg7⟩
  have hg07 := hg6.trans hg7
  go_wp2_with fail
  refine (given_n (Hb.out.keep hg07) (by omega)).mono ?_
  rintro e w8 ⟨o2, c2, rfl, ho2, hg8⟩
  have hg08 := hg07.trans hg8
  have W1 := Lib.hid (ho1.rows.keep hg8)
  have W2 := Lib.hid ho2.rows
  clear ho1 ho2 hg7 hg8 hg6 hg07
  have gB := (Gr.refl w8).alloc (.cells #[.slice o1 m c1, .slice o2 q c2] 31)
  have HF := Lib.hid (find2 key w8.heap.size o1 o2 m c1 q c2 a b _ (World.cell?_alloc_new w8 _ _ 0) (World.cell?_alloc_new w8 _ _ 1) (W1.out.keep gB) (W2.out.keep gB))
  have hgB := hg08.trans gB
  clear gB W1 W2 hg08
  go_wp2_with fail
  rcases hcase.out with ⟨k, v, g, c1h, rfl, c2h, c3h⟩ | ⟨c1h, c2h, c3h⟩
  · rw [c1h] at HF
    clear hcase c1h
    with_reducible refine HF.out.mono ?_
    rintro e w9 ⟨rfl, hg9⟩
    have hg09 := hgB.trans hg9
    clear hg9 HF hgB
    go_wp2_with fail
    have y0 : (w9.alloc (.cells #[.string k, .string v, .bool g] 28)).cell? ⟨w9.heap.size, 0, none⟩ = some (.string k) := World.cell?_alloc_new w9 _ _ 0
    have y1 : (w9.alloc (.cells #[.string k, .string v, .bool g] 28)).cell? ⟨w9.heap.size, 1, none⟩ = some (.string v) := World.cell?_alloc_new w9 _ _ 1
    have y2 : (w9.alloc (.cells #[.string k, .string v, .bool g] 28)).cell? ⟨w9.heap.size, 2, none⟩ = some (.bool g) := World.cell?_alloc_new w9 _ _ 2
    have hg09 : Gr w (w9.alloc (.cells #[.string k, .string v, .bool g] 28)) := hg09.alloc _
    generalize w9.alloc (.cells #[.string k, .string v, .bool g] 28) = w9b at *
    generalize w9.heap.size = B9 at *
    refine (refOver_any oa n cap l ob m cap2 a w9b (H.out.keep hg09) (Ha.out.keep hg09) (by omega) (by omega)).mono ?_
    rintro e w10 ⟨o3, q3, c3, rfl, hr3, hg10⟩
    have y0 := hg10.keep y0
    have y1 := hg10.keep y1
    have y2 := hg10.keep y2
    have hl3 := hr3.len
    have hg010 := hg09.trans hg10
    have R3 := Lib.hid hr3
    clear hr3 hg10
    go_wp2_with fail
    refine (HO2.out w10 o3 q3 c3 R3.out (Hb.out.keep hg010) (by omega) (by omega)).mono ?_
    rintro e w11 ⟨o4, q4, c4, rfl, hr4, hg11⟩
    have y0 := hg11.keep y0
    have y1 := hg11.keep y1
    have y2 := hg11.keep y2
    have hg011 := hg010.trans hg11
    have R4 := Lib.hid hr4
    have hcl4 := hr4.cap_le
    have hcm4 := hr4.cap_max
    unfold maxLen at hcm4
    clear hr4 hg11 R3 hg010
    have hfd := Lib.hid (refFind_any o4 q4 c4 _ k w11 R4.out hk)
    rw [c2h] at hfd
    clear HO2
    generalize overL (overL l a) b = R at *
    cases g
    · have c3h := c3h rfl
      rw [Bool.not_false] at c2h hfd
      have hp := has_lt c2h
      rw [R4.out.len] at hp
      clear c2h
      generalize place k R = p at *
      obtain ⟨bR, offR, hoR, hcR⟩ := R4.out.cells
      have hI := run_row c4 (fun q => (hoR q).1) hp
      obtain ⟨x1, x2⟩ := hcR p hp
      unfold kAt at x1
      unfold vAt at x2
      rw [c3h] at x1 x2
      clear hoR hcR c3h
      go_wp2_with fail
      refine hfd.out.mono ?_
      rintro e w12 ⟨rfl, hg12⟩
      have x1 := hg12.gr.keep x1
      have x2 := hg12.gr.keep x2
      have y0 := hg12.gr.keep y0
      have y1 := hg12.gr.keep y1
      have y2 := hg12.gr.keep y2
      have hg012 := hg011.trans hg12.gr
      clear hg12 hfd
      have y0 := After.cell y0
      have y1 := After.cell y1
      have y2 := After.cell y2
      have x1 := After.cell x1
      have x2 := After.cell x2
      go_wp2_with fail
      refine wp_region_after (by kernel_rfl) (by kernel_rfl) ?_
      repeat (go_big_quiet_step ((go_at_call 13; (with_reducible exact after_gr (awake_any _)))))
      refine wpQuiet_nil ?_
      rintro _ ⟨⟨w1, hg1⟩, rfl⟩
      go_wp2_with fail
      go_ret
      exact ⟨rfl, hg012.trans hg1⟩
    · rw [Bool.not_true] at c2h hfd
      clear c3h c2h
      generalize place k R = p at *
      go_wp2_with fail
      refine hfd.out.mono ?_
      rintro e w12 ⟨rfl, hg12⟩
      have y0 := hg12.gr.keep y0
      have y1 := hg12.gr.keep y1
      have y2 := hg12.gr.keep y2
      have hg012 := hg011.trans hg12.gr
      clear hg12 hfd
      have y0 := After.cell y0
      have y1 := After.cell y1
      have y2 := After.cell y2
      go_wp2_with fail
      refine wp_region_after (by kernel_rfl) (by kernel_rfl) ?_
      repeat (go_big_quiet_step ((go_at_call 13; (with_reducible exact after_gr (awake_any _)))))
      refine wpQuiet_nil ?_
      rintro _ ⟨⟨w1, hg1⟩, rfl⟩
      go_wp2_with fail
      go_ret
      exact ⟨rfl, hg012.trans hg1⟩
  · rw [c1h] at HF
    clear hcase c1h
    with_reducible refine HF.out.mono ?_
    rintro e w9 ⟨rfl, hg9⟩
    have hg09 := hgB.trans hg9
    clear hg9 HF hgB
    go_wp2_with fail
    have y0 : (w9.alloc (.cells #[.string ⟨#[]⟩, .string ⟨#[]⟩, .bool false] 28)).cell? ⟨w9.heap.size, 0, none⟩ = some (.string ⟨#[]⟩) := World.cell?_alloc_new w9 _ _ 0
    have y1 : (w9.alloc (.cells #[.string ⟨#[]⟩, .string ⟨#[]⟩, .bool false] 28)).cell? ⟨w9.heap.size, 1, none⟩ = some (.string ⟨#[]⟩) := World.cell?_alloc_new w9 _ _ 1
    have y2 : (w9.alloc (.cells #[.string ⟨#[]⟩, .string ⟨#[]⟩, .bool false] 28)).cell? ⟨w9.heap.size, 2, none⟩ = some (.bool false) := World.cell?_alloc_new w9 _ _ 2
    have hg09 : Gr w (w9.alloc (.cells #[.string ⟨#[]⟩, .string ⟨#[]⟩, .bool false] 28)) := hg09.alloc _
    generalize w9.alloc (.cells #[.string ⟨#[]⟩, .string ⟨#[]⟩, .bool false] 28) = w9b at *
    generalize w9.heap.size = B9 at *
    refine (refOver_any oa n cap l ob m cap2 a w9b (H.out.keep hg09) (Ha.out.keep hg09) (by omega) (by omega)).mono ?_
    rintro e w10 ⟨o3, q3, c3, rfl, hr3, hg10⟩
    have y0 := hg10.keep y0
    have y1 := hg10.keep y1
    have y2 := hg10.keep y2
    have hl3 := hr3.len
    have hg010 := hg09.trans hg10
    have R3 := Lib.hid hr3
    clear hr3 hg10
    go_wp2_with fail
    refine (HO2.out w10 o3 q3 c3 R3.out (Hb.out.keep hg010) (by omega) (by omega)).mono ?_
    rintro e w11 ⟨o4, q4, c4, rfl, hr4, hg11⟩
    have y0 := hg11.keep y0
    have y1 := hg11.keep y1
    have y2 := hg11.keep y2
    have hg011 := hg010.trans hg11
    have R4 := Lib.hid hr4
    have hcl4 := hr4.cap_le
    have hcm4 := hr4.cap_max
    unfold maxLen at hcm4
    clear hr4 hg11 R3 hg010
    have hfd := Lib.hid (refFind_any o4 q4 c4 _ key w11 R4.out hk)
    rw [c2h] at hfd
    clear HO2
    generalize overL (overL l a) b = R at *
    have hfl := Lib.hid (fun w1 (hg : Gr w w1) => refFind_any oa n cap l key w1 (H.out.keep hg) hk)
    have l1 := has_lt (key := key) (l := R)
    have l2 := has_lt (key := key) (l := l)
    rw [c2h, R4.out.len] at l1
    rw [H.out.len] at l2
    clear c2h
    generalize hasB key l = hx at *
    generalize place key l = p2 at *
    generalize place key R = p at *
    cases hx
    · clear c3h l1 l2
      go_wp2_with fail
      refine hfd.out.mono ?_
      rintro e w12 ⟨rfl, hg12⟩
      have y0 := hg12.gr.keep y0
      have y1 := hg12.gr.keep y1
      have y2 := hg12.gr.keep y2
      have hg012 := hg011.trans hg12.gr
      clear hg12 hfd
      go_wp2_with fail
      refine (hfl.out _ hg012).mono ?_
      rintro e w13 ⟨rfl, hg13⟩
      have y0 := hg13.gr.keep y0
      have y1 := hg13.gr.keep y1
      have y2 := hg13.gr.keep y2
      have hg013 := hg012.trans hg13.gr
      clear hg13 hfl
      have y0 := After.cell y0
      have y1 := After.cell y1
      have y2 := After.cell y2
      go_wp2_with fail
      refine wp_region_after (by kernel_rfl) (by kernel_rfl) ?_
      repeat (go_big_quiet_step ((go_at_call 13; (with_reducible exact after_gr (awake_any _)))))
      refine wpQuiet_nil ?_
      rintro _ ⟨⟨w1, hg1⟩, rfl⟩
      go_wp2_with fail
      go_ret
      exact ⟨rfl, hg013.trans hg1⟩
    · have c3h := c3h rfl
      have l1 := l1 rfl
      have l2 := l2 rfl
      have hcl := H.out.cap_le
      have hcm := H.out.cap_max
      unfold maxLen at hcm
      obtain ⟨bR, offR, hoR, hcR⟩ := R4.out.cells
      obtain ⟨bL, offL, hoL, hcL⟩ := (H.out.keep hg011).cells
      have hI := run_row c4 (fun q => (hoR q).1) l1
      have hI2 := run_row cap (fun q => (hoL q).1) l2
      obtain ⟨x1, x2⟩ := hcR p l1
      obtain ⟨x3, x4⟩ := hcL p2 l2
      unfold kAt at x1 x3
      unfold vAt at x2 x4
      rw [c3h] at x1 x2
      clear hoR hcR hoL hcL c3h
      go_wp2_with fail
      refine hfd.out.mono ?_
      rintro e w12 ⟨rfl, hg12⟩
      have y0 := hg12.gr.keep y0
      have y1 := hg12.gr.keep y1
      have y2 := hg12.gr.keep y2
      have hg012 := hg011.trans hg12.gr
      have hgz := hg12.gr
      clear hg12 hfd
      go_wp2_with fail
      refine (hfl.out _ hg012).mono ?_
      rintro e w13 ⟨rfl, hg13⟩
      have y0 := hg13.gr.keep y0
      have y1 := hg13.gr.keep y1
      have y2 := hg13.gr.keep y2
      have hgz := hgz.trans hg13.gr
      have x1 := hgz.keep x1
      have x2 := hgz.keep x2
      have x3 := hgz.keep x3
      have x4 := hgz.keep x4
      have hg013 := hg012.trans hg13.gr
      clear hg13 hfl
      have y0 := After.cell y0
      have y1 := After.cell y1
      have y2 := After.cell y2
      have x1 := After.cell x1
      have x2 := After.cell x2
      have x3 := After.cell x3
      have x4 := After.cell x4
      go_wp2_with fail
      refine wp_region_after (by kernel_rfl) (by kernel_rfl) ?_
      repeat (go_big_quiet_step ((go_at_call 13; (with_reducible exact after_gr (awake_any _)))))
      refine wpQuiet_nil ?_
      rintro _ ⟨⟨w1, hg1⟩, rfl⟩
      go_wp2_with fail
      go_ret
      exact ⟨rfl, hg013.trans hg1⟩
end Go.Proofs.Ytfejdbcfcpmdiaa
