import Derived.Test.YtfejdbcfcpmdiaaOv
import Derived.Test.YtfejdbcfcpmdiaaTw
namespace Go.Proofs.Ytfejdbcfcpmdiaa
set_option linter.unusedVariables false
set_option linter.unusedSimpArgs false
open Go.BigFrame Go.RowKit Go.WideShapes

theorem over_one {oa : Option Addr} {n cap : Nat} {l : List Rw} {bp : Nat} {o : Option Addr} {m c : Nat} {p : List Wt} {w : World} (h : RowsAt w oa n cap l) (h0 : w.cell? ⟨bp, 0, none⟩ = some (.slice o m c)) (hW : WritesAt w o m c p) (hn : n ≤ 100) (hm : m ≤ 40) :
    Calls Try.prog 26 #[.slice oa n cap, .slice (some ⟨bp, 0, none⟩) 1 1] w fun e w' => ∃ o q c, e = .returned (.slice o q c) ∧ RowsAt w' o q c (overL l p) ∧ Gr w w' :=
  over_any oa n cap l bp 1 [⟨o, m, c, p⟩] w h ⟨rfl, fun i hi => by
      obtain rfl : i = 0 := by omega
      exact ⟨h0, hW⟩, fun i hi => by
      obtain rfl : i = 0 := by omega
      exact hm⟩ hn (by omega)
theorem over_two {oa : Option Addr} {n cap : Nat} {l : List Rw} {bp : Nat} {o : Option Addr} {m c : Nat} {p : List Wt} {o2 : Option Addr} {m2 c2 : Nat} {p2 : List Wt} {w : World} (h : RowsAt w oa n cap l) (h0 : w.cell? ⟨bp, 0, none⟩ = some (.slice o m c)) (h1 : w.cell? ⟨bp, 1, none⟩ = some (.slice o2 m2 c2))
    (hW : WritesAt w o m c p) (hW2 : WritesAt w o2 m2 c2 p2) (hn : n ≤ 100) (hm : m ≤ 40) (hm2 : m2 ≤ 40) :
    Calls Try.prog 26 #[.slice oa n cap, .slice (some ⟨bp, 0, none⟩) 2 2] w fun e w' => ∃ o q c, e = .returned (.slice o q c) ∧ RowsAt w' o q c (overL (overL l p) p2) ∧ Gr w w' :=
  over_any oa n cap l bp 2 [⟨o, m, c, p⟩, ⟨o2, m2, c2, p2⟩] w h ⟨rfl, fun i hi => by
      obtain rfl | rfl : i = 0 ∨ i = 1 := by omega
      · exact ⟨h0, hW⟩
      · exact ⟨h1, hW2⟩, fun i hi => by
      obtain rfl | rfl : i = 0 ∨ i = 1 := by omega
      · exact hm
      · exact hm2⟩ hn (by omega)

set_option maxRecDepth 100000 in
set_option maxHeartbeats 8000000 in
theorem twice_main (oa : Option Addr) (n cap : Nat) (l : List Rw) (ob : Option Addr) (m cap2 : Nat) (a : List Wt) (oc : Option Addr) (q cap3 : Nat) (b : List Wt) (w : World)
    (h : RowsAt w oa n cap l) (ha : WritesAt w ob m cap2 a) (hb : WritesAt w oc q cap3 b) :
    Calls Try.prog 7 #[.slice oa n cap, .slice ob m cap2, .slice oc q cap3] w fun e w' => e = .returned (.bool true) ∧ Gr w w' := by
  have hF := Lib.hid (few_any oa n cap l w h)
  have hFa := Lib.hid (fun w1 (hg : Gr w w1) => few_w ob m cap2 a w1 (ha.keep hg))
  have hFb := Lib.hid (fun w1 (hg : Gr w w1) => few_w oc q cap3 b w1 (hb.keep hg))
  have hR := Lib.hid (fun w1 (hg : Gr w w1) => refRowsRight_any oa n cap l w1 (h.keep hg))
  have hRa := Lib.hid (fun w1 (hg : Gr w w1) => refwRight_any ob m cap2 a w1 (ha.keep hg))
  have hRb := Lib.hid (fun w1 (hg : Gr w w1) => refwRight_any oc q cap3 b w1 (hb.keep hg))
  have H := Lib.hid h
  have Ha := Lib.hid ha
  have Hb := Lib.hid hb
  clear h ha hb
  go_enter Try.func7, Try.ntmps7
  go_wp2_with fail
  refine hF.out.mono ?_
  rintro e w1 ⟨⟨t, rfl, ht⟩, d, rfl⟩
  have hg1 : Gr w (w.drewN d) := by repeat (first | with_reducible exact Gr.refl _ | with_reducible refine Gr.drewN ?_ _ | with_reducible refine Gr.drew ?_ | with_reducible refine Gr.alloc ?_ _ | with_reducible refine Gr.setCell ?_ ?_ _ | (with_reducible refine Gr.trans ?_ (by assumption)) | omega | (dsimp only; omega))
  generalize w.drewN d = w1 at *
  cases t
  · go_wp2_with fail
    refine (awake_any _).mono ?_
    rintro e w2 ⟨rfl, hg2⟩
    go_wp2_with fail
    go_ret
    exact ⟨rfl, hg1.trans (by (repeat (first | with_reducible exact Gr.refl _ | with_reducible refine Gr.drewN ?_ _ | with_reducible refine Gr.drew ?_ | with_reducible refine Gr.alloc ?_ _ | with_reducible refine Gr.setCell ?_ ?_ _ | (with_reducible refine Gr.trans ?_ (by assumption)) | omega | (dsimp only; omega))))⟩
  have hn := ht rfl
  clear ht hF
  go_wp2_with fail
  refine (hR.out _ hg1).mono ?_
  rintro e w2 ⟨rfl, hg2⟩
  have hg2 := hg1.trans hg2
  cases hok : rowsOkB l
  · go_wp2_with fail
    refine (awake_any _).mono ?_
    rintro e w2 ⟨rfl, hg3⟩
    go_wp2_with fail
    go_ret
    exact ⟨rfl, hg2.trans (by (repeat (first | with_reducible exact Gr.refl _ | with_reducible refine Gr.drewN ?_ _ | with_reducible refine Gr.drew ?_ | with_reducible refine Gr.alloc ?_ _ | with_reducible refine Gr.setCell ?_ ?_ _ | (with_reducible refine Gr.trans ?_ (by assumption)) | omega | (dsimp only; omega))))⟩
  clear hR
  go_wp2_with fail
  refine (hFa.out _ hg2).mono ?_
  rintro e w1 ⟨⟨t, rfl, ht⟩, d, rfl⟩
  have hg3 : Gr w (w2.drewN d) := hg2.drewN d
  generalize w2.drewN d = w3 at *
  cases t
  · go_wp2_with fail
    refine (awake_any _).mono ?_
    rintro e w2 ⟨rfl, hg4⟩
    go_wp2_with fail
    go_ret
    exact ⟨rfl, hg3.trans (by (repeat (first | with_reducible exact Gr.refl _ | with_reducible refine Gr.drewN ?_ _ | with_reducible refine Gr.drew ?_ | with_reducible refine Gr.alloc ?_ _ | with_reducible refine Gr.setCell ?_ ?_ _ | (with_reducible refine Gr.trans ?_ (by assumption)) | omega | (dsimp only; omega))))⟩
  have hm := ht rfl
  clear ht hFa
  go_wp2_with fail
  refine (hFb.out _ hg3).mono ?_
  rintro e w1 ⟨⟨t, rfl, ht⟩, d, rfl⟩
  have hg4 : Gr w (w3.drewN d) := hg3.drewN d
  generalize w3.drewN d = w4 at *
  cases t
  · go_wp2_with fail
    refine (awake_any _).mono ?_
    rintro e w2 ⟨rfl, hg5⟩
    go_wp2_with fail
    go_ret
    exact ⟨rfl, hg4.trans (by (repeat (first | with_reducible exact Gr.refl _ | with_reducible refine Gr.drewN ?_ _ | with_reducible refine Gr.drew ?_ | with_reducible refine Gr.alloc ?_ _ | with_reducible refine Gr.setCell ?_ ?_ _ | (with_reducible refine Gr.trans ?_ (by assumption)) | omega | (dsimp only; omega))))⟩
  have hq := ht rfl
  clear ht hFb
  go_wp2_with fail
  refine (hRa.out _ hg4).mono ?_
  rintro e w5 ⟨rfl, hg5⟩
  have hg5 := hg4.trans hg5
  cases hoka : writesOkB a
  · go_wp2_with fail
    refine (awake_any _).mono ?_
    rintro e w2 ⟨rfl, hg6⟩
    go_wp2_with fail
    go_ret
    exact ⟨rfl, hg5.trans (by (repeat (first | with_reducible exact Gr.refl _ | with_reducible refine Gr.drewN ?_ _ | with_reducible refine Gr.drew ?_ | with_reducible refine Gr.alloc ?_ _ | with_reducible refine Gr.setCell ?_ ?_ _ | (with_reducible refine Gr.trans ?_ (by assumption)) | omega | (dsimp only; omega))))⟩
  clear hRa
  go_wp2_with fail
  refine (hRb.out _ hg5).mono ?_
  rintro e w6 ⟨rfl, hg6⟩
  have hg6 := hg5.trans hg6
  cases hokb : writesOkB b
  · go_wp2_with fail
    refine (awake_any _).mono ?_
    rintro e w2 ⟨rfl, hg7⟩
    go_wp2_with fail
    go_ret
    exact ⟨rfl, hg6.trans (by (repeat (first | with_reducible exact Gr.refl _ | with_reducible refine Gr.drewN ?_ _ | with_reducible refine Gr.drew ?_ | with_reducible refine Gr.alloc ?_ _ | with_reducible refine Gr.setCell ?_ ?_ _ | (with_reducible refine Gr.trans ?_ (by assumption)) | omega | (dsimp only; omega))))⟩
  clear hRb hg1 hg2 hg3 hg4 hg5
  have hTw := Lib.hid (over_twice hok hoka)
  have hAp := Lib.hid (over_apart hok hoka hokb)
  clear hok hoka hokb
  go_wp2_with fail
  refine (given_n (Ha.out.keep hg6) (by omega)).mono ?_
  rintro e w7 ⟨o1, c1, rfl, ho1, hg7⟩
  have W1 := Lib.hid ho1.rows
  have hg7 := hg6.trans hg7
  clear ho1
  go_wp2_with fail
  have gA := (Gr.refl w7).alloc (.cells #[.slice o1 m c1] 31)
  with_reducible refine (over_one (H.out.keep (hg7.trans gA)) (World.cell?_alloc_new w7 _ _ 0) (W1.out.keep gA) hn hm).mono ?_
  rintro e w8 ⟨o2, q2, c2, rfl, hr2, hg8⟩
  have R2 := Lib.hid hr2
  have hg8 := (hg7.trans gA).trans hg8
  clear hr2 gA W1 hg7
  go_wp2_with fail
  refine (given_n (Ha.out.keep hg8) (by omega)).mono ?_
  rintro e w9 ⟨o3, c3, rfl, ho3, hg9⟩
  have W3 := Lib.hid ho3.rows
  have R2 := Lib.hid (R2.out.keep hg9)
  have hg9 := hg8.trans hg9
  clear ho3 hg8
  go_wp2_with fail
  refine (given_n (Ha.out.keep hg9) (by omega)).mono ?_
  rintro e w10 ⟨o4, c4, rfl, ho4, hg10⟩
  have W4 := Lib.hid ho4.rows
  have W3 := Lib.hid (W3.out.keep hg10)
  have R2 := Lib.hid (R2.out.keep hg10)
  have hg10 := hg9.trans hg10
  clear ho4 hg9
  go_wp2_with fail
  have gA := (Gr.refl w10).alloc (.cells #[.slice o3 m c3, .slice o4 m c4] 31)
  with_reducible refine (over_two (H.out.keep (hg10.trans gA)) (World.cell?_alloc_new w10 _ _ 0) (World.cell?_alloc_new w10 _ _ 1) (W3.out.keep gA) (W4.out.keep gA) hn hm hm).mono ?_
  rintro e w11 ⟨o5, q5, c5, rfl, hr5, hg11⟩
  rw [hTw.out] at hr5
  have hS := refSame_any o2 o5 q2 c2 q5 c5 _ _ w11 (R2.out.keep (gA.trans hg11)) hr5
  rw [decide_eq_true rfl] at hS
  have hS := Lib.hid hS
  have hg11 := (hg10.trans gA).trans hg11
  clear hr5 gA W3 W4 hg10 R2
  go_wp2_with fail
  refine hS.out.mono ?_
  rintro e w12 ⟨rfl, hg12⟩
  have hg12 := hg11.trans hg12.gr
  clear hS hg11 hTw
  obtain ⟨bA, offA, hoA, hcA⟩ := Ha.out.cells
  obtain ⟨bB, offB, hoB, hcB⟩ := Hb.out.cells
  have HcA := Lib.hid hcA
  have HoA := Lib.hid (fun q => (hoA q).1)
  have HcB := Lib.hid hcB
  have HoB := Lib.hid (fun q => (hoB q).1)
  have hcapA := Ha.out.cap_le
  have hmA := Ha.out.cap_max
  have hcapB := Hb.out.cap_le
  have hmB := Hb.out.cap_max
  have hAl := Ha.out.len
  have hBl := Hb.out.len
  unfold maxLen at hmA hmB
  clear hcA hoA hcB hoB
  go_wp2_with fail
  go_loopw [60] (fun i wr => ∃ k : Nat, k ≤ m ∧ i = .int .i64 k ∧ Hid (∀ i, i < k → ∀ y ∈ b, (wAt a i).key ≠ y.key) ∧ Gr w wr) (fun i _ => m - (intOf i).toNat)
  case atStart => exact ⟨0, Nat.zero_le _, rfl, Lib.hid fun i hi => by omega, hg12⟩
  case round =>
    clear hg12
    obtain ⟨k, hk, rfl, hap, hg⟩ := hrel
    by_cases hlt : k < m
    · obtain ⟨a1, a2, a3⟩ := HcA.out k hlt
      have a1 := hg.keep a1
      have a2 := hg.keep a2
      have a3 := hg.keep a3
      have hI := run_rwr cap2 HoA.out hlt
      have v0 : (wr.alloc (.cells #[.string (wAt a k).key, .string (wAt a k).val, .bool (wAt a k).gone] 43)).cell? ⟨wr.heap.size, 0, none⟩ = some (.string (wAt a k).key) := World.cell?_alloc_new wr _ _ 0
      go_wp2_with fail
      have hgb : Gr w (wr.alloc (.cells #[.string (wAt a k).key, .string (wAt a k).val, .bool (wAt a k).gone] 43)) := hg.alloc _
      generalize wr.alloc (.cells #[.string (wAt a k).key, .string (wAt a k).val, .bool (wAt a k).gone] 43) = wb at *
      generalize wr.heap.size = B at *
      clear a1 a2 a3 hI
      go_loopw [66] (fun i wj => ∃ j : Nat, j ≤ q ∧ i = .int .i64 j ∧ Hid (∀ i, i < j → (wAt a k).key ≠ (wAt b i).key) ∧ Gr wb wj) (fun i _ => q - (intOf i).toNat)
      case atStart => exact ⟨0, Nat.zero_le _, rfl, Lib.hid fun i hi => by omega, Gr.refl _⟩
      case round =>
        obtain ⟨j, hj, rfl, hne, hgj⟩ := hrel
        have v0 := hgj.keep v0
        have hgwj := hgb.trans hgj
        by_cases hjl : j < q
        · obtain ⟨b1, b2, b3⟩ := HcB.out j hjl
          have b1 := hgwj.keep b1
          have b2 := hgwj.keep b2
          have b3 := hgwj.keep b3
          have hI := run_rwr cap3 HoB.out hjl
          have gx := (Gr.refl wr).alloc (.cells #[.string (wAt b j).key, .string (wAt b j).val, .bool (wAt b j).gone] 43)
          have x0 := gx.keep v0
          clear gx
          by_cases he : (wAt a k).key = (wAt b j).key
          · have hf := eqW he
            clear he
            go_wp2_with fail
            refine (awake_any _).mono ?_
            rintro e w20 ⟨rfl, hg20⟩
            go_wp2_with fail
            go_ret
            exact ⟨rfl, hgwj.trans (by (repeat (first | with_reducible exact Gr.refl _ | with_reducible refine Gr.drewN ?_ _ | with_reducible refine Gr.drew ?_ | with_reducible refine Gr.alloc ?_ _ | with_reducible refine Gr.setCell ?_ ?_ _ | (with_reducible refine Gr.trans ?_ (by assumption)) | omega | (dsimp only; omega))))⟩
          · have hf := neW he
            have He := Lib.hid he
            clear he
            go_wp2_with fail
            go_roundw
            case rel => exact ⟨j + 1, by omega, by go_num, Lib.hid fun i hi => by
              rcases Nat.lt_or_ge i j with r | r
              · exact hne.out i r
              · obtain rfl : i = j := by omega
                exact He.out, hgj.trans (by (repeat (first | with_reducible exact Gr.refl _ | with_reducible refine Gr.drewN ?_ _ | with_reducible refine Gr.drew ?_ | with_reducible refine Gr.alloc ?_ _ | with_reducible refine Gr.setCell ?_ ?_ _ | (with_reducible refine Gr.trans ?_ (by assumption)) | omega | (dsimp only; omega))))⟩
            case measure => simp [intOf]; omega
        · obtain rfl : j = q := by omega
          have Hk := Lib.hid (show ∀ y ∈ b, (wAt a k).key ≠ y.key from fun y hy => by
            obtain ⟨i, hi, rfl⟩ := List.getElem_of_mem hy
            rw [← wAt_lt hi]
            exact hne.out i (by omega))
          clear hne
          go_wp2_with fail
          go_roundw
          case rel => exact ⟨k + 1, by omega, by go_num, Lib.hid fun i hi => by
            rcases Nat.lt_or_ge i k with r | r
            · exact hap.out i r
            · obtain rfl : i = k := by omega
              exact Hk.out, hgwj⟩
          case measure => simp [intOf]; omega
    · obtain rfl : k = m := by omega
      have HE := Lib.hid (hAp.out (fun x hx y hy => by
        obtain ⟨i, hi, rfl⟩ := List.getElem_of_mem hx
        rw [← wAt_lt hi]
        exact hap.out i (by omega) y hy))
      clear hap hAp HcA HcB HoA HoB
      go_wp2_with fail
      refine (given_n (Ha.out.keep hg) (by omega)).mono ?_
      rintro e w21 ⟨o21, c21, rfl, ho21, hg21⟩
      have W1 := Lib.hid ho21.rows
      have hg21 := hg.trans hg21
      clear ho21
      go_wp2_with fail
      refine (given_n (Hb.out.keep hg21) (by omega)).mono ?_
      rintro e w22 ⟨o22, c22, rfl, ho22, hg22⟩
      have W2 := Lib.hid ho22.rows
      have W1 := Lib.hid (W1.out.keep hg22)
      have hg22 := hg21.trans hg22
      clear ho22 hg21
      go_wp2_with fail
      have gA := (Gr.refl w22).alloc (.cells #[.slice o21 k c21, .slice o22 q c22] 31)
      with_reducible refine (over_two (H.out.keep (hg22.trans gA)) (World.cell?_alloc_new w22 _ _ 0) (World.cell?_alloc_new w22 _ _ 1) (W1.out.keep gA) (W2.out.keep gA) hn hm hq).mono ?_
      rintro e w23 ⟨o23, q23, c23, rfl, hr23, hg23⟩
      have R1 := Lib.hid hr23
      have hg23 := (hg22.trans gA).trans hg23
      clear hr23 gA W1 W2 hg22
      go_wp2_with fail
      refine (given_n (Hb.out.keep hg23) (by omega)).mono ?_
      rintro e w24 ⟨o24, c24, rfl, ho24, hg24⟩
      have W1 := Lib.hid ho24.rows
      have R1 := Lib.hid (R1.out.keep hg24)
      have hg24 := hg23.trans hg24
      clear ho24 hg23
      go_wp2_with fail
      refine (given_n (Ha.out.keep hg24) (by omega)).mono ?_
      rintro e w25 ⟨o25, c25, rfl, ho25, hg25⟩
      have W2 := Lib.hid ho25.rows
      have W1 := Lib.hid (W1.out.keep hg25)
      have R1 := Lib.hid (R1.out.keep hg25)
      have hg25 := hg24.trans hg25
      clear ho25 hg24
      go_wp2_with fail
      have gA := (Gr.refl w25).alloc (.cells #[.slice o24 q c24, .slice o25 k c25] 31)
      with_reducible refine (over_two (H.out.keep (hg25.trans gA)) (World.cell?_alloc_new w25 _ _ 0) (World.cell?_alloc_new w25 _ _ 1) (W1.out.keep gA) (W2.out.keep gA) hn hq hm).mono ?_
      rintro e w26 ⟨o26, q26, c26, rfl, hr26, hg26⟩
      rw [← HE.out] at hr26
      have hS := refSame_any o23 o26 q23 c23 q26 c26 _ _ w26 (R1.out.keep (gA.trans hg26)) hr26
      rw [decide_eq_true rfl] at hS
      have hS := Lib.hid hS
      have hg26 := (hg25.trans gA).trans hg26
      clear hr26 gA W1 W2 hg25 R1
      go_wp2_with fail
      refine hS.out.mono ?_
      rintro e w27 ⟨rfl, hg27⟩
      have hg27 := hg26.trans hg27.gr
      clear hS hg26
      go_wp2_with fail
      refine (awake_any _).mono ?_
      rintro e w28 ⟨rfl, hg28⟩
      go_wp2_with fail
      go_ret
      exact ⟨rfl, hg27.trans (by (repeat (first | with_reducible exact Gr.refl _ | with_reducible refine Gr.drewN ?_ _ | with_reducible refine Gr.drew ?_ | with_reducible refine Gr.alloc ?_ _ | with_reducible refine Gr.setCell ?_ ?_ _ | (with_reducible refine Gr.trans ?_ (by assumption)) | omega | (dsimp only; omega))))⟩
end Go.Proofs.Ytfejdbcfcpmdiaa
