import Derived.Test.YtlgeaponicgdoaaOw3
import Derived.Test.YtlgeaponicgdoaaErr
namespace Go.Proofs.Ytlgeaponicgdoaa
set_option linter.unusedVariables false
set_option linter.unusedSimpArgs false
open Go.BigFrame Go.RowKit Go.WideShapes

theorem key_max {k : ByteArray} (h : k.size ≤ 100) : k.size ≤ maxLen := by unfold maxLen; omega
theorem OwnAt.lower {w : World} {base base2 : Nat} {oa : Option Addr} {n cap : Nat} {l : List Rw} (h : OwnAt w base oa n cap l) (hb : base2 ≤ base) : OwnAt w base2 oa n cap l := by
  refine ⟨⟨h.own.1, ?_⟩, h.rows⟩
  rcases h.own.2 with ⟨e, hn⟩ | ⟨g, cap, cur, e, hg, rest⟩
  · exact .inl ⟨e, hn⟩
  · exact .inr ⟨g, cap, cur, e, Nat.le_trans hb hg, rest⟩

set_option maxRecDepth 100000 in
set_option maxHeartbeats 4000000 in
theorem parts_skip (oa ob : Option Addr) (n cap m cap2 : Nat) (l k : List Rw) (key : ByteArray) (w : World) (h : RowsAt w oa n cap l) (h2 : RowsAt w ob m cap2 k) (hk : key.size ≤ maxLen) (hs : 100 < key.size) :
    Calls Try.prog 9 #[.slice oa n cap, .slice ob m cap2, .string key] w fun e w' => e = .returned (.bool true) ∧ Gr w w' := by
  have hF := Lib.hid (few_any oa n cap l w h)
  have hF2 := Lib.hid (fun w1 (hg : Gr w w1) => few_any ob m cap2 k w1 (h2.keep hg))
  unfold maxLen at hk
  clear h h2
  go_enter Try.func9, Try.ntmps9
  go_wp2_with fail
  refine hF.out.mono ?_
  rintro e w1 ⟨⟨b, rfl, hb⟩, d, rfl⟩
  cases b
  · clear hF hF2
    go_wp2_with fail
    refine (awake_any _).mono ?_
    rintro e w2 ⟨rfl, hg2⟩
    go_wp2_with fail
    go_ret
    exact ⟨rfl, by repeat (first | with_reducible exact Gr.refl _ | with_reducible refine Gr.drewN ?_ _ | with_reducible refine Gr.drew ?_ | with_reducible refine Gr.alloc ?_ _ | with_reducible refine Gr.setCell ?_ ?_ _ | (with_reducible refine Gr.trans ?_ (by assumption)) | omega | (dsimp only; omega))⟩
  · go_wp2_with fail
    refine (hF2.out _ (by repeat (first | with_reducible exact Gr.refl _ | with_reducible refine Gr.drewN ?_ _ | with_reducible refine Gr.drew ?_ | with_reducible refine Gr.alloc ?_ _ | with_reducible refine Gr.setCell ?_ ?_ _ | (with_reducible refine Gr.trans ?_ (by assumption)) | omega | (dsimp only; omega)))).mono ?_
    rintro e w1 ⟨⟨b, rfl, hb⟩, d2, rfl⟩
    cases b
    all_goals
      go_wp2_with fail
      refine (awake_any _).mono ?_
      rintro e w2 ⟨rfl, hg2⟩
      go_wp2_with fail
      go_ret
      exact ⟨rfl, by repeat (first | with_reducible exact Gr.refl _ | with_reducible refine Gr.drewN ?_ _ | with_reducible refine Gr.drew ?_ | with_reducible refine Gr.alloc ?_ _ | with_reducible refine Gr.setCell ?_ ?_ _ | (with_reducible refine Gr.trans ?_ (by assumption)) | omega | (dsimp only; omega))⟩

set_option maxRecDepth 100000 in
set_option maxHeartbeats 4000000 in
theorem parts_few_e1 (oa ob : Option Addr) (n cap m cap2 : Nat) (l k : List Rw) (key : ByteArray) (w : World) (h : RowsAt w oa n cap l) (h2 : RowsAt w ob m cap2 k) (hk : key.size ≤ 100) (hq : n < 2) (hj : n = 0) :
    Calls Try.prog 9 #[.slice oa n cap, .slice ob m cap2, .string key] w fun e w' => e = .returned (.bool true) ∧ Gr w w' := by
  have hF := Lib.hid (few_any oa n cap l w h)
  have hF2 := Lib.hid (fun w1 (hg : Gr w w1) => few_any ob m cap2 k w1 (h2.keep hg))
  have H := Lib.hid h
  have H2 := Lib.hid h2
  have hcap := h.cap_le
  have hcap2 := h2.cap_le
  clear h h2
  have d1 : decide (0 < n) = false := by simp; omega
  have Hj := Lib.hid hj
  clear hj
  go_enter Try.func9, Try.ntmps9
  go_wp2_with fail
  refine hF.out.mono ?_
  rintro e w1 ⟨⟨b, rfl, hb⟩, d, rfl⟩
  cases b
  · clear hF hF2
    go_wp2_with fail
    refine (awake_any _).mono ?_
    rintro e w2 ⟨rfl, hg2⟩
    go_wp2_with fail
    go_ret
    exact ⟨rfl, by repeat (first | with_reducible exact Gr.refl _ | with_reducible refine Gr.drewN ?_ _ | with_reducible refine Gr.drew ?_ | with_reducible refine Gr.alloc ?_ _ | with_reducible refine Gr.setCell ?_ ?_ _ | (with_reducible refine Gr.trans ?_ (by assumption)) | omega | (dsimp only; omega))⟩
  have hn := hb rfl
  clear hb hF
  go_wp2_with fail
  refine (hF2.out _ (by repeat (first | with_reducible exact Gr.refl _ | with_reducible refine Gr.drewN ?_ _ | with_reducible refine Gr.drew ?_ | with_reducible refine Gr.alloc ?_ _ | with_reducible refine Gr.setCell ?_ ?_ _ | (with_reducible refine Gr.trans ?_ (by assumption)) | omega | (dsimp only; omega)))).mono ?_
  rintro e w1 ⟨⟨b, rfl, hb⟩, d2, rfl⟩
  cases b
  · clear hF2
    go_wp2_with fail
    refine (awake_any _).mono ?_
    rintro e w2 ⟨rfl, hg2⟩
    go_wp2_with fail
    go_ret
    exact ⟨rfl, by repeat (first | with_reducible exact Gr.refl _ | with_reducible refine Gr.drewN ?_ _ | with_reducible refine Gr.drew ?_ | with_reducible refine Gr.alloc ?_ _ | with_reducible refine Gr.setCell ?_ ?_ _ | (with_reducible refine Gr.trans ?_ (by assumption)) | omega | (dsimp only; omega))⟩
  have hm := hb rfl
  clear hb hF2
  go_wp2_with fail
  have hpl := place_le key l
  rw [H.out.len] at hpl
  have hcut := Lib.hid (fun w1 (hg : Gr w w1) => cut_any oa n cap l key w1 (H.out.keep hg) (by omega) (key_max hk))
  have hfind := Lib.hid (fun w1 (hg : Gr w w1) => refFind_any oa n cap l key w1 (H.out.keep hg) (key_max hk))
  generalize place key l = p at *
  generalize hasB key l = hasit at *
  refine (hcut.out _ (by repeat (first | with_reducible exact Gr.refl _ | with_reducible refine Gr.drewN ?_ _ | with_reducible refine Gr.drew ?_ | with_reducible refine Gr.alloc ?_ _ | with_reducible refine Gr.setCell ?_ ?_ _ | (with_reducible refine Gr.trans ?_ (by assumption)) | omega | (dsimp only; omega)))).mono ?_
  clear hcut
  rintro e w2 ⟨o1, m1, c1, o2, m2, c2, rfl, hr1, hr2, hg2⟩
  have R1 := Lib.hid hr1
  have R2 := Lib.hid hr2
  clear hr1 hr2
  have t1 := run_head oa n cap p (by omega)
  have t2 := run_tail oa n cap p hpl
  go_wp2_with fail
  refine (hfind.out _ (by repeat (first | with_reducible exact Gr.refl _ | with_reducible refine Gr.drewN ?_ _ | with_reducible refine Gr.drew ?_ | with_reducible refine Gr.alloc ?_ _ | with_reducible refine Gr.setCell ?_ ?_ _ | (with_reducible refine Gr.trans ?_ (by assumption)) | omega | (dsimp only; omega)))).mono ?_
  rintro e w3 ⟨rfl, hg3⟩
  have hg3 := hg3.gr
  have hS := refSame_any o1 oa m1 c1 p cap _ _ w3 (R1.out.keep (by repeat (first | with_reducible exact Gr.refl _ | with_reducible refine Gr.drewN ?_ _ | with_reducible refine Gr.drew ?_ | with_reducible refine Gr.alloc ?_ _ | with_reducible refine Gr.setCell ?_ ?_ _ | (with_reducible refine Gr.trans ?_ (by assumption)) | omega | (dsimp only; omega)))) ((H.out.keep (by repeat (first | with_reducible exact Gr.refl _ | with_reducible refine Gr.drewN ?_ _ | with_reducible refine Gr.drew ?_ | with_reducible refine Gr.alloc ?_ _ | with_reducible refine Gr.setCell ?_ ?_ _ | (with_reducible refine Gr.trans ?_ (by assumption)) | omega | (dsimp only; omega)))).head hpl)
  rw [decide_eq_true rfl] at hS
  have hS := Lib.hid hS
  go_wp2_with fail
  refine hS.out.mono ?_
  rintro e w4 ⟨rfl, hg4⟩
  have hg4 := hg4.gr
  have hS2 := refSame_any o2 (tailA oa p cap) m2 c2 (n - p) (cap - p) _ _ w4 (R2.out.keep (by repeat (first | with_reducible exact Gr.refl _ | with_reducible refine Gr.drewN ?_ _ | with_reducible refine Gr.drew ?_ | with_reducible refine Gr.alloc ?_ _ | with_reducible refine Gr.setCell ?_ ?_ _ | (with_reducible refine Gr.trans ?_ (by assumption)) | omega | (dsimp only; omega)))) ((H.out.keep (by repeat (first | with_reducible exact Gr.refl _ | with_reducible refine Gr.drewN ?_ _ | with_reducible refine Gr.drew ?_ | with_reducible refine Gr.alloc ?_ _ | with_reducible refine Gr.setCell ?_ ?_ _ | (with_reducible refine Gr.trans ?_ (by assumption)) | omega | (dsimp only; omega)))).tail hpl)
  rw [decide_eq_true rfl] at hS2
  have hS2 := Lib.hid hS2
  go_wp2_with fail
  refine hS2.out.mono ?_
  rintro e w7 ⟨rfl, hg7⟩
  have hg7 := hg7.gr
  have hG7 : Gr w w7 := by repeat (first | with_reducible exact Gr.refl _ | with_reducible refine Gr.drewN ?_ _ | with_reducible refine Gr.drew ?_ | with_reducible refine Gr.alloc ?_ _ | with_reducible refine Gr.setCell ?_ ?_ _ | (with_reducible refine Gr.trans ?_ (by assumption)) | omega | (dsimp only; omega))
  clear hS hS2 hg7 hg4 hg3 hg2 t1 t2 hfind R1 R2
  go_wp2_with fail
  refine (halve_few oa n cap l w7 (H.out.keep (by repeat (first | with_reducible exact Gr.refl _ | with_reducible refine Gr.drewN ?_ _ | with_reducible refine Gr.drew ?_ | with_reducible refine Gr.alloc ?_ _ | with_reducible refine Gr.setCell ?_ ?_ _ | (with_reducible refine Gr.trans ?_ (by assumption)) | omega | (dsimp only; omega)))) hq).mono ?_
  rintro e w8 ⟨rfl, hg8⟩
  go_wp2_with fail
  refine (refHalve_few oa n cap w8 hq).mono ?_
  rintro e w9 ⟨rfl, hg9⟩
  go_wp2_with (go_at_call 31; (with_reducible refine (is_same _ _).mono ?_); rintro e w' ⟨rfl, rfl⟩)
  refine (join_e1 oa ob n cap m cap2 l k _ (H.out.keep (by repeat (first | with_reducible exact Gr.refl _ | with_reducible refine Gr.drewN ?_ _ | with_reducible refine Gr.drew ?_ | with_reducible refine Gr.alloc ?_ _ | with_reducible refine Gr.setCell ?_ ?_ _ | (with_reducible refine Gr.trans ?_ (by assumption)) | omega | (dsimp only; omega)))) (H2.out.keep (by repeat (first | with_reducible exact Gr.refl _ | with_reducible refine Gr.drewN ?_ _ | with_reducible refine Gr.drew ?_ | with_reducible refine Gr.alloc ?_ _ | with_reducible refine Gr.setCell ?_ ?_ _ | (with_reducible refine Gr.trans ?_ (by assumption)) | omega | (dsimp only; omega)))) (by omega) (by omega) Hj.out).mono ?_
  rintro e w20 ⟨o6, m6, c6, rfl, hr6, hg20⟩
  have hr6 := Lib.hid hr6
  go_wp2_with fail
  go_big_quiet (fail)
  have hown := Lib.hid (fun w1 (hg : Gr w w1) => own_any oa n cap l w1 (H.out.keep (by repeat (first | with_reducible exact Gr.refl _ | with_reducible refine Gr.drewN ?_ _ | with_reducible refine Gr.drew ?_ | with_reducible refine Gr.alloc ?_ _ | with_reducible refine Gr.setCell ?_ ?_ _ | (with_reducible refine Gr.trans ?_ (by assumption)) | omega | (dsimp only; omega)))) (by omega))
  go_wp2_with fail
  refine (hown.out _ (by repeat (first | with_reducible exact Gr.refl _ | with_reducible refine Gr.drewN ?_ _ | with_reducible refine Gr.drew ?_ | with_reducible refine Gr.alloc ?_ _ | with_reducible refine Gr.setCell ?_ ?_ _ | (with_reducible refine Gr.trans ?_ (by assumption)) | omega | (dsimp only; omega)))).mono ?_
  rintro e w21 ⟨o7, m7, c7, rfl, hr7, hg21, base, hb7, ho7⟩
  obtain rfl : n = m7 := by rw [← hr7.len, H.out.len]
  have O7 := Lib.hid (ho7.lower (show w20.heap.size ≤ base from hb7))
  have hb8 : w20.heap.size ≤ w21.heap.size := Gr.le (by repeat (first | with_reducible exact Gr.refl _ | with_reducible refine Gr.drewN ?_ _ | with_reducible refine Gr.drew ?_ | with_reducible refine Gr.alloc ?_ _ | with_reducible refine Gr.setCell ?_ ?_ _ | (with_reducible refine Gr.trans ?_ (by assumption)) | omega | (dsimp only; omega)))
  clear hr7 ho7
  go_wp2_with (at_builtin; refine wpList_rows_w (by rfl) _ _ rfl w20.heap.size hb8 rfl O7.out rfl (H2.out.keep (by repeat (first | with_reducible exact Gr.refl _ | with_reducible refine Gr.drewN ?_ _ | with_reducible refine Gr.drew ?_ | with_reducible refine Gr.alloc ?_ _ | with_reducible refine Gr.setCell ?_ ?_ _ | (with_reducible refine Gr.trans ?_ (by assumption)) | omega | (dsimp only; omega)))) (by omega) ?_; intro o8 c8 w22 ho8 hb9; have hg22 : Gr w20 w22 := grown_gr hb9 O7.out (by repeat (first | with_reducible exact Gr.refl _ | with_reducible refine Gr.drewN ?_ _ | with_reducible refine Gr.drew ?_ | with_reducible refine Gr.alloc ?_ _ | with_reducible refine Gr.setCell ?_ ?_ _ | (with_reducible refine Gr.trans ?_ (by assumption)) | omega | (dsimp only; omega))) (Nat.le_refl _))
  have hS9 := refSame_any o6 o8 m6 c6 (n + m) c8 _ _ w22 (hr6.out.keep (by repeat (first | with_reducible exact Gr.refl _ | with_reducible refine Gr.drewN ?_ _ | with_reducible refine Gr.drew ?_ | with_reducible refine Gr.alloc ?_ _ | with_reducible refine Gr.setCell ?_ ?_ _ | (with_reducible refine Gr.trans ?_ (by assumption)) | omega | (dsimp only; omega)))) ho8.rows
  rw [decide_eq_true rfl] at hS9
  have hS9 := Lib.hid hS9
  clear ho8
  refine hS9.out.mono ?_
  rintro e w23 ⟨rfl, hg23⟩
  have hg23 := hg23.gr
  go_wp2_with (go_at_call 13; refine (awake_any _).mono ?_; rintro e w24 ⟨rfl, hg24⟩)
  go_ret
  exact ⟨rfl, by repeat (first | with_reducible exact Gr.refl _ | with_reducible refine Gr.drewN ?_ _ | with_reducible refine Gr.drew ?_ | with_reducible refine Gr.alloc ?_ _ | with_reducible refine Gr.setCell ?_ ?_ _ | (with_reducible refine Gr.trans ?_ (by assumption)) | omega | (dsimp only; omega))⟩

set_option maxRecDepth 100000 in
set_option maxHeartbeats 4000000 in
theorem parts_few_e2 (oa ob : Option Addr) (n cap m cap2 : Nat) (l k : List Rw) (key : ByteArray) (w : World) (h : RowsAt w oa n cap l) (h2 : RowsAt w ob m cap2 k) (hk : key.size ≤ 100) (hq : n < 2) (hj1 : 0 < n) (hj : m = 0) :
    Calls Try.prog 9 #[.slice oa n cap, .slice ob m cap2, .string key] w fun e w' => e = .returned (.bool true) ∧ Gr w w' := by
  have hF := Lib.hid (few_any oa n cap l w h)
  have hF2 := Lib.hid (fun w1 (hg : Gr w w1) => few_any ob m cap2 k w1 (h2.keep hg))
  have H := Lib.hid h
  have H2 := Lib.hid h2
  have hcap := h.cap_le
  have hcap2 := h2.cap_le
  clear h h2
  have d1 : decide (0 < n) = true := by simp; omega
  have d2 : decide (0 < m) = false := by simp; omega
  have Hj := Lib.hid hj
  clear hj
  go_enter Try.func9, Try.ntmps9
  go_wp2_with fail
  refine hF.out.mono ?_
  rintro e w1 ⟨⟨b, rfl, hb⟩, d, rfl⟩
  cases b
  · clear hF hF2
    go_wp2_with fail
    refine (awake_any _).mono ?_
    rintro e w2 ⟨rfl, hg2⟩
    go_wp2_with fail
    go_ret
    exact ⟨rfl, by repeat (first | with_reducible exact Gr.refl _ | with_reducible refine Gr.drewN ?_ _ | with_reducible refine Gr.drew ?_ | with_reducible refine Gr.alloc ?_ _ | with_reducible refine Gr.setCell ?_ ?_ _ | (with_reducible refine Gr.trans ?_ (by assumption)) | omega | (dsimp only; omega))⟩
  have hn := hb rfl
  clear hb hF
  go_wp2_with fail
  refine (hF2.out _ (by repeat (first | with_reducible exact Gr.refl _ | with_reducible refine Gr.drewN ?_ _ | with_reducible refine Gr.drew ?_ | with_reducible refine Gr.alloc ?_ _ | with_reducible refine Gr.setCell ?_ ?_ _ | (with_reducible refine Gr.trans ?_ (by assumption)) | omega | (dsimp only; omega)))).mono ?_
  rintro e w1 ⟨⟨b, rfl, hb⟩, d2, rfl⟩
  cases b
  · clear hF2
    go_wp2_with fail
    refine (awake_any _).mono ?_
    rintro e w2 ⟨rfl, hg2⟩
    go_wp2_with fail
    go_ret
    exact ⟨rfl, by repeat (first | with_reducible exact Gr.refl _ | with_reducible refine Gr.drewN ?_ _ | with_reducible refine Gr.drew ?_ | with_reducible refine Gr.alloc ?_ _ | with_reducible refine Gr.setCell ?_ ?_ _ | (with_reducible refine Gr.trans ?_ (by assumption)) | omega | (dsimp only; omega))⟩
  have hm := hb rfl
  clear hb hF2
  go_wp2_with fail
  have hpl := place_le key l
  rw [H.out.len] at hpl
  have hcut := Lib.hid (fun w1 (hg : Gr w w1) => cut_any oa n cap l key w1 (H.out.keep hg) (by omega) (key_max hk))
  have hfind := Lib.hid (fun w1 (hg : Gr w w1) => refFind_any oa n cap l key w1 (H.out.keep hg) (key_max hk))
  generalize place key l = p at *
  generalize hasB key l = hasit at *
  refine (hcut.out _ (by repeat (first | with_reducible exact Gr.refl _ | with_reducible refine Gr.drewN ?_ _ | with_reducible refine Gr.drew ?_ | with_reducible refine Gr.alloc ?_ _ | with_reducible refine Gr.setCell ?_ ?_ _ | (with_reducible refine Gr.trans ?_ (by assumption)) | omega | (dsimp only; omega)))).mono ?_
  clear hcut
  rintro e w2 ⟨o1, m1, c1, o2, m2, c2, rfl, hr1, hr2, hg2⟩
  have R1 := Lib.hid hr1
  have R2 := Lib.hid hr2
  clear hr1 hr2
  have t1 := run_head oa n cap p (by omega)
  have t2 := run_tail oa n cap p hpl
  go_wp2_with fail
  refine (hfind.out _ (by repeat (first | with_reducible exact Gr.refl _ | with_reducible refine Gr.drewN ?_ _ | with_reducible refine Gr.drew ?_ | with_reducible refine Gr.alloc ?_ _ | with_reducible refine Gr.setCell ?_ ?_ _ | (with_reducible refine Gr.trans ?_ (by assumption)) | omega | (dsimp only; omega)))).mono ?_
  rintro e w3 ⟨rfl, hg3⟩
  have hg3 := hg3.gr
  have hS := refSame_any o1 oa m1 c1 p cap _ _ w3 (R1.out.keep (by repeat (first | with_reducible exact Gr.refl _ | with_reducible refine Gr.drewN ?_ _ | with_reducible refine Gr.drew ?_ | with_reducible refine Gr.alloc ?_ _ | with_reducible refine Gr.setCell ?_ ?_ _ | (with_reducible refine Gr.trans ?_ (by assumption)) | omega | (dsimp only; omega)))) ((H.out.keep (by repeat (first | with_reducible exact Gr.refl _ | with_reducible refine Gr.drewN ?_ _ | with_reducible refine Gr.drew ?_ | with_reducible refine Gr.alloc ?_ _ | with_reducible refine Gr.setCell ?_ ?_ _ | (with_reducible refine Gr.trans ?_ (by assumption)) | omega | (dsimp only; omega)))).head hpl)
  rw [decide_eq_true rfl] at hS
  have hS := Lib.hid hS
  go_wp2_with fail
  refine hS.out.mono ?_
  rintro e w4 ⟨rfl, hg4⟩
  have hg4 := hg4.gr
  have hS2 := refSame_any o2 (tailA oa p cap) m2 c2 (n - p) (cap - p) _ _ w4 (R2.out.keep (by repeat (first | with_reducible exact Gr.refl _ | with_reducible refine Gr.drewN ?_ _ | with_reducible refine Gr.drew ?_ | with_reducible refine Gr.alloc ?_ _ | with_reducible refine Gr.setCell ?_ ?_ _ | (with_reducible refine Gr.trans ?_ (by assumption)) | omega | (dsimp only; omega)))) ((H.out.keep (by repeat (first | with_reducible exact Gr.refl _ | with_reducible refine Gr.drewN ?_ _ | with_reducible refine Gr.drew ?_ | with_reducible refine Gr.alloc ?_ _ | with_reducible refine Gr.setCell ?_ ?_ _ | (with_reducible refine Gr.trans ?_ (by assumption)) | omega | (dsimp only; omega)))).tail hpl)
  rw [decide_eq_true rfl] at hS2
  have hS2 := Lib.hid hS2
  go_wp2_with fail
  refine hS2.out.mono ?_
  rintro e w7 ⟨rfl, hg7⟩
  have hg7 := hg7.gr
  have hG7 : Gr w w7 := by repeat (first | with_reducible exact Gr.refl _ | with_reducible refine Gr.drewN ?_ _ | with_reducible refine Gr.drew ?_ | with_reducible refine Gr.alloc ?_ _ | with_reducible refine Gr.setCell ?_ ?_ _ | (with_reducible refine Gr.trans ?_ (by assumption)) | omega | (dsimp only; omega))
  clear hS hS2 hg7 hg4 hg3 hg2 t1 t2 hfind R1 R2
  go_wp2_with fail
  refine (halve_few oa n cap l w7 (H.out.keep (by repeat (first | with_reducible exact Gr.refl _ | with_reducible refine Gr.drewN ?_ _ | with_reducible refine Gr.drew ?_ | with_reducible refine Gr.alloc ?_ _ | with_reducible refine Gr.setCell ?_ ?_ _ | (with_reducible refine Gr.trans ?_ (by assumption)) | omega | (dsimp only; omega)))) hq).mono ?_
  rintro e w8 ⟨rfl, hg8⟩
  go_wp2_with fail
  refine (refHalve_few oa n cap w8 hq).mono ?_
  rintro e w9 ⟨rfl, hg9⟩
  go_wp2_with (go_at_call 31; (with_reducible refine (is_same _ _).mono ?_); rintro e w' ⟨rfl, rfl⟩)
  refine (join_e2 oa ob n cap m cap2 l k _ (H.out.keep (by repeat (first | with_reducible exact Gr.refl _ | with_reducible refine Gr.drewN ?_ _ | with_reducible refine Gr.drew ?_ | with_reducible refine Gr.alloc ?_ _ | with_reducible refine Gr.setCell ?_ ?_ _ | (with_reducible refine Gr.trans ?_ (by assumption)) | omega | (dsimp only; omega)))) (H2.out.keep (by repeat (first | with_reducible exact Gr.refl _ | with_reducible refine Gr.drewN ?_ _ | with_reducible refine Gr.drew ?_ | with_reducible refine Gr.alloc ?_ _ | with_reducible refine Gr.setCell ?_ ?_ _ | (with_reducible refine Gr.trans ?_ (by assumption)) | omega | (dsimp only; omega)))) (by omega) (by omega) hj1 Hj.out).mono ?_
  rintro e w20 ⟨o6, m6, c6, rfl, hr6, hg20⟩
  have hr6 := Lib.hid hr6
  go_wp2_with fail
  go_big_quiet (fail)
  have hown := Lib.hid (fun w1 (hg : Gr w w1) => own_any oa n cap l w1 (H.out.keep (by repeat (first | with_reducible exact Gr.refl _ | with_reducible refine Gr.drewN ?_ _ | with_reducible refine Gr.drew ?_ | with_reducible refine Gr.alloc ?_ _ | with_reducible refine Gr.setCell ?_ ?_ _ | (with_reducible refine Gr.trans ?_ (by assumption)) | omega | (dsimp only; omega)))) (by omega))
  go_wp2_with fail
  refine (hown.out _ (by repeat (first | with_reducible exact Gr.refl _ | with_reducible refine Gr.drewN ?_ _ | with_reducible refine Gr.drew ?_ | with_reducible refine Gr.alloc ?_ _ | with_reducible refine Gr.setCell ?_ ?_ _ | (with_reducible refine Gr.trans ?_ (by assumption)) | omega | (dsimp only; omega)))).mono ?_
  rintro e w21 ⟨o7, m7, c7, rfl, hr7, hg21, base, hb7, ho7⟩
  obtain rfl : n = m7 := by rw [← hr7.len, H.out.len]
  have O7 := Lib.hid (ho7.lower (show w20.heap.size ≤ base from hb7))
  have hb8 : w20.heap.size ≤ w21.heap.size := Gr.le (by repeat (first | with_reducible exact Gr.refl _ | with_reducible refine Gr.drewN ?_ _ | with_reducible refine Gr.drew ?_ | with_reducible refine Gr.alloc ?_ _ | with_reducible refine Gr.setCell ?_ ?_ _ | (with_reducible refine Gr.trans ?_ (by assumption)) | omega | (dsimp only; omega)))
  clear hr7 ho7
  go_wp2_with (at_builtin; refine wpList_rows_w (by rfl) _ _ rfl w20.heap.size hb8 rfl O7.out rfl (H2.out.keep (by repeat (first | with_reducible exact Gr.refl _ | with_reducible refine Gr.drewN ?_ _ | with_reducible refine Gr.drew ?_ | with_reducible refine Gr.alloc ?_ _ | with_reducible refine Gr.setCell ?_ ?_ _ | (with_reducible refine Gr.trans ?_ (by assumption)) | omega | (dsimp only; omega)))) (by omega) ?_; intro o8 c8 w22 ho8 hb9; have hg22 : Gr w20 w22 := grown_gr hb9 O7.out (by repeat (first | with_reducible exact Gr.refl _ | with_reducible refine Gr.drewN ?_ _ | with_reducible refine Gr.drew ?_ | with_reducible refine Gr.alloc ?_ _ | with_reducible refine Gr.setCell ?_ ?_ _ | (with_reducible refine Gr.trans ?_ (by assumption)) | omega | (dsimp only; omega))) (Nat.le_refl _))
  have hS9 := refSame_any o6 o8 m6 c6 (n + m) c8 _ _ w22 (hr6.out.keep (by repeat (first | with_reducible exact Gr.refl _ | with_reducible refine Gr.drewN ?_ _ | with_reducible refine Gr.drew ?_ | with_reducible refine Gr.alloc ?_ _ | with_reducible refine Gr.setCell ?_ ?_ _ | (with_reducible refine Gr.trans ?_ (by assumption)) | omega | (dsimp only; omega)))) ho8.rows
  rw [decide_eq_true rfl] at hS9
  have hS9 := Lib.hid hS9
  clear ho8
  refine hS9.out.mono ?_
  rintro e w23 ⟨rfl, hg23⟩
  have hg23 := hg23.gr
  go_wp2_with (go_at_call 13; refine (awake_any _).mono ?_; rintro e w24 ⟨rfl, hg24⟩)
  go_ret
  exact ⟨rfl, by repeat (first | with_reducible exact Gr.refl _ | with_reducible refine Gr.drewN ?_ _ | with_reducible refine Gr.drew ?_ | with_reducible refine Gr.alloc ?_ _ | with_reducible refine Gr.setCell ?_ ?_ _ | (with_reducible refine Gr.trans ?_ (by assumption)) | omega | (dsimp only; omega))⟩

set_option maxRecDepth 100000 in
set_option maxHeartbeats 4000000 in
theorem parts_few_yes (oa ob : Option Addr) (n cap m cap2 : Nat) (l k : List Rw) (key : ByteArray) (w : World) (h : RowsAt w oa n cap l) (h2 : RowsAt w ob m cap2 k) (hk : key.size ≤ 100) (hq : n < 2) (hj1 : 0 < n) (hj2 : 0 < m) (hj : Str.cmp (Tx (kAt l (n - 1))) (Tx (kAt k 0)) < 0) :
    Calls Try.prog 9 #[.slice oa n cap, .slice ob m cap2, .string key] w fun e w' => e = .returned (.bool true) ∧ Gr w w' := by
  have hF := Lib.hid (few_any oa n cap l w h)
  have hF2 := Lib.hid (fun w1 (hg : Gr w w1) => few_any ob m cap2 k w1 (h2.keep hg))
  have H := Lib.hid h
  have H2 := Lib.hid h2
  have hcap := h.cap_le
  have hcap2 := h2.cap_le
  clear h h2
  go_enter Try.func9, Try.ntmps9
  go_wp2_with fail
  refine hF.out.mono ?_
  rintro e w1 ⟨⟨b, rfl, hb⟩, d, rfl⟩
  cases b
  · clear hF hF2
    go_wp2_with fail
    refine (awake_any _).mono ?_
    rintro e w2 ⟨rfl, hg2⟩
    go_wp2_with fail
    go_ret
    exact ⟨rfl, by repeat (first | with_reducible exact Gr.refl _ | with_reducible refine Gr.drewN ?_ _ | with_reducible refine Gr.drew ?_ | with_reducible refine Gr.alloc ?_ _ | with_reducible refine Gr.setCell ?_ ?_ _ | (with_reducible refine Gr.trans ?_ (by assumption)) | omega | (dsimp only; omega))⟩
  have hn := hb rfl
  clear hb hF
  go_wp2_with fail
  refine (hF2.out _ (by repeat (first | with_reducible exact Gr.refl _ | with_reducible refine Gr.drewN ?_ _ | with_reducible refine Gr.drew ?_ | with_reducible refine Gr.alloc ?_ _ | with_reducible refine Gr.setCell ?_ ?_ _ | (with_reducible refine Gr.trans ?_ (by assumption)) | omega | (dsimp only; omega)))).mono ?_
  rintro e w1 ⟨⟨b, rfl, hb⟩, d2, rfl⟩
  cases b
  · clear hF2
    go_wp2_with fail
    refine (awake_any _).mono ?_
    rintro e w2 ⟨rfl, hg2⟩
    go_wp2_with fail
    go_ret
    exact ⟨rfl, by repeat (first | with_reducible exact Gr.refl _ | with_reducible refine Gr.drewN ?_ _ | with_reducible refine Gr.drew ?_ | with_reducible refine Gr.alloc ?_ _ | with_reducible refine Gr.setCell ?_ ?_ _ | (with_reducible refine Gr.trans ?_ (by assumption)) | omega | (dsimp only; omega))⟩
  have hm := hb rfl
  clear hb hF2
  go_wp2_with fail
  have hpl := place_le key l
  rw [H.out.len] at hpl
  have hcut := Lib.hid (fun w1 (hg : Gr w w1) => cut_any oa n cap l key w1 (H.out.keep hg) (by omega) (key_max hk))
  have hfind := Lib.hid (fun w1 (hg : Gr w w1) => refFind_any oa n cap l key w1 (H.out.keep hg) (key_max hk))
  generalize place key l = p at *
  generalize hasB key l = hasit at *
  refine (hcut.out _ (by repeat (first | with_reducible exact Gr.refl _ | with_reducible refine Gr.drewN ?_ _ | with_reducible refine Gr.drew ?_ | with_reducible refine Gr.alloc ?_ _ | with_reducible refine Gr.setCell ?_ ?_ _ | (with_reducible refine Gr.trans ?_ (by assumption)) | omega | (dsimp only; omega)))).mono ?_
  clear hcut
  rintro e w2 ⟨o1, m1, c1, o2, m2, c2, rfl, hr1, hr2, hg2⟩
  have R1 := Lib.hid hr1
  have R2 := Lib.hid hr2
  clear hr1 hr2
  have t1 := run_head oa n cap p (by omega)
  have t2 := run_tail oa n cap p hpl
  go_wp2_with fail
  refine (hfind.out _ (by repeat (first | with_reducible exact Gr.refl _ | with_reducible refine Gr.drewN ?_ _ | with_reducible refine Gr.drew ?_ | with_reducible refine Gr.alloc ?_ _ | with_reducible refine Gr.setCell ?_ ?_ _ | (with_reducible refine Gr.trans ?_ (by assumption)) | omega | (dsimp only; omega)))).mono ?_
  rintro e w3 ⟨rfl, hg3⟩
  have hg3 := hg3.gr
  have hS := refSame_any o1 oa m1 c1 p cap _ _ w3 (R1.out.keep (by repeat (first | with_reducible exact Gr.refl _ | with_reducible refine Gr.drewN ?_ _ | with_reducible refine Gr.drew ?_ | with_reducible refine Gr.alloc ?_ _ | with_reducible refine Gr.setCell ?_ ?_ _ | (with_reducible refine Gr.trans ?_ (by assumption)) | omega | (dsimp only; omega)))) ((H.out.keep (by repeat (first | with_reducible exact Gr.refl _ | with_reducible refine Gr.drewN ?_ _ | with_reducible refine Gr.drew ?_ | with_reducible refine Gr.alloc ?_ _ | with_reducible refine Gr.setCell ?_ ?_ _ | (with_reducible refine Gr.trans ?_ (by assumption)) | omega | (dsimp only; omega)))).head hpl)
  rw [decide_eq_true rfl] at hS
  have hS := Lib.hid hS
  go_wp2_with fail
  refine hS.out.mono ?_
  rintro e w4 ⟨rfl, hg4⟩
  have hg4 := hg4.gr
  have hS2 := refSame_any o2 (tailA oa p cap) m2 c2 (n - p) (cap - p) _ _ w4 (R2.out.keep (by repeat (first | with_reducible exact Gr.refl _ | with_reducible refine Gr.drewN ?_ _ | with_reducible refine Gr.drew ?_ | with_reducible refine Gr.alloc ?_ _ | with_reducible refine Gr.setCell ?_ ?_ _ | (with_reducible refine Gr.trans ?_ (by assumption)) | omega | (dsimp only; omega)))) ((H.out.keep (by repeat (first | with_reducible exact Gr.refl _ | with_reducible refine Gr.drewN ?_ _ | with_reducible refine Gr.drew ?_ | with_reducible refine Gr.alloc ?_ _ | with_reducible refine Gr.setCell ?_ ?_ _ | (with_reducible refine Gr.trans ?_ (by assumption)) | omega | (dsimp only; omega)))).tail hpl)
  rw [decide_eq_true rfl] at hS2
  have hS2 := Lib.hid hS2
  go_wp2_with fail
  refine hS2.out.mono ?_
  rintro e w7 ⟨rfl, hg7⟩
  have hg7 := hg7.gr
  have hG7 : Gr w w7 := by repeat (first | with_reducible exact Gr.refl _ | with_reducible refine Gr.drewN ?_ _ | with_reducible refine Gr.drew ?_ | with_reducible refine Gr.alloc ?_ _ | with_reducible refine Gr.setCell ?_ ?_ _ | (with_reducible refine Gr.trans ?_ (by assumption)) | omega | (dsimp only; omega))
  clear hS hS2 hg7 hg4 hg3 hg2 t1 t2 hfind R1 R2
  go_wp2_with fail
  refine (halve_few oa n cap l w7 (H.out.keep (by repeat (first | with_reducible exact Gr.refl _ | with_reducible refine Gr.drewN ?_ _ | with_reducible refine Gr.drew ?_ | with_reducible refine Gr.alloc ?_ _ | with_reducible refine Gr.setCell ?_ ?_ _ | (with_reducible refine Gr.trans ?_ (by assumption)) | omega | (dsimp only; omega)))) hq).mono ?_
  rintro e w8 ⟨rfl, hg8⟩
  go_wp2_with fail
  refine (refHalve_few oa n cap w8 hq).mono ?_
  rintro e w9 ⟨rfl, hg9⟩
  go_wp2_with (go_at_call 31; (with_reducible refine (is_same _ _).mono ?_); rintro e w' ⟨rfl, rfl⟩)
  refine (join_yes oa ob n cap m cap2 l k _ (H.out.keep (by repeat (first | with_reducible exact Gr.refl _ | with_reducible refine Gr.drewN ?_ _ | with_reducible refine Gr.drew ?_ | with_reducible refine Gr.alloc ?_ _ | with_reducible refine Gr.setCell ?_ ?_ _ | (with_reducible refine Gr.trans ?_ (by assumption)) | omega | (dsimp only; omega)))) (H2.out.keep (by repeat (first | with_reducible exact Gr.refl _ | with_reducible refine Gr.drewN ?_ _ | with_reducible refine Gr.drew ?_ | with_reducible refine Gr.alloc ?_ _ | with_reducible refine Gr.setCell ?_ ?_ _ | (with_reducible refine Gr.trans ?_ (by assumption)) | omega | (dsimp only; omega)))) (by omega) (by omega) hj1 hj2 hj).mono ?_
  rintro e w20 ⟨o6, m6, c6, rfl, hr6, hg20⟩
  have hr6 := Lib.hid hr6
  have d1 : decide (0 < n) = true := by simp; omega
  have d2 : decide (0 < m) = true := by simp; omega
  have d3 : decide (0 ≤ Str.cmp (Tx (kAt l (n - 1))) (Tx (kAt k 0))) = false := by simp; omega
  have hhl := H.out.keep (show Gr w w20 by (repeat (first | with_reducible exact Gr.refl _ | with_reducible refine Gr.drewN ?_ _ | with_reducible refine Gr.drew ?_ | with_reducible refine Gr.alloc ?_ _ | with_reducible refine Gr.setCell ?_ ?_ _ | (with_reducible refine Gr.trans ?_ (by assumption)) | omega | (dsimp only; omega))))
  have hhk := H2.out.keep (show Gr w w20 by (repeat (first | with_reducible exact Gr.refl _ | with_reducible refine Gr.drewN ?_ _ | with_reducible refine Gr.drew ?_ | with_reducible refine Gr.alloc ?_ _ | with_reducible refine Gr.setCell ?_ ?_ _ | (with_reducible refine Gr.trans ?_ (by assumption)) | omega | (dsimp only; omega))))
  obtain ⟨b1, off1, ho1, hc1⟩ := hhl.cells
  have Hc1 := Lib.hid hc1
  have Ho1 := Lib.hid (fun q => (ho1 q).1)
  have H1 := Lib.hid hhl
  have hn1 := hhl.cap_le
  have hm1 := hhl.cap_max
  unfold maxLen at hm1
  clear hc1 ho1 hhl
  obtain ⟨b2, off2, ho2, hc2⟩ := hhk.cells
  have Hc2 := Lib.hid hc2
  have Ho2 := Lib.hid (fun q => (ho2 q).1)
  have H2 := Lib.hid hhk
  have hn2 := hhk.cap_le
  have hm2 := hhk.cap_max
  unfold maxLen at hm2
  clear hc2 ho2 hhk
  have a1 := (Hc1.out (n - 1) (by omega)).1
  have a2 := (Hc2.out 0 (by omega)).1
  have s1 := (H.out.sizes (n - 1) (by omega)).1
  have s2 := (H2.out.sizes 0 (by omega)).1
  have hI1 := fun w => run_rowI cap Ho1.out (k := (n : Int) - 1) (by omega) (by omega) w
  have e1 : ((n : Int) - 1).toNat = n - 1 := by omega
  rw [e1] at hI1
  have hI2 := run_row0 cap2 Ho2.out (by omega)
  rw [Nat.zero_mul, Nat.add_zero] at a2
  go_wp2_with fail
  go_big_quiet ((go_at_call 18; (first | (with_reducible exact quiet_dr1 (compare_any _ _ _ (by assumption) (by assumption))) | (with_reducible exact quiet_dr0 (compare_any _ _ _ (by assumption) (by assumption))))))
  have hown := Lib.hid (fun w1 (hg : Gr w w1) => own_any oa n cap l w1 (H.out.keep (by repeat (first | with_reducible exact Gr.refl _ | with_reducible refine Gr.drewN ?_ _ | with_reducible refine Gr.drew ?_ | with_reducible refine Gr.alloc ?_ _ | with_reducible refine Gr.setCell ?_ ?_ _ | (with_reducible refine Gr.trans ?_ (by assumption)) | omega | (dsimp only; omega)))) (by omega))
  go_wp2_with fail
  refine (hown.out _ (by repeat (first | with_reducible exact Gr.refl _ | with_reducible refine Gr.drewN ?_ _ | with_reducible refine Gr.drew ?_ | with_reducible refine Gr.alloc ?_ _ | with_reducible refine Gr.setCell ?_ ?_ _ | (with_reducible refine Gr.trans ?_ (by assumption)) | omega | (dsimp only; omega)))).mono ?_
  rintro e w21 ⟨o7, m7, c7, rfl, hr7, hg21, base, hb7, ho7⟩
  obtain rfl : n = m7 := by rw [← hr7.len, H.out.len]
  have O7 := Lib.hid (ho7.lower (show w20.heap.size ≤ base from hb7))
  have hb8 : w20.heap.size ≤ w21.heap.size := Gr.le (by repeat (first | with_reducible exact Gr.refl _ | with_reducible refine Gr.drewN ?_ _ | with_reducible refine Gr.drew ?_ | with_reducible refine Gr.alloc ?_ _ | with_reducible refine Gr.setCell ?_ ?_ _ | (with_reducible refine Gr.trans ?_ (by assumption)) | omega | (dsimp only; omega)))
  clear hr7 ho7
  go_wp2_with (at_builtin; refine wpList_rows_w (by rfl) _ _ rfl w20.heap.size hb8 rfl O7.out rfl (H2.out.keep (by repeat (first | with_reducible exact Gr.refl _ | with_reducible refine Gr.drewN ?_ _ | with_reducible refine Gr.drew ?_ | with_reducible refine Gr.alloc ?_ _ | with_reducible refine Gr.setCell ?_ ?_ _ | (with_reducible refine Gr.trans ?_ (by assumption)) | omega | (dsimp only; omega)))) (by omega) ?_; intro o8 c8 w22 ho8 hb9; have hg22 : Gr w20 w22 := grown_gr hb9 O7.out (by repeat (first | with_reducible exact Gr.refl _ | with_reducible refine Gr.drewN ?_ _ | with_reducible refine Gr.drew ?_ | with_reducible refine Gr.alloc ?_ _ | with_reducible refine Gr.setCell ?_ ?_ _ | (with_reducible refine Gr.trans ?_ (by assumption)) | omega | (dsimp only; omega))) (Nat.le_refl _))
  have hS9 := refSame_any o6 o8 m6 c6 (n + m) c8 _ _ w22 (hr6.out.keep (by repeat (first | with_reducible exact Gr.refl _ | with_reducible refine Gr.drewN ?_ _ | with_reducible refine Gr.drew ?_ | with_reducible refine Gr.alloc ?_ _ | with_reducible refine Gr.setCell ?_ ?_ _ | (with_reducible refine Gr.trans ?_ (by assumption)) | omega | (dsimp only; omega)))) ho8.rows
  rw [decide_eq_true rfl] at hS9
  have hS9 := Lib.hid hS9
  clear ho8
  refine hS9.out.mono ?_
  rintro e w23 ⟨rfl, hg23⟩
  have hg23 := hg23.gr
  go_wp2_with (go_at_call 13; refine (awake_any _).mono ?_; rintro e w24 ⟨rfl, hg24⟩)
  go_ret
  exact ⟨rfl, by repeat (first | with_reducible exact Gr.refl _ | with_reducible refine Gr.drewN ?_ _ | with_reducible refine Gr.drew ?_ | with_reducible refine Gr.alloc ?_ _ | with_reducible refine Gr.setCell ?_ ?_ _ | (with_reducible refine Gr.trans ?_ (by assumption)) | omega | (dsimp only; omega))⟩

set_option maxRecDepth 100000 in
set_option maxHeartbeats 4000000 in
theorem parts_few_no (oa ob : Option Addr) (n cap m cap2 : Nat) (l k : List Rw) (key : ByteArray) (w : World) (h : RowsAt w oa n cap l) (h2 : RowsAt w ob m cap2 k) (hk : key.size ≤ 100) (hq : n < 2) (hj1 : 0 < n) (hj2 : 0 < m) (hj : 0 ≤ Str.cmp (Tx (kAt l (n - 1))) (Tx (kAt k 0))) :
    Calls Try.prog 9 #[.slice oa n cap, .slice ob m cap2, .string key] w fun e w' => e = .returned (.bool true) ∧ Gr w w' := by
  have hF := Lib.hid (few_any oa n cap l w h)
  have hF2 := Lib.hid (fun w1 (hg : Gr w w1) => few_any ob m cap2 k w1 (h2.keep hg))
  have H := Lib.hid h
  have H2 := Lib.hid h2
  have hcap := h.cap_le
  have hcap2 := h2.cap_le
  clear h h2
  go_enter Try.func9, Try.ntmps9
  go_wp2_with fail
  refine hF.out.mono ?_
  rintro e w1 ⟨⟨b, rfl, hb⟩, d, rfl⟩
  cases b
  · clear hF hF2
    go_wp2_with fail
    refine (awake_any _).mono ?_
    rintro e w2 ⟨rfl, hg2⟩
    go_wp2_with fail
    go_ret
    exact ⟨rfl, by repeat (first | with_reducible exact Gr.refl _ | with_reducible refine Gr.drewN ?_ _ | with_reducible refine Gr.drew ?_ | with_reducible refine Gr.alloc ?_ _ | with_reducible refine Gr.setCell ?_ ?_ _ | (with_reducible refine Gr.trans ?_ (by assumption)) | omega | (dsimp only; omega))⟩
  have hn := hb rfl
  clear hb hF
  go_wp2_with fail
  refine (hF2.out _ (by repeat (first | with_reducible exact Gr.refl _ | with_reducible refine Gr.drewN ?_ _ | with_reducible refine Gr.drew ?_ | with_reducible refine Gr.alloc ?_ _ | with_reducible refine Gr.setCell ?_ ?_ _ | (with_reducible refine Gr.trans ?_ (by assumption)) | omega | (dsimp only; omega)))).mono ?_
  rintro e w1 ⟨⟨b, rfl, hb⟩, d2, rfl⟩
  cases b
  · clear hF2
    go_wp2_with fail
    refine (awake_any _).mono ?_
    rintro e w2 ⟨rfl, hg2⟩
    go_wp2_with fail
    go_ret
    exact ⟨rfl, by repeat (first | with_reducible exact Gr.refl _ | with_reducible refine Gr.drewN ?_ _ | with_reducible refine Gr.drew ?_ | with_reducible refine Gr.alloc ?_ _ | with_reducible refine Gr.setCell ?_ ?_ _ | (with_reducible refine Gr.trans ?_ (by assumption)) | omega | (dsimp only; omega))⟩
  have hm := hb rfl
  clear hb hF2
  go_wp2_with fail
  have hpl := place_le key l
  rw [H.out.len] at hpl
  have hcut := Lib.hid (fun w1 (hg : Gr w w1) => cut_any oa n cap l key w1 (H.out.keep hg) (by omega) (key_max hk))
  have hfind := Lib.hid (fun w1 (hg : Gr w w1) => refFind_any oa n cap l key w1 (H.out.keep hg) (key_max hk))
  generalize place key l = p at *
  generalize hasB key l = hasit at *
  refine (hcut.out _ (by repeat (first | with_reducible exact Gr.refl _ | with_reducible refine Gr.drewN ?_ _ | with_reducible refine Gr.drew ?_ | with_reducible refine Gr.alloc ?_ _ | with_reducible refine Gr.setCell ?_ ?_ _ | (with_reducible refine Gr.trans ?_ (by assumption)) | omega | (dsimp only; omega)))).mono ?_
  clear hcut
  rintro e w2 ⟨o1, m1, c1, o2, m2, c2, rfl, hr1, hr2, hg2⟩
  have R1 := Lib.hid hr1
  have R2 := Lib.hid hr2
  clear hr1 hr2
  have t1 := run_head oa n cap p (by omega)
  have t2 := run_tail oa n cap p hpl
  go_wp2_with fail
  refine (hfind.out _ (by repeat (first | with_reducible exact Gr.refl _ | with_reducible refine Gr.drewN ?_ _ | with_reducible refine Gr.drew ?_ | with_reducible refine Gr.alloc ?_ _ | with_reducible refine Gr.setCell ?_ ?_ _ | (with_reducible refine Gr.trans ?_ (by assumption)) | omega | (dsimp only; omega)))).mono ?_
  rintro e w3 ⟨rfl, hg3⟩
  have hg3 := hg3.gr
  have hS := refSame_any o1 oa m1 c1 p cap _ _ w3 (R1.out.keep (by repeat (first | with_reducible exact Gr.refl _ | with_reducible refine Gr.drewN ?_ _ | with_reducible refine Gr.drew ?_ | with_reducible refine Gr.alloc ?_ _ | with_reducible refine Gr.setCell ?_ ?_ _ | (with_reducible refine Gr.trans ?_ (by assumption)) | omega | (dsimp only; omega)))) ((H.out.keep (by repeat (first | with_reducible exact Gr.refl _ | with_reducible refine Gr.drewN ?_ _ | with_reducible refine Gr.drew ?_ | with_reducible refine Gr.alloc ?_ _ | with_reducible refine Gr.setCell ?_ ?_ _ | (with_reducible refine Gr.trans ?_ (by assumption)) | omega | (dsimp only; omega)))).head hpl)
  rw [decide_eq_true rfl] at hS
  have hS := Lib.hid hS
  go_wp2_with fail
  refine hS.out.mono ?_
  rintro e w4 ⟨rfl, hg4⟩
  have hg4 := hg4.gr
  have hS2 := refSame_any o2 (tailA oa p cap) m2 c2 (n - p) (cap - p) _ _ w4 (R2.out.keep (by repeat (first | with_reducible exact Gr.refl _ | with_reducible refine Gr.drewN ?_ _ | with_reducible refine Gr.drew ?_ | with_reducible refine Gr.alloc ?_ _ | with_reducible refine Gr.setCell ?_ ?_ _ | (with_reducible refine Gr.trans ?_ (by assumption)) | omega | (dsimp only; omega)))) ((H.out.keep (by repeat (first | with_reducible exact Gr.refl _ | with_reducible refine Gr.drewN ?_ _ | with_reducible refine Gr.drew ?_ | with_reducible refine Gr.alloc ?_ _ | with_reducible refine Gr.setCell ?_ ?_ _ | (with_reducible refine Gr.trans ?_ (by assumption)) | omega | (dsimp only; omega)))).tail hpl)
  rw [decide_eq_true rfl] at hS2
  have hS2 := Lib.hid hS2
  go_wp2_with fail
  refine hS2.out.mono ?_
  rintro e w7 ⟨rfl, hg7⟩
  have hg7 := hg7.gr
  have hG7 : Gr w w7 := by repeat (first | with_reducible exact Gr.refl _ | with_reducible refine Gr.drewN ?_ _ | with_reducible refine Gr.drew ?_ | with_reducible refine Gr.alloc ?_ _ | with_reducible refine Gr.setCell ?_ ?_ _ | (with_reducible refine Gr.trans ?_ (by assumption)) | omega | (dsimp only; omega))
  clear hS hS2 hg7 hg4 hg3 hg2 t1 t2 hfind R1 R2
  go_wp2_with fail
  refine (halve_few oa n cap l w7 (H.out.keep (by repeat (first | with_reducible exact Gr.refl _ | with_reducible refine Gr.drewN ?_ _ | with_reducible refine Gr.drew ?_ | with_reducible refine Gr.alloc ?_ _ | with_reducible refine Gr.setCell ?_ ?_ _ | (with_reducible refine Gr.trans ?_ (by assumption)) | omega | (dsimp only; omega)))) hq).mono ?_
  rintro e w8 ⟨rfl, hg8⟩
  go_wp2_with fail
  refine (refHalve_few oa n cap w8 hq).mono ?_
  rintro e w9 ⟨rfl, hg9⟩
  go_wp2_with (go_at_call 31; (with_reducible refine (is_same _ _).mono ?_); rintro e w' ⟨rfl, rfl⟩)
  refine (join_no oa ob n cap m cap2 l k _ (H.out.keep (by repeat (first | with_reducible exact Gr.refl _ | with_reducible refine Gr.drewN ?_ _ | with_reducible refine Gr.drew ?_ | with_reducible refine Gr.alloc ?_ _ | with_reducible refine Gr.setCell ?_ ?_ _ | (with_reducible refine Gr.trans ?_ (by assumption)) | omega | (dsimp only; omega)))) (H2.out.keep (by repeat (first | with_reducible exact Gr.refl _ | with_reducible refine Gr.drewN ?_ _ | with_reducible refine Gr.drew ?_ | with_reducible refine Gr.alloc ?_ _ | with_reducible refine Gr.setCell ?_ ?_ _ | (with_reducible refine Gr.trans ?_ (by assumption)) | omega | (dsimp only; omega)))) (by omega) (by omega) hj1 hj2 hj).mono ?_
  rintro e w20 ⟨rfl, hg20⟩
  have d1 : decide (0 < n) = true := by simp; omega
  have d2 : decide (0 < m) = true := by simp; omega
  have d3 : decide (0 ≤ Str.cmp (Tx (kAt l (n - 1))) (Tx (kAt k 0))) = true := by simp; omega
  have hhl := H.out.keep (show Gr w w20 by (repeat (first | with_reducible exact Gr.refl _ | with_reducible refine Gr.drewN ?_ _ | with_reducible refine Gr.drew ?_ | with_reducible refine Gr.alloc ?_ _ | with_reducible refine Gr.setCell ?_ ?_ _ | (with_reducible refine Gr.trans ?_ (by assumption)) | omega | (dsimp only; omega))))
  have hhk := H2.out.keep (show Gr w w20 by (repeat (first | with_reducible exact Gr.refl _ | with_reducible refine Gr.drewN ?_ _ | with_reducible refine Gr.drew ?_ | with_reducible refine Gr.alloc ?_ _ | with_reducible refine Gr.setCell ?_ ?_ _ | (with_reducible refine Gr.trans ?_ (by assumption)) | omega | (dsimp only; omega))))
  obtain ⟨b1, off1, ho1, hc1⟩ := hhl.cells
  have Hc1 := Lib.hid hc1
  have Ho1 := Lib.hid (fun q => (ho1 q).1)
  have H1 := Lib.hid hhl
  have hn1 := hhl.cap_le
  have hm1 := hhl.cap_max
  unfold maxLen at hm1
  clear hc1 ho1 hhl
  obtain ⟨b2, off2, ho2, hc2⟩ := hhk.cells
  have Hc2 := Lib.hid hc2
  have Ho2 := Lib.hid (fun q => (ho2 q).1)
  have H2 := Lib.hid hhk
  have hn2 := hhk.cap_le
  have hm2 := hhk.cap_max
  unfold maxLen at hm2
  clear hc2 ho2 hhk
  have a1 := (Hc1.out (n - 1) (by omega)).1
  have a2 := (Hc2.out 0 (by omega)).1
  have s1 := (H.out.sizes (n - 1) (by omega)).1
  have s2 := (H2.out.sizes 0 (by omega)).1
  have hI1 := fun w => run_rowI cap Ho1.out (k := (n : Int) - 1) (by omega) (by omega) w
  have e1 : ((n : Int) - 1).toNat = n - 1 := by omega
  rw [e1] at hI1
  have hI2 := run_row0 cap2 Ho2.out (by omega)
  rw [Nat.zero_mul, Nat.add_zero] at a2
  go_wp2_with fail
  go_big_quiet ((go_at_call 18; (first | (with_reducible exact quiet_dr1 (compare_any _ _ _ (by assumption) (by assumption))) | (with_reducible exact quiet_dr0 (compare_any _ _ _ (by assumption) (by assumption))))))
  go_wp2_with (first | (go_at_call 31; (with_reducible refine (is_same _ _).mono ?_); rintro e w' ⟨rfl, rfl⟩) | (go_at_call 13; refine (awake_any _).mono ?_; rintro e w24 ⟨rfl, hg24⟩))
  go_ret
  exact ⟨rfl, by repeat (first | with_reducible exact Gr.refl _ | with_reducible refine Gr.drewN ?_ _ | with_reducible refine Gr.drew ?_ | with_reducible refine Gr.alloc ?_ _ | with_reducible refine Gr.setCell ?_ ?_ _ | (with_reducible refine Gr.trans ?_ (by assumption)) | omega | (dsimp only; omega))⟩

set_option maxRecDepth 100000 in
set_option maxHeartbeats 4000000 in
theorem parts_no_e2 (oa ob : Option Addr) (n cap m cap2 : Nat) (l k : List Rw) (key : ByteArray) (w : World) (h : RowsAt w oa n cap l) (h2 : RowsAt w ob m cap2 k) (hk : key.size ≤ 100) (hq : 2 ≤ n) (hc : ¬ Str.cmp (Tx (kAt l (n / 2 - 1))) (Tx (kAt l (n / 2))) < 0) (hj1 : 0 < n) (hj : m = 0) :
    Calls Try.prog 9 #[.slice oa n cap, .slice ob m cap2, .string key] w fun e w' => e = .returned (.bool true) ∧ Gr w w' := by
  have hF := Lib.hid (few_any oa n cap l w h)
  have hF2 := Lib.hid (fun w1 (hg : Gr w w1) => few_any ob m cap2 k w1 (h2.keep hg))
  have H := Lib.hid h
  have H2 := Lib.hid h2
  have hcap := h.cap_le
  have hcap2 := h2.cap_le
  clear h h2
  have hc2 : ¬ Str.before (Tx (kAt l (n / 2 - 1))) (Tx (kAt l (n / 2))) = true := fun q => hc (Str.cmp_neg_iff.2 q)
  have d1 : decide (0 < n) = true := by simp; omega
  have d2 : decide (0 < m) = false := by simp; omega
  have Hj := Lib.hid hj
  clear hj
  go_enter Try.func9, Try.ntmps9
  go_wp2_with fail
  refine hF.out.mono ?_
  rintro e w1 ⟨⟨b, rfl, hb⟩, d, rfl⟩
  cases b
  · clear hF hF2
    go_wp2_with fail
    refine (awake_any _).mono ?_
    rintro e w2 ⟨rfl, hg2⟩
    go_wp2_with fail
    go_ret
    exact ⟨rfl, by repeat (first | with_reducible exact Gr.refl _ | with_reducible refine Gr.drewN ?_ _ | with_reducible refine Gr.drew ?_ | with_reducible refine Gr.alloc ?_ _ | with_reducible refine Gr.setCell ?_ ?_ _ | (with_reducible refine Gr.trans ?_ (by assumption)) | omega | (dsimp only; omega))⟩
  have hn := hb rfl
  clear hb hF
  go_wp2_with fail
  refine (hF2.out _ (by repeat (first | with_reducible exact Gr.refl _ | with_reducible refine Gr.drewN ?_ _ | with_reducible refine Gr.drew ?_ | with_reducible refine Gr.alloc ?_ _ | with_reducible refine Gr.setCell ?_ ?_ _ | (with_reducible refine Gr.trans ?_ (by assumption)) | omega | (dsimp only; omega)))).mono ?_
  rintro e w1 ⟨⟨b, rfl, hb⟩, d2, rfl⟩
  cases b
  · clear hF2
    go_wp2_with fail
    refine (awake_any _).mono ?_
    rintro e w2 ⟨rfl, hg2⟩
    go_wp2_with fail
    go_ret
    exact ⟨rfl, by repeat (first | with_reducible exact Gr.refl _ | with_reducible refine Gr.drewN ?_ _ | with_reducible refine Gr.drew ?_ | with_reducible refine Gr.alloc ?_ _ | with_reducible refine Gr.setCell ?_ ?_ _ | (with_reducible refine Gr.trans ?_ (by assumption)) | omega | (dsimp only; omega))⟩
  have hm := hb rfl
  clear hb hF2
  go_wp2_with fail
  have hpl := place_le key l
  rw [H.out.len] at hpl
  have hcut := Lib.hid (fun w1 (hg : Gr w w1) => cut_any oa n cap l key w1 (H.out.keep hg) (by omega) (key_max hk))
  have hfind := Lib.hid (fun w1 (hg : Gr w w1) => refFind_any oa n cap l key w1 (H.out.keep hg) (key_max hk))
  generalize place key l = p at *
  generalize hasB key l = hasit at *
  refine (hcut.out _ (by repeat (first | with_reducible exact Gr.refl _ | with_reducible refine Gr.drewN ?_ _ | with_reducible refine Gr.drew ?_ | with_reducible refine Gr.alloc ?_ _ | with_reducible refine Gr.setCell ?_ ?_ _ | (with_reducible refine Gr.trans ?_ (by assumption)) | omega | (dsimp only; omega)))).mono ?_
  clear hcut
  rintro e w2 ⟨o1, m1, c1, o2, m2, c2, rfl, hr1, hr2, hg2⟩
  have R1 := Lib.hid hr1
  have R2 := Lib.hid hr2
  clear hr1 hr2
  have t1 := run_head oa n cap p (by omega)
  have t2 := run_tail oa n cap p hpl
  go_wp2_with fail
  refine (hfind.out _ (by repeat (first | with_reducible exact Gr.refl _ | with_reducible refine Gr.drewN ?_ _ | with_reducible refine Gr.drew ?_ | with_reducible refine Gr.alloc ?_ _ | with_reducible refine Gr.setCell ?_ ?_ _ | (with_reducible refine Gr.trans ?_ (by assumption)) | omega | (dsimp only; omega)))).mono ?_
  rintro e w3 ⟨rfl, hg3⟩
  have hg3 := hg3.gr
  have hS := refSame_any o1 oa m1 c1 p cap _ _ w3 (R1.out.keep (by repeat (first | with_reducible exact Gr.refl _ | with_reducible refine Gr.drewN ?_ _ | with_reducible refine Gr.drew ?_ | with_reducible refine Gr.alloc ?_ _ | with_reducible refine Gr.setCell ?_ ?_ _ | (with_reducible refine Gr.trans ?_ (by assumption)) | omega | (dsimp only; omega)))) ((H.out.keep (by repeat (first | with_reducible exact Gr.refl _ | with_reducible refine Gr.drewN ?_ _ | with_reducible refine Gr.drew ?_ | with_reducible refine Gr.alloc ?_ _ | with_reducible refine Gr.setCell ?_ ?_ _ | (with_reducible refine Gr.trans ?_ (by assumption)) | omega | (dsimp only; omega)))).head hpl)
  rw [decide_eq_true rfl] at hS
  have hS := Lib.hid hS
  go_wp2_with fail
  refine hS.out.mono ?_
  rintro e w4 ⟨rfl, hg4⟩
  have hg4 := hg4.gr
  have hS2 := refSame_any o2 (tailA oa p cap) m2 c2 (n - p) (cap - p) _ _ w4 (R2.out.keep (by repeat (first | with_reducible exact Gr.refl _ | with_reducible refine Gr.drewN ?_ _ | with_reducible refine Gr.drew ?_ | with_reducible refine Gr.alloc ?_ _ | with_reducible refine Gr.setCell ?_ ?_ _ | (with_reducible refine Gr.trans ?_ (by assumption)) | omega | (dsimp only; omega)))) ((H.out.keep (by repeat (first | with_reducible exact Gr.refl _ | with_reducible refine Gr.drewN ?_ _ | with_reducible refine Gr.drew ?_ | with_reducible refine Gr.alloc ?_ _ | with_reducible refine Gr.setCell ?_ ?_ _ | (with_reducible refine Gr.trans ?_ (by assumption)) | omega | (dsimp only; omega)))).tail hpl)
  rw [decide_eq_true rfl] at hS2
  have hS2 := Lib.hid hS2
  go_wp2_with fail
  refine hS2.out.mono ?_
  rintro e w7 ⟨rfl, hg7⟩
  have hg7 := hg7.gr
  have hG7 : Gr w w7 := by repeat (first | with_reducible exact Gr.refl _ | with_reducible refine Gr.drewN ?_ _ | with_reducible refine Gr.drew ?_ | with_reducible refine Gr.alloc ?_ _ | with_reducible refine Gr.setCell ?_ ?_ _ | (with_reducible refine Gr.trans ?_ (by assumption)) | omega | (dsimp only; omega))
  clear hS hS2 hg7 hg4 hg3 hg2 t1 t2 hfind R1 R2
  go_wp2_with fail
  refine (halve_no oa n cap (n / 2) l w7 (H.out.keep (by repeat (first | with_reducible exact Gr.refl _ | with_reducible refine Gr.drewN ?_ _ | with_reducible refine Gr.drew ?_ | with_reducible refine Gr.alloc ?_ _ | with_reducible refine Gr.setCell ?_ ?_ _ | (with_reducible refine Gr.trans ?_ (by assumption)) | omega | (dsimp only; omega)))) hq (by omega) rfl (by omega)).mono ?_
  rintro e w8 ⟨rfl, hg8⟩
  go_wp2_with fail
  refine (refHalve_no oa n cap (n / 2) l w8 (H.out.keep (by repeat (first | with_reducible exact Gr.refl _ | with_reducible refine Gr.drewN ?_ _ | with_reducible refine Gr.drew ?_ | with_reducible refine Gr.alloc ?_ _ | with_reducible refine Gr.setCell ?_ ?_ _ | (with_reducible refine Gr.trans ?_ (by assumption)) | omega | (dsimp only; omega)))) hq (by omega) rfl hc2).mono ?_
  rintro e w9 ⟨rfl, hg9⟩
  clear hc hc2
  go_wp2_with fail
  refine (join_e2 oa ob n cap m cap2 l k _ (H.out.keep (by repeat (first | with_reducible exact Gr.refl _ | with_reducible refine Gr.drewN ?_ _ | with_reducible refine Gr.drew ?_ | with_reducible refine Gr.alloc ?_ _ | with_reducible refine Gr.setCell ?_ ?_ _ | (with_reducible refine Gr.trans ?_ (by assumption)) | omega | (dsimp only; omega)))) (H2.out.keep (by repeat (first | with_reducible exact Gr.refl _ | with_reducible refine Gr.drewN ?_ _ | with_reducible refine Gr.drew ?_ | with_reducible refine Gr.alloc ?_ _ | with_reducible refine Gr.setCell ?_ ?_ _ | (with_reducible refine Gr.trans ?_ (by assumption)) | omega | (dsimp only; omega)))) (by omega) (by omega) hj1 Hj.out).mono ?_
  rintro e w20 ⟨o6, m6, c6, rfl, hr6, hg20⟩
  have hr6 := Lib.hid hr6
  go_wp2_with fail
  go_big_quiet (fail)
  have hown := Lib.hid (fun w1 (hg : Gr w w1) => own_any oa n cap l w1 (H.out.keep (by repeat (first | with_reducible exact Gr.refl _ | with_reducible refine Gr.drewN ?_ _ | with_reducible refine Gr.drew ?_ | with_reducible refine Gr.alloc ?_ _ | with_reducible refine Gr.setCell ?_ ?_ _ | (with_reducible refine Gr.trans ?_ (by assumption)) | omega | (dsimp only; omega)))) (by omega))
  go_wp2_with fail
  refine (hown.out _ (by repeat (first | with_reducible exact Gr.refl _ | with_reducible refine Gr.drewN ?_ _ | with_reducible refine Gr.drew ?_ | with_reducible refine Gr.alloc ?_ _ | with_reducible refine Gr.setCell ?_ ?_ _ | (with_reducible refine Gr.trans ?_ (by assumption)) | omega | (dsimp only; omega)))).mono ?_
  rintro e w21 ⟨o7, m7, c7, rfl, hr7, hg21, base, hb7, ho7⟩
  obtain rfl : n = m7 := by rw [← hr7.len, H.out.len]
  have O7 := Lib.hid (ho7.lower (show w20.heap.size ≤ base from hb7))
  have hb8 : w20.heap.size ≤ w21.heap.size := Gr.le (by repeat (first | with_reducible exact Gr.refl _ | with_reducible refine Gr.drewN ?_ _ | with_reducible refine Gr.drew ?_ | with_reducible refine Gr.alloc ?_ _ | with_reducible refine Gr.setCell ?_ ?_ _ | (with_reducible refine Gr.trans ?_ (by assumption)) | omega | (dsimp only; omega)))
  clear hr7 ho7
  go_wp2_with (at_builtin; refine wpList_rows_w (by rfl) _ _ rfl w20.heap.size hb8 rfl O7.out rfl (H2.out.keep (by repeat (first | with_reducible exact Gr.refl _ | with_reducible refine Gr.drewN ?_ _ | with_reducible refine Gr.drew ?_ | with_reducible refine Gr.alloc ?_ _ | with_reducible refine Gr.setCell ?_ ?_ _ | (with_reducible refine Gr.trans ?_ (by assumption)) | omega | (dsimp only; omega)))) (by omega) ?_; intro o8 c8 w22 ho8 hb9; have hg22 : Gr w20 w22 := grown_gr hb9 O7.out (by repeat (first | with_reducible exact Gr.refl _ | with_reducible refine Gr.drewN ?_ _ | with_reducible refine Gr.drew ?_ | with_reducible refine Gr.alloc ?_ _ | with_reducible refine Gr.setCell ?_ ?_ _ | (with_reducible refine Gr.trans ?_ (by assumption)) | omega | (dsimp only; omega))) (Nat.le_refl _))
  have hS9 := refSame_any o6 o8 m6 c6 (n + m) c8 _ _ w22 (hr6.out.keep (by repeat (first | with_reducible exact Gr.refl _ | with_reducible refine Gr.drewN ?_ _ | with_reducible refine Gr.drew ?_ | with_reducible refine Gr.alloc ?_ _ | with_reducible refine Gr.setCell ?_ ?_ _ | (with_reducible refine Gr.trans ?_ (by assumption)) | omega | (dsimp only; omega)))) ho8.rows
  rw [decide_eq_true rfl] at hS9
  have hS9 := Lib.hid hS9
  clear ho8
  refine hS9.out.mono ?_
  rintro e w23 ⟨rfl, hg23⟩
  have hg23 := hg23.gr
  go_wp2_with (go_at_call 13; refine (awake_any _).mono ?_; rintro e w24 ⟨rfl, hg24⟩)
  go_ret
  exact ⟨rfl, by repeat (first | with_reducible exact Gr.refl _ | with_reducible refine Gr.drewN ?_ _ | with_reducible refine Gr.drew ?_ | with_reducible refine Gr.alloc ?_ _ | with_reducible refine Gr.setCell ?_ ?_ _ | (with_reducible refine Gr.trans ?_ (by assumption)) | omega | (dsimp only; omega))⟩

set_option maxRecDepth 100000 in
set_option maxHeartbeats 4000000 in
theorem parts_no_yes (oa ob : Option Addr) (n cap m cap2 : Nat) (l k : List Rw) (key : ByteArray) (w : World) (h : RowsAt w oa n cap l) (h2 : RowsAt w ob m cap2 k) (hk : key.size ≤ 100) (hq : 2 ≤ n) (hc : ¬ Str.cmp (Tx (kAt l (n / 2 - 1))) (Tx (kAt l (n / 2))) < 0) (hj1 : 0 < n) (hj2 : 0 < m) (hj : Str.cmp (Tx (kAt l (n - 1))) (Tx (kAt k 0)) < 0) :
    Calls Try.prog 9 #[.slice oa n cap, .slice ob m cap2, .string key] w fun e w' => e = .returned (.bool true) ∧ Gr w w' := by
  have hF := Lib.hid (few_any oa n cap l w h)
  have hF2 := Lib.hid (fun w1 (hg : Gr w w1) => few_any ob m cap2 k w1 (h2.keep hg))
  have H := Lib.hid h
  have H2 := Lib.hid h2
  have hcap := h.cap_le
  have hcap2 := h2.cap_le
  clear h h2
  have hc2 : ¬ Str.before (Tx (kAt l (n / 2 - 1))) (Tx (kAt l (n / 2))) = true := fun q => hc (Str.cmp_neg_iff.2 q)
  go_enter Try.func9, Try.ntmps9
  go_wp2_with fail
  refine hF.out.mono ?_
  rintro e w1 ⟨⟨b, rfl, hb⟩, d, rfl⟩
  cases b
  · clear hF hF2
    go_wp2_with fail
    refine (awake_any _).mono ?_
    rintro e w2 ⟨rfl, hg2⟩
    go_wp2_with fail
    go_ret
    exact ⟨rfl, by repeat (first | with_reducible exact Gr.refl _ | with_reducible refine Gr.drewN ?_ _ | with_reducible refine Gr.drew ?_ | with_reducible refine Gr.alloc ?_ _ | with_reducible refine Gr.setCell ?_ ?_ _ | (with_reducible refine Gr.trans ?_ (by assumption)) | omega | (dsimp only; omega))⟩
  have hn := hb rfl
  clear hb hF
  go_wp2_with fail
  refine (hF2.out _ (by repeat (first | with_reducible exact Gr.refl _ | with_reducible refine Gr.drewN ?_ _ | with_reducible refine Gr.drew ?_ | with_reducible refine Gr.alloc ?_ _ | with_reducible refine Gr.setCell ?_ ?_ _ | (with_reducible refine Gr.trans ?_ (by assumption)) | omega | (dsimp only; omega)))).mono ?_
  rintro e w1 ⟨⟨b, rfl, hb⟩, d2, rfl⟩
  cases b
  · clear hF2
    go_wp2_with fail
    refine (awake_any _).mono ?_
    rintro e w2 ⟨rfl, hg2⟩
    go_wp2_with fail
    go_ret
    exact ⟨rfl, by repeat (first | with_reducible exact Gr.refl _ | with_reducible refine Gr.drewN ?_ _ | with_reducible refine Gr.drew ?_ | with_reducible refine Gr.alloc ?_ _ | with_reducible refine Gr.setCell ?_ ?_ _ | (with_reducible refine Gr.trans ?_ (by assumption)) | omega | (dsimp only; omega))⟩
  have hm := hb rfl
  clear hb hF2
  go_wp2_with fail
  have hpl := place_le key l
  rw [H.out.len] at hpl
  have hcut := Lib.hid (fun w1 (hg : Gr w w1) => cut_any oa n cap l key w1 (H.out.keep hg) (by omega) (key_max hk))
  have hfind := Lib.hid (fun w1 (hg : Gr w w1) => refFind_any oa n cap l key w1 (H.out.keep hg) (key_max hk))
  generalize place key l = p at *
  generalize hasB key l = hasit at *
  refine (hcut.out _ (by repeat (first | with_reducible exact Gr.refl _ | with_reducible refine Gr.drewN ?_ _ | with_reducible refine Gr.drew ?_ | with_reducible refine Gr.alloc ?_ _ | with_reducible refine Gr.setCell ?_ ?_ _ | (with_reducible refine Gr.trans ?_ (by assumption)) | omega | (dsimp only; omega)))).mono ?_
  clear hcut
  rintro e w2 ⟨o1, m1, c1, o2, m2, c2, rfl, hr1, hr2, hg2⟩
  have R1 := Lib.hid hr1
  have R2 := Lib.hid hr2
  clear hr1 hr2
  have t1 := run_head oa n cap p (by omega)
  have t2 := run_tail oa n cap p hpl
  go_wp2_with fail
  refine (hfind.out _ (by repeat (first | with_reducible exact Gr.refl _ | with_reducible refine Gr.drewN ?_ _ | with_reducible refine Gr.drew ?_ | with_reducible refine Gr.alloc ?_ _ | with_reducible refine Gr.setCell ?_ ?_ _ | (with_reducible refine Gr.trans ?_ (by assumption)) | omega | (dsimp only; omega)))).mono ?_
  rintro e w3 ⟨rfl, hg3⟩
  have hg3 := hg3.gr
  have hS := refSame_any o1 oa m1 c1 p cap _ _ w3 (R1.out.keep (by repeat (first | with_reducible exact Gr.refl _ | with_reducible refine Gr.drewN ?_ _ | with_reducible refine Gr.drew ?_ | with_reducible refine Gr.alloc ?_ _ | with_reducible refine Gr.setCell ?_ ?_ _ | (with_reducible refine Gr.trans ?_ (by assumption)) | omega | (dsimp only; omega)))) ((H.out.keep (by repeat (first | with_reducible exact Gr.refl _ | with_reducible refine Gr.drewN ?_ _ | with_reducible refine Gr.drew ?_ | with_reducible refine Gr.alloc ?_ _ | with_reducible refine Gr.setCell ?_ ?_ _ | (with_reducible refine Gr.trans ?_ (by assumption)) | omega | (dsimp only; omega)))).head hpl)
  rw [decide_eq_true rfl] at hS
  have hS := Lib.hid hS
  go_wp2_with fail
  refine hS.out.mono ?_
  rintro e w4 ⟨rfl, hg4⟩
  have hg4 := hg4.gr
  have hS2 := refSame_any o2 (tailA oa p cap) m2 c2 (n - p) (cap - p) _ _ w4 (R2.out.keep (by repeat (first | with_reducible exact Gr.refl _ | with_reducible refine Gr.drewN ?_ _ | with_reducible refine Gr.drew ?_ | with_reducible refine Gr.alloc ?_ _ | with_reducible refine Gr.setCell ?_ ?_ _ | (with_reducible refine Gr.trans ?_ (by assumption)) | omega | (dsimp only; omega)))) ((H.out.keep (by repeat (first | with_reducible exact Gr.refl _ | with_reducible refine Gr.drewN ?_ _ | with_reducible refine Gr.drew ?_ | with_reducible refine Gr.alloc ?_ _ | with_reducible refine Gr.setCell ?_ ?_ _ | (with_reducible refine Gr.trans ?_ (by assumption)) | omega | (dsimp only; omega)))).tail hpl)
  rw [decide_eq_true rfl] at hS2
  have hS2 := Lib.hid hS2
  go_wp2_with fail
  refine hS2.out.mono ?_
  rintro e w7 ⟨rfl, hg7⟩
  have hg7 := hg7.gr
  have hG7 : Gr w w7 := by repeat (first | with_reducible exact Gr.refl _ | with_reducible refine Gr.drewN ?_ _ | with_reducible refine Gr.drew ?_ | with_reducible refine Gr.alloc ?_ _ | with_reducible refine Gr.setCell ?_ ?_ _ | (with_reducible refine Gr.trans ?_ (by assumption)) | omega | (dsimp only; omega))
  clear hS hS2 hg7 hg4 hg3 hg2 t1 t2 hfind R1 R2
  go_wp2_with fail
  refine (halve_no oa n cap (n / 2) l w7 (H.out.keep (by repeat (first | with_reducible exact Gr.refl _ | with_reducible refine Gr.drewN ?_ _ | with_reducible refine Gr.drew ?_ | with_reducible refine Gr.alloc ?_ _ | with_reducible refine Gr.setCell ?_ ?_ _ | (with_reducible refine Gr.trans ?_ (by assumption)) | omega | (dsimp only; omega)))) hq (by omega) rfl (by omega)).mono ?_
  rintro e w8 ⟨rfl, hg8⟩
  go_wp2_with fail
  refine (refHalve_no oa n cap (n / 2) l w8 (H.out.keep (by repeat (first | with_reducible exact Gr.refl _ | with_reducible refine Gr.drewN ?_ _ | with_reducible refine Gr.drew ?_ | with_reducible refine Gr.alloc ?_ _ | with_reducible refine Gr.setCell ?_ ?_ _ | (with_reducible refine Gr.trans ?_ (by assumption)) | omega | (dsimp only; omega)))) hq (by omega) rfl hc2).mono ?_
  rintro e w9 ⟨rfl, hg9⟩
  clear hc hc2
  go_wp2_with fail
  refine (join_yes oa ob n cap m cap2 l k _ (H.out.keep (by repeat (first | with_reducible exact Gr.refl _ | with_reducible refine Gr.drewN ?_ _ | with_reducible refine Gr.drew ?_ | with_reducible refine Gr.alloc ?_ _ | with_reducible refine Gr.setCell ?_ ?_ _ | (with_reducible refine Gr.trans ?_ (by assumption)) | omega | (dsimp only; omega)))) (H2.out.keep (by repeat (first | with_reducible exact Gr.refl _ | with_reducible refine Gr.drewN ?_ _ | with_reducible refine Gr.drew ?_ | with_reducible refine Gr.alloc ?_ _ | with_reducible refine Gr.setCell ?_ ?_ _ | (with_reducible refine Gr.trans ?_ (by assumption)) | omega | (dsimp only; omega)))) (by omega) (by omega) hj1 hj2 hj).mono ?_
  rintro e w20 ⟨o6, m6, c6, rfl, hr6, hg20⟩
  have hr6 := Lib.hid hr6
  have d1 : decide (0 < n) = true := by simp; omega
  have d2 : decide (0 < m) = true := by simp; omega
  have d3 : decide (0 ≤ Str.cmp (Tx (kAt l (n - 1))) (Tx (kAt k 0))) = false := by simp; omega
  have hhl := H.out.keep (show Gr w w20 by (repeat (first | with_reducible exact Gr.refl _ | with_reducible refine Gr.drewN ?_ _ | with_reducible refine Gr.drew ?_ | with_reducible refine Gr.alloc ?_ _ | with_reducible refine Gr.setCell ?_ ?_ _ | (with_reducible refine Gr.trans ?_ (by assumption)) | omega | (dsimp only; omega))))
  have hhk := H2.out.keep (show Gr w w20 by (repeat (first | with_reducible exact Gr.refl _ | with_reducible refine Gr.drewN ?_ _ | with_reducible refine Gr.drew ?_ | with_reducible refine Gr.alloc ?_ _ | with_reducible refine Gr.setCell ?_ ?_ _ | (with_reducible refine Gr.trans ?_ (by assumption)) | omega | (dsimp only; omega))))
  obtain ⟨b1, off1, ho1, hc1⟩ := hhl.cells
  have Hc1 := Lib.hid hc1
  have Ho1 := Lib.hid (fun q => (ho1 q).1)
  have H1 := Lib.hid hhl
  have hn1 := hhl.cap_le
  have hm1 := hhl.cap_max
  unfold maxLen at hm1
  clear hc1 ho1 hhl
  obtain ⟨b2, off2, ho2, hc2⟩ := hhk.cells
  have Hc2 := Lib.hid hc2
  have Ho2 := Lib.hid (fun q => (ho2 q).1)
  have H2 := Lib.hid hhk
  have hn2 := hhk.cap_le
  have hm2 := hhk.cap_max
  unfold maxLen at hm2
  clear hc2 ho2 hhk
  have a1 := (Hc1.out (n - 1) (by omega)).1
  have a2 := (Hc2.out 0 (by omega)).1
  have s1 := (H.out.sizes (n - 1) (by omega)).1
  have s2 := (H2.out.sizes 0 (by omega)).1
  have hI1 := fun w => run_rowI cap Ho1.out (k := (n : Int) - 1) (by omega) (by omega) w
  have e1 : ((n : Int) - 1).toNat = n - 1 := by omega
  rw [e1] at hI1
  have hI2 := run_row0 cap2 Ho2.out (by omega)
  rw [Nat.zero_mul, Nat.add_zero] at a2
  go_wp2_with fail
  go_big_quiet ((go_at_call 18; (first | (with_reducible exact quiet_dr1 (compare_any _ _ _ (by assumption) (by assumption))) | (with_reducible exact quiet_dr0 (compare_any _ _ _ (by assumption) (by assumption))))))
  have hown := Lib.hid (fun w1 (hg : Gr w w1) => own_any oa n cap l w1 (H.out.keep (by repeat (first | with_reducible exact Gr.refl _ | with_reducible refine Gr.drewN ?_ _ | with_reducible refine Gr.drew ?_ | with_reducible refine Gr.alloc ?_ _ | with_reducible refine Gr.setCell ?_ ?_ _ | (with_reducible refine Gr.trans ?_ (by assumption)) | omega | (dsimp only; omega)))) (by omega))
  go_wp2_with fail
  refine (hown.out _ (by repeat (first | with_reducible exact Gr.refl _ | with_reducible refine Gr.drewN ?_ _ | with_reducible refine Gr.drew ?_ | with_reducible refine Gr.alloc ?_ _ | with_reducible refine Gr.setCell ?_ ?_ _ | (with_reducible refine Gr.trans ?_ (by assumption)) | omega | (dsimp only; omega)))).mono ?_
  rintro e w21 ⟨o7, m7, c7, rfl, hr7, hg21, base, hb7, ho7⟩
  obtain rfl : n = m7 := by rw [← hr7.len, H.out.len]
  have O7 := Lib.hid (ho7.lower (show w20.heap.size ≤ base from hb7))
  have hb8 : w20.heap.size ≤ w21.heap.size := Gr.le (by repeat (first | with_reducible exact Gr.refl _ | with_reducible refine Gr.drewN ?_ _ | with_reducible refine Gr.drew ?_ | with_reducible refine Gr.alloc ?_ _ | with_reducible refine Gr.setCell ?_ ?_ _ | (with_reducible refine Gr.trans ?_ (by assumption)) | omega | (dsimp only; omega)))
  clear hr7 ho7
  go_wp2_with (at_builtin; refine wpList_rows_w (by rfl) _ _ rfl w20.heap.size hb8 rfl O7.out rfl (H2.out.keep (by repeat (first | with_reducible exact Gr.refl _ | with_reducible refine Gr.drewN ?_ _ | with_reducible refine Gr.drew ?_ | with_reducible refine Gr.alloc ?_ _ | with_reducible refine Gr.setCell ?_ ?_ _ | (with_reducible refine Gr.trans ?_ (by assumption)) | omega | (dsimp only; omega)))) (by omega) ?_; intro o8 c8 w22 ho8 hb9; have hg22 : Gr w20 w22 := grown_gr hb9 O7.out (by repeat (first | with_reducible exact Gr.refl _ | with_reducible refine Gr.drewN ?_ _ | with_reducible refine Gr.drew ?_ | with_reducible refine Gr.alloc ?_ _ | with_reducible refine Gr.setCell ?_ ?_ _ | (with_reducible refine Gr.trans ?_ (by assumption)) | omega | (dsimp only; omega))) (Nat.le_refl _))
  have hS9 := refSame_any o6 o8 m6 c6 (n + m) c8 _ _ w22 (hr6.out.keep (by repeat (first | with_reducible exact Gr.refl _ | with_reducible refine Gr.drewN ?_ _ | with_reducible refine Gr.drew ?_ | with_reducible refine Gr.alloc ?_ _ | with_reducible refine Gr.setCell ?_ ?_ _ | (with_reducible refine Gr.trans ?_ (by assumption)) | omega | (dsimp only; omega)))) ho8.rows
  rw [decide_eq_true rfl] at hS9
  have hS9 := Lib.hid hS9
  clear ho8
  refine hS9.out.mono ?_
  rintro e w23 ⟨rfl, hg23⟩
  have hg23 := hg23.gr
  go_wp2_with (go_at_call 13; refine (awake_any _).mono ?_; rintro e w24 ⟨rfl, hg24⟩)
  go_ret
  exact ⟨rfl, by repeat (first | with_reducible exact Gr.refl _ | with_reducible refine Gr.drewN ?_ _ | with_reducible refine Gr.drew ?_ | with_reducible refine Gr.alloc ?_ _ | with_reducible refine Gr.setCell ?_ ?_ _ | (with_reducible refine Gr.trans ?_ (by assumption)) | omega | (dsimp only; omega))⟩

set_option maxRecDepth 100000 in
set_option maxHeartbeats 4000000 in
theorem parts_no_no (oa ob : Option Addr) (n cap m cap2 : Nat) (l k : List Rw) (key : ByteArray) (w : World) (h : RowsAt w oa n cap l) (h2 : RowsAt w ob m cap2 k) (hk : key.size ≤ 100) (hq : 2 ≤ n) (hc : ¬ Str.cmp (Tx (kAt l (n / 2 - 1))) (Tx (kAt l (n / 2))) < 0) (hj1 : 0 < n) (hj2 : 0 < m) (hj : 0 ≤ Str.cmp (Tx (kAt l (n - 1))) (Tx (kAt k 0))) :
    Calls Try.prog 9 #[.slice oa n cap, .slice ob m cap2, .string key] w fun e w' => e = .returned (.bool true) ∧ Gr w w' := by
  have hF := Lib.hid (few_any oa n cap l w h)
  have hF2 := Lib.hid (fun w1 (hg : Gr w w1) => few_any ob m cap2 k w1 (h2.keep hg))
  have H := Lib.hid h
  have H2 := Lib.hid h2
  have hcap := h.cap_le
  have hcap2 := h2.cap_le
  clear h h2
  have hc2 : ¬ Str.before (Tx (kAt l (n / 2 - 1))) (Tx (kAt l (n / 2))) = true := fun q => hc (Str.cmp_neg_iff.2 q)
  go_enter Try.func9, Try.ntmps9
  go_wp2_with fail
  refine hF.out.mono ?_
  rintro e w1 ⟨⟨b, rfl, hb⟩, d, rfl⟩
  cases b
  · clear hF hF2
    go_wp2_with fail
    refine (awake_any _).mono ?_
    rintro e w2 ⟨rfl, hg2⟩
    go_wp2_with fail
    go_ret
    exact ⟨rfl, by repeat (first | with_reducible exact Gr.refl _ | with_reducible refine Gr.drewN ?_ _ | with_reducible refine Gr.drew ?_ | with_reducible refine Gr.alloc ?_ _ | with_reducible refine Gr.setCell ?_ ?_ _ | (with_reducible refine Gr.trans ?_ (by assumption)) | omega | (dsimp only; omega))⟩
  have hn := hb rfl
  clear hb hF
  go_wp2_with fail
  refine (hF2.out _ (by repeat (first | with_reducible exact Gr.refl _ | with_reducible refine Gr.drewN ?_ _ | with_reducible refine Gr.drew ?_ | with_reducible refine Gr.alloc ?_ _ | with_reducible refine Gr.setCell ?_ ?_ _ | (with_reducible refine Gr.trans ?_ (by assumption)) | omega | (dsimp only; omega)))).mono ?_
  rintro e w1 ⟨⟨b, rfl, hb⟩, d2, rfl⟩
  cases b
  · clear hF2
    go_wp2_with fail
    refine (awake_any _).mono ?_
    rintro e w2 ⟨rfl, hg2⟩
    go_wp2_with fail
    go_ret
    exact ⟨rfl, by repeat (first | with_reducible exact Gr.refl _ | with_reducible refine Gr.drewN ?_ _ | with_reducible refine Gr.drew ?_ | with_reducible refine Gr.alloc ?_ _ | with_reducible refine Gr.setCell ?_ ?_ _ | (with_reducible refine Gr.trans ?_ (by assumption)) | omega | (dsimp only; omega))⟩
  have hm := hb rfl
  clear hb hF2
  go_wp2_with fail
  have hpl := place_le key l
  rw [H.out.len] at hpl
  have hcut := Lib.hid (fun w1 (hg : Gr w w1) => cut_any oa n cap l key w1 (H.out.keep hg) (by omega) (key_max hk))
  have hfind := Lib.hid (fun w1 (hg : Gr w w1) => refFind_any oa n cap l key w1 (H.out.keep hg) (key_max hk))
  generalize place key l = p at *
  generalize hasB key l = hasit at *
  refine (hcut.out _ (by repeat (first | with_reducible exact Gr.refl _ | with_reducible refine Gr.drewN ?_ _ | with_reducible refine Gr.drew ?_ | with_reducible refine Gr.alloc ?_ _ | with_reducible refine Gr.setCell ?_ ?_ _ | (with_reducible refine Gr.trans ?_ (by assumption)) | omega | (dsimp only; omega)))).mono ?_
  clear hcut
  rintro e w2 ⟨o1, m1, c1, o2, m2, c2, rfl, hr1, hr2, hg2⟩
  have R1 := Lib.hid hr1
  have R2 := Lib.hid hr2
  clear hr1 hr2
  have t1 := run_head oa n cap p (by omega)
  have t2 := run_tail oa n cap p hpl
  go_wp2_with fail
  refine (hfind.out _ (by repeat (first | with_reducible exact Gr.refl _ | with_reducible refine Gr.drewN ?_ _ | with_reducible refine Gr.drew ?_ | with_reducible refine Gr.alloc ?_ _ | with_reducible refine Gr.setCell ?_ ?_ _ | (with_reducible refine Gr.trans ?_ (by assumption)) | omega | (dsimp only; omega)))).mono ?_
  rintro e w3 ⟨rfl, hg3⟩
  have hg3 := hg3.gr
  have hS := refSame_any o1 oa m1 c1 p cap _ _ w3 (R1.out.keep (by repeat (first | with_reducible exact Gr.refl _ | with_reducible refine Gr.drewN ?_ _ | with_reducible refine Gr.drew ?_ | with_reducible refine Gr.alloc ?_ _ | with_reducible refine Gr.setCell ?_ ?_ _ | (with_reducible refine Gr.trans ?_ (by assumption)) | omega | (dsimp only; omega)))) ((H.out.keep (by repeat (first | with_reducible exact Gr.refl _ | with_reducible refine Gr.drewN ?_ _ | with_reducible refine Gr.drew ?_ | with_reducible refine Gr.alloc ?_ _ | with_reducible refine Gr.setCell ?_ ?_ _ | (with_reducible refine Gr.trans ?_ (by assumption)) | omega | (dsimp only; omega)))).head hpl)
  rw [decide_eq_true rfl] at hS
  have hS := Lib.hid hS
  go_wp2_with fail
  refine hS.out.mono ?_
  rintro e w4 ⟨rfl, hg4⟩
  have hg4 := hg4.gr
  have hS2 := refSame_any o2 (tailA oa p cap) m2 c2 (n - p) (cap - p) _ _ w4 (R2.out.keep (by repeat (first | with_reducible exact Gr.refl _ | with_reducible refine Gr.drewN ?_ _ | with_reducible refine Gr.drew ?_ | with_reducible refine Gr.alloc ?_ _ | with_reducible refine Gr.setCell ?_ ?_ _ | (with_reducible refine Gr.trans ?_ (by assumption)) | omega | (dsimp only; omega)))) ((H.out.keep (by repeat (first | with_reducible exact Gr.refl _ | with_reducible refine Gr.drewN ?_ _ | with_reducible refine Gr.drew ?_ | with_reducible refine Gr.alloc ?_ _ | with_reducible refine Gr.setCell ?_ ?_ _ | (with_reducible refine Gr.trans ?_ (by assumption)) | omega | (dsimp only; omega)))).tail hpl)
  rw [decide_eq_true rfl] at hS2
  have hS2 := Lib.hid hS2
  go_wp2_with fail
  refine hS2.out.mono ?_
  rintro e w7 ⟨rfl, hg7⟩
  have hg7 := hg7.gr
  have hG7 : Gr w w7 := by repeat (first | with_reducible exact Gr.refl _ | with_reducible refine Gr.drewN ?_ _ | with_reducible refine Gr.drew ?_ | with_reducible refine Gr.alloc ?_ _ | with_reducible refine Gr.setCell ?_ ?_ _ | (with_reducible refine Gr.trans ?_ (by assumption)) | omega | (dsimp only; omega))
  clear hS hS2 hg7 hg4 hg3 hg2 t1 t2 hfind R1 R2
  go_wp2_with fail
  refine (halve_no oa n cap (n / 2) l w7 (H.out.keep (by repeat (first | with_reducible exact Gr.refl _ | with_reducible refine Gr.drewN ?_ _ | with_reducible refine Gr.drew ?_ | with_reducible refine Gr.alloc ?_ _ | with_reducible refine Gr.setCell ?_ ?_ _ | (with_reducible refine Gr.trans ?_ (by assumption)) | omega | (dsimp only; omega)))) hq (by omega) rfl (by omega)).mono ?_
  rintro e w8 ⟨rfl, hg8⟩
  go_wp2_with fail
  refine (refHalve_no oa n cap (n / 2) l w8 (H.out.keep (by repeat (first | with_reducible exact Gr.refl _ | with_reducible refine Gr.drewN ?_ _ | with_reducible refine Gr.drew ?_ | with_reducible refine Gr.alloc ?_ _ | with_reducible refine Gr.setCell ?_ ?_ _ | (with_reducible refine Gr.trans ?_ (by assumption)) | omega | (dsimp only; omega)))) hq (by omega) rfl hc2).mono ?_
  rintro e w9 ⟨rfl, hg9⟩
  clear hc hc2
  go_wp2_with fail
  refine (join_no oa ob n cap m cap2 l k _ (H.out.keep (by repeat (first | with_reducible exact Gr.refl _ | with_reducible refine Gr.drewN ?_ _ | with_reducible refine Gr.drew ?_ | with_reducible refine Gr.alloc ?_ _ | with_reducible refine Gr.setCell ?_ ?_ _ | (with_reducible refine Gr.trans ?_ (by assumption)) | omega | (dsimp only; omega)))) (H2.out.keep (by repeat (first | with_reducible exact Gr.refl _ | with_reducible refine Gr.drewN ?_ _ | with_reducible refine Gr.drew ?_ | with_reducible refine Gr.alloc ?_ _ | with_reducible refine Gr.setCell ?_ ?_ _ | (with_reducible refine Gr.trans ?_ (by assumption)) | omega | (dsimp only; omega)))) (by omega) (by omega) hj1 hj2 hj).mono ?_
  rintro e w20 ⟨rfl, hg20⟩
  have d1 : decide (0 < n) = true := by simp; omega
  have d2 : decide (0 < m) = true := by simp; omega
  have d3 : decide (0 ≤ Str.cmp (Tx (kAt l (n - 1))) (Tx (kAt k 0))) = true := by simp; omega
  have hhl := H.out.keep (show Gr w w20 by (repeat (first | with_reducible exact Gr.refl _ | with_reducible refine Gr.drewN ?_ _ | with_reducible refine Gr.drew ?_ | with_reducible refine Gr.alloc ?_ _ | with_reducible refine Gr.setCell ?_ ?_ _ | (with_reducible refine Gr.trans ?_ (by assumption)) | omega | (dsimp only; omega))))
  have hhk := H2.out.keep (show Gr w w20 by (repeat (first | with_reducible exact Gr.refl _ | with_reducible refine Gr.drewN ?_ _ | with_reducible refine Gr.drew ?_ | with_reducible refine Gr.alloc ?_ _ | with_reducible refine Gr.setCell ?_ ?_ _ | (with_reducible refine Gr.trans ?_ (by assumption)) | omega | (dsimp only; omega))))
  obtain ⟨b1, off1, ho1, hc1⟩ := hhl.cells
  have Hc1 := Lib.hid hc1
  have Ho1 := Lib.hid (fun q => (ho1 q).1)
  have H1 := Lib.hid hhl
  have hn1 := hhl.cap_le
  have hm1 := hhl.cap_max
  unfold maxLen at hm1
  clear hc1 ho1 hhl
  obtain ⟨b2, off2, ho2, hc2⟩ := hhk.cells
  have Hc2 := Lib.hid hc2
  have Ho2 := Lib.hid (fun q => (ho2 q).1)
  have H2 := Lib.hid hhk
  have hn2 := hhk.cap_le
  have hm2 := hhk.cap_max
  unfold maxLen at hm2
  clear hc2 ho2 hhk
  have a1 := (Hc1.out (n - 1) (by omega)).1
  have a2 := (Hc2.out 0 (by omega)).1
  have s1 := (H.out.sizes (n - 1) (by omega)).1
  have s2 := (H2.out.sizes 0 (by omega)).1
  have hI1 := fun w => run_rowI cap Ho1.out (k := (n : Int) - 1) (by omega) (by omega) w
  have e1 : ((n : Int) - 1).toNat = n - 1 := by omega
  rw [e1] at hI1
  have hI2 := run_row0 cap2 Ho2.out (by omega)
  rw [Nat.zero_mul, Nat.add_zero] at a2
  go_wp2_with fail
  go_big_quiet ((go_at_call 18; (first | (with_reducible exact quiet_dr1 (compare_any _ _ _ (by assumption) (by assumption))) | (with_reducible exact quiet_dr0 (compare_any _ _ _ (by assumption) (by assumption))))))
  go_wp2_with (first | (go_at_call 31; (with_reducible refine (is_same _ _).mono ?_); rintro e w' ⟨rfl, rfl⟩) | (go_at_call 13; refine (awake_any _).mono ?_; rintro e w24 ⟨rfl, hg24⟩))
  go_ret
  exact ⟨rfl, by repeat (first | with_reducible exact Gr.refl _ | with_reducible refine Gr.drewN ?_ _ | with_reducible refine Gr.drew ?_ | with_reducible refine Gr.alloc ?_ _ | with_reducible refine Gr.setCell ?_ ?_ _ | (with_reducible refine Gr.trans ?_ (by assumption)) | omega | (dsimp only; omega))⟩

set_option maxRecDepth 100000 in
set_option maxHeartbeats 4000000 in
theorem parts_yes_e2 (oa ob : Option Addr) (n cap m cap2 : Nat) (l k : List Rw) (key : ByteArray) (w : World) (h : RowsAt w oa n cap l) (h2 : RowsAt w ob m cap2 k) (hk : key.size ≤ 100) (hq : 2 ≤ n) (hc : Str.cmp (Tx (kAt l (n / 2 - 1))) (Tx (kAt l (n / 2))) < 0) (hj1 : 0 < n) (hj : m = 0) :
    Calls Try.prog 9 #[.slice oa n cap, .slice ob m cap2, .string key] w fun e w' => e = .returned (.bool true) ∧ Gr w w' := by
  have hF := Lib.hid (few_any oa n cap l w h)
  have hF2 := Lib.hid (fun w1 (hg : Gr w w1) => few_any ob m cap2 k w1 (h2.keep hg))
  have H := Lib.hid h
  have H2 := Lib.hid h2
  have hcap := h.cap_le
  have hcap2 := h2.cap_le
  clear h h2
  have hc2 := Str.cmp_neg_iff.1 hc
  have d1 : decide (0 < n) = true := by simp; omega
  have d2 : decide (0 < m) = false := by simp; omega
  have Hj := Lib.hid hj
  clear hj
  go_enter Try.func9, Try.ntmps9
  go_wp2_with fail
  refine hF.out.mono ?_
  rintro e w1 ⟨⟨b, rfl, hb⟩, d, rfl⟩
  cases b
  · clear hF hF2
    go_wp2_with fail
    refine (awake_any _).mono ?_
    rintro e w2 ⟨rfl, hg2⟩
    go_wp2_with fail
    go_ret
    exact ⟨rfl, by repeat (first | with_reducible exact Gr.refl _ | with_reducible refine Gr.drewN ?_ _ | with_reducible refine Gr.drew ?_ | with_reducible refine Gr.alloc ?_ _ | with_reducible refine Gr.setCell ?_ ?_ _ | (with_reducible refine Gr.trans ?_ (by assumption)) | omega | (dsimp only; omega))⟩
  have hn := hb rfl
  clear hb hF
  go_wp2_with fail
  refine (hF2.out _ (by repeat (first | with_reducible exact Gr.refl _ | with_reducible refine Gr.drewN ?_ _ | with_reducible refine Gr.drew ?_ | with_reducible refine Gr.alloc ?_ _ | with_reducible refine Gr.setCell ?_ ?_ _ | (with_reducible refine Gr.trans ?_ (by assumption)) | omega | (dsimp only; omega)))).mono ?_
  rintro e w1 ⟨⟨b, rfl, hb⟩, d2, rfl⟩
  cases b
  · clear hF2
    go_wp2_with fail
    refine (awake_any _).mono ?_
    rintro e w2 ⟨rfl, hg2⟩
    go_wp2_with fail
    go_ret
    exact ⟨rfl, by repeat (first | with_reducible exact Gr.refl _ | with_reducible refine Gr.drewN ?_ _ | with_reducible refine Gr.drew ?_ | with_reducible refine Gr.alloc ?_ _ | with_reducible refine Gr.setCell ?_ ?_ _ | (with_reducible refine Gr.trans ?_ (by assumption)) | omega | (dsimp only; omega))⟩
  have hm := hb rfl
  clear hb hF2
  go_wp2_with fail
  have hpl := place_le key l
  rw [H.out.len] at hpl
  have hcut := Lib.hid (fun w1 (hg : Gr w w1) => cut_any oa n cap l key w1 (H.out.keep hg) (by omega) (key_max hk))
  have hfind := Lib.hid (fun w1 (hg : Gr w w1) => refFind_any oa n cap l key w1 (H.out.keep hg) (key_max hk))
  generalize place key l = p at *
  generalize hasB key l = hasit at *
  refine (hcut.out _ (by repeat (first | with_reducible exact Gr.refl _ | with_reducible refine Gr.drewN ?_ _ | with_reducible refine Gr.drew ?_ | with_reducible refine Gr.alloc ?_ _ | with_reducible refine Gr.setCell ?_ ?_ _ | (with_reducible refine Gr.trans ?_ (by assumption)) | omega | (dsimp only; omega)))).mono ?_
  clear hcut
  rintro e w2 ⟨o1, m1, c1, o2, m2, c2, rfl, hr1, hr2, hg2⟩
  have R1 := Lib.hid hr1
  have R2 := Lib.hid hr2
  clear hr1 hr2
  have t1 := run_head oa n cap p (by omega)
  have t2 := run_tail oa n cap p hpl
  go_wp2_with fail
  refine (hfind.out _ (by repeat (first | with_reducible exact Gr.refl _ | with_reducible refine Gr.drewN ?_ _ | with_reducible refine Gr.drew ?_ | with_reducible refine Gr.alloc ?_ _ | with_reducible refine Gr.setCell ?_ ?_ _ | (with_reducible refine Gr.trans ?_ (by assumption)) | omega | (dsimp only; omega)))).mono ?_
  rintro e w3 ⟨rfl, hg3⟩
  have hg3 := hg3.gr
  have hS := refSame_any o1 oa m1 c1 p cap _ _ w3 (R1.out.keep (by repeat (first | with_reducible exact Gr.refl _ | with_reducible refine Gr.drewN ?_ _ | with_reducible refine Gr.drew ?_ | with_reducible refine Gr.alloc ?_ _ | with_reducible refine Gr.setCell ?_ ?_ _ | (with_reducible refine Gr.trans ?_ (by assumption)) | omega | (dsimp only; omega)))) ((H.out.keep (by repeat (first | with_reducible exact Gr.refl _ | with_reducible refine Gr.drewN ?_ _ | with_reducible refine Gr.drew ?_ | with_reducible refine Gr.alloc ?_ _ | with_reducible refine Gr.setCell ?_ ?_ _ | (with_reducible refine Gr.trans ?_ (by assumption)) | omega | (dsimp only; omega)))).head hpl)
  rw [decide_eq_true rfl] at hS
  have hS := Lib.hid hS
  go_wp2_with fail
  refine hS.out.mono ?_
  rintro e w4 ⟨rfl, hg4⟩
  have hg4 := hg4.gr
  have hS2 := refSame_any o2 (tailA oa p cap) m2 c2 (n - p) (cap - p) _ _ w4 (R2.out.keep (by repeat (first | with_reducible exact Gr.refl _ | with_reducible refine Gr.drewN ?_ _ | with_reducible refine Gr.drew ?_ | with_reducible refine Gr.alloc ?_ _ | with_reducible refine Gr.setCell ?_ ?_ _ | (with_reducible refine Gr.trans ?_ (by assumption)) | omega | (dsimp only; omega)))) ((H.out.keep (by repeat (first | with_reducible exact Gr.refl _ | with_reducible refine Gr.drewN ?_ _ | with_reducible refine Gr.drew ?_ | with_reducible refine Gr.alloc ?_ _ | with_reducible refine Gr.setCell ?_ ?_ _ | (with_reducible refine Gr.trans ?_ (by assumption)) | omega | (dsimp only; omega)))).tail hpl)
  rw [decide_eq_true rfl] at hS2
  have hS2 := Lib.hid hS2
  go_wp2_with fail
  refine hS2.out.mono ?_
  rintro e w7 ⟨rfl, hg7⟩
  have hg7 := hg7.gr
  have hG7 : Gr w w7 := by repeat (first | with_reducible exact Gr.refl _ | with_reducible refine Gr.drewN ?_ _ | with_reducible refine Gr.drew ?_ | with_reducible refine Gr.alloc ?_ _ | with_reducible refine Gr.setCell ?_ ?_ _ | (with_reducible refine Gr.trans ?_ (by assumption)) | omega | (dsimp only; omega))
  clear hS hS2 hg7 hg4 hg3 hg2 t1 t2 hfind R1 R2
  go_wp2_with fail
  refine (halve_yes oa n cap (n / 2) l w7 (H.out.keep (by repeat (first | with_reducible exact Gr.refl _ | with_reducible refine Gr.drewN ?_ _ | with_reducible refine Gr.drew ?_ | with_reducible refine Gr.alloc ?_ _ | with_reducible refine Gr.setCell ?_ ?_ _ | (with_reducible refine Gr.trans ?_ (by assumption)) | omega | (dsimp only; omega)))) hq (by omega) rfl hc).mono ?_
  rintro e w8 ⟨o4, m4, c4, o5, m5, c5, rfl, hr4, hr5, hg8⟩
  go_wp2_with fail
  refine (refHalve_yes oa n cap (n / 2) l w8 (H.out.keep (by repeat (first | with_reducible exact Gr.refl _ | with_reducible refine Gr.drewN ?_ _ | with_reducible refine Gr.drew ?_ | with_reducible refine Gr.alloc ?_ _ | with_reducible refine Gr.setCell ?_ ?_ _ | (with_reducible refine Gr.trans ?_ (by assumption)) | omega | (dsimp only; omega)))) hq (by omega) rfl hc2).mono ?_
  rintro e w9 ⟨rfl, hg9⟩
  have hX := refSame_any o4 oa m4 c4 (n / 2) cap _ _ w9 (hr4.keep (by repeat (first | with_reducible exact Gr.refl _ | with_reducible refine Gr.drewN ?_ _ | with_reducible refine Gr.drew ?_ | with_reducible refine Gr.alloc ?_ _ | with_reducible refine Gr.setCell ?_ ?_ _ | (with_reducible refine Gr.trans ?_ (by assumption)) | omega | (dsimp only; omega)))) ((H.out.keep (by repeat (first | with_reducible exact Gr.refl _ | with_reducible refine Gr.drewN ?_ _ | with_reducible refine Gr.drew ?_ | with_reducible refine Gr.alloc ?_ _ | with_reducible refine Gr.setCell ?_ ?_ _ | (with_reducible refine Gr.trans ?_ (by assumption)) | omega | (dsimp only; omega)))).head (by omega))
  rw [decide_eq_true rfl] at hX
  have hX := Lib.hid hX
  have hY := Lib.hid (fun w1 (hg : Gr w9 w1) => refSame_any o5 (tailA oa (n / 2) cap) m5 c5 (n - n / 2) (cap - n / 2) _ _ w1 (hr5.keep (by repeat (first | with_reducible exact Gr.refl _ | with_reducible refine Gr.drewN ?_ _ | with_reducible refine Gr.drew ?_ | with_reducible refine Gr.alloc ?_ _ | with_reducible refine Gr.setCell ?_ ?_ _ | (with_reducible refine Gr.trans ?_ (by assumption)) | omega | (dsimp only; omega)))) ((H.out.keep (by repeat (first | with_reducible exact Gr.refl _ | with_reducible refine Gr.drewN ?_ _ | with_reducible refine Gr.drew ?_ | with_reducible refine Gr.alloc ?_ _ | with_reducible refine Gr.setCell ?_ ?_ _ | (with_reducible refine Gr.trans ?_ (by assumption)) | omega | (dsimp only; omega)))).tail (by omega)))
  clear hr4 hr5 hc hc2
  go_wp2_with fail
  refine hX.out.mono ?_
  rintro e w10 ⟨rfl, hg10⟩
  have hg10 := hg10.gr
  have hY := hY.out w10 hg10
  (first | rw [decide_eq_true rfl] at hY | rw [decide_eq_true trivial] at hY | simp only [decide_true] at hY)
  have hY := Lib.hid hY
  go_wp2_with fail
  refine hY.out.mono ?_
  rintro e w9b ⟨rfl, hg11⟩
  have hg11 := hg11.gr
  have hg9 : Gr w8 w9b := (hg9.trans hg10).trans hg11
  clear hg10 hg11 hX hY
  go_wp2_with fail
  refine (join_e2 oa ob n cap m cap2 l k _ (H.out.keep (by repeat (first | with_reducible exact Gr.refl _ | with_reducible refine Gr.drewN ?_ _ | with_reducible refine Gr.drew ?_ | with_reducible refine Gr.alloc ?_ _ | with_reducible refine Gr.setCell ?_ ?_ _ | (with_reducible refine Gr.trans ?_ (by assumption)) | omega | (dsimp only; omega)))) (H2.out.keep (by repeat (first | with_reducible exact Gr.refl _ | with_reducible refine Gr.drewN ?_ _ | with_reducible refine Gr.drew ?_ | with_reducible refine Gr.alloc ?_ _ | with_reducible refine Gr.setCell ?_ ?_ _ | (with_reducible refine Gr.trans ?_ (by assumption)) | omega | (dsimp only; omega)))) (by omega) (by omega) hj1 Hj.out).mono ?_
  rintro e w20 ⟨o6, m6, c6, rfl, hr6, hg20⟩
  have hr6 := Lib.hid hr6
  go_wp2_with fail
  go_big_quiet (fail)
  have hown := Lib.hid (fun w1 (hg : Gr w w1) => own_any oa n cap l w1 (H.out.keep (by repeat (first | with_reducible exact Gr.refl _ | with_reducible refine Gr.drewN ?_ _ | with_reducible refine Gr.drew ?_ | with_reducible refine Gr.alloc ?_ _ | with_reducible refine Gr.setCell ?_ ?_ _ | (with_reducible refine Gr.trans ?_ (by assumption)) | omega | (dsimp only; omega)))) (by omega))
  go_wp2_with fail
  refine (hown.out _ (by repeat (first | with_reducible exact Gr.refl _ | with_reducible refine Gr.drewN ?_ _ | with_reducible refine Gr.drew ?_ | with_reducible refine Gr.alloc ?_ _ | with_reducible refine Gr.setCell ?_ ?_ _ | (with_reducible refine Gr.trans ?_ (by assumption)) | omega | (dsimp only; omega)))).mono ?_
  rintro e w21 ⟨o7, m7, c7, rfl, hr7, hg21, base, hb7, ho7⟩
  obtain rfl : n = m7 := by rw [← hr7.len, H.out.len]
  have O7 := Lib.hid (ho7.lower (show w20.heap.size ≤ base from hb7))
  have hb8 : w20.heap.size ≤ w21.heap.size := Gr.le (by repeat (first | with_reducible exact Gr.refl _ | with_reducible refine Gr.drewN ?_ _ | with_reducible refine Gr.drew ?_ | with_reducible refine Gr.alloc ?_ _ | with_reducible refine Gr.setCell ?_ ?_ _ | (with_reducible refine Gr.trans ?_ (by assumption)) | omega | (dsimp only; omega)))
  clear hr7 ho7
  go_wp2_with (at_builtin; refine wpList_rows_w (by rfl) _ _ rfl w20.heap.size hb8 rfl O7.out rfl (H2.out.keep (by repeat (first | with_reducible exact Gr.refl _ | with_reducible refine Gr.drewN ?_ _ | with_reducible refine Gr.drew ?_ | with_reducible refine Gr.alloc ?_ _ | with_reducible refine Gr.setCell ?_ ?_ _ | (with_reducible refine Gr.trans ?_ (by assumption)) | omega | (dsimp only; omega)))) (by omega) ?_; intro o8 c8 w22 ho8 hb9; have hg22 : Gr w20 w22 := grown_gr hb9 O7.out (by repeat (first | with_reducible exact Gr.refl _ | with_reducible refine Gr.drewN ?_ _ | with_reducible refine Gr.drew ?_ | with_reducible refine Gr.alloc ?_ _ | with_reducible refine Gr.setCell ?_ ?_ _ | (with_reducible refine Gr.trans ?_ (by assumption)) | omega | (dsimp only; omega))) (Nat.le_refl _))
  have hS9 := refSame_any o6 o8 m6 c6 (n + m) c8 _ _ w22 (hr6.out.keep (by repeat (first | with_reducible exact Gr.refl _ | with_reducible refine Gr.drewN ?_ _ | with_reducible refine Gr.drew ?_ | with_reducible refine Gr.alloc ?_ _ | with_reducible refine Gr.setCell ?_ ?_ _ | (with_reducible refine Gr.trans ?_ (by assumption)) | omega | (dsimp only; omega)))) ho8.rows
  rw [decide_eq_true rfl] at hS9
  have hS9 := Lib.hid hS9
  clear ho8
  refine hS9.out.mono ?_
  rintro e w23 ⟨rfl, hg23⟩
  have hg23 := hg23.gr
  go_wp2_with (go_at_call 13; refine (awake_any _).mono ?_; rintro e w24 ⟨rfl, hg24⟩)
  go_ret
  exact ⟨rfl, by repeat (first | with_reducible exact Gr.refl _ | with_reducible refine Gr.drewN ?_ _ | with_reducible refine Gr.drew ?_ | with_reducible refine Gr.alloc ?_ _ | with_reducible refine Gr.setCell ?_ ?_ _ | (with_reducible refine Gr.trans ?_ (by assumption)) | omega | (dsimp only; omega))⟩

set_option maxRecDepth 100000 in
set_option maxHeartbeats 4000000 in
theorem parts_yes_yes (oa ob : Option Addr) (n cap m cap2 : Nat) (l k : List Rw) (key : ByteArray) (w : World) (h : RowsAt w oa n cap l) (h2 : RowsAt w ob m cap2 k) (hk : key.size ≤ 100) (hq : 2 ≤ n) (hc : Str.cmp (Tx (kAt l (n / 2 - 1))) (Tx (kAt l (n / 2))) < 0) (hj1 : 0 < n) (hj2 : 0 < m) (hj : Str.cmp (Tx (kAt l (n - 1))) (Tx (kAt k 0)) < 0) :
    Calls Try.prog 9 #[.slice oa n cap, .slice ob m cap2, .string key] w fun e w' => e = .returned (.bool true) ∧ Gr w w' := by
  have hF := Lib.hid (few_any oa n cap l w h)
  have hF2 := Lib.hid (fun w1 (hg : Gr w w1) => few_any ob m cap2 k w1 (h2.keep hg))
  have H := Lib.hid h
  have H2 := Lib.hid h2
  have hcap := h.cap_le
  have hcap2 := h2.cap_le
  clear h h2
  have hc2 := Str.cmp_neg_iff.1 hc
  go_enter Try.func9, Try.ntmps9
  go_wp2_with fail
  refine hF.out.mono ?_
  rintro e w1 ⟨⟨b, rfl, hb⟩, d, rfl⟩
  cases b
  · clear hF hF2
    go_wp2_with fail
    refine (awake_any _).mono ?_
    rintro e w2 ⟨rfl, hg2⟩
    go_wp2_with fail
    go_ret
    exact ⟨rfl, by repeat (first | with_reducible exact Gr.refl _ | with_reducible refine Gr.drewN ?_ _ | with_reducible refine Gr.drew ?_ | with_reducible refine Gr.alloc ?_ _ | with_reducible refine Gr.setCell ?_ ?_ _ | (with_reducible refine Gr.trans ?_ (by assumption)) | omega | (dsimp only; omega))⟩
  have hn := hb rfl
  clear hb hF
  go_wp2_with fail
  refine (hF2.out _ (by repeat (first | with_reducible exact Gr.refl _ | with_reducible refine Gr.drewN ?_ _ | with_reducible refine Gr.drew ?_ | with_reducible refine Gr.alloc ?_ _ | with_reducible refine Gr.setCell ?_ ?_ _ | (with_reducible refine Gr.trans ?_ (by assumption)) | omega | (dsimp only; omega)))).mono ?_
  rintro e w1 ⟨⟨b, rfl, hb⟩, d2, rfl⟩
  cases b
  · clear hF2
    go_wp2_with fail
    refine (awake_any _).mono ?_
    rintro e w2 ⟨rfl, hg2⟩
    go_wp2_with fail
    go_ret
    exact ⟨rfl, by repeat (first | with_reducible exact Gr.refl _ | with_reducible refine Gr.drewN ?_ _ | with_reducible refine Gr.drew ?_ | with_reducible refine Gr.alloc ?_ _ | with_reducible refine Gr.setCell ?_ ?_ _ | (with_reducible refine Gr.trans ?_ (by assumption)) | omega | (dsimp only; omega))⟩
  have hm := hb rfl
  clear hb hF2
  go_wp2_with fail
  have hpl := place_le key l
  rw [H.out.len] at hpl
  have hcut := Lib.hid (fun w1 (hg : Gr w w1) => cut_any oa n cap l key w1 (H.out.keep hg) (by omega) (key_max hk))
  have hfind := Lib.hid (fun w1 (hg : Gr w w1) => refFind_any oa n cap l key w1 (H.out.keep hg) (key_max hk))
  generalize place key l = p at *
  generalize hasB key l = hasit at *
  refine (hcut.out _ (by repeat (first | with_reducible exact Gr.refl _ | with_reducible refine Gr.drewN ?_ _ | with_reducible refine Gr.drew ?_ | with_reducible refine Gr.alloc ?_ _ | with_reducible refine Gr.setCell ?_ ?_ _ | (with_reducible refine Gr.trans ?_ (by assumption)) | omega | (dsimp only; omega)))).mono ?_
  clear hcut
  rintro e w2 ⟨o1, m1, c1, o2, m2, c2, rfl, hr1, hr2, hg2⟩
  have R1 := Lib.hid hr1
  have R2 := Lib.hid hr2
  clear hr1 hr2
  have t1 := run_head oa n cap p (by omega)
  have t2 := run_tail oa n cap p hpl
  go_wp2_with fail
  refine (hfind.out _ (by repeat (first | with_reducible exact Gr.refl _ | with_reducible refine Gr.drewN ?_ _ | with_reducible refine Gr.drew ?_ | with_reducible refine Gr.alloc ?_ _ | with_reducible refine Gr.setCell ?_ ?_ _ | (with_reducible refine Gr.trans ?_ (by assumption)) | omega | (dsimp only; omega)))).mono ?_
  rintro e w3 ⟨rfl, hg3⟩
  have hg3 := hg3.gr
  have hS := refSame_any o1 oa m1 c1 p cap _ _ w3 (R1.out.keep (by repeat (first | with_reducible exact Gr.refl _ | with_reducible refine Gr.drewN ?_ _ | with_reducible refine Gr.drew ?_ | with_reducible refine Gr.alloc ?_ _ | with_reducible refine Gr.setCell ?_ ?_ _ | (with_reducible refine Gr.trans ?_ (by assumption)) | omega | (dsimp only; omega)))) ((H.out.keep (by repeat (first | with_reducible exact Gr.refl _ | with_reducible refine Gr.drewN ?_ _ | with_reducible refine Gr.drew ?_ | with_reducible refine Gr.alloc ?_ _ | with_reducible refine Gr.setCell ?_ ?_ _ | (with_reducible refine Gr.trans ?_ (by assumption)) | omega | (dsimp only; omega)))).head hpl)
  rw [decide_eq_true rfl] at hS
  have hS := Lib.hid hS
  go_wp2_with fail
  refine hS.out.mono ?_
  rintro e w4 ⟨rfl, hg4⟩
  have hg4 := hg4.gr
  have hS2 := refSame_any o2 (tailA oa p cap) m2 c2 (n - p) (cap - p) _ _ w4 (R2.out.keep (by repeat (first | with_reducible exact Gr.refl _ | with_reducible refine Gr.drewN ?_ _ | with_reducible refine Gr.drew ?_ | with_reducible refine Gr.alloc ?_ _ | with_reducible refine Gr.setCell ?_ ?_ _ | (with_reducible refine Gr.trans ?_ (by assumption)) | omega | (dsimp only; omega)))) ((H.out.keep (by repeat (first | with_reducible exact Gr.refl _ | with_reducible refine Gr.drewN ?_ _ | with_reducible refine Gr.drew ?_ | with_reducible refine Gr.alloc ?_ _ | with_reducible refine Gr.setCell ?_ ?_ _ | (with_reducible refine Gr.trans ?_ (by assumption)) | omega | (dsimp only; omega)))).tail hpl)
  rw [decide_eq_true rfl] at hS2
  have hS2 := Lib.hid hS2
  go_wp2_with fail
  refine hS2.out.mono ?_
  rintro e w7 ⟨rfl, hg7⟩
  have hg7 := hg7.gr
  have hG7 : Gr w w7 := by repeat (first | with_reducible exact Gr.refl _ | with_reducible refine Gr.drewN ?_ _ | with_reducible refine Gr.drew ?_ | with_reducible refine Gr.alloc ?_ _ | with_reducible refine Gr.setCell ?_ ?_ _ | (with_reducible refine Gr.trans ?_ (by assumption)) | omega | (dsimp only; omega))
  clear hS hS2 hg7 hg4 hg3 hg2 t1 t2 hfind R1 R2
  go_wp2_with fail
  refine (halve_yes oa n cap (n / 2) l w7 (H.out.keep (by repeat (first | with_reducible exact Gr.refl _ | with_reducible refine Gr.drewN ?_ _ | with_reducible refine Gr.drew ?_ | with_reducible refine Gr.alloc ?_ _ | with_reducible refine Gr.setCell ?_ ?_ _ | (with_reducible refine Gr.trans ?_ (by assumption)) | omega | (dsimp only; omega)))) hq (by omega) rfl hc).mono ?_
  rintro e w8 ⟨o4, m4, c4, o5, m5, c5, rfl, hr4, hr5, hg8⟩
  go_wp2_with fail
  refine (refHalve_yes oa n cap (n / 2) l w8 (H.out.keep (by repeat (first | with_reducible exact Gr.refl _ | with_reducible refine Gr.drewN ?_ _ | with_reducible refine Gr.drew ?_ | with_reducible refine Gr.alloc ?_ _ | with_reducible refine Gr.setCell ?_ ?_ _ | (with_reducible refine Gr.trans ?_ (by assumption)) | omega | (dsimp only; omega)))) hq (by omega) rfl hc2).mono ?_
  rintro e w9 ⟨rfl, hg9⟩
  have hX := refSame_any o4 oa m4 c4 (n / 2) cap _ _ w9 (hr4.keep (by repeat (first | with_reducible exact Gr.refl _ | with_reducible refine Gr.drewN ?_ _ | with_reducible refine Gr.drew ?_ | with_reducible refine Gr.alloc ?_ _ | with_reducible refine Gr.setCell ?_ ?_ _ | (with_reducible refine Gr.trans ?_ (by assumption)) | omega | (dsimp only; omega)))) ((H.out.keep (by repeat (first | with_reducible exact Gr.refl _ | with_reducible refine Gr.drewN ?_ _ | with_reducible refine Gr.drew ?_ | with_reducible refine Gr.alloc ?_ _ | with_reducible refine Gr.setCell ?_ ?_ _ | (with_reducible refine Gr.trans ?_ (by assumption)) | omega | (dsimp only; omega)))).head (by omega))
  rw [decide_eq_true rfl] at hX
  have hX := Lib.hid hX
  have hY := Lib.hid (fun w1 (hg : Gr w9 w1) => refSame_any o5 (tailA oa (n / 2) cap) m5 c5 (n - n / 2) (cap - n / 2) _ _ w1 (hr5.keep (by repeat (first | with_reducible exact Gr.refl _ | with_reducible refine Gr.drewN ?_ _ | with_reducible refine Gr.drew ?_ | with_reducible refine Gr.alloc ?_ _ | with_reducible refine Gr.setCell ?_ ?_ _ | (with_reducible refine Gr.trans ?_ (by assumption)) | omega | (dsimp only; omega)))) ((H.out.keep (by repeat (first | with_reducible exact Gr.refl _ | with_reducible refine Gr.drewN ?_ _ | with_reducible refine Gr.drew ?_ | with_reducible refine Gr.alloc ?_ _ | with_reducible refine Gr.setCell ?_ ?_ _ | (with_reducible refine Gr.trans ?_ (by assumption)) | omega | (dsimp only; omega)))).tail (by omega)))
  clear hr4 hr5 hc hc2
  go_wp2_with fail
  refine hX.out.mono ?_
  rintro e w10 ⟨rfl, hg10⟩
  have hg10 := hg10.gr
  have hY := hY.out w10 hg10
  (first | rw [decide_eq_true rfl] at hY | rw [decide_eq_true trivial] at hY | simp only [decide_true] at hY)
  have hY := Lib.hid hY
  go_wp2_with fail
  refine hY.out.mono ?_
  rintro e w9b ⟨rfl, hg11⟩
  have hg11 := hg11.gr
  have hg9 : Gr w8 w9b := (hg9.trans hg10).trans hg11
  clear hg10 hg11 hX hY
  go_wp2_with fail
  refine (join_yes oa ob n cap m cap2 l k _ (H.out.keep (by repeat (first | with_reducible exact Gr.refl _ | with_reducible refine Gr.drewN ?_ _ | with_reducible refine Gr.drew ?_ | with_reducible refine Gr.alloc ?_ _ | with_reducible refine Gr.setCell ?_ ?_ _ | (with_reducible refine Gr.trans ?_ (by assumption)) | omega | (dsimp only; omega)))) (H2.out.keep (by repeat (first | with_reducible exact Gr.refl _ | with_reducible refine Gr.drewN ?_ _ | with_reducible refine Gr.drew ?_ | with_reducible refine Gr.alloc ?_ _ | with_reducible refine Gr.setCell ?_ ?_ _ | (with_reducible refine Gr.trans ?_ (by assumption)) | omega | (dsimp only; omega)))) (by omega) (by omega) hj1 hj2 hj).mono ?_
  rintro e w20 ⟨o6, m6, c6, rfl, hr6, hg20⟩
  have hr6 := Lib.hid hr6
  have d1 : decide (0 < n) = true := by simp; omega
  have d2 : decide (0 < m) = true := by simp; omega
  have d3 : decide (0 ≤ Str.cmp (Tx (kAt l (n - 1))) (Tx (kAt k 0))) = false := by simp; omega
  have hhl := H.out.keep (show Gr w w20 by (repeat (first | with_reducible exact Gr.refl _ | with_reducible refine Gr.drewN ?_ _ | with_reducible refine Gr.drew ?_ | with_reducible refine Gr.alloc ?_ _ | with_reducible refine Gr.setCell ?_ ?_ _ | (with_reducible refine Gr.trans ?_ (by assumption)) | omega | (dsimp only; omega))))
  have hhk := H2.out.keep (show Gr w w20 by (repeat (first | with_reducible exact Gr.refl _ | with_reducible refine Gr.drewN ?_ _ | with_reducible refine Gr.drew ?_ | with_reducible refine Gr.alloc ?_ _ | with_reducible refine Gr.setCell ?_ ?_ _ | (with_reducible refine Gr.trans ?_ (by assumption)) | omega | (dsimp only; omega))))
  obtain ⟨b1, off1, ho1, hc1⟩ := hhl.cells
  have Hc1 := Lib.hid hc1
  have Ho1 := Lib.hid (fun q => (ho1 q).1)
  have H1 := Lib.hid hhl
  have hn1 := hhl.cap_le
  have hm1 := hhl.cap_max
  unfold maxLen at hm1
  clear hc1 ho1 hhl
  obtain ⟨b2, off2, ho2, hc2⟩ := hhk.cells
  have Hc2 := Lib.hid hc2
  have Ho2 := Lib.hid (fun q => (ho2 q).1)
  have H2 := Lib.hid hhk
  have hn2 := hhk.cap_le
  have hm2 := hhk.cap_max
  unfold maxLen at hm2
  clear hc2 ho2 hhk
  have a1 := (Hc1.out (n - 1) (by omega)).1
  have a2 := (Hc2.out 0 (by omega)).1
  have s1 := (H.out.sizes (n - 1) (by omega)).1
  have s2 := (H2.out.sizes 0 (by omega)).1
  have hI1 := fun w => run_rowI cap Ho1.out (k := (n : Int) - 1) (by omega) (by omega) w
  have e1 : ((n : Int) - 1).toNat = n - 1 := by omega
  rw [e1] at hI1
  have hI2 := run_row0 cap2 Ho2.out (by omega)
  rw [Nat.zero_mul, Nat.add_zero] at a2
  go_wp2_with fail
  go_big_quiet ((go_at_call 18; (first | (with_reducible exact quiet_dr1 (compare_any _ _ _ (by assumption) (by assumption))) | (with_reducible exact quiet_dr0 (compare_any _ _ _ (by assumption) (by assumption))))))
  have hown := Lib.hid (fun w1 (hg : Gr w w1) => own_any oa n cap l w1 (H.out.keep (by repeat (first | with_reducible exact Gr.refl _ | with_reducible refine Gr.drewN ?_ _ | with_reducible refine Gr.drew ?_ | with_reducible refine Gr.alloc ?_ _ | with_reducible refine Gr.setCell ?_ ?_ _ | (with_reducible refine Gr.trans ?_ (by assumption)) | omega | (dsimp only; omega)))) (by omega))
  go_wp2_with fail
  refine (hown.out _ (by repeat (first | with_reducible exact Gr.refl _ | with_reducible refine Gr.drewN ?_ _ | with_reducible refine Gr.drew ?_ | with_reducible refine Gr.alloc ?_ _ | with_reducible refine Gr.setCell ?_ ?_ _ | (with_reducible refine Gr.trans ?_ (by assumption)) | omega | (dsimp only; omega)))).mono ?_
  rintro e w21 ⟨o7, m7, c7, rfl, hr7, hg21, base, hb7, ho7⟩
  obtain rfl : n = m7 := by rw [← hr7.len, H.out.len]
  have O7 := Lib.hid (ho7.lower (show w20.heap.size ≤ base from hb7))
  have hb8 : w20.heap.size ≤ w21.heap.size := Gr.le (by repeat (first | with_reducible exact Gr.refl _ | with_reducible refine Gr.drewN ?_ _ | with_reducible refine Gr.drew ?_ | with_reducible refine Gr.alloc ?_ _ | with_reducible refine Gr.setCell ?_ ?_ _ | (with_reducible refine Gr.trans ?_ (by assumption)) | omega | (dsimp only; omega)))
  clear hr7 ho7
  go_wp2_with (at_builtin; refine wpList_rows_w (by rfl) _ _ rfl w20.heap.size hb8 rfl O7.out rfl (H2.out.keep (by repeat (first | with_reducible exact Gr.refl _ | with_reducible refine Gr.drewN ?_ _ | with_reducible refine Gr.drew ?_ | with_reducible refine Gr.alloc ?_ _ | with_reducible refine Gr.setCell ?_ ?_ _ | (with_reducible refine Gr.trans ?_ (by assumption)) | omega | (dsimp only; omega)))) (by omega) ?_; intro o8 c8 w22 ho8 hb9; have hg22 : Gr w20 w22 := grown_gr hb9 O7.out (by repeat (first | with_reducible exact Gr.refl _ | with_reducible refine Gr.drewN ?_ _ | with_reducible refine Gr.drew ?_ | with_reducible refine Gr.alloc ?_ _ | with_reducible refine Gr.setCell ?_ ?_ _ | (with_reducible refine Gr.trans ?_ (by assumption)) | omega | (dsimp only; omega))) (Nat.le_refl _))
  have hS9 := refSame_any o6 o8 m6 c6 (n + m) c8 _ _ w22 (hr6.out.keep (by repeat (first | with_reducible exact Gr.refl _ | with_reducible refine Gr.drewN ?_ _ | with_reducible refine Gr.drew ?_ | with_reducible refine Gr.alloc ?_ _ | with_reducible refine Gr.setCell ?_ ?_ _ | (with_reducible refine Gr.trans ?_ (by assumption)) | omega | (dsimp only; omega)))) ho8.rows
  rw [decide_eq_true rfl] at hS9
  have hS9 := Lib.hid hS9
  clear ho8
  refine hS9.out.mono ?_
  rintro e w23 ⟨rfl, hg23⟩
  have hg23 := hg23.gr
  go_wp2_with (go_at_call 13; refine (awake_any _).mono ?_; rintro e w24 ⟨rfl, hg24⟩)
  go_ret
  exact ⟨rfl, by repeat (first | with_reducible exact Gr.refl _ | with_reducible refine Gr.drewN ?_ _ | with_reducible refine Gr.drew ?_ | with_reducible refine Gr.alloc ?_ _ | with_reducible refine Gr.setCell ?_ ?_ _ | (with_reducible refine Gr.trans ?_ (by assumption)) | omega | (dsimp only; omega))⟩

set_option maxRecDepth 100000 in
set_option maxHeartbeats 4000000 in
theorem parts_yes_no (oa ob : Option Addr) (n cap m cap2 : Nat) (l k : List Rw) (key : ByteArray) (w : World) (h : RowsAt w oa n cap l) (h2 : RowsAt w ob m cap2 k) (hk : key.size ≤ 100) (hq : 2 ≤ n) (hc : Str.cmp (Tx (kAt l (n / 2 - 1))) (Tx (kAt l (n / 2))) < 0) (hj1 : 0 < n) (hj2 : 0 < m) (hj : 0 ≤ Str.cmp (Tx (kAt l (n - 1))) (Tx (kAt k 0))) :
    Calls Try.prog 9 #[.slice oa n cap, .slice ob m cap2, .string key] w fun e w' => e = .returned (.bool true) ∧ Gr w w' := by
  have hF := Lib.hid (few_any oa n cap l w h)
  have hF2 := Lib.hid (fun w1 (hg : Gr w w1) => few_any ob m cap2 k w1 (h2.keep hg))
  have H := Lib.hid h
  have H2 := Lib.hid h2
  have hcap := h.cap_le
  have hcap2 := h2.cap_le
  clear h h2
  have hc2 := Str.cmp_neg_iff.1 hc
  go_enter Try.func9, Try.ntmps9
  go_wp2_with fail
  refine hF.out.mono ?_
  rintro e w1 ⟨⟨b, rfl, hb⟩, d, rfl⟩
  cases b
  · clear hF hF2
    go_wp2_with fail
    refine (awake_any _).mono ?_
    rintro e w2 ⟨rfl, hg2⟩
    go_wp2_with fail
    go_ret
    exact ⟨rfl, by repeat (first | with_reducible exact Gr.refl _ | with_reducible refine Gr.drewN ?_ _ | with_reducible refine Gr.drew ?_ | with_reducible refine Gr.alloc ?_ _ | with_reducible refine Gr.setCell ?_ ?_ _ | (with_reducible refine Gr.trans ?_ (by assumption)) | omega | (dsimp only; omega))⟩
  have hn := hb rfl
  clear hb hF
  go_wp2_with fail
  refine (hF2.out _ (by repeat (first | with_reducible exact Gr.refl _ | with_reducible refine Gr.drewN ?_ _ | with_reducible refine Gr.drew ?_ | with_reducible refine Gr.alloc ?_ _ | with_reducible refine Gr.setCell ?_ ?_ _ | (with_reducible refine Gr.trans ?_ (by assumption)) | omega | (dsimp only; omega)))).mono ?_
  rintro e w1 ⟨⟨b, rfl, hb⟩, d2, rfl⟩
  cases b
  · clear hF2
    go_wp2_with fail
    refine (awake_any _).mono ?_
    rintro e w2 ⟨rfl, hg2⟩
    go_wp2_with fail
    go_ret
    exact ⟨rfl, by repeat (first | with_reducible exact Gr.refl _ | with_reducible refine Gr.drewN ?_ _ | with_reducible refine Gr.drew ?_ | with_reducible refine Gr.alloc ?_ _ | with_reducible refine Gr.setCell ?_ ?_ _ | (with_reducible refine Gr.trans ?_ (by assumption)) | omega | (dsimp only; omega))⟩
  have hm := hb rfl
  clear hb hF2
  go_wp2_with fail
  have hpl := place_le key l
  rw [H.out.len] at hpl
  have hcut := Lib.hid (fun w1 (hg : Gr w w1) => cut_any oa n cap l key w1 (H.out.keep hg) (by omega) (key_max hk))
  have hfind := Lib.hid (fun w1 (hg : Gr w w1) => refFind_any oa n cap l key w1 (H.out.keep hg) (key_max hk))
  generalize place key l = p at *
  generalize hasB key l = hasit at *
  refine (hcut.out _ (by repeat (first | with_reducible exact Gr.refl _ | with_reducible refine Gr.drewN ?_ _ | with_reducible refine Gr.drew ?_ | with_reducible refine Gr.alloc ?_ _ | with_reducible refine Gr.setCell ?_ ?_ _ | (with_reducible refine Gr.trans ?_ (by assumption)) | omega | (dsimp only; omega)))).mono ?_
  clear hcut
  rintro e w2 ⟨o1, m1, c1, o2, m2, c2, rfl, hr1, hr2, hg2⟩
  have R1 := Lib.hid hr1
  have R2 := Lib.hid hr2
  clear hr1 hr2
  have t1 := run_head oa n cap p (by omega)
  have t2 := run_tail oa n cap p hpl
  go_wp2_with fail
  refine (hfind.out _ (by repeat (first | with_reducible exact Gr.refl _ | with_reducible refine Gr.drewN ?_ _ | with_reducible refine Gr.drew ?_ | with_reducible refine Gr.alloc ?_ _ | with_reducible refine Gr.setCell ?_ ?_ _ | (with_reducible refine Gr.trans ?_ (by assumption)) | omega | (dsimp only; omega)))).mono ?_
  rintro e w3 ⟨rfl, hg3⟩
  have hg3 := hg3.gr
  have hS := refSame_any o1 oa m1 c1 p cap _ _ w3 (R1.out.keep (by repeat (first | with_reducible exact Gr.refl _ | with_reducible refine Gr.drewN ?_ _ | with_reducible refine Gr.drew ?_ | with_reducible refine Gr.alloc ?_ _ | with_reducible refine Gr.setCell ?_ ?_ _ | (with_reducible refine Gr.trans ?_ (by assumption)) | omega | (dsimp only; omega)))) ((H.out.keep (by repeat (first | with_reducible exact Gr.refl _ | with_reducible refine Gr.drewN ?_ _ | with_reducible refine Gr.drew ?_ | with_reducible refine Gr.alloc ?_ _ | with_reducible refine Gr.setCell ?_ ?_ _ | (with_reducible refine Gr.trans ?_ (by assumption)) | omega | (dsimp only; omega)))).head hpl)
  rw [decide_eq_true rfl] at hS
  have hS := Lib.hid hS
  go_wp2_with fail
  refine hS.out.mono ?_
  rintro e w4 ⟨rfl, hg4⟩
  have hg4 := hg4.gr
  have hS2 := refSame_any o2 (tailA oa p cap) m2 c2 (n - p) (cap - p) _ _ w4 (R2.out.keep (by repeat (first | with_reducible exact Gr.refl _ | with_reducible refine Gr.drewN ?_ _ | with_reducible refine Gr.drew ?_ | with_reducible refine Gr.alloc ?_ _ | with_reducible refine Gr.setCell ?_ ?_ _ | (with_reducible refine Gr.trans ?_ (by assumption)) | omega | (dsimp only; omega)))) ((H.out.keep (by repeat (first | with_reducible exact Gr.refl _ | with_reducible refine Gr.drewN ?_ _ | with_reducible refine Gr.drew ?_ | with_reducible refine Gr.alloc ?_ _ | with_reducible refine Gr.setCell ?_ ?_ _ | (with_reducible refine Gr.trans ?_ (by assumption)) | omega | (dsimp only; omega)))).tail hpl)
  rw [decide_eq_true rfl] at hS2
  have hS2 := Lib.hid hS2
  go_wp2_with fail
  refine hS2.out.mono ?_
  rintro e w7 ⟨rfl, hg7⟩
  have hg7 := hg7.gr
  have hG7 : Gr w w7 := by repeat (first | with_reducible exact Gr.refl _ | with_reducible refine Gr.drewN ?_ _ | with_reducible refine Gr.drew ?_ | with_reducible refine Gr.alloc ?_ _ | with_reducible refine Gr.setCell ?_ ?_ _ | (with_reducible refine Gr.trans ?_ (by assumption)) | omega | (dsimp only; omega))
  clear hS hS2 hg7 hg4 hg3 hg2 t1 t2 hfind R1 R2
  go_wp2_with fail
  refine (halve_yes oa n cap (n / 2) l w7 (H.out.keep (by repeat (first | with_reducible exact Gr.refl _ | with_reducible refine Gr.drewN ?_ _ | with_reducible refine Gr.drew ?_ | with_reducible refine Gr.alloc ?_ _ | with_reducible refine Gr.setCell ?_ ?_ _ | (with_reducible refine Gr.trans ?_ (by assumption)) | omega | (dsimp only; omega)))) hq (by omega) rfl hc).mono ?_
  rintro e w8 ⟨o4, m4, c4, o5, m5, c5, rfl, hr4, hr5, hg8⟩
  go_wp2_with fail
  refine (refHalve_yes oa n cap (n / 2) l w8 (H.out.keep (by repeat (first | with_reducible exact Gr.refl _ | with_reducible refine Gr.drewN ?_ _ | with_reducible refine Gr.drew ?_ | with_reducible refine Gr.alloc ?_ _ | with_reducible refine Gr.setCell ?_ ?_ _ | (with_reducible refine Gr.trans ?_ (by assumption)) | omega | (dsimp only; omega)))) hq (by omega) rfl hc2).mono ?_
  rintro e w9 ⟨rfl, hg9⟩
  have hX := refSame_any o4 oa m4 c4 (n / 2) cap _ _ w9 (hr4.keep (by repeat (first | with_reducible exact Gr.refl _ | with_reducible refine Gr.drewN ?_ _ | with_reducible refine Gr.drew ?_ | with_reducible refine Gr.alloc ?_ _ | with_reducible refine Gr.setCell ?_ ?_ _ | (with_reducible refine Gr.trans ?_ (by assumption)) | omega | (dsimp only; omega)))) ((H.out.keep (by repeat (first | with_reducible exact Gr.refl _ | with_reducible refine Gr.drewN ?_ _ | with_reducible refine Gr.drew ?_ | with_reducible refine Gr.alloc ?_ _ | with_reducible refine Gr.setCell ?_ ?_ _ | (with_reducible refine Gr.trans ?_ (by assumption)) | omega | (dsimp only; omega)))).head (by omega))
  rw [decide_eq_true rfl] at hX
  have hX := Lib.hid hX
  have hY := Lib.hid (fun w1 (hg : Gr w9 w1) => refSame_any o5 (tailA oa (n / 2) cap) m5 c5 (n - n / 2) (cap - n / 2) _ _ w1 (hr5.keep (by repeat (first | with_reducible exact Gr.refl _ | with_reducible refine Gr.drewN ?_ _ | with_reducible refine Gr.drew ?_ | with_reducible refine Gr.alloc ?_ _ | with_reducible refine Gr.setCell ?_ ?_ _ | (with_reducible refine Gr.trans ?_ (by assumption)) | omega | (dsimp only; omega)))) ((H.out.keep (by repeat (first | with_reducible exact Gr.refl _ | with_reducible refine Gr.drewN ?_ _ | with_reducible refine Gr.drew ?_ | with_reducible refine Gr.alloc ?_ _ | with_reducible refine Gr.setCell ?_ ?_ _ | (with_reducible refine Gr.trans ?_ (by assumption)) | omega | (dsimp only; omega)))).tail (by omega)))
  clear hr4 hr5 hc hc2
  go_wp2_with fail
  refine hX.out.mono ?_
  rintro e w10 ⟨rfl, hg10⟩
  have hg10 := hg10.gr
  have hY := hY.out w10 hg10
  (first | rw [decide_eq_true rfl] at hY | rw [decide_eq_true trivial] at hY | simp only [decide_true] at hY)
  have hY := Lib.hid hY
  go_wp2_with fail
  refine hY.out.mono ?_
  rintro e w9b ⟨rfl, hg11⟩
  have hg11 := hg11.gr
  have hg9 : Gr w8 w9b := (hg9.trans hg10).trans hg11
  clear hg10 hg11 hX hY
  go_wp2_with fail
  refine (join_no oa ob n cap m cap2 l k _ (H.out.keep (by repeat (first | with_reducible exact Gr.refl _ | with_reducible refine Gr.drewN ?_ _ | with_reducible refine Gr.drew ?_ | with_reducible refine Gr.alloc ?_ _ | with_reducible refine Gr.setCell ?_ ?_ _ | (with_reducible refine Gr.trans ?_ (by assumption)) | omega | (dsimp only; omega)))) (H2.out.keep (by repeat (first | with_reducible exact Gr.refl _ | with_reducible refine Gr.drewN ?_ _ | with_reducible refine Gr.drew ?_ | with_reducible refine Gr.alloc ?_ _ | with_reducible refine Gr.setCell ?_ ?_ _ | (with_reducible refine Gr.trans ?_ (by assumption)) | omega | (dsimp only; omega)))) (by omega) (by omega) hj1 hj2 hj).mono ?_
  rintro e w20 ⟨rfl, hg20⟩
  have d1 : decide (0 < n) = true := by simp; omega
  have d2 : decide (0 < m) = true := by simp; omega
  have d3 : decide (0 ≤ Str.cmp (Tx (kAt l (n - 1))) (Tx (kAt k 0))) = true := by simp; omega
  have hhl := H.out.keep (show Gr w w20 by (repeat (first | with_reducible exact Gr.refl _ | with_reducible refine Gr.drewN ?_ _ | with_reducible refine Gr.drew ?_ | with_reducible refine Gr.alloc ?_ _ | with_reducible refine Gr.setCell ?_ ?_ _ | (with_reducible refine Gr.trans ?_ (by assumption)) | omega | (dsimp only; omega))))
  have hhk := H2.out.keep (show Gr w w20 by (repeat (first | with_reducible exact Gr.refl _ | with_reducible refine Gr.drewN ?_ _ | with_reducible refine Gr.drew ?_ | with_reducible refine Gr.alloc ?_ _ | with_reducible refine Gr.setCell ?_ ?_ _ | (with_reducible refine Gr.trans ?_ (by assumption)) | omega | (dsimp only; omega))))
  obtain ⟨b1, off1, ho1, hc1⟩ := hhl.cells
  have Hc1 := Lib.hid hc1
  have Ho1 := Lib.hid (fun q => (ho1 q).1)
  have H1 := Lib.hid hhl
  have hn1 := hhl.cap_le
  have hm1 := hhl.cap_max
  unfold maxLen at hm1
  clear hc1 ho1 hhl
  obtain ⟨b2, off2, ho2, hc2⟩ := hhk.cells
  have Hc2 := Lib.hid hc2
  have Ho2 := Lib.hid (fun q => (ho2 q).1)
  have H2 := Lib.hid hhk
  have hn2 := hhk.cap_le
  have hm2 := hhk.cap_max
  unfold maxLen at hm2
  clear hc2 ho2 hhk
  have a1 := (Hc1.out (n - 1) (by omega)).1
  have a2 := (Hc2.out 0 (by omega)).1
  have s1 := (H.out.sizes (n - 1) (by omega)).1
  have s2 := (H2.out.sizes 0 (by omega)).1
  have hI1 := fun w => run_rowI cap Ho1.out (k := (n : Int) - 1) (by omega) (by omega) w
  have e1 : ((n : Int) - 1).toNat = n - 1 := by omega
  rw [e1] at hI1
  have hI2 := run_row0 cap2 Ho2.out (by omega)
  rw [Nat.zero_mul, Nat.add_zero] at a2
  go_wp2_with fail
  go_big_quiet ((go_at_call 18; (first | (with_reducible exact quiet_dr1 (compare_any _ _ _ (by assumption) (by assumption))) | (with_reducible exact quiet_dr0 (compare_any _ _ _ (by assumption) (by assumption))))))
  go_wp2_with (first | (go_at_call 31; (with_reducible refine (is_same _ _).mono ?_); rintro e w' ⟨rfl, rfl⟩) | (go_at_call 13; refine (awake_any _).mono ?_; rintro e w24 ⟨rfl, hg24⟩))
  go_ret
  exact ⟨rfl, by repeat (first | with_reducible exact Gr.refl _ | with_reducible refine Gr.drewN ?_ _ | with_reducible refine Gr.drew ?_ | with_reducible refine Gr.alloc ?_ _ | with_reducible refine Gr.setCell ?_ ?_ _ | (with_reducible refine Gr.trans ?_ (by assumption)) | omega | (dsimp only; omega))⟩

theorem parts_walk (oa ob : Option Addr) (n cap m cap2 : Nat) (l k : List Rw) (key : ByteArray) (w : World) (h : RowsAt w oa n cap l) (h2 : RowsAt w ob m cap2 k) (hk : key.size ≤ maxLen) :
    Calls Try.prog 9 #[.slice oa n cap, .slice ob m cap2, .string key] w fun e w' => e = .returned (.bool true) ∧ Gr w w' := by
  by_cases hk1 : key.size ≤ 100
  · by_cases hq : n < 2
    · rcases Nat.eq_zero_or_pos n with h0 | h0
      · exact parts_few_e1 oa ob n cap m cap2 l k key w h h2 hk1 hq h0
      · rcases Nat.eq_zero_or_pos m with g0 | g0
        · exact parts_few_e2 oa ob n cap m cap2 l k key w h h2 hk1 hq h0 g0
        · by_cases hj : Str.cmp (Tx (kAt l (n - 1))) (Tx (kAt k 0)) < 0
          · exact parts_few_yes oa ob n cap m cap2 l k key w h h2 hk1 hq h0 g0 hj
          · exact parts_few_no oa ob n cap m cap2 l k key w h h2 hk1 hq h0 g0 (by omega)
    · have hq : 2 ≤ n := by omega
      have h0 : 0 < n := by omega
      by_cases hc : Str.cmp (Tx (kAt l (n / 2 - 1))) (Tx (kAt l (n / 2))) < 0
      · rcases Nat.eq_zero_or_pos m with g0 | g0
        · exact parts_yes_e2 oa ob n cap m cap2 l k key w h h2 hk1 hq hc h0 g0
        · by_cases hj : Str.cmp (Tx (kAt l (n - 1))) (Tx (kAt k 0)) < 0
          · exact parts_yes_yes oa ob n cap m cap2 l k key w h h2 hk1 hq hc h0 g0 hj
          · exact parts_yes_no oa ob n cap m cap2 l k key w h h2 hk1 hq hc h0 g0 (by omega)
      · rcases Nat.eq_zero_or_pos m with g0 | g0
        · exact parts_no_e2 oa ob n cap m cap2 l k key w h h2 hk1 hq hc h0 g0
        · by_cases hj : Str.cmp (Tx (kAt l (n - 1))) (Tx (kAt k 0)) < 0
          · exact parts_no_yes oa ob n cap m cap2 l k key w h h2 hk1 hq hc h0 g0 hj
          · exact parts_no_no oa ob n cap m cap2 l k key w h h2 hk1 hq hc h0 g0 (by omega)
  · exact parts_skip oa ob n cap m cap2 l k key w h h2 hk (by omega)
end Go.Proofs.Ytlgeaponicgdoaa

