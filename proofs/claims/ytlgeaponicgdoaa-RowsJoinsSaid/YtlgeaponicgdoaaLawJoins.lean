import Derived.Test.YtlgeaponicgdoaaAw
namespace Go.Proofs.Ytlgeaponicgdoaa
set_option linter.unusedVariables false
set_option linter.unusedSimpArgs false
open Go.BigFrame Go.RowKit Go.WideShapes

theorem before_take_self (b : Str.Txt) (k : Nat) : Str.before b (b.take k) = false := by
  induction b generalizing k with
  | nil => simp [Str.before]
  | cons x xs ih =>
    cases k with
    | zero => simp [Str.before]
    | succ k => simp only [List.take_succ_cons, Str.before, if_true]; exact ih k
theorem btw_in {a b : ByteArray} (h : Str.cmp (Tx a) (Tx b) < 0) : Str.cmp (Tx a) (Tx (btw a b)) < 0 ∧ Str.cmp (Tx (btw a b)) (Tx b) ≤ 0 ∧ (btw a b).size ≤ b.size := by
  have hlt := cmp_neg_common h
  have hb := Str.cmp_neg_iff.1 h
  refine ⟨?_, ?_, by unfold btw; rw [ByteArray.size_extract]; omega⟩
  · rw [Str.cmp_neg_iff]
    unfold btw
    rw [before_take a b _ (by omega), hb]; simp
  · have : ¬ 0 < Str.cmp (Tx (btw a b)) (Tx b) := by
      rw [Str.cmp_pos_iff]; unfold btw; rw [tx_extract, before_take_self]; simp
    omega

theorem rowsOk_of {l : List Rw} (h : rowsOkB l = true) : RowsOk l := of_decide_eq_true h
theorem RowsOk.cut {l : List Rw} (h : RowsOk l) (p : Nat) (hp : p ≤ l.length) : joinable (l.take p) (l.drop p) := by
  intro h1 h2
  rw [List.length_take] at h1
  rw [List.length_drop] at h2
  have := (h p (by omega)).2 (by omega)
  unfold kAt at this ⊢
  rw [List.length_take, rAt_take (by omega), rAt_drop, Nat.min_eq_left (by omega), Nat.add_zero]
  exact this

theorem key_max {k : ByteArray} (h : k.size ≤ 100) : k.size ≤ maxLen := by unfold maxLen; omega

set_option maxRecDepth 100000 in
set_option maxHeartbeats 1000000 in
/-- of what is not gone through -/
theorem joins_skip (oa : Option Addr) (n cap : Nat) (l : List Rw) (key : ByteArray) (w : World) (h : RowsAt w oa n cap l) (hk : key.size ≤ maxLen) (hs : rowsOkB l = false ∨ (rowsOkB l = true ∧ 100 < key.size)) :
    Calls Try.prog 3 #[.slice oa n cap, .string key] w fun e w' => e = .returned (.bool true) ∧ Gr w w' := by
  have hF := Lib.hid (few_any oa n cap l w h)
  have hR := Lib.hid (fun w1 (hg : Gr w w1) => refRowsRight_any oa n cap l w1 (h.keep hg))
  clear h
  unfold maxLen at hk
  rcases hs with hs | ⟨hs, hk2⟩
  all_goals
    rw [hs] at hR
    clear hs
    go_enter Try.func3, Try.ntmps3
    go_wp2_with fail
    refine hF.out.mono ?_
    rintro e w1 ⟨⟨b, rfl, hb⟩, d, rfl⟩
    cases b
    · go_wp2_with fail
      refine (awake_any _).mono ?_
      rintro e w2 ⟨rfl, hg2⟩
      go_wp2_with fail
      go_ret
      exact ⟨rfl, by repeat (first | with_reducible exact Gr.refl _ | with_reducible refine Gr.drewN ?_ _ | with_reducible refine Gr.drew ?_ | with_reducible refine Gr.alloc ?_ _ | with_reducible refine Gr.setCell ?_ ?_ _ | (with_reducible refine Gr.trans ?_ (by assumption)) | omega | (dsimp only; omega))⟩
    · go_wp2_with fail
      refine (hR.out _ (by repeat (first | with_reducible exact Gr.refl _ | with_reducible refine Gr.drewN ?_ _ | with_reducible refine Gr.drew ?_ | with_reducible refine Gr.alloc ?_ _ | with_reducible refine Gr.setCell ?_ ?_ _ | (with_reducible refine Gr.trans ?_ (by assumption)) | omega | (dsimp only; omega)))).mono ?_
      rintro e w2 ⟨rfl, hg2⟩
      go_wp2_with fail
      refine (awake_any _).mono ?_
      rintro e w3 ⟨rfl, hg3⟩
      go_wp2_with fail
      go_ret
      exact ⟨rfl, by repeat (first | with_reducible exact Gr.refl _ | with_reducible refine Gr.drewN ?_ _ | with_reducible refine Gr.drew ?_ | with_reducible refine Gr.alloc ?_ _ | with_reducible refine Gr.setCell ?_ ?_ _ | (with_reducible refine Gr.trans ?_ (by assumption)) | omega | (dsimp only; omega))⟩

set_option maxRecDepth 100000 in
set_option maxHeartbeats 1000000 in
theorem joins_main (oa : Option Addr) (n cap : Nat) (l : List Rw) (key : ByteArray) (w : World) (h : RowsAt w oa n cap l) (hk : key.size ≤ 100) (hs : rowsOkB l = true) :
    Calls Try.prog 3 #[.slice oa n cap, .string key] w fun e w' => e = .returned (.bool true) ∧ Gr w w' := by
  have hF := Lib.hid (few_any oa n cap l w h)
  have hok := rowsOk_of hs
  have hR := Lib.hid (fun w1 (hg : Gr w w1) => refRowsRight_any oa n cap l w1 (h.keep hg))
  rw [hs] at hR
  clear hs
  have Hok := Lib.hid hok
  have H := Lib.hid h
  clear h hok
  have hpl := place_le key l
  rw [H.out.len] at hpl
  go_enter Try.func3, Try.ntmps3
  go_wp2_with fail
  refine hF.out.mono ?_
  rintro e w1 ⟨⟨b, rfl, hb⟩, d, rfl⟩
  cases b
  · go_wp2_with fail
    refine (awake_any _).mono ?_
    rintro e w2 ⟨rfl, hg2⟩
    go_wp2_with fail
    go_ret
    exact ⟨rfl, by repeat (first | with_reducible exact Gr.refl _ | with_reducible refine Gr.drewN ?_ _ | with_reducible refine Gr.drew ?_ | with_reducible refine Gr.alloc ?_ _ | with_reducible refine Gr.setCell ?_ ?_ _ | (with_reducible refine Gr.trans ?_ (by assumption)) | omega | (dsimp only; omega))⟩
  · have hn := hb rfl
    clear hb
    go_wp2_with fail
    refine (hR.out _ (by repeat (first | with_reducible exact Gr.refl _ | with_reducible refine Gr.drewN ?_ _ | with_reducible refine Gr.drew ?_ | with_reducible refine Gr.alloc ?_ _ | with_reducible refine Gr.setCell ?_ ?_ _ | (with_reducible refine Gr.trans ?_ (by assumption)) | omega | (dsimp only; omega)))).mono ?_
    rintro e w2 ⟨rfl, hg2⟩
    go_wp2_with fail
    have hcut := cut_any oa n cap l key w2 (H.out.keep (by repeat (first | with_reducible exact Gr.refl _ | with_reducible refine Gr.drewN ?_ _ | with_reducible refine Gr.drew ?_ | with_reducible refine Gr.alloc ?_ _ | with_reducible refine Gr.setCell ?_ ?_ _ | (with_reducible refine Gr.trans ?_ (by assumption)) | omega | (dsimp only; omega)))) (by omega) (key_max hk)
    generalize place key l = p at *
    refine hcut.mono ?_
    clear hcut
    rintro e w3 ⟨o1, m1, c1, o2, m2, c2, rfl, hr1, hr2, hg3⟩
    have e1 := hr1.len
    have e2 := hr2.len
    rw [List.length_take, H.out.len] at e1
    rw [List.length_drop, H.out.len] at e2
    go_wp2_with fail
    refine (join_ok o1 o2 m1 c1 m2 c2 _ _ w3 hr1 hr2 (by omega) (by omega) (Hok.out.cut p (by rw [H.out.len]; exact hpl))).mono ?_
    rintro e w4 ⟨o3, m3, c3, rfl, hr3, hg4⟩
    rw [List.take_append_drop] at hr3
    clear hr1 hr2
    go_wp2_with fail
    have hS := refSame_any o3 oa m3 c3 n cap l l w4 hr3 (H.out.keep (by repeat (first | with_reducible exact Gr.refl _ | with_reducible refine Gr.drewN ?_ _ | with_reducible refine Gr.drew ?_ | with_reducible refine Gr.alloc ?_ _ | with_reducible refine Gr.setCell ?_ ?_ _ | (with_reducible refine Gr.trans ?_ (by assumption)) | omega | (dsimp only; omega))))
    rw [decide_eq_true rfl] at hS
    refine hS.mono ?_
    clear hS
    rintro e w5 ⟨rfl, hg5⟩
    have hg5 := hg5.gr
    clear hr3
    go_wp2_with fail
    by_cases hn2 : n < 2
    · refine (halve_few oa n cap l w5 (H.out.keep (by repeat (first | with_reducible exact Gr.refl _ | with_reducible refine Gr.drewN ?_ _ | with_reducible refine Gr.drew ?_ | with_reducible refine Gr.alloc ?_ _ | with_reducible refine Gr.setCell ?_ ?_ _ | (with_reducible refine Gr.trans ?_ (by assumption)) | omega | (dsimp only; omega)))) hn2).mono ?_
      rintro e w6 ⟨rfl, hg6⟩
      go_wp2_with fail
      refine (awake_any _).mono ?_
      rintro e w7 ⟨rfl, hg7⟩
      go_wp2_with fail
      go_ret
      exact ⟨rfl, by repeat (first | with_reducible exact Gr.refl _ | with_reducible refine Gr.drewN ?_ _ | with_reducible refine Gr.drew ?_ | with_reducible refine Gr.alloc ?_ _ | with_reducible refine Gr.setCell ?_ ?_ _ | (with_reducible refine Gr.trans ?_ (by assumption)) | omega | (dsimp only; omega))⟩
    · have hq := Lib.hid (show n / 2 = n / 2 from rfl)
      have hq1 : 1 ≤ n / 2 := by omega
      have hq2 : n / 2 < n := by omega
      have hlt := (Hok.out (n / 2) (by rw [H.out.len]; exact hq2)).2 (by omega)
      have hb := btw_in hlt
      have ks := (H.out.sizes (n / 2) hq2).1
      have ks2 := (H.out.sizes (n / 2 - 1) (by omega)).1
      have hH := halve_yes oa n cap (n / 2) l w5 (H.out.keep (by repeat (first | with_reducible exact Gr.refl _ | with_reducible refine Gr.drewN ?_ _ | with_reducible refine Gr.drew ?_ | with_reducible refine Gr.alloc ?_ _ | with_reducible refine Gr.setCell ?_ ?_ _ | (with_reducible refine Gr.trans ?_ (by assumption)) | omega | (dsimp only; omega)))) (by omega) (by omega) rfl hlt
      clear hq
      generalize n / 2 = q at *
      refine hH.mono ?_
      clear hH
      rintro e w6 ⟨o4, m4, c4, o5, m5, c5, rfl, hr4, hr5, hg6⟩
      have e4 := hr4.len
      have e5 := hr5.len
      rw [List.length_take, H.out.len] at e4
      rw [List.length_drop, H.out.len] at e5
      have hj := join_ok o4 o5 m4 c4 m5 c5 _ _ w6 hr4 hr5 (by omega) (by omega) (Hok.out.cut q (by rw [H.out.len]; omega))
      have k4 : kAt (l.take q) (m4 - 1) = kAt l (q - 1) := by
        unfold kAt; rw [rAt_take (by omega), show m4 - 1 = q - 1 by omega]
      have k5 : kAt (l.drop q) 0 = kAt l q := by
        unfold kAt; rw [rAt_drop, Nat.add_zero]
      obtain ⟨b4, off4, ho4, hc4⟩ := hr4.cells
      have Hc4 := Lib.hid hc4
      have Ho4 := Lib.hid (fun q => (ho4 q).1)
      have H4 := Lib.hid hr4
      have hn4 := hr4.cap_le
      have hm4 := hr4.cap_max
      unfold maxLen at hm4
      clear hc4 ho4 hr4
      obtain ⟨b5, off5, ho5, hc5⟩ := hr5.cells
      have Hc5 := Lib.hid hc5
      have Ho5 := Lib.hid (fun q => (ho5 q).1)
      have H5 := Lib.hid hr5
      have hn5 := hr5.cap_le
      have hm5 := hr5.cap_max
      unfold maxLen at hm5
      clear hc5 ho5 hr5
      have a4 := (Hc4.out (m4 - 1) (by omega)).1
      have a5 := (Hc5.out 0 (by omega)).1
      rw [k4] at a4
      rw [k5, Nat.zero_mul, Nat.add_zero] at a5
      have HJ := Lib.hid hj
      clear hj
      go_wp2_with fail
      refine HJ.out.mono ?_
      rintro e w7 ⟨o6, m6, c6, rfl, hr6, hg7⟩
      rw [List.take_append_drop] at hr6
      have hS := refSame_any o6 oa m6 c6 n cap l l w7 hr6 (H.out.keep (by repeat (first | with_reducible exact Gr.refl _ | with_reducible refine Gr.drewN ?_ _ | with_reducible refine Gr.drew ?_ | with_reducible refine Gr.alloc ?_ _ | with_reducible refine Gr.setCell ?_ ?_ _ | (with_reducible refine Gr.trans ?_ (by assumption)) | omega | (dsimp only; omega))))
      rw [decide_eq_true rfl] at hS
      have hS := Lib.hid hS
      clear hr6
      go_wp2_with fail
      refine hS.out.mono ?_
      clear hS
      rintro e w8 ⟨rfl, hg8⟩
      have hg8 := hg8.gr
      have b4 := (hg7.trans hg8).keep a4
      have b5 := (hg7.trans hg8).keep a5
      have hI4 := fun w => run_rowI c4 Ho4.out (k := (m4 : Int) - 1) (by omega) (by omega) w
      have e6 : ((m4 : Int) - 1).toNat = m4 - 1 := by omega
      rw [e6] at hI4
      have hI5 := run_row0 c5 Ho5.out (by omega)
      have sb : (btw (kAt l (q - 1)) (kAt l q)).size ≤ maxLen := Nat.le_trans hb.2.2 ks
      have q4 : ((m4 : Int) == 0) = false := by simp; omega
      have q5 : ((m5 : Int) == 0) = false := by simp; omega
      obtain ⟨g1, g2, -⟩ := hb
      clear a4 a5 k4 k5
      generalize btw (kAt l (q - 1)) (kAt l q) = key2 at *
      generalize kAt l (q - 1) = x1 at *
      generalize kAt l q = x2 at *
      go_wp2_with (first
        | (go_at_call 18; (with_reducible refine (compare_any _ _ _ (by assumption) (by assumption)).mono ?_); rintro e w' ⟨rfl, d, rfl⟩)
        | (go_at_call 13; refine (awake_any _).mono ?_; rintro e w9 ⟨rfl, hg9⟩))
      all_goals first
        | (go_ret; exact ⟨rfl, by repeat (first | with_reducible exact Gr.refl _ | with_reducible refine Gr.drewN ?_ _ | with_reducible refine Gr.drew ?_ | with_reducible refine Gr.alloc ?_ _ | with_reducible refine Gr.setCell ?_ ?_ _ | (with_reducible refine Gr.trans ?_ (by assumption)) | omega | (dsimp only; omega))⟩)
        | (exfalso; simp only [q4, q5, Bool.false_eq_true, or_self, and_self, not_true_eq_false] at *; done)

theorem joins_walk (oa : Option Addr) (n cap : Nat) (l : List Rw) (key : ByteArray) (w : World) (h : RowsAt w oa n cap l) (hk : key.size ≤ maxLen) :
    Calls Try.prog 3 #[.slice oa n cap, .string key] w fun e w' => e = .returned (.bool true) ∧ Gr w w' := by
  cases hs : rowsOkB l
  · exact joins_skip oa n cap l key w h hk (.inl hs)
  · by_cases hk2 : key.size ≤ 100
    · exact joins_main oa n cap l key w h hk2 hs
    · exact joins_skip oa n cap l key w h hk (.inr ⟨hs, by omega⟩)
end Go.Proofs.Ytlgeaponicgdoaa
