import Derived.Test.YtlgeaponicgdoaaSrt
import Derived.Test.YtlgeaponicgdoaaTk
import Derived.Test.YtlgeaponicgdoaaAw
namespace Go.Proofs.Ytlgeaponicgdoaa
set_option linter.unusedVariables false
set_option linter.unusedSimpArgs false
open Go.BigFrame Go.RowKit Go.WideShapes

theorem key_max {k : ByteArray} (h : k.size ≤ 100) : k.size ≤ maxLen := by unfold maxLen; omega

set_option maxRecDepth 100000 in
set_option maxHeartbeats 1000000 in
theorem cuts_skip (oa : Option Addr) (n cap : Nat) (l : List Rw) (key : ByteArray) (w : World) (h : RowsAt w oa n cap l) (hk : key.size ≤ maxLen) (hs : rowsOkB l = false ∨ (rowsOkB l = true ∧ 100 < key.size)) :
    Calls Try.prog 8 #[.slice oa n cap, .string key] w fun e w' => e = .returned (.bool true) ∧ Gr w w' := by
  have hF := Lib.hid (few_any oa n cap l w h)
  have hR := Lib.hid (fun w1 (hg : Gr w w1) => refRowsRight_any oa n cap l w1 (h.keep hg))
  clear h
  unfold maxLen at hk
  rcases hs with hs | ⟨hs, hk2⟩
  all_goals
    rw [hs] at hR
    clear hs
    go_enter Try.func8, Try.ntmps8
    go_wp2_with fail
    refine hF.out.mono ?_
    rintro e w1 ⟨⟨b, rfl, hb⟩, d, rfl⟩
    cases b
    · go_wp2_with fail
      refine (awake_any _).mono ?_
      rintro e w2 ⟨rfl, hg2⟩
      go_wp2_with fail
      go_ret
      exact ⟨rfl, by repeat (first | with_reducible exact Gr.refl _ | with_reducible refine Gr.drewN ?_ _ | with_reducible refine Gr.drew ?_ | with_reducible refine Gr.alloc ?_ _ | with_reducible refine Gr.setCell ?_ ?_ _ | (with_reducible refine Gr.trans ?_ (by assumption)) | omega | (dsimp only; omega))⟩
    · go_wp2_with fail
      refine (hR.out _ (by repeat (first | with_reducible exact Gr.refl _ | with_reducible refine Gr.drewN ?_ _ | with_reducible refine Gr.drew ?_ | with_reducible refine Gr.alloc ?_ _ | with_reducible refine Gr.setCell ?_ ?_ _ | (with_reducible refine Gr.trans ?_ (by assumption)) | omega | (dsimp only; omega)))).mono ?_
      rintro e w2 ⟨rfl, hg2⟩
      go_wp2_with fail
      refine (awake_any _).mono ?_
      rintro e w3 ⟨rfl, hg3⟩
      go_wp2_with fail
      go_ret
      exact ⟨rfl, by repeat (first | with_reducible exact Gr.refl _ | with_reducible refine Gr.drewN ?_ _ | with_reducible refine Gr.drew ?_ | with_reducible refine Gr.alloc ?_ _ | with_reducible refine Gr.setCell ?_ ?_ _ | (with_reducible refine Gr.trans ?_ (by assumption)) | omega | (dsimp only; omega))⟩

set_option maxRecDepth 100000 in
set_option maxHeartbeats 1000000 in
theorem cuts_main (oa : Option Addr) (n cap : Nat) (l : List Rw) (key : ByteArray) (w : World) (h : RowsAt w oa n cap l) (hk : key.size ≤ 100) (hs : rowsOkB l = true) :
    Calls Try.prog 8 #[.slice oa n cap, .string key] w fun e w' => e = .returned (.bool true) ∧ Gr w w' := by
  have hF := Lib.hid (few_any oa n cap l w h)
  have hR := Lib.hid (fun w1 (hg : Gr w w1) => refRowsRight_any oa n cap l w1 (h.keep hg))
  obtain ⟨q1, q2, q3, q4⟩ := cuts (key := key) hs
  have Q1 := Lib.hid q1
  have Q2 := Lib.hid q2
  have Q3 := Lib.hid q3
  have Q4 := Lib.hid q4
  rw [hs] at hR
  have H := Lib.hid h
  clear h q1 q2 q3 q4 hs
  go_enter Try.func8, Try.ntmps8
  go_wp2_with fail
  refine hF.out.mono ?_
  rintro e w1 ⟨⟨b, rfl, hb⟩, d, rfl⟩
  cases b
  · go_wp2_with fail
    refine (awake_any _).mono ?_
    rintro e w2 ⟨rfl, hg2⟩
    go_wp2_with fail
    go_ret
    exact ⟨rfl, by repeat (first | with_reducible exact Gr.refl _ | with_reducible refine Gr.drewN ?_ _ | with_reducible refine Gr.drew ?_ | with_reducible refine Gr.alloc ?_ _ | with_reducible refine Gr.setCell ?_ ?_ _ | (with_reducible refine Gr.trans ?_ (by assumption)) | omega | (dsimp only; omega))⟩
  · have hn := hb rfl
    clear hb
    go_wp2_with fail
    refine (hR.out _ (by repeat (first | with_reducible exact Gr.refl _ | with_reducible refine Gr.drewN ?_ _ | with_reducible refine Gr.drew ?_ | with_reducible refine Gr.alloc ?_ _ | with_reducible refine Gr.setCell ?_ ?_ _ | (with_reducible refine Gr.trans ?_ (by assumption)) | omega | (dsimp only; omega)))).mono ?_
    rintro e w2 ⟨rfl, hg2⟩
    go_wp2_with fail
    refine (own_any oa n cap l w2 (H.out.keep (by repeat (first | with_reducible exact Gr.refl _ | with_reducible refine Gr.drewN ?_ _ | with_reducible refine Gr.drew ?_ | with_reducible refine Gr.alloc ?_ _ | with_reducible refine Gr.setCell ?_ ?_ _ | (with_reducible refine Gr.trans ?_ (by assumption)) | omega | (dsimp only; omega)))) (by omega)).mono ?_
    rintro e w3 ⟨o1, m1, c1, rfl, hr1, hg3, -⟩
    obtain rfl : n = m1 := by rw [← hr1.len, H.out.len]
    have R1 := Lib.hid hr1
    clear hr1
    go_wp2_with fail
    refine (cut_any o1 n c1 l key w3 R1.out (by omega) (key_max hk)).mono ?_
    rintro e w4 ⟨o2, m2, c2, o3, m3, c3, rfl, hr2, hr3, hg4⟩
    have R2 := Lib.hid hr2
    have R3 := Lib.hid hr3
    clear hr2 hr3
    have e0 : ByteArray.empty.size ≤ maxLen := by decide
    go_wp2_with fail
    refine (take_any oa n cap l ByteArray.empty key false 0 false w4 (H.out.keep (by repeat (first | with_reducible exact Gr.refl _ | with_reducible refine Gr.drewN ?_ _ | with_reducible refine Gr.drew ?_ | with_reducible refine Gr.alloc ?_ _ | with_reducible refine Gr.setCell ?_ ?_ _ | (with_reducible refine Gr.trans ?_ (by assumption)) | omega | (dsimp only; omega)))) (by omega) e0 (key_max hk)).mono ?_
    rintro e w5 ⟨o4, m4, c4, rfl, hr4, hg5, -⟩
    rw [Q1.out] at hr4
    have hS := refSame_any o2 o4 m2 c2 m4 c4 _ _ w5 (R2.out.keep (by repeat (first | with_reducible exact Gr.refl _ | with_reducible refine Gr.drewN ?_ _ | with_reducible refine Gr.drew ?_ | with_reducible refine Gr.alloc ?_ _ | with_reducible refine Gr.setCell ?_ ?_ _ | (with_reducible refine Gr.trans ?_ (by assumption)) | omega | (dsimp only; omega)))) hr4
    rw [decide_eq_true rfl] at hS
    have hS := Lib.hid hS
    clear hr4
    go_wp2_with fail
    refine hS.out.mono ?_
    rintro e w6 ⟨rfl, hg6⟩
    have hg6 := hg6.gr
    clear hS
    have hgA : Gr w4 w6 := hg5.trans hg6
    have hgB : Gr w w6 := by repeat (first | with_reducible exact Gr.refl _ | with_reducible refine Gr.drewN ?_ _ | with_reducible refine Gr.drew ?_ | with_reducible refine Gr.alloc ?_ _ | with_reducible refine Gr.setCell ?_ ?_ _ | (with_reducible refine Gr.trans ?_ (by assumption)) | omega | (dsimp only; omega))
    clear hg5 hg6
    go_wp2_with fail
    refine (take_any oa n cap l key ByteArray.empty true 0 false w6 (H.out.keep hgB) (by omega) (key_max hk) e0).mono ?_
    rintro e w7 ⟨o5, m5, c5, rfl, hr5, hg7, -⟩
    rw [Q2.out] at hr5
    have hS := refSame_any o3 o5 m3 c3 m5 c5 _ _ w7 (R3.out.keep (hgA.trans hg7)) hr5
    rw [decide_eq_true rfl] at hS
    have hS := Lib.hid hS
    clear hr5
    go_wp2_with fail
    refine hS.out.mono ?_
    rintro e w8 ⟨rfl, hg8⟩
    have hg8 := hg8.gr
    clear hS
    have hgC : Gr w4 w8 := hgA.trans (hg7.trans hg8)
    have hgD : Gr w w8 := hgB.trans (hg7.trans hg8)
    clear hgA hgB hg7 hg8
    have hT := rowsRight_any o2 m2 c2 _ w8 (R2.out.keep hgC)
    rw [Q3.out] at hT
    have hT := Lib.hid hT
    have hU := Lib.hid (fun w9 (hg : Gr w8 w9) => rowsRight_any o3 m3 c3 _ w9 (R3.out.keep (hgC.trans hg)))
    rw [Q4.out] at hU
    go_wp2_with fail
    refine hT.out.mono ?_
    rintro e w9 ⟨rfl, hg9⟩
    go_wp2_with fail
    refine (hU.out _ hg9).mono ?_
    rintro e w10 ⟨rfl, hg10⟩
    go_wp2_with fail
    refine (awake_any _).mono ?_
    rintro e w11 ⟨rfl, hg11⟩
    go_wp2_with fail
    go_ret
    exact ⟨rfl, hgD.trans (hg9.trans (hg10.trans (by (repeat (first | with_reducible exact Gr.refl _ | with_reducible refine Gr.drewN ?_ _ | with_reducible refine Gr.drew ?_ | with_reducible refine Gr.alloc ?_ _ | with_reducible refine Gr.setCell ?_ ?_ _ | (with_reducible refine Gr.trans ?_ (by assumption)) | omega | (dsimp only; omega))))))⟩

theorem cuts_walk (oa : Option Addr) (n cap : Nat) (l : List Rw) (key : ByteArray) (w : World) (h : RowsAt w oa n cap l) (hk : key.size ≤ maxLen) :
    Calls Try.prog 8 #[.slice oa n cap, .string key] w fun e w' => e = .returned (.bool true) ∧ Gr w w' := by
  cases hB : rowsOkB l
  · exact cuts_skip oa n cap l key w h hk (.inl hB)
  · by_cases h1 : key.size ≤ 100
    · exact cuts_main oa n cap l key w h h1 hB
    · exact cuts_skip oa n cap l key w h hk (.inr ⟨hB, by omega⟩)
end Go.Proofs.Ytlgeaponicgdoaa
