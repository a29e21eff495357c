import Derived.Test.YtlgeaponicgdoaaRf
import Derived.Test.YtlgeaponicgdoaaErr
namespace Go.Proofs.Ytlgeaponicgdoaa
set_option linter.unusedVariables false
set_option linter.unusedSimpArgs false
open Go.BigFrame Go.RowKit Go.WideShapes

set_option maxRecDepth 100000 in
set_option maxHeartbeats 1000000 in
theorem puts_skip (oa : Option Addr) (n cap : Nat) (l : List Rw) (k v : ByteArray) (w : World) (h : RowsAt w oa n cap l) (hk : k.size ≤ maxLen) (hv : v.size ≤ maxLen) (hs : 100 < k.size ∨ (k.size ≤ 100 ∧ 100 < v.size)) :
    Calls Try.prog 10 #[.slice oa n cap, .agg #[.string k, .string v]] w fun e w' => e = .returned (.bool true) ∧ Gr w w' := by
  have hF := Lib.hid (few_any oa n cap l (boxW w k v) (h.keep (by repeat (first | with_reducible exact Gr.refl _ | with_reducible refine Gr.drewN ?_ _ | with_reducible refine Gr.drew ?_ | with_reducible refine Gr.alloc ?_ _ | with_reducible refine Gr.setCell ?_ ?_ _ | (with_reducible refine Gr.trans ?_ (by assumption)) | omega | (dsimp only; omega)))))
  have b0 := fun d : Nat => (show ((boxW w k v).drewN d).cell? ⟨w.heap.size, 0, none⟩ = some (.string k) from box_key w k v)
  have b1 := fun d : Nat => (show ((boxW w k v).drewN d).cell? ⟨w.heap.size, 1, none⟩ = some (.string v) from box_val w k v)
  clear h
  unfold maxLen at hk hv
  rcases hs with hs | ⟨hs, hs2⟩
  all_goals
    go_enter Try.func10, Try.ntmps10
    go_wp2_with fail
    refine hF.out.mono ?_
    rintro e w1 ⟨⟨b, rfl, hb⟩, d, rfl⟩
    cases b
    all_goals
      go_wp2_with fail
      refine (awake_any _).mono ?_
      rintro e w2 ⟨rfl, hg2⟩
      go_wp2_with fail
      go_ret
      exact ⟨rfl, by repeat (first | with_reducible exact Gr.refl _ | with_reducible refine Gr.drewN ?_ _ | with_reducible refine Gr.drew ?_ | with_reducible refine Gr.alloc ?_ _ | with_reducible refine Gr.setCell ?_ ?_ _ | (with_reducible refine Gr.trans ?_ (by assumption)) | omega | (dsimp only; omega))⟩

set_option maxRecDepth 100000 in
set_option maxHeartbeats 1000000 in
theorem puts_main (oa : Option Addr) (n cap : Nat) (l : List Rw) (k v : ByteArray) (w : World) (h : RowsAt w oa n cap l) (hk : k.size ≤ maxLen) (hv : v.size ≤ maxLen) (hk1 : k.size ≤ 100) (hv1 : v.size ≤ 100) :
    Calls Try.prog 10 #[.slice oa n cap, .agg #[.string k, .string v]] w fun e w' => e = .returned (.bool true) ∧ Gr w w' := by
  have hF := Lib.hid (few_any oa n cap l (boxW w k v) (h.keep (by repeat (first | with_reducible exact Gr.refl _ | with_reducible refine Gr.drewN ?_ _ | with_reducible refine Gr.drew ?_ | with_reducible refine Gr.alloc ?_ _ | with_reducible refine Gr.setCell ?_ ?_ _ | (with_reducible refine Gr.trans ?_ (by assumption)) | omega | (dsimp only; omega)))))
  have b0 := box_key w k v
  have b1 := box_val w k v
  have H := Lib.hid h
  clear h
  go_enter Try.func10, Try.ntmps10
  go_wp2_with fail
  refine hF.out.mono ?_
  rintro e w1 ⟨⟨b, rfl, hb⟩, d, rfl⟩
  have b0 : ((boxW w k v).drewN d).cell? ⟨w.heap.size, 0, none⟩ = some (.string k) := b0
  have b1 : ((boxW w k v).drewN d).cell? ⟨w.heap.size, 1, none⟩ = some (.string v) := b1
  have hg1 : Gr w ((boxW w k v).drewN d) := by repeat (first | with_reducible exact Gr.refl _ | with_reducible refine Gr.drewN ?_ _ | with_reducible refine Gr.drew ?_ | with_reducible refine Gr.alloc ?_ _ | with_reducible refine Gr.setCell ?_ ?_ _ | (with_reducible refine Gr.trans ?_ (by assumption)) | omega | (dsimp only; omega))
  generalize (boxW w k v).drewN d = w1 at *
  cases b
  · go_wp2_with fail
    refine (awake_any _).mono ?_
    rintro e w2 ⟨rfl, hg2⟩
    go_wp2_with fail
    go_ret
    exact ⟨rfl, by repeat (first | with_reducible exact Gr.refl _ | with_reducible refine Gr.drewN ?_ _ | with_reducible refine Gr.drew ?_ | with_reducible refine Gr.alloc ?_ _ | with_reducible refine Gr.setCell ?_ ?_ _ | (with_reducible refine Gr.trans ?_ (by assumption)) | omega | (dsimp only; omega))⟩
  · have hn := hb rfl
    clear hb
    go_wp2_with fail
    refine (own_any oa n cap l w1 (H.out.keep (by repeat (first | with_reducible exact Gr.refl _ | with_reducible refine Gr.drewN ?_ _ | with_reducible refine Gr.drew ?_ | with_reducible refine Gr.alloc ?_ _ | with_reducible refine Gr.setCell ?_ ?_ _ | (with_reducible refine Gr.trans ?_ (by assumption)) | omega | (dsimp only; omega)))) (by omega)).mono ?_
    rintro e w2 ⟨o1, m1, c1, rfl, hr1, hg2, -⟩
    obtain rfl : n = m1 := by rw [← hr1.len, H.out.len]
    have R1 := Lib.hid hr1
    clear hr1
    have b0 := hg2.keep b0
    have b1 := hg2.keep b1
    go_wp2_with fail
    refine (drop_any o1 n c1 l k w2 R1.out (by omega) hk).mono ?_
    rintro e w3 ⟨o2, m2, c2, rfl, hr2, hg3⟩
    have b0 := hg3.keep b0
    have b1 := hg3.keep b1
    have R2 := Lib.hid hr2
    clear hr2
    go_wp2_with fail
    refine (refDrop_any oa n cap l k w3 (H.out.keep (by repeat (first | with_reducible exact Gr.refl _ | with_reducible refine Gr.drewN ?_ _ | with_reducible refine Gr.drew ?_ | with_reducible refine Gr.alloc ?_ _ | with_reducible refine Gr.setCell ?_ ?_ _ | (with_reducible refine Gr.trans ?_ (by assumption)) | omega | (dsimp only; omega)))) (by omega) hk).mono ?_
    rintro e w4 ⟨o3, m3, c3, rfl, hr3, hg4⟩
    have b0 := hg4.keep b0
    have b1 := hg4.keep b1
    have hS := refSame_any o2 o3 m2 c2 m3 c3 _ _ w4 (R2.out.keep (by repeat (first | with_reducible exact Gr.refl _ | with_reducible refine Gr.drewN ?_ _ | with_reducible refine Gr.drew ?_ | with_reducible refine Gr.alloc ?_ _ | with_reducible refine Gr.setCell ?_ ?_ _ | (with_reducible refine Gr.trans ?_ (by assumption)) | omega | (dsimp only; omega)))) hr3
    rw [decide_eq_true rfl] at hS
    have hS := Lib.hid hS
    clear hr3
    go_wp2_with fail
    refine hS.out.mono ?_
    rintro e w5 ⟨rfl, hg5⟩
    have hg5 := hg5.gr
    have b0 := hg5.keep b0
    have b1 := hg5.keep b1
    have hS2 := refSame_any o1 oa n c1 n cap l l w5 (R1.out.keep (by repeat (first | with_reducible exact Gr.refl _ | with_reducible refine Gr.drewN ?_ _ | with_reducible refine Gr.drew ?_ | with_reducible refine Gr.alloc ?_ _ | with_reducible refine Gr.setCell ?_ ?_ _ | (with_reducible refine Gr.trans ?_ (by assumption)) | omega | (dsimp only; omega)))) (H.out.keep (by repeat (first | with_reducible exact Gr.refl _ | with_reducible refine Gr.drewN ?_ _ | with_reducible refine Gr.drew ?_ | with_reducible refine Gr.alloc ?_ _ | with_reducible refine Gr.setCell ?_ ?_ _ | (with_reducible refine Gr.trans ?_ (by assumption)) | omega | (dsimp only; omega))))
    rw [decide_eq_true rfl] at hS2
    have hS2 := Lib.hid hS2
    go_wp2_with fail
    refine hS2.out.mono ?_
    rintro e w6 ⟨rfl, hg6⟩
    have hg6 := hg6.gr
    have b0 := hg6.keep b0
    have b1 := hg6.keep b1
    go_wp2_with fail
    cases hf : fitsB ⟨k, v⟩
    · refine (put_bad o1 n c1 k v w6 hk hv hf).mono ?_
      rintro e w7 ⟨rfl, hg7⟩
      have b0 := hg7.keep b0
      have b1 := hg7.keep b1
      have hT := refFits_any k v w7 hk hv
      rw [hf] at hT
      have hT := Lib.hid hT
      go_wp2_with fail
      refine hT.out.mono ?_
      rintro e w8 ⟨rfl, hg8⟩
      go_wp2_with (first | (go_at_call 31; (with_reducible refine (is_same _ _).mono ?_); rintro e w' ⟨rfl, rfl⟩) | (go_at_call 13; refine (awake_any _).mono ?_; rintro e w9 ⟨rfl, hg9⟩))
      go_ret
      exact ⟨rfl, by repeat (first | with_reducible exact Gr.refl _ | with_reducible refine Gr.drewN ?_ _ | with_reducible refine Gr.drew ?_ | with_reducible refine Gr.alloc ?_ _ | with_reducible refine Gr.setCell ?_ ?_ _ | (with_reducible refine Gr.trans ?_ (by assumption)) | omega | (dsimp only; omega))⟩
    · refine (put_any o1 n c1 l k v w6 (R1.out.keep (by repeat (first | with_reducible exact Gr.refl _ | with_reducible refine Gr.drewN ?_ _ | with_reducible refine Gr.drew ?_ | with_reducible refine Gr.alloc ?_ _ | with_reducible refine Gr.setCell ?_ ?_ _ | (with_reducible refine Gr.trans ?_ (by assumption)) | omega | (dsimp only; omega)))) (by omega) hk hv hf).mono ?_
      rintro e w7 ⟨o4, m4, c4, rfl, hr4, hg7⟩
      have b0 := hg7.keep b0
      have b1 := hg7.keep b1
      have hT := refFits_any k v w7 hk hv
      rw [hf] at hT
      have hT := Lib.hid hT
      have R4 := Lib.hid hr4
      clear hr4
      go_wp2_with fail
      refine hT.out.mono ?_
      rintro e w8 ⟨rfl, hg8⟩
      have b0 := hg8.keep b0
      have b1 := hg8.keep b1
      go_wp2_with fail
      refine (refPut_any oa n cap l k v w8 (H.out.keep (by repeat (first | with_reducible exact Gr.refl _ | with_reducible refine Gr.drewN ?_ _ | with_reducible refine Gr.drew ?_ | with_reducible refine Gr.alloc ?_ _ | with_reducible refine Gr.setCell ?_ ?_ _ | (with_reducible refine Gr.trans ?_ (by assumption)) | omega | (dsimp only; omega)))) (by omega) hk hv).mono ?_
      rintro e w9 ⟨o5, m5, c5, rfl, hr5, hg9⟩
      have hS3 := refSame_any o4 o5 m4 c4 m5 c5 _ _ w9 (R4.out.keep (by repeat (first | with_reducible exact Gr.refl _ | with_reducible refine Gr.drewN ?_ _ | with_reducible refine Gr.drew ?_ | with_reducible refine Gr.alloc ?_ _ | with_reducible refine Gr.setCell ?_ ?_ _ | (with_reducible refine Gr.trans ?_ (by assumption)) | omega | (dsimp only; omega)))) hr5
      rw [decide_eq_true rfl] at hS3
      have hS3 := Lib.hid hS3
      clear hr5
      go_wp2_with fail
      refine hS3.out.mono ?_
      rintro e w10 ⟨rfl, hg10⟩
      have hg10 := hg10.gr
      have hS4 := refSame_any o1 oa n c1 n cap l l w10 (R1.out.keep (by repeat (first | with_reducible exact Gr.refl _ | with_reducible refine Gr.drewN ?_ _ | with_reducible refine Gr.drew ?_ | with_reducible refine Gr.alloc ?_ _ | with_reducible refine Gr.setCell ?_ ?_ _ | (with_reducible refine Gr.trans ?_ (by assumption)) | omega | (dsimp only; omega)))) (H.out.keep (by repeat (first | with_reducible exact Gr.refl _ | with_reducible refine Gr.drewN ?_ _ | with_reducible refine Gr.drew ?_ | with_reducible refine Gr.alloc ?_ _ | with_reducible refine Gr.setCell ?_ ?_ _ | (with_reducible refine Gr.trans ?_ (by assumption)) | omega | (dsimp only; omega))))
      rw [decide_eq_true rfl] at hS4
      have hS4 := Lib.hid hS4
      go_wp2_with fail
      refine hS4.out.mono ?_
      rintro e w11 ⟨rfl, hg11⟩
      have hg11 := hg11.gr
      go_wp2_with (go_at_call 13; refine (awake_any _).mono ?_; rintro e w12 ⟨rfl, hg12⟩)
      go_ret
      exact ⟨rfl, by repeat (first | with_reducible exact Gr.refl _ | with_reducible refine Gr.drewN ?_ _ | with_reducible refine Gr.drew ?_ | with_reducible refine Gr.alloc ?_ _ | with_reducible refine Gr.setCell ?_ ?_ _ | (with_reducible refine Gr.trans ?_ (by assumption)) | omega | (dsimp only; omega))⟩

theorem puts_walk (oa : Option Addr) (n cap : Nat) (l : List Rw) (k v : ByteArray) (w : World) (h : RowsAt w oa n cap l) (hk : k.size ≤ maxLen) (hv : v.size ≤ maxLen) :
    Calls Try.prog 10 #[.slice oa n cap, .agg #[.string k, .string v]] w fun e w' => e = .returned (.bool true) ∧ Gr w w' := by
  by_cases h1 : k.size ≤ 100
  · by_cases h2 : v.size ≤ 100
    · exact puts_main oa n cap l k v w h hk hv h1 h2
    · exact puts_skip oa n cap l k v w h hk hv (.inr ⟨h1, by omega⟩)
  · exact puts_skip oa n cap l k v w h hk hv (.inl (by omega))
end Go.Proofs.Ytlgeaponicgdoaa
