import Derived.Test.YtlgeaponicgdoaaTr
namespace Go.Proofs.Ytlgeaponicgdoaa
set_option linter.unusedVariables false
set_option linter.unusedSimpArgs false
open Go.BigFrame Go.RowKit Go.WideShapes

abbrev spanW (w : World) (low high : ByteArray) (u : Bool) : World := w.alloc (.cells #[.string low, .string high, .bool u] 39)

set_option maxRecDepth 100000 in
set_option maxHeartbeats 1000000 in
theorem takes_skip (oa : Option Addr) (n cap : Nat) (l : List Rw) (low high : ByteArray) (u : Bool) (lim : Int) (rev : Bool) (w : World) (h : RowsAt w oa n cap l) (hl : low.size ≤ maxLen) (hh : high.size ≤ maxLen) (hs : 100 < low.size ∨ (low.size ≤ 100 ∧ 100 < high.size)) :
    Calls Try.prog 4 #[.slice oa n cap, .agg #[.string low, .string high, .bool u], .int .i64 lim, .bool rev] w fun e w' => e = .returned (.bool true) ∧ Gr w w' := by
  have hF := Lib.hid (few_any oa n cap l (spanW w low high u) (h.keep (by repeat (first | with_reducible exact Gr.refl _ | with_reducible refine Gr.drewN ?_ _ | with_reducible refine Gr.drew ?_ | with_reducible refine Gr.alloc ?_ _ | with_reducible refine Gr.setCell ?_ ?_ _ | (with_reducible refine Gr.trans ?_ (by assumption)) | omega | (dsimp only; omega)))))
  have b0 := fun d : Nat => (show ((spanW w low high u).drewN d).cell? ⟨w.heap.size, 0, none⟩ = some (.string low) from World.cell?_alloc_new w _ _ 0)
  have b1 := fun d : Nat => (show ((spanW w low high u).drewN d).cell? ⟨w.heap.size, 1, none⟩ = some (.string high) from World.cell?_alloc_new w _ _ 1)
  clear h
  unfold maxLen at hl hh
  rcases hs with hs | ⟨hs, hs2⟩
  all_goals
    go_enter Try.func4, Try.ntmps4
    go_wp2_with fail
    refine hF.out.mono ?_
    rintro e w1 ⟨⟨b, rfl, hb⟩, d, rfl⟩
    cases b
    all_goals
      go_wp2_with fail
      refine (awake_any _).mono ?_
      rintro e w2 ⟨rfl, hg2⟩
      go_wp2_with fail
      go_ret
      exact ⟨rfl, by repeat (first | with_reducible exact Gr.refl _ | with_reducible refine Gr.drewN ?_ _ | with_reducible refine Gr.drew ?_ | with_reducible refine Gr.alloc ?_ _ | with_reducible refine Gr.setCell ?_ ?_ _ | (with_reducible refine Gr.trans ?_ (by assumption)) | omega | (dsimp only; omega))⟩

set_option maxRecDepth 100000 in
set_option maxHeartbeats 1000000 in
theorem takes_main (oa : Option Addr) (n cap : Nat) (l : List Rw) (low high : ByteArray) (u : Bool) (lim : Int) (rev : Bool) (w : World) (h : RowsAt w oa n cap l) (hl : low.size ≤ maxLen) (hh : high.size ≤ maxLen) (hl1 : low.size ≤ 100) (hh1 : high.size ≤ 100) :
    Calls Try.prog 4 #[.slice oa n cap, .agg #[.string low, .string high, .bool u], .int .i64 lim, .bool rev] w fun e w' => e = .returned (.bool true) ∧ Gr w w' := by
  have hF := Lib.hid (few_any oa n cap l (spanW w low high u) (h.keep (by repeat (first | with_reducible exact Gr.refl _ | with_reducible refine Gr.drewN ?_ _ | with_reducible refine Gr.drew ?_ | with_reducible refine Gr.alloc ?_ _ | with_reducible refine Gr.setCell ?_ ?_ _ | (with_reducible refine Gr.trans ?_ (by assumption)) | omega | (dsimp only; omega)))))
  have b0 : (spanW w low high u).cell? ⟨w.heap.size, 0, none⟩ = some (.string low) := World.cell?_alloc_new w _ _ 0
  have b1 : (spanW w low high u).cell? ⟨w.heap.size, 1, none⟩ = some (.string high) := World.cell?_alloc_new w _ _ 1
  have b2 : (spanW w low high u).cell? ⟨w.heap.size, 2, none⟩ = some (.bool u) := World.cell?_alloc_new w _ _ 2
  have H := Lib.hid h
  clear h
  go_enter Try.func4, Try.ntmps4
  go_wp2_with fail
  refine hF.out.mono ?_
  rintro e w1 ⟨⟨b, rfl, hb⟩, d, rfl⟩
  have b0 : ((spanW w low high u).drewN d).cell? ⟨w.heap.size, 0, none⟩ = some (.string low) := b0
  have b1 : ((spanW w low high u).drewN d).cell? ⟨w.heap.size, 1, none⟩ = some (.string high) := b1
  have b2 : ((spanW w low high u).drewN d).cell? ⟨w.heap.size, 2, none⟩ = some (.bool u) := b2
  have hg1 : Gr w ((spanW w low high u).drewN d) := by repeat (first | with_reducible exact Gr.refl _ | with_reducible refine Gr.drewN ?_ _ | with_reducible refine Gr.drew ?_ | with_reducible refine Gr.alloc ?_ _ | with_reducible refine Gr.setCell ?_ ?_ _ | (with_reducible refine Gr.trans ?_ (by assumption)) | omega | (dsimp only; omega))
  generalize (spanW w low high u).drewN d = w1 at *
  cases b
  · go_wp2_with fail
    refine (awake_any _).mono ?_
    rintro e w2 ⟨rfl, hg2⟩
    go_wp2_with fail
    go_ret
    exact ⟨rfl, by repeat (first | with_reducible exact Gr.refl _ | with_reducible refine Gr.drewN ?_ _ | with_reducible refine Gr.drew ?_ | with_reducible refine Gr.alloc ?_ _ | with_reducible refine Gr.setCell ?_ ?_ _ | (with_reducible refine Gr.trans ?_ (by assumption)) | omega | (dsimp only; omega))⟩
  · have hn := hb rfl
    clear hb
    go_wp2_with fail
    refine (take_any oa n cap l low high u lim rev w1 (H.out.keep (by repeat (first | with_reducible exact Gr.refl _ | with_reducible refine Gr.drewN ?_ _ | with_reducible refine Gr.drew ?_ | with_reducible refine Gr.alloc ?_ _ | with_reducible refine Gr.setCell ?_ ?_ _ | (with_reducible refine Gr.trans ?_ (by assumption)) | omega | (dsimp only; omega)))) (by omega) hl hh).mono ?_
    rintro e w2 ⟨o1, m1, c1, rfl, hr1, hg2, -⟩
    have b0 := hg2.keep b0
    have b1 := hg2.keep b1
    have b2 := hg2.keep b2
    have R1 := Lib.hid hr1
    clear hr1
    go_wp2_with fail
    refine (refTake_any oa n cap l low high u lim rev w2 (H.out.keep (by repeat (first | with_reducible exact Gr.refl _ | with_reducible refine Gr.drewN ?_ _ | with_reducible refine Gr.drew ?_ | with_reducible refine Gr.alloc ?_ _ | with_reducible refine Gr.setCell ?_ ?_ _ | (with_reducible refine Gr.trans ?_ (by assumption)) | omega | (dsimp only; omega)))) (by omega) hl hh).mono ?_
    rintro e w3 ⟨o2, m2, c2, rfl, hr2, hg3⟩
    have hS := refSame_any o1 o2 m1 c1 m2 c2 _ _ w3 (R1.out.keep (by repeat (first | with_reducible exact Gr.refl _ | with_reducible refine Gr.drewN ?_ _ | with_reducible refine Gr.drew ?_ | with_reducible refine Gr.alloc ?_ _ | with_reducible refine Gr.setCell ?_ ?_ _ | (with_reducible refine Gr.trans ?_ (by assumption)) | omega | (dsimp only; omega)))) hr2
    rw [decide_eq_true rfl] at hS
    have hS := Lib.hid hS
    clear hr2
    go_wp2_with fail
    refine hS.out.mono ?_
    rintro e w4 ⟨rfl, hg4⟩
    have hg4 := hg4.gr
    go_wp2_with (go_at_call 13; refine (awake_any _).mono ?_; rintro e w5 ⟨rfl, hg5⟩)
    go_ret
    exact ⟨rfl, by repeat (first | with_reducible exact Gr.refl _ | with_reducible refine Gr.drewN ?_ _ | with_reducible refine Gr.drew ?_ | with_reducible refine Gr.alloc ?_ _ | with_reducible refine Gr.setCell ?_ ?_ _ | (with_reducible refine Gr.trans ?_ (by assumption)) | omega | (dsimp only; omega))⟩

theorem takes_walk (oa : Option Addr) (n cap : Nat) (l : List Rw) (low high : ByteArray) (u : Bool) (lim : Int) (rev : Bool) (w : World) (h : RowsAt w oa n cap l) (hl : low.size ≤ maxLen) (hh : high.size ≤ maxLen) :
    Calls Try.prog 4 #[.slice oa n cap, .agg #[.string low, .string high, .bool u], .int .i64 lim, .bool rev] w fun e w' => e = .returned (.bool true) ∧ Gr w w' := by
  by_cases h1 : low.size ≤ 100
  · by_cases h2 : high.size ≤ 100
    · exact takes_main oa n cap l low high u lim rev w h hl hh h1 h2
    · exact takes_skip oa n cap l low high u lim rev w h hl hh (.inr ⟨h1, by omega⟩)
  · exact takes_skip oa n cap l low high u lim rev w h hl hh (.inl (by omega))
end Go.Proofs.Ytlgeaponicgdoaa
