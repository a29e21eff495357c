import Derived.Test.YtfejdbcfcpmdiaaNb
namespace Go.Proofs.Ytfejdbcfcpmdiaa
set_option linter.unusedVariables false
set_option linter.unusedSimpArgs false
open Go.BigFrame Go.RowKit Go.WideShapes

abbrev doW (w : World) (vb n th : Int) (r : Bool) (oa : Option Addr) (m cap : Nat) : World := w.alloc (.cells #[.int .i64 vb, .int .i64 n, .int .i64 th, .bool r, .slice oa m cap] 63)

set_option maxRecDepth 100000 in
set_option maxHeartbeats 4000000 in
theorem nobody_walk (vb n th : Int) (r : Bool) (oa : Option Addr) (m cap : Nat) (l : List Wt) (w : World) (h : WritesAt w oa m cap l) :
    Calls Try.prog 8 #[.agg #[.int .i64 vb, .int .i64 n, .int .i64 th, .bool r, .slice oa m cap]] w fun e w' => e = .returned (.bool true) ∧ Gr w w' := by
  have b1 : (doW w vb n th r oa m cap).cell? ⟨w.heap.size, 1, none⟩ = some (.int .i64 n) := World.cell?_alloc_new w _ _ 1
  have b2 : (doW w vb n th r oa m cap).cell? ⟨w.heap.size, 2, none⟩ = some (.int .i64 th) := World.cell?_alloc_new w _ _ 2
  have b4 : (doW w vb n th r oa m cap).cell? ⟨w.heap.size, 4, none⟩ = some (.slice oa m cap) := World.cell?_alloc_new w _ _ 4
  have hF := Lib.hid (few_w oa m cap l (doW w vb n th r oa m cap) (h.keep (by repeat (first | with_reducible exact Gr.refl _ | with_reducible refine Gr.drewN ?_ _ | with_reducible refine Gr.drew ?_ | with_reducible refine Gr.alloc ?_ _ | with_reducible refine Gr.setCell ?_ ?_ _ | (with_reducible refine Gr.trans ?_ (by assumption)) | omega | (dsimp only; omega)))))
  have H := Lib.hid h
  clear h
  have Hb := Lib.hid (fun w2 (hg : Gr (doW w vb n th r oa m cap) w2) => And.intro (hg.keep b1) (And.intro (hg.keep b2) (hg.keep b4)))
  go_enter Try.func8, Try.ntmps8
  go_wp2_with fail
  refine hF.out.mono ?_
  rintro e w1 ⟨⟨b, rfl, hb⟩, d, rfl⟩
  have hg1 : Gr (doW w vb n th r oa m cap) ((doW w vb n th r oa m cap).drewN d) := by repeat (first | with_reducible exact Gr.refl _ | with_reducible refine Gr.drewN ?_ _ | with_reducible refine Gr.drew ?_ | with_reducible refine Gr.alloc ?_ _ | with_reducible refine Gr.setCell ?_ ?_ _ | (with_reducible refine Gr.trans ?_ (by assumption)) | omega | (dsimp only; omega))
  have hg01 : Gr w ((doW w vb n th r oa m cap).drewN d) := by repeat (first | with_reducible exact Gr.refl _ | with_reducible refine Gr.drewN ?_ _ | with_reducible refine Gr.drew ?_ | with_reducible refine Gr.alloc ?_ _ | with_reducible refine Gr.setCell ?_ ?_ _ | (with_reducible refine Gr.trans ?_ (by assumption)) | omega | (dsimp only; omega))
  obtain ⟨b1, b2, b4⟩ := Hb.out _ hg1
  generalize (doW w vb n th r oa m cap).drewN d = w1 at *
  cases b
  · go_wp2_with fail
    refine (awake_any _).mono ?_
    rintro e w2 ⟨rfl, hg2⟩
    go_wp2_with fail
    go_ret
    exact ⟨rfl, by repeat (first | with_reducible exact Gr.refl _ | with_reducible refine Gr.drewN ?_ _ | with_reducible refine Gr.drew ?_ | with_reducible refine Gr.alloc ?_ _ | with_reducible refine Gr.setCell ?_ ?_ _ | (with_reducible refine Gr.trans ?_ (by assumption)) | omega | (dsimp only; omega))⟩
  have hn := hb rfl
  clear hb hF
  go_wp2_with fail
  go_region_with (first
    | (go_at_call 15; ((with_reducible refine Calls.mono (given_n (H.out.keep (hg01.trans ?_)) (by omega)) ?_); (focus ((repeat (first | with_reducible exact Gr.refl _ | with_reducible refine Gr.drewN ?_ _ | with_reducible refine Gr.drew ?_ | with_reducible refine Gr.alloc ?_ _ | with_reducible refine Gr.setCell ?_ ?_ _ | (with_reducible refine Gr.trans ?_ (by assumption)) | omega | (dsimp only; omega))); done))); rintro e w2 ⟨o1, c1, rfl, ho1, hg2⟩; obtain ⟨b1, b2, b4⟩ := Hb.out w2 (hg1.trans (by (repeat (first | with_reducible exact Gr.refl _ | with_reducible refine Gr.drewN ?_ _ | with_reducible refine Gr.drew ?_ | with_reducible refine Gr.alloc ?_ _ | with_reducible refine Gr.setCell ?_ ?_ _ | (with_reducible refine Gr.trans ?_ (by assumption)) | omega | (dsimp only; omega))))))
    | (go_at_call 22; (with_reducible refine (append_nil _ _ _).mono ?_); rintro e w3 ⟨rfl, rfl⟩))
  all_goals
    have hg02 : Gr w w2 := hg01.trans (Gr.trans (by (repeat (first | with_reducible exact Gr.refl _ | with_reducible refine Gr.drewN ?_ _ | with_reducible refine Gr.drew ?_ | with_reducible refine Gr.alloc ?_ _ | with_reducible refine Gr.setCell ?_ ?_ _ | (with_reducible refine Gr.trans ?_ (by assumption)) | omega | (dsimp only; omega)))) hg2)
    clear ho1 hg2 hg01 hg1 Hb H
    go_wp2_with (first
      | (go_at_call 28; (with_reducible refine (at_nil _ _).mono ?_); rintro e w' ⟨rfl, rfl⟩)
      | (go_at_call 29; (with_reducible refine (marked_nil _ _).mono ?_); rintro e w' ⟨rfl, rfl⟩)
      | (go_at_call 23; (with_reducible refine (grab_nil _ _).mono ?_); rintro e w' ⟨rfl, rfl⟩)
      | (go_at_call 24; (with_reducible refine (yield_nil _ _).mono ?_); rintro e w' ⟨rfl, rfl⟩)
      | (go_at_call 30; (with_reducible refine (advance_nil _ _).mono ?_); rintro e w' ⟨rfl, rfl⟩)
      | (go_at_call 31; (with_reducible refine (mark_nil _ _ _).mono ?_); rintro e w' ⟨rfl, rfl⟩))
    have hcell : ∀ k, k < 7 → (w2.alloc (.cells #[errV 1, errV 1, errV 1, errV 1, errV 1, errV 1, errV 1] 53)).cell? ⟨w2.heap.size, k, none⟩ = some (errV 1) := fun k hk => by
      rw [World.cell?_alloc_new w2 _ _ k]
      have : k = 0 ∨ k = 1 ∨ k = 2 ∨ k = 3 ∨ k = 4 ∨ k = 5 ∨ k = 6 := by omega
      rcases this with rfl | rfl | rfl | rfl | rfl | rfl | rfl <;> rfl
    have hgW : Gr w (w2.alloc (.cells #[errV 1, errV 1, errV 1, errV 1, errV 1, errV 1, errV 1] 53)) := hg02.alloc _
    have b1 := ((Gr.refl w2).alloc (.cells #[errV 1, errV 1, errV 1, errV 1, errV 1, errV 1, errV 1] 53)).keep b1
    generalize w2.alloc (.cells #[errV 1, errV 1, errV 1, errV 1, errV 1, errV 1, errV 1] 53) = W at *
    generalize w2.heap.size = B at *
    have Hcell := Lib.hid hcell
    clear hcell
    go_loopw [82] (fun i wr => ∃ k : Nat, k ≤ 7 ∧ i = .int .i64 k ∧ Gr W wr) (fun i _ => 7 - (intOf i).toNat)
    case atStart => exact ⟨0, by omega, rfl, Gr.refl _⟩
    case round =>
      obtain ⟨k, hk, rfl, hg⟩ := hrel
      by_cases hlt : k < 7
      · have a1 := hg.keep (Hcell.out k hlt)
        go_wp2_with (go_at_call 32; (with_reducible refine (fault_is _ _ _).mono ?_); rintro e w' ⟨rfl, rfl⟩)
        go_roundw
        case rel => exact ⟨k + 1, by omega, by go_num, by repeat (first | with_reducible exact Gr.refl _ | with_reducible refine Gr.drewN ?_ _ | with_reducible refine Gr.drew ?_ | with_reducible refine Gr.alloc ?_ _ | with_reducible refine Gr.setCell ?_ ?_ _ | (with_reducible refine Gr.trans ?_ (by assumption)) | omega | (dsimp only; omega))⟩
        case measure => simp [intOf]; omega
      · obtain rfl : k = 7 := by omega
        have b1 := hg.keep b1
        go_wp2_with (first
          | (go_at_call 25; (with_reducible refine (last_nil _).mono ?_); rintro e w' ⟨rfl, rfl⟩)
          | (go_at_call 33; (with_reducible refine (base_nil _).mono ?_); rintro e w' ⟨rfl, rfl⟩)
          | (go_at_call 34; (with_reducible refine (count_nil _).mono ?_); rintro e w' ⟨rfl, rfl⟩)
          | (go_at_call 35; (with_reducible refine (trim_nil _ _).mono ?_); rintro e w' ⟨rfl, rfl⟩)
          | (go_at_call 36; (with_reducible refine (copy_nil _).mono ?_); rintro e w' ⟨rfl, rfl⟩))
        refine (awake_any _).mono ?_
        rintro e w9 ⟨rfl, hg9⟩
        go_wp2_with fail
        go_ret
        exact ⟨rfl, hgW.trans (hg.trans (by (repeat (first | with_reducible exact Gr.refl _ | with_reducible refine Gr.drewN ?_ _ | with_reducible refine Gr.drew ?_ | with_reducible refine Gr.alloc ?_ _ | with_reducible refine Gr.setCell ?_ ?_ _ | (with_reducible refine Gr.trans ?_ (by assumption)) | omega | (dsimp only; omega)))))⟩
end Go.Proofs.Ytfejdbcfcpmdiaa
