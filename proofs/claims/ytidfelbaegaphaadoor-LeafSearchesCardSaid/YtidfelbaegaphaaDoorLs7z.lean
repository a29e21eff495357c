import Derived.Test.YtidfelbaegaphaaDoorSe8z
import Derived.Test.YtidfelbaegaphaaDoorSez
import Derived.Test.YtidfelbaegaphaaDoorUpAz
import Derived.Test.YtidfelbaegaphaaDoorFw7z
import Derived.Test.YtidfelbaegaphaaDoorSp9z
namespace Go.Proofs.YtidfelbaegaphaaDoor
set_option linter.unusedVariables false
set_option linter.unusedSimpArgs false
open Go.BigFrame Go.RowKit Go.WideShapes

/-! The law of searches. -/
set_option maxRecDepth 100000 in
set_option maxHeartbeats 20000000 in
theorem searches7 (oa : Option Addr) (n cap : Nat) (l : List Ry) (key : ByteArray) (w : World) (h : RecsAt w oa n cap l) (hes : ∀ (i : Nat) (y : Ry), l[i]? = some y → y.ents.length * 24 ≤ 140737488355328) (hk : key.size ≤ maxLen) (hh : w.cell? ⟨0, 0, none⟩ = some handleV) :
    Calls Tryd.prog 4 #[.slice oa n cap, .string key] w fun e w' => e = .returned (.bool true) ∧ Gr w w' := by
  have Hes := Lib.hid hes
  have H := Lib.hid h
  have HW := Lib.hid hh
  have hk' := hk
  unfold maxLen at hk'
  have hFe := few7_any oa n cap l w h
  clear h hes hh
  go_enter Tryd.func4, Tryd.ntmps4
  go_upto_region 1 with fail
  go_cut [18] (fun s18 wx => ∃ t : Bool, s18 = .bool t ∧ Gr w wx ∧ Hid (t = false → n ≤ 40 ∧ (∀ (i : Nat) (y : Ry), l[i]? = some y → y.x.r.rows.length ≤ 100)))
  case first =>
    have HFe := Lib.hid hFe
    clear hFe
    go_wp2_with ((go_at_call 6; (with_reducible refine HFe.out.mono ?_); rintro e w1 ⟨⟨b, rfl, hb⟩, d1, rfl⟩; have Hb := Lib.hid hb; clear hb; cases b))
    all_goals
      go_meet
      first
      | exact ⟨true, rfl, (Dr.gr ⟨d1, rfl⟩), Lib.hid fun q => by cases q⟩
      | exact ⟨_, rfl, (Dr.gr ⟨d1, rfl⟩), Lib.hid fun q => ⟨(Hb.out (by trivial)).1, (Hb.out (by trivial)).2⟩⟩
  case rest =>
    obtain ⟨t, rfl, hg1, Ht⟩ := hcut
    cases t
    rotate_left
    · go_wp2_with (go_at_call 7; (with_reducible refine (awake7_any _).mono ?_); rintro e w1 ⟨rfl, hg2⟩)
      go_ret
      exact ⟨rfl, hg1.trans hg2⟩
    obtain ⟨hn, hrs⟩ := Ht.out rfl
    have Hrs := Lib.hid hrs
    have HH := Lib.hid (H.out.keep hg1)
    have HWc := Lib.hid (hg1.keep HW.out)
    clear hrs Ht hFe H HW
    have hO := Lib.hid (own_recs oa n cap l wc HH.out (by omega) Hrs.out Hes.out)
    obtain ⟨R, hR⟩ : ∃ R, R = searchP (rcs l) key := ⟨_, rfl⟩
    have hS1 := Lib.hid fun (w1 : World) (o : Option Addr) (c : Nat) (hq : RecsAt w1 o n c l) => show Calls Tryd.prog 15 #[.slice o n c, .string key] w1 fun e w' => e = .returned (.tuple #[.string R.1, .bool R.2.1, errC R.2.2]) ∧ Gr w1 w' from by
      rw [hR]; exact search_leaf o n c l key w1 hq (by omega) Hrs.out hk
    have hS2 := Lib.hid fun (w1 : World) (hq : Gr wc w1) => show Calls Tryd.prog 16 #[.slice oa n cap, .string key] w1 fun e w' => e = .returned (.tuple #[.string R.1, .bool R.2.1, .int .i64 R.2.2]) ∧ Gr w1 w' from by
      rw [hR, search_eq]; exact refSearch_any oa n cap l key w1 (HH.out.keep hq) (by omega) Hrs.out hk
    clear hR
    go_upto_region 4 with (first | (go_at_call 8; (with_reducible refine hO.out.mono ?_); rintro e w3 ⟨o3, c3, rfl, hR3, hg3⟩) | (go_at_call 15; (with_reducible refine (hS1.out _ _ _ hR3).mono ?_); rintro e w4 ⟨rfl, hg4⟩; have hg5 := hg3.trans hg4))
    go_upto_region 5 with (go_at_call 16; (with_reducible refine (hS2.out _ hg5).mono ?_); rintro e w6 ⟨rfl, hg6⟩)
    have hg7 := hg5.trans hg6
    have HWc := Lib.hid (hg7.keep HWc.out)
    have hgw := hg1.trans hg7
    clear hO hS1 hS2 hR3 hg3 hg4 hg5 hg6 hg7 HH
    generalize hc' : R.2.2 = cc at *
    generalize R.1 = ra at *
    generalize R.2.1 = rb at *
    have hrb : (rb == rb) = true := by cases rb <;> rfl
    have hra : (ra.toList == ra.toList) = true := by simp
    have HCe := Lib.hid fun w1 (hq : Gr w6 w1) => code_law cc w1 (hq.keep HWc.out)
    clear hc' HWc
    by_cases hc : cc = 0
    · subst hc
      have HC := Lib.hid fun w1 (hq : Gr w6 w1) => show Calls Tryd.prog 13 #[.nilIface] w1 fun e w' => e = .returned (.int .i64 0) ∧ Gr w1 w' from HCe.out w1 hq
      rw [show errC 0 = Value.nilIface from rfl]
      clear HCe
      go_wp2_with (first
        | (go_at_call 7; (with_reducible refine (awake7_any _).mono ?_); rintro e w8 ⟨rfl, hg8⟩)
        | (go_at_call 13; (with_reducible refine (HC.out _ ?_).mono ?_); (focus ((repeat (first | with_reducible exact Gr.refl _ | with_reducible refine Gr.drewN ?_ _ | with_reducible refine Gr.drew ?_ | with_reducible refine Gr.alloc ?_ _ | with_reducible refine Gr.setCell ?_ ?_ _ | (with_reducible refine Gr.trans ?_ (by assumption)) | omega | (dsimp only; omega))); done)); rintro e w9 ⟨rfl, hg9⟩; (have hg10 : Gr w6 w9 := Gr.trans (by (repeat (first | with_reducible exact Gr.refl _ | with_reducible refine Gr.drewN ?_ _ | with_reducible refine Gr.drew ?_ | with_reducible refine Gr.alloc ?_ _ | with_reducible refine Gr.setCell ?_ ?_ _ | (with_reducible refine Gr.trans ?_ (by assumption)) | omega | (dsimp only; omega)))) hg9)))
      all_goals
        go_ret
        exact ⟨rfl, hgw.trans (Gr.trans (by (repeat (first | with_reducible exact Gr.refl _ | with_reducible refine Gr.drewN ?_ _ | with_reducible refine Gr.drew ?_ | with_reducible refine Gr.alloc ?_ _ | with_reducible refine Gr.setCell ?_ ?_ _ | (with_reducible refine Gr.trans ?_ (by assumption)) | omega | (dsimp only; omega)))) hg8)⟩
    · have hcd : (cc == 0) = false := by rw [beq_eq_false_iff_ne]; exact hc
      have HC := Lib.hid fun w1 (hq : Gr w6 w1) => show Calls Tryd.prog 13 #[errV cc] w1 fun e w' => e = .returned (.int .i64 cc) ∧ Gr w1 w' from errC_pos hc ▸ HCe.out w1 hq
      rw [errC_pos hc]
      clear HCe hc
      go_wp2_with (first
        | (go_at_call 7; (with_reducible refine (awake7_any _).mono ?_); rintro e w8 ⟨rfl, hg8⟩)
        | (go_at_call 13; (with_reducible refine (HC.out _ ?_).mono ?_); (focus ((repeat (first | with_reducible exact Gr.refl _ | with_reducible refine Gr.drewN ?_ _ | with_reducible refine Gr.drew ?_ | with_reducible refine Gr.alloc ?_ _ | with_reducible refine Gr.setCell ?_ ?_ _ | (with_reducible refine Gr.trans ?_ (by assumption)) | omega | (dsimp only; omega))); done)); rintro e w9 ⟨rfl, hg9⟩; (have hg10 : Gr w6 w9 := Gr.trans (by (repeat (first | with_reducible exact Gr.refl _ | with_reducible refine Gr.drewN ?_ _ | with_reducible refine Gr.drew ?_ | with_reducible refine Gr.alloc ?_ _ | with_reducible refine Gr.setCell ?_ ?_ _ | (with_reducible refine Gr.trans ?_ (by assumption)) | omega | (dsimp only; omega)))) hg9)))
      all_goals
        go_ret
        exact ⟨rfl, hgw.trans (Gr.trans (by (repeat (first | with_reducible exact Gr.refl _ | with_reducible refine Gr.drewN ?_ _ | with_reducible refine Gr.drew ?_ | with_reducible refine Gr.alloc ?_ _ | with_reducible refine Gr.setCell ?_ ?_ _ | (with_reducible refine Gr.trans ?_ (by assumption)) | omega | (dsimp only; omega)))) hg8)⟩
end Go.Proofs.YtidfelbaegaphaaDoor
