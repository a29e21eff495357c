import Derived.Deep.CutRange
import Derived.Test.YtkngjnkecmjakaaDoorLawOrs
import Derived.Test.YtkngjnkecmjakaaDoorEvx
import Derived.Test.YtkngjnkecmjakaaDoorId
namespace Go.Proofs.YtkngjnkecmjakaaDoor
set_option linter.unusedVariables false
set_option linter.unusedSimpArgs false
open Go.BigFrame Go.RowKit Go.WideShapes

set_option maxRecDepth 100000 in
theorem faultIs_any (n m : Int) (w : World) : Calls Tryd.prog 14 #[errV n, .int .i64 m] w fun e w' => e = .returned (.bool (n == m)) ∧ Gr w w' := by
  go_enter Tryd.func14, Tryd.ntmps14
  go_wp2_with fail
  refine (is_code n m _).mono ?_
  rintro e w1 ⟨rfl, rfl⟩
  go_wp2_with fail
  go_ret
  exact ⟨rfl, by repeat (first | with_reducible exact Gr.refl _ | with_reducible refine Gr.drewN ?_ _ | with_reducible refine Gr.drew ?_ | with_reducible refine Gr.alloc ?_ _ | with_reducible refine Gr.setCell ?_ ?_ _ | (with_reducible refine Gr.trans ?_ (by assumption)) | omega | (dsimp only; omega))⟩

/-- the event as the law sets it -/
def idled (e : Ev) : Ev := ⟨e.thread, e.kind, e.key, e.cval, e.val, 3, 0, 1099511627776⟩
theorem idled_idler (e : Ev) : Idler (idled e) := ⟨rfl, rfl, rfl⟩
/-- the box behind the law's three settings -/
theorem idle_set {w : World} {b : Nat} {e : Ev} (v0 : w.cell? ⟨b, 0, none⟩ = some (.int .i64 e.thread)) (v1 : w.cell? ⟨b, 1, none⟩ = some (.int .i64 e.kind)) (v2 : w.cell? ⟨b, 2, none⟩ = some (.string e.key)) (v3 : w.cell? ⟨b, 3, none⟩ = some (.string e.cval)) (v4 : w.cell? ⟨b, 4, none⟩ = some (.string e.val)) (v5 : w.cell? ⟨b, 5, none⟩ = some (.int .i64 e.code)) (v6 : w.cell? ⟨b, 6, none⟩ = some (.int .i64 e.beg)) (v7 : w.cell? ⟨b, 7, none⟩ = some (.int .i64 e.fin)) :
    let W := (((w.setCell ⟨b, 6, none⟩ (.int .i64 0)).setCell ⟨b, 7, none⟩ (.int .i64 1099511627776)).setCell ⟨b, 5, none⟩ (.int .i64 3))
    W.cell? ⟨b, 0, none⟩ = some (.int .i64 (idled e).thread) ∧ W.cell? ⟨b, 1, none⟩ = some (.int .i64 (idled e).kind) ∧ W.cell? ⟨b, 2, none⟩ = some (.string (idled e).key) ∧ W.cell? ⟨b, 3, none⟩ = some (.string (idled e).cval) ∧ W.cell? ⟨b, 4, none⟩ = some (.string (idled e).val) ∧ W.cell? ⟨b, 5, none⟩ = some (.int .i64 (idled e).code) ∧ W.cell? ⟨b, 6, none⟩ = some (.int .i64 (idled e).beg) ∧ W.cell? ⟨b, 7, none⟩ = some (.int .i64 (idled e).fin) := by
  have oth : ∀ (w : World) (i j : Nat) (x : Value) (y : Option Value), j ≠ i → w.cell? ⟨b, j, none⟩ = y → (w.setCell ⟨b, i, none⟩ x).cell? ⟨b, j, none⟩ = y := fun w i j x y hne h => by
    rw [World.cell?_setCell_other _ _ _ _ (by simp only [ne_eq, Addr.mk.injEq, not_and]; omega)]; exact h
  have keep : ∀ (j : Nat) (y : Option Value), j ≠ 5 → j ≠ 6 → j ≠ 7 → w.cell? ⟨b, j, none⟩ = y → (((w.setCell ⟨b, 6, none⟩ (.int .i64 0)).setCell ⟨b, 7, none⟩ (.int .i64 1099511627776)).setCell ⟨b, 5, none⟩ (.int .i64 3)).cell? ⟨b, j, none⟩ = y := fun j y h5 h6 h7 h => oth _ _ _ _ _ h5 (oth _ _ _ _ _ h7 (oth _ _ _ _ _ h6 h))
  refine ⟨keep 0 _ (by decide) (by decide) (by decide) v0, keep 1 _ (by decide) (by decide) (by decide) v1, keep 2 _ (by decide) (by decide) (by decide) v2, keep 3 _ (by decide) (by decide) (by decide) v3, keep 4 _ (by decide) (by decide) (by decide) v4, ?_, ?_, ?_⟩
  · exact World.cell?_setCell_same _ _ _ (oth _ _ _ _ _ (by decide) (oth _ _ _ _ _ (by decide) v5))
  · exact oth _ _ _ _ _ (by decide) (oth _ _ _ _ _ (by decide) (World.cell?_setCell_same _ _ _ v6))
  · exact oth _ _ _ _ _ (by decide) (World.cell?_setCell_same _ _ _ (oth _ _ _ _ _ (by decide) v7))
theorem app_len (l : List Ev) (e : Ev) : (l ++ [e]).length = l.length + 1 := by simp
theorem idle_res {l : List Ev} {rows : List Rw} {e : Ev} (hi : Idler e) (he : evOk e = true) (hl : l.length ≤ 5) : (resO l rows).2.2 = (resO (l ++ [e]) rows).2.2 ∧ rowsOkB (resO l rows).2.1 = rowsOkB (resO (l ++ [e]) rows).2.1 := by
  have hall : (∀ i, i < (l ++ [e]).length → evOk (evAt (l ++ [e]) i) = true) ↔ (∀ i, i < l.length → evOk (evAt l i) = true) := by
    constructor
    · intro h i hil
      have := h i (by simp; omega)
      rwa [evAt_app_lt hil] at this
    · intro h i hil
      rw [app_len] at hil
      rcases Nat.lt_or_ge i l.length with q | q
      · rw [evAt_app_lt q]; exact h i q
      · obtain rfl : i = l.length := by omega
        rw [evAt_app_last]; exact he
  unfold resO
  by_cases hg : (∀ i, i < l.length → evOk (evAt l i) = true) ∧ rowsOkB rows = true
  · rw [if_pos hg, if_pos (show l.length ≤ 10 by omega), if_pos (show (∀ i, i < (l ++ [e]).length → evOk (evAt (l ++ [e]) i) = true) ∧ rowsOkB rows = true from ⟨hall.2 hg.1, hg.2⟩), if_pos (show (l ++ [e]).length ≤ 10 by rw [app_len]; omega)]
    have hs := idle_same hi he hg.1 hg.2
    cases h1 : findF l l.length (List.replicate l.length false) [] rows with
    | none =>
      rw [h1] at hs
      cases h2 : findF (l ++ [e]) (l ++ [e]).length (List.replicate (l ++ [e]).length false) [] rows with
      | none => exact ⟨rfl, rfl⟩
      | some r => rw [h2] at hs; cases hs
    | some r =>
      rw [h1] at hs
      cases h2 : findF (l ++ [e]) (l ++ [e]).length (List.replicate (l ++ [e]).length false) [] rows with
      | none => rw [h2] at hs; cases hs
      | some r2 =>
        refine ⟨rfl, ?_⟩
        show rowsOkB r.2 = rowsOkB r2.2
        rw [find_rows hg.1 hg.2 h1, find_rows (hall.2 hg.1) hg.2 h2]
  · rw [if_neg hg, if_neg (fun q => hg ⟨hall.1 q.1, q.2⟩)]
    exact ⟨rfl, rfl⟩
theorem idle_bad {l : List Ev} {rows : List Rw} {e : Ev} (he : evOk e = false) : (resO (l ++ [e]) rows).2.2 = 1 := by
  unfold resO
  rw [if_neg]
  intro q
  have := q.1 l.length (by simp)
  rw [evAt_app_last, he] at this
  cases this

set_option maxRecDepth 100000 in
set_option maxHeartbeats 8000000 in
theorem idl_walk (ol : Option Addr) (nl cl : Nat) (l : List Ev) (o : Option Addr) (n c : Nat) (rows : List Rw) (e : Ev) (w : World) (hE : EvsAt w ol nl cl l) (hR : RowsAt w o n c rows) (hsz : e.key.size ≤ maxLen ∧ e.cval.size ≤ maxLen ∧ e.val.size ≤ maxLen) (hh : w.cell? ⟨0, 0, none⟩ = some handleV) :
    Calls Tryd.prog 4 #[.slice ol nl cl, .slice o n c, e.v] w fun e w' => e = .returned (.bool true) ∧ Gr w w' := by
  have HE := Lib.hid hE
  have HR := Lib.hid hR
  have Hh := Lib.hid hh
  have hlen := hE.len
  have hrlen := hR.len
  have hn1 := hE.cap_le
  have hm1 := hE.cap_max
  unfold maxLen at hm1
  obtain ⟨v0, v1, v2, v3, v4, v5, v6, v7⟩ := evbox w e
  have hW := (Gr.refl w).alloc (.cells #[.int .i64 e.thread, .int .i64 e.kind, .string e.key, .string e.cval, .string e.val, .int .i64 e.code, .int .i64 e.beg, .int .i64 e.fin] 38)
  have hfz : ∀ o, (evW w e).frozen? ⟨w.heap.size, o, none⟩ = false := fun o => blk_free (B := w.heap.size) (show (w.heap.push _)[w.heap.size]? = _ from Array.getElem?_push_size) o
  have hBW : w.heap.size < (evW w e).heap.size := by show w.heap.size < (w.heap.push _).size; rw [Array.size_push]; omega
  unfold evW at v0 v1 v2 v3 v4 v5 v6 v7 hfz hBW
  clear hE hR hh
  go_enter Tryd.func4, Tryd.ntmps4
  go_upto_region 1 with fail
  have hBX := Nat.le_refl w.heap.size
  generalize hbx : w.heap.size = BX at *
  generalize w.alloc (.cells #[.int .i64 e.thread, .int .i64 e.kind, .string e.key, .string e.cval, .string e.val, .int .i64 e.code, .int .i64 e.beg, .int .i64 e.fin] 38) = W at *
  have hle : w.heap.size ≤ BX := Nat.le_of_eq hbx
  by_cases h5 : 5 < nl
  · have h5' : decide (5 < (nl : Int)) = true := by simp; omega
    go_big_quiet (fail)
    go_wp2_with fail
    refine (awake19_any _).mono ?_
    rintro e w1 ⟨rfl, hg1⟩
    go_wp2_with fail
    go_ret
    exact ⟨rfl, hW.trans ((Gr.refl W).drewN _ |>.trans hg1)⟩
  have h5' : decide (5 < (nl : Int)) = false := by simp; omega
  go_cut [30] from 13 to 29 (fun s30 wx => ∃ b, s30 = .bool b ∧ (b = false → n ≤ 100) ∧ Gr W wx)
  case first =>
    have d0 := (Gr.refl W).drew.keep v0
    have d1 := (Gr.refl W).drew.keep v1
    have d2 := (Gr.refl W).drew.keep v2
    have d3 := (Gr.refl W).drew.keep v3
    have d4 := (Gr.refl W).drew.keep v4
    have d5 := (Gr.refl W).drew.keep v5
    have d6 := (Gr.refl W).drew.keep v6
    have d7 := (Gr.refl W).drew.keep v7
    have a0 := ((Gr.refl W).alloc (.cells #[] 38)).drew.keep v0
    have a1 := ((Gr.refl W).alloc (.cells #[] 38)).drew.keep v1
    have a2 := ((Gr.refl W).alloc (.cells #[] 38)).drew.keep v2
    have a3 := ((Gr.refl W).alloc (.cells #[] 38)).drew.keep v3
    have a4 := ((Gr.refl W).alloc (.cells #[] 38)).drew.keep v4
    have a5 := ((Gr.refl W).alloc (.cells #[] 38)).drew.keep v5
    have a6 := ((Gr.refl W).alloc (.cells #[] 38)).drew.keep v6
    have a7 := ((Gr.refl W).alloc (.cells #[] 38)).drew.keep v7
    cases hB : fewB (l ++ [e])
    · have HB := Lib.hid hB
      clear hB
      (first | go_region_law (first
      | (refine step_ev_w ?_ _ _ rfl W.heap.size (Gr.le (((Gr.refl W).alloc (.cells #[] 38)).drew)) rfl ((evown_empty (w := W) (b := W.heap.size) (base := W.heap.size) rfl (Nat.le_refl _)).keep ((Gr.refl _).drew)) rfl (HE.out.keep (hW.trans (((Gr.refl W).alloc (.cells #[] 38)).drew))) (by omega) ?_; rfl; intro oc c3 w1 ho1 hb1; rw [Nat.zero_add, List.nil_append] at ho1; have hg1 : Gr W w1 := evgrown_gr hb1 ((evown_empty (w := W) (b := W.heap.size) (base := W.heap.size) rfl (Nat.le_refl _)).keep ((Gr.refl _).drew)) (((Gr.refl W).alloc (.cells #[] 38)).drew) (Nat.le_refl _); have k0 := hg1.keep v0; have k1 := hg1.keep v1; have k2 := hg1.keep v2; have k3 := hg1.keep v3; have k4 := hg1.keep v4; have k5 := hg1.keep v5; have k6 := hg1.keep v6; have k7 := hg1.keep v7; have ho1 := Lib.hid ho1)
      | (refine step_ev_w ?_ _ _ rfl W.heap.size (Gr.le ((((Gr.refl W).alloc (.cells #[] 38)).alloc (.cells #[.int .i64 e.thread, .int .i64 e.kind, .string e.key, .string e.cval, .string e.val, .int .i64 e.code, .int .i64 e.beg, .int .i64 e.fin] 38)).drew)) rfl (((evown_empty (w := W) (b := W.heap.size) (base := W.heap.size) rfl (Nat.le_refl _)).keep ((Gr.refl _).alloc (.cells #[.int .i64 e.thread, .int .i64 e.kind, .string e.key, .string e.cval, .string e.val, .int .i64 e.code, .int .i64 e.beg, .int .i64 e.fin] 38))).keep ((Gr.refl _).drew)) rfl (HE.out.keep (hW.trans ((((Gr.refl W).alloc (.cells #[] 38)).alloc (.cells #[.int .i64 e.thread, .int .i64 e.kind, .string e.key, .string e.cval, .string e.val, .int .i64 e.code, .int .i64 e.beg, .int .i64 e.fin] 38)).drew))) (by omega) ?_; rfl; intro oc c3 w1 ho1 hb1; rw [Nat.zero_add, List.nil_append] at ho1; have hg1 : Gr W w1 := evgrown_gr hb1 (((evown_empty (w := W) (b := W.heap.size) (base := W.heap.size) rfl (Nat.le_refl _)).keep ((Gr.refl _).alloc (.cells #[.int .i64 e.thread, .int .i64 e.kind, .string e.key, .string e.cval, .string e.val, .int .i64 e.code, .int .i64 e.beg, .int .i64 e.fin] 38))).keep ((Gr.refl _).drew)) ((((Gr.refl W).alloc (.cells #[] 38)).alloc (.cells #[.int .i64 e.thread, .int .i64 e.kind, .string e.key, .string e.cval, .string e.val, .int .i64 e.code, .int .i64 e.beg, .int .i64 e.fin] 38)).drew) (Nat.le_refl _); have k0 := hg1.keep v0; have k1 := hg1.keep v1; have k2 := hg1.keep v2; have k3 := hg1.keep v3; have k4 := hg1.keep v4; have k5 := hg1.keep v5; have k6 := hg1.keep v6; have k7 := hg1.keep v7; have hB1 := Lib.hid (ev_grown (b := W.heap.size + 1) ((ev_fresh (b := W.heap.size + 1) (W.alloc (.cells #[] 38)) e (by show _ = (W.heap.push _).size; rw [Array.size_push]) hsz).keep ((Gr.refl _).drew)) hb1 (by omega)); have ho1 := Lib.hid ho1)
      | (refine step_ev_w ?_ _ _ rfl W.heap.size (Gr.le ((((Gr.refl W).alloc (.cells #[.int .i64 e.thread, .int .i64 e.kind, .string e.key, .string e.cval, .string e.val, .int .i64 e.code, .int .i64 e.beg, .int .i64 e.fin] 38)).alloc (.cells #[] 38)).drew)) rfl ((evown_empty (w := W.alloc (.cells #[.int .i64 e.thread, .int .i64 e.kind, .string e.key, .string e.cval, .string e.val, .int .i64 e.code, .int .i64 e.beg, .int .i64 e.fin] 38)) (b := W.heap.size + 1) (base := W.heap.size) (by show _ = (W.heap.push _).size; rw [Array.size_push]) (by omega)).keep ((Gr.refl _).drew)) rfl (HE.out.keep (hW.trans ((((Gr.refl W).alloc (.cells #[.int .i64 e.thread, .int .i64 e.kind, .string e.key, .string e.cval, .string e.val, .int .i64 e.code, .int .i64 e.beg, .int .i64 e.fin] 38)).alloc (.cells #[] 38)).drew))) (by omega) ?_; rfl; intro oc c3 w1 ho1 hb1; rw [Nat.zero_add, List.nil_append] at ho1; have hg1 : Gr W w1 := evgrown_gr hb1 ((evown_empty (w := W.alloc (.cells #[.int .i64 e.thread, .int .i64 e.kind, .string e.key, .string e.cval, .string e.val, .int .i64 e.code, .int .i64 e.beg, .int .i64 e.fin] 38)) (b := W.heap.size + 1) (base := W.heap.size) (by show _ = (W.heap.push _).size; rw [Array.size_push]) (by omega)).keep ((Gr.refl _).drew)) ((((Gr.refl W).alloc (.cells #[.int .i64 e.thread, .int .i64 e.kind, .string e.key, .string e.cval, .string e.val, .int .i64 e.code, .int .i64 e.beg, .int .i64 e.fin] 38)).alloc (.cells #[] 38)).drew) (Nat.le_refl _); have k0 := hg1.keep v0; have k1 := hg1.keep v1; have k2 := hg1.keep v2; have k3 := hg1.keep v3; have k4 := hg1.keep v4; have k5 := hg1.keep v5; have k6 := hg1.keep v6; have k7 := hg1.keep v7; have hB1 := Lib.hid (ev_grown (b := W.heap.size) (((ev_fresh (b := W.heap.size) W e rfl hsz).keep ((Gr.refl _).alloc (.cells #[] 38))).keep ((Gr.refl _).drew)) hb1 (by omega)); have ho1 := Lib.hid ho1)
      | (refine step_ev_w ?_ _ _ rfl W.heap.size (Nat.le_trans hg1.le (Gr.le ((Gr.refl _).alloc _))) rfl (ho1.out.keep ((Gr.refl _).alloc _)) rfl (ev_fresh (b := w1.heap.size) w1 e rfl hsz) (by omega) ?_; rfl; intro oc2 c4 w2 ho2 hb2; have hg2 : Gr W w2 := evgrown_gr hb2 (ho1.out.keep ((Gr.refl _).alloc _)) (hg1.alloc _) (Nat.le_refl _); have hE2 := Lib.hid ho2.rows)
      | (refine step_ev_w ?_ _ _ rfl W.heap.size hg1.le rfl ho1.out rfl hB1.out (by omega) ?_; rfl; intro oc2 c4 w2 ho2 hb2; have hg2 : Gr W w2 := evgrown_gr hb2 ho1.out hg1 (Nat.le_refl _); have hE2 := Lib.hid ho2.rows)
      | (go_simp; go_at_call 5; refine (few19_six _ (nl + 1) _ (l ++ [e]) _ hE2.out (by omega)).mono ?_; rintro ev w3 ⟨rfl, hd3⟩; rw [HB.out]; have hg3 := hg2.trans hd3.gr)) | fail)
      all_goals
        go_wp2_with fail
        go_meet
        case rel => exact ⟨true, rfl, fun q => (by cases q), hg3⟩
    · have HB := Lib.hid hB
      clear hB
      (first | go_region_law (first
      | (refine step_ev_w ?_ _ _ rfl W.heap.size (Gr.le (((Gr.refl W).alloc (.cells #[] 38)).drew)) rfl ((evown_empty (w := W) (b := W.heap.size) (base := W.heap.size) rfl (Nat.le_refl _)).keep ((Gr.refl _).drew)) rfl (HE.out.keep (hW.trans (((Gr.refl W).alloc (.cells #[] 38)).drew))) (by omega) ?_; rfl; intro oc c3 w1 ho1 hb1; rw [Nat.zero_add, List.nil_append] at ho1; have hg1 : Gr W w1 := evgrown_gr hb1 ((evown_empty (w := W) (b := W.heap.size) (base := W.heap.size) rfl (Nat.le_refl _)).keep ((Gr.refl _).drew)) (((Gr.refl W).alloc (.cells #[] 38)).drew) (Nat.le_refl _); have k0 := hg1.keep v0; have k1 := hg1.keep v1; have k2 := hg1.keep v2; have k3 := hg1.keep v3; have k4 := hg1.keep v4; have k5 := hg1.keep v5; have k6 := hg1.keep v6; have k7 := hg1.keep v7; have ho1 := Lib.hid ho1)
      | (refine step_ev_w ?_ _ _ rfl W.heap.size (Gr.le ((((Gr.refl W).alloc (.cells #[] 38)).alloc (.cells #[.int .i64 e.thread, .int .i64 e.kind, .string e.key, .string e.cval, .string e.val, .int .i64 e.code, .int .i64 e.beg, .int .i64 e.fin] 38)).drew)) rfl (((evown_empty (w := W) (b := W.heap.size) (base := W.heap.size) rfl (Nat.le_refl _)).keep ((Gr.refl _).alloc (.cells #[.int .i64 e.thread, .int .i64 e.kind, .string e.key, .string e.cval, .string e.val, .int .i64 e.code, .int .i64 e.beg, .int .i64 e.fin] 38))).keep ((Gr.refl _).drew)) rfl (HE.out.keep (hW.trans ((((Gr.refl W).alloc (.cells #[] 38)).alloc (.cells #[.int .i64 e.thread, .int .i64 e.kind, .string e.key, .string e.cval, .string e.val, .int .i64 e.code, .int .i64 e.beg, .int .i64 e.fin] 38)).drew))) (by omega) ?_; rfl; intro oc c3 w1 ho1 hb1; rw [Nat.zero_add, List.nil_append] at ho1; have hg1 : Gr W w1 := evgrown_gr hb1 (((evown_empty (w := W) (b := W.heap.size) (base := W.heap.size) rfl (Nat.le_refl _)).keep ((Gr.refl _).alloc (.cells #[.int .i64 e.thread, .int .i64 e.kind, .string e.key, .string e.cval, .string e.val, .int .i64 e.code, .int .i64 e.beg, .int .i64 e.fin] 38))).keep ((Gr.refl _).drew)) ((((Gr.refl W).alloc (.cells #[] 38)).alloc (.cells #[.int .i64 e.thread, .int .i64 e.kind, .string e.key, .string e.cval, .string e.val, .int .i64 e.code, .int .i64 e.beg, .int .i64 e.fin] 38)).drew) (Nat.le_refl _); have k0 := hg1.keep v0; have k1 := hg1.keep v1; have k2 := hg1.keep v2; have k3 := hg1.keep v3; have k4 := hg1.keep v4; have k5 := hg1.keep v5; have k6 := hg1.keep v6; have k7 := hg1.keep v7; have hB1 := Lib.hid (ev_grown (b := W.heap.size + 1) ((ev_fresh (b := W.heap.size + 1) (W.alloc (.cells #[] 38)) e (by show _ = (W.heap.push _).size; rw [Array.size_push]) hsz).keep ((Gr.refl _).drew)) hb1 (by omega)); have ho1 := Lib.hid ho1)
      | (refine step_ev_w ?_ _ _ rfl W.heap.size (Gr.le ((((Gr.refl W).alloc (.cells #[.int .i64 e.thread, .int .i64 e.kind, .string e.key, .string e.cval, .string e.val, .int .i64 e.code, .int .i64 e.beg, .int .i64 e.fin] 38)).alloc (.cells #[] 38)).drew)) rfl ((evown_empty (w := W.alloc (.cells #[.int .i64 e.thread, .int .i64 e.kind, .string e.key, .string e.cval, .string e.val, .int .i64 e.code, .int .i64 e.beg, .int .i64 e.fin] 38)) (b := W.heap.size + 1) (base := W.heap.size) (by show _ = (W.heap.push _).size; rw [Array.size_push]) (by omega)).keep ((Gr.refl _).drew)) rfl (HE.out.keep (hW.trans ((((Gr.refl W).alloc (.cells #[.int .i64 e.thread, .int .i64 e.kind, .string e.key, .string e.cval, .string e.val, .int .i64 e.code, .int .i64 e.beg, .int .i64 e.fin] 38)).alloc (.cells #[] 38)).drew))) (by omega) ?_; rfl; intro oc c3 w1 ho1 hb1; rw [Nat.zero_add, List.nil_append] at ho1; have hg1 : Gr W w1 := evgrown_gr hb1 ((evown_empty (w := W.alloc (.cells #[.int .i64 e.thread, .int .i64 e.kind, .string e.key, .string e.cval, .string e.val, .int .i64 e.code, .int .i64 e.beg, .int .i64 e.fin] 38)) (b := W.heap.size + 1) (base := W.heap.size) (by show _ = (W.heap.push _).size; rw [Array.size_push]) (by omega)).keep ((Gr.refl _).drew)) ((((Gr.refl W).alloc (.cells #[.int .i64 e.thread, .int .i64 e.kind, .string e.key, .string e.cval, .string e.val, .int .i64 e.code, .int .i64 e.beg, .int .i64 e.fin] 38)).alloc (.cells #[] 38)).drew) (Nat.le_refl _); have k0 := hg1.keep v0; have k1 := hg1.keep v1; have k2 := hg1.keep v2; have k3 := hg1.keep v3; have k4 := hg1.keep v4; have k5 := hg1.keep v5; have k6 := hg1.keep v6; have k7 := hg1.keep v7; have hB1 := Lib.hid (ev_grown (b := W.heap.size) (((ev_fresh (b := W.heap.size) W e rfl hsz).keep ((Gr.refl _).alloc (.cells #[] 38))).keep ((Gr.refl _).drew)) hb1 (by omega)); have ho1 := Lib.hid ho1)
      | (refine step_ev_w ?_ _ _ rfl W.heap.size (Nat.le_trans hg1.le (Gr.le ((Gr.refl _).alloc _))) rfl (ho1.out.keep ((Gr.refl _).alloc _)) rfl (ev_fresh (b := w1.heap.size) w1 e rfl hsz) (by omega) ?_; rfl; intro oc2 c4 w2 ho2 hb2; have hg2 : Gr W w2 := evgrown_gr hb2 (ho1.out.keep ((Gr.refl _).alloc _)) (hg1.alloc _) (Nat.le_refl _); have hE2 := Lib.hid ho2.rows)
      | (refine step_ev_w ?_ _ _ rfl W.heap.size hg1.le rfl ho1.out rfl hB1.out (by omega) ?_; rfl; intro oc2 c4 w2 ho2 hb2; have hg2 : Gr W w2 := evgrown_gr hb2 ho1.out hg1 (Nat.le_refl _); have hE2 := Lib.hid ho2.rows)
      | (go_simp; go_at_call 5; refine (few19_six _ (nl + 1) _ (l ++ [e]) _ hE2.out (by omega)).mono ?_; rintro ev w3 ⟨rfl, hd3⟩; rw [HB.out]; have hg3 := hg2.trans hd3.gr)
      | (go_simp; go_at_call 6; refine (few_any o n c rows _ (HR.out.keep (hW.trans hg3))).mono ?_; rintro ev w4 ⟨⟨b2, rfl, hb2⟩, hd4⟩; have hg4 := hg3.trans hd4.gr)) | fail)
      all_goals
        go_wp2_with fail
        go_meet
        case rel => exact ⟨!b2, rfl, fun q => hb2 (by simpa using q), hg4⟩
  case rest =>
    obtain ⟨b, rfl, hb, hg1⟩ := hcut
    have v0 := (hg1).keep v0
    have v1 := (hg1).keep v1
    have v2 := (hg1).keep v2
    have v3 := (hg1).keep v3
    have v4 := (hg1).keep v4
    have v5 := (hg1).keep v5
    have v6 := (hg1).keep v6
    have v7 := (hg1).keep v7
    have hfz1 : ∀ o, wc.frozen? ⟨BX, o, none⟩ = false := fun o => by rw [hg1.frozen hBW]; exact hfz o
    have hW1 := hW.trans hg1
    have hBW1 := Nat.lt_of_lt_of_le hBW hg1.le
    clear hfz hW hg1 hBW h5'
    cases b
    rotate_left
    · go_wp2_with fail
      refine (awake19_any _).mono ?_
      rintro e w1 ⟨rfl, hg1⟩
      go_wp2_with fail
      go_ret
      exact ⟨rfl, hW1.trans hg1⟩
    have hn := hb rfl
    have f5 := hfz1 5
    have f6 := hfz1 6
    have f7 := hfz1 7
    have hU := idle_set (w := wc) (b := BX) (e := e) v0 v1 v2 v3 v4 v5 v6 v7
    have hWU : Gr w (((wc.setCell ⟨BX, 6, none⟩ (.int .i64 0)).setCell ⟨BX, 7, none⟩ (.int .i64 1099511627776)).setCell ⟨BX, 5, none⟩ (.int .i64 3)) := ((hW1.setCell hle _).setCell hle _).setCell hle _
    have hBWU : BX < (((wc.setCell ⟨BX, 6, none⟩ (.int .i64 0)).setCell ⟨BX, 7, none⟩ (.int .i64 1099511627776)).setCell ⟨BX, 5, none⟩ (.int .i64 3)).heap.size := by unfold World.setCell; simpa using hBW1
    have f6' : (wc.setCell ⟨BX, 6, none⟩ (.int .i64 0)).frozen? ⟨BX, 7, none⟩ = false := (World.frozen?_setCell _ _ _ _).trans f7
    have f7' : ((wc.setCell ⟨BX, 6, none⟩ (.int .i64 0)).setCell ⟨BX, 7, none⟩ (.int .i64 1099511627776)).frozen? ⟨BX, 5, none⟩ = false := (World.frozen?_setCell _ _ _ _).trans ((World.frozen?_setCell _ _ _ _).trans f5)
    have hIx := idled_idler e
    have hszI : (idled e).key.size ≤ maxLen ∧ (idled e).cval.size ≤ maxLen ∧ (idled e).val.size ≤ maxLen := hsz
    clear hb hfz1
    go_upto_region 4 with fail
    clear v0 v1 v2 v3 v4 v5 v6 v7 f5 f6 f7 f6' f7' hW1 hBW1
    obtain ⟨v0, v1, v2, v3, v4, v5, v6, v7⟩ := hU
    generalize idled e = eI at *
    generalize (((wc.setCell ⟨BX, 6, none⟩ (.int .i64 0)).setCell ⟨BX, 7, none⟩ (.int .i64 1099511627776)).setCell ⟨BX, 5, none⟩ (.int .i64 3)) = W2 at *
    have hOX := Lib.hid (evown_empty (w := W2) rfl (Nat.le_refl W2.heap.size))
    have hev := Lib.hid (HE.out.keep (hWU.alloc (.cells #[] 38)))
    go_wp2_with (at_builtin; refine wpList_ev rfl _ _ rfl W2.heap.size (Gr.le (by repeat (first | with_reducible exact Gr.refl _ | with_reducible refine Gr.drewN ?_ _ | with_reducible refine Gr.drew ?_ | with_reducible refine Gr.alloc ?_ _ | with_reducible refine Gr.setCell ?_ ?_ _ | (with_reducible refine Gr.trans ?_ (by assumption)) | omega | (dsimp only; omega)))) rfl hOX.out rfl hev.out (by omega) ?_; intro oE cE wE hoE hgE; rw [Nat.zero_add] at hoE; have hgE2 : Gr W2 wE := evgrown_gr hgE hOX.out ((Gr.refl W2).alloc _) (Nat.le_refl _); have hOEn := Lib.hid hoE; clear hoE hgE)
    have hEv := hOEn.out.rows
    rw [List.nil_append] at hEv
    have hO1 := Lib.hid (order_all oE nl cE l o n c rows wE hEv (HR.out.keep (hWU.trans hgE2)) (by omega) (by omega))
    have hW2 := hWU.trans hgE2
    have v0 := (hgE2).keep v0
    have v1 := (hgE2).keep v1
    have v2 := (hgE2).keep v2
    have v3 := (hgE2).keep v3
    have v4 := (hgE2).keep v4
    have v5 := (hgE2).keep v5
    have v6 := (hgE2).keep v6
    have v7 := (hgE2).keep v7
    clear hOX hev hOEn hEv hWU hgE2
    refine hO1.out.mono ?_
    rintro ev w3 ⟨oi, ci, o1, q1, c1, rfl, hI3, hR3, hg3⟩
    have hR3 := Lib.hid hR3
    have hW := hW2.trans hg3
    have v0 := (hg3).keep v0
    have v1 := (hg3).keep v1
    have v2 := (hg3).keep v2
    have v3 := (hg3).keep v3
    have v4 := (hg3).keep v4
    have v5 := (hg3).keep v5
    have v6 := (hg3).keep v6
    have v7 := (hg3).keep v7
    clear hI3 hO1 hW2 hg3 hBWU
    dsimp only
    go_upto_region 5 with fail
    go_cut [10, 11, 12] from 44 to 55 (fun s10 s11 s12 wx => ∃ oi ci o1 q1 c1, s10 = .slice oi (resO (l ++ [eI]) rows).1.length ci ∧ s11 = .slice o1 q1 c1 ∧ s12 = errOf (resO (l ++ [eI]) rows).2.2 ∧ Hid (RowsAt wx o1 q1 c1 (resO (l ++ [eI]) rows).2.1) ∧ Gr w3 wx)
    case first =>
      have d0 := (Gr.refl w3).drew.keep v0
      have d1 := (Gr.refl w3).drew.keep v1
      have d2 := (Gr.refl w3).drew.keep v2
      have d3 := (Gr.refl w3).drew.keep v3
      have d4 := (Gr.refl w3).drew.keep v4
      have d5 := (Gr.refl w3).drew.keep v5
      have d6 := (Gr.refl w3).drew.keep v6
      have d7 := (Gr.refl w3).drew.keep v7
      have a0 := ((Gr.refl w3).alloc (.cells #[] 38)).drew.keep v0
      have a1 := ((Gr.refl w3).alloc (.cells #[] 38)).drew.keep v1
      have a2 := ((Gr.refl w3).alloc (.cells #[] 38)).drew.keep v2
      have a3 := ((Gr.refl w3).alloc (.cells #[] 38)).drew.keep v3
      have a4 := ((Gr.refl w3).alloc (.cells #[] 38)).drew.keep v4
      have a5 := ((Gr.refl w3).alloc (.cells #[] 38)).drew.keep v5
      have a6 := ((Gr.refl w3).alloc (.cells #[] 38)).drew.keep v6
      have a7 := ((Gr.refl w3).alloc (.cells #[] 38)).drew.keep v7
      (first | go_region_law (first
      | (refine step_ev_w ?_ _ _ rfl w3.heap.size (Gr.le (((Gr.refl w3).alloc (.cells #[] 38)).drew)) rfl ((evown_empty (w := w3) (b := w3.heap.size) (base := w3.heap.size) rfl (Nat.le_refl _)).keep ((Gr.refl _).drew)) rfl (HE.out.keep (hW.trans (((Gr.refl w3).alloc (.cells #[] 38)).drew))) (by omega) ?_; rfl; intro oc c3 w1 ho1 hb1; rw [Nat.zero_add, List.nil_append] at ho1; have hg1 : Gr w3 w1 := evgrown_gr hb1 ((evown_empty (w := w3) (b := w3.heap.size) (base := w3.heap.size) rfl (Nat.le_refl _)).keep ((Gr.refl _).drew)) (((Gr.refl w3).alloc (.cells #[] 38)).drew) (Nat.le_refl _); have k0 := hg1.keep v0; have k1 := hg1.keep v1; have k2 := hg1.keep v2; have k3 := hg1.keep v3; have k4 := hg1.keep v4; have k5 := hg1.keep v5; have k6 := hg1.keep v6; have k7 := hg1.keep v7; have ho1 := Lib.hid ho1)
      | (refine step_ev_w ?_ _ _ rfl w3.heap.size (Gr.le ((((Gr.refl w3).alloc (.cells #[] 38)).alloc (.cells #[.int .i64 eI.thread, .int .i64 eI.kind, .string eI.key, .string eI.cval, .string eI.val, .int .i64 eI.code, .int .i64 eI.beg, .int .i64 eI.fin] 38)).drew)) rfl (((evown_empty (w := w3) (b := w3.heap.size) (base := w3.heap.size) rfl (Nat.le_refl _)).keep ((Gr.refl _).alloc (.cells #[.int .i64 eI.thread, .int .i64 eI.kind, .string eI.key, .string eI.cval, .string eI.val, .int .i64 eI.code, .int .i64 eI.beg, .int .i64 eI.fin] 38))).keep ((Gr.refl _).drew)) rfl (HE.out.keep (hW.trans ((((Gr.refl w3).alloc (.cells #[] 38)).alloc (.cells #[.int .i64 eI.thread, .int .i64 eI.kind, .string eI.key, .string eI.cval, .string eI.val, .int .i64 eI.code, .int .i64 eI.beg, .int .i64 eI.fin] 38)).drew))) (by omega) ?_; rfl; intro oc c3 w1 ho1 hb1; rw [Nat.zero_add, List.nil_append] at ho1; have hg1 : Gr w3 w1 := evgrown_gr hb1 (((evown_empty (w := w3) (b := w3.heap.size) (base := w3.heap.size) rfl (Nat.le_refl _)).keep ((Gr.refl _).alloc (.cells #[.int .i64 eI.thread, .int .i64 eI.kind, .string eI.key, .string eI.cval, .string eI.val, .int .i64 eI.code, .int .i64 eI.beg, .int .i64 eI.fin] 38))).keep ((Gr.refl _).drew)) ((((Gr.refl w3).alloc (.cells #[] 38)).alloc (.cells #[.int .i64 eI.thread, .int .i64 eI.kind, .string eI.key, .string eI.cval, .string eI.val, .int .i64 eI.code, .int .i64 eI.beg, .int .i64 eI.fin] 38)).drew) (Nat.le_refl _); have k0 := hg1.keep v0; have k1 := hg1.keep v1; have k2 := hg1.keep v2; have k3 := hg1.keep v3; have k4 := hg1.keep v4; have k5 := hg1.keep v5; have k6 := hg1.keep v6; have k7 := hg1.keep v7; have hB1 := Lib.hid (ev_grown (b := w3.heap.size + 1) ((ev_fresh (b := w3.heap.size + 1) (w3.alloc (.cells #[] 38)) eI (by show _ = (w3.heap.push _).size; rw [Array.size_push]) hszI).keep ((Gr.refl _).drew)) hb1 (by omega)); have ho1 := Lib.hid ho1)
      | (refine step_ev_w ?_ _ _ rfl w3.heap.size (Gr.le ((((Gr.refl w3).alloc (.cells #[.int .i64 eI.thread, .int .i64 eI.kind, .string eI.key, .string eI.cval, .string eI.val, .int .i64 eI.code, .int .i64 eI.beg, .int .i64 eI.fin] 38)).alloc (.cells #[] 38)).drew)) rfl ((evown_empty (w := w3.alloc (.cells #[.int .i64 eI.thread, .int .i64 eI.kind, .string eI.key, .string eI.cval, .string eI.val, .int .i64 eI.code, .int .i64 eI.beg, .int .i64 eI.fin] 38)) (b := w3.heap.size + 1) (base := w3.heap.size) (by show _ = (w3.heap.push _).size; rw [Array.size_push]) (by omega)).keep ((Gr.refl _).drew)) rfl (HE.out.keep (hW.trans ((((Gr.refl w3).alloc (.cells #[.int .i64 eI.thread, .int .i64 eI.kind, .string eI.key, .string eI.cval, .string eI.val, .int .i64 eI.code, .int .i64 eI.beg, .int .i64 eI.fin] 38)).alloc (.cells #[] 38)).drew))) (by omega) ?_; rfl; intro oc c3 w1 ho1 hb1; rw [Nat.zero_add, List.nil_append] at ho1; have hg1 : Gr w3 w1 := evgrown_gr hb1 ((evown_empty (w := w3.alloc (.cells #[.int .i64 eI.thread, .int .i64 eI.kind, .string eI.key, .string eI.cval, .string eI.val, .int .i64 eI.code, .int .i64 eI.beg, .int .i64 eI.fin] 38)) (b := w3.heap.size + 1) (base := w3.heap.size) (by show _ = (w3.heap.push _).size; rw [Array.size_push]) (by omega)).keep ((Gr.refl _).drew)) ((((Gr.refl w3).alloc (.cells #[.int .i64 eI.thread, .int .i64 eI.kind, .string eI.key, .string eI.cval, .string eI.val, .int .i64 eI.code, .int .i64 eI.beg, .int .i64 eI.fin] 38)).alloc (.cells #[] 38)).drew) (Nat.le_refl _); have k0 := hg1.keep v0; have k1 := hg1.keep v1; have k2 := hg1.keep v2; have k3 := hg1.keep v3; have k4 := hg1.keep v4; have k5 := hg1.keep v5; have k6 := hg1.keep v6; have k7 := hg1.keep v7; have hB1 := Lib.hid (ev_grown (b := w3.heap.size) (((ev_fresh (b := w3.heap.size) w3 eI rfl hszI).keep ((Gr.refl _).alloc (.cells #[] 38))).keep ((Gr.refl _).drew)) hb1 (by omega)); have ho1 := Lib.hid ho1)
      | (refine step_ev_w ?_ _ _ rfl w3.heap.size (Nat.le_trans hg1.le (Gr.le ((Gr.refl _).alloc _))) rfl (ho1.out.keep ((Gr.refl _).alloc _)) rfl (ev_fresh (b := w1.heap.size) w1 eI rfl hszI) (by omega) ?_; rfl; intro oc2 c4 w2 ho2 hb2; have hg2 : Gr w3 w2 := evgrown_gr hb2 (ho1.out.keep ((Gr.refl _).alloc _)) (hg1.alloc _) (Nat.le_refl _); have hE2 := Lib.hid ho2.rows)
      | (refine step_ev_w ?_ _ _ rfl w3.heap.size hg1.le rfl ho1.out rfl hB1.out (by omega) ?_; rfl; intro oc2 c4 w2 ho2 hb2; have hg2 : Gr w3 w2 := evgrown_gr hb2 ho1.out hg1 (Nat.le_refl _); have hE2 := Lib.hid ho2.rows)
      | (go_simp; go_at_call 8; refine (order_all oc2 (nl + 1) c4 (l ++ [eI]) o n c rows w2 hE2.out (HR.out.keep (hW.trans hg2)) (by omega) (by omega)).mono ?_; rintro ev w3 ⟨oi, ci, o1, q1, c1, rfl, hI3, hR3, hg3⟩; have hR3 := Lib.hid hR3; have hg3 := hg2.trans hg3)) | fail)
      all_goals
        go_wp2_with fail
        go_meet
        case rel => exact ⟨oi, ci, o1, q1, c1, rfl, rfl, rfl, hR3, hg3⟩
    case rest =>
      obtain ⟨oj, cj, o2, q2, c2, rfl, rfl, rfl, hR5, hg5⟩ := hcut
      have v0 := (hg5).keep v0
      have v1 := (hg5).keep v1
      have v2 := (hg5).keep v2
      have v3 := (hg5).keep v3
      have v4 := (hg5).keep v4
      have v5 := (hg5).keep v5
      have v6 := (hg5).keep v6
      have v7 := (hg5).keep v7
      have hW5 := hW.trans hg5
      have hR3 := Lib.hid (hR3.out.keep hg5)
      have hV := fun w1 => refEvRight_any eI w1 hszI.1 hszI.2.1
      cases hok : evOk eI
      · rw [hok] at hV
        have hV := Lib.hid hV
        rw [idle_bad hok] at *
        clear hok
        go_wp2_with fail
        refine (hV.out _).mono ?_
        rintro ev w6 ⟨rfl, hg6⟩
        go_wp2_with fail
        refine (faultIs_any 1 1 _).mono ?_
        rintro ev w7 ⟨rfl, hg7⟩
        go_wp2_with fail
        refine (awake19_any _).mono ?_
        rintro ev w8 ⟨rfl, hg8⟩
        go_wp2_with fail
        go_ret
        exact ⟨rfl, hW5.trans (hg6.trans (hg7.trans hg8))⟩
      · rw [hok] at hV
        have hV := Lib.hid hV
        obtain ⟨hc, hr⟩ := idle_res (rows := rows) hIx hok (show l.length ≤ 5 by omega)
        have hce : ((resO l rows).2.2 == (resO (l ++ [eI]) rows).2.2) = true := by rw [hc]; simp
        have hre : (rowsOkB (resO l rows).2.1 == rowsOkB (resO (l ++ [eI]) rows).2.1) = true := by rw [hr]; simp
        have hC1 := Lib.hid (fun w1 (hq : Gr w w1) => codeOf_any (resO l rows).2.2 w1 (hq.keep Hh.out))
        have hC2 := Lib.hid (fun w1 (hq : Gr w w1) => codeOf_any (resO (l ++ [eI]) rows).2.2 w1 (hq.keep Hh.out))
        have hS1 := Lib.hid (fun w1 (hq : Gr wc w1) => refRowsRight_any o1 q1 c1 (resO l rows).2.1 w1 (hR3.out.keep hq))
        have hS2 := Lib.hid (fun w1 (hq : Gr wc w1) => refRowsRight_any o2 q2 c2 (resO (l ++ [eI]) rows).2.1 w1 (hR5.out.keep hq))
        clear hok hc hr hR3 hR5
        generalize resO l rows = ra at *
        generalize resO (l ++ [eI]) rows = rb at *
        obtain ⟨xa, ya, ca⟩ := ra
        obtain ⟨xb, yb, cb⟩ := rb
        dsimp only at hce hre hC1 hC2 hS1 hS2 ⊢
        go_wp2_with fail
        refine (hV.out _).mono ?_
        rintro ev w6 ⟨rfl, hg6⟩
        go_wp2_with fail
        refine (hC1.out _ (hW5.trans hg6)).mono ?_
        rintro ev w7 ⟨rfl, hg7⟩
        have hg7 := hg6.trans hg7
        go_wp2_with fail
        refine (hC2.out _ (hW5.trans hg7)).mono ?_
        rintro ev w8 ⟨rfl, hg8⟩
        have hg8 := hg7.trans hg8
        go_wp2_with fail
        refine (hS1.out _ hg8).mono ?_
        rintro ev w9 ⟨rfl, hg9⟩
        have hg9 := hg8.trans hg9
        go_wp2_with fail
        refine (hS2.out _ hg9).mono ?_
        rintro ev w10 ⟨rfl, hg10⟩
        have hg10 := hg9.trans hg10
        go_wp2_with fail
        refine (awake19_any _).mono ?_
        rintro ev w11 ⟨rfl, hg11⟩
        go_wp2_with fail
        go_ret
        exact ⟨rfl, hW5.trans (hg10.trans hg11)⟩
end Go.Proofs.YtkngjnkecmjakaaDoor
