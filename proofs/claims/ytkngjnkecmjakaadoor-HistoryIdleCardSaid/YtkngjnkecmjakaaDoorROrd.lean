import Derived.Test.YtkngjnkecmjakaaDoorRord
namespace Go.Proofs.YtkngjnkecmjakaaDoor
set_option linter.unusedVariables false
set_option linter.unusedSimpArgs false
open Go.BigFrame Go.RowKit Go.WideShapes

/-- what the document's Order tells -/
def ROPost (w : World) (res : Option (List Nat × List Rw)) (e : Ending) (w' : World) : Prop :=
  match res with
  | some r => ∃ oi ci o1 q1 c1, e = .returned (.tuple #[.slice oi r.1.length ci, .slice o1 q1 c1, .int .i64 0]) ∧ IntsAt w' oi r.1.length ci r.1 ∧ RowsAt w' o1 q1 c1 r.2 ∧ Gr w w'
  | none => e = .returned (.tuple #[.slice none 0 0, .slice none 0 0, .int .i64 6]) ∧ Gr w w'
theorem ints_none (w : World) : IntsAt w none 0 0 [] := ⟨rfl, by omega, by unfold maxLen; omega, fun _ => rfl, ⟨0, 0, fun q => by omega, fun i hi => by omega⟩⟩

set_option maxRecDepth 100000 in
set_option maxHeartbeats 8000000 in
theorem refOrd_ok (ol : Option Addr) (nl cl : Nat) (l : List Ev) (o : Option Addr) (n c : Nat) (rows : List Rw) (w : World) (hE : EvsAt w ol nl cl l) (hR : RowsAt w o n c rows) (hnl : nl ≤ 10) (hn : n ≤ 1000) (hok : ∀ i, i < nl → evOk (evAt l i) = true) (hrow : rowsOkB rows = true) :
    Calls Tryd.prog 9 #[.slice ol nl cl, .slice o n c] w (ROPost w (findF l nl (List.replicate nl false) [] rows)) := by
  have hRR := Lib.hid (fun w1 (hg : Gr w w1) => refRowsRight_any o n c rows w1 (hR.keep hg))
  rw [hrow] at hRR
  have hlen := hE.len
  have hOrd := Lib.hid (fun w1 (hg : Gr w w1) => refOrder_any hE hR hn (by omega) hok nl w1 none 0 0 [] (List.replicate nl false) hg (ints_none _) (by simp) (fun i hi => by rw [used_none]; simp) (by simp) (by omega) ⟨rows, rfl⟩)
  rw [find_order (rows := rows) (by rw [hlen]; exact hok) nl (List.replicate nl false) [] rows rfl (by simp [hlen]) (fun i hi => by rw [used_none]; simp) hrow] at hOrd
  have HE := Lib.hid hE
  have HR := Lib.hid hR
  have Hok := Lib.hid hok
  obtain ⟨b1, off1, ho1, hc1⟩ := hE.cells
  have Hc1 := Lib.hid hc1
  have Ho1 := Lib.hid (fun q => (ho1 q).1)
  have hn1 := hE.cap_le
  have hm1 := hE.cap_max
  have Hz := Lib.hid hE.sizes
  have Hrow := Lib.hid hrow
  unfold maxLen at hm1
  clear hE hR hok hc1 ho1 hrow
  go_enter Tryd.func9, Tryd.ntmps9
  go_wp2_with fail
  go_loopw [7] (fun v wr => ∃ k : Nat, k ≤ nl ∧ v = .int .i64 k ∧ Gr w wr) (fun v _ => nl - (intOf v).toNat)
  case atStart => exact ⟨0, Nat.zero_le _, rfl, Gr.refl _⟩
  case round =>
    obtain ⟨k, hk, rfl, hg⟩ := hrel
    by_cases hlt : k < nl
    · obtain ⟨a0, a1, a2, a3, a4, a5, a6, a7⟩ := Hc1.out k hlt
      have a0 := (hg).keep a0
      have a1 := (hg).keep a1
      have a2 := (hg).keep a2
      have a3 := (hg).keep a3
      have a4 := (hg).keep a4
      have a5 := (hg).keep a5
      have a6 := (hg).keep a6
      have a7 := (hg).keep a7
      have hI := run_ev cl Ho1.out hlt
      have hV := fun w1 => refEvRight_any (evAt l k) w1 (Hz.out k hlt).1 (Hz.out k hlt).2.1
      rw [Hok.out k hlt] at hV
      have hV := Lib.hid hV
      go_wp2_with fail
      refine (hV.out _).mono ?_
      rintro e w2 ⟨rfl, hg2⟩
      have hgn := hg.trans hg2
      clear hg2 hg
      go_wp2_with fail
      go_roundw
      case rel => exact ⟨k + 1, by omega, by go_num, hgn⟩
      case measure => simp [intOf]; omega
    · obtain rfl : k = nl := by omega
      clear Hc1 Ho1 Hz
      have h10 : decide (10 < (k : Int)) = false := by simp; omega
      go_wp2_with fail
      refine (hRR.out _ hg).mono ?_
      rintro e w2 ⟨rfl, hg2⟩
      have hg2 := hg.trans hg2
      clear hg hRR
      have hO2 := hOrd.out w2 hg2
      cases hF : findF l k (List.replicate k false) [] rows with
      | none =>
        rw [hF] at hO2
        have hO2 := Lib.hid hO2
        go_wp2_with fail
        refine hO2.out.mono ?_
        rintro e w3 ⟨rfl, hg3⟩
        go_wp2_with fail
        go_ret3
        rw [hF]
        exact ⟨rfl, hg2.trans hg3⟩
      | some r =>
        rw [hF] at hO2
        have hgF := find_goodF (l := l) (rows := rows) (r := r) (by rw [hlen]; exact Hok.out) Hrow.out (by rw [hlen]; exact hF)
        have hrl := find_len _ _ _ _ _ hF
        simp only [List.length_nil] at hrl
        have hO2 := Lib.hid hO2
        have HgF := Lib.hid hgF
        have HF := Lib.hid hF
        clear hgF hF
        go_wp2_with fail
        refine hO2.out.mono ?_
        rintro e w3 ⟨oi, ni, ci, rfl, hI3, hg3⟩
        obtain rfl : r.1.length = ni := hI3.len
        have hG3 := good_any ol k cl l oi r.1.length ci r.1 o n c rows true w3 (HE.out.keep (hg2.trans hg3)) hI3 (HR.out.keep (hg2.trans hg3)) hn (by omega) Hok.out
        rw [HgF.out] at hG3
        have hG3 := Lib.hid hG3
        have HI3 := Lib.hid hI3
        clear hI3
        go_wp2_with fail
        refine hG3.out.mono ?_
        rintro e w4 ⟨o4, q4, c4, rfl, hr4, hg4⟩
        have hr4 := Lib.hid hr4
        go_wp2_with fail
        go_ret3
        rw [HF.out]
        exact ⟨oi, ci, o4, q4, c4, rfl, HI3.out.keep hg4, hr4.out, hg2.trans (hg3.trans hg4)⟩

set_option maxRecDepth 100000 in
set_option maxHeartbeats 8000000 in
theorem refOrd_bad (ol : Option Addr) (nl cl : Nat) (l : List Ev) (o : Option Addr) (n c : Nat) (rows : List Rw) (w : World) (hE : EvsAt w ol nl cl l) (hR : RowsAt w o n c rows) (hnl : nl ≤ 100) (hbad : (∃ i, i < nl ∧ evOk (evAt l i) = false) ∨ rowsOkB rows = false) :
    Calls Tryd.prog 9 #[.slice ol nl cl, .slice o n c] w (fun e w' => e = .returned (.tuple #[.slice none 0 0, .slice none 0 0, .int .i64 1]) ∧ Gr w w') := by
  have hRR := fun w1 (hg : Gr w w1) => refRowsRight_any o n c rows w1 (hR.keep hg)
  have HR := Lib.hid hR
  have Hbad := Lib.hid hbad
  obtain ⟨b1, off1, ho1, hc1⟩ := hE.cells
  have Hc1 := Lib.hid hc1
  have Ho1 := Lib.hid (fun q => (ho1 q).1)
  have hn1 := hE.cap_le
  have hm1 := hE.cap_max
  have Hz := Lib.hid hE.sizes
  unfold maxLen at hm1
  clear hE hR hbad hc1 ho1
  go_enter Tryd.func9, Tryd.ntmps9
  go_wp2_with fail
  go_loopw [7] (fun v wr => ∃ k : Nat, k ≤ nl ∧ v = .int .i64 k ∧ Gr w wr ∧ Hid (∀ i, i < k → evOk (evAt l i) = true)) (fun v _ => nl - (intOf v).toNat)
  case atStart => exact ⟨0, Nat.zero_le _, rfl, Gr.refl _, Lib.hid fun i hi => by omega⟩
  case round =>
    obtain ⟨k, hk, rfl, hg, hall⟩ := hrel
    by_cases hlt : k < nl
    · obtain ⟨a0, a1, a2, a3, a4, a5, a6, a7⟩ := Hc1.out k hlt
      have a0 := (hg).keep a0
      have a1 := (hg).keep a1
      have a2 := (hg).keep a2
      have a3 := (hg).keep a3
      have a4 := (hg).keep a4
      have a5 := (hg).keep a5
      have a6 := (hg).keep a6
      have a7 := (hg).keep a7
      have hI := run_ev cl Ho1.out hlt
      have hV := fun w1 => refEvRight_any (evAt l k) w1 (Hz.out k hlt).1 (Hz.out k hlt).2.1
      cases hok : evOk (evAt l k)
      · rw [hok] at hV
        have hV := Lib.hid hV
        go_wp2_with fail
        refine (hV.out _).mono ?_
        rintro e w2 ⟨rfl, hg2⟩
        have hgn := hg.trans hg2
        clear hg2 hg
        go_wp2_with fail
        go_ret3
        exact ⟨rfl, hgn⟩
      · rw [hok] at hV
        have hV := Lib.hid hV
        have Hok := Lib.hid hok
        clear hok
        go_wp2_with fail
        refine (hV.out _).mono ?_
        rintro e w2 ⟨rfl, hg2⟩
        have hgn := hg.trans hg2
        clear hg2 hg
        go_wp2_with fail
        go_roundw
        case rel => exact ⟨k + 1, by omega, by go_num, hgn, Lib.hid fun j hj => by
          rcases Nat.lt_or_ge j k with q | q
          · exact hall.out j q
          · obtain rfl : j = k := by omega
            exact Hok.out⟩
        case measure => simp [intOf]; omega
    · obtain rfl : k = nl := by omega
      have hrow : rowsOkB rows = false := by
        rcases Hbad.out with ⟨i, hi, he⟩ | h
        · rw [hall.out i hi] at he; cases he
        · exact h
      rw [hrow] at hRR
      clear Hc1 Ho1 Hz Hbad hrow
      go_wp2_with fail
      refine (hRR _ hg).mono ?_
      rintro e w2 ⟨rfl, hg2⟩
      have hg2 := hg.trans hg2
      clear hg hRR
      go_wp2_with fail
      go_ret3
      exact ⟨rfl, hg2⟩

set_option maxRecDepth 100000 in
set_option maxHeartbeats 8000000 in
theorem refOrd_long (ol : Option Addr) (nl cl : Nat) (l : List Ev) (o : Option Addr) (n c : Nat) (rows : List Rw) (w : World) (hE : EvsAt w ol nl cl l) (hR : RowsAt w o n c rows) (hnl : 10 < nl) (hnl2 : nl ≤ 100) (hok : ∀ i, i < nl → evOk (evAt l i) = true) (hrow : rowsOkB rows = true) :
    Calls Tryd.prog 9 #[.slice ol nl cl, .slice o n c] w (fun e w' => e = .returned (.tuple #[.slice none 0 0, .slice none 0 0, .int .i64 8]) ∧ Gr w w') := by
  have hRR := Lib.hid (fun w1 (hg : Gr w w1) => refRowsRight_any o n c rows w1 (hR.keep hg))
  rw [hrow] at hRR
  have Hok := Lib.hid hok
  obtain ⟨b1, off1, ho1, hc1⟩ := hE.cells
  have Hc1 := Lib.hid hc1
  have Ho1 := Lib.hid (fun q => (ho1 q).1)
  have hn1 := hE.cap_le
  have hm1 := hE.cap_max
  have Hz := Lib.hid hE.sizes
  unfold maxLen at hm1
  clear hE hR hok hc1 ho1 hrow
  go_enter Tryd.func9, Tryd.ntmps9
  go_wp2_with fail
  go_loopw [7] (fun v wr => ∃ k : Nat, k ≤ nl ∧ v = .int .i64 k ∧ Gr w wr) (fun v _ => nl - (intOf v).toNat)
  case atStart => exact ⟨0, Nat.zero_le _, rfl, Gr.refl _⟩
  case round =>
    obtain ⟨k, hk, rfl, hg⟩ := hrel
    by_cases hlt : k < nl
    · obtain ⟨a0, a1, a2, a3, a4, a5, a6, a7⟩ := Hc1.out k hlt
      have a0 := (hg).keep a0
      have a1 := (hg).keep a1
      have a2 := (hg).keep a2
      have a3 := (hg).keep a3
      have a4 := (hg).keep a4
      have a5 := (hg).keep a5
      have a6 := (hg).keep a6
      have a7 := (hg).keep a7
      have hI := run_ev cl Ho1.out hlt
      have hV := fun w1 => refEvRight_any (evAt l k) w1 (Hz.out k hlt).1 (Hz.out k hlt).2.1
      rw [Hok.out k hlt] at hV
      have hV := Lib.hid hV
      go_wp2_with fail
      refine (hV.out _).mono ?_
      rintro e w2 ⟨rfl, hg2⟩
      have hgn := hg.trans hg2
      clear hg2 hg
      go_wp2_with fail
      go_roundw
      case rel => exact ⟨k + 1, by omega, by go_num, hgn⟩
      case measure => simp [intOf]; omega
    · obtain rfl : k = nl := by omega
      clear Hc1 Ho1 Hz Hok
      have h10 : decide (10 < (k : Int)) = true := by simp; omega
      go_wp2_with fail
      refine (hRR.out _ hg).mono ?_
      rintro e w2 ⟨rfl, hg2⟩
      have hg2 := hg.trans hg2
      clear hg hRR
      go_wp2_with fail
      go_ret3
      exact ⟨rfl, hg2⟩

set_option maxRecDepth 100000 in
set_option maxHeartbeats 8000000 in
theorem order_long (ol : Option Addr) (nl cl : Nat) (l : List Ev) (o : Option Addr) (n c : Nat) (rows : List Rw) (w : World) (hE : EvsAt w ol nl cl l) (hR : RowsAt w o n c rows) (hnl : 10 < nl) (hnl2 : nl ≤ 100) (hok : ∀ i, i < nl → evOk (evAt l i) = true) (hrow : rowsOkB rows = true) :
    Calls Tryd.prog 8 #[.slice ol nl cl, .slice o n c] w (fun e w' => e = .returned (.tuple #[.slice none 0 0, .slice none 0 0, errV 8]) ∧ Gr w w') := by
  have hRR := Lib.hid (fun w1 (hg : Gr w w1) => rowsRight_any o n c rows w1 (hR.keep hg))
  rw [hrow] at hRR
  have Hok := Lib.hid hok
  obtain ⟨b1, off1, ho1, hc1⟩ := hE.cells
  have Hc1 := Lib.hid hc1
  have Ho1 := Lib.hid (fun q => (ho1 q).1)
  have hn1 := hE.cap_le
  have hm1 := hE.cap_max
  have Hz := Lib.hid hE.sizes
  unfold maxLen at hm1
  clear hE hR hok hc1 ho1 hrow
  go_enter Tryd.func8, Tryd.ntmps8
  go_wp2_with fail
  go_loopw [12] (fun v wr => ∃ k : Nat, k ≤ nl ∧ v = .int .i64 k ∧ Gr w wr) (fun v _ => nl - (intOf v).toNat)
  case atStart => exact ⟨0, Nat.zero_le _, rfl, Gr.refl _⟩
  case round =>
    obtain ⟨k, hk, rfl, hg⟩ := hrel
    by_cases hlt : k < nl
    · obtain ⟨a0, a1, a2, a3, a4, a5, a6, a7⟩ := Hc1.out k hlt
      have a0 := (hg).keep a0
      have a1 := (hg).keep a1
      have a2 := (hg).keep a2
      have a3 := (hg).keep a3
      have a4 := (hg).keep a4
      have a5 := (hg).keep a5
      have a6 := (hg).keep a6
      have a7 := (hg).keep a7
      have hI := run_ev cl Ho1.out hlt
      have hV := fun w1 => evRight_any (evAt l k) w1 (Hz.out k hlt).1 (Hz.out k hlt).2.1
      rw [Hok.out k hlt] at hV
      have hV := Lib.hid hV
      go_wp2_with fail
      refine (hV.out _).mono ?_
      rintro e w2 ⟨rfl, hg2⟩
      have hgn := hg.trans (((Gr.refl wr).alloc _).trans hg2)
      clear hg2 hg
      go_wp2_with fail
      go_roundw
      case rel => exact ⟨k + 1, by omega, by go_num, hgn⟩
      case measure => simp [intOf]; omega
    · obtain rfl : k = nl := by omega
      clear Hc1 Ho1 Hz Hok
      have h10 : decide (10 < (k : Int)) = true := by simp; omega
      go_wp2_with fail
      refine (hRR.out _ hg).mono ?_
      rintro e w2 ⟨rfl, hg2⟩
      have hg2 := hg.trans hg2
      clear hg hRR
      go_wp2_with fail
      go_ret3
      exact ⟨rfl, hg2⟩

set_option maxRecDepth 100000 in
set_option maxHeartbeats 1000000 in
theorem same_any (oa oc : Option Addr) (n cap cap2 : Nat) (a : List Nat) (w : World) (h : IntsAt w oa n cap a) (k : IntsAt w oc n cap2 a) :
    Calls Tryd.prog 10 #[.slice oa n cap, .slice oc n cap2] w fun e w' => e = .returned (.bool true) ∧ Gr w w' := by
  obtain ⟨b1, off1, ho1, hc1⟩ := h.cells
  have Hc1 := Lib.hid hc1
  have Ho1 := Lib.hid (fun q => (ho1 q).1)
  have H1 := Lib.hid h
  have hn1 := h.cap_le
  have hm1 := h.cap_max
  unfold maxLen at hm1
  clear hc1 ho1 h
  obtain ⟨b2, off2, ho2, hc2⟩ := k.cells
  have Hc2 := Lib.hid hc2
  have Ho2 := Lib.hid (fun q => (ho2 q).1)
  clear hc2 ho2 k
  go_enter Tryd.func10, Tryd.ntmps10
  go_wp2_with fail
  go_loopw [13] (fun v wr => ∃ k : Nat, k ≤ n ∧ v = .int .i64 k ∧ Dr w wr) (fun v _ => n - (intOf v).toNat)
  case atStart => exact ⟨0, Nat.zero_le _, rfl, Dr.refl _⟩
  case round =>
    obtain ⟨k, hk, rfl, d, rfl⟩ := hrel
    by_cases hlt : k < n
    · have a0 := Hc1.out k hlt
      have a1 := Hc2.out k hlt
      have hI := run_int cap Ho1.out hlt
      have hJ := run_int cap2 Ho2.out hlt
      go_wp2_with fail
      go_big_quiet (fail)
      go_wp2_with fail
      go_roundw
      case rel => exact ⟨k + 1, by omega, by go_num, by repeat (first | with_reducible exact Dr.refl _ | with_reducible refine Dr.step ?_ _ | with_reducible refine Dr.drew ?_ | (with_reducible refine Dr.trans ?_ (by assumption)))⟩
      case measure => simp [intOf]; omega
    · obtain rfl : k = n := by omega
      go_wp2_with fail
      go_ret
      exact ⟨rfl, by repeat (first | with_reducible exact Gr.refl _ | with_reducible refine Gr.drewN ?_ _ | with_reducible refine Gr.drew ?_ | with_reducible refine Gr.alloc ?_ _ | with_reducible refine Gr.setCell ?_ ?_ _ | (with_reducible refine Gr.trans ?_ (by assumption)) | omega | (dsimp only; omega))⟩
end Go.Proofs.YtkngjnkecmjakaaDoor
