import Derived.Test.YtkngjnkecmjakaaDoorROrd
import Derived.Test.YtkngjnkecmjakaaDoorAs
import Derived.Laws.StructEq
namespace Go.Proofs.YtkngjnkecmjakaaDoor
set_option linter.unusedVariables false
set_option linter.unusedSimpArgs false
open Go.BigFrame Go.RowKit Go.WideShapes

/-- what Order answers: an order, rows, a code -/
def resO (l : List Ev) (rows : List Rw) : List Nat × List Rw × Int :=
  if (∀ i, i < l.length → evOk (evAt l i) = true) ∧ rowsOkB rows = true then
    (if l.length ≤ 10 then (match findF l l.length (List.replicate l.length false) [] rows with | some r => (r.1, r.2, 0) | none => ([], [], 6)) else ([], [], 8))
  else ([], [], 1)
theorem resO_len {l : List Ev} {rows : List Rw} : (resO l rows).1.length ≤ 100 := by
  unfold resO
  split
  · split
    · split
      · rename_i r h
        have := find_len _ _ _ _ _ h
        simp only [List.length_nil] at this
        simp only []
        omega
      · simp
    · simp
  · simp
abbrev errOf (c : Int) : Value := if c = 0 then .nilIface else errV c
theorem bad_of {l : List Ev} {rows : List Rw} (h : ¬ ((∀ i, i < l.length → evOk (evAt l i) = true) ∧ rowsOkB rows = true)) : (∃ i, i < l.length ∧ evOk (evAt l i) = false) ∨ rowsOkB rows = false := by
  rcases Bool.eq_false_or_eq_true (rowsOkB rows) with q | q
  · left
    apply Classical.byContradiction
    intro hne
    exact h ⟨fun i hi => by
      rcases Bool.eq_false_or_eq_true (evOk (evAt l i)) with r | r
      · exact r
      · exact absurd ⟨i, hi, r⟩ hne, q⟩
  · exact .inr q
theorem order_all (ol : Option Addr) (nl cl : Nat) (l : List Ev) (o : Option Addr) (n c : Nat) (rows : List Rw) (w : World) (hE : EvsAt w ol nl cl l) (hR : RowsAt w o n c rows) (hnl : nl ≤ 100) (hn : n ≤ 1000) :
    Calls Tryd.prog 8 #[.slice ol nl cl, .slice o n c] w fun e w' => ∃ oi ci o1 q1 c1, e = .returned (.tuple #[.slice oi (resO l rows).1.length ci, .slice o1 q1 c1, errOf (resO l rows).2.2]) ∧ IntsAt w' oi (resO l rows).1.length ci (resO l rows).1 ∧ RowsAt w' o1 q1 c1 (resO l rows).2.1 ∧ Gr w w' := by
  have hlen := hE.len
  unfold resO
  by_cases hg : (∀ i, i < l.length → evOk (evAt l i) = true) ∧ rowsOkB rows = true
  · rw [if_pos hg]
    by_cases h10 : l.length ≤ 10
    · rw [if_pos h10]
      have h := order_ok ol nl cl l o n c rows w hE hR (by omega) hn (by rw [← hlen]; exact hg.1) hg.2
      rw [← hlen] at h
      rw [hlen] at h ⊢
      rw [← hlen] at h ⊢
      refine Calls.mono (by rw [hlen] at h ⊢; exact h) ?_
      intro e w' hP
      cases hF : findF l l.length (List.replicate l.length false) [] rows with
      | none =>
        rw [hlen] at hF
        rw [hF] at hP
        obtain ⟨rfl, hg'⟩ := hP
        exact ⟨none, 0, none, 0, 0, rfl, ints_none _, rows_none _, hg'⟩
      | some r =>
        rw [hlen] at hF
        rw [hF] at hP
        obtain ⟨⟨ov, o1, q1, c1, rfl, hown, hO1⟩, hg'⟩ := hP
        obtain ⟨oi, ci, rfl, hI⟩ := ints_of_own hown
        exact ⟨oi, ci, o1, q1, c1, rfl, hI, hO1.rows, hg'⟩
    · rw [if_neg h10]
      refine (order_long ol nl cl l o n c rows w hE hR (by omega) hnl (by rw [← hlen]; exact hg.1) hg.2).mono ?_
      rintro e w' ⟨rfl, hg'⟩
      exact ⟨none, 0, none, 0, 0, rfl, ints_none _, rows_none _, hg'⟩
  · rw [if_neg hg]
    refine (order_bad ol nl cl l o n c rows w hE hR hnl (by rw [← hlen]; exact bad_of hg)).mono ?_
    rintro e w' ⟨rfl, hg'⟩
    exact ⟨none, 0, none, 0, 0, rfl, ints_none _, rows_none _, hg'⟩
theorem refOrd_all (ol : Option Addr) (nl cl : Nat) (l : List Ev) (o : Option Addr) (n c : Nat) (rows : List Rw) (w : World) (hE : EvsAt w ol nl cl l) (hR : RowsAt w o n c rows) (hnl : nl ≤ 100) (hn : n ≤ 1000) :
    Calls Tryd.prog 9 #[.slice ol nl cl, .slice o n c] w fun e w' => ∃ oi ci o1 q1 c1, e = .returned (.tuple #[.slice oi (resO l rows).1.length ci, .slice o1 q1 c1, .int .i64 (resO l rows).2.2]) ∧ IntsAt w' oi (resO l rows).1.length ci (resO l rows).1 ∧ RowsAt w' o1 q1 c1 (resO l rows).2.1 ∧ Gr w w' := by
  have hlen := hE.len
  unfold resO
  by_cases hg : (∀ i, i < l.length → evOk (evAt l i) = true) ∧ rowsOkB rows = true
  · rw [if_pos hg]
    by_cases h10 : l.length ≤ 10
    · rw [if_pos h10]
      have h := refOrd_ok ol nl cl l o n c rows w hE hR (by omega) hn (by rw [← hlen]; exact hg.1) hg.2
      refine Calls.mono h ?_
      intro e w' hP
      cases hF : findF l l.length (List.replicate l.length false) [] rows with
      | none =>
        rw [hlen] at hF
        rw [hF] at hP
        obtain ⟨rfl, hg'⟩ := hP
        exact ⟨none, 0, none, 0, 0, rfl, ints_none _, rows_none _, hg'⟩
      | some r =>
        rw [hlen] at hF
        rw [hF] at hP
        obtain ⟨oi, ci, o1, q1, c1, rfl, hI, hO1, hg'⟩ := hP
        exact ⟨oi, ci, o1, q1, c1, rfl, hI, hO1, hg'⟩
    · rw [if_neg h10]
      refine (refOrd_long ol nl cl l o n c rows w hE hR (by omega) hnl (by rw [← hlen]; exact hg.1) hg.2).mono ?_
      rintro e w' ⟨rfl, hg'⟩
      exact ⟨none, 0, none, 0, 0, rfl, ints_none _, rows_none _, hg'⟩
  · rw [if_neg hg]
    refine (refOrd_bad ol nl cl l o n c rows w hE hR hnl (by rw [← hlen]; exact bad_of hg)).mono ?_
    rintro e w' ⟨rfl, hg'⟩
    exact ⟨none, 0, none, 0, 0, rfl, ints_none _, rows_none _, hg'⟩
theorem codeOf_any (n : Int) (w : World) (hg : w.cell? ⟨0, 0, none⟩ = some handleV) : Calls Tryd.prog 12 #[errOf n] w fun e w' => e = .returned (.int .i64 n) ∧ Gr w w' := by
  by_cases h : n = 0
  · subst h; exact code_nil w
  · rw [show errOf n = errV n from if_neg h]; exact code_any n w hg

set_option maxRecDepth 100000 in
set_option maxHeartbeats 8000000 in
theorem ors_walk (ol : Option Addr) (nl cl : Nat) (l : List Ev) (o : Option Addr) (n c : Nat) (rows : List Rw) (w : World) (hE : EvsAt w ol nl cl l) (hR : RowsAt w o n c rows) (hh : w.cell? ⟨0, 0, none⟩ = some handleV) :
    Calls Tryd.prog 3 #[.slice ol nl cl, .slice o n c] w fun e w' => e = .returned (.bool true) ∧ Gr w w' := by
  have hFE := Lib.hid (fun w1 (hq : Gr w w1) => few19_any ol nl cl l w1 (hE.keep hq))
  have hFR := Lib.hid (fun w1 (hq : Gr w w1) => few_any o n c rows w1 (hR.keep hq))
  have HE := Lib.hid hE
  have HR := Lib.hid hR
  have Hh := Lib.hid hh
  have hlen := hE.len
  have hrlen := hR.len
  have hn1 := hE.cap_le
  have hm1 := hE.cap_max
  unfold maxLen at hm1
  clear hE hR hh
  go_enter Tryd.func3, Tryd.ntmps3
  go_wp2_with fail
  refine (hFE.out _ (Gr.refl _)).mono ?_
  rintro e w1 ⟨⟨b1, rfl, hb1⟩, d1⟩
  have hg1 := d1.gr
  clear d1
  cases b1
  · go_wp2_with fail
    refine (awake19_any _).mono ?_
    rintro e w2 ⟨rfl, hg2⟩
    go_wp2_with fail
    go_ret
    exact ⟨rfl, hg1.trans hg2⟩
  have hnl : nl ≤ 40 := by have := (hb1 rfl).1; omega
  clear hb1
  go_wp2_with fail
  refine (hFR.out _ hg1).mono ?_
  rintro e w2 ⟨⟨b2, rfl, hb2⟩, d2⟩
  have hg2 := hg1.trans d2.gr
  clear d2
  cases b2
  · go_wp2_with fail
    refine (awake19_any _).mono ?_
    rintro e w3 ⟨rfl, hg3⟩
    go_wp2_with fail
    go_ret
    exact ⟨rfl, hg2.trans hg3⟩
  have hn := hb2 rfl
  clear hb2 hg1 hFE hFR
  have hOE := Lib.hid (evown_empty (w := w2) rfl (Nat.le_refl w2.heap.size))
  have hev := Lib.hid (HE.out.keep (hg2.alloc (.cells #[] 38)))
  have hg3 := hg2.alloc (.cells #[] 38)
  go_wp2_with (first | (at_builtin; refine wpList_ev rfl _ _ rfl w2.heap.size (Gr.le (by repeat (first | with_reducible exact Gr.refl _ | with_reducible refine Gr.drewN ?_ _ | with_reducible refine Gr.drew ?_ | with_reducible refine Gr.alloc ?_ _ | with_reducible refine Gr.setCell ?_ ?_ _ | (with_reducible refine Gr.trans ?_ (by assumption)) | omega | (dsimp only; omega)))) rfl hOE.out rfl hev.out (by omega) ?_; intro oE cE wE hoE hgE; rw [Nat.zero_add] at hoE; have hgE2 : Gr w2 wE := evgrown_gr hgE hOE.out ((Gr.refl w2).alloc _) (Nat.le_refl _); have hgE3 := hg2.trans hgE2; have hOEn := Lib.hid hoE; have hRE := Lib.hid (HR.out.keep (hgE3.alloc (.cells #[] 47))); clear hoE hgE) | (at_builtin; refine wpList_rows_g rfl _ _ rfl wE.heap.size (Gr.le (by repeat (first | with_reducible exact Gr.refl _ | with_reducible refine Gr.drewN ?_ _ | with_reducible refine Gr.drew ?_ | with_reducible refine Gr.alloc ?_ _ | with_reducible refine Gr.setCell ?_ ?_ _ | (with_reducible refine Gr.trans ?_ (by assumption)) | omega | (dsimp only; omega)))) rfl (own_empty_b rfl (Nat.le_refl _)) rfl hRE.out (by omega) ?_; intro oR cR wR hoR hgR; rw [Nat.zero_add] at hoR; have hgR2 : Gr wE wR := grown_gr hgR (own_empty_b rfl (Nat.le_refl _)) ((Gr.refl wE).alloc _) (Nat.le_refl _); have hORn := Lib.hid hoR; clear hoR hgR))
  have hEv := (hOEn.out.keep hgR2).rows
  rw [List.nil_append] at hEv
  have hRw := hORn.out.rows
  rw [List.nil_append] at hRw
  have hgw := hgE3.trans hgR2
  clear hOEn hORn hRE hgE2 hgE3 hg3 hOE hev hg2 hgR2
  have hO1 := Lib.hid (order_all oE nl cE l oR n cR rows wR hEv hRw (by omega) (by omega))
  have hO2 := Lib.hid (fun w1 (hq : Gr w w1) => refOrd_all ol nl cl l o n c rows w1 (HE.out.keep hq) (HR.out.keep hq) (by omega) (by omega))
  have HEv := Lib.hid hEv
  have HRw := Lib.hid hRw
  clear hEv hRw
  have hrl := resO_len (l := l) (rows := rows)
  generalize resO l rows = r at *
  obtain ⟨rx, rr, rc⟩ := r
  dsimp only at hO1 hO2 hrl
  refine hO1.out.mono ?_
  rintro e w4 ⟨oi, ci, o1, q1, c1, rfl, hI4, hR4, hg4⟩
  have HI4 := Lib.hid hI4
  have HR4 := Lib.hid hR4
  have hgw4 := hgw.trans hg4
  clear hI4 hR4 hO1
  dsimp only
  go_wp2_with fail
  refine (hO2.out _ hgw4).mono ?_
  rintro e w5 ⟨oj, cj, o2, q2, c2, rfl, hI5, hR5, hg5⟩
  have HI5 := Lib.hid hI5
  have HR5 := Lib.hid hR5
  have hgw5 := hgw4.trans hg5
  have hg45 := hg4.trans hg5
  clear hI5 hR5 hO2 hgw hgw4
  dsimp only
  have HI4 := Lib.hid (HI4.out.keep hg5)
  have HR4 := Lib.hid (HR4.out.keep hg5)
  have HEv := Lib.hid (HEv.out.keep hg45)
  have HRw := Lib.hid (HRw.out.keep hg45)
  clear hg4 hg5 hg45
  go_wp2_with fail
  obtain ⟨bx, offx, hbx, hcx⟩ := HEv.out.cells
  have Hcx := Lib.hid hcx
  have Hbx := Lib.hid fun q => (hbx q).1
  obtain ⟨bl, ofl, hbl, hcl⟩ := HE.out.cells
  have Hcl := Lib.hid hcl
  have Hbl := Lib.hid fun q => (hbl q).1
  have hcE := HEv.out.cap_max
  unfold maxLen at hcE
  clear hcx hbx hcl hbl
  go_loopw [45] (fun v wr => ∃ k : Nat, k ≤ nl ∧ v = .int .i64 k ∧ Gr w5 wr) (fun v _ => nl - (intOf v).toNat)
  case atStart => exact ⟨0, Nat.zero_le _, rfl, Gr.refl _⟩
  case round =>
    obtain ⟨k, hk, rfl, hg⟩ := hrel
    by_cases hlt : k < nl
    · obtain ⟨a0, a1, a2, a3, a4, a5, a6, a7⟩ := Hcx.out k hlt
      have a0 := (hg).keep a0
      have a1 := (hg).keep a1
      have a2 := (hg).keep a2
      have a3 := (hg).keep a3
      have a4 := (hg).keep a4
      have a5 := (hg).keep a5
      have a6 := (hg).keep a6
      have a7 := (hg).keep a7
      obtain ⟨v0, v1, v2, v3, v4, v5, v6, v7⟩ := Hcl.out k hlt
      have v0 := ((hgw5.trans hg)).keep v0
      have v1 := ((hgw5.trans hg)).keep v1
      have v2 := ((hgw5.trans hg)).keep v2
      have v3 := ((hgw5.trans hg)).keep v3
      have v4 := ((hgw5.trans hg)).keep v4
      have v5 := ((hgw5.trans hg)).keep v5
      have v6 := ((hgw5.trans hg)).keep v6
      have v7 := ((hgw5.trans hg)).keep v7
      have hI := run_ev cE Hbx.out hlt
      have hJ := run_ev cl Hbl.out hlt
      go_wp2_with fail
      go_big_quiet (fail)
      go_wp2_with fail
      go_roundw
      case rel => exact ⟨k + 1, by omega, by go_num, hg.drewN _⟩
      case measure => simp [intOf]; omega
    · obtain rfl : k = nl := by omega
      have hgw6 := hgw5.trans hg
      have hS1 := Lib.hid (same_any oi oj rx.length ci cj rx wr (HI4.out.keep hg) (HI5.out.keep hg))
      have hS2 := fun w1 (hq : Gr wr w1) => refSame_any o1 o2 q1 c1 q2 c2 rr rr w1 (HR4.out.keep (hg.trans hq)) (HR5.out.keep (hg.trans hq))
      rw [decide_eq_true rfl] at hS2
      have hS2 := Lib.hid hS2
      have hS3 := fun w1 (hq : Gr wr w1) => refSame_any oR o n cR n c rows rows w1 (HRw.out.keep (hg.trans hq)) (HR.out.keep (hgw6.trans hq))
      rw [decide_eq_true rfl] at hS3
      have hS3 := Lib.hid hS3
      have hCd := Lib.hid (fun w1 (hq : Gr wr w1) => codeOf_any rc w1 ((hgw6.trans hq).keep Hh.out))
      clear Hcx Hbx Hcl Hbl HEv HRw HI4 HI5 HR4 HR5
      by_cases hc0 : rc = 0
      · have hcz : (rc == 0) = true := by simp [hc0]
        rw [show errOf rc = .nilIface from if_pos hc0] at *
        go_wp2_with fail
        refine hS1.out.mono ?_
        rintro e w7 ⟨rfl, hg7⟩
        go_wp2_with fail
        refine (hS2.out _ hg7).mono ?_
        rintro e w8 ⟨rfl, hd8⟩
        have hg8 := hg7.trans hd8.gr
        go_wp2_with fail
        refine (hCd.out _ hg8).mono ?_
        rintro e w9 ⟨rfl, hg9⟩
        have hg9 := hg8.trans hg9
        go_wp2_with fail
        refine (hS3.out _ hg9).mono ?_
        rintro e w10 ⟨rfl, hd10⟩
        have hg10 := hg9.trans hd10.gr
        go_wp2_with fail
        refine (awake19_any _).mono ?_
        rintro e w11 ⟨rfl, hg11⟩
        go_wp2_with fail
        go_ret
        exact ⟨rfl, hgw6.trans (hg10.trans hg11)⟩
      · have hcz : (rc == 0) = false := by simp [hc0]
        rw [show errOf rc = errV rc from if_neg hc0] at *
        go_wp2_with fail
        refine hS1.out.mono ?_
        rintro e w7 ⟨rfl, hg7⟩
        go_wp2_with fail
        refine (hS2.out _ hg7).mono ?_
        rintro e w8 ⟨rfl, hd8⟩
        have hg8 := hg7.trans hd8.gr
        go_wp2_with fail
        refine (hCd.out _ hg8).mono ?_
        rintro e w9 ⟨rfl, hg9⟩
        have hg9 := hg8.trans hg9
        go_wp2_with fail
        refine (hS3.out _ hg9).mono ?_
        rintro e w10 ⟨rfl, hd10⟩
        have hg10 := hg9.trans hd10.gr
        go_wp2_with fail
        refine (awake19_any _).mono ?_
        rintro e w11 ⟨rfl, hg11⟩
        go_wp2_with fail
        go_ret
        exact ⟨rfl, hgw6.trans (hg10.trans hg11)⟩
end Go.Proofs.YtkngjnkecmjakaaDoor
