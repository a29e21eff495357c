import Derived.Test.YtkngjnkecmjakaaGc
import Derived.Test.YtkngjnkecmjakaaF19
namespace Go.Proofs.Ytkngjnkecmjakaa
set_option linter.unusedVariables false
set_option linter.unusedSimpArgs false
open Go.BigFrame Go.RowKit Go.WideShapes

set_option maxRecDepth 100000 in
set_option maxHeartbeats 4000000 in
theorem rgt_walk (ol : Option Addr) (nl cl : Nat) (l : List Ev) (o : Option Addr) (n c : Nat) (rows : List Rw) (w : World) (hE : EvsAt w ol nl cl l) (hR : RowsAt w o n c rows) :
    Calls Try.prog 3 #[.slice ol nl cl, .slice o n c] w fun e w' => e = .returned (.bool true) ∧ Gr w w' := by
  have hFE := Lib.hid (fun w1 (hq : Gr w w1) => few19_any ol nl cl l w1 (hE.keep hq))
  have hFR := Lib.hid (fun w1 (hq : Gr w w1) => few_any o n c rows w1 (hR.keep hq))
  have HE := Lib.hid hE
  have HR := Lib.hid hR
  have hlen := hE.len
  have hrlen := hR.len
  have hn1 := hE.cap_le
  have hm1 := hE.cap_max
  unfold maxLen at hm1
  clear hE hR
  by_cases h6 : 6 < nl
  · have h6' : decide (6 < (nl : Int)) = true := by simp; omega
    go_enter Try.func3, Try.ntmps3
    go_wp2_with fail
    refine (awake19_any _).mono ?_
    rintro e w1 ⟨rfl, hg1⟩
    go_wp2_with fail
    go_ret
    exact ⟨rfl, by repeat (first | with_reducible exact Gr.refl _ | with_reducible refine Gr.drewN ?_ _ | with_reducible refine Gr.drew ?_ | with_reducible refine Gr.alloc ?_ _ | with_reducible refine Gr.setCell ?_ ?_ _ | (with_reducible refine Gr.trans ?_ (by assumption)) | omega | (dsimp only; omega))⟩
  · have h6' : decide (6 < (nl : Int)) = false := by simp; omega
    go_enter Try.func3, Try.ntmps3
    go_wp2_with fail
    refine (hFE.out _ (Gr.refl _)).mono ?_
    rintro e w1 ⟨⟨b1, rfl, hb1⟩, d1⟩
    have hg1 := d1.gr
    clear d1
    cases b1
    · go_wp2_with fail
      refine (awake19_any _).mono ?_
      rintro e w2 ⟨rfl, hg2⟩
      go_wp2_with fail
      go_ret
      exact ⟨rfl, hg1.trans hg2⟩
    · have hsz := (hb1 rfl).2
      clear hb1
      go_wp2_with fail
      refine (hFR.out _ hg1).mono ?_
      rintro e w2 ⟨⟨b2, rfl, hb2⟩, d2⟩
      have hg2 := hg1.trans d2.gr
      clear d2
      cases b2
      · go_wp2_with fail
        refine (awake19_any _).mono ?_
        rintro e w3 ⟨rfl, hg3⟩
        go_wp2_with fail
        go_ret
        exact ⟨rfl, hg2.trans hg3⟩
      · have hn := hb2 rfl
        clear hb2 hg1 hFE hFR
        have hOE := Lib.hid (evown_empty (w := w2) rfl (Nat.le_refl w2.heap.size))
        have hev := Lib.hid (HE.out.keep (hg2.alloc (.cells #[] 40)))
        have hg3 := hg2.alloc (.cells #[] 40)
        go_wp2_with (first | (at_builtin; refine wpList_ev rfl _ _ rfl w2.heap.size (Gr.le (by repeat (first | with_reducible exact Gr.refl _ | with_reducible refine Gr.drewN ?_ _ | with_reducible refine Gr.drew ?_ | with_reducible refine Gr.alloc ?_ _ | with_reducible refine Gr.setCell ?_ ?_ _ | (with_reducible refine Gr.trans ?_ (by assumption)) | omega | (dsimp only; omega)))) rfl hOE.out rfl hev.out (by omega) ?_; intro oE cE wE hoE hgE; rw [Nat.zero_add] at hoE; have hgE2 : Gr w2 wE := evgrown_gr hgE hOE.out ((Gr.refl w2).alloc _) (Nat.le_refl _); have hgE3 := hg2.trans hgE2; have hOEn := Lib.hid hoE; have hRE := Lib.hid (HR.out.keep (hgE3.alloc (.cells #[] 47))); clear hoE hgE) | (at_builtin; refine wpList_rows_g rfl _ _ rfl wE.heap.size (Gr.le (by repeat (first | with_reducible exact Gr.refl _ | with_reducible refine Gr.drewN ?_ _ | with_reducible refine Gr.drew ?_ | with_reducible refine Gr.alloc ?_ _ | with_reducible refine Gr.setCell ?_ ?_ _ | (with_reducible refine Gr.trans ?_ (by assumption)) | omega | (dsimp only; omega)))) rfl (own_empty_b rfl (Nat.le_refl _)) rfl hRE.out (by omega) ?_; intro oR cR wR hoR hgR; rw [Nat.zero_add] at hoR; have hgR2 : Gr wE wR := grown_gr hgR (own_empty_b rfl (Nat.le_refl _)) ((Gr.refl wE).alloc _) (Nat.le_refl _); have hORn := Lib.hid hoR; clear hoR hgR))
        have hEv := (hOEn.out.keep hgR2).rows
        rw [List.nil_append] at hEv
        have hRw := hORn.out.rows
        rw [List.nil_append] at hRw
        have hgw := hgE3.trans hgR2
        clear hOEn hORn hRE hgE2 hgE3 hg3 hOE hev hg2 hgR2
        by_cases hgood : (∀ i, i < nl → evOk (evAt l i) = true) ∧ rowsOkB rows = true
        · obtain ⟨hok, hrok⟩ := hgood
          refine (order_ok oE nl cE l oR n cR rows wR hEv hRw (by omega) (by omega) hok hrok).mono ?_
          intro e w4 hP
          cases hF : findF l nl (List.replicate nl false) [] rows with
          | none =>
            rw [hF] at hP
            obtain ⟨rfl, hg4⟩ := hP
            go_wp2_with fail
            refine (awake19_any _).mono ?_
            rintro e w9 ⟨rfl, hg9⟩
            go_wp2_with fail
            go_ret
            exact ⟨rfl, (hgw.trans hg4).trans hg9⟩
          | some r =>
            rw [hF] at hP
            obtain ⟨⟨ov, o1, q1, c1, rfl, hown, hO1⟩, hg4⟩ := hP
            have hrl := find_len _ _ _ _ _ hF
            have hgF := find_goodF (l := l) (rows := rows) (r := r) (by rw [hlen]; exact hok) hrok (by rw [hlen]; exact hF)
            obtain ⟨oi, ci, rfl, hI⟩ := ints_of_own hown
            have HO1 := Lib.hid hO1
            have HI := Lib.hid hI
            have HGF := Lib.hid hgF
            have hg4 := hgw.trans hg4
            clear hown hF hO1 hI hgF hEv hRw
            have hGd := Lib.hid (good_any ol nl cl l oi r.1.length ci r.1 o n c rows true w4 (HE.out.keep hg4) HI.out (HR.out.keep hg4) (by omega) (by simp at hrl; omega) hok)
            rw [HGF.out] at hGd
            go_wp2_with fail
            refine hGd.out.mono ?_
            rintro e w5 ⟨o5, q5, c5, rfl, hr5, hg5⟩
            have hS := refSame_any o1 o5 q1 c1 q5 c5 _ _ w5 (HO1.out.rows.keep hg5) hr5
            rw [decide_eq_true rfl] at hS
            have hS := Lib.hid hS
            clear hr5 hGd
            go_wp2_with fail
            refine hS.out.mono ?_
            rintro e w6 ⟨rfl, hd6⟩
            have hg6 := hg4.trans (hg5.trans hd6.gr)
            clear hS hd6
            go_wp2_with fail
            refine (awake19_any _).mono ?_
            rintro e w9 ⟨rfl, hg9⟩
            go_wp2_with fail
            go_ret
            exact ⟨rfl, (hg6).trans hg9⟩
        · have hbad : (∃ i, i < nl ∧ evOk (evAt l i) = false) ∨ rowsOkB rows = false := by
            rcases Bool.eq_false_or_eq_true (rowsOkB rows) with q | q
            · left
              apply Classical.byContradiction
              intro hne
              exact hgood ⟨fun i hi => by
                rcases Bool.eq_false_or_eq_true (evOk (evAt l i)) with r | r
                · exact r
                · exact absurd ⟨i, hi, r⟩ hne, q⟩
            · exact .inr q
          refine (order_bad oE nl cE l oR n cR rows wR hEv hRw (by omega) hbad).mono ?_
          rintro e w4 ⟨rfl, hg4⟩
          have hg4 := hgw.trans hg4
          clear hEv hRw hbad hgood hgw
          go_wp2_with fail
          refine (awake19_any _).mono ?_
          rintro e w9 ⟨rfl, hg9⟩
          go_wp2_with fail
          go_ret
          exact ⟨rfl, (hg4).trans hg9⟩
end Go.Proofs.Ytkngjnkecmjakaa
