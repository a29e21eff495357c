import Derived.Test.YtfejdbcfcpmdiaaGb
import Derived.Test.YtfejdbcfcpmdiaaFw
import Derived.Test.YtfejdbcfcpmdiaaPw
namespace Go.Proofs.Ytfejdbcfcpmdiaa
set_option linter.unusedVariables false
set_option linter.unusedSimpArgs false
open Go.BigFrame Go.RowKit Go.WideShapes Go.ChangeMaps

/-- a table with none or one commit -/
def One (w : World) (base t cm mk : Nat) (hold : Int) (last : Nat) : Prop :=
  (last = 0 ∧ Tab w base t cm mk 2 9 0 0 hold #[] 0 #[] 0) ∨ (last = 1 ∧ ∃ es ck, Tab w base t cm mk 2 9 1 0 hold es ck #[] 0)
theorem One.keep {w w' : World} {base t cm mk : Nat} {hold : Int} {last : Nat} (h : One w base t cm mk hold last) (hg : Gr w w') : One w' base t cm mk hold last := by
  rcases h with ⟨h1, h2⟩ | ⟨h1, es, ck, h2⟩
  · exact .inl ⟨h1, h2.keep hg⟩
  · exact .inr ⟨h1, es, ck, h2.keep hg⟩
theorem One.tab {w : World} {base t cm mk : Nat} {hold : Int} {last : Nat} (h : One w base t cm mk hold last) : ∃ es ck, Tab w base t cm mk 2 9 last 0 hold es ck #[] 0 := by
  rcases h with ⟨rfl, h2⟩ | ⟨rfl, es, ck, h2⟩
  · exact ⟨_, _, h2⟩
  · exact ⟨_, _, h2⟩

set_option maxRecDepth 100000 in
set_option maxHeartbeats 8000000 in
theorem first_walk (oa : Option Addr) (n cap : Nat) (L : List Pw) (w : World) (h : PartsW w oa n cap L) :
    Calls Try.prog 6 #[.slice oa n cap] w fun e w' => e = .returned (.bool true) ∧ Gr w w' := by
  obtain ⟨b1, off1, ho1, hc1⟩ := h.cells
  have Hc1 := Lib.hid hc1
  have Ho1 := Lib.hid (fun q => (ho1 q).1)
  have hn1 := h.cap_le
  have hm1 := h.cap_max
  unfold maxLen at hm1
  clear hc1 ho1 h
  go_enter Try.func6, Try.ntmps6
  by_cases h1 : n ≤ 60
  rotate_left
  · go_wp2_with fail
    refine (awake_any _).mono ?_
    rintro e w2 ⟨rfl, hg2⟩
    go_wp2_with fail
    go_ret
    exact ⟨rfl, by repeat (first | with_reducible exact Gr.refl _ | with_reducible refine Gr.drewN ?_ _ | with_reducible refine Gr.drew ?_ | with_reducible refine Gr.alloc ?_ _ | with_reducible refine Gr.setCell ?_ ?_ _ | (with_reducible refine Gr.trans ?_ (by assumption)) | omega | (dsimp only; omega))⟩
  go_wp2_with fail
  refine (new_any 2 9 w (by omega) (by omega) (by omega) (by omega)).mono ?_
  rintro e w1 ⟨t, cm, mk, rfl, hT, hg1⟩
  have HT := Lib.hid (show One w1 w.heap.size t cm mk (-1) 0 from .inl ⟨rfl, hT⟩)
  clear hT
  go_wp2_with fail
  go_loopw [4, 27] (fun v i wr => ∃ (k last : Nat), k ≤ n ∧ i = .int .i64 k ∧ v = .int .i64 last ∧ Hid (One wr w.heap.size t cm mk (-1) last) ∧ Gr w wr) (fun _ i _ => n - (intOf i).toNat)
  case atStart => exact ⟨0, 0, Nat.zero_le _, rfl, rfl, HT, hg1⟩
  case round =>
    obtain ⟨k, last, hk, rfl, rfl, hone, hg⟩ := hrel
    clear HT hg1
    by_cases hlt : k < n
    · obtain ⟨a1, hw0⟩ := Hc1.out k hlt
      have a1 := hg.keep a1
      have hw := hw0.keep hg
      have hI := run_pw cap Ho1.out hlt
      generalize (pwAt L k).oa = po at *
      generalize (pwAt L k).n = m at *
      generalize (pwAt L k).cap = pc at *
      generalize (pwAt L k).l = lw at *
      have hF := Lib.hid (few_w po m pc lw wr hw)
      have HR := Lib.hid (fun w1 (hq : Gr wr w1) => refwRight_any po m pc lw w1 (hw.keep hq))
      have HG := Lib.hid (fun w1 (hq : Gr wr w1) (hm : m ≤ 1000000) => given_n (hw.keep hq) hm)
      clear hw hw0
      go_wp2_with fail
      refine hF.out.mono ?_
      rintro e w2 ⟨⟨b, rfl, hb⟩, d, rfl⟩
      have hgA : Gr wr (wr.drewN d) := by repeat (first | with_reducible exact Gr.refl _ | with_reducible refine Gr.drewN ?_ _ | with_reducible refine Gr.drew ?_ | with_reducible refine Gr.alloc ?_ _ | with_reducible refine Gr.setCell ?_ ?_ _ | (with_reducible refine Gr.trans ?_ (by assumption)) | omega | (dsimp only; omega))
      generalize wr.drewN d = w2 at *
      cases b
      · clear HR HG
        go_wp2_with fail
        refine (awake_any _).mono ?_
        rintro e w9 ⟨rfl, hg9⟩
        go_wp2_with fail
        go_ret
        exact ⟨rfl, (hg.trans hgA).trans (by (repeat (first | with_reducible exact Gr.refl _ | with_reducible refine Gr.drewN ?_ _ | with_reducible refine Gr.drew ?_ | with_reducible refine Gr.alloc ?_ _ | with_reducible refine Gr.setCell ?_ ?_ _ | (with_reducible refine Gr.trans ?_ (by assumption)) | omega | (dsimp only; omega))))⟩
      have hm := hb rfl
      have HG := Lib.hid (fun w1 (hq : Gr wr w1) => HG.out w1 hq (by omega))
      clear hb hF a1 hI
      cases hr : writesOkB lw
      · rw [hr] at HR
        go_wp2_with fail
        refine (HR.out _ hgA).mono ?_
        rintro e w3 ⟨rfl, hg3⟩
        have hgB := hgA.trans hg3
        clear hg3
        go_wp2_with fail
        refine (HG.out _ hgB).mono ?_
        rintro e w4 ⟨oB, cB, rfl, hoB, hg4⟩
        have hgC := hgB.trans hg4
        have hX := wright_any _ _ _ _ w4 hoB.rows
        rw [hr] at hX
        have hX := Lib.hid hX
        clear hoB hg4
        go_wp2_with fail
        refine hX.out.mono ?_
        rintro e w5 ⟨rfl, hg5⟩
        have hgD := hgC.trans hg5
        clear hX hg5
        go_wp2_with fail
        refine (HR.out _ hgD).mono ?_
        rintro e w6 ⟨rfl, hg6⟩
        have hgE := hgD.trans hg6
        clear hg6
        go_wp2_with fail
        refine (HG.out _ hgE).mono ?_
        rintro e w7 ⟨oE, cE, rfl, hoE, hg7⟩
        have hgF := hgE.trans hg7
        have hL := hoE.rows
        have hwr7 : Gr wr w7 := hgF
        clear hoE hg7
        go_wp2_with fail
        by_cases hm1' : m = 0
        · refine (append_bad hL (.inl hm1') 0).mono ?_
          rintro e w8 ⟨rfl, hg8⟩
          have hO := Lib.hid ((hone.out.keep hwr7).keep hg8)
          have hgG := (hg.trans hwr7).trans hg8
          clear hL hg8 HR HG
          go_wp2_with fail
          go_roundw
          case rel => exact ⟨k + 1, last, by omega, by go_num, rfl, hO, hgG⟩
          case measure => simp [intOf]; omega
        · refine (append_bad hL (.inr ⟨by omega, hr⟩) 0).mono ?_
          rintro e w8 ⟨rfl, hg8⟩
          have hO := Lib.hid ((hone.out.keep hwr7).keep hg8)
          have hgG := (hg.trans hwr7).trans hg8
          clear hL hg8 HR HG
          go_wp2_with fail
          go_roundw
          case rel => exact ⟨k + 1, last, by omega, by go_num, rfl, hO, hgG⟩
          case measure => simp [intOf]; omega
      · rw [hr] at HR
        rcases Nat.eq_zero_or_pos m with hm0 | hm0
        · subst hm0
          go_wp2_with fail
          refine (HR.out _ hgA).mono ?_
          rintro e w3 ⟨rfl, hg3⟩
          have hgB := hgA.trans hg3
          clear hg3
          go_wp2_with fail
          refine (HG.out _ hgB).mono ?_
          rintro e w4 ⟨oB, cB, rfl, hoB, hg4⟩
          have hgC := hgB.trans hg4
          have hX := wright_any _ _ _ _ w4 hoB.rows
          rw [hr] at hX
          have hX := Lib.hid hX
          clear hoB hg4
          go_wp2_with fail
          refine hX.out.mono ?_
          rintro e w5 ⟨rfl, hg5⟩
          have hgD := hgC.trans hg5
          clear hX hg5
          go_wp2_with fail
          refine (HR.out _ hgD).mono ?_
          rintro e w6 ⟨rfl, hg6⟩
          have hgE := hgD.trans hg6
          clear hg6
          go_wp2_with fail
          refine (HG.out _ hgE).mono ?_
          rintro e w7 ⟨oE, cE, rfl, hoE, hg7⟩
          have hgF := hgE.trans hg7
          have hL := hoE.rows
          have hwr7 : Gr wr w7 := hgF
          clear hoE hg7
          go_wp2_with fail
          refine (append_bad hL (.inl rfl) 0).mono ?_
          rintro e w8 ⟨rfl, hg8⟩
          have hO := Lib.hid ((hone.out.keep hwr7).keep hg8)
          have hgG := (hg.trans hwr7).trans hg8
          clear hL hg8 HR HG
          go_wp2_with fail
          go_roundw
          case rel => exact ⟨k + 1, last, by omega, by go_num, rfl, hO, hgG⟩
          case measure => simp [intOf]; omega
        · have hmp : decide ((0 : Int) < (m : Int)) = true := by simp; omega
          rcases hone.out with ⟨rfl, hT0⟩ | ⟨rfl, es, ck, hT0⟩
          · have hT0 := Lib.hid hT0
            go_wp2_with fail
            refine (HR.out _ hgA).mono ?_
            rintro e w3 ⟨rfl, hg3⟩
            have hgB := hgA.trans hg3
            clear hg3
            go_wp2_with fail
            refine (HG.out _ hgB).mono ?_
            rintro e w4 ⟨oB, cB, rfl, hoB, hg4⟩
            have hgC := hgB.trans hg4
            have hX := wright_any _ _ _ _ w4 hoB.rows
            rw [hr] at hX
            have hX := Lib.hid hX
            clear hoB hg4
            go_wp2_with fail
            refine hX.out.mono ?_
            rintro e w5 ⟨rfl, hg5⟩
            have hgD := hgC.trans hg5
            clear hX hg5
            go_wp2_with fail
            refine (HR.out _ hgD).mono ?_
            rintro e w6 ⟨rfl, hg6⟩
            have hgE := hgD.trans hg6
            clear hg6
            go_wp2_with fail
            refine (HG.out _ hgE).mono ?_
            rintro e w7 ⟨oE, cE, rfl, hoE, hg7⟩
            have hgF := hgE.trans hg7
            have hL := hoE.rows
            have hwr7 : Gr wr w7 := hgF
            clear hoE hg7
            go_wp2_with fail
            have hT1 := hT0.out.keep hwr7
            refine (append_ok hT1 hL hm0 (by omega) hr (by omega) (by omega) (by omega)).mono ?_
            rintro e w8 ⟨o8, c8, rfl, hb8, hL8, hT8⟩
            have hO : Hid (One w8 w.heap.size t cm mk (-1) 1) := Lib.hid (.inr ⟨rfl, _, _, hT8⟩)
            have hgG : Gr w w8 := (show Below w.heap.size w w7 from hg.trans hwr7).trans hb8
            clear hL hb8 hL8 hT8 HR HG hT1
            go_wp2_with fail
            go_roundw
            case rel => exact ⟨k + 1, 1, by omega, by go_num, rfl, hO, hgG⟩
            case measure => simp [intOf]; omega
          · have hT0 := Lib.hid hT0
            go_wp2_with fail
            refine (HR.out _ hgA).mono ?_
            rintro e w3 ⟨rfl, hg3⟩
            have hgB := hgA.trans hg3
            clear hg3
            go_wp2_with fail
            refine (HG.out _ hgB).mono ?_
            rintro e w4 ⟨oB, cB, rfl, hoB, hg4⟩
            have hgC := hgB.trans hg4
            have hX := wright_any _ _ _ _ w4 hoB.rows
            rw [hr] at hX
            have hX := Lib.hid hX
            clear hoB hg4
            go_wp2_with fail
            refine hX.out.mono ?_
            rintro e w5 ⟨rfl, hg5⟩
            have hgD := hgC.trans hg5
            clear hX hg5
            go_wp2_with fail
            refine (HR.out _ hgD).mono ?_
            rintro e w6 ⟨rfl, hg6⟩
            have hgE := hgD.trans hg6
            clear hg6
            go_wp2_with fail
            refine (HG.out _ hgE).mono ?_
            rintro e w7 ⟨oE, cE, rfl, hoE, hg7⟩
            have hgF := hgE.trans hg7
            have hL := hoE.rows
            have hwr7 : Gr wr w7 := hgF
            clear hoE hg7
            go_wp2_with fail
            have hT1 := hT0.out.keep hwr7
            refine (append_late hT1 hL hm0 hr 0 (by omega)).mono ?_
            rintro e w8 ⟨rfl, hg8⟩
            have hO := Lib.hid ((hone.out.keep hwr7).keep hg8)
            have hgG := (hg.trans hwr7).trans hg8
            clear hL hg8 HR HG hT1
            go_wp2_with fail
            go_roundw
            case rel => exact ⟨k + 1, 1, by omega, by go_num, rfl, hO, hgG⟩
            case measure => simp [intOf]; omega
    · obtain rfl : k = n := by omega
      obtain ⟨es, ck, hT⟩ := hone.out.tab
      have T0 := Lib.hid hT
      clear hT hone
      go_wp2_with fail
      refine (grab_ok T0.out 1 (by omega) (by omega) (by omega)).mono ?_
      rintro e w2 ⟨rfl, hT1, hb1⟩
      have T1 := Lib.hid hT1
      clear hT1 T0
      have hg2 : Gr w w2 := (show Below w.heap.size w wr from hg).trans hb1
      clear hb1
      go_wp2_with fail
      refine (grab_busy T1.out 0 (by omega) (by omega) (by omega)).mono ?_
      rintro e w3 ⟨rfl, rfl⟩
      go_wp2_with fail
      refine (yield_not T1.out 0 (by omega) (by omega) (by omega)).mono ?_
      rintro e w3 ⟨rfl, rfl⟩
      go_wp2_with fail
      refine (yield_ok T1.out 1 (by omega) (by omega) rfl).mono ?_
      rintro e w4 ⟨rfl, hT2, hb2⟩
      have T2 := Lib.hid hT2
      have hg4 : Gr w w4 := (show Below w.heap.size w _ from hg2).trans hb2
      clear hT2 hb2 T1
      go_wp2_with fail
      refine (grab_ok T2.out 0 (by omega) (by omega) (by omega)).mono ?_
      rintro e w5 ⟨rfl, hT3, hb3⟩
      have T3 := Lib.hid hT3
      have hg5 : Gr w w5 := (show Below w.heap.size w _ from hg4).trans hb3
      clear hT3 hb3 T2
      go_wp2_with fail
      refine (last_any T3.out).mono ?_
      rintro e w6 ⟨rfl, rfl⟩
      go_wp2_with fail
      refine (awake_any _).mono ?_
      rintro e w7 ⟨rfl, hg7⟩
      go_wp2_with fail
      go_ret
      exact ⟨rfl, hg5.trans (by (repeat (first | with_reducible exact Gr.refl _ | with_reducible refine Gr.drewN ?_ _ | with_reducible refine Gr.drew ?_ | with_reducible refine Gr.alloc ?_ _ | with_reducible refine Gr.setCell ?_ ?_ _ | (with_reducible refine Gr.trans ?_ (by assumption)) | omega | (dsimp only; omega))))⟩
end Go.Proofs.Ytfejdbcfcpmdiaa
