import Derived.Test.YtopomocbjlikjaaFw20z
import Derived.Test.YtopomocbjlikjaaWk20z
import Derived.Test.YtopomocbjlikjaaOvz
import Derived.Deep.RegionHeld3
namespace Go.Proofs.Ytopomocbjlikjaa
set_option linter.unusedVariables false
set_option linter.unusedSimpArgs false
open Go.BigFrame Go.RowKit Go.WideShapes

/-! What was written, over rows: the document's Written, serial's left. -/
theorem over_one20 {oa : Option Addr} {n cap : Nat} {l : List Rw} {bp : Nat} {o : Option Addr} {m c : Nat} {p : List Wt} {w : World} (h : RowsAt w oa n cap l) (h0 : w.cell? ⟨bp, 0, none⟩ = some (.slice o m c)) (hW : WritesAt w o m c p) (hn : n ≤ 100) (hm : m ≤ 40) :
    Calls Try.prog 35 #[.slice oa n cap, .slice (some ⟨bp, 0, none⟩) 1 1] w fun e w' => ∃ o q c, e = .returned (.slice o q c) ∧ RowsAt w' o q c (overL l p) ∧ Gr w w' :=
  over_any oa n cap l bp 1 [⟨o, m, c, p⟩] w h ⟨rfl, fun i hi => by
      obtain rfl : i = 0 := by omega
      exact ⟨h0, hW⟩, fun i hi => by
      obtain rfl : i = 0 := by omega
      exact hm⟩ hn (by omega)
theorem wrS_over {s : Sn} (h : s.kind = 3 ∨ s.kind = 4) (l : List Rw) : wrS l s = overL l [wtOf s] := by
  show wrS l s = stepL l (wtOf s)
  unfold wrS stepL wtOf
  rcases h with h | h
  · rw [if_pos h, if_neg (show ¬ s.kind = 4 by omega)]; simp
  · rw [if_neg (show ¬ s.kind = 3 by omega), if_pos h]; simp [h]
theorem wrS_none {s : Sn} (h : s.kind ≠ 3 ∧ s.kind ≠ 4) (l : List Rw) : wrS l s = l := by
  unfold wrS
  rw [if_neg h.1, if_neg h.2]
theorem wrL_take {ss : List Sn} {k : Nat} {s : Sn} (h : ss[k]? = some s) (l : List Rw) : wrL (ss.take (k + 1)) l = wrS (wrL (ss.take k) l) s := by
  obtain ⟨h1, h2⟩ := List.getElem?_eq_some_iff.1 h
  rw [List.take_succ_eq_append_getElem h1, h2]
  unfold wrL
  rw [List.foldl_append]; rfl
theorem wrL_take_len (ss : List Sn) (k : Nat) (l : List Rw) : (wrL (ss.take k) l).length ≤ l.length + k := by
  have := wrL_len (ss.take k) l
  have h2 : (ss.take k).length ≤ k := by rw [List.length_take]; omega
  omega
set_option maxRecDepth 100000 in
set_option maxHeartbeats 20000000 in
theorem written_any (oa : Option Addr) (n cap : Nat) (ss : List Sn) (ob : Option Addr) (m cap2 : Nat) (l : List Rw) (w : World) (h : SeenAt w oa n cap ss) (h2 : RowsAt w ob m cap2 l) (hs : m + n ≤ 1000) :
    Calls Try.prog 9 #[.slice oa n cap, .slice ob m cap2] w fun e w' => ∃ o q c, e = .returned (.slice o q c) ∧ RowsAt w' o q c (wrL ss l) ∧ Gr w w' := by
  have Hl := Lib.hid h.len
  have Hl2 := Lib.hid h2.len
  have hcl := h.cap_le
  have hcm := h.cap_max
  unfold maxLen at hcm
  obtain ⟨b, off, ho, hc⟩ := h.get
  have Ho := Lib.hid ho
  have Hc := Lib.hid hc
  have H2 := Lib.hid h2
  clear ho hc h h2
  go_enter Try.func9, Try.ntmps9
  go_wp2_with fail
  go_loopw [1, 5] (fun s1 s5 wr => ∃ (k : Nat) (o : Option Addr) (q c : Nat), k ≤ n ∧ s5 = .int .i64 k ∧ s1 = .slice o q c ∧ Hid (RowsAt wr o q c (wrL (ss.take k) l)) ∧ Gr w wr) (fun _ s5 _ => n - (intOf s5).toNat)
  case atStart => exact ⟨0, ob, m, cap2, Nat.zero_le _, rfl, rfl, H2, Gr.refl _⟩
  case round =>
    obtain ⟨k, o, q, c, hk, rfl, rfl, hR, hg⟩ := hrel
    by_cases hlt : k < n
    · have hy : ss[k]? = some (ss[k]'(by have := Hl.out; omega)) := List.getElem?_eq_getElem _
      generalize (ss[k]'(by have := Hl.out; omega)) = s at hy
      obtain ⟨p1, m1, c1, R0⟩ := Hc.out k s hy
      have R := R0.keep hg
      have a0 := R.cell 0 rfl
      have a1 := R.cell 1 rfl
      have a2 := R.cell 2 rfl
      simp only [Nat.add_zero] at a0
      have hz := R.size
      have hI := run_seen cap Ho.out hlt
      have hq : q ≤ 1000 := by
        have e1 := hR.out.len
        have e2 := wrL_take_len ss k l
        have e3 := Hl2.out
        omega
      have HT := Lib.hid (wrL_take hy l)
      have HW := Lib.hid (@wrS_over s)
      have HNo := Lib.hid (@wrS_none s)
      clear R R0 hy
      by_cases h34 : s.kind = 3 ∨ s.kind = 4
      · have hO := Lib.hid fun (w3 : World) (bp : Nat) (hg3 : Gr wr w3) (g0 : w3.cell? ⟨bp, 0, none⟩ = some (.string (wtOf s).key)) (g1 : w3.cell? ⟨bp, 1, none⟩ = some (.string (wtOf s).val)) (g2 : w3.cell? ⟨bp, 2, none⟩ = some (.bool (wtOf s).gone)) =>
          refOver_any o q c _ (some ⟨bp, 0, none⟩) 1 1 [wtOf s] w3 (hR.out.keep hg3) (write_one (Nat.le_refl _) (by unfold maxLen; omega) g0 g1 g2 (wtOf_key s hz).1 (wtOf_key s hz).2) hq (by omega)
        have HT2 := Lib.hid (HT.out.trans (HW.out h34 _))
        rcases h34 with h3 | h3
        · have e : wtOf s = ⟨s.key, s.val, false⟩ := by unfold wtOf; rw [if_neg (by omega)]
          rw [e] at hO HT2
          rw [h3] at a0
          have hr := hR
          clear e h3 HNo HW HT hR hz
          go_upto_region 5 with fail
          go_cut [1] (fun s1 wx => ∃ (o5 : Option Addr) (q5 c5 : Nat), s1 = .slice o5 q5 c5 ∧ Hid (RowsAt wx o5 q5 c5 (wrL (ss.take (k + 1)) l)) ∧ Gr wr wx)
          case first =>
            go_region_held3 (fun W' => W'.cell? ⟨b, off + k * 10 + 1, none⟩ = some (.string s.key) ∧ W'.cell? ⟨b, off + k * 10 + 2, none⟩ = some (.string s.val))
              ((go_split_ands; (repeat' apply And.intro) <;> first | with_reducible assumption | (with_reducible refine Gr.keep hg5 ?_; with_reducible assumption) | ((repeat (first | with_reducible refine drew1 ?_ | with_reducible refine alloc1 ?_ | with_reducible refine far1 ?_ (by omega))); first | with_reducible assumption | (with_reducible refine Gr.keep hg5 ?_; (repeat (first | with_reducible refine drew1 ?_ | with_reducible refine alloc1 ?_)); with_reducible assumption)))) (first | (go_at_call 19; (with_reducible refine Calls.mono (hO.out _ _ ?_ ?_ ?_ ?_) ?_); (focus ((repeat (first | with_reducible exact Gr.refl _ | with_reducible refine Gr.drewN ?_ _ | with_reducible refine Gr.drew ?_ | with_reducible refine Gr.alloc ?_ _ | with_reducible refine Gr.setCell ?_ ?_ _ | (with_reducible refine Gr.trans ?_ (by assumption)) | omega | (dsimp only; omega))); done)); (focus (first | (simp [go_sem, cell_new_drewN]; done) | (refine Gr.keep (by assumption) ?_; simp [go_sem, cell_new_drewN]; done))); (focus (first | (simp [go_sem, cell_new_drewN]; done) | (refine Gr.keep (by assumption) ?_; simp [go_sem, cell_new_drewN]; done))); (focus (first | (simp [go_sem, cell_new_drewN]; done) | (refine Gr.keep (by assumption) ?_; simp [go_sem, cell_new_drewN]; done))); rintro e w5 ⟨o5, q5, c5, rfl, hr5, hg5⟩; (have hg6 : Gr wr w5 := Gr.trans (by (repeat (first | with_reducible exact Gr.refl _ | with_reducible refine Gr.drewN ?_ _ | with_reducible refine Gr.drew ?_ | with_reducible refine Gr.alloc ?_ _ | with_reducible refine Gr.setCell ?_ ?_ _ | (with_reducible refine Gr.trans ?_ (by assumption)) | omega | (dsimp only; omega)))) hg5); have Hr5 := Lib.hid hr5; clear hr5))
            all_goals
              go_wp2_with fail
              go_meet
              exact ⟨o5, q5, c5, rfl, Lib.hid (by rw [HT2.out]; exact Hr5.out), hg6⟩
          case rest =>
            obtain ⟨o5, q5, c5, rfl, Hr5, hg6⟩ := hcut
            have a0 := hg6.keep a0
            clear a1 a2 hO
            go_wp2_with fail
            go_roundw
            case rel => exact ⟨k + 1, o5, q5, c5, by omega, by go_num, rfl, Hr5, hg.trans hg6⟩
            case measure => simp [intOf]; omega
        · have e : wtOf s = ⟨s.key, ⟨#[]⟩, true⟩ := by unfold wtOf; rw [if_pos h3]
          rw [e] at hO HT2
          rw [h3] at a0
          clear e h3 HNo HW HT hR hz
          go_wp2_with (go_at_call 19; (with_reducible refine Calls.mono (hO.out _ _ ?_ ?_ ?_ ?_) ?_); (focus ((repeat (first | with_reducible exact Gr.refl _ | with_reducible refine Gr.drewN ?_ _ | with_reducible refine Gr.drew ?_ | with_reducible refine Gr.alloc ?_ _ | with_reducible refine Gr.setCell ?_ ?_ _ | (with_reducible refine Gr.trans ?_ (by assumption)) | omega | (dsimp only; omega))); done)); (focus (first | (simp [go_sem, cell_new_drewN]; done) | (refine Gr.keep (by assumption) ?_; simp [go_sem, cell_new_drewN]; done))); (focus (first | (simp [go_sem, cell_new_drewN]; done) | (refine Gr.keep (by assumption) ?_; simp [go_sem, cell_new_drewN]; done))); (focus (first | (simp [go_sem, cell_new_drewN]; done) | (refine Gr.keep (by assumption) ?_; simp [go_sem, cell_new_drewN]; done))); rintro e w5 ⟨o5, q5, c5, rfl, hr5, hg5⟩; (have hg6 : Gr wr w5 := Gr.trans (by (repeat (first | with_reducible exact Gr.refl _ | with_reducible refine Gr.drewN ?_ _ | with_reducible refine Gr.drew ?_ | with_reducible refine Gr.alloc ?_ _ | with_reducible refine Gr.setCell ?_ ?_ _ | (with_reducible refine Gr.trans ?_ (by assumption)) | omega | (dsimp only; omega)))) hg5); have Hr5 := Lib.hid hr5; clear hr5)
          go_roundw
          case rel => exact ⟨k + 1, o5, q5, c5, by omega, by go_num, rfl, Lib.hid (by rw [HT2.out]; exact Hr5.out), hg.trans hg6⟩
          case measure => simp [intOf]; omega
      · have hE := HT.out.trans (HNo.out (by omega) _)
        have HE := Lib.hid hE
        have e3 : (s.kind == 3) = false := by rw [beq_eq_false_iff_ne]; omega
        have e4 : (s.kind == 4) = false := by rw [beq_eq_false_iff_ne]; omega
        clear HNo HW HT hE h34
        go_wp2_with fail
        go_roundw
        case rel => exact ⟨k + 1, o, q, c, by omega, by go_num, rfl, Lib.hid (by rw [HE.out]; exact hR.out), hg⟩
        case measure => simp [intOf]; omega
    · obtain rfl : k = n := by omega
      rw [List.take_of_length_le (by rw [Hl.out]; exact Nat.le_refl _)] at hR
      go_wp2_with fail
      go_ret
      exact ⟨o, q, c, rfl, hR.out, hg⟩
end Go.Proofs.Ytopomocbjlikjaa
