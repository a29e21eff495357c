import Derived.Test.YtopomocbjlikjaaWn20z
import Derived.Test.YtopomocbjlikjaaOv20z
import Derived.Test.YtopomocbjlikjaaGv20z
namespace Go.Proofs.Ytopomocbjlikjaa
set_option linter.unusedVariables false
set_option linter.unusedSimpArgs false
open Go.BigFrame Go.RowKit Go.WideShapes

/-! serial's left, and that what it leaves lies beside an older block. -/
theorem over_one2 {oa : Option Addr} {n cap : Nat} {l : List Rw} {bp : Nat} {o : Option Addr} {m c : Nat} {p : List Wt} {w : World} (h : RowsAt w oa n cap l) (h0 : w.cell? ⟨bp, 0, none⟩ = some (.slice o m c)) (hW : WritesAt w o m c p) (hn : n ≤ 100) (hm : m ≤ 40) :
    Calls Try.prog 35 #[.slice oa n cap, .slice (some ⟨bp, 0, none⟩) 1 1] w fun e w' => ∃ o q c, e = .returned (.slice o q c) ∧ OwnAt w' w.heap.size o q c (overL l p) ∧ Gr w w' :=
  over_own oa n cap l bp 1 [⟨o, m, c, p⟩] w h ⟨rfl, fun i hi => by
      obtain rfl : i = 0 := by omega
      exact ⟨h0, hW⟩, fun i hi => by
      obtain rfl : i = 0 := by omega
      exact hm⟩ hn (by omega)
set_option maxRecDepth 100000 in
set_option maxHeartbeats 20000000 in
theorem left_own (r : Option Nat) (t : Tr) (p : Option Addr) (n cp : Nat) (ob : Option Addr) (m cap2 : Nat) (l : List Rw) (w : World) (h : SeenAt w p n cp t.seen) (h2 : RowsAt (hideB w r) ob m cap2 l) (hr : ∀ g, r = some g → g < w.heap.size) (hs : m + n ≤ 100) :
    Calls Try.prog 29 #[.agg (trL t p n cp).toArray, .slice ob m cap2] w fun e w' => ∃ o q c, e = .returned (.slice o q c) ∧ RowsAt (hideB w' r) o q c (wrL t.seen l) ∧ Gr w w' := by
  have Hl := Lib.hid h.len
  have Hl2 := Lib.hid h2.len
  have hcl := h.cap_le
  have hcm := h.cap_max
  unfold maxLen at hcm
  have B0 : Bx (w.alloc (.cells (trL t p n cp).toArray 46)) w.heap.size (trL t p n cp) := (Bx.new w _ _ rfl).of (by simp)
  have hg0 := (Gr.refl w).alloc (.cells (trL t p n cp).toArray 46)
  obtain ⟨b, off, ho, hc⟩ := (h.keep hg0).get
  have Ho := Lib.hid ho
  have Hc := Lib.hid hc
  have H2 := Lib.hid (h2.exS (hideB_gr hg0 r))
  have Hr := Lib.hid fun g e => Nat.lt_of_lt_of_le (hr g e) hg0.le
  clear ho hc h h2 hr
  go_enter Try.func29, Try.ntmps29
  go_upto_region 1 with fail
  generalize w.alloc (.cells (trL t p n cp).toArray 46) = W at *
  generalize w.heap.size = b1 at *
  have v4 := B0.cell 4 rfl
  clear B0
  go_wp2_with fail
  go_loopw [1, 10] (fun s1 s10 wr => ∃ (k : Nat) (o : Option Addr) (q c : Nat), k ≤ n ∧ s10 = .int .i64 k ∧ s1 = .slice o q c ∧ Hid (RowsAt (hideB wr r) o q c (wrL (t.seen.take k) l)) ∧ Gr W wr) (fun _ s10 _ => n - (intOf s10).toNat)
  case atStart => exact ⟨0, ob, m, cap2, Nat.zero_le _, rfl, rfl, H2, Gr.refl _⟩
  case round =>
    obtain ⟨k, o, q, c, hk, rfl, rfl, hR, hg⟩ := hrel
    by_cases hlt : k < n
    · have hy : t.seen[k]? = some (t.seen[k]'(by have := Hl.out; omega)) := List.getElem?_eq_getElem _
      generalize (t.seen[k]'(by have := Hl.out; omega)) = s at hy
      obtain ⟨p1, m1, c1, R0⟩ := Hc.out k s hy
      have R1 := R0.keep hg
      have hz := R1.size
      have hI := run_seenP cp Ho.out hlt
      have hq : q ≤ 100 := by
        have e1 := hR.out.len
        have e2 := wrL_take_len t.seen k l
        have e3 := Hl2.out
        omega
      have HT := Lib.hid (wrL_take hy l)
      have HW := Lib.hid (@wrS_over s)
      have HNo := Lib.hid (@wrS_none s)
      have Z := (Bx.new wr zS.toArray 50 rfl).of (us := zS) (by simp)
      clear R0 hy
      go_upto_region 4 with (first | (refine wpList_load_mid rfl 50 _ rfl _ _ rfl _ _ (R1).rng Try.underlying50 rfl (by kernel_rfl) ?_) | ((with_reducible refine wpList_store_box (ty := 50) (Z) ((snL s p1 m1 c1)) ?_ ?_ ?_ ?_ ?_ ?_); (focus (exact rfl)); (focus (exact ⟨_, _, rfl, rfl, rfl⟩)); (focus (exact rfl)); (focus kernel_rfl); (focus kernel_rfl)))
      have B4 := Z.setAll (us := snL s p1 m1 c1) rfl
      have hg4 : Gr wr ((wr.alloc (.cells zS.toArray 50)).setCells wr.heap.size 0 (snL s p1 m1 c1)) := (((Gr.refl wr).alloc _).setCells (Nat.le_refl _) _ _)
      clear Z R1 hI
      generalize (wr.alloc (.cells zS.toArray 50)).setCells wr.heap.size 0 (snL s p1 m1 c1) = w4 at B4 hg4 ⊢
      generalize wr.heap.size = b4 at B4 ⊢
      have x0 := B4.cell 0 rfl
      have hgw := hg.trans hg4
      by_cases h34 : s.kind = 3 ∨ s.kind = 4
      · have hO := Lib.hid fun (w3 : World) (bp bq : Nat) (hg3 : Gr w4 w3) (g0 : w3.cell? ⟨bp, 0, none⟩ = some (.string (wtOf s).key)) (g1 : w3.cell? ⟨bp, 1, none⟩ = some (.string (wtOf s).val)) (g2 : w3.cell? ⟨bp, 2, none⟩ = some (.bool (wtOf s).gone)) (g3 : w3.cell? ⟨bq, 0, none⟩ = some (.slice (some ⟨bp, 0, none⟩) 1 1)) =>
          over_one2 ((hR.out.exS (hideB_ex _ _)).keep (hg4.trans hg3)) g3 (write_one (Nat.le_refl _) (by unfold maxLen; omega) g0 g1 g2 (wtOf_key s hz).1 (wtOf_key s hz).2) hq (by omega)
        have HT2 := Lib.hid (HT.out.trans (HW.out h34 _))
        have hW := Lib.hid fun w1 => write_any s p1 m1 c1 w1
        generalize wtOf s = rr at *
        rcases h34 with h3 | h3
        all_goals
          rw [h3] at x0
          clear h3 HNo HW HT hz
          go_wp2_with (first | ((with_reducible refine wpList_load_box (ty := 50) (B4) ?_ ?_ Try.underlying50 ?_ ?_ ?_); (focus (exact rfl)); (focus (exact ⟨_, rfl, rfl⟩)); (focus (exact rfl)); (focus kernel_rfl)) | (go_at_call 26; (with_reducible refine (hW.out _).mono ?_); rintro e w5 ⟨rfl, hg5⟩) | (go_at_call 35; (with_reducible refine Calls.mono (hO.out _ w5.heap.size _ ?_ ?_ ?_ ?_ ?_) ?_); (focus ((repeat (first | with_reducible exact Gr.refl _ | with_reducible refine Gr.drewN ?_ _ | with_reducible refine Gr.drew ?_ | with_reducible refine Gr.alloc ?_ _ | with_reducible refine Gr.setCell ?_ ?_ _ | (with_reducible refine Gr.trans ?_ (by assumption)) | omega | (dsimp only; omega))); done)); (focus (first | (simp [go_sem, cell_new_drewN]; done) | (refine Gr.keep (by assumption) ?_; simp [go_sem, cell_new_drewN]; done))); (focus (first | (simp [go_sem, cell_new_drewN]; done) | (refine Gr.keep (by assumption) ?_; simp [go_sem, cell_new_drewN]; done))); (focus (first | (simp [go_sem, cell_new_drewN]; done) | (refine Gr.keep (by assumption) ?_; simp [go_sem, cell_new_drewN]; done))); (focus (first | (simp [go_sem, cell_new_drewN]; done) | (refine Gr.keep (by assumption) ?_; simp [go_sem, cell_new_drewN]; done))); rintro e w6 ⟨o6, q6, c6, rfl, hr6, hg6⟩; (have hg7 : Gr w4 w6 := Gr.trans (by (repeat (first | with_reducible exact Gr.refl _ | with_reducible refine Gr.drewN ?_ _ | with_reducible refine Gr.drew ?_ | with_reducible refine Gr.alloc ?_ _ | with_reducible refine Gr.setCell ?_ ?_ _ | (with_reducible refine Gr.trans ?_ (by assumption)) | omega | (dsimp only; omega)))) hg6); have Hr6 := Lib.hid (hr6.hide20 (r := r) (fun g e => Nat.lt_of_lt_of_le (Nat.lt_of_lt_of_le (Hr.out g e) (Gr.le hgw)) (Gr.le (by (repeat (first | with_reducible exact Gr.refl _ | with_reducible refine Gr.drewN ?_ _ | with_reducible refine Gr.drew ?_ | with_reducible refine Gr.alloc ?_ _ | with_reducible refine Gr.setCell ?_ ?_ _ | (with_reducible refine Gr.trans ?_ (by assumption)) | omega | (dsimp only; omega))))))); clear hr6))
          go_roundw
          case rel => exact ⟨k + 1, o6, q6, c6, by omega, by go_num, rfl, Lib.hid (by rw [HT2.out]; exact Hr6.out), hgw.trans hg7⟩
          case measure => simp [intOf]; omega
      · have hE := HT.out.trans (HNo.out (by omega) _)
        have HE := Lib.hid hE
        have HR := Lib.hid (hR.out.exS (hideB_gr hg4 r))
        have e3 : (s.kind == 3) = false := by rw [beq_eq_false_iff_ne]; omega
        have e4 : (s.kind == 4) = false := by rw [beq_eq_false_iff_ne]; omega
        clear HNo HW HT hE h34
        go_wp2_with fail
        go_roundw
        case rel => exact ⟨k + 1, o, q, c, by omega, by go_num, rfl, Lib.hid (by rw [HE.out]; exact HR.out), hgw⟩
        case measure => simp [intOf]; omega
    · obtain rfl : k = n := by omega
      rw [List.take_of_length_le (by rw [Hl.out]; exact Nat.le_refl _)] at hR
      go_wp2_with fail
      go_ret
      exact ⟨o, q, c, rfl, hR.out, hg0.trans hg⟩
end Go.Proofs.Ytopomocbjlikjaa
