import Derived.Test.YtopomocbjlikjaaFt20z
import Derived.Test.YtopomocbjlikjaaGv20z
namespace Go.Proofs.Ytopomocbjlikjaa
set_option linter.unusedVariables false
set_option linter.unusedSimpArgs false
open Go.BigFrame Go.RowKit Go.WideShapes

/-! Does a trip fit rows (serial): the loop. -/
/-- rows stay where another value than a text is written -/
theorem RowsAt.setC {w : World} {oa : Option Addr} {n cap : Nat} {l : List Rw} (h : RowsAt w oa n cap l) {b' j : Nat} {o : Option Addr} {q c : Nat} (hc : w.cell? ⟨b', j, Option.none⟩ = some (.slice o q c)) (u : Value) : RowsAt (w.setCell ⟨b', j, Option.none⟩ u) oa n cap l := by
  obtain ⟨h1, h2, h3, h4, ⟨b, off, h5, h6⟩, h7⟩ := h
  have hne : ∀ {x : Nat} {y : ByteArray}, w.cell? ⟨b, x, Option.none⟩ = some (.string y) → (w.setCell ⟨b', j, Option.none⟩ u).cell? ⟨b, x, Option.none⟩ = some (.string y) := fun {x y} q => by
    rw [World.cell?_setCell_other _ _ _ _ (fun e => by rw [e, q] at hc; simp at hc)]
    exact q
  exact ⟨h1, h2, h3, h4, ⟨b, off, fun q => ⟨(h5 q).1, by unfold World.setCell; simpa using (h5 q).2⟩, fun i hi => ⟨hne (h6 i hi).1, hne (h6 i hi).2⟩⟩, h7⟩
theorem fit_w {ss : List Sn} {k : Nat} {s : Sn} (h : ss[k]? = some s) (h3 : s.kind = 3 ∨ s.kind = 4) (x : List Rw) : fitL (ss.drop k) x = fitL (ss.drop (k + 1)) (wrS x s) := by
  obtain ⟨h1, h2⟩ := List.getElem?_eq_some_iff.1 h
  rw [List.drop_eq_getElem_cons h1, h2]
  show fitL (s :: _) x = _
  conv => lhs; unfold fitL
  rw [if_pos h3]
theorem fit_s {ss : List Sn} {k : Nat} {s : Sn} (h : ss[k]? = some s) (h3 : ¬ (s.kind = 3 ∨ s.kind = 4)) (x : List Rw) : fitL (ss.drop k) x = (seesB s x && fitL (ss.drop (k + 1)) x) := by
  obtain ⟨h1, h2⟩ := List.getElem?_eq_some_iff.1 h
  rw [List.drop_eq_getElem_cons h1, h2]
  show fitL (s :: _) x = _
  conv => lhs; unfold fitL
  rw [if_neg h3]
  unfold seesB
  by_cases h5 : s.kind = 5
  · rw [if_pos h5, if_pos h5]
    by_cases e : s.rows = takeR s.low s.high s.unb s.limit s.rev x
    · rw [if_pos e, decide_eq_true e, Bool.true_and]
    · rw [if_neg e, decide_eq_false e, Bool.false_and]
  · rw [if_neg h5, if_neg h5]
theorem fitsT_no {t : Tr} {r : List Rw} (h : okT t = false ∨ rowsOkB r = false) : fitsT t r = false := by
  unfold fitsT
  rcases h with h | h <;> rw [h] <;> simp
theorem fitsT_yes {t : Tr} {r : List Rw} (h : okT t = true) (h2 : rowsOkB r = true) : fitsT t r = fitL (t.seen.drop 0) (wrL (t.seen.take 0) r) := by
  unfold fitsT
  rw [h, h2]; rfl
set_option maxRecDepth 100000 in
set_option maxHeartbeats 20000000 in
theorem fits20_any (t : Tr) (p : Option Addr) (n cp : Nat) (ob : Option Addr) (m cap2 : Nat) (r : List Rw) (w : World) (h : SeenAt w p n cp t.seen) (h2 : RowsAt w ob m cap2 r) (hs : m + n ≤ 100) :
    Calls Try.prog 21 #[.agg (trL t p n cp).toArray, .slice ob m cap2] w fun e w' => e = .returned (.bool (fitsT t r)) ∧ Gr w w' := by
  have hmf : ∀ (fn : Fn) (first cap : Array Value) (w : World), (Instr.makeFunc fn first cap).run Try.prog w = .ok (.func fn first cap) w := fun _ _ _ _ => rfl
  have Hl := Lib.hid h.len
  have Hl2 := Lib.hid h2.len
  have hcl := h.cap_le
  have hcm := h.cap_max
  unfold maxLen at hcm
  have B0 : Bx (w.alloc (.cells (trL t p n cp).toArray 46)) w.heap.size (trL t p n cp) := (Bx.new w _ _ rfl).of (by simp)
  have hg0 := (Gr.refl w).alloc (.cells (trL t p n cp).toArray 46)
  have HS := Lib.hid (h.keep hg0)
  have H2 := Lib.hid (h2.keep hg0)
  clear h h2
  go_enter Try.func21, Try.ntmps21
  go_upto_region 1 with fail
  generalize w.alloc (.cells (trL t p n cp).toArray 46) = W at *
  generalize w.heap.size = b1 at *
  have hRi := Lib.hid (right20_any t p n cp W HS.out)
  have hRo := Lib.hid fun w1 (hg : Gr W w1) => rowsRight_any ob m cap2 r w1 (H2.out.keep hg)
  cases hok : okT t
  · have E := Lib.hid (fitsT_no (r := r) (.inl hok))
    rw [hok] at hRi
    clear hok
    go_wp2_with (first | ((with_reducible refine wpList_load_box (ty := 46) (B0) ?_ ?_ Try.underlying46 ?_ ?_ ?_); (focus (exact rfl)); (focus (exact ⟨_, rfl, rfl⟩)); (focus (exact rfl)); (focus kernel_rfl)) | (go_at_call 15; (with_reducible refine hRi.out.mono ?_); rintro e w3 ⟨rfl, hg3⟩))
    go_ret
    exact ⟨by first | (rw [E.out]; rfl) | rw [E.out], hg0.trans hg3⟩
  cases hro : rowsOkB r
  · have E := Lib.hid (fitsT_no (t := t) (.inr hro))
    rw [hok] at hRi
    rw [hro] at hRo
    clear hok hro
    go_wp2_with (first | ((with_reducible refine wpList_load_box (ty := 46) (B0) ?_ ?_ Try.underlying46 ?_ ?_ ?_); (focus (exact rfl)); (focus (exact ⟨_, rfl, rfl⟩)); (focus (exact rfl)); (focus kernel_rfl)) | (go_at_call 15; (with_reducible refine hRi.out.mono ?_); rintro e w3 ⟨rfl, hg3⟩) | (go_at_call 30; (with_reducible refine (hRo.out _ hg3).mono ?_); rintro e w4 ⟨rfl, hg4⟩))
    go_ret
    exact ⟨by first | (rw [E.out]; rfl) | rw [E.out], hg0.trans (hg3.trans hg4)⟩
  have E := Lib.hid (fitsT_yes hok hro)
  rw [hok] at hRi
  rw [hro] at hRo
  clear hok hro
  go_upto_region 3 with (first | ((with_reducible refine wpList_load_box (ty := 46) (B0) ?_ ?_ Try.underlying46 ?_ ?_ ?_); (focus (exact rfl)); (focus (exact ⟨_, rfl, rfl⟩)); (focus (exact rfl)); (focus kernel_rfl)) | (go_at_call 15; (with_reducible refine hRi.out.mono ?_); rintro e w3 ⟨rfl, hg3⟩) | (go_at_call 30; (with_reducible refine (hRo.out _ hg3).mono ?_); rintro e w4 ⟨rfl, hg4⟩))
  have hg4 := hg3.trans hg4
  have B1 := B0.keep hg4
  have HS := Lib.hid (HS.out.keep hg4)
  have H2 := Lib.hid (H2.out.keep hg4)
  have hgw := hg0.trans hg4
  clear hg3 hg4 hRi hRo B0 hg0
  have B5 : Bx (w4.alloc (.cells #[.slice ob m cap2] 25)) w4.heap.size [.slice ob m cap2] := (Bx.new w4 _ _ rfl).of (by simp)
  go_upto_region 5 with fail
  have hg5 : Gr w4 (w4.alloc (.cells #[.slice ob m cap2] 25)) := (Gr.refl w4).alloc _
  have HR := Lib.hid (H2.out.keep hg5)
  have v4 := (B1.keep hg5).cell 4 rfl
  obtain ⟨b, off, ho, hc⟩ := HS.out.get
  have Ho := Lib.hid ho
  have Hc := Lib.hid hc
  clear ho hc H2 B1
  generalize w4.alloc (.cells #[.slice ob m cap2] 25) = W5 at *
  generalize hb5 : w4.heap.size = b5 at *
  have Hb5 := Lib.hid hb5
  clear hb5
  go_wp2_with fail
  clear v4
  go_loopw [22] (fun s22 wr => ∃ (k : Nat) (o : Option Addr) (q c : Nat), k ≤ n ∧ s22 = .int .i64 k ∧ Hid (RowsAt wr o q c (wrL (t.seen.take k) r)) ∧ Bx wr b5 [.slice o q c] ∧ Hid (fitsT t r = fitL (t.seen.drop k) (wrL (t.seen.take k) r)) ∧ Gr w4 wr) (fun s22 _ => n - (intOf s22).toNat)
  case atStart => exact ⟨0, ob, m, cap2, Nat.zero_le _, rfl, HR, B5, E, hg5⟩
  case round =>
    obtain ⟨k, o, q, c, hk, rfl, hR, B5, hF, hg⟩ := hrel
    by_cases hlt : k < n
    · have hy : t.seen[k]? = some (t.seen[k]'(by have := Hl.out; omega)) := List.getElem?_eq_getElem _
      generalize (t.seen[k]'(by have := Hl.out; omega)) = s at hy
      obtain ⟨p1, m1, c1, R0⟩ := Hc.out k s hy
      have R1 := R0.keep hg
      have hI := run_seenP cp Ho.out hlt
      have hq : q ≤ 100 := by
        have e1 := hR.out.len
        have e2 := wrL_take_len t.seen k r
        have e3 := Hl2.out
        omega
      have HT := Lib.hid (wrL_take hy r)
      have HW := Lib.hid (@wrS_over s)
      have HNo := Lib.hid (@wrS_none s)
      have HFw := Lib.hid fun h => hF.out.trans (fit_w hy h _)
      have HFs := Lib.hid fun h => hF.out.trans (fit_s hy h _)
      have Z := (Bx.new wr zS.toArray 50 rfl).of (us := zS) (by simp)
      clear R0 hy hF
      go_upto_region 8 with (first | (refine wpList_load_mid rfl 50 _ rfl _ _ rfl _ _ (R1).rng Try.underlying50 rfl (by kernel_rfl) ?_) | ((with_reducible refine wpList_store_box (ty := 50) (Z) ((snL s p1 m1 c1)) ?_ ?_ ?_ ?_ ?_ ?_); (focus (exact rfl)); (focus (exact ⟨_, _, rfl, rfl, rfl⟩)); (focus (exact rfl)); (focus kernel_rfl); (focus kernel_rfl)))
      have B8 := Z.setAll (us := snL s p1 m1 c1) rfl
      have hg8 : Gr wr ((wr.alloc (.cells zS.toArray 50)).setCells wr.heap.size 0 (snL s p1 m1 c1)) := (((Gr.refl wr).alloc _).setCells (Nat.le_refl _) _ _)
      have HR1 := Lib.hid (R1.keep hg8)
      have hb58 : b5 < wr.heap.size := B5.lt (by simp)
      have B5 := B5.keep hg8
      have HR := Lib.hid (hR.out.keep hg8)
      have hgw8 := hg.trans hg8
      clear Z R1 hI hR hg8
      generalize (wr.alloc (.cells zS.toArray 50)).setCells wr.heap.size 0 (snL s p1 m1 c1) = w8 at *
      generalize wr.heap.size = b8 at *
      have x0 := B8.cell 0 rfl
      by_cases h34 : s.kind = 3 ∨ s.kind = 4
      · have hz := HR1.out.size
        have hO := Lib.hid fun (w3 : World) (bp bq : Nat) (hg3 : Gr w8 w3) (g0 : w3.cell? ⟨bp, 0, none⟩ = some (.string (wtOf s).key)) (g1 : w3.cell? ⟨bp, 1, none⟩ = some (.string (wtOf s).val)) (g2 : w3.cell? ⟨bp, 2, none⟩ = some (.bool (wtOf s).gone)) (g3 : w3.cell? ⟨bq, 0, none⟩ = some (.slice (some ⟨bp, 0, none⟩) 1 1)) =>
          over_one20 (HR.out.keep hg3) g3 (write_one (Nat.le_refl _) (by unfold maxLen; omega) g0 g1 g2 (wtOf_key s hz).1 (wtOf_key s hz).2) hq (by omega)
        have HT2 := Lib.hid (HT.out.trans (HW.out h34 _))
        have HF2 := Lib.hid (HFw.out h34)
        have hW := Lib.hid fun w1 => write_any s p1 m1 c1 w1
        have hov := Lib.hid (HW.out h34 (wrL (t.seen.take k) r))
        have hk2 : (s.kind == 3) = true ∨ (s.kind == 3) = false ∧ (s.kind == 4) = true := by
          rcases h34 with h | h
          · exact .inl (by rw [h]; rfl)
          · exact .inr ⟨by rw [h]; rfl, by rw [h]; rfl⟩
        clear h34 HFw HFs HNo HW hz
        (try simp only [Act.put])
        go_cut [33] (fun s33 wx => s33 = .bool true ∧ wx = w8)
        case first =>
          rcases hk2 with e3 | ⟨e3, e4⟩
          all_goals
            go_wp2_with fail
            go_meet
            exact ⟨rfl, rfl⟩
        case rest =>
          obtain ⟨rfl, rfl⟩ := hcut
          clear hk2 x0
          go_upto_region 9 with fail
          have hd4 : Gr wc wc.drew := (Gr.refl wc).drew
          refine wp_region_J (fun w' => w'.rangeAt b8 0 (snL s p1 m1 c1)) (fun w' => w'.cell? ⟨b5, 0, none⟩ = some (.slice o q c)) 0 5 6 (by kernel_rfl) ?_
          have hB := hd4.range B8.rng
          have hC := hd4.keep (B5.cell 0 rfl)
          refine' wpAnyJ_take (k := 0) (ok := { dst := some 34, op := .load 25 (.tmp 5), type := _, pos := _, after := _, guard := none }) (v := .slice o q c) rfl (by kernel_rfl) (by kernel_rfl) (by kernel_rfl) (by kernel_rfl) (fun _ _ _ h => h) (T := fun w' => w'.cell? ⟨b5, 0, none⟩ = some (.slice o q c)) (fun _ _ h => h rfl) (.inl ⟨by rfl, ?_⟩) hB hC ?_
          · (intro w hSw; go_simp)
          (try simp only [Act.put, List.setIfInBounds_toArray, List.set_cons_zero, List.set_cons_succ])
          refine' wpAnyJ_take (k := 1) (ok := { dst := some 35, op := .load 50 (.tmp 8), type := _, pos := _, after := _, guard := none }) (v := .agg (snL s p1 m1 c1).toArray) rfl (by kernel_rfl) (by kernel_rfl) (by kernel_rfl) (by kernel_rfl) (fun _ _ _ h => h) (T := fun w' => w'.rangeAt b8 0 (snL s p1 m1 c1)) (fun _ h _ => h) (yieldsIf_load_mid (by rfl) _ _ rfl _ _ rfl _ _ (fun w h => h) Try.underlying50 rfl (by kernel_rfl)) hB hC ?_
          (try simp only [Act.put, List.setIfInBounds_toArray, List.set_cons_zero, List.set_cons_succ])
          refine wpAnyJ_one (j := 2) (o := { dst := some 36, op := .call { callee := .value (.func 26), args := #[.tmp 35], argTypes := #[50] }, type := _, pos := _, after := _, guard := none }) rfl (by kernel_rfl) (by kernel_rfl) (fun K hK => ?_)
          refine step_wanted (by rfl) ?_
          go_simp
          go_wp2_with (go_at_call 26; (with_reducible refine (hW.out _).mono ?_); rintro e w5 ⟨rfl, hg5⟩)
          have ha := hd4.trans hg5
          refine hK.out _ _ (ha.range B8.rng) (ha.keep (B5.cell 0 rfl)) (fun hB hC => ?_)
          clear hK K
          (try simp only [Act.put, List.setIfInBounds_toArray, List.set_cons_zero, List.set_cons_succ])
          refine wpAnyJ_one (j := 3) (o := { dst := some 37, op := .buildSlice 74 1 #[(0, .tmp 36)], type := _, pos := _, after := _, guard := none }) rfl (by kernel_rfl) (by kernel_rfl) (fun K hK => ?_)
          refine step_wanted (by rfl) ?_
          go_simp
          have ha := ha.alloc (.cells (wtL (wtOf s)).toArray 72)
          refine hK.out _ _ (ha.range B8.rng) (ha.keep (B5.cell 0 rfl)) (fun hB hC => ?_)
          clear hK K
          (try simp only [Act.put, List.setIfInBounds_toArray, List.set_cons_zero, List.set_cons_succ])
          refine wpAnyJ_one (j := 4) (o := { dst := some 38, op := .buildSlice 93 1 #[(0, .tmp 37)], type := _, pos := _, after := _, guard := none }) rfl (by kernel_rfl) (by kernel_rfl) (fun K hK => ?_)
          refine step_wanted (by rfl) ?_
          go_simp
          have ha := ha.alloc (.cells #[.slice (some ⟨w5.heap.size, 0, none⟩) 1 1] 74)
          refine hK.out _ _ (ha.range B8.rng) (ha.keep (B5.cell 0 rfl)) (fun hB hC => ?_)
          clear hK K
          (try simp only [Act.put, List.setIfInBounds_toArray, List.set_cons_zero, List.set_cons_succ])
          refine wpAnyJ_one (j := 5) (o := { dst := some 39, op := .call { callee := .value (.func 35), args := #[.tmp 34, .tmp 38], argTypes := #[25, 93] }, type := _, pos := _, after := _, guard := none }) rfl (by kernel_rfl) (by kernel_rfl) (fun K hK => ?_)
          refine step_wanted (by rfl) ?_
          go_simp
          go_wp2_with (go_at_call 35; (with_reducible refine Calls.mono (hO.out _ w5.heap.size _ ha ?_ ?_ ?_ ?_) ?_); (focus (first | (simp [go_sem, cell_new_drewN]; done) | (refine Gr.keep (by assumption) ?_; simp [go_sem, cell_new_drewN]; done))); (focus (first | (simp [go_sem, cell_new_drewN]; done) | (refine Gr.keep (by assumption) ?_; simp [go_sem, cell_new_drewN]; done))); (focus (first | (simp [go_sem, cell_new_drewN]; done) | (refine Gr.keep (by assumption) ?_; simp [go_sem, cell_new_drewN]; done))); (focus (first | (simp [go_sem, cell_new_drewN]; done) | (refine Gr.keep (by assumption) ?_; simp [go_sem, cell_new_drewN]; done))); rintro e w6 ⟨o6, q6, c6, rfl, hr6, hg6⟩)
          have ha := ha.trans hg6
          refine hK.out _ _ (ha.range B8.rng) (ha.keep (B5.cell 0 rfl)) (fun hB hC => ?_)
          clear hK K
          (try simp only [Act.put, List.setIfInBounds_toArray, List.set_cons_zero, List.set_cons_succ])
          have B56 := B5.keep ha
          have f0 := B56.free 0 (by simp)
          refine wpAnyJ_last (o := { dst := none, op := .store 25 (.tmp 5) (.tmp 39), type := _, pos := _, after := _, guard := none }) rfl (by kernel_rfl) (by kernel_rfl) (by kernel_rfl) (fun K hK => ?_)
          refine step_wanted (by rfl) ?_
          go_simp
          refine hK.out _ _ (fun j v hv => far1 (hB j v hv) (by omega)) ?_
          clear hK K
          have B57 := (B56.set 0 (.slice o6 q6 c6)).of (us := [.slice o6 q6 c6]) rfl
          have hW6 := hgw8.trans ha
          have hW7 := hW6.setCell (p := ⟨b5, 0, none⟩) (by show w4.heap.size ≤ b5; rw [Hb5.out]; exact Nat.le_refl _) (.slice o6 q6 c6)
          have hr7 : RowsAt (w6.setCell ⟨b5, 0, none⟩ (.slice o6 q6 c6)) o6 q6 c6 (wrL (t.seen.take (k + 1)) r) := by
            rw [HT2.out]
            exact hr6.setC (B56.cell 0 rfl) _
          have Hr7 := Lib.hid hr7
          clear hr7 hr6 hB hC f0 B56
          go_wp2_with fail
          go_roundw
          case rel => exact ⟨k + 1, o6, q6, c6, by omega, by go_num, Hr7, B57, Lib.hid (by rw [HF2.out, hov.out, HT2.out]), hW7⟩
          case measure => simp [intOf]; omega
      · have e3 : (s.kind == 3) = false := by rw [beq_eq_false_iff_ne]; exact fun e => h34 (.inl e)
        have e4 : (s.kind == 4) = false := by rw [beq_eq_false_iff_ne]; exact fun e => h34 (.inr e)
        have HF2 := Lib.hid (HFs.out h34)
        have HT2 := Lib.hid (HT.out.trans (HNo.out ⟨fun e => h34 (.inl e), fun e => h34 (.inr e)⟩ _))
        have hS := Lib.hid (fits1_any s p1 m1 c1 b5 o q c (wrL (t.seen.take k) r) w8 HR1.out.rows HR1.out.size (B5.cell 0 rfl) HR.out (by omega))
        clear h34 HFw HFs HNo HW HT
        cases hsee : seesB s (wrL (t.seen.take k) r)
        · rw [hsee] at hS HF2
          clear hsee
          go_wp2_with (first | ((with_reducible refine wpList_load_box (ty := 50) (B8) ?_ ?_ Try.underlying50 ?_ ?_ ?_); (focus (exact rfl)); (focus (exact ⟨_, rfl, rfl⟩)); (focus (exact rfl)); (focus kernel_rfl)) | (go_at_call 31; (with_reducible refine hS.out.mono ?_); rintro e w5 ⟨rfl, hg5⟩))
          go_ret
          exact ⟨by rw [HF2.out]; rfl, hgw.trans (hgw8.trans hg5)⟩
        · rw [hsee] at hS HF2
          clear hsee
          go_wp2_with (first | ((with_reducible refine wpList_load_box (ty := 50) (B8) ?_ ?_ Try.underlying50 ?_ ?_ ?_); (focus (exact rfl)); (focus (exact ⟨_, rfl, rfl⟩)); (focus (exact rfl)); (focus kernel_rfl)) | (go_at_call 31; (with_reducible refine hS.out.mono ?_); rintro e w5 ⟨rfl, hg5⟩))
          go_roundw
          case rel => exact ⟨k + 1, o, q, c, by omega, by go_num, Lib.hid (by rw [HT2.out]; exact HR.out.keep hg5), B5.keep hg5, Lib.hid (by rw [HF2.out, HT2.out, Bool.true_and]), hgw8.trans hg5⟩
          case measure => simp [intOf]; omega
    · obtain rfl : k = n := by omega
      have hE := hF.out
      rw [List.drop_of_length_le (by rw [Hl.out]; exact Nat.le_refl _)] at hE
      have HE := Lib.hid hE
      clear hE hF
      go_wp2_with fail
      go_ret
      exact ⟨by rw [HE.out]; rfl, hgw.trans hg⟩
end Go.Proofs.Ytopomocbjlikjaa
