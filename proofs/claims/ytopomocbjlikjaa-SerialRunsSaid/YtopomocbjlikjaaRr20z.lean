import Derived.Test.YtopomocbjlikjaaRg20z
import Derived.Test.YtopomocbjlikjaaBx2z
import Derived.Deep.RegionWith
import Derived.Deep.RegionHeld3
import Derived.Deep.DeepCutAuto
import Derived.StillTailTactics
namespace Go.Proofs.Ytopomocbjlikjaa
set_option linter.unusedVariables false
set_option linter.unusedSimpArgs false
open Go.BigFrame Go.RowKit Go.WideShapes

/-! The document's Right of a trip (serial). -/
theorem okT_no {t : Tr} (h : ¬ (0 ≤ t.beg ∧ t.beg ≤ t.fin ∧ 0 ≤ t.snap ∧ 0 ≤ t.num) ∨ (0 < t.num ∧ t.num ≤ t.snap)) : okT t = false := by
  unfold okT
  rcases h with h | h
  · by_cases h1 : 0 ≤ t.beg
    · by_cases h2 : t.beg ≤ t.fin
      · by_cases h3 : 0 ≤ t.snap
        · have h4 : ¬ 0 ≤ t.num := fun q => h ⟨h1, h2, h3, q⟩
          simp [h4]
        · simp [h3]
      · simp [h2]
    · simp [h1]
  · simp [h.1, h.2]
theorem okT_yes {t : Tr} (h : 0 ≤ t.beg ∧ t.beg ≤ t.fin ∧ 0 ≤ t.snap ∧ 0 ≤ t.num) (h2 : ¬ (0 < t.num ∧ t.num ≤ t.snap)) : okT t = t.seen.all okS := by
  unfold okT
  obtain ⟨a, b, c, d⟩ := h
  by_cases q : 0 < t.num
  · have : ¬ t.num ≤ t.snap := fun z => h2 ⟨q, z⟩
    simp [a, b, c, d, q, this]
  · simp [a, b, c, d, q]
abbrev zS : List Value := [.int .i64 0, .string ⟨#[]⟩, .string ⟨#[]⟩, .bool false, .string ⟨#[]⟩, .string ⟨#[]⟩, .bool false, .int .i64 0, .bool false, .slice none 0 0]
theorem okS_kind {s : Sn} (h : ¬ (2 ≤ s.kind ∧ s.kind ≤ 5)) : okS s = false := by
  unfold okS
  by_cases q : 2 ≤ s.kind
  · have : ¬ s.kind ≤ 5 := fun z => h ⟨q, z⟩
    simp [this]
  · simp [q]
theorem okS_mid {s : Sn} (h : 2 ≤ s.kind ∧ s.kind ≤ 5) : okS s = ((!decide (s.kind = 3) || fitsB ⟨s.key, s.val⟩) && (!decide (s.kind = 4) || rightB s.key)) := by
  unfold okS
  simp [h.1, h.2]
theorem all_take {ss : List Sn} {i : Nat} {s : Sn} (h : ss[i]? = some s) : (ss.take (i + 1)).all okS = ((ss.take i).all okS && okS s) := by
  obtain ⟨h1, h2⟩ := List.getElem?_eq_some_iff.1 h
  rw [List.take_succ_eq_append_getElem h1, List.all_append, h2]; simp
theorem all_no {ss : List Sn} {i : Nat} {s : Sn} (h : ss[i]? = some s) (hs : okS s = false) : ss.all okS = false := by
  rw [List.all_eq_false]
  exact ⟨s, List.mem_of_getElem? h, by rw [hs]; decide⟩
set_option maxRecDepth 100000 in
set_option maxHeartbeats 20000000 in
theorem refRightT_any (t : Tr) (p : Option Addr) (n c : Nat) (w : World) (h : SeenAt w p n c t.seen) :
    Calls Try.prog 7 #[.agg (trL t p n c).toArray] w fun e w' => e = .returned (.bool (okT t)) ∧ Gr w w' := by
  have Hl := Lib.hid h.len
  have hcl := h.cap_le
  have hcm := h.cap_max
  unfold maxLen at hcm
  have B0 : Bx (w.alloc (.cells (trL t p n c).toArray 28)) w.heap.size (trL t p n c) := (Bx.new w _ _ rfl).of (by simp)
  have hg0 := (Gr.refl w).alloc (.cells (trL t p n c).toArray 28)
  obtain ⟨b, off, ho, hc⟩ := (h.keep hg0).get
  have Ho := Lib.hid ho
  have Hc := Lib.hid hc
  clear ho hc h
  have HN := Lib.hid (@okT_no t)
  have HY := Lib.hid (@okT_yes t)
  go_enter Try.func7, Try.ntmps7
  go_upto_region 1 with fail
  generalize w.alloc (.cells (trL t p n c).toArray 28) = W at *
  generalize w.heap.size = b1 at *
  have v0 := B0.cell 0 rfl
  have v1 := B0.cell 1 rfl
  have v2 := B0.cell 2 rfl
  have v3 := B0.cell 3 rfl
  have v4 := B0.cell 4 rfl
  by_cases hA : 0 ≤ t.beg ∧ t.beg ≤ t.fin ∧ 0 ≤ t.snap ∧ 0 ≤ t.num
  rotate_left
  · have HE := Lib.hid (HN.out (.inl hA))
    clear HN HY
    go_wp2_with fail
    all_goals
      go_ret
      rw [HE.out]
      exact ⟨rfl, hg0⟩
  · by_cases hB : 0 < t.num ∧ t.num ≤ t.snap
    · have HE := Lib.hid (HN.out (.inr hB))
      obtain ⟨a1, a2, a3, a4⟩ := hA
      obtain ⟨b2, b3⟩ := hB
      clear HN HY
      go_wp2_with fail
      all_goals
        go_ret
        rw [HE.out]
        exact ⟨rfl, hg0⟩
    · have HE := Lib.hid (HY.out hA hB)
      obtain ⟨a1, a2, a3, a4⟩ := hA
      clear HN HY
      have hB : ¬ t.num > 0 ∨ ¬ t.snap ≥ t.num := by omega
      rcases hB with hB | hB
      all_goals
        go_wp2_with fail
        go_loopw [3] (fun s3 wr => ∃ k : Nat, k ≤ n ∧ s3 = .int .i64 k ∧ Hid ((t.seen.take k).all okS = true) ∧ Gr W wr) (fun s3 _ => n - (intOf s3).toNat)
        case atStart => exact ⟨0, Nat.zero_le _, rfl, Lib.hid rfl, Gr.refl _⟩
        case round =>
          obtain ⟨k, hk, rfl, hal, hg⟩ := hrel
          have v4 := hg.keep v4
          by_cases hlt : k < n
          · have hy : t.seen[k]? = some (t.seen[k]'(by have := Hl.out; omega)) := List.getElem?_eq_getElem _
            generalize (t.seen[k]'(by have := Hl.out; omega)) = s at hy
            obtain ⟨p1, m1, c1, R⟩ := Hc.out k s hy
            have R1 : SnAt wr b (off + k * 10) s p1 m1 c1 := ⟨hg.range R.rng, R.rows.keep hg, R.size⟩
            have hI := run_seen c Ho.out hlt
            have Z := (Bx.new wr zS.toArray 30 rfl).of (us := zS) (by simp)
            have hz := R.size
            have HNo := Lib.hid fun (q : okS s = false) => HE.out.trans (all_no hy q)
            have HYes := Lib.hid fun (q : okS s = true) => show (t.seen.take (k + 1)).all okS = true by
              rw [all_take hy, hal.out, q]; rfl
            clear R hy hal
            go_upto_region 9 with (first | (refine wpList_load_mid rfl 30 _ rfl _ _ rfl _ _ (R1).rng Try.underlying30 rfl (by kernel_rfl) ?_) | ((with_reducible refine wpList_store_box (ty := 30) (Z) ((snL s p1 m1 c1)) ?_ ?_ ?_ ?_ ?_ ?_); (focus (exact rfl)); (focus (exact ⟨_, _, rfl, rfl, rfl⟩)); (focus (exact rfl)); (focus kernel_rfl); (focus kernel_rfl)))
            have B4 := Z.setAll (us := snL s p1 m1 c1) rfl
            have hg4 : Gr W ((wr.alloc (.cells zS.toArray 30)).setCells wr.heap.size 0 (snL s p1 m1 c1)) := hg.trans (((Gr.refl wr).alloc _).setCells (Nat.le_refl _) _ _)
            clear Z R1 hI hg
            generalize (wr.alloc (.cells zS.toArray 30)).setCells wr.heap.size 0 (snL s p1 m1 c1) = w4 at B4 hg4 ⊢
            generalize wr.heap.size = b4 at B4 ⊢
            have x0 := B4.cell 0 rfl
            have x1 := B4.cell 1 rfl
            have x2 := B4.cell 2 rfl
            by_cases hk2 : s.kind < 2 ∨ s.kind > 5
            · have HE2 := Lib.hid (HNo.out (okS_kind (by omega)))
              clear HNo HYes
              rcases hk2 with hk2 | hk2
              all_goals
                go_wp2_with fail
                all_goals
                  go_ret
                  rw [HE2.out]
                  exact ⟨rfl, hg0.trans hg4⟩
            · have hk3 : ¬ s.kind < 2 := by omega
              have hk4 : ¬ s.kind > 5 := by omega
              have hks := Lib.hid (okS_mid (s := s) (by omega))
              have hcase : s.kind = 3 ∨ s.kind = 4 ∨ (s.kind ≠ 3 ∧ s.kind ≠ 4) := by omega
              rcases hcase with h3 | h3 | h3
              · have hq : okS s = fitsB ⟨s.key, s.val⟩ := by rw [hks.out, h3]; simp
                have hFi := fun w1 => refFits_any s.key s.val w1 hz.key hz.val
                rw [← hq] at hFi
                rw [h3] at x0
                clear hk2 hk3 hk4 h3 hks hq
                cases hf : okS s
                all_goals
                  rw [hf] at hFi
                  have hFi := Lib.hid hFi
                  go_wp2_with (go_at_call 16; (with_reducible refine (hFi.out _).mono ?_); rintro e w5 ⟨rfl, hg5⟩; have x0 := hg5.keep x0)
                · go_ret
                  rw [(HNo.out hf)]
                  exact ⟨rfl, hg0.trans (hg4.trans hg5)⟩
                · go_roundw
                  case rel => exact ⟨k + 1, by omega, by go_num, Lib.hid (HYes.out hf), hg4.trans hg5⟩
                  case measure => simp [intOf]; omega
              · have hq : okS s = rightB s.key := by rw [hks.out, h3]; simp
                have hRi := fun w1 => refRight_any s.key w1 hz.key
                rw [← hq] at hRi
                rw [h3] at x0
                clear hk2 hk3 hk4 h3 hks hq
                cases hf : okS s
                all_goals
                  rw [hf] at hRi
                  have hRi := Lib.hid hRi
                  go_wp2_with (go_at_call 17; (with_reducible refine (hRi.out _).mono ?_); rintro e w5 ⟨rfl, d5, rfl⟩)
                · go_ret
                  rw [(HNo.out hf)]
                  exact ⟨rfl, (hg0.trans hg4).drewN d5⟩
                · go_roundw
                  case rel => exact ⟨k + 1, by omega, by go_num, Lib.hid (HYes.out hf), hg4.drewN d5⟩
                  case measure => simp [intOf]; omega
              · have hk25 : s.kind = 2 ∨ s.kind = 5 := by omega
                have hq : okS s = true := by rw [hks.out]; simp [h3.1, h3.2]
                have HY2 := Lib.hid (HYes.out hq)
                clear hk2 hk3 hk4 h3 hks HNo HYes hq
                rcases hk25 with h3 | h3
                all_goals
                  rw [h3] at x0
                  clear h3
                  go_wp2_with fail
                  go_roundw
                  case rel => exact ⟨k + 1, by omega, by go_num, HY2, hg4⟩
                  case measure => simp [intOf]; omega
          · obtain rfl : k = n := by omega
            have hq := hal.out
            rw [List.take_of_length_le (by rw [Hl.out]; exact Nat.le_refl _)] at hq
            have HQ := Lib.hid (HE.out.trans hq)
            clear hq hal
            go_wp2_with fail
            go_ret
            rw [HQ.out]
            exact ⟨rfl, hg0.trans hg⟩
end Go.Proofs.Ytopomocbjlikjaa
