import Derived.Test.YtidfelbaegaphaaDoorRw
namespace Go.Proofs.YtidfelbaegaphaaDoor
set_option linter.unusedVariables false
open Go.BigFrame Go.RowKit

abbrev Rw.v (r : Rw) : Value := .agg #[.string r.key, .string r.val]
/-- may a row be? -/
def fitsB (r : Rw) : Bool := rightB r.key && decide (r.val.size ≤ 16)

set_option maxHeartbeats 400000 in
theorem fits_any (k v : ByteArray) (w : World) (h1 : k.size ≤ maxLen) (h2 : v.size ≤ maxLen) :
    Calls Tryd.prog 56 #[.agg #[.string k, .string v]] w fun e w' => e = .returned (.bool (fitsB ⟨k, v⟩)) ∧ Gr w w' := by
  unfold fitsB
  have h2' := h2
  unfold maxLen at h2'
  cases hr : rightB k
  all_goals
    go_enter Tryd.func56, Tryd.ntmps56
    go_wp2_with (go_at_call 63; (with_reducible refine (right_any _ _ (by assumption)).mono ?_); rintro e w' ⟨rfl, d, rfl⟩)
    go_ret
    refine ⟨ret_bool ?_, by repeat (first | with_reducible exact Gr.refl _ | with_reducible refine Gr.drewN ?_ _ | with_reducible refine Gr.drew ?_ | with_reducible refine Gr.alloc ?_ _ | with_reducible refine Gr.setCell ?_ ?_ _ | (with_reducible refine Gr.trans ?_ (by assumption)) | omega | (dsimp only; omega))⟩
    first | rfl | (rw [Bool.eq_iff_iff]; simp; omega)

/-- a new box of a row -/
abbrev boxW (w : World) (k v : ByteArray) : World := w.alloc (.cells #[.string k, .string v] 41)
theorem box_key (w : World) (k v : ByteArray) : (boxW w k v).cell? ⟨w.heap.size, 0, none⟩ = some (.string k) := World.cell?_alloc_new w _ _ 0
theorem box_val (w : World) (k v : ByteArray) : (boxW w k v).cell? ⟨w.heap.size, 1, none⟩ = some (.string v) := World.cell?_alloc_new w _ _ 1
theorem box_old {w : World} (k v : ByteArray) {b o : Nat} {x : Value} (h : w.cell? ⟨b, o, none⟩ = some x) : (boxW w k v).cell? ⟨b, o, none⟩ = some x := ((Gr.refl w).alloc _).keep h

/-- rows that may be: each may be, and each key stands ahead of the next one's -/
def RowsOk (l : List Rw) : Prop := ∀ i, i < l.length → fitsB (rAt l i) = true ∧ (0 < i → Str.cmp (Tx (kAt l (i - 1))) (Tx (kAt l i)) < 0)
instance (l : List Rw) : Decidable (RowsOk l) := by unfold RowsOk; infer_instance
def rowsOkB (l : List Rw) : Bool := decide (RowsOk l)
theorem rowsOkB_no {l : List Rw} {k : Nat} (hk : k < l.length) (h : fitsB (rAt l k) = false ∨ (0 < k ∧ 0 ≤ Str.cmp (Tx (kAt l (k - 1))) (Tx (kAt l k)))) : rowsOkB l = false := by
  unfold rowsOkB
  rw [decide_eq_false_iff_not]
  intro q
  obtain ⟨q1, q2⟩ := q k hk
  rcases h with h | ⟨h0, h⟩
  · rw [h] at q1; cases q1
  · have := q2 h0; omega

theorem rw_eta (l : List Rw) (k : Nat) : (⟨kAt l k, vAt l k⟩ : Rw) = rAt l k := rfl

set_option maxRecDepth 100000 in
set_option maxHeartbeats 1000000 in
theorem rowsRight_any (oa : Option Addr) (n cap : Nat) (l : List Rw) (w : World) (h : RowsAt w oa n cap l) :
    Calls Tryd.prog 38 #[.slice oa n cap] w fun e w' => e = .returned (.bool (rowsOkB l)) ∧ Gr w w' := by
  obtain ⟨b, off, ho, hc⟩ := h.cells
  have Hc := Lib.hid hc
  have Ho := Lib.hid (fun q => (ho q).1)
  have H := Lib.hid h
  have hn := h.cap_le
  have hm := h.cap_max
  unfold maxLen at hm
  clear hc ho h
  go_enter Tryd.func38, Tryd.ntmps38
  go_wp2
  go_loopw [7] (fun i wr => ∃ k : Nat, k ≤ n ∧ i = .int .i64 k ∧ Hid (∀ j, j < k → fitsB (rAt l j) = true ∧ (0 < j → Str.cmp (Tx (kAt l (j - 1))) (Tx (kAt l j)) < 0)) ∧ Gr w wr) (fun i _ => n - (intOf i).toNat)
  case atStart => exact ⟨0, Nat.zero_le _, rfl, Lib.hid fun j hj => by omega, Gr.refl _⟩
  case round =>
    obtain ⟨k, hk, rfl, hp, hg⟩ := hrel
    by_cases hlt : k < n
    · have hk1 := hg.keep (Hc.out k hlt).1
      have hk2 := hg.keep (Hc.out k hlt).2
      have hs1 := (H.out.sizes k hlt).1
      have hs2 := (H.out.sizes k hlt).2
      have hI := run_row cap Ho.out hlt
      have b0 := After.cell (box_key wr (kAt l k) (vAt l k))
      have b1 := After.cell (box_val wr (kAt l k) (vAt l k))
      have hF := fun w => fits_any (kAt l k) (vAt l k) w hs1 hs2
      rw [rw_eta] at hF
      by_cases hf : fitsB (rAt l k) = true
      · rw [hf] at hF
        have HF := Lib.hid hF
        have Hf := Lib.hid hf
        clear hF hf
        by_cases h0 : k = 0
        · have hk0 : decide (0 < k) = false := by simp; omega
          have H0 := Lib.hid h0
          clear h0
          go_wp2_with fail
          refine wp_region_after (by kernel_rfl) (by kernel_rfl) ?_
          repeat (go_big_quiet_step ((go_at_call 56; (with_reducible exact after_gr (HF.out _)))))
          refine wpQuiet_nil ?_
          rintro _ ⟨⟨w1, hg1⟩, rfl⟩
          go_wp2_with fail
          go_roundw
          case rel => exact ⟨k + 1, by omega, by go_num, Lib.hid fun j hj => by
            have h0 := H0.out
            obtain rfl : j = k := by omega
            exact ⟨Hf.out, fun q => absurd q (by omega)⟩, by repeat (first | with_reducible exact Gr.refl _ | with_reducible refine Gr.drewN ?_ _ | with_reducible refine Gr.drew ?_ | with_reducible refine Gr.alloc ?_ _ | with_reducible refine Gr.setCell ?_ ?_ _ | (with_reducible refine Gr.trans ?_ (by assumption)) | omega | (dsimp only; omega))⟩
          case measure => simp [intOf]; omega
        · have hk0 : decide (0 < k) = true := by simp; omega
          have hk3 := After.cell (box_old (kAt l k) (vAt l k) (hg.keep (Hc.out (k - 1) (by omega)).1))
          have hs3 := (H.out.sizes (k - 1) (by omega)).1
          have hI2 := fun w => run_rowI cap Ho.out (k := (k : Int) - 1) (by omega) (by omega) w
          have e1 : ((k : Int) - 1).toNat = k - 1 := by omega
          rw [e1] at hI2
          by_cases hc : Str.cmp (Tx (kAt l (k - 1))) (Tx (kAt l k)) < 0
          · have hc' : decide (0 ≤ Str.cmp (Tx (kAt l (k - 1))) (Tx (kAt l k))) = false := by simp; omega
            go_wp2_with fail
            refine wp_region_after (by kernel_rfl) (by kernel_rfl) ?_
            repeat (go_big_quiet_step ((first | (go_at_call 56; (with_reducible exact after_gr (HF.out _))) | (go_at_call 42; (with_reducible exact after_dr (compare_any _ _ _ (by assumption) (by assumption)))))))
            refine wpQuiet_nil ?_
            rintro _ ⟨⟨w1, hg1⟩, rfl⟩
            go_wp2_with fail
            go_roundw
            case rel => exact ⟨k + 1, by omega, by go_num, Lib.hid fun j hj => by
              rcases Nat.lt_or_ge j k with q | q
              · exact hp.out j q
              · obtain rfl : j = k := by omega
                exact ⟨Hf.out, fun _ => hc⟩, by repeat (first | with_reducible exact Gr.refl _ | with_reducible refine Gr.drewN ?_ _ | with_reducible refine Gr.drew ?_ | with_reducible refine Gr.alloc ?_ _ | with_reducible refine Gr.setCell ?_ ?_ _ | (with_reducible refine Gr.trans ?_ (by assumption)) | omega | (dsimp only; omega))⟩
            case measure => simp [intOf]; omega
          · have hc' : decide (0 ≤ Str.cmp (Tx (kAt l (k - 1))) (Tx (kAt l k))) = true := by simp; omega
            have e := Lib.hid (rowsOkB_no (by rw [H.out.len]; exact hlt) (.inr ⟨by omega, by omega⟩))
            go_wp2_with fail
            refine wp_region_after (by kernel_rfl) (by kernel_rfl) ?_
            repeat (go_big_quiet_step ((first | (go_at_call 56; (with_reducible exact after_gr (HF.out _))) | (go_at_call 42; (with_reducible exact after_dr (compare_any _ _ _ (by assumption) (by assumption)))))))
            refine wpQuiet_nil ?_
            rintro _ ⟨⟨w1, hg1⟩, rfl⟩
            go_wp2_with fail
            go_ret
            exact ⟨by rw [e.out]; rfl, by repeat (first | with_reducible exact Gr.refl _ | with_reducible refine Gr.drewN ?_ _ | with_reducible refine Gr.drew ?_ | with_reducible refine Gr.alloc ?_ _ | with_reducible refine Gr.setCell ?_ ?_ _ | (with_reducible refine Gr.trans ?_ (by assumption)) | omega | (dsimp only; omega))⟩
      · have hf' : fitsB (rAt l k) = false := by simpa using hf
        rw [hf'] at hF
        have HF := Lib.hid hF
        have e := Lib.hid (rowsOkB_no (by rw [H.out.len]; exact hlt) (.inl hf'))
        clear hF hf hf'
        go_wp2_with fail
        refine wp_region_after (by kernel_rfl) (by kernel_rfl) ?_
        repeat (go_big_quiet_step ((go_at_call 56; (with_reducible exact after_gr (HF.out _)))))
        refine wpQuiet_nil ?_
        rintro _ ⟨⟨w1, hg1⟩, rfl⟩
        go_wp2_with fail
        go_ret
        exact ⟨by rw [e.out]; rfl, by repeat (first | with_reducible exact Gr.refl _ | with_reducible refine Gr.drewN ?_ _ | with_reducible refine Gr.drew ?_ | with_reducible refine Gr.alloc ?_ _ | with_reducible refine Gr.setCell ?_ ?_ _ | (with_reducible refine Gr.trans ?_ (by assumption)) | omega | (dsimp only; omega))⟩
    · obtain rfl : k = n := by omega
      have e : rowsOkB l = true := by
        unfold rowsOkB
        rw [decide_eq_true_iff]
        intro j hj
        exact hp.out j (by rw [H.out.len] at hj; exact hj)
      have He := Lib.hid e
      clear e
      go_wp2
      go_ret
      exact ⟨by rw [He.out]; rfl, by repeat (first | with_reducible exact Gr.refl _ | with_reducible refine Gr.drewN ?_ _ | with_reducible refine Gr.drew ?_ | with_reducible refine Gr.alloc ?_ _ | with_reducible refine Gr.setCell ?_ ?_ _ | (with_reducible refine Gr.trans ?_ (by assumption)) | omega | (dsimp only; omega))⟩
end Go.Proofs.YtidfelbaegaphaaDoor
