import Derived.Test.YtfejdbcfcpmdiaaDoorWcz
namespace Go.Proofs.YtfejdbcfcpmdiaaDoor
set_option linter.unusedVariables false
set_option linter.unusedSimpArgs false
open Go.BigFrame Go.RowKit Go.WideShapes

theorem neW {x y : ByteArray} (h : x ≠ y) : (x.toList == y.toList) = false := by
  rw [beq_eq_false_iff_ne, toList_tx, toList_tx]
  exact fun e => h (bytes_inj e)
theorem eqW {x y : ByteArray} (h : x = y) : (x.toList == y.toList) = true := by rw [h]; simp
theorem notEmpty {x : ByteArray} (h : x ≠ ⟨#[]⟩) : x.toList.isEmpty = false := by
  rw [toList_tx]
  cases e : Tx x with
  | nil => exact absurd (bytes_inj (show Tx x = Tx ⟨#[]⟩ by rw [e])) h
  | cons a b => rfl
/-- may a write be? -/
def wfits (r : Wt) : Bool := rightB r.key && decide (r.val.size ≤ 16) && !(r.gone && decide (r.val ≠ ByteArray.empty))
theorem wfits_cases (r : Wt) : (wfits r = true ∧ rightB r.key = true ∧ r.val.size ≤ 16 ∧ (r.gone = false ∨ r.val = ⟨#[]⟩)) ∨ (wfits r = false ∧ rightB r.key = false) ∨ (wfits r = false ∧ rightB r.key = true ∧ 16 < r.val.size)
    ∨ (wfits r = false ∧ rightB r.key = true ∧ r.val.size ≤ 16 ∧ r.gone = true ∧ r.val ≠ ⟨#[]⟩) := by
  have he : ByteArray.empty = ⟨#[]⟩ := rfl
  unfold wfits
  rw [he]
  cases rightB r.key
  · exact .inr (.inl ⟨rfl, rfl⟩)
  · by_cases hv : r.val.size ≤ 16
    · by_cases hq : r.val = ⟨#[]⟩
      · exact .inl ⟨by rw [hq]; simp [ByteArray.size], rfl, hv, .inr hq⟩
      · cases hg : r.gone
        · exact .inl ⟨by simp [hv], rfl, hv, .inl rfl⟩
        · exact .inr (.inr (.inr ⟨by simp [hq], rfl, hv, rfl, hq⟩))
    · exact .inr (.inr (.inl ⟨by simp [hv], rfl, by omega⟩))
/-- a new box of a write -/
abbrev boxWt (w : World) (k v : ByteArray) (g : Bool) : World := w.alloc (.cells #[.string k, .string v, .bool g] 49)
theorem box3 (w : World) (k v : ByteArray) (g : Bool) : (boxWt w k v g).cell? ⟨w.heap.size, 0, none⟩ = some (.string k) ∧ (boxWt w k v g).cell? ⟨w.heap.size, 1, none⟩ = some (.string v) ∧ (boxWt w k v g).cell? ⟨w.heap.size, 2, none⟩ = some (.bool g) :=
  ⟨World.cell?_alloc_new w _ _ 0, World.cell?_alloc_new w _ _ 1, World.cell?_alloc_new w _ _ 2⟩
/-- writes that may be -/
def WritesOk (l : List Wt) : Prop := ∀ i, i < l.length → wfits (wAt l i) = true ∧ (0 < i → Str.cmp (Tx (wAt l (i - 1)).key) (Tx (wAt l i).key) < 0)
instance (l : List Wt) : Decidable (WritesOk l) := by unfold WritesOk; infer_instance
def writesOkB (l : List Wt) : Bool := decide (WritesOk l)
theorem writesOkB_no {l : List Wt} {k : Nat} (hk : k < l.length) (h : wfits (wAt l k) = false ∨ (0 < k ∧ 0 ≤ Str.cmp (Tx (wAt l (k - 1)).key) (Tx (wAt l k).key))) : writesOkB l = false := by
  unfold writesOkB
  rw [decide_eq_false_iff_not]
  intro q
  obtain ⟨q1, q2⟩ := q k hk
  rcases h with h | ⟨h0, h⟩
  · rw [h] at q1; cases q1
  · have := q2 h0; omega
theorem run_wrI {oa : Option Addr} {n b off : Nat} (cap : Nat) (ho : 0 < n → oa = some ⟨b, off, none⟩) {k : Int} (h0 : 0 ≤ k) (hk : k < n) (w : World) :
    (Instr.indexAt 50 (.slice oa n cap) (.int .i64 k)).run Tryd.prog w = .ok (.pointer (some ⟨b, off + k.toNat * 3, none⟩)) w := by
  obtain ⟨m, rfl⟩ := Int.eq_ofNat_of_zero_le h0
  exact run_wr cap ho (by omega) w

set_option maxRecDepth 100000 in
set_option maxHeartbeats 4000000 in
theorem wright_any (oa : Option Addr) (n cap : Nat) (l : List Wt) (w : World) (h : WritesAt w oa n cap l) :
    Calls Tryd.prog 37 #[.slice oa n cap] w fun e w' => e = .returned (.bool (writesOkB l)) ∧ Gr w w' := by
  obtain ⟨b1, off1, ho1, hc1⟩ := h.cells
  have Hc1 := Lib.hid hc1
  have Ho1 := Lib.hid (fun q => (ho1 q).1)
  have H1 := Lib.hid h
  have hn1 := h.cap_le
  have hm1 := h.cap_max
  unfold maxLen at hm1
  clear hc1 ho1 h
  go_enter Tryd.func37, Tryd.ntmps37
  go_wp2
  go_loopw [7] (fun i wr => ∃ k : Nat, k ≤ n ∧ i = .int .i64 k ∧ Hid (∀ j, j < k → wfits (wAt l j) = true ∧ (0 < j → Str.cmp (Tx (wAt l (j - 1)).key) (Tx (wAt l j).key) < 0)) ∧ Gr w wr) (fun i _ => n - (intOf i).toNat)
  case atStart => exact ⟨0, Nat.zero_le _, rfl, Lib.hid fun j hj => by omega, Gr.refl _⟩
  case round =>
    obtain ⟨k, hk, rfl, hp, hg⟩ := hrel
    by_cases hlt : k < n
    · obtain ⟨a1, a2, a3⟩ := Hc1.out k hlt
      have a1 := hg.keep a1
      have a2 := hg.keep a2
      have a3 := hg.keep a3
      have hs1 := (H1.out.sizes k hlt).1
      have hs2 := (H1.out.sizes k hlt).2
      unfold maxLen at hs2
      have hI := run_wr cap Ho1.out hlt
      have hkl : k < l.length := by rw [H1.out.len]; exact hlt
      have v0 := After.cell (box3 wr (wAt l k).key (wAt l k).val (wAt l k).gone).1
      have v1 := After.cell (box3 wr (wAt l k).key (wAt l k).val (wAt l k).gone).2.1
      have v2 := After.cell (box3 wr (wAt l k).key (wAt l k).val (wAt l k).gone).2.2
      have hRt := fun w => right_any (wAt l k).key w hs1
      rcases wfits_cases (wAt l k) with ⟨hf, hr, hv, hq⟩ | ⟨hf, hr⟩ | ⟨hf, hr, hv⟩ | ⟨hf, hr, hv, hq1, hq2⟩
      · rw [hr] at hRt
        have hRt := Lib.hid hRt
        have Hf := Lib.hid hf
        clear hf hr
        have hq3 : (wAt l k).gone = false ∨ ((wAt l k).gone = true ∧ (wAt l k).val = ⟨#[]⟩) := by
          cases hg2 : (wAt l k).gone
          · exact .inl rfl
          · rcases hq with q | q
            · rw [hg2] at q; cases q
            · exact .inr ⟨rfl, q⟩
        clear hq
        by_cases h0 : k = 0
        · have hk0 : decide (0 < k) = false := by simp; omega
          have H0 := Lib.hid h0
          clear h0
          generalize (wAt l k).val = v at *
          generalize (wAt l k).gone = g at *
          have hv' : decide ((16 : Int) < (v.size : Int)) = false := by simp; omega
          rcases hq3 with rfl | ⟨rfl, rfl⟩
          all_goals
            go_wp2_with fail
            refine wp_region_after (by kernel_rfl) (by kernel_rfl) ?_
            repeat (go_big_quiet_step ((first | (go_at_call 43; (with_reducible exact after_dr (hRt.out _))) | (go_at_call 44; (with_reducible exact after_dr (compare_any _ _ _ (by assumption) (by assumption)))))))
            refine wpQuiet_nil ?_
            rintro _ ⟨⟨w1, hg1⟩, rfl⟩
            go_wp2_with fail
            go_roundw
            case rel => exact ⟨k + 1, by omega, by go_num, Lib.hid fun j hj => by
              have h0 := H0.out
              obtain rfl : j = k := by omega
              exact ⟨Hf.out, fun q => absurd q (by omega)⟩, by repeat (first | with_reducible exact Gr.refl _ | with_reducible refine Gr.drewN ?_ _ | with_reducible refine Gr.drew ?_ | with_reducible refine Gr.alloc ?_ _ | with_reducible refine Gr.setCell ?_ ?_ _ | (with_reducible refine Gr.trans ?_ (by assumption)) | omega | (dsimp only; omega))⟩
            case measure => simp [intOf]; omega
        · have hk0 : decide (0 < k) = true := by simp; omega
          have hk3 := After.cell (((Gr.refl wr).alloc (.cells #[.string (wAt l k).key, .string (wAt l k).val, .bool (wAt l k).gone] 49)).keep (hg.keep (Hc1.out (k - 1) (by omega)).1))
          have hs3 := (H1.out.sizes (k - 1) (by omega)).1
          have hI2 := fun w => run_wrI cap Ho1.out (k := (k : Int) - 1) (by omega) (by omega) w
          have e1 : ((k : Int) - 1).toNat = k - 1 := by omega
          rw [e1] at hI2
          by_cases hc : Str.cmp (Tx (wAt l (k - 1)).key) (Tx (wAt l k).key) < 0
          · have hc' : decide (0 ≤ Str.cmp (Tx (wAt l (k - 1)).key) (Tx (wAt l k).key)) = false := by simp; omega
            have Hc := Lib.hid hc
            generalize (wAt l k).val = v at *
            generalize (wAt l k).gone = g at *
            have hv' : decide ((16 : Int) < (v.size : Int)) = false := by simp; omega
            rcases hq3 with rfl | ⟨rfl, rfl⟩
            all_goals
              go_wp2_with fail
              refine wp_region_after (by kernel_rfl) (by kernel_rfl) ?_
              repeat (go_big_quiet_step ((first | (go_at_call 43; (with_reducible exact after_dr (hRt.out _))) | (go_at_call 44; (with_reducible exact after_dr (compare_any _ _ _ (by assumption) (by assumption)))))))
              refine wpQuiet_nil ?_
              rintro _ ⟨⟨w1, hg1⟩, rfl⟩
              go_wp2_with fail
              go_roundw
              case rel => exact ⟨k + 1, by omega, by go_num, Lib.hid fun j hj => by
                rcases Nat.lt_or_ge j k with q | q
                · exact hp.out j q
                · obtain rfl : j = k := by omega
                  exact ⟨Hf.out, fun _ => Hc.out⟩, by repeat (first | with_reducible exact Gr.refl _ | with_reducible refine Gr.drewN ?_ _ | with_reducible refine Gr.drew ?_ | with_reducible refine Gr.alloc ?_ _ | with_reducible refine Gr.setCell ?_ ?_ _ | (with_reducible refine Gr.trans ?_ (by assumption)) | omega | (dsimp only; omega))⟩
              case measure => simp [intOf]; omega
          · have hc' : decide (0 ≤ Str.cmp (Tx (wAt l (k - 1)).key) (Tx (wAt l k).key)) = true := by simp; omega
            have e := Lib.hid (writesOkB_no hkl (.inr ⟨by omega, by omega⟩))
            generalize (wAt l k).val = v at *
            generalize (wAt l k).gone = g at *
            have hv' : decide ((16 : Int) < (v.size : Int)) = false := by simp; omega
            rcases hq3 with rfl | ⟨rfl, rfl⟩
            all_goals
              go_wp2_with fail
              refine wp_region_after (by kernel_rfl) (by kernel_rfl) ?_
              repeat (go_big_quiet_step ((first | (go_at_call 43; (with_reducible exact after_dr (hRt.out _))) | (go_at_call 44; (with_reducible exact after_dr (compare_any _ _ _ (by assumption) (by assumption)))))))
              refine wpQuiet_nil ?_
              rintro _ ⟨⟨w1, hg1⟩, rfl⟩
              go_wp2_with fail
              go_ret
              exact ⟨by rw [e.out]; rfl, by repeat (first | with_reducible exact Gr.refl _ | with_reducible refine Gr.drewN ?_ _ | with_reducible refine Gr.drew ?_ | with_reducible refine Gr.alloc ?_ _ | with_reducible refine Gr.setCell ?_ ?_ _ | (with_reducible refine Gr.trans ?_ (by assumption)) | omega | (dsimp only; omega))⟩
      · rw [hr] at hRt
        have hRt := Lib.hid hRt
        have e := Lib.hid (writesOkB_no hkl (.inl hf))
        clear hf hr
        go_wp2_with fail
        refine wp_region_after (by kernel_rfl) (by kernel_rfl) ?_
        repeat (go_big_quiet_step ((first | (go_at_call 43; (with_reducible exact after_dr (hRt.out _))) | (go_at_call 44; (with_reducible exact after_dr (compare_any _ _ _ (by assumption) (by assumption)))))))
        refine wpQuiet_nil ?_
        rintro _ ⟨⟨w1, hg1⟩, rfl⟩
        go_wp2_with fail
        go_ret
        exact ⟨by rw [e.out]; rfl, by repeat (first | with_reducible exact Gr.refl _ | with_reducible refine Gr.drewN ?_ _ | with_reducible refine Gr.drew ?_ | with_reducible refine Gr.alloc ?_ _ | with_reducible refine Gr.setCell ?_ ?_ _ | (with_reducible refine Gr.trans ?_ (by assumption)) | omega | (dsimp only; omega))⟩
      · rw [hr] at hRt
        have hRt := Lib.hid hRt
        have e := Lib.hid (writesOkB_no hkl (.inl hf))
        clear hf hr
        have hv' : decide ((16 : Int) < ((wAt l k).val.size : Int)) = true := by simp; omega
        go_wp2_with fail
        refine wp_region_after (by kernel_rfl) (by kernel_rfl) ?_
        repeat (go_big_quiet_step ((first | (go_at_call 43; (with_reducible exact after_dr (hRt.out _))) | (go_at_call 44; (with_reducible exact after_dr (compare_any _ _ _ (by assumption) (by assumption)))))))
        refine wpQuiet_nil ?_
        rintro _ ⟨⟨w1, hg1⟩, rfl⟩
        go_wp2_with fail
        go_ret
        exact ⟨by rw [e.out]; rfl, by repeat (first | with_reducible exact Gr.refl _ | with_reducible refine Gr.drewN ?_ _ | with_reducible refine Gr.drew ?_ | with_reducible refine Gr.alloc ?_ _ | with_reducible refine Gr.setCell ?_ ?_ _ | (with_reducible refine Gr.trans ?_ (by assumption)) | omega | (dsimp only; omega))⟩
      · rw [hr] at hRt
        have hRt := Lib.hid hRt
        have e := Lib.hid (writesOkB_no hkl (.inl hf))
        clear hf hr
        have hv' : decide ((16 : Int) < ((wAt l k).val.size : Int)) = false := by simp; omega
        have hne := notEmpty hq2
        generalize (wAt l k).gone = g at *
        subst hq1
        go_wp2_with fail
        refine wp_region_after (by kernel_rfl) (by kernel_rfl) ?_
        repeat (go_big_quiet_step ((first | (go_at_call 43; (with_reducible exact after_dr (hRt.out _))) | (go_at_call 44; (with_reducible exact after_dr (compare_any _ _ _ (by assumption) (by assumption)))))))
        refine wpQuiet_nil ?_
        rintro _ ⟨⟨w1, hg1⟩, rfl⟩
        go_wp2_with fail
        go_ret
        exact ⟨by rw [e.out]; rfl, by repeat (first | with_reducible exact Gr.refl _ | with_reducible refine Gr.drewN ?_ _ | with_reducible refine Gr.drew ?_ | with_reducible refine Gr.alloc ?_ _ | with_reducible refine Gr.setCell ?_ ?_ _ | (with_reducible refine Gr.trans ?_ (by assumption)) | omega | (dsimp only; omega))⟩
    · obtain rfl : k = n := by omega
      have e : writesOkB l = true := by
        unfold writesOkB
        rw [decide_eq_true_iff]
        intro j hj
        exact hp.out j (by rw [H1.out.len] at hj; exact hj)
      have He := Lib.hid e
      clear e
      go_wp2
      go_ret
      exact ⟨by rw [He.out]; rfl, by repeat (first | with_reducible exact Gr.refl _ | with_reducible refine Gr.drewN ?_ _ | with_reducible refine Gr.drew ?_ | with_reducible refine Gr.alloc ?_ _ | with_reducible refine Gr.setCell ?_ ?_ _ | (with_reducible refine Gr.trans ?_ (by assumption)) | omega | (dsimp only; omega))⟩
end Go.Proofs.YtfejdbcfcpmdiaaDoor
