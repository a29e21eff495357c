import Derived.Test.YtidfelbaegaphaaDoorRf7z
import Derived.Test.YtidfelbaegaphaaDoorPtz
namespace Go.Proofs.YtidfelbaegaphaaDoor
set_option linter.unusedVariables false
set_option linter.unusedSimpArgs false
open Go.BigFrame Go.RowKit Go.WideShapes

/-! The document's Search. -/
theorem look_hit {key : ByteArray} {p : List Rw} {j : Nat} (hj : j < p.length) (h : ∀ q, q < j → kAt p q ≠ key) (e : kAt p j = key) : look key p = some (rAt p j) := by
  unfold look
  rw [List.find?_eq_some_iff_getElem]
  refine ⟨by rw [decide_eq_true_iff]; exact e, j, hj, (rAt_lt hj).symm, fun q hq => ?_⟩
  have := h q hq
  unfold kAt at this
  rw [rAt_lt (by omega)] at this
  simp [this]
theorem look_no {key : ByteArray} {p : List Rw} (h : ∀ q, q < p.length → kAt p q ≠ key) : look key p = none := by
  unfold look
  rw [List.find?_eq_none]
  intro r hr c
  obtain ⟨i, hi, rfl⟩ := List.getElem_of_mem hr
  rw [decide_eq_true_iff] at c
  exact h i hi (by unfold kAt; rw [rAt_lt hi]; exact c)
theorem foldR_code {c : List Rc} {e : Int} (h : foldR c = (none, e)) : e = 9 ∨ e = 10 := by
  unfold foldR at h
  split at h
  · split at h
    · cases h; exact .inr rfl
    · split at h
      · split at h <;> cases h
        exact .inr rfl
      · cases h; exact .inr rfl
  · cases h; exact .inl rfl
theorem foldR_zero {c : List Rc} {v : Vw} {e : Int} (h : foldR c = (some v, e)) : e = 0 := (fold_ok ((fold_eq c).trans h)).2
set_option maxRecDepth 100000 in
set_option maxHeartbeats 4000000 in
theorem refSearch_any (oa : Option Addr) (n cap : Nat) (l : List Ry) (key : ByteArray) (w : World) (h : RecsAt w oa n cap l) (hn : n ≤ 1000) (hrs : ∀ (i : Nat) (y : Ry), l[i]? = some y → y.x.r.rows.length ≤ 100) (hk : key.size ≤ maxLen) :
    Calls Tryd.prog 16 #[.slice oa n cap, .string key] w fun e w' => e = .returned (.tuple #[.string (searchR (rcs l) key).1, .bool (searchR (rcs l) key).2.1, .int .i64 (searchR (rcs l) key).2.2]) ∧ Gr w w' := by
  have hF := refFold_any oa n cap l w h hn hrs
  obtain ⟨R, hR0⟩ : ∃ R, R = searchR (rcs l) key := ⟨_, rfl⟩
  rw [← hR0]
  unfold searchR at hR0
  rcases hf : foldR (rcs l) with ⟨ov, cd⟩
  rw [hf] at hF hR0
  cases ov with
  | none =>
    have hcd : (cd == 0) = false := by rw [beq_eq_false_iff_ne]; rcases foldR_code hf with q | q <;> omega
    have hF := Lib.hid hF
    have HE : Hid (R = (ByteArray.empty, false, cd)) := Lib.hid hR0
    clear h hrs hf hR0
    go_enter Tryd.func16, Tryd.ntmps16
    go_wp2_with (first | (go_at_call 10; (with_reducible refine hF.out.mono ?_); rintro e w3 hq; obtain ⟨rfl, hg3⟩ := hq; have B0 := (Bx.new w3 zL.toArray 33 rfl).of (us := zL) (by simp)) | ((with_reducible refine wpList_store_box (ty := 33) (B0) (zL) ?_ ?_ ?_ ?_ ?_ ?_); (focus (exact rfl)); (focus (exact ⟨_, _, rfl, rfl, rfl⟩)); (focus (exact rfl)); (focus kernel_rfl); (focus kernel_rfl)))
    go_ret3
    rw [HE.out]
    exact ⟨rfl, (hg3.alloc _).setCells hg3.le _ _⟩
  | some v =>
    obtain rfl := foldR_zero hf
    have hF := Lib.hid hF
    dsimp only at hR0
    have HE := Lib.hid hR0
    clear h hrs hf hR0
    go_enter Tryd.func16, Tryd.ntmps16
    go_upto_region 2 with (first | (go_at_call 10; (with_reducible refine hF.out.mono ?_); rintro e w3 hq; obtain ⟨o, m, c, rfl, hR, hz, hg3⟩ := hq; have B0 := (Bx.new w3 zL.toArray 33 rfl).of (us := zL) (by simp)) | ((with_reducible refine wpList_store_box (ty := 33) (B0) ((vL v o m c)) ?_ ?_ ?_ ?_ ?_ ?_); (focus (exact rfl)); (focus (exact ⟨_, _, rfl, rfl, rfl⟩)); (focus (exact rfl)); (focus kernel_rfl); (focus kernel_rfl)))
    have B7 := B0.setAll (us := vL v o m c) rfl
    have hg4 := (hg3.alloc (.cells zL.toArray 33)).setCells hg3.le (vL v o m c) 0
    have HR := Lib.hid (hR.keep (((Gr.refl w3).alloc (.cells zL.toArray 33)).setCells (Nat.le_refl _) (vL v o m c) 0))
    clear B0 hF hR hg3
    generalize (w3.alloc (.cells zL.toArray 33)).setCells w3.heap.size 0 (vL v o m c) = w4 at *
    generalize w3.heap.size = b7 at *
    have t5 := B7.cell 5 rfl
    cases hgo : v.gone
    · rw [hgo] at t5 HE
      have HE := Lib.hid (HE.out.trans (if_neg (by decide)))
      clear hgo
      have hHa := fun w1 => refHas_any v o m c key w1 hz hk
      cases hhk : hasK v key
      · rw [hhk] at hHa HE
        have HE := Lib.hid (HE.out.trans (if_pos rfl))
        have hHa := Lib.hid hHa
        clear hhk
        go_wp2_with (first | ((with_reducible refine wpList_load_box (ty := 33) (B7) ?_ ?_ Tryd.underlying33 ?_ ?_ ?_); (focus (exact rfl)); (focus (exact ⟨_, rfl, rfl⟩)); (focus (exact rfl)); (focus kernel_rfl)) | (go_at_call 26; (with_reducible refine (hHa.out _).mono ?_); rintro e w5 ⟨rfl, hg5⟩))
        go_ret3
        rw [HE.out]
        exact ⟨rfl, hg4.trans hg5⟩
      · rw [hhk] at hHa HE
        have HE := Lib.hid (HE.out.trans (if_neg (by decide)))
        have hHa := Lib.hid hHa
        clear hhk
        go_upto_region 8 with (first | ((with_reducible refine wpList_load_box (ty := 33) (B7) ?_ ?_ Tryd.underlying33 ?_ ?_ ?_); (focus (exact rfl)); (focus (exact ⟨_, rfl, rfl⟩)); (focus (exact rfl)); (focus kernel_rfl)) | (go_at_call 26; (with_reducible refine (hHa.out _).mono ?_); rintro e w5 ⟨rfl, hg5⟩))
        have HR := Lib.hid (HR.out.keep hg5)
        have t4 := (B7.keep hg5).cell 4 rfl
        have hgw := hg4.trans hg5
        have hll := Lib.hid HR.out.len
        have hcl := HR.out.cap_le
        have hcm := HR.out.cap_max
        unfold maxLen at hcm hk
        obtain ⟨b, off, ho, hc⟩ := HR.out.cells
        have Ho := Lib.hid (fun q => (ho q).1)
        have Hc := Lib.hid hc
        clear ho hc B7 hHa hg4 hg5 t5
        go_wp2_with fail
        go_loopw [9] (fun i wr => ∃ k : Nat, k ≤ m ∧ i = .int .i64 k ∧ Hid (∀ q, q < k → kAt v.rows q ≠ key) ∧ wr = w5) (fun i _ => m - (intOf i).toNat)
        case atStart => exact ⟨0, Nat.zero_le _, rfl, Lib.hid (fun q hq => absurd hq (by omega)), rfl⟩
        case round =>
          obtain ⟨k, hk1, rfl, hno, rfl⟩ := hrel
          by_cases hlt : k < m
          · have a1 := (Hc.out k hlt).1
            have a2 := (Hc.out k hlt).2
            have hI := run_row c Ho.out hlt
            by_cases e : kAt v.rows k = key
            · have he := eqL e
              have hlk : look key v.rows = some (rAt v.rows k) := look_hit (by rw [hll.out]; exact hlt) hno.out e
              rw [hlk] at HE
              clear hno e hlk
              go_wp2_with fail
              go_ret3
              rw [HE.out]
              exact ⟨rfl, hgw⟩
            · have he := neL e
              have hno2 := Lib.hid fun q (hq : q < k + 1) => show kAt v.rows q ≠ key by
                rcases Nat.lt_or_ge q k with z | z
                · exact hno.out q z
                · obtain rfl : q = k := by omega
                  exact e
              clear hno e
              go_wp2_with fail
              go_roundw
              case rel => exact ⟨k + 1, by omega, by go_num, hno2, trivial⟩
              case measure => simp [intOf]; omega
          · obtain rfl : k = m := by omega
            rw [look_no (fun q hq => hno.out q (by rw [← hll.out]; exact hq))] at HE
            clear hno
            go_wp2_with fail
            go_ret3
            rw [HE.out]
            exact ⟨rfl, hgw⟩
    · rw [hgo] at t5 HE
      have HE := Lib.hid (HE.out.trans (if_pos rfl))
      clear hgo
      go_wp2_with fail
      go_ret3
      rw [HE.out]
      exact ⟨rfl, hg4⟩
end Go.Proofs.YtidfelbaegaphaaDoor
