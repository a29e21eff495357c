import Derived.Test.YtidfelbaegaphaaDoorRf7lz
namespace Go.Proofs.YtidfelbaegaphaaDoor
set_option linter.unusedVariables false
set_option linter.unusedSimpArgs false
open Go.BigFrame Go.RowKit Go.WideShapes

set_option maxRecDepth 100000 in
set_option maxHeartbeats 4000000 in
theorem refFold_kinds (oa : Option Addr) (n cap : Nat) (l : List Ry) (w : World) (h : RecsAt w oa n cap l) (hn : n ≤ 1000) (hrs : ∀ (i : Nat) (y : Ry), l[i]? = some y → y.x.r.rows.length ≤ 100) (hB : ¬ kindsB l) :
    Calls Tryd.prog 10 #[.slice oa n cap] w (RefTells w (foldR (rcs l))) := by
  have HB := Lib.hid hB
  have HR := Lib.hid (@foldR_bad l)
  clear hB
  have HR2 := Lib.hid (@foldR_last l)
  have HR0 : Hid (n = 0 → foldR (rcs l) = (none, 10)) := Lib.hid fun q => by
    have : l = [] := List.length_eq_zero_iff.1 (by rw [h.len, q])
    rw [this]; exact foldR_nil
  have Hl := Lib.hid h.len
  have Hrs := Lib.hid hrs
  have hcl := h.cap_le
  have hcm := h.cap_max
  unfold maxLen at hcm
  obtain ⟨b, off, ho, hc⟩ := h.get
  have Ho := Lib.hid ho
  have Hc := Lib.hid hc
  clear hrs h ho hc
  generalize foldR (rcs l) = res at *
  have B2 : Bx (w.alloc (.cells #[.string ⟨#[]⟩, .string ⟨#[]⟩, .bool false, .int .i64 0, .slice none 0 0, .bool false] 33)) w.heap.size zL := Bx.new w _ _ rfl
  have hg2 := (Gr.refl w).alloc (.cells #[.string ⟨#[]⟩, .string ⟨#[]⟩, .bool false, .int .i64 0, .slice none 0 0, .bool false] 33)
  go_enter Tryd.func10, Tryd.ntmps10
  go_upto_region 2 with fail
  generalize w.alloc (.cells #[.string ⟨#[]⟩, .string ⟨#[]⟩, .bool false, .int .i64 0, .slice none 0 0, .bool false] 33) = W at *
  have hzlt : w.heap.size < W.heap.size := B2.lt (by simp)
  go_loopw [4] (fun s4 wr => ∃ k : Nat, k ≤ n ∧ s4 = .int .i64 k ∧ W = wr ∧ Hid (∀ (i : Nat) (y : Ry), i < k → l[i]? = some y → 1 ≤ y.x.r.kind ∧ y.x.r.kind ≤ 6)) (fun s4 _ => n - (intOf s4).toNat)
  case atStart => exact ⟨0, Nat.zero_le _, rfl, rfl, Lib.hid fun i y hi _ => by omega⟩
  case round =>
    obtain ⟨k, hk, rfl, rfl, hall⟩ := hrel
    by_cases hlt : k < n
    · have hy : l[k]? = some (l[k]'(by have := Hl.out; omega)) := List.getElem?_eq_getElem _
      generalize (l[k]'(by have := Hl.out; omega)) = y at hy
      obtain ⟨o1, n1, c1, o2, n2, c2, R⟩ := Hc.out k y hy
      have R1 := R.keep hg2
      have hI := run_rec cap Ho.out hlt
      have a0 : W.cell? ⟨b, off + k * 15, none⟩ = some (.int .i64 y.x.r.kind) := R1.cell 0 rfl
      have Hy := Lib.hid hy
      clear hy R R1
      by_cases hbad : y.x.r.kind < 1 ∨ 6 < y.x.r.kind
      · have hno : res = (none, 9) := HR.out fun q => by have := q k y Hy.out; omega
        have Hno := Lib.hid hno
        clear hno
        by_cases h1 : y.x.r.kind < 1
        · go_wp2_with (refine wpList_store_mid rfl 33 _ _ rfl _ 0 _ rfl rfl (B2).may (by kernel_rfl) (by kernel_rfl) ?_)
          refine bodyPost_ret ((B2.setAll (us := zL) rfl).ret2 rfl _ rfl rfl Tryd.underlying33 rfl (by kernel_rfl)) rfl ?_
          rw [Hno.out]
          exact ⟨rfl, hg2.setCells (Nat.le_refl _) _ _⟩
        · have h6 : 6 < y.x.r.kind := by omega
          go_wp2_with (refine wpList_store_mid rfl 33 _ _ rfl _ 0 _ rfl rfl (B2).may (by kernel_rfl) (by kernel_rfl) ?_)
          refine bodyPost_ret ((B2.setAll (us := zL) rfl).ret2 rfl _ rfl rfl Tryd.underlying33 rfl (by kernel_rfl)) rfl ?_
          rw [Hno.out]
          exact ⟨rfl, hg2.setCells (Nat.le_refl _) _ _⟩
      · have h1 : 1 ≤ y.x.r.kind := by omega
        have h6 : y.x.r.kind ≤ 6 := by omega
        go_wp2_with fail
        go_roundw
        case rel => exact ⟨k + 1, by omega, by go_num, trivial, Lib.hid fun i y' hi hy' => by
          rcases Nat.lt_or_ge i k with q | q
          · exact hall.out i y' q hy'
          · obtain rfl : i = k := by omega
            rw [Hy.out] at hy'
            cases hy'
            exact ⟨h1, h6⟩⟩
        case measure => simp [intOf]; omega
    · obtain rfl : k = n := by omega
      exact absurd (show kindsB l from fun i y hi => hall.out i y (by have := (List.getElem?_eq_some_iff.1 hi).1; have := Hl.out; omega) hi) HB.out
end Go.Proofs.YtidfelbaegaphaaDoor

namespace Go.Proofs.YtidfelbaegaphaaDoor
set_option linter.unusedVariables false
set_option linter.unusedSimpArgs false
open Go.BigFrame Go.RowKit Go.WideShapes

set_option maxRecDepth 100000 in
set_option maxHeartbeats 4000000 in
theorem refFold_pos (oa : Option Addr) (n cap : Nat) (l : List Ry) (w : World) (h : RecsAt w oa n cap l) (hn : n ≤ 1000) (hrs : ∀ (i : Nat) (y : Ry), l[i]? = some y → y.x.r.rows.length ≤ 100) (hKB : kindsB l) (hP : n = 0 ∨ ¬ posI l) :
    Calls Tryd.prog 10 #[.slice oa n cap] w (RefTells w (foldR (rcs l))) := by
  have HKB := Lib.hid hKB
  have HP := Lib.hid hP
  clear hP
  have HR2 := Lib.hid (@foldR_last l)
  have HR0 : Hid (n = 0 → foldR (rcs l) = (none, 10)) := Lib.hid fun q => by
    have : l = [] := List.length_eq_zero_iff.1 (by rw [h.len, q])
    rw [this]; exact foldR_nil
  have Hl := Lib.hid h.len
  have Hrs := Lib.hid hrs
  have hcl := h.cap_le
  have hcm := h.cap_max
  unfold maxLen at hcm
  obtain ⟨b, off, ho, hc⟩ := h.get
  have Ho := Lib.hid ho
  have Hc := Lib.hid hc
  clear hrs h ho hc hKB
  generalize foldR (rcs l) = res at *
  have B2 : Bx (w.alloc (.cells #[.string ⟨#[]⟩, .string ⟨#[]⟩, .bool false, .int .i64 0, .slice none 0 0, .bool false] 33)) w.heap.size zL := Bx.new w _ _ rfl
  have hg2 := (Gr.refl w).alloc (.cells #[.string ⟨#[]⟩, .string ⟨#[]⟩, .bool false, .int .i64 0, .slice none 0 0, .bool false] 33)
  go_enter Tryd.func10, Tryd.ntmps10
  go_upto_region 2 with fail
  generalize w.alloc (.cells #[.string ⟨#[]⟩, .string ⟨#[]⟩, .bool false, .int .i64 0, .slice none 0 0, .bool false] 33) = W at *
  have hzlt : w.heap.size < W.heap.size := B2.lt (by simp)
  go_loopw [4] (fun s4 wr => ∃ k : Nat, k ≤ n ∧ s4 = .int .i64 k ∧ W = wr) (fun s4 _ => n - (intOf s4).toNat)
  case atStart => exact ⟨0, Nat.zero_le _, rfl, rfl⟩
  case round =>
    obtain ⟨k, hk, rfl, rfl⟩ := hrel
    by_cases hlt : k < n
    · have hy : l[k]? = some (l[k]'(by have := Hl.out; omega)) := List.getElem?_eq_getElem _
      generalize (l[k]'(by have := Hl.out; omega)) = y at hy
      obtain ⟨o1, n1, c1, o2, n2, c2, R⟩ := Hc.out k y hy
      have R1 := R.keep hg2
      have hI := run_rec cap Ho.out hlt
      have a0 : W.cell? ⟨b, off + k * 15, none⟩ = some (.int .i64 y.x.r.kind) := R1.cell 0 rfl
      have Hy := Lib.hid hy
      clear hy R R1
      have h16 := HKB.out k y Hy.out
      have h1 : 1 ≤ y.x.r.kind := h16.1
      have h6 : y.x.r.kind ≤ 6 := h16.2
      clear h16
      go_wp2_with fail
      go_roundw
      case rel => exact ⟨k + 1, by omega, by go_num, trivial⟩
      case measure => simp [intOf]; omega
    · obtain rfl : k = n := by omega
      have hK := HKB
      rcases Nat.eq_zero_or_pos k with h0 | hpos
      · have hno : res = (none, 10) := HR0.out h0
        have Hno := Lib.hid hno
        subst h0
        clear hno
        go_wp2_with (refine wpList_store_mid rfl 33 _ _ rfl _ 0 _ rfl rfl (B2).may (by kernel_rfl) (by kernel_rfl) ?_)
        refine bodyPost_ret ((B2.setAll (us := zL) rfl).ret2 rfl _ rfl rfl Tryd.underlying33 rfl (by kernel_rfl)) rfl ?_
        rw [Hno.out]
        exact ⟨rfl, hg2.setCells (Nat.le_refl _) _ _⟩
      · have hyb : l[k - 1]? = some (l[k - 1]'(by have := Hl.out; omega)) := List.getElem?_eq_getElem _
        generalize (l[k - 1]'(by have := Hl.out; omega)) = yb at hyb
        have hFl := Lib.hid (HR2.out hK.out (by rw [Hl.out]; exact hyb))
        have Hyb := Lib.hid hyb
        have hk0 : ((k : Int) == 0) = false := by rw [beq_eq_false_iff_ne]; omega
        clear hyb HR0 HR2
        go_wp2_with fail
        go_loopw [5] (fun s5 wr => ∃ j : Nat, j ≤ k ∧ s5 = .int .i64 j ∧ Dr W wr ∧ Hid (∀ (i : Nat) (y : Ry), i < j → l[i]? = some y → (y.x.r.kind = 1 ↔ i = l.length - 1) ∧ (y.x.r.kind = 5 → i = 0))) (fun s5 _ => k - (intOf s5).toNat)
        case atStart => exact ⟨0, Nat.zero_le _, rfl, Dr.refl _, Lib.hid fun i y hi _ => by omega⟩
        case round =>
          obtain ⟨j, hj, rfl, hd, hall⟩ := hrel
          by_cases hlt2 : j < k
          · have hy : l[j]? = some (l[j]'(by have := Hl.out; omega)) := List.getElem?_eq_getElem _
            generalize (l[j]'(by have := Hl.out; omega)) = y at hy
            obtain ⟨o1, n1, c1, o2, n2, c2, R⟩ := Hc.out j y hy
            have R1 := R.keep (hg2.trans hd.gr)
            have hI := run_rec cap Ho.out hlt2
            have a0 : wr.cell? ⟨b, off + j * 15, none⟩ = some (.int .i64 y.x.r.kind) := R1.cell 0 rfl
            have Hy := Lib.hid hy
            clear hy R R1
            by_cases hgood : (y.x.r.kind = 1 ↔ j = k - 1) ∧ (y.x.r.kind = 5 → j = 0)
            · obtain ⟨g1, g5⟩ := hgood
              have HG := Lib.hid (show (y.x.r.kind = 1 ↔ j = k - 1) ∧ (y.x.r.kind = 5 → j = 0) from ⟨g1, g5⟩)
              have t2 : ((j : Int) == (k : Int) - 1) = (y.x.r.kind == 1) := by rw [Bool.eq_iff_iff, beq_iff_eq, beq_iff_eq, g1]; omega
              have t3 : (y.x.r.kind == 5) = true → ¬ 0 < j := fun q => by rw [beq_iff_eq] at q; have := g5 q; omega
              clear g1 g5
              cases t1 : (y.x.r.kind == 1)
              all_goals
                rw [t1] at t2
                cases t5 : (y.x.r.kind == 5)
                all_goals
                  rw [t5] at t3
                  try (have t4 := t3 rfl)
                  clear t3
                  go_wp2_with fail
                  go_roundw
                  case rel => exact ⟨j + 1, by omega, by go_num, hd, Lib.hid fun i y' hi hy' => by
                    rcases Nat.lt_or_ge i j with q | q
                    · exact hall.out i y' q hy'
                    · obtain rfl : i = j := by omega
                      rw [Hy.out] at hy'
                      cases hy'
                      rw [Hl.out]
                      exact HG.out⟩
                  case measure => simp [intOf]; omega
            · have hno : res = (none, 10) := by
                rw [hFl.out, pick_neg]
                intro q
                have := q.1 j y Hy.out
                rw [Hl.out] at this
                exact hgood this
              have Hno := Lib.hid hno
              clear hno
              have B3 := B2.keep hd.gr
              by_cases g1 : (y.x.r.kind = 1 ↔ j = k - 1)
              · have g5 : y.x.r.kind = 5 ∧ 0 < j := by
                  apply Classical.byContradiction
                  intro q
                  refine hgood ⟨g1, fun z => ?_⟩
                  rcases Nat.eq_zero_or_pos j with r | r
                  · exact r
                  · exact absurd ⟨z, r⟩ q
                obtain ⟨g5, g6⟩ := g5
                have t1 : (y.x.r.kind == 1) = false := by rw [beq_eq_false_iff_ne, g5]; decide
                have t5 : (y.x.r.kind == 5) = true := by rw [beq_iff_eq]; exact g5
                have t2 : ((j : Int) == (k : Int) - 1) = false := by
                  rw [beq_eq_false_iff_ne]
                  intro q
                  have : y.x.r.kind = 1 := g1.2 (by omega)
                  omega
                clear g1 g5 hgood
                go_wp2_with ((with_reducible refine wpList_store_box (ty := 33) (B3) (zL) ?_ ?_ ?_ ?_ ?_ ?_); (focus (exact rfl)); (focus (exact ⟨_, _, rfl, rfl, rfl⟩)); (focus (exact rfl)); (focus kernel_rfl); (focus kernel_rfl))
                refine bodyPost_ret ((B3.setAll (us := zL) rfl).ret2 rfl _ rfl rfl Tryd.underlying33 rfl (by kernel_rfl)) rfl ?_
                rw [Hno.out]
                exact ⟨rfl, (hg2.trans hd.gr).setCells (Nat.le_refl _) _ _⟩
              · have t2 : ((j : Int) == (k : Int) - 1) = !(y.x.r.kind == 1) := by
                  by_cases z : y.x.r.kind = 1
                  · have z2 : ¬ j = k - 1 := fun q => g1 ⟨fun _ => q, fun _ => z⟩
                    rw [show (y.x.r.kind == 1) = true from beq_iff_eq.2 z, Bool.not_true, beq_eq_false_iff_ne]
                    omega
                  · have z2 : j = k - 1 := Classical.byContradiction fun q => g1 ⟨fun r => absurd r z, fun r => absurd r q⟩
                    rw [show (y.x.r.kind == 1) = false from beq_eq_false_iff_ne.2 z, Bool.not_false, beq_iff_eq]
                    omega
                clear g1 hgood
                cases t1 : (y.x.r.kind == 1)
                all_goals
                  rw [t1] at t2
                  simp only [Bool.not_false, Bool.not_true] at t2
                  go_wp2_with ((with_reducible refine wpList_store_box (ty := 33) (B3) (zL) ?_ ?_ ?_ ?_ ?_ ?_); (focus (exact rfl)); (focus (exact ⟨_, _, rfl, rfl, rfl⟩)); (focus (exact rfl)); (focus kernel_rfl); (focus kernel_rfl))
                  refine bodyPost_ret ((B3.setAll (us := zL) rfl).ret2 rfl _ rfl rfl Tryd.underlying33 rfl (by kernel_rfl)) rfl ?_
                  rw [Hno.out]
                  exact ⟨rfl, (hg2.trans hd.gr).setCells (Nat.le_refl _) _ _⟩
          · obtain rfl : j = k := by omega
            exact absurd (show posI l from fun i y hi => hall.out i y (by have := (List.getElem?_eq_some_iff.1 hi).1; have := Hl.out; omega) hi) (HP.out.resolve_left (by omega))
end Go.Proofs.YtidfelbaegaphaaDoor
