import Derived.Test.YtidfelbaegaphaaDoorSp7z
namespace Go.Proofs.YtidfelbaegaphaaDoor
set_option linter.unusedVariables false
set_option linter.unusedSimpArgs false
open Go.BigFrame Go.RowKit Go.WideShapes

/-! Two that are the same: views, records. -/
set_option maxRecDepth 100000 in
set_option maxHeartbeats 2000000 in
theorem same7_any (v : Vw) (oa : Option Addr) (n cap : Nat) (ob : Option Addr) (m cap2 : Nat) (w : World) (h : RowsAt w oa n cap v.rows) (k : RowsAt w ob m cap2 v.rows) :
    Calls Tryd.prog 11 #[vwV v oa n cap, vwV v ob m cap2] w fun e w' => e = .returned (.bool true) ∧ Gr w w' := by
  have s1 := size_alloc1
  have B0 : Bx ((w.alloc (.cells (vL v oa n cap).toArray 33)).alloc (.cells (vL v ob m cap2).toArray 33)) w.heap.size (vL v oa n cap) := ((Bx.new w _ _ rfl).keep ((Gr.refl _).alloc _)).of (by simp)
  have Z0 : Bx ((w.alloc (.cells (vL v oa n cap).toArray 33)).alloc (.cells (vL v ob m cap2).toArray 33)) (w.heap.size + 1) (vL v ob m cap2) := (Bx.new (w.alloc _) _ _ (by rw [s1])).of (by simp)
  have hg0 : Gr w ((w.alloc (.cells (vL v oa n cap).toArray 33)).alloc (.cells (vL v ob m cap2).toArray 33)) := ((Gr.refl _).alloc _).alloc _
  obtain rfl : n = m := h.len.symm.trans k.len
  have hS := Lib.hid (refSame_any oa ob n cap n cap2 v.rows v.rows _ (h.keep hg0) (k.keep hg0))
  clear h k
  go_enter Tryd.func11, Tryd.ntmps11
  go_upto_region 1 with fail
  generalize (w.alloc (.cells (vL v oa n cap).toArray 33)).alloc (.cells (vL v ob n cap2).toArray 33) = W at *
  generalize w.heap.size = BX at *
  have v0 := B0.cell 0 rfl
  have v1 := B0.cell 1 rfl
  have v2 := B0.cell 2 rfl
  have v3 := B0.cell 3 rfl
  have v4 := B0.cell 4 rfl
  have v5 := B0.cell 5 rfl
  have z0 := Z0.cell 0 rfl
  have z1 := Z0.cell 1 rfl
  have z2 := Z0.cell 2 rfl
  have z3 := Z0.cell 3 rfl
  have z4 := Z0.cell 4 rfl
  have z5 := Z0.cell 5 rfl
  have e1 : (v.unb == v.unb) = true := by cases v.unb <;> rfl
  have e2 : (v.gone == v.gone) = true := by cases v.gone <;> rfl
  go_wp2_with (go_at_call 31; (with_reducible refine hS.out.mono ?_); rintro e w1 ⟨rfl, hd⟩; rw [show decide (v.rows = v.rows) = true from decide_eq_true rfl])
  all_goals
    go_ret
    exact ⟨rfl, hg0.trans hd.gr⟩
theorem EntsAt.get {w : World} {oa : Option Addr} {n cap : Nat} {l : List En} (h : EntsAt w oa n cap l) :
    ∃ b off, (0 < n → oa = some ⟨b, off, none⟩) ∧ ∀ (i : Nat) (x : En), l[i]? = some x → w.cell? ⟨b, off + i * 2, none⟩ = some (.string x.key) ∧ w.cell? ⟨b, off + i * 2 + 1, none⟩ = some (.int .i64 x.page) := by
  obtain ⟨b, off, h1, h2⟩ := h.cells
  refine ⟨b, off, fun q => (h1 q).1, fun i x hi => ?_⟩
  obtain ⟨vs, -, -, ⟨rfl, -⟩, h6⟩ := h2 i x hi
  exact ⟨h6 0 _ rfl, h6 1 _ rfl⟩
theorem cells_entS : Tryd.prog.cellsOf 79 = 2 := by kernel_rfl
theorem run_ent {oa : Option Addr} {n b off : Nat} (cap : Nat) (ho : 0 < n → oa = some ⟨b, off, none⟩) {k : Nat} (hk : k < n) (w : World) :
    (Instr.indexAt 43 (.slice oa n cap) (.int .i64 (k : Int))).run Tryd.prog w = .ok (.pointer (some ⟨b, off + k * 2, none⟩)) w := by
  rw [ho (by omega)]
  go_simp
set_option maxRecDepth 100000 in
set_option maxHeartbeats 4000000 in
theorem recSame_any (y : Ry) (oa : Option Addr) (n cap : Nat) (ob : Option Addr) (m cap2 : Nat) (oc : Option Addr) (n' cap3 : Nat) (od : Option Addr) (m' cap4 : Nat) (w : World)
    (h1 : RowsAt w oa n cap y.x.r.rows) (h2 : EntsAt w ob m cap2 y.ents) (h3 : RowsAt w oc n' cap3 y.x.r.rows) (h4 : EntsAt w od m' cap4 y.ents) :
    Calls Tryd.prog 14 #[rxV y.x oa n cap ob m cap2, rxV y.x oc n' cap3 od m' cap4] w fun e w' => e = .returned (.bool true) ∧ Gr w w' := by
  have s1 := size_alloc1
  have B0 : Bx ((w.alloc (.cells (xL y.x oa n cap ob m cap2).toArray 49)).alloc (.cells (xL y.x oc n' cap3 od m' cap4).toArray 49)) w.heap.size (xL y.x oa n cap ob m cap2) := ((Bx.new w _ _ rfl).keep ((Gr.refl _).alloc _)).of (by simp)
  have Z0 : Bx ((w.alloc (.cells (xL y.x oa n cap ob m cap2).toArray 49)).alloc (.cells (xL y.x oc n' cap3 od m' cap4).toArray 49)) (w.heap.size + 1) (xL y.x oc n' cap3 od m' cap4) := (Bx.new (w.alloc _) _ _ (by rw [s1])).of (by simp)
  have hg0 : Gr w ((w.alloc (.cells (xL y.x oa n cap ob m cap2).toArray 49)).alloc (.cells (xL y.x oc n' cap3 od m' cap4).toArray 49)) := ((Gr.refl _).alloc _).alloc _
  obtain rfl : n = n' := h1.len.symm.trans h3.len
  obtain rfl : m = m' := h2.len.symm.trans h4.len
  have hcm2 := h2.cap_le
  have hcm3 := h2.cap_max
  unfold maxLen at hcm3
  have Hm := Lib.hid h2.len
  obtain ⟨b3, off3, ho3, hc3⟩ := EntsAt.get (SlE.keep EnE_mono h2 hg0)
  obtain ⟨b4, off4, ho4, hc4⟩ := EntsAt.get (SlE.keep EnE_mono h4 hg0)
  have Hc3 := Lib.hid hc3
  have Hc4 := Lib.hid hc4
  have Ho3 := Lib.hid ho3
  have Ho4 := Lib.hid ho4
  have h1 := h1.keep hg0
  have h3 := h3.keep hg0
  clear h2 h4 hc3 hc4 ho3 ho4
  obtain ⟨b1, off1, ho1, hc1⟩ := h1.cells
  have Hc1 := Lib.hid hc1
  have Ho1 := Lib.hid (fun q => (ho1 q).1)
  have H1 := Lib.hid h1
  have hn1 := h1.cap_le
  have hm1 := h1.cap_max
  unfold maxLen at hm1
  clear hc1 ho1 h1
  obtain ⟨b2, off2, ho2, hc2⟩ := h3.cells
  have Hc2 := Lib.hid hc2
  have Ho2 := Lib.hid (fun q => (ho2 q).1)
  have H2 := Lib.hid h3
  have hn2 := h3.cap_le
  have hm2 := h3.cap_max
  unfold maxLen at hm2
  clear hc2 ho2 h3
  go_enter Tryd.func14, Tryd.ntmps14
  go_upto_region 1 with fail
  generalize (w.alloc (.cells (xL y.x oa n cap ob m cap2).toArray 49)).alloc (.cells (xL y.x oc n cap3 od m cap4).toArray 49) = W at *
  generalize w.heap.size = BX at *
  have v0 := (B0).cell 0 rfl
  have v1 := (B0).cell 1 rfl
  have v2 := (B0).cell 2 rfl
  have v3 := (B0).cell 3 rfl
  have v4 := (B0).cell 4 rfl
  have v5 := (B0).cell 5 rfl
  have v6 := (B0).cell 6 rfl
  have v7 := (B0).cell 7 rfl
  have v8 := (B0).cell 8 rfl
  have v9 := (B0).cell 9 rfl
  have v10 := (B0).cell 10 rfl
  have v11 := (B0).cell 11 rfl
  have v12 := (B0).cell 12 rfl
  have v13 := (B0).cell 13 rfl
  have v14 := (B0).cell 14 rfl
  have z0 := (Z0).cell 0 rfl
  have z1 := (Z0).cell 1 rfl
  have z2 := (Z0).cell 2 rfl
  have z3 := (Z0).cell 3 rfl
  have z4 := (Z0).cell 4 rfl
  have z5 := (Z0).cell 5 rfl
  have z6 := (Z0).cell 6 rfl
  have z7 := (Z0).cell 7 rfl
  have z8 := (Z0).cell 8 rfl
  have z9 := (Z0).cell 9 rfl
  have z10 := (Z0).cell 10 rfl
  have z11 := (Z0).cell 11 rfl
  have z12 := (Z0).cell 12 rfl
  have z13 := (Z0).cell 13 rfl
  have z14 := (Z0).cell 14 rfl
  go_wp2
  go_loopw [5] (fun i wr => ∃ k : Nat, k ≤ n ∧ i = .int .i64 k ∧ Dr W wr) (fun i _ => n - (intOf i).toNat)
  case atStart => exact ⟨0, Nat.zero_le _, rfl, Dr.refl _⟩
  case round =>
    obtain ⟨k, hk2, rfl, d, rfl⟩ := hrel
    by_cases hlt : k < n
    · have g1 := (Hc1.out k hlt).1
      have g2 := (Hc1.out k hlt).2
      have g3 := (Hc2.out k hlt).1
      have g4 := (Hc2.out k hlt).2
      have hI1 := run_row cap Ho1.out hlt
      have hI2 := run_row cap3 Ho2.out hlt
      go_wp2
      go_big_quiet (fail)
      go_wp2
      go_roundw
      case rel => exact ⟨k + 1, by omega, by go_num, by repeat (first | with_reducible exact Dr.refl _ | with_reducible refine Dr.step ?_ _ | with_reducible refine Dr.drew ?_ | (with_reducible refine Dr.trans ?_ (by assumption)))⟩
      case measure => simp [intOf]; omega
    · obtain rfl : k = n := by omega
      go_wp2
      go_loopw [6] (fun i wr => ∃ j : Nat, j ≤ m ∧ i = .int .i64 j ∧ Dr W wr) (fun i _ => m - (intOf i).toNat)
      case atStart => exact ⟨0, Nat.zero_le _, rfl, by repeat (first | with_reducible exact Dr.refl _ | with_reducible refine Dr.step ?_ _ | with_reducible refine Dr.drew ?_ | (with_reducible refine Dr.trans ?_ (by assumption)))⟩
      case round =>
        obtain ⟨j, hj2, rfl, d2, rfl⟩ := hrel
        by_cases hlt2 : j < m
        · have hx : y.ents[j]? = some (y.ents[j]'(by have := Hm.out; omega)) := List.getElem?_eq_getElem _
          generalize (y.ents[j]'(by have := Hm.out; omega)) = x at hx
          have g1 := (Hc3.out j x hx).1
          have g2 := (Hc3.out j x hx).2
          have g3 := (Hc4.out j x hx).1
          have g4 := (Hc4.out j x hx).2
          have hI1 := run_ent cap2 Ho3.out hlt2
          have hI2 := run_ent cap4 Ho4.out hlt2
          clear hx
          go_wp2
          go_big_quiet (fail)
          go_wp2
          go_roundw
          case rel => exact ⟨j + 1, by omega, by go_num, by repeat (first | with_reducible exact Dr.refl _ | with_reducible refine Dr.step ?_ _ | with_reducible refine Dr.drew ?_ | (with_reducible refine Dr.trans ?_ (by assumption)))⟩
          case measure => simp [intOf]; omega
        · obtain rfl : j = m := by omega
          have e1 : (y.x.r.unb == y.x.r.unb) = true := by cases y.x.r.unb <;> rfl
          have e2 : (y.x.r.unb != y.x.r.unb) = false := by cases y.x.r.unb <;> rfl
          go_wp2
          go_ret
          exact ⟨rfl, hg0.trans (Dr.gr (by repeat (first | with_reducible exact Dr.refl _ | with_reducible refine Dr.step ?_ _ | with_reducible refine Dr.drew ?_ | (with_reducible refine Dr.trans ?_ (by assumption)))))⟩
end Go.Proofs.YtidfelbaegaphaaDoor
