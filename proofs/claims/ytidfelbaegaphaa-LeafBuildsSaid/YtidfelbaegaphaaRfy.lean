import Derived.Test.YtidfelbaegaphaaOw2y
import Derived.Test.YtidfelbaegaphaaSp7y
import Derived.Test.YtidfelbaegaphaaSp9y
namespace Go.Proofs.Ytidfelbaegaphaa
set_option linter.unusedVariables false
set_option linter.unusedSimpArgs false
open Go.BigFrame Go.RowKit Go.WideShapes

theorem drewN_heap (w : World) (d : Nat) : (w.drewN d).heap = w.heap := rfl
theorem own_empty_b {w : World} {b base : Nat} (hb : b = w.heap.size) (h : base ≤ b) : OwnAt (w.alloc (.cells #[] 61)) base (some ⟨b, 0, none⟩) 0 0 [] := by
  subst hb
  exact ⟨⟨rfl, .inr ⟨w.heap.size, 0, #[], rfl, h, (by show (w.heap.push (.cells #[] 61))[w.heap.size]? = _; simp), Nat.le_refl _, Nat.zero_le _, rfl, rfl⟩⟩,
   ⟨rfl, Nat.le_refl _, Nat.zero_le _, fun q => (by cases q), ⟨0, 0, fun q => absurd q (by omega), fun i hi => absurd hi (by omega)⟩, fun i hi => absurd hi (by omega)⟩⟩
set_option maxRecDepth 100000 in
set_option maxHeartbeats 1000000 in
theorem refHalve_few (oa : Option Addr) (n cap : Nat) (w : World) (hn : n < 2) :
    Calls Try.prog 22 #[.slice oa n cap] w fun e w' => e = .returned (.tuple #[.string ByteArray.empty, .slice none 0 0, .slice none 0 0, .bool false]) ∧ Gr w w' := by
  have hd : n / 2 = 0 := by omega
  have hd2 : ((n : Int) / 2 < 1) := by omega
  go_enter Try.func22, Try.ntmps22
  go_wp2_with fail
  all_goals
    ((try simp only [Exit.inBlock, Exit.then]); refine bodyPost_ret (results_tmp4 rfl _ _ _) rfl ?_)
    exact ⟨rfl, by repeat (first | with_reducible exact Gr.refl _ | with_reducible refine Gr.drewN ?_ _ | with_reducible refine Gr.drew ?_ | with_reducible refine Gr.alloc ?_ _ | with_reducible refine Gr.setCell ?_ ?_ _ | (with_reducible refine Gr.trans ?_ (by assumption)) | omega | (dsimp only; omega))⟩

set_option maxRecDepth 100000 in
set_option maxHeartbeats 1000000 in
theorem refHalve_no (oa : Option Addr) (n cap p : Nat) (l : List Rw) (w : World) (h : RowsAt w oa n cap l) (hn : 2 ≤ n) (hn2 : n ≤ 1000000) (hp : p = n / 2) (hc : ¬ Str.before (Tx (kAt l (p - 1))) (Tx (kAt l p)) = true) :
    Calls Try.prog 22 #[.slice oa n cap] w fun e w' => e = .returned (.tuple #[.string ByteArray.empty, .slice none 0 0, .slice none 0 0, .bool false]) ∧ Gr w w' := by
  have hp1 : 1 ≤ p := by omega
  have hp2 : p < n := by omega
  obtain ⟨b1, off1, ho1, hc1⟩ := h.cells
  have Hc1 := Lib.hid hc1
  have Ho1 := Lib.hid (fun q => (ho1 q).1)
  have H1 := Lib.hid h
  have hn1 := h.cap_le
  have hm1 := h.cap_max
  unfold maxLen at hm1
  clear hc1 ho1 h
  have a1 := (Hc1.out p hp2).1
  have a2 := (Hc1.out (p - 1) (by omega)).1
  have s1 := (H1.out.sizes p hp2).1
  have s2 := (H1.out.sizes (p - 1) (by omega)).1
  have hI1 := run_row cap Ho1.out hp2
  have hI2 := fun w => run_rowI cap Ho1.out (k := (p : Int) - 1) (by omega) (by omega) w
  have e1 : ((p : Int) - 1).toNat = p - 1 := by omega
  rw [e1] at hI2
  have hpe := Lib.hid (show ((n : Int) / 2) = (p : Int) by omega)
  have Hp := Lib.hid hp
  clear hp
  have hB := Lib.hid (fun w => refBetween_no (kAt l (p - 1)) (kAt l p) w s2 s1 hc)
  clear hc
  go_enter Try.func22, Try.ntmps22
  go_wp2_with fail
  rw [hpe.out]
  go_big_quiet ((go_at_call 31; (first | (with_reducible exact quiet_dr1 (hB.out _)) | (with_reducible exact quiet_dr0 (hB.out _)))))
  go_wp2_with fail
  ((try simp only [Exit.inBlock, Exit.then]); refine bodyPost_ret (results_tmp4 rfl _ _ _) rfl ?_)
  exact ⟨rfl, by repeat (first | with_reducible exact Gr.refl _ | with_reducible refine Gr.drewN ?_ _ | with_reducible refine Gr.drew ?_ | with_reducible refine Gr.alloc ?_ _ | with_reducible refine Gr.setCell ?_ ?_ _ | (with_reducible refine Gr.trans ?_ (by assumption)) | omega | (dsimp only; omega))⟩

set_option maxRecDepth 100000 in
set_option maxHeartbeats 1000000 in
theorem refHalve_yes (oa : Option Addr) (n cap p : Nat) (l : List Rw) (w : World) (h : RowsAt w oa n cap l) (hn : 2 ≤ n) (hn2 : n ≤ 1000000) (hp : p = n / 2) (hc : Str.before (Tx (kAt l (p - 1))) (Tx (kAt l p)) = true) :
    Calls Try.prog 22 #[.slice oa n cap] w fun e w' => e = .returned (.tuple #[.string (btw (kAt l (p - 1)) (kAt l p)), .slice oa p cap, .slice (tailA oa p cap) (n - p) (cap - p), .bool true]) ∧ Gr w w' := by
  have hp1 : 1 ≤ p := by omega
  have hp2 : p < n := by omega
  obtain ⟨b1, off1, ho1, hc1⟩ := h.cells
  have Hc1 := Lib.hid hc1
  have Ho1 := Lib.hid (fun q => (ho1 q).1)
  have H1 := Lib.hid h
  have hn1 := h.cap_le
  have hm1 := h.cap_max
  unfold maxLen at hm1
  clear hc1 ho1 h
  have a1 := (Hc1.out p hp2).1
  have a2 := (Hc1.out (p - 1) (by omega)).1
  have s1 := (H1.out.sizes p hp2).1
  have s2 := (H1.out.sizes (p - 1) (by omega)).1
  have hI1 := run_row cap Ho1.out hp2
  have hI2 := fun w => run_rowI cap Ho1.out (k := (p : Int) - 1) (by omega) (by omega) w
  have e1 : ((p : Int) - 1).toNat = p - 1 := by omega
  rw [e1] at hI2
  have hpe := Lib.hid (show ((n : Int) / 2) = (p : Int) by omega)
  have Hp := Lib.hid hp
  clear hp
  have hB := Lib.hid (fun w => refBetween_yes (kAt l (p - 1)) (kAt l p) w s2 s1 hc)
  clear hc
  have t1 := run_head oa n cap p (by omega)
  have t2 := run_tail oa n cap p (by omega)
  generalize btw (kAt l (p - 1)) (kAt l p) = key at *
  go_enter Try.func22, Try.ntmps22
  go_wp2_with fail
  rw [hpe.out]
  go_big_quiet ((go_at_call 31; (first | (with_reducible exact quiet_dr1 (hB.out _)) | (with_reducible exact quiet_dr0 (hB.out _)))))
  clear a1 a2 hI1 hI2
  go_wp2_with fail
  go_big_quiet (fail)
  go_wp2_with fail
  ((try simp only [Exit.inBlock, Exit.then]); refine bodyPost_ret (results_tmp4 rfl _ _ _) rfl ?_)
  exact ⟨rfl, by repeat (first | with_reducible exact Gr.refl _ | with_reducible refine Gr.drewN ?_ _ | with_reducible refine Gr.drew ?_ | with_reducible refine Gr.alloc ?_ _ | with_reducible refine Gr.setCell ?_ ?_ _ | (with_reducible refine Gr.trans ?_ (by assumption)) | omega | (dsimp only; omega))⟩
end Go.Proofs.Ytidfelbaegaphaa

namespace Go.Proofs.Ytidfelbaegaphaa
set_option linter.unusedVariables false
set_option linter.unusedSimpArgs false
open Go.BigFrame Go.RowKit Go.WideShapes

/-! Two that are the same: views, records. -/
set_option maxRecDepth 100000 in
set_option maxHeartbeats 2000000 in
theorem same7_any (v : Vw) (oa : Option Addr) (n cap : Nat) (ob : Option Addr) (m cap2 : Nat) (w : World) (h : RowsAt w oa n cap v.rows) (k : RowsAt w ob m cap2 v.rows) :
    Calls Try.prog 17 #[vwV v oa n cap, vwV v ob m cap2] w fun e w' => e = .returned (.bool true) ∧ Gr w w' := by
  have s1 := size_alloc1
  have B0 : Bx ((w.alloc (.cells (vL v oa n cap).toArray 24)).alloc (.cells (vL v ob m cap2).toArray 24)) w.heap.size (vL v oa n cap) := ((Bx.new w _ _ rfl).keep ((Gr.refl _).alloc _)).of (by simp)
  have Z0 : Bx ((w.alloc (.cells (vL v oa n cap).toArray 24)).alloc (.cells (vL v ob m cap2).toArray 24)) (w.heap.size + 1) (vL v ob m cap2) := (Bx.new (w.alloc _) _ _ (by rw [s1])).of (by simp)
  have hg0 : Gr w ((w.alloc (.cells (vL v oa n cap).toArray 24)).alloc (.cells (vL v ob m cap2).toArray 24)) := ((Gr.refl _).alloc _).alloc _
  obtain rfl : n = m := h.len.symm.trans k.len
  have hS := Lib.hid (refSame_any oa ob n cap n cap2 v.rows v.rows _ (h.keep hg0) (k.keep hg0))
  clear h k
  go_enter Try.func17, Try.ntmps17
  go_upto_region 1 with fail
  generalize (w.alloc (.cells (vL v oa n cap).toArray 24)).alloc (.cells (vL v ob n cap2).toArray 24) = W at *
  generalize w.heap.size = BX at *
  have v0 := B0.cell 0 rfl
  have v1 := B0.cell 1 rfl
  have v2 := B0.cell 2 rfl
  have v3 := B0.cell 3 rfl
  have v4 := B0.cell 4 rfl
  have v5 := B0.cell 5 rfl
  have z0 := Z0.cell 0 rfl
  have z1 := Z0.cell 1 rfl
  have z2 := Z0.cell 2 rfl
  have z3 := Z0.cell 3 rfl
  have z4 := Z0.cell 4 rfl
  have z5 := Z0.cell 5 rfl
  have e1 : (v.unb == v.unb) = true := by cases v.unb <;> rfl
  have e2 : (v.gone == v.gone) = true := by cases v.gone <;> rfl
  go_wp2_with (go_at_call 25; (with_reducible refine hS.out.mono ?_); rintro e w1 ⟨rfl, hd⟩; rw [show decide (v.rows = v.rows) = true from decide_eq_true rfl])
  all_goals
    go_ret
    exact ⟨rfl, hg0.trans hd.gr⟩
theorem EntsAt.get {w : World} {oa : Option Addr} {n cap : Nat} {l : List En} (h : EntsAt w oa n cap l) :
    ∃ b off, (0 < n → oa = some ⟨b, off, none⟩) ∧ ∀ (i : Nat) (x : En), l[i]? = some x → w.cell? ⟨b, off + i * 2, none⟩ = some (.string x.key) ∧ w.cell? ⟨b, off + i * 2 + 1, none⟩ = some (.int .i64 x.page) := by
  obtain ⟨b, off, h1, h2⟩ := h.cells
  refine ⟨b, off, fun q => (h1 q).1, fun i x hi => ?_⟩
  obtain ⟨vs, -, -, ⟨rfl, -⟩, h6⟩ := h2 i x hi
  exact ⟨h6 0 _ rfl, h6 1 _ rfl⟩
theorem cells_entS : Try.prog.cellsOf 69 = 2 := by kernel_rfl
theorem run_ent {oa : Option Addr} {n b off : Nat} (cap : Nat) (ho : 0 < n → oa = some ⟨b, off, none⟩) {k : Nat} (hk : k < n) (w : World) :
    (Instr.indexAt 29 (.slice oa n cap) (.int .i64 (k : Int))).run Try.prog w = .ok (.pointer (some ⟨b, off + k * 2, none⟩)) w := by
  rw [ho (by omega)]
  go_simp
set_option maxRecDepth 100000 in
set_option maxHeartbeats 4000000 in
theorem recSame_any (y : Ry) (oa : Option Addr) (n cap : Nat) (ob : Option Addr) (m cap2 : Nat) (oc : Option Addr) (n' cap3 : Nat) (od : Option Addr) (m' cap4 : Nat) (w : World)
    (h1 : RowsAt w oa n cap y.x.r.rows) (h2 : EntsAt w ob m cap2 y.ents) (h3 : RowsAt w oc n' cap3 y.x.r.rows) (h4 : EntsAt w od m' cap4 y.ents) :
    Calls Try.prog 14 #[rxV y.x oa n cap ob m cap2, rxV y.x oc n' cap3 od m' cap4] w fun e w' => e = .returned (.bool true) ∧ Gr w w' := by
  have s1 := size_alloc1
  have B0 : Bx ((w.alloc (.cells (xL y.x oa n cap ob m cap2).toArray 35)).alloc (.cells (xL y.x oc n' cap3 od m' cap4).toArray 35)) w.heap.size (xL y.x oa n cap ob m cap2) := ((Bx.new w _ _ rfl).keep ((Gr.refl _).alloc _)).of (by simp)
  have Z0 : Bx ((w.alloc (.cells (xL y.x oa n cap ob m cap2).toArray 35)).alloc (.cells (xL y.x oc n' cap3 od m' cap4).toArray 35)) (w.heap.size + 1) (xL y.x oc n' cap3 od m' cap4) := (Bx.new (w.alloc _) _ _ (by rw [s1])).of (by simp)
  have hg0 : Gr w ((w.alloc (.cells (xL y.x oa n cap ob m cap2).toArray 35)).alloc (.cells (xL y.x oc n' cap3 od m' cap4).toArray 35)) := ((Gr.refl _).alloc _).alloc _
  obtain rfl : n = n' := h1.len.symm.trans h3.len
  obtain rfl : m = m' := h2.len.symm.trans h4.len
  have hcm2 := h2.cap_le
  have hcm3 := h2.cap_max
  unfold maxLen at hcm3
  have Hm := Lib.hid h2.len
  obtain ⟨b3, off3, ho3, hc3⟩ := EntsAt.get (SlE.keep EnE_mono h2 hg0)
  obtain ⟨b4, off4, ho4, hc4⟩ := EntsAt.get (SlE.keep EnE_mono h4 hg0)
  have Hc3 := Lib.hid hc3
  have Hc4 := Lib.hid hc4
  have Ho3 := Lib.hid ho3
  have Ho4 := Lib.hid ho4
  have h1 := h1.keep hg0
  have h3 := h3.keep hg0
  clear h2 h4 hc3 hc4 ho3 ho4
  obtain ⟨b1, off1, ho1, hc1⟩ := h1.cells
  have Hc1 := Lib.hid hc1
  have Ho1 := Lib.hid (fun q => (ho1 q).1)
  have H1 := Lib.hid h1
  have hn1 := h1.cap_le
  have hm1 := h1.cap_max
  unfold maxLen at hm1
  clear hc1 ho1 h1
  obtain ⟨b2, off2, ho2, hc2⟩ := h3.cells
  have Hc2 := Lib.hid hc2
  have Ho2 := Lib.hid (fun q => (ho2 q).1)
  have H2 := Lib.hid h3
  have hn2 := h3.cap_le
  have hm2 := h3.cap_max
  unfold maxLen at hm2
  clear hc2 ho2 h3
  go_enter Try.func14, Try.ntmps14
  go_upto_region 1 with fail
  generalize (w.alloc (.cells (xL y.x oa n cap ob m cap2).toArray 35)).alloc (.cells (xL y.x oc n cap3 od m cap4).toArray 35) = W at *
  generalize w.heap.size = BX at *
  have v0 := (B0).cell 0 rfl
  have v1 := (B0).cell 1 rfl
  have v2 := (B0).cell 2 rfl
  have v3 := (B0).cell 3 rfl
  have v4 := (B0).cell 4 rfl
  have v5 := (B0).cell 5 rfl
  have v6 := (B0).cell 6 rfl
  have v7 := (B0).cell 7 rfl
  have v8 := (B0).cell 8 rfl
  have v9 := (B0).cell 9 rfl
  have v10 := (B0).cell 10 rfl
  have v11 := (B0).cell 11 rfl
  have v12 := (B0).cell 12 rfl
  have v13 := (B0).cell 13 rfl
  have v14 := (B0).cell 14 rfl
  have z0 := (Z0).cell 0 rfl
  have z1 := (Z0).cell 1 rfl
  have z2 := (Z0).cell 2 rfl
  have z3 := (Z0).cell 3 rfl
  have z4 := (Z0).cell 4 rfl
  have z5 := (Z0).cell 5 rfl
  have z6 := (Z0).cell 6 rfl
  have z7 := (Z0).cell 7 rfl
  have z8 := (Z0).cell 8 rfl
  have z9 := (Z0).cell 9 rfl
  have z10 := (Z0).cell 10 rfl
  have z11 := (Z0).cell 11 rfl
  have z12 := (Z0).cell 12 rfl
  have z13 := (Z0).cell 13 rfl
  have z14 := (Z0).cell 14 rfl
  go_wp2
  go_loopw [5] (fun i wr => ∃ k : Nat, k ≤ n ∧ i = .int .i64 k ∧ Dr W wr) (fun i _ => n - (intOf i).toNat)
  case atStart => exact ⟨0, Nat.zero_le _, rfl, Dr.refl _⟩
  case round =>
    obtain ⟨k, hk2, rfl, d, rfl⟩ := hrel
    by_cases hlt : k < n
    · have g1 := (Hc1.out k hlt).1
      have g2 := (Hc1.out k hlt).2
      have g3 := (Hc2.out k hlt).1
      have g4 := (Hc2.out k hlt).2
      have hI1 := run_row cap Ho1.out hlt
      have hI2 := run_row cap3 Ho2.out hlt
      go_wp2
      go_big_quiet (fail)
      go_wp2
      go_roundw
      case rel => exact ⟨k + 1, by omega, by go_num, by repeat (first | with_reducible exact Dr.refl _ | with_reducible refine Dr.step ?_ _ | with_reducible refine Dr.drew ?_ | (with_reducible refine Dr.trans ?_ (by assumption)))⟩
      case measure => simp [intOf]; omega
    · obtain rfl : k = n := by omega
      go_wp2
      go_loopw [6] (fun i wr => ∃ j : Nat, j ≤ m ∧ i = .int .i64 j ∧ Dr W wr) (fun i _ => m - (intOf i).toNat)
      case atStart => exact ⟨0, Nat.zero_le _, rfl, by repeat (first | with_reducible exact Dr.refl _ | with_reducible refine Dr.step ?_ _ | with_reducible refine Dr.drew ?_ | (with_reducible refine Dr.trans ?_ (by assumption)))⟩
      case round =>
        obtain ⟨j, hj2, rfl, d2, rfl⟩ := hrel
        by_cases hlt2 : j < m
        · have hx : y.ents[j]? = some (y.ents[j]'(by have := Hm.out; omega)) := List.getElem?_eq_getElem _
          generalize (y.ents[j]'(by have := Hm.out; omega)) = x at hx
          have g1 := (Hc3.out j x hx).1
          have g2 := (Hc3.out j x hx).2
          have g3 := (Hc4.out j x hx).1
          have g4 := (Hc4.out j x hx).2
          have hI1 := run_ent cap2 Ho3.out hlt2
          have hI2 := run_ent cap4 Ho4.out hlt2
          clear hx
          go_wp2
          go_big_quiet (fail)
          go_wp2
          go_roundw
          case rel => exact ⟨j + 1, by omega, by go_num, by repeat (first | with_reducible exact Dr.refl _ | with_reducible refine Dr.step ?_ _ | with_reducible refine Dr.drew ?_ | (with_reducible refine Dr.trans ?_ (by assumption)))⟩
          case measure => simp [intOf]; omega
        · obtain rfl : j = m := by omega
          have e1 : (y.x.r.unb == y.x.r.unb) = true := by cases y.x.r.unb <;> rfl
          have e2 : (y.x.r.unb != y.x.r.unb) = false := by cases y.x.r.unb <;> rfl
          go_wp2
          go_ret
          exact ⟨rfl, hg0.trans (Dr.gr (by repeat (first | with_reducible exact Dr.refl _ | with_reducible refine Dr.step ?_ _ | with_reducible refine Dr.drew ?_ | (with_reducible refine Dr.trans ?_ (by assumption)))))⟩
end Go.Proofs.Ytidfelbaegaphaa

namespace Go.Proofs.Ytidfelbaegaphaa
set_option linter.unusedVariables false
set_option linter.unusedSimpArgs false
open Go.BigFrame Go.RowKit Go.WideShapes

/-! What the law of bases, splits, growths and merges calls besides. -/
set_option maxRecDepth 100000 in
set_option maxHeartbeats 1000000 in
theorem view_any (v : Vw) (oa : Option Addr) (n cap : Nat) (w : World) :
    Calls Try.prog 18 #[vwV v oa n cap] w fun e w' => e = .returned (vwV v oa n cap) ∧ Gr w w' := by
  have s1 := size_alloc1
  have B0 : Bx ((w.alloc (.cells (vL v oa n cap).toArray 27)).alloc (.cells zL.toArray 24)) w.heap.size (vL v oa n cap) := ((Bx.new w _ _ rfl).keep ((Gr.refl _).alloc _)).of (by simp)
  have Z0 : Bx ((w.alloc (.cells (vL v oa n cap).toArray 27)).alloc (.cells zL.toArray 24)) (w.heap.size + 1) zL := (Bx.new (w.alloc _) _ _ (by rw [s1])).of (by simp)
  have hg0 : Gr w ((w.alloc (.cells (vL v oa n cap).toArray 27)).alloc (.cells zL.toArray 24)) := ((Gr.refl _).alloc _).alloc _
  have hsz : ((w.alloc (.cells (vL v oa n cap).toArray 27)).alloc (.cells zL.toArray 24)).heap.size = w.heap.size + 2 := by rw [s1, s1]
  go_enter Try.func18, Try.ntmps18
  go_upto_region 1 with fail
  generalize (w.alloc (.cells (vL v oa n cap).toArray 27)).alloc (.cells zL.toArray 24) = W at *
  generalize hBX : w.heap.size = BX at *
  have v0 := B0.cell 0 rfl
  have v1 := B0.cell 1 rfl
  have v2 := B0.cell 2 rfl
  have v3 := B0.cell 3 rfl
  have v4 := B0.cell 4 rfl
  have v5 := B0.cell 5 rfl
  go_wp2_with ((with_reducible refine wpList_store_box (ty := 24) (Z0) ((vL v oa n cap)) ?_ ?_ ?_ ?_ ?_ ?_); (focus (exact rfl)); (focus (exact ⟨_, _, rfl, rfl, rfl⟩)); (focus (exact rfl)); (focus kernel_rfl); (focus kernel_rfl))
  refine bodyPost_ret ((Z0.setAll (us := vL v oa n cap) rfl).ret1 rfl _ rfl Try.underlying24 rfl (by kernel_rfl)) rfl ?_
  exact ⟨rfl, hg0.setCells (by omega) _ _⟩
set_option maxRecDepth 100000 in
set_option maxHeartbeats 1000000 in
theorem refBase_any (v : Vw) (oa : Option Addr) (n cap : Nat) (w : World) :
    Calls Try.prog 16 #[vwV v oa n cap] w fun e w' => e = .returned (rxV (bRc v) oa n cap none 0 0) ∧ Gr w w' := by
  have s1 := size_alloc1
  have B0 : Bx ((w.alloc (.cells (vL v oa n cap).toArray 24)).alloc (.cells zR.toArray 35)) w.heap.size (vL v oa n cap) := ((Bx.new w _ _ rfl).keep ((Gr.refl _).alloc _)).of (by simp)
  have Z0 : Bx ((w.alloc (.cells (vL v oa n cap).toArray 24)).alloc (.cells zR.toArray 35)) (w.heap.size + 1) zR := (Bx.new (w.alloc _) _ _ (by rw [s1])).of (by simp)
  have hg0 : Gr w ((w.alloc (.cells (vL v oa n cap).toArray 24)).alloc (.cells zR.toArray 35)) := ((Gr.refl _).alloc _).alloc _
  have hsz : ((w.alloc (.cells (vL v oa n cap).toArray 24)).alloc (.cells zR.toArray 35)).heap.size = w.heap.size + 2 := by rw [s1, s1]
  go_enter Try.func16, Try.ntmps16
  go_upto_region 1 with fail
  generalize (w.alloc (.cells (vL v oa n cap).toArray 24)).alloc (.cells zR.toArray 35) = W at *
  generalize hBX : w.heap.size = BX at *
  have v0 := B0.cell 0 rfl
  have v1 := B0.cell 1 rfl
  have v2 := B0.cell 2 rfl
  have v3 := B0.cell 3 rfl
  have v4 := B0.cell 4 rfl
  have v5 := B0.cell 5 rfl
  go_wp2_with ((with_reducible refine wpList_store_box (ty := 35) (Z0) ((xL (bRc v) oa n cap none 0 0)) ?_ ?_ ?_ ?_ ?_ ?_); (focus (exact rfl)); (focus (exact ⟨_, _, rfl, rfl, rfl⟩)); (focus (exact rfl)); (focus kernel_rfl); (focus kernel_rfl))
  refine bodyPost_ret ((Z0.setAll (us := xL (bRc v) oa n cap none 0 0) rfl).ret1 rfl _ rfl Try.underlying35 rfl (by kernel_rfl)) rfl ?_
  exact ⟨rfl, hg0.setCells (by omega) _ _⟩
/-- what puts a leaf behind its left one -/
abbrev mRc (v : Vw) : Rx := ⟨⟨6, ⟨#[]⟩, v.high, v.unb, v.right, v.rows, v.low, ⟨#[]⟩, 0⟩, 0, 0, ⟨#[]⟩, 0, 0⟩
def refMergeV (v : Vw) (oa : Option Addr) (n cap : Nat) : Value := if v.gone = true then .tuple #[rxV (mRc v) oa n cap none 0 0, .bool true] else .tuple #[zRV, .bool false]
set_option maxRecDepth 100000 in
set_option maxHeartbeats 1000000 in
theorem refMerge_any (v : Vw) (oa : Option Addr) (n cap : Nat) (w : World) :
    Calls Try.prog 12 #[vwV v oa n cap] w fun e w' => e = .returned (refMergeV v oa n cap) ∧ Gr w w' := by
  have s1 := size_alloc1
  have B0 : Bx ((w.alloc (.cells (vL v oa n cap).toArray 24)).alloc (.cells zR.toArray 35)) w.heap.size (vL v oa n cap) := ((Bx.new w _ _ rfl).keep ((Gr.refl _).alloc _)).of (by simp)
  have Z0 : Bx ((w.alloc (.cells (vL v oa n cap).toArray 24)).alloc (.cells zR.toArray 35)) (w.heap.size + 1) zR := (Bx.new (w.alloc _) _ _ (by rw [s1])).of (by simp)
  have hg0 : Gr w ((w.alloc (.cells (vL v oa n cap).toArray 24)).alloc (.cells zR.toArray 35)) := ((Gr.refl _).alloc _).alloc _
  have hsz : ((w.alloc (.cells (vL v oa n cap).toArray 24)).alloc (.cells zR.toArray 35)).heap.size = w.heap.size + 2 := by rw [s1, s1]
  go_enter Try.func12, Try.ntmps12
  go_upto_region 1 with fail
  generalize (w.alloc (.cells (vL v oa n cap).toArray 24)).alloc (.cells zR.toArray 35) = W at *
  generalize hBX : w.heap.size = BX at *
  have v0 := B0.cell 0 rfl
  have v1 := B0.cell 1 rfl
  have v2 := B0.cell 2 rfl
  have v3 := B0.cell 3 rfl
  have v4 := B0.cell 4 rfl
  have v5 := B0.cell 5 rfl
  cases hgone : v.gone
  · rw [hgone] at v5
    go_wp2_with ((with_reducible refine wpList_store_box (ty := 35) (Z0) (zR) ?_ ?_ ?_ ?_ ?_ ?_); (focus (exact rfl)); (focus (exact ⟨_, _, rfl, rfl, rfl⟩)); (focus (exact rfl)); (focus kernel_rfl); (focus kernel_rfl))
    refine bodyPost_ret ((Z0.setAll (us := zR) rfl).ret2 rfl _ rfl rfl Try.underlying35 rfl (by kernel_rfl)) rfl ?_
    exact ⟨by unfold refMergeV; rw [hgone, if_neg (by decide)]; rfl, hg0.setCells (by omega) _ _⟩
  · rw [hgone] at v5
    go_wp2_with ((with_reducible refine wpList_store_box (ty := 35) (Z0) ((xL (mRc v) oa n cap none 0 0)) ?_ ?_ ?_ ?_ ?_ ?_); (focus (exact rfl)); (focus (exact ⟨_, _, rfl, rfl, rfl⟩)); (focus (exact rfl)); (focus kernel_rfl); (focus kernel_rfl))
    refine bodyPost_ret ((Z0.setAll (us := xL (mRc v) oa n cap none 0 0) rfl).ret2 rfl _ rfl rfl Try.underlying35 rfl (by kernel_rfl)) rfl ?_
    exact ⟨by unfold refMergeV; rw [hgone, if_pos rfl]; rfl, hg0.setCells (by omega) _ _⟩
def MergeTells (w : World) (v : Vw) (e : Ending) (w' : World) : Prop := if v.gone = true then ∃ o m c, e = .returned (.tuple #[rxV (mRc v) o m c none 0 0, .nilIface]) ∧ OwnAt w' w.heap.size o m c v.rows ∧ Gr w w' else e = .returned (.tuple #[zRV, errV 13]) ∧ Gr w w'
set_option maxRecDepth 100000 in
set_option maxHeartbeats 2000000 in
theorem merge7_any (v : Vw) (oa : Option Addr) (n cap : Nat) (w : World) (h : RowsAt w oa n cap v.rows) (hn : n ≤ 1000000) :
    Calls Try.prog 11 #[vwV v oa n cap] w (MergeTells w v) := by
  have s1 := size_alloc1
  have B0 : Bx ((w.alloc (.cells (vL v oa n cap).toArray 27)).alloc (.cells zR.toArray 35)) w.heap.size (vL v oa n cap) := ((Bx.new w _ _ rfl).keep ((Gr.refl _).alloc _)).of (by simp)
  have Z0 : Bx ((w.alloc (.cells (vL v oa n cap).toArray 27)).alloc (.cells zR.toArray 35)) (w.heap.size + 1) zR := (Bx.new (w.alloc _) _ _ (by rw [s1])).of (by simp)
  have hg0 : Gr w ((w.alloc (.cells (vL v oa n cap).toArray 27)).alloc (.cells zR.toArray 35)) := ((Gr.refl _).alloc _).alloc _
  have hsz : ((w.alloc (.cells (vL v oa n cap).toArray 27)).alloc (.cells zR.toArray 35)).heap.size = w.heap.size + 2 := by rw [s1, s1]
  go_enter Try.func11, Try.ntmps11
  go_upto_region 1 with fail
  generalize (w.alloc (.cells (vL v oa n cap).toArray 27)).alloc (.cells zR.toArray 35) = W at *
  have Hsz := Lib.hid hsz
  clear hsz s1
  generalize hBX : w.heap.size = BX at *
  have hRW := Lib.hid fun w1 (hq : Gr W w1) => h.keep (hg0.trans hq)
  clear h
  have v0 := B0.cell 0 rfl
  have v1 := B0.cell 1 rfl
  have v2 := B0.cell 2 rfl
  have v3 := B0.cell 3 rfl
  have v4 := B0.cell 4 rfl
  have v5 := B0.cell 5 rfl
  cases hgone : v.gone
  · rw [hgone] at v5
    go_wp2_with ((with_reducible refine wpList_store_box (ty := 35) (Z0) (zR) ?_ ?_ ?_ ?_ ?_ ?_); (focus (exact rfl)); (focus (exact ⟨_, _, rfl, rfl, rfl⟩)); (focus (exact rfl)); (focus kernel_rfl); (focus kernel_rfl))
    refine bodyPost_ret ((Z0.setAll (us := zR) rfl).ret2 rfl _ rfl rfl Try.underlying35 rfl (by kernel_rfl)) rfl ?_
    unfold MergeTells
    rw [hgone, if_neg (by decide)]
    exact ⟨rfl, hg0.setCells (by omega) _ _⟩
  · rw [hgone] at v5
    go_upto_region 3 with fail
    go_cut [3] (fun s3 wx => s3 = .nilIface ∧ ∃ (o : Option Addr) (m c : Nat), Bx wx (BX + 1) (xL (mRc v) o m c none 0 0) ∧ OwnAt wx BX o m c v.rows ∧ Gr w wx)
    case first =>
      have hsz := Hsz.out
      go_region_held3 (fun W' => W'.cell? ⟨BX, 0, none⟩ = some (.string v.low) ∧ W'.cell? ⟨BX, 1, none⟩ = some (.string v.high) ∧ W'.cell? ⟨BX, 2, none⟩ = some (.bool v.unb) ∧ W'.cell? ⟨BX, 3, none⟩ = some (.int .i64 v.right) ∧ W'.cell? ⟨BX, 4, none⟩ = some (.slice oa n cap))
        ((go_split_ands; (repeat' apply And.intro) <;> first | with_reducible assumption | (with_reducible refine Gr.keep hg3 ?_; with_reducible assumption) | ((repeat (first | with_reducible refine drew1 ?_ | with_reducible refine alloc1 ?_ | with_reducible refine far1 ?_ (by omega))); first | with_reducible assumption | (with_reducible refine Gr.keep hg3 ?_; (repeat (first | with_reducible refine drew1 ?_ | with_reducible refine alloc1 ?_)); with_reducible assumption)))) (first | (go_at_call 23; (with_reducible refine (copy_any _ _ _ _ _ (hRW.out _ ?_) ?_).mono ?_); (focus ((repeat (first | with_reducible exact Gr.refl _ | with_reducible refine Gr.drewN ?_ _ | with_reducible refine Gr.drew ?_ | with_reducible refine Gr.alloc ?_ _ | with_reducible refine Gr.setCell ?_ ?_ _ | (with_reducible refine Gr.trans ?_ (by assumption)) | omega | (dsimp only; omega))); done)); (focus (omega; done)); rintro e w3 ⟨o3, m3, c3, rfl, hr3, hg3, base3, hb3, hO3⟩; (have hg9 : Gr W w3 := Gr.trans (by (repeat (first | with_reducible exact Gr.refl _ | with_reducible refine Gr.drewN ?_ _ | with_reducible refine Gr.drew ?_ | with_reducible refine Gr.alloc ?_ _ | with_reducible refine Gr.setCell ?_ ?_ _ | (with_reducible refine Gr.trans ?_ (by assumption)) | omega | (dsimp only; omega)))) hg3); have Z1 := Z0.keep hg9; have hb9 : W.heap.size ≤ base3 := Nat.le_trans (Gr.le (by (repeat (first | with_reducible exact Gr.refl _ | with_reducible refine Gr.drewN ?_ _ | with_reducible refine Gr.drew ?_ | with_reducible refine Gr.alloc ?_ _ | with_reducible refine Gr.setCell ?_ ?_ _ | (with_reducible refine Gr.trans ?_ (by assumption)) | omega | (dsimp only; omega))))) hb3; have q0 := (Z1).cell 0 rfl; have q1 := (Z1).cell 1 rfl; have q2 := (Z1).cell 2 rfl; have q3 := (Z1).cell 3 rfl; have q4 := (Z1).cell 4 rfl; have q5 := (Z1).cell 5 rfl; have q6 := (Z1).cell 6 rfl; have q7 := (Z1).cell 7 rfl; have q8 := (Z1).cell 8 rfl; have q9 := (Z1).cell 9 rfl; have q10 := (Z1).cell 10 rfl; have q11 := (Z1).cell 11 rfl; have q12 := (Z1).cell 12 rfl; have q13 := (Z1).cell 13 rfl; have q14 := (Z1).cell 14 rfl; have p0 := (Z1).free 0 (by simp); have p1 := (Z1).free 1 (by simp); have p2 := (Z1).free 2 (by simp); have p3 := (Z1).free 3 (by simp); have p4 := (Z1).free 4 (by simp); have p5 := (Z1).free 5 (by simp); have p6 := (Z1).free 6 (by simp); have p7 := (Z1).free 7 (by simp); have p8 := (Z1).free 8 (by simp); have p9 := (Z1).free 9 (by simp); have p10 := (Z1).free 10 (by simp); have p11 := (Z1).free 11 (by simp); have p12 := (Z1).free 12 (by simp); have p13 := (Z1).free 13 (by simp); have p14 := (Z1).free 14 (by simp)))
      all_goals (go_wp2_with fail; go_meet; with_reducible exact ⟨rfl, o3, m3, c3, base_end Z1 hO3 (by omega) (by omega) (hg0.trans hg9) (by omega) _ _ _ _ _ _ _ _ _ _ _ _ _ _ _ (by simp)⟩)
    case rest =>
      obtain ⟨rfl, o, m, c, B1, hO1, hg1⟩ := hcut
      have HO1 := Lib.hid hO1
      clear hO1
      go_wp2_with fail
      refine bodyPost_ret (B1.ret2 rfl _ rfl rfl Try.underlying35 rfl (by kernel_rfl)) rfl ?_
      unfold MergeTells
      rw [hgone, if_pos rfl]
      exact ⟨o, m, c, rfl, by rw [hBX]; exact HO1.out, hg1⟩
theorem refHalve_any (oa : Option Addr) (n cap : Nat) (l : List Rw) (w : World) (h : RowsAt w oa n cap l) (hn : n ≤ 1000000) :
    Calls Try.prog 22 #[.slice oa n cap] w fun e w' => (match (hvK l).1 with
      | some key => e = .returned (.tuple #[.string key, .slice oa (n / 2) cap, .slice (tailA oa (n / 2) cap) (n - n / 2) (cap - n / 2), .bool true])
      | none => e = .returned (.tuple #[.string ⟨#[]⟩, .slice none 0 0, .slice none 0 0, .bool false])) ∧ Gr w w' := by
  have hl := h.len
  unfold hvK
  by_cases h2 : n < 2
  · refine (refHalve_few oa n cap w h2).mono fun e w' q => ?_
    rw [if_pos (by omega)]
    exact q
  · rw [if_neg (by omega)]
    by_cases hc : Str.cmp (Tx (kAt l (n / 2 - 1))) (Tx (kAt l (n / 2))) < 0
    · refine (refHalve_yes oa n cap (n / 2) l w h (by omega) hn rfl (Str.cmp_neg_iff.1 hc)).mono fun e w' q => ?_
      rw [hl, if_pos hc]
      exact q
    · refine (refHalve_no oa n cap (n / 2) l w h (by omega) hn rfl (fun z => hc (Str.cmp_neg_iff.2 z))).mono fun e w' q => ?_
      rw [hl, if_neg hc]
      exact q
end Go.Proofs.Ytidfelbaegaphaa

namespace Go.Proofs.Ytidfelbaegaphaa
set_option linter.unusedVariables false
set_option linter.unusedSimpArgs false
open Go.BigFrame Go.RowKit Go.WideShapes

def refSplitV (v : Vw) (page : Int) (oa : Option Addr) (n cap : Nat) : Value :=
  match (hvV v).1 with
  | some key => .tuple #[rxV (sRc key page) none 0 0 none 0 0, rxV (bRc (hvB v key)) (tailA oa (n / 2) cap) (n - n / 2) (cap - n / 2) none 0 0, .bool true]
  | none => .tuple #[zRV, zRV, .bool false]
set_option maxRecDepth 100000 in
set_option maxHeartbeats 2000000 in
theorem refSplit_any (v : Vw) (page : Int) (oa : Option Addr) (n cap : Nat) (w : World) (h : RowsAt w oa n cap v.rows) (hn : n ≤ 1000000) :
    Calls Try.prog 8 #[vwV v oa n cap, .int .i64 page] w fun e w' => e = .returned (refSplitV v page oa n cap) ∧ Gr w w' := by
  have s1 := size_alloc1
  have B0 : Bx (((w.alloc (.cells (vL v oa n cap).toArray 24)).alloc (.cells zR.toArray 35)).alloc (.cells zR.toArray 35)) w.heap.size (vL v oa n cap) := (((Bx.new w _ _ rfl).keep ((Gr.refl _).alloc _)).keep ((Gr.refl _).alloc _)).of (by simp)
  have Z0 : Bx (((w.alloc (.cells (vL v oa n cap).toArray 24)).alloc (.cells zR.toArray 35)).alloc (.cells zR.toArray 35)) (w.heap.size + 1) zR := ((Bx.new (w.alloc _) _ _ (by rw [s1])).keep ((Gr.refl _).alloc _)).of (by simp)
  have Y0 : Bx (((w.alloc (.cells (vL v oa n cap).toArray 24)).alloc (.cells zR.toArray 35)).alloc (.cells zR.toArray 35)) (w.heap.size + 2) zR := (Bx.new ((w.alloc _).alloc _) _ _ (by rw [s1, s1])).of (by simp)
  have hg0 : Gr w (((w.alloc (.cells (vL v oa n cap).toArray 24)).alloc (.cells zR.toArray 35)).alloc (.cells zR.toArray 35)) := ((((Gr.refl _).alloc _).alloc _).alloc _)
  have hsz : (((w.alloc (.cells (vL v oa n cap).toArray 24)).alloc (.cells zR.toArray 35)).alloc (.cells zR.toArray 35)).heap.size = w.heap.size + 3 := by rw [s1, s1, s1]
  go_enter Try.func8, Try.ntmps8
  go_upto_region 1 with fail
  generalize ((w.alloc (.cells (vL v oa n cap).toArray 24)).alloc (.cells zR.toArray 35)).alloc (.cells zR.toArray 35) = W at *
  have Hsz := Lib.hid hsz
  clear hsz s1
  generalize hBX : w.heap.size = BX at *
  have hH := refHalve_any oa n cap v.rows W (h.keep hg0) hn
  clear h
  have v0 := B0.cell 0 rfl
  have v1 := B0.cell 1 rfl
  have v2 := B0.cell 2 rfl
  have v3 := B0.cell 3 rfl
  have v4 := B0.cell 4 rfl
  have v5 := B0.cell 5 rfl
  have hsz := Hsz.out
  cases hk : (hvK v.rows).1 with
  | none =>
    rw [hk] at hH
    have HH := Lib.hid hH
    have hE : refSplitV v page oa n cap = .tuple #[zRV, zRV, .bool false] := by
      unfold refSplitV hvV
      by_cases hq : v.gone = true
      · rw [if_pos hq]
      · rw [if_neg hq, hk]
    have HE := Lib.hid hE
    clear hH hE hk
    cases hgone : v.gone
    all_goals
      rw [hgone] at v5
      clear hgone
      go_wp2_with (first | (go_at_call 22; (with_reducible refine HH.out.mono ?_); rintro e w3 ⟨rfl, hg3⟩; have v5 := hg3.keep v5; have Z1 := Z0.keep hg3; have Y1 := Y0.keep hg3) | ((with_reducible refine wpList_store_box (ty := 35) (Z1) (zR) ?_ ?_ ?_ ?_ ?_ ?_); (focus (exact rfl)); (focus (exact ⟨_, _, rfl, rfl, rfl⟩)); (focus (exact rfl)); (focus kernel_rfl); (focus kernel_rfl)) | ((with_reducible refine wpList_store_box (ty := 35) ((Y1.others (by omega) _)) (zR) ?_ ?_ ?_ ?_ ?_ ?_); (focus (exact rfl)); (focus (exact ⟨_, _, rfl, rfl, rfl⟩)); (focus (exact rfl)); (focus kernel_rfl); (focus kernel_rfl)))
      have ZZ := (Z1.setAll (us := zR) rfl).others (b' := BX + 2) (by omega) zR
      have YY := (Y1.others (b' := BX + 1) (by omega) zR).setAll (us := zR) rfl
      refine bodyPost_ret (Bx.ret3 ZZ YY rfl _ rfl rfl rfl Try.underlying35 rfl (by kernel_rfl) (by kernel_rfl)) rfl ?_
      rw [HE.out]
      exact ⟨rfl, ((hg0.trans hg3).setCells (by omega) _ _).setCells (by omega) _ _⟩
  | some key =>
    rw [hk] at hH
    have HH := Lib.hid hH
    clear hH
    cases hgone : v.gone
    · have hE : refSplitV v page oa n cap = .tuple #[rxV (sRc key page) none 0 0 none 0 0, rxV (bRc (hvB v key)) (tailA oa (n / 2) cap) (n - n / 2) (cap - n / 2) none 0 0, .bool true] := by
        unfold refSplitV hvV
        rw [hgone, if_neg (by decide), hk]
      have HE := Lib.hid hE
      rw [hgone] at v5
      clear hE hk hgone
      have hB := Lib.hid fun w1 => refBase_any (hvB v key) (tailA oa (n / 2) cap) (n - n / 2) (cap - n / 2) w1
      generalize tailA oa (n / 2) cap = ot at *
      generalize n - n / 2 = nt at *
      generalize cap - n / 2 = ct at *
      go_wp2_with (first | (go_at_call 22; (with_reducible refine HH.out.mono ?_); rintro e w3 ⟨rfl, hg3⟩; have v5 := hg3.keep v5; have v1 := hg3.keep v1; have v2 := hg3.keep v2; have v3 := hg3.keep v3) | (go_at_call 16; (with_reducible refine (hB.out _).mono ?_); rintro e w4 ⟨rfl, hg4⟩; (have hg5 : Gr W w4 := Gr.trans (by (repeat (first | with_reducible exact Gr.refl _ | with_reducible refine Gr.drewN ?_ _ | with_reducible refine Gr.drew ?_ | with_reducible refine Gr.alloc ?_ _ | with_reducible refine Gr.setCell ?_ ?_ _ | (with_reducible refine Gr.trans ?_ (by assumption)) | omega | (dsimp only; omega)))) hg4); have Z1 := Z0.keep hg5; have Y1 := Y0.keep hg5) | ((with_reducible refine wpList_store_box (ty := 35) (Z1) ((xL (sRc key page) none 0 0 none 0 0)) ?_ ?_ ?_ ?_ ?_ ?_); (focus (exact rfl)); (focus (exact ⟨_, _, rfl, rfl, rfl⟩)); (focus (exact rfl)); (focus kernel_rfl); (focus kernel_rfl)) | ((with_reducible refine wpList_store_box (ty := 35) ((Y1.others (by omega) _)) ((xL (bRc (hvB v key)) ot nt ct none 0 0)) ?_ ?_ ?_ ?_ ?_ ?_); (focus (exact rfl)); (focus (exact ⟨_, _, rfl, rfl, rfl⟩)); (focus (exact rfl)); (focus kernel_rfl); (focus kernel_rfl)))
      have ZZ := (Z1.setAll (us := xL (sRc key page) none 0 0 none 0 0) rfl).others (b' := BX + 2) (by omega) (xL (bRc (hvB v key)) ot nt ct none 0 0)
      have YY := (Y1.others (b' := BX + 1) (by omega) (xL (sRc key page) none 0 0 none 0 0)).setAll (us := xL (bRc (hvB v key)) ot nt ct none 0 0) rfl
      refine bodyPost_ret (Bx.ret3 ZZ YY rfl _ rfl rfl rfl Try.underlying35 rfl (by kernel_rfl) (by kernel_rfl)) rfl ?_
      rw [HE.out]
      exact ⟨rfl, ((hg0.trans hg5).setCells (by omega) _ _).setCells (by omega) _ _⟩
    · have hE : refSplitV v page oa n cap = .tuple #[zRV, zRV, .bool false] := by
        unfold refSplitV hvV
        rw [hgone, if_pos rfl]
      have HE := Lib.hid hE
      rw [hgone] at v5
      clear hE hk hgone
      go_wp2_with (first | (go_at_call 22; (with_reducible refine HH.out.mono ?_); rintro e w3 ⟨rfl, hg3⟩; have v5 := hg3.keep v5; have Z1 := Z0.keep hg3; have Y1 := Y0.keep hg3) | ((with_reducible refine wpList_store_box (ty := 35) (Z1) (zR) ?_ ?_ ?_ ?_ ?_ ?_); (focus (exact rfl)); (focus (exact ⟨_, _, rfl, rfl, rfl⟩)); (focus (exact rfl)); (focus kernel_rfl); (focus kernel_rfl)) | ((with_reducible refine wpList_store_box (ty := 35) ((Y1.others (by omega) _)) (zR) ?_ ?_ ?_ ?_ ?_ ?_); (focus (exact rfl)); (focus (exact ⟨_, _, rfl, rfl, rfl⟩)); (focus (exact rfl)); (focus kernel_rfl); (focus kernel_rfl)))
      have ZZ := (Z1.setAll (us := zR) rfl).others (b' := BX + 2) (by omega) zR
      have YY := (Y1.others (b' := BX + 1) (by omega) zR).setAll (us := zR) rfl
      refine bodyPost_ret (Bx.ret3 ZZ YY rfl _ rfl rfl rfl Try.underlying35 rfl (by kernel_rfl) (by kernel_rfl)) rfl ?_
      rw [HE.out]
      exact ⟨rfl, ((hg0.trans hg3).setCells (by omega) _ _).setCells (by omega) _ _⟩
end Go.Proofs.Ytidfelbaegaphaa
