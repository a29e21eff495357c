import Derived.Test.YtidfelbaegaphaaDoorFp2
import Derived.Test.YtidfelbaegaphaaDoorCl7
import Derived.Test.YtidfelbaegaphaaDoorHt
namespace Go.Proofs.YtidfelbaegaphaaDoor
set_option linter.unusedVariables false
set_option linter.unusedSimpArgs false
open Go.BigFrame Go.RowKit Go.WideShapes

/-! A base, a leaf's halves, a split. -/
/-- a view's base -/
abbrev bRc (v : Vw) : Rx := ⟨⟨1, v.low, v.high, v.unb, v.right, v.rows, ⟨#[]⟩, ⟨#[]⟩, 0⟩, 0, 0, ⟨#[]⟩, 0, 0⟩
abbrev chain15 (W3 : World) (b : Nat) (a0 a1 a2 a3 a4 a5 a6 a7 a8 a9 a10 a11 a12 a13 a14 : Value) : World := ((((((((((((((W3.setCell ⟨b, 0, none⟩ a0).setCell ⟨b, 1, none⟩ a1).setCell ⟨b, 2, none⟩ a2).setCell ⟨b, 3, none⟩ a3).setCell ⟨b, 4, none⟩ a4).setCell ⟨b, 5, none⟩ a5).setCell ⟨b, 6, none⟩ a6).setCell ⟨b, 7, none⟩ a7).setCell ⟨b, 8, none⟩ a8).setCell ⟨b, 9, none⟩ a9).setCell ⟨b, 10, none⟩ a10).setCell ⟨b, 11, none⟩ a11).setCell ⟨b, 12, none⟩ a12).setCell ⟨b, 13, none⟩ a13).setCell ⟨b, 14, none⟩ a14
theorem box15 {W3 : World} {b : Nat} {zs : List Value} (hz : Bx W3 b zs) (hl : zs.length = 15) (a0 a1 a2 a3 a4 a5 a6 a7 a8 a9 a10 a11 a12 a13 a14 : Value) : Bx (chain15 W3 b a0 a1 a2 a3 a4 a5 a6 a7 a8 a9 a10 a11 a12 a13 a14) b [a0, a1, a2, a3, a4, a5, a6, a7, a8, a9, a10, a11, a12, a13, a14] :=
  show Bx (W3.setCells b 0 [a0, a1, a2, a3, a4, a5, a6, a7, a8, a9, a10, a11, a12, a13, a14]) b _ from hz.setAll (by rw [hl]; rfl)
theorem gr15 {w W3 : World} {b : Nat} (hg : Gr w W3) (hb : w.heap.size ≤ b) (a0 a1 a2 a3 a4 a5 a6 a7 a8 a9 a10 a11 a12 a13 a14 : Value) : Gr w (chain15 W3 b a0 a1 a2 a3 a4 a5 a6 a7 a8 a9 a10 a11 a12 a13 a14) :=
  show Gr w (W3.setCells b 0 [a0, a1, a2, a3, a4, a5, a6, a7, a8, a9, a10, a11, a12, a13, a14]) from hg.setCells hb _ _
theorem own15 {W3 : World} {b base : Nat} {o : Option Addr} {n c : Nat} {l : List Rw} (h : OwnAt W3 base o n c l) (hb : Value.ownBlock (.slice o n c) ≠ some b) (a0 a1 a2 a3 a4 a5 a6 a7 a8 a9 a10 a11 a12 a13 a14 : Value) : OwnAt (chain15 W3 b a0 a1 a2 a3 a4 a5 a6 a7 a8 a9 a10 a11 a12 a13 a14) base o n c l :=
  show OwnAt (W3.setCells b 0 [a0, a1, a2, a3, a4, a5, a6, a7, a8, a9, a10, a11, a12, a13, a14]) base o n c l from h.setOther hb _ _

theorem base_end {w w3 : World} {b BX base3 : Nat} {zs : List Value} (hz : Bx w3 b zs) {o : Option Addr} {n c : Nat} {l : List Rw} (hO : OwnAt w3 base3 o n c l) (h1 : BX ≤ base3) (h2 : b < base3) (hg : Gr w w3) (hb : w.heap.size ≤ b) (a0 a1 a2 a3 a4 a5 a6 a7 a8 a9 a10 a11 a12 a13 a14 : Value) (hl : zs.length = 15) :
    Bx (chain15 w3 b a0 a1 a2 a3 a4 a5 a6 a7 a8 a9 a10 a11 a12 a13 a14) b [a0, a1, a2, a3, a4, a5, a6, a7, a8, a9, a10, a11, a12, a13, a14] ∧ OwnAt (chain15 w3 b a0 a1 a2 a3 a4 a5 a6 a7 a8 a9 a10 a11 a12 a13 a14) BX o n c l ∧ Gr w (chain15 w3 b a0 a1 a2 a3 a4 a5 a6 a7 a8 a9 a10 a11 a12 a13 a14) :=
  ⟨box15 hz hl _ _ _ _ _ _ _ _ _ _ _ _ _ _ _, own15 (hO.lower2 h1) (fun q => by have := (hO.own.lt _ q).1; omega) _ _ _ _ _ _ _ _ _ _ _ _ _ _ _, gr15 hg hb _ _ _ _ _ _ _ _ _ _ _ _ _ _ _⟩
set_option maxRecDepth 100000 in
set_option maxHeartbeats 2000000 in
theorem base_any (v : Vw) (oa : Option Addr) (n cap : Nat) (w : World) (h : RowsAt w oa n cap v.rows) (hn : n ≤ 1000000) :
    Calls Tryd.prog 19 #[vwV v oa n cap] w fun e w' => ∃ o m c, e = .returned (rxV (bRc v) o m c none 0 0) ∧ OwnAt w' w.heap.size o m c v.rows ∧ Gr w w' := by
  have s1 := size_alloc1
  have B0 : Bx ((w.alloc (.cells (vL v oa n cap).toArray 28)).alloc (.cells zR.toArray 49)) w.heap.size (vL v oa n cap) := ((Bx.new w _ _ rfl).keep ((Gr.refl _).alloc _)).of (by simp)
  have Z0 : Bx ((w.alloc (.cells (vL v oa n cap).toArray 28)).alloc (.cells zR.toArray 49)) (w.heap.size + 1) zR := (Bx.new (w.alloc _) _ _ (by rw [s1])).of (by simp)
  have hg0 : Gr w ((w.alloc (.cells (vL v oa n cap).toArray 28)).alloc (.cells zR.toArray 49)) := ((Gr.refl _).alloc _).alloc _
  have hsz : ((w.alloc (.cells (vL v oa n cap).toArray 28)).alloc (.cells zR.toArray 49)).heap.size = w.heap.size + 2 := by rw [s1, s1]
  go_enter Tryd.func19, Tryd.ntmps19
  go_upto_region 1 with fail
  generalize (w.alloc (.cells (vL v oa n cap).toArray 28)).alloc (.cells zR.toArray 49) = W at *
  have Hsz := Lib.hid hsz
  clear hsz s1
  generalize hBX : w.heap.size = BX at *
  have hRW := Lib.hid fun w1 (hq : Gr W w1) => h.keep (hg0.trans hq)
  clear h
  have v0 := B0.cell 0 rfl
  have v1 := B0.cell 1 rfl
  have v2 := B0.cell 2 rfl
  have v3 := B0.cell 3 rfl
  have v4 := B0.cell 4 rfl
  go_cut [] (fun wx => ∃ (o : Option Addr) (m c : Nat), Bx wx (BX + 1) (xL (bRc v) o m c none 0 0) ∧ OwnAt wx BX o m c v.rows ∧ Gr w wx)
  case first =>
    go_region_held3 (fun W' => W'.cell? ⟨BX, 0, none⟩ = some (.string v.low) ∧ W'.cell? ⟨BX, 1, none⟩ = some (.string v.high) ∧ W'.cell? ⟨BX, 2, none⟩ = some (.bool v.unb) ∧ W'.cell? ⟨BX, 3, none⟩ = some (.int .i64 v.right) ∧ W'.cell? ⟨BX, 4, none⟩ = some (.slice oa n cap))
      ((go_split_ands; (repeat' apply And.intro) <;> first | with_reducible assumption | (with_reducible refine Gr.keep hg3 ?_; with_reducible assumption) | ((repeat (first | with_reducible refine drew1 ?_ | with_reducible refine alloc1 ?_ | with_reducible refine far1 ?_ (by omega))); first | with_reducible assumption | (with_reducible refine Gr.keep hg3 ?_; (repeat (first | with_reducible refine drew1 ?_ | with_reducible refine alloc1 ?_)); with_reducible assumption)))) (first | (go_at_call 21; (with_reducible refine (copy_any _ _ _ _ _ (hRW.out _ ?_) ?_).mono ?_); (focus ((repeat (first | with_reducible exact Gr.refl _ | with_reducible refine Gr.drewN ?_ _ | with_reducible refine Gr.drew ?_ | with_reducible refine Gr.alloc ?_ _ | with_reducible refine Gr.setCell ?_ ?_ _ | (with_reducible refine Gr.trans ?_ (by assumption)) | omega | (dsimp only; omega))); done)); (focus (omega; done)); rintro e w3 ⟨o3, m3, c3, rfl, hr3, hg3, base3, hb3, hO3⟩; (have hg9 : Gr W w3 := Gr.trans (by (repeat (first | with_reducible exact Gr.refl _ | with_reducible refine Gr.drewN ?_ _ | with_reducible refine Gr.drew ?_ | with_reducible refine Gr.alloc ?_ _ | with_reducible refine Gr.setCell ?_ ?_ _ | (with_reducible refine Gr.trans ?_ (by assumption)) | omega | (dsimp only; omega)))) hg3); have Z1 := Z0.keep hg9; have hb9 : W.heap.size ≤ base3 := Nat.le_trans (Gr.le (by (repeat (first | with_reducible exact Gr.refl _ | with_reducible refine Gr.drewN ?_ _ | with_reducible refine Gr.drew ?_ | with_reducible refine Gr.alloc ?_ _ | with_reducible refine Gr.setCell ?_ ?_ _ | (with_reducible refine Gr.trans ?_ (by assumption)) | omega | (dsimp only; omega))))) hb3; have q0 := (Z1).cell 0 rfl; have q1 := (Z1).cell 1 rfl; have q2 := (Z1).cell 2 rfl; have q3 := (Z1).cell 3 rfl; have q4 := (Z1).cell 4 rfl; have q5 := (Z1).cell 5 rfl; have q6 := (Z1).cell 6 rfl; have q7 := (Z1).cell 7 rfl; have q8 := (Z1).cell 8 rfl; have q9 := (Z1).cell 9 rfl; have q10 := (Z1).cell 10 rfl; have q11 := (Z1).cell 11 rfl; have q12 := (Z1).cell 12 rfl; have q13 := (Z1).cell 13 rfl; have q14 := (Z1).cell 14 rfl; have p0 := (Z1).free 0 (by simp); have p1 := (Z1).free 1 (by simp); have p2 := (Z1).free 2 (by simp); have p3 := (Z1).free 3 (by simp); have p4 := (Z1).free 4 (by simp); have p5 := (Z1).free 5 (by simp); have p6 := (Z1).free 6 (by simp); have p7 := (Z1).free 7 (by simp); have p8 := (Z1).free 8 (by simp); have p9 := (Z1).free 9 (by simp); have p10 := (Z1).free 10 (by simp); have p11 := (Z1).free 11 (by simp); have p12 := (Z1).free 12 (by simp); have p13 := (Z1).free 13 (by simp); have p14 := (Z1).free 14 (by simp)))
    have hsz := Hsz.out
    all_goals (go_wp2_with fail; go_meet; with_reducible exact ⟨o3, m3, c3, base_end Z1 hO3 (by omega) (by omega) (hg0.trans hg9) (by omega) _ _ _ _ _ _ _ _ _ _ _ _ _ _ _ (by simp)⟩)
  case rest =>
    obtain ⟨o, m, c, B1, hO1, hg1⟩ := hcut
    have HO1 := Lib.hid hO1
    clear hO1
    go_wp2_with fail
    refine bodyPost_ret (B1.ret1 rfl _ rfl Tryd.underlying49 rfl (by kernel_rfl)) rfl ?_
    exact ⟨o, m, c, rfl, by rw [hBX]; exact HO1.out, hg1⟩

/-- where a leaf's rows part, or why not -/
def hvK (l : List Rw) : Option ByteArray × Int :=
  if l.length < 2 then (none, 2) else if Str.cmp (Tx (kAt l (l.length / 2 - 1))) (Tx (kAt l (l.length / 2))) < 0 then (some (btw (kAt l (l.length / 2 - 1)) (kAt l (l.length / 2))), 0) else (none, 1)
theorem extract_sz (b : ByteArray) (i j : Nat) : (b.extract i j).size ≤ b.size := by
  rw [ByteArray.size_extract]; omega
theorem hvK_size {l : List Rw} {key : ByteArray} (h : (hvK l).1 = some key) (hl : ∀ x ∈ l, x.key.size ≤ maxLen) : key.size ≤ maxLen := by
  unfold hvK at h
  split at h
  · cases h
  · split at h
    · simp only [Option.some.injEq] at h
      subst h
      rename_i q _
      have hi : l.length / 2 < l.length := by omega
      refine Nat.le_trans (extract_sz _ _ _) ?_
      unfold kAt
      rw [rAt_lt hi]
      exact hl _ (List.getElem_mem _)
    · cases h
set_option maxRecDepth 100000 in
set_option maxHeartbeats 1000000 in
theorem halve_yesO (oa : Option Addr) (n cap p : Nat) (l : List Rw) (w : World) (h : RowsAt w oa n cap l) (hn : 2 ≤ n) (hn2 : n ≤ 1000000) (hp : p = n / 2) (hc : Str.cmp (Tx (kAt l (p - 1))) (Tx (kAt l p)) < 0) :
    Calls Tryd.prog 54 #[.slice oa n cap] w fun e w' => ∃ o1 m1 c1 o2 m2 c2, e = .returned (.tuple #[.string (btw (kAt l (p - 1)) (kAt l p)), .slice o1 m1 c1, .slice o2 m2 c2, .nilIface]) ∧ OwnAt w' w.heap.size o1 m1 c1 (l.take p) ∧ OwnAt w' w.heap.size o2 m2 c2 (l.drop p) ∧ Gr w w' := by
  have hp1 : 1 ≤ p := by omega
  have hp2 : p < n := by omega
  have k1 := (h.cells)
  obtain ⟨b1, off1, ho1, hc1⟩ := h.cells
  have Hc1 := Lib.hid hc1
  have Ho1 := Lib.hid (fun q => (ho1 q).1)
  have H1 := Lib.hid h
  have hn1 := h.cap_le
  have hm1 := h.cap_max
  unfold maxLen at hm1
  clear hc1 ho1 h
  have a1 := (Hc1.out p hp2).1
  have a2 := (Hc1.out (p - 1) (by omega)).1
  have s1 := (H1.out.sizes p hp2).1
  have s2 := (H1.out.sizes (p - 1) (by omega)).1
  have hI1 := run_row cap Ho1.out hp2
  have hI2 := fun w => run_rowI cap Ho1.out (k := (p : Int) - 1) (by omega) (by omega) w
  have e1 : ((p : Int) - 1).toNat = p - 1 := by omega
  rw [e1] at hI2
  have hpe := Lib.hid (show ((n : Int) / 2) = (p : Int) by omega)
  have Hp := Lib.hid hp
  clear hp k1
  have hB := Lib.hid (fun w => between_yes (kAt l (p - 1)) (kAt l p) w s2 s1 hc)
  clear hc
  have hh := Lib.hid (fun w1 (hg : Gr w w1) => (H1.out.keep hg).head (k := p) (by omega))
  have ht := Lib.hid (fun w1 (hg : Gr w w1) => (H1.out.keep hg).tail (k := p) (by omega))
  have t1 := run_head oa n cap p (by omega)
  have t2 := run_tail oa n cap p (by omega)
  generalize btw (kAt l (p - 1)) (kAt l p) = key at *
  go_enter Tryd.func54, Tryd.ntmps54
  go_wp2_with fail
  rw [hpe.out]
  go_big_quiet ((go_at_call 62; (first | (with_reducible exact quiet_dr1 (hB.out _)) | (with_reducible exact quiet_dr0 (hB.out _)))))
  clear a1 a2 hI1 hI2
  go_wp2_with fail
  go_region_with (first | (go_at_call 37; (refine Calls.mono (list1 (n := p) (cap := cap) ?_ (hh.out _ ?_) (by omega)) ?_; (focus (first | (simp [go_sem, cell_new_drewN]; done) | (refine Gr.keep (by assumption) ?_; simp [go_sem, cell_new_drewN]; done))); (focus ((repeat (first | with_reducible exact Gr.refl _ | with_reducible refine Gr.drewN ?_ _ | with_reducible refine Gr.drew ?_ | with_reducible refine Gr.alloc ?_ _ | with_reducible refine Gr.setCell ?_ ?_ _ | (with_reducible refine Gr.trans ?_ (by assumption)) | omega | (dsimp only; omega))); done))); rintro e w1 ⟨o1, m1, c1, rfl, hr1, hg1, base1, hbase1, ho1⟩) | (go_at_call 37; (refine Calls.mono (list1 (n := n - p) (cap := cap - p) ?_ (ht.out _ ?_) (by omega)) ?_; (focus (first | (simp [go_sem, cell_new_drewN]; done) | (refine Gr.keep (by assumption) ?_; simp [go_sem, cell_new_drewN]; done))); (focus ((repeat (first | with_reducible exact Gr.refl _ | with_reducible refine Gr.drewN ?_ _ | with_reducible refine Gr.drew ?_ | with_reducible refine Gr.alloc ?_ _ | with_reducible refine Gr.setCell ?_ ?_ _ | (with_reducible refine Gr.trans ?_ (by assumption)) | omega | (dsimp only; omega))); done))); rintro e w2 ⟨o2, m2, c2, rfl, hr2, hg2, base2, hbase2, ho2⟩))
  all_goals
    go_wp2_with fail
    ((try simp only [Exit.inBlock, Exit.then]); refine bodyPost_ret (results_tmp4 rfl _ _ _) rfl ?_)
    (first | exact ⟨_, _, _, _, _, _, rfl, (ho1.keep (by repeat (first | with_reducible exact Gr.refl _ | with_reducible refine Gr.drewN ?_ _ | with_reducible refine Gr.drew ?_ | with_reducible refine Gr.alloc ?_ _ | with_reducible refine Gr.setCell ?_ ?_ _ | (with_reducible refine Gr.trans ?_ (by assumption)) | omega | (dsimp only; omega)))).lower2 (Nat.le_trans (Gr.le (by repeat (first | with_reducible exact Gr.refl _ | with_reducible refine Gr.drewN ?_ _ | with_reducible refine Gr.drew ?_ | with_reducible refine Gr.alloc ?_ _ | with_reducible refine Gr.setCell ?_ ?_ _ | (with_reducible refine Gr.trans ?_ (by assumption)) | omega | (dsimp only; omega)))) hbase1), ho2.lower2 (Nat.le_trans (Gr.le (by repeat (first | with_reducible exact Gr.refl _ | with_reducible refine Gr.drewN ?_ _ | with_reducible refine Gr.drew ?_ | with_reducible refine Gr.alloc ?_ _ | with_reducible refine Gr.setCell ?_ ?_ _ | (with_reducible refine Gr.trans ?_ (by assumption)) | omega | (dsimp only; omega)))) hbase2), by repeat (first | with_reducible exact Gr.refl _ | with_reducible refine Gr.drewN ?_ _ | with_reducible refine Gr.drew ?_ | with_reducible refine Gr.alloc ?_ _ | with_reducible refine Gr.setCell ?_ ?_ _ | (with_reducible refine Gr.trans ?_ (by assumption)) | omega | (dsimp only; omega))⟩ | exact ⟨_, _, _, _, _, _, rfl, ho1.lower2 (Nat.le_trans (Gr.le (by repeat (first | with_reducible exact Gr.refl _ | with_reducible refine Gr.drewN ?_ _ | with_reducible refine Gr.drew ?_ | with_reducible refine Gr.alloc ?_ _ | with_reducible refine Gr.setCell ?_ ?_ _ | (with_reducible refine Gr.trans ?_ (by assumption)) | omega | (dsimp only; omega)))) hbase1), (ho2.keep (by repeat (first | with_reducible exact Gr.refl _ | with_reducible refine Gr.drewN ?_ _ | with_reducible refine Gr.drew ?_ | with_reducible refine Gr.alloc ?_ _ | with_reducible refine Gr.setCell ?_ ?_ _ | (with_reducible refine Gr.trans ?_ (by assumption)) | omega | (dsimp only; omega)))).lower2 (Nat.le_trans (Gr.le (by repeat (first | with_reducible exact Gr.refl _ | with_reducible refine Gr.drewN ?_ _ | with_reducible refine Gr.drew ?_ | with_reducible refine Gr.alloc ?_ _ | with_reducible refine Gr.setCell ?_ ?_ _ | (with_reducible refine Gr.trans ?_ (by assumption)) | omega | (dsimp only; omega)))) hbase2), by repeat (first | with_reducible exact Gr.refl _ | with_reducible refine Gr.drewN ?_ _ | with_reducible refine Gr.drew ?_ | with_reducible refine Gr.alloc ?_ _ | with_reducible refine Gr.setCell ?_ ?_ _ | (with_reducible refine Gr.trans ?_ (by assumption)) | omega | (dsimp only; omega))⟩)
def HalveTells (w : World) (l : List Rw) (e : Ending) (w' : World) : Prop :=
  match (hvK l).1 with
  | some key => ∃ o1 m1 c1 o2 m2 c2, e = .returned (.tuple #[.string key, .slice o1 m1 c1, .slice o2 m2 c2, .nilIface]) ∧ OwnAt w' w.heap.size o1 m1 c1 (l.take (l.length / 2)) ∧ OwnAt w' w.heap.size o2 m2 c2 (l.drop (l.length / 2)) ∧ Gr w w'
  | none => e = .returned (.tuple #[.string ⟨#[]⟩, .slice none 0 0, .slice none 0 0, errV (hvK l).2]) ∧ Gr w w'
theorem halve_any (oa : Option Addr) (n cap : Nat) (l : List Rw) (w : World) (h : RowsAt w oa n cap l) (hn : n ≤ 1000000) :
    Calls Tryd.prog 54 #[.slice oa n cap] w (HalveTells w l) := by
  have hl := h.len
  unfold HalveTells hvK
  by_cases h2 : n < 2
  · refine (halve_few oa n cap l w h h2).mono fun e w' q => ?_
    rw [if_pos (by omega)]
    exact q
  · rw [if_neg (by omega)]
    by_cases hc : Str.cmp (Tx (kAt l (n / 2 - 1))) (Tx (kAt l (n / 2))) < 0
    · refine (halve_yesO oa n cap (n / 2) l w h (by omega) hn rfl hc).mono fun e w' q => ?_
      rw [hl, if_pos hc]
      exact q
    · refine (halve_no oa n cap (n / 2) l w h (by omega) hn rfl hc).mono fun e w' q => ?_
      rw [hl, if_neg hc]
      exact q
set_option maxRecDepth 100000 in
set_option maxHeartbeats 1000000 in
theorem part_any (low high : ByteArray) (unb : Bool) (right : Int) (oa : Option Addr) (n cap : Nat) (w : World) :
    Calls Tryd.prog 55 #[.string low, .string high, .bool unb, .int .i64 right, .slice oa n cap] w fun e w' => e = .returned (.agg #[.string low, .string high, .bool unb, .int .i64 right, .slice oa n cap, .bool false]) ∧ Gr w w' := by
  have Z0 : Bx (w.alloc (.cells zL.toArray 28)) w.heap.size zL := (Bx.new w _ _ rfl).of (by simp)
  have hg0 : Gr w (w.alloc (.cells zL.toArray 28)) := (Gr.refl _).alloc _
  go_enter Tryd.func55, Tryd.ntmps55
  go_wp2_with (refine wpList_store_mid rfl 28 _ _ rfl _ 0 _ rfl rfl (Z0).may (by kernel_rfl) (by kernel_rfl) ?_)
  refine bodyPost_ret ((Z0.setAll (us := [.string low, .string high, .bool unb, .int .i64 right, .slice oa n cap, .bool false]) rfl).ret1 rfl _ rfl Tryd.underlying28 rfl (by kernel_rfl)) rfl ?_
  exact ⟨rfl, hg0.setCells (Nat.le_refl _) _ _⟩
end Go.Proofs.YtidfelbaegaphaaDoor
