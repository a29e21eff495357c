import Derived.Test.YtidfelbaegaphaaFp2y
import Derived.Test.YtidfelbaegaphaaUpAy
import Derived.Test.YtidfelbaegaphaaHty
namespace Go.Proofs.Ytidfelbaegaphaa
set_option linter.unusedVariables false
set_option linter.unusedSimpArgs false
open Go.BigFrame Go.RowKit Go.WideShapes

/-! A base, a leaf's halves, a split. -/
/-- a view's base -/
abbrev bRc (v : Vw) : Rx := ⟨⟨1, v.low, v.high, v.unb, v.right, v.rows, ⟨#[]⟩, ⟨#[]⟩, 0⟩, 0, 0, ⟨#[]⟩, 0, 0⟩
abbrev chain15 (W3 : World) (b : Nat) (a0 a1 a2 a3 a4 a5 a6 a7 a8 a9 a10 a11 a12 a13 a14 : Value) : World := ((((((((((((((W3.setCell ⟨b, 0, none⟩ a0).setCell ⟨b, 1, none⟩ a1).setCell ⟨b, 2, none⟩ a2).setCell ⟨b, 3, none⟩ a3).setCell ⟨b, 4, none⟩ a4).setCell ⟨b, 5, none⟩ a5).setCell ⟨b, 6, none⟩ a6).setCell ⟨b, 7, none⟩ a7).setCell ⟨b, 8, none⟩ a8).setCell ⟨b, 9, none⟩ a9).setCell ⟨b, 10, none⟩ a10).setCell ⟨b, 11, none⟩ a11).setCell ⟨b, 12, none⟩ a12).setCell ⟨b, 13, none⟩ a13).setCell ⟨b, 14, none⟩ a14
theorem box15 {W3 : World} {b : Nat} {zs : List Value} (hz : Bx W3 b zs) (hl : zs.length = 15) (a0 a1 a2 a3 a4 a5 a6 a7 a8 a9 a10 a11 a12 a13 a14 : Value) : Bx (chain15 W3 b a0 a1 a2 a3 a4 a5 a6 a7 a8 a9 a10 a11 a12 a13 a14) b [a0, a1, a2, a3, a4, a5, a6, a7, a8, a9, a10, a11, a12, a13, a14] :=
  show Bx (W3.setCells b 0 [a0, a1, a2, a3, a4, a5, a6, a7, a8, a9, a10, a11, a12, a13, a14]) b _ from hz.setAll (by rw [hl]; rfl)
theorem gr15 {w W3 : World} {b : Nat} (hg : Gr w W3) (hb : w.heap.size ≤ b) (a0 a1 a2 a3 a4 a5 a6 a7 a8 a9 a10 a11 a12 a13 a14 : Value) : Gr w (chain15 W3 b a0 a1 a2 a3 a4 a5 a6 a7 a8 a9 a10 a11 a12 a13 a14) :=
  show Gr w (W3.setCells b 0 [a0, a1, a2, a3, a4, a5, a6, a7, a8, a9, a10, a11, a12, a13, a14]) from hg.setCells hb _ _
theorem own15 {W3 : World} {b base : Nat} {o : Option Addr} {n c : Nat} {l : List Rw} (h : OwnAt W3 base o n c l) (hb : Value.ownBlock (.slice o n c) ≠ some b) (a0 a1 a2 a3 a4 a5 a6 a7 a8 a9 a10 a11 a12 a13 a14 : Value) : OwnAt (chain15 W3 b a0 a1 a2 a3 a4 a5 a6 a7 a8 a9 a10 a11 a12 a13 a14) base o n c l :=
  show OwnAt (W3.setCells b 0 [a0, a1, a2, a3, a4, a5, a6, a7, a8, a9, a10, a11, a12, a13, a14]) base o n c l from h.setOther hb _ _

theorem base_end {w w3 : World} {b BX base3 : Nat} {zs : List Value} (hz : Bx w3 b zs) {o : Option Addr} {n c : Nat} {l : List Rw} (hO : OwnAt w3 base3 o n c l) (h1 : BX ≤ base3) (h2 : b < base3) (hg : Gr w w3) (hb : w.heap.size ≤ b) (a0 a1 a2 a3 a4 a5 a6 a7 a8 a9 a10 a11 a12 a13 a14 : Value) (hl : zs.length = 15) :
    Bx (chain15 w3 b a0 a1 a2 a3 a4 a5 a6 a7 a8 a9 a10 a11 a12 a13 a14) b [a0, a1, a2, a3, a4, a5, a6, a7, a8, a9, a10, a11, a12, a13, a14] ∧ OwnAt (chain15 w3 b a0 a1 a2 a3 a4 a5 a6 a7 a8 a9 a10 a11 a12 a13 a14) BX o n c l ∧ Gr w (chain15 w3 b a0 a1 a2 a3 a4 a5 a6 a7 a8 a9 a10 a11 a12 a13 a14) :=
  ⟨box15 hz hl _ _ _ _ _ _ _ _ _ _ _ _ _ _ _, own15 (hO.lower2 h1) (fun q => by have := (hO.own.lt _ q).1; omega) _ _ _ _ _ _ _ _ _ _ _ _ _ _ _, gr15 hg hb _ _ _ _ _ _ _ _ _ _ _ _ _ _ _⟩
set_option maxRecDepth 100000 in
set_option maxHeartbeats 2000000 in
theorem base_any (v : Vw) (oa : Option Addr) (n cap : Nat) (w : World) (h : RowsAt w oa n cap v.rows) (hn : n ≤ 1000000) :
    Calls Try.prog 15 #[vwV v oa n cap] w fun e w' => ∃ o m c, e = .returned (rxV (bRc v) o m c none 0 0) ∧ OwnAt w' w.heap.size o m c v.rows ∧ Gr w w' := by
  have s1 := size_alloc1
  have B0 : Bx ((w.alloc (.cells (vL v oa n cap).toArray 27)).alloc (.cells zR.toArray 35)) w.heap.size (vL v oa n cap) := ((Bx.new w _ _ rfl).keep ((Gr.refl _).alloc _)).of (by simp)
  have Z0 : Bx ((w.alloc (.cells (vL v oa n cap).toArray 27)).alloc (.cells zR.toArray 35)) (w.heap.size + 1) zR := (Bx.new (w.alloc _) _ _ (by rw [s1])).of (by simp)
  have hg0 : Gr w ((w.alloc (.cells (vL v oa n cap).toArray 27)).alloc (.cells zR.toArray 35)) := ((Gr.refl _).alloc _).alloc _
  have hsz : ((w.alloc (.cells (vL v oa n cap).toArray 27)).alloc (.cells zR.toArray 35)).heap.size = w.heap.size + 2 := by rw [s1, s1]
  go_enter Try.func15, Try.ntmps15
  go_upto_region 1 with fail
  generalize (w.alloc (.cells (vL v oa n cap).toArray 27)).alloc (.cells zR.toArray 35) = W at *
  have Hsz := Lib.hid hsz
  clear hsz s1
  generalize hBX : w.heap.size = BX at *
  have hRW := Lib.hid fun w1 (hq : Gr W w1) => h.keep (hg0.trans hq)
  clear h
  have v0 := B0.cell 0 rfl
  have v1 := B0.cell 1 rfl
  have v2 := B0.cell 2 rfl
  have v3 := B0.cell 3 rfl
  have v4 := B0.cell 4 rfl
  go_cut [] (fun wx => ∃ (o : Option Addr) (m c : Nat), Bx wx (BX + 1) (xL (bRc v) o m c none 0 0) ∧ OwnAt wx BX o m c v.rows ∧ Gr w wx)
  case first =>
    go_region_held3 (fun W' => W'.cell? ⟨BX, 0, none⟩ = some (.string v.low) ∧ W'.cell? ⟨BX, 1, none⟩ = some (.string v.high) ∧ W'.cell? ⟨BX, 2, none⟩ = some (.bool v.unb) ∧ W'.cell? ⟨BX, 3, none⟩ = some (.int .i64 v.right) ∧ W'.cell? ⟨BX, 4, none⟩ = some (.slice oa n cap))
      ((go_split_ands; (repeat' apply And.intro) <;> first | with_reducible assumption | (with_reducible refine Gr.keep hg3 ?_; with_reducible assumption) | ((repeat (first | with_reducible refine drew1 ?_ | with_reducible refine alloc1 ?_ | with_reducible refine far1 ?_ (by omega))); first | with_reducible assumption | (with_reducible refine Gr.keep hg3 ?_; (repeat (first | with_reducible refine drew1 ?_ | with_reducible refine alloc1 ?_)); with_reducible assumption)))) (first | (go_at_call 23; (with_reducible refine (copy_any _ _ _ _ _ (hRW.out _ ?_) ?_).mono ?_); (focus ((repeat (first | with_reducible exact Gr.refl _ | with_reducible refine Gr.drewN ?_ _ | with_reducible refine Gr.drew ?_ | with_reducible refine Gr.alloc ?_ _ | with_reducible refine Gr.setCell ?_ ?_ _ | (with_reducible refine Gr.trans ?_ (by assumption)) | omega | (dsimp only; omega))); done)); (focus (omega; done)); rintro e w3 ⟨o3, m3, c3, rfl, hr3, hg3, base3, hb3, hO3⟩; (have hg9 : Gr W w3 := Gr.trans (by (repeat (first | with_reducible exact Gr.refl _ | with_reducible refine Gr.drewN ?_ _ | with_reducible refine Gr.drew ?_ | with_reducible refine Gr.alloc ?_ _ | with_reducible refine Gr.setCell ?_ ?_ _ | (with_reducible refine Gr.trans ?_ (by assumption)) | omega | (dsimp only; omega)))) hg3); have Z1 := Z0.keep hg9; have hb9 : W.heap.size ≤ base3 := Nat.le_trans (Gr.le (by (repeat (first | with_reducible exact Gr.refl _ | with_reducible refine Gr.drewN ?_ _ | with_reducible refine Gr.drew ?_ | with_reducible refine Gr.alloc ?_ _ | with_reducible refine Gr.setCell ?_ ?_ _ | (with_reducible refine Gr.trans ?_ (by assumption)) | omega | (dsimp only; omega))))) hb3; have q0 := (Z1).cell 0 rfl; have q1 := (Z1).cell 1 rfl; have q2 := (Z1).cell 2 rfl; have q3 := (Z1).cell 3 rfl; have q4 := (Z1).cell 4 rfl; have q5 := (Z1).cell 5 rfl; have q6 := (Z1).cell 6 rfl; have q7 := (Z1).cell 7 rfl; have q8 := (Z1).cell 8 rfl; have q9 := (Z1).cell 9 rfl; have q10 := (Z1).cell 10 rfl; have q11 := (Z1).cell 11 rfl; have q12 := (Z1).cell 12 rfl; have q13 := (Z1).cell 13 rfl; have q14 := (Z1).cell 14 rfl; have p0 := (Z1).free 0 (by simp); have p1 := (Z1).free 1 (by simp); have p2 := (Z1).free 2 (by simp); have p3 := (Z1).free 3 (by simp); have p4 := (Z1).free 4 (by simp); have p5 := (Z1).free 5 (by simp); have p6 := (Z1).free 6 (by simp); have p7 := (Z1).free 7 (by simp); have p8 := (Z1).free 8 (by simp); have p9 := (Z1).free 9 (by simp); have p10 := (Z1).free 10 (by simp); have p11 := (Z1).free 11 (by simp); have p12 := (Z1).free 12 (by simp); have p13 := (Z1).free 13 (by simp); have p14 := (Z1).free 14 (by simp)))
    have hsz := Hsz.out
    all_goals (go_wp2_with fail; go_meet; with_reducible exact ⟨o3, m3, c3, base_end Z1 hO3 (by omega) (by omega) (hg0.trans hg9) (by omega) _ _ _ _ _ _ _ _ _ _ _ _ _ _ _ (by simp)⟩)
  case rest =>
    obtain ⟨o, m, c, B1, hO1, hg1⟩ := hcut
    have HO1 := Lib.hid hO1
    clear hO1
    go_wp2_with fail
    refine bodyPost_ret (B1.ret1 rfl _ rfl Try.underlying35 rfl (by kernel_rfl)) rfl ?_
    exact ⟨o, m, c, rfl, by rw [hBX]; exact HO1.out, hg1⟩

/-- where a leaf's rows part, or why not -/
def hvK (l : List Rw) : Option ByteArray × Int :=
  if l.length < 2 then (none, 2) else if Str.cmp (Tx (kAt l (l.length / 2 - 1))) (Tx (kAt l (l.length / 2))) < 0 then (some (btw (kAt l (l.length / 2 - 1)) (kAt l (l.length / 2))), 0) else (none, 1)
theorem extract_sz (b : ByteArray) (i j : Nat) : (b.extract i j).size ≤ b.size := by
  rw [ByteArray.size_extract]; omega
theorem hvK_size {l : List Rw} {key : ByteArray} (h : (hvK l).1 = some key) (hl : ∀ x ∈ l, x.key.size ≤ maxLen) : key.size ≤ maxLen := by
  unfold hvK at h
  split at h
  · cases h
  · split at h
    · simp only [Option.some.injEq] at h
      subst h
      rename_i q _
      have hi : l.length / 2 < l.length := by omega
      refine Nat.le_trans (extract_sz _ _ _) ?_
      unfold kAt
      rw [rAt_lt hi]
      exact hl _ (List.getElem_mem _)
    · cases h
set_option maxRecDepth 100000 in
set_option maxHeartbeats 1000000 in
theorem halve_yesO (oa : Option Addr) (n cap p : Nat) (l : List Rw) (w : World) (h : RowsAt w oa n cap l) (hn : 2 ≤ n) (hn2 : n ≤ 1000000) (hp : p = n / 2) (hc : Str.cmp (Tx (kAt l (p - 1))) (Tx (kAt l p)) < 0) :
    Calls Try.prog 29 #[.slice oa n cap] w fun e w' => ∃ o1 m1 c1 o2 m2 c2, e = .returned (.tuple #[.string (btw (kAt l (p - 1)) (kAt l p)), .slice o1 m1 c1, .slice o2 m2 c2, .nilIface]) ∧ OwnAt w' w.heap.size o1 m1 c1 (l.take p) ∧ OwnAt w' w.heap.size o2 m2 c2 (l.drop p) ∧ Gr w w' := by
  have hp1 : 1 ≤ p := by omega
  have hp2 : p < n := by omega
  have k1 := (h.cells)
  obtain ⟨b1, off1, ho1, hc1⟩ := h.cells
  have Hc1 := Lib.hid hc1
  have Ho1 := Lib.hid (fun q => (ho1 q).1)
  have H1 := Lib.hid h
  have hn1 := h.cap_le
  have hm1 := h.cap_max
  unfold maxLen at hm1
  clear hc1 ho1 h
  have a1 := (Hc1.out p hp2).1
  have a2 := (Hc1.out (p - 1) (by omega)).1
  have s1 := (H1.out.sizes p hp2).1
  have s2 := (H1.out.sizes (p - 1) (by omega)).1
  have hI1 := run_row cap Ho1.out hp2
  have hI2 := fun w => run_rowI cap Ho1.out (k := (p : Int) - 1) (by omega) (by omega) w
  have e1 : ((p : Int) - 1).toNat = p - 1 := by omega
  rw [e1] at hI2
  have hpe := Lib.hid (show ((n : Int) / 2) = (p : Int) by omega)
  have Hp := Lib.hid hp
  clear hp k1
  have hB := Lib.hid (fun w => between_yes (kAt l (p - 1)) (kAt l p) w s2 s1 hc)
  clear hc
  have hh := Lib.hid (fun w1 (hg : Gr w w1) => (H1.out.keep hg).head (k := p) (by omega))
  have ht := Lib.hid (fun w1 (hg : Gr w w1) => (H1.out.keep hg).tail (k := p) (by omega))
  have t1 := run_head oa n cap p (by omega)
  have t2 := run_tail oa n cap p (by omega)
  generalize btw (kAt l (p - 1)) (kAt l p) = key at *
  go_enter Try.func29, Try.ntmps29
  go_wp2_with fail
  rw [hpe.out]
  go_big_quiet ((go_at_call 43; (first | (with_reducible exact quiet_dr1 (hB.out _)) | (with_reducible exact quiet_dr0 (hB.out _)))))
  clear a1 a2 hI1 hI2
  go_wp2_with fail
  go_region_with (first | (go_at_call 32; (refine Calls.mono (list1 (n := p) (cap := cap) ?_ (hh.out _ ?_) (by omega)) ?_; (focus (first | (simp [go_sem, cell_new_drewN]; done) | (refine Gr.keep (by assumption) ?_; simp [go_sem, cell_new_drewN]; done))); (focus ((repeat (first | with_reducible exact Gr.refl _ | with_reducible refine Gr.drewN ?_ _ | with_reducible refine Gr.drew ?_ | with_reducible refine Gr.alloc ?_ _ | with_reducible refine Gr.setCell ?_ ?_ _ | (with_reducible refine Gr.trans ?_ (by assumption)) | omega | (dsimp only; omega))); done))); rintro e w1 ⟨o1, m1, c1, rfl, hr1, hg1, base1, hbase1, ho1⟩) | (go_at_call 32; (refine Calls.mono (list1 (n := n - p) (cap := cap - p) ?_ (ht.out _ ?_) (by omega)) ?_; (focus (first | (simp [go_sem, cell_new_drewN]; done) | (refine Gr.keep (by assumption) ?_; simp [go_sem, cell_new_drewN]; done))); (focus ((repeat (first | with_reducible exact Gr.refl _ | with_reducible refine Gr.drewN ?_ _ | with_reducible refine Gr.drew ?_ | with_reducible refine Gr.alloc ?_ _ | with_reducible refine Gr.setCell ?_ ?_ _ | (with_reducible refine Gr.trans ?_ (by assumption)) | omega | (dsimp only; omega))); done))); rintro e w2 ⟨o2, m2, c2, rfl, hr2, hg2, base2, hbase2, ho2⟩))
  all_goals
    go_wp2_with fail
    ((try simp only [Exit.inBlock, Exit.then]); refine bodyPost_ret (results_tmp4 rfl _ _ _) rfl ?_)
    (first | exact ⟨_, _, _, _, _, _, rfl, (ho1.keep (by repeat (first | with_reducible exact Gr.refl _ | with_reducible refine Gr.drewN ?_ _ | with_reducible refine Gr.drew ?_ | with_reducible refine Gr.alloc ?_ _ | with_reducible refine Gr.setCell ?_ ?_ _ | (with_reducible refine Gr.trans ?_ (by assumption)) | omega | (dsimp only; omega)))).lower2 (Nat.le_trans (Gr.le (by repeat (first | with_reducible exact Gr.refl _ | with_reducible refine Gr.drewN ?_ _ | with_reducible refine Gr.drew ?_ | with_reducible refine Gr.alloc ?_ _ | with_reducible refine Gr.setCell ?_ ?_ _ | (with_reducible refine Gr.trans ?_ (by assumption)) | omega | (dsimp only; omega)))) hbase1), ho2.lower2 (Nat.le_trans (Gr.le (by repeat (first | with_reducible exact Gr.refl _ | with_reducible refine Gr.drewN ?_ _ | with_reducible refine Gr.drew ?_ | with_reducible refine Gr.alloc ?_ _ | with_reducible refine Gr.setCell ?_ ?_ _ | (with_reducible refine Gr.trans ?_ (by assumption)) | omega | (dsimp only; omega)))) hbase2), by repeat (first | with_reducible exact Gr.refl _ | with_reducible refine Gr.drewN ?_ _ | with_reducible refine Gr.drew ?_ | with_reducible refine Gr.alloc ?_ _ | with_reducible refine Gr.setCell ?_ ?_ _ | (with_reducible refine Gr.trans ?_ (by assumption)) | omega | (dsimp only; omega))⟩ | exact ⟨_, _, _, _, _, _, rfl, ho1.lower2 (Nat.le_trans (Gr.le (by repeat (first | with_reducible exact Gr.refl _ | with_reducible refine Gr.drewN ?_ _ | with_reducible refine Gr.drew ?_ | with_reducible refine Gr.alloc ?_ _ | with_reducible refine Gr.setCell ?_ ?_ _ | (with_reducible refine Gr.trans ?_ (by assumption)) | omega | (dsimp only; omega)))) hbase1), (ho2.keep (by repeat (first | with_reducible exact Gr.refl _ | with_reducible refine Gr.drewN ?_ _ | with_reducible refine Gr.drew ?_ | with_reducible refine Gr.alloc ?_ _ | with_reducible refine Gr.setCell ?_ ?_ _ | (with_reducible refine Gr.trans ?_ (by assumption)) | omega | (dsimp only; omega)))).lower2 (Nat.le_trans (Gr.le (by repeat (first | with_reducible exact Gr.refl _ | with_reducible refine Gr.drewN ?_ _ | with_reducible refine Gr.drew ?_ | with_reducible refine Gr.alloc ?_ _ | with_reducible refine Gr.setCell ?_ ?_ _ | (with_reducible refine Gr.trans ?_ (by assumption)) | omega | (dsimp only; omega)))) hbase2), by repeat (first | with_reducible exact Gr.refl _ | with_reducible refine Gr.drewN ?_ _ | with_reducible refine Gr.drew ?_ | with_reducible refine Gr.alloc ?_ _ | with_reducible refine Gr.setCell ?_ ?_ _ | (with_reducible refine Gr.trans ?_ (by assumption)) | omega | (dsimp only; omega))⟩)
def HalveTells (w : World) (l : List Rw) (e : Ending) (w' : World) : Prop :=
  match (hvK l).1 with
  | some key => ∃ o1 m1 c1 o2 m2 c2, e = .returned (.tuple #[.string key, .slice o1 m1 c1, .slice o2 m2 c2, .nilIface]) ∧ OwnAt w' w.heap.size o1 m1 c1 (l.take (l.length / 2)) ∧ OwnAt w' w.heap.size o2 m2 c2 (l.drop (l.length / 2)) ∧ Gr w w'
  | none => e = .returned (.tuple #[.string ⟨#[]⟩, .slice none 0 0, .slice none 0 0, errV (hvK l).2]) ∧ Gr w w'
theorem halve_any (oa : Option Addr) (n cap : Nat) (l : List Rw) (w : World) (h : RowsAt w oa n cap l) (hn : n ≤ 1000000) :
    Calls Try.prog 29 #[.slice oa n cap] w (HalveTells w l) := by
  have hl := h.len
  unfold HalveTells hvK
  by_cases h2 : n < 2
  · refine (halve_few oa n cap l w h h2).mono fun e w' q => ?_
    rw [if_pos (by omega)]
    exact q
  · rw [if_neg (by omega)]
    by_cases hc : Str.cmp (Tx (kAt l (n / 2 - 1))) (Tx (kAt l (n / 2))) < 0
    · refine (halve_yesO oa n cap (n / 2) l w h (by omega) hn rfl hc).mono fun e w' q => ?_
      rw [hl, if_pos hc]
      exact q
    · refine (halve_no oa n cap (n / 2) l w h (by omega) hn rfl hc).mono fun e w' q => ?_
      rw [hl, if_neg hc]
      exact q
set_option maxRecDepth 100000 in
set_option maxHeartbeats 1000000 in
theorem part_any (low high : ByteArray) (unb : Bool) (right : Int) (oa : Option Addr) (n cap : Nat) (w : World) :
    Calls Try.prog 30 #[.string low, .string high, .bool unb, .int .i64 right, .slice oa n cap] w fun e w' => e = .returned (.agg #[.string low, .string high, .bool unb, .int .i64 right, .slice oa n cap, .bool false]) ∧ Gr w w' := by
  have Z0 : Bx (w.alloc (.cells zL.toArray 27)) w.heap.size zL := (Bx.new w _ _ rfl).of (by simp)
  have hg0 : Gr w (w.alloc (.cells zL.toArray 27)) := (Gr.refl _).alloc _
  go_enter Try.func30, Try.ntmps30
  go_wp2_with (refine wpList_store_mid rfl 27 _ _ rfl _ 0 _ rfl rfl (Z0).may (by kernel_rfl) (by kernel_rfl) ?_)
  refine bodyPost_ret ((Z0.setAll (us := [.string low, .string high, .bool unb, .int .i64 right, .slice oa n cap, .bool false]) rfl).ret1 rfl _ rfl Try.underlying27 rfl (by kernel_rfl)) rfl ?_
  exact ⟨rfl, hg0.setCells (Nat.le_refl _) _ _⟩
end Go.Proofs.Ytidfelbaegaphaa

namespace Go.Proofs.Ytidfelbaegaphaa
set_option linter.unusedVariables false
set_option linter.unusedSimpArgs false
open Go.BigFrame Go.RowKit Go.WideShapes

theorem wpList_store_box {P : Program} {ops : Array Oper} {rest : List Oper} {op : Oper} {a : Act} {w : World} {Q : Exit → Act → World → Prop} {b : Nat} {vs : List Value} {ty : TypeId} (hb : Bx w b vs) (us : List Value) (hgd : op.guard = none)
    (ho : ∃ x y, op.op = .store ty x y ∧ a.eval x = .pointer (some ⟨b, 0, none⟩) ∧ a.eval y = .agg us.toArray) (hl : us.length = vs.length) (hi : (P.info? ty).map (·.size) = some us.length) (h1 : us.all (·.oneCell') = true)
    (h : wpList P ops Q rest (a.put op.dst undef) (w.setCells b 0 us)) : wpList P ops Q (op :: rest) a w := by
  obtain ⟨x, y, h2, h3, h4⟩ := ho
  refine wpList_store_mid hgd ty x y h2 b 0 us.toArray h3 h4 ?_ (by simpa using hi) (by simpa using h1) (by simpa using h)
  have := hb.may
  rw [← hl] at this
  simpa using this
theorem wpList_load_box {P : Program} {ops : Array Oper} {rest : List Oper} {op : Oper} {a : Act} {w : World} {Q : Exit → Act → World → Prop} {b : Nat} {vs : List Value} {ty : TypeId} (hb : Bx w b vs) {d : TypeDesc} (hgd : op.guard = none)
    (ho : ∃ x, op.op = .load ty x ∧ a.eval x = .pointer (some ⟨b, 0, none⟩)) (hu : P.underlying ty = some d) (hd : d.isRow = true) (hi : (P.info? ty).map (·.size) = some vs.length)
    (h : wpList P ops Q rest (a.put op.dst (.agg vs.toArray)) w) : wpList P ops Q (op :: rest) a w := by
  obtain ⟨x, h2, h3⟩ := ho
  exact wpList_load_mid hgd ty x h2 b 0 h3 vs d hb.rng hu hd hi h
theorem Bx.ret4 {P : Program} {w : World} {b c : Nat} {vs us : List Value} (h : Bx w b vs) (k : Bx w c us) {fn : Func} {t p q u : Tmp} {ty : TypeId} (hr : fn.results = #[.tmp t, .cell p ty, .cell q ty, .tmp u]) (tmps : Array Value) (hp : tmps.getD p undef = .pointer (some ⟨b, 0, none⟩)) (hq : tmps.getD q undef = .pointer (some ⟨c, 0, none⟩)) {x y : Value} (hx : tmps.getD t undef = x) (hy : tmps.getD u undef = y)
    {d : TypeDesc} (hu : P.underlying ty = some d) (hd : d.isRow = true) (hi : (P.info? ty).map (·.size) = some vs.length) (hj : (P.info? ty).map (·.size) = some us.length) : (results fn tmps).run P w = .ok (.tuple #[x, .agg vs.toArray, .agg us.toArray, y]) w := by
  have hp' : tmps[p]?.getD undef = .pointer (some ⟨b, 0, none⟩) := by simpa using hp
  have hq' : tmps[q]?.getD undef = .pointer (some ⟨c, 0, none⟩) := by simpa using hq
  have hx' : tmps[t]?.getD undef = x := by simpa using hx
  have hy' : tmps[u]?.getD undef = y := by simpa using hy
  simp [results, hr, hp', hq', hx', hy', asAddr, run_loadVar_mid w b 0 ty vs d h.rng hu hd hi, run_loadVar_mid w c 0 ty us d k.rng hu hd hj]
theorem Bx.ret3 {P : Program} {w : World} {b c : Nat} {vs us : List Value} (h : Bx w b vs) (k : Bx w c us) {fn : Func} {p q u : Tmp} {ty : TypeId} (hr : fn.results = #[.cell p ty, .cell q ty, .tmp u]) (tmps : Array Value) (hp : tmps.getD p undef = .pointer (some ⟨b, 0, none⟩)) (hq : tmps.getD q undef = .pointer (some ⟨c, 0, none⟩)) {y : Value} (hy : tmps.getD u undef = y)
    {d : TypeDesc} (hu : P.underlying ty = some d) (hd : d.isRow = true) (hi : (P.info? ty).map (·.size) = some vs.length) (hj : (P.info? ty).map (·.size) = some us.length) : (results fn tmps).run P w = .ok (.tuple #[.agg vs.toArray, .agg us.toArray, y]) w := by
  have hp' : tmps[p]?.getD undef = .pointer (some ⟨b, 0, none⟩) := by simpa using hp
  have hq' : tmps[q]?.getD undef = .pointer (some ⟨c, 0, none⟩) := by simpa using hq
  have hy' : tmps[u]?.getD undef = y := by simpa using hy
  simp [results, hr, hp', hq', hy', asAddr, run_loadVar_mid w b 0 ty vs d h.rng hu hd hi, run_loadVar_mid w c 0 ty us d k.rng hu hd hj]
theorem two_end {w w3 : World} {b c base : Nat} {zs ys : List Value} (hz : Bx w3 b zs) (hy : Bx w3 c ys) (lz : zs.length = 6) (ly : ys.length = 6) (hbc : b ≠ c) (hg : Gr w w3) (hb : w.heap.size ≤ b) (hc : w.heap.size ≤ c) {o1 o2 : Option Addr} {n1 n2 c1 c2 : Nat} {l1 l2 : List Rw} (h1 : OwnAt w3 base o1 n1 c1 l1) (h2 : OwnAt w3 base o2 n2 c2 l2) (k1 : b < base) (k2 : c < base) (a0 a1 a2 a3 a4 a5 d0 d1 d2 d3 d4 d5 : Value) :
    Bx (chain6 (chain6 w3 b a0 a1 a2 a3 a4 a5) c d0 d1 d2 d3 d4 d5) b [a0, a1, a2, a3, a4, a5] ∧ Bx (chain6 (chain6 w3 b a0 a1 a2 a3 a4 a5) c d0 d1 d2 d3 d4 d5) c [d0, d1, d2, d3, d4, d5] ∧ Gr w (chain6 (chain6 w3 b a0 a1 a2 a3 a4 a5) c d0 d1 d2 d3 d4 d5) ∧
      OwnAt (chain6 (chain6 w3 b a0 a1 a2 a3 a4 a5) c d0 d1 d2 d3 d4 d5) base o1 n1 c1 l1 ∧ OwnAt (chain6 (chain6 w3 b a0 a1 a2 a3 a4 a5) c d0 d1 d2 d3 d4 d5) base o2 n2 c2 l2 := by
  show Bx ((w3.setCells b 0 [a0, a1, a2, a3, a4, a5]).setCells c 0 [d0, d1, d2, d3, d4, d5]) b _ ∧ Bx ((w3.setCells b 0 [a0, a1, a2, a3, a4, a5]).setCells c 0 [d0, d1, d2, d3, d4, d5]) c _ ∧ Gr w ((w3.setCells b 0 [a0, a1, a2, a3, a4, a5]).setCells c 0 [d0, d1, d2, d3, d4, d5]) ∧ OwnAt ((w3.setCells b 0 [a0, a1, a2, a3, a4, a5]).setCells c 0 [d0, d1, d2, d3, d4, d5]) base o1 n1 c1 l1 ∧ OwnAt ((w3.setCells b 0 [a0, a1, a2, a3, a4, a5]).setCells c 0 [d0, d1, d2, d3, d4, d5]) base o2 n2 c2 l2
  have ne : ∀ {o : Option Addr} {n cc : Nat} {l : List Rw} {x : Nat}, OwnAt w3 base o n cc l → x < base → Value.ownBlock (.slice o n cc) ≠ some x := fun h hx q => by have := h.block q; omega
  exact ⟨(hz.setAll (by rw [lz]; rfl)).others hbc _, (hy.others (fun q => hbc q.symm) _).setAll (by rw [ly]; rfl), (hg.setCells hb _ _).setCells hc _ _, (h1.setOther (ne h1 k1) _ _).setOther (ne h1 k2) _ _, (h2.setOther (ne h2 k1) _ _).setOther (ne h2 k2) _ _⟩
/-- a leaf's halves, or why not -/
def hvV (v : Vw) : Option ByteArray × Int := if v.gone = true then (none, 13) else hvK v.rows
abbrev hvA (v : Vw) (key : ByteArray) : Vw := ⟨v.low, key, false, 0, v.rows.take (v.rows.length / 2), false⟩
abbrev hvB (v : Vw) (key : ByteArray) : Vw := ⟨key, v.high, v.unb, v.right, v.rows.drop (v.rows.length / 2), false⟩
def HalvesTells (w : World) (v : Vw) (e : Ending) (w' : World) : Prop :=
  match (hvV v).1 with
  | some key => ∃ o1 m1 c1 o2 m2 c2, e = .returned (.tuple #[.string key, vwV (hvA v key) o1 m1 c1, vwV (hvB v key) o2 m2 c2, .nilIface]) ∧ OwnAt w' w.heap.size o1 m1 c1 (v.rows.take (v.rows.length / 2)) ∧ OwnAt w' w.heap.size o2 m2 c2 (v.rows.drop (v.rows.length / 2)) ∧ Gr w w'
  | none => e = .returned (.tuple #[.string ⟨#[]⟩, zV, zV, errV (hvV v).2]) ∧ Gr w w'
set_option maxRecDepth 100000 in
set_option maxHeartbeats 2000000 in
theorem halves_any (v : Vw) (oa : Option Addr) (n cap : Nat) (w : World) (h : RowsAt w oa n cap v.rows) (hn : n ≤ 1000000) :
    Calls Try.prog 21 #[vwV v oa n cap] w (HalvesTells w v) := by
  have s1 := size_alloc1
  have B0 : Bx (((w.alloc (.cells (vL v oa n cap).toArray 27)).alloc (.cells zL.toArray 27)).alloc (.cells zL.toArray 27)) w.heap.size (vL v oa n cap) := (((Bx.new w _ _ rfl).keep ((Gr.refl _).alloc _)).keep ((Gr.refl _).alloc _)).of (by simp)
  have Z0 : Bx (((w.alloc (.cells (vL v oa n cap).toArray 27)).alloc (.cells zL.toArray 27)).alloc (.cells zL.toArray 27)) (w.heap.size + 1) zL := ((Bx.new (w.alloc _) _ _ (by rw [s1])).keep ((Gr.refl _).alloc _)).of (by simp)
  have Y0 : Bx (((w.alloc (.cells (vL v oa n cap).toArray 27)).alloc (.cells zL.toArray 27)).alloc (.cells zL.toArray 27)) (w.heap.size + 2) zL := (Bx.new ((w.alloc _).alloc _) _ _ (by rw [s1, s1])).of (by simp)
  have hg0 : Gr w (((w.alloc (.cells (vL v oa n cap).toArray 27)).alloc (.cells zL.toArray 27)).alloc (.cells zL.toArray 27)) := (((Gr.refl _).alloc _).alloc _).alloc _
  have hsz : (((w.alloc (.cells (vL v oa n cap).toArray 27)).alloc (.cells zL.toArray 27)).alloc (.cells zL.toArray 27)).heap.size = w.heap.size + 3 := by rw [s1, s1, s1]
  have hT : Hid (∀ (e : Ending) (w' : World), (match (if v.gone = true then (none, 13) else hvK v.rows : Option ByteArray × Int).1 with
  | some key => ∃ o1 m1 c1 o2 m2 c2, e = .returned (.tuple #[.string key, vwV (hvA v key) o1 m1 c1, vwV (hvB v key) o2 m2 c2, .nilIface]) ∧ OwnAt w' w.heap.size o1 m1 c1 (v.rows.take (v.rows.length / 2)) ∧ OwnAt w' w.heap.size o2 m2 c2 (v.rows.drop (v.rows.length / 2)) ∧ Gr w w'
  | none => e = .returned (.tuple #[.string ⟨#[]⟩, zV, zV, errV (if v.gone = true then (none, 13) else hvK v.rows : Option ByteArray × Int).2]) ∧ Gr w w') → HalvesTells w v e w') := Lib.hid fun e w' q => q
  generalize HalvesTells w v = HT at *
  go_enter Try.func21, Try.ntmps21
  go_upto_region 1 with fail
  generalize ((w.alloc (.cells (vL v oa n cap).toArray 27)).alloc (.cells zL.toArray 27)).alloc (.cells zL.toArray 27) = W at *
  have Hsz := Lib.hid hsz
  clear hsz s1
  generalize hBX : w.heap.size = BX at *
  have hRW := Lib.hid fun w1 (hq : Gr W w1) => h.keep (hg0.trans hq)
  clear h
  have v0 := B0.cell 0 rfl
  have v1 := B0.cell 1 rfl
  have v2 := B0.cell 2 rfl
  have v3 := B0.cell 3 rfl
  have v4 := B0.cell 4 rfl
  have v5 := B0.cell 5 rfl
  cases hgone : v.gone
  · rw [hgone] at v5 hT
    go_upto_region 3 with fail
    cases hk : (hvK v.rows).1 with
    | none =>
      go_wp2_with (first | (go_at_call 29; (with_reducible refine (halve_any _ _ _ _ _ (hRW.out _ (Gr.refl _)) hn).mono ?_); rintro e w3 hq; unfold HalveTells at hq; rw [hk] at hq; obtain ⟨rfl, hg3⟩ := hq; have Z1 := Z0.keep hg3; have Y1 := Y0.keep hg3) | ((with_reducible refine wpList_store_box (ty := 27) (Z1) (zL) ?_ ?_ ?_ ?_ ?_ ?_); (focus (exact rfl)); (focus (exact ⟨_, _, rfl, rfl, rfl⟩)); (focus (exact rfl)); (focus kernel_rfl); (focus kernel_rfl)) | ((with_reducible refine wpList_store_box (ty := 27) ((Y1.others (by omega) _)) (zL) ?_ ?_ ?_ ?_ ?_ ?_); (focus (exact rfl)); (focus (exact ⟨_, _, rfl, rfl, rfl⟩)); (focus (exact rfl)); (focus kernel_rfl); (focus kernel_rfl)))
      have ZZ : Bx ((w3.setCells (BX + 1) 0 zL).setCells (BX + 2) 0 zL) (BX + 1) zL := (Z1.setAll (us := zL) rfl).others (b' := BX + 2) (by omega) zL
      have YY : Bx ((w3.setCells (BX + 1) 0 zL).setCells (BX + 2) 0 zL) (BX + 2) zL := (Y1.others (b' := BX + 1) (by omega) zL).setAll (us := zL) rfl
      refine bodyPost_ret (Bx.ret4 ZZ YY rfl _ rfl rfl rfl rfl Try.underlying27 rfl (by kernel_rfl) (by kernel_rfl)) rfl ?_
      refine hT.out _ _ ?_
      rw [if_neg (by decide)]
      rw [hk]
      exact ⟨rfl, ((hg0.trans hg3).setCells (by omega) _ _).setCells (by omega) _ _⟩
    | some key =>
      have hsz := Hsz.out
      go_upto_region 4 with (first | (go_at_call 29; (with_reducible refine (halve_any _ _ _ _ _ (hRW.out _ (Gr.refl _)) hn).mono ?_); rintro e w3 hq; unfold HalveTells at hq; rw [hk] at hq; obtain ⟨o1, m1, c1, o2, m2, c2, rfl, hr1, hr2, hg3⟩ := hq; have Z1 := Z0.keep hg3; have Y1 := Y0.keep hg3))
      have Hr1 := Lib.hid hr1
      have Hr2 := Lib.hid hr2
      have u0 := hg3.keep v0
      have u1 := hg3.keep v1
      have u2 := hg3.keep v2
      have u3 := hg3.keep v3
      have hle := hg3.le
      clear v0 v1 v2 v3 v4 v5 hr1 hr2 B0 Z0 Y0
      go_upto_region 7 with fail
      go_cut [2, 5] (fun s2 s5 wx => s2 = .string key ∧ s5 = .nilIface ∧ Bx wx (BX + 1) (vL (hvA v key) o1 m1 c1) ∧ Bx wx (BX + 2) (vL (hvB v key) o2 m2 c2) ∧ Gr w wx ∧ OwnAt wx W.heap.size o1 m1 c1 (v.rows.take (v.rows.length / 2)) ∧ OwnAt wx W.heap.size o2 m2 c2 (v.rows.drop (v.rows.length / 2)))
      case first =>
        have hpA := Lib.hid fun w1 => part_any v.low key false 0 o1 m1 c1 w1
        have hpB := Lib.hid fun w1 => part_any key v.high v.unb v.right o2 m2 c2 w1
        go_region_held3 (fun W' => W'.cell? ⟨BX, 0, none⟩ = some (.string v.low) ∧ W'.cell? ⟨BX, 1, none⟩ = some (.string v.high) ∧ W'.cell? ⟨BX, 2, none⟩ = some (.bool v.unb) ∧ W'.cell? ⟨BX, 3, none⟩ = some (.int .i64 v.right))
          (first | (go_split_ands; (repeat' apply And.intro) <;> first | with_reducible assumption | (with_reducible refine Gr.keep hg4 ?_; with_reducible assumption) | ((repeat (first | with_reducible refine drew1 ?_ | with_reducible refine alloc1 ?_ | with_reducible refine far1 ?_ (by omega))); first | with_reducible assumption | (with_reducible refine Gr.keep hg4 ?_; (repeat (first | with_reducible refine drew1 ?_ | with_reducible refine alloc1 ?_)); with_reducible assumption))) | (go_split_ands; (repeat' apply And.intro) <;> first | with_reducible assumption | (with_reducible refine Gr.keep hg5 ?_; with_reducible assumption) | ((repeat (first | with_reducible refine drew1 ?_ | with_reducible refine alloc1 ?_ | with_reducible refine far1 ?_ (by omega))); first | with_reducible assumption | (with_reducible refine Gr.keep hg5 ?_; (repeat (first | with_reducible refine drew1 ?_ | with_reducible refine alloc1 ?_)); with_reducible assumption)))) (first | (go_at_call 30; (with_reducible refine (hpA.out _).mono ?_); rintro e w4 ⟨rfl, hg4⟩; (have hg9 : Gr w3 w4 := Gr.trans (by (repeat (first | with_reducible exact Gr.refl _ | with_reducible refine Gr.drewN ?_ _ | with_reducible refine Gr.drew ?_ | with_reducible refine Gr.alloc ?_ _ | with_reducible refine Gr.setCell ?_ ?_ _ | (with_reducible refine Gr.trans ?_ (by assumption)) | omega | (dsimp only; omega)))) hg4); have Z2 := Z1.keep hg9; have Y2 := Y1.keep hg9; have v0 := hg9.keep u0; have v1 := hg9.keep u1; have v2 := hg9.keep u2; have v3 := hg9.keep u3; have q0 := (Z2).cell 0 rfl; have q1 := (Z2).cell 1 rfl; have q2 := (Z2).cell 2 rfl; have q3 := (Z2).cell 3 rfl; have q4 := (Z2).cell 4 rfl; have q5 := (Z2).cell 5 rfl; have p0 := (Z2).free 0 (by simp); have p1 := (Z2).free 1 (by simp); have p2 := (Z2).free 2 (by simp); have p3 := (Z2).free 3 (by simp); have p4 := (Z2).free 4 (by simp); have p5 := (Z2).free 5 (by simp); have q0 := (Y2).cell 0 rfl; have q1 := (Y2).cell 1 rfl; have q2 := (Y2).cell 2 rfl; have q3 := (Y2).cell 3 rfl; have q4 := (Y2).cell 4 rfl; have q5 := (Y2).cell 5 rfl; have p0 := (Y2).free 0 (by simp); have p1 := (Y2).free 1 (by simp); have p2 := (Y2).free 2 (by simp); have p3 := (Y2).free 3 (by simp); have p4 := (Y2).free 4 (by simp); have p5 := (Y2).free 5 (by simp)) | (go_at_call 30; (with_reducible refine (hpB.out _).mono ?_); rintro e w5 ⟨rfl, hg5⟩; (have hg9 : Gr w3 w5 := Gr.trans (by (repeat (first | with_reducible exact Gr.refl _ | with_reducible refine Gr.drewN ?_ _ | with_reducible refine Gr.drew ?_ | with_reducible refine Gr.alloc ?_ _ | with_reducible refine Gr.setCell ?_ ?_ _ | (with_reducible refine Gr.trans ?_ (by assumption)) | omega | (dsimp only; omega)))) hg5); have Z2 := Z1.keep hg9; have Y2 := Y1.keep hg9; have v0 := hg9.keep u0; have v1 := hg9.keep u1; have v2 := hg9.keep u2; have v3 := hg9.keep u3; have q0 := (Z2).cell 0 rfl; have q1 := (Z2).cell 1 rfl; have q2 := (Z2).cell 2 rfl; have q3 := (Z2).cell 3 rfl; have q4 := (Z2).cell 4 rfl; have q5 := (Z2).cell 5 rfl; have p0 := (Z2).free 0 (by simp); have p1 := (Z2).free 1 (by simp); have p2 := (Z2).free 2 (by simp); have p3 := (Z2).free 3 (by simp); have p4 := (Z2).free 4 (by simp); have p5 := (Z2).free 5 (by simp); have q0 := (Y2).cell 0 rfl; have q1 := (Y2).cell 1 rfl; have q2 := (Y2).cell 2 rfl; have q3 := (Y2).cell 3 rfl; have q4 := (Y2).cell 4 rfl; have q5 := (Y2).cell 5 rfl; have p0 := (Y2).free 0 (by simp); have p1 := (Y2).free 1 (by simp); have p2 := (Y2).free 2 (by simp); have p3 := (Y2).free 3 (by simp); have p4 := (Y2).free 4 (by simp); have p5 := (Y2).free 5 (by simp)))
        all_goals (go_wp2_with fail; go_meet; have hO1 := Hr1.out.keep hg9; have hO2 := Hr2.out.keep hg9; have hgz := (hg0.trans hg3).trans hg9; with_reducible exact ⟨rfl, rfl, two_end Z2 Y2 (by simp) (by simp) (by omega) hgz (by omega) (by omega) hO1 hO2 (by omega) (by omega) _ _ _ _ _ _ _ _ _ _ _ _⟩)
      case rest =>
        obtain ⟨rfl, rfl, hA, hB, hg4, hO1, hO2⟩ := hcut
        have HO1 := Lib.hid hO1
        have HO2 := Lib.hid hO2
        clear hO1 hO2
        go_wp2_with fail
        refine bodyPost_ret (Bx.ret4 hA hB rfl _ rfl rfl rfl rfl Try.underlying27 rfl (by kernel_rfl) (by kernel_rfl)) rfl ?_
        refine hT.out _ _ ?_
        rw [if_neg (by decide), hk]
        exact ⟨o1, m1, c1, o2, m2, c2, rfl, HO1.out.lower2 (by omega), HO2.out.lower2 (by omega), hg4⟩
  · rw [hgone] at v5 hT
    go_wp2_with (first | ((with_reducible refine wpList_store_box (ty := 27) (Z0) (zL) ?_ ?_ ?_ ?_ ?_ ?_); (focus (exact rfl)); (focus (exact ⟨_, _, rfl, rfl, rfl⟩)); (focus (exact rfl)); (focus kernel_rfl); (focus kernel_rfl)) | ((with_reducible refine wpList_store_box (ty := 27) ((Y0.others (by omega) _)) (zL) ?_ ?_ ?_ ?_ ?_ ?_); (focus (exact rfl)); (focus (exact ⟨_, _, rfl, rfl, rfl⟩)); (focus (exact rfl)); (focus kernel_rfl); (focus kernel_rfl)))
    have ZZ : Bx ((W.setCells (BX + 1) 0 zL).setCells (BX + 2) 0 zL) (BX + 1) zL := (Z0.setAll (us := zL) rfl).others (b' := BX + 2) (by omega) zL
    have YY : Bx ((W.setCells (BX + 1) 0 zL).setCells (BX + 2) 0 zL) (BX + 2) zL := (Y0.others (b' := BX + 1) (by omega) zL).setAll (us := zL) rfl
    refine bodyPost_ret (Bx.ret4 ZZ YY rfl _ rfl rfl rfl rfl Try.underlying27 rfl (by kernel_rfl) (by kernel_rfl)) rfl ?_
    refine hT.out _ _ ?_
    rw [if_pos trivial]
    exact ⟨rfl, (hg0.setCells (by omega) _ _).setCells (by omega) _ _⟩
end Go.Proofs.Ytidfelbaegaphaa
