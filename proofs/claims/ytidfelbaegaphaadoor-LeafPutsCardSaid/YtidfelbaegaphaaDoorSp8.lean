import Derived.Test.YtidfelbaegaphaaDoorSp7
namespace Go.Proofs.YtidfelbaegaphaaDoor
set_option linter.unusedVariables false
set_option linter.unusedSimpArgs false
open Go.BigFrame Go.RowKit Go.WideShapes

theorem wpList_store_box {P : Program} {ops : Array Oper} {rest : List Oper} {op : Oper} {a : Act} {w : World} {Q : Exit → Act → World → Prop} {b : Nat} {vs : List Value} {ty : TypeId} (hb : Bx w b vs) (us : List Value) (hgd : op.guard = none)
    (ho : ∃ x y, op.op = .store ty x y ∧ a.eval x = .pointer (some ⟨b, 0, none⟩) ∧ a.eval y = .agg us.toArray) (hl : us.length = vs.length) (hi : (P.info? ty).map (·.size) = some us.length) (h1 : us.all (·.oneCell') = true)
    (h : wpList P ops Q rest (a.put op.dst undef) (w.setCells b 0 us)) : wpList P ops Q (op :: rest) a w := by
  obtain ⟨x, y, h2, h3, h4⟩ := ho
  refine wpList_store_mid hgd ty x y h2 b 0 us.toArray h3 h4 ?_ (by simpa using hi) (by simpa using h1) (by simpa using h)
  have := hb.may
  rw [← hl] at this
  simpa using this
theorem wpList_load_box {P : Program} {ops : Array Oper} {rest : List Oper} {op : Oper} {a : Act} {w : World} {Q : Exit → Act → World → Prop} {b : Nat} {vs : List Value} {ty : TypeId} (hb : Bx w b vs) {d : TypeDesc} (hgd : op.guard = none)
    (ho : ∃ x, op.op = .load ty x ∧ a.eval x = .pointer (some ⟨b, 0, none⟩)) (hu : P.underlying ty = some d) (hd : d.isRow = true) (hi : (P.info? ty).map (·.size) = some vs.length)
    (h : wpList P ops Q rest (a.put op.dst (.agg vs.toArray)) w) : wpList P ops Q (op :: rest) a w := by
  obtain ⟨x, h2, h3⟩ := ho
  exact wpList_load_mid hgd ty x h2 b 0 h3 vs d hb.rng hu hd hi h
theorem Bx.ret4 {P : Program} {w : World} {b c : Nat} {vs us : List Value} (h : Bx w b vs) (k : Bx w c us) {fn : Func} {t p q u : Tmp} {ty : TypeId} (hr : fn.results = #[.tmp t, .cell p ty, .cell q ty, .tmp u]) (tmps : Array Value) (hp : tmps.getD p undef = .pointer (some ⟨b, 0, none⟩)) (hq : tmps.getD q undef = .pointer (some ⟨c, 0, none⟩)) {x y : Value} (hx : tmps.getD t undef = x) (hy : tmps.getD u undef = y)
    {d : TypeDesc} (hu : P.underlying ty = some d) (hd : d.isRow = true) (hi : (P.info? ty).map (·.size) = some vs.length) (hj : (P.info? ty).map (·.size) = some us.length) : (results fn tmps).run P w = .ok (.tuple #[x, .agg vs.toArray, .agg us.toArray, y]) w := by
  have hp' : tmps[p]?.getD undef = .pointer (some ⟨b, 0, none⟩) := by simpa using hp
  have hq' : tmps[q]?.getD undef = .pointer (some ⟨c, 0, none⟩) := by simpa using hq
  have hx' : tmps[t]?.getD undef = x := by simpa using hx
  have hy' : tmps[u]?.getD undef = y := by simpa using hy
  simp [results, hr, hp', hq', hx', hy', asAddr, run_loadVar_mid w b 0 ty vs d h.rng hu hd hi, run_loadVar_mid w c 0 ty us d k.rng hu hd hj]
theorem Bx.ret3 {P : Program} {w : World} {b c : Nat} {vs us : List Value} (h : Bx w b vs) (k : Bx w c us) {fn : Func} {p q u : Tmp} {ty : TypeId} (hr : fn.results = #[.cell p ty, .cell q ty, .tmp u]) (tmps : Array Value) (hp : tmps.getD p undef = .pointer (some ⟨b, 0, none⟩)) (hq : tmps.getD q undef = .pointer (some ⟨c, 0, none⟩)) {y : Value} (hy : tmps.getD u undef = y)
    {d : TypeDesc} (hu : P.underlying ty = some d) (hd : d.isRow = true) (hi : (P.info? ty).map (·.size) = some vs.length) (hj : (P.info? ty).map (·.size) = some us.length) : (results fn tmps).run P w = .ok (.tuple #[.agg vs.toArray, .agg us.toArray, y]) w := by
  have hp' : tmps[p]?.getD undef = .pointer (some ⟨b, 0, none⟩) := by simpa using hp
  have hq' : tmps[q]?.getD undef = .pointer (some ⟨c, 0, none⟩) := by simpa using hq
  have hy' : tmps[u]?.getD undef = y := by simpa using hy
  simp [results, hr, hp', hq', hy', asAddr, run_loadVar_mid w b 0 ty vs d h.rng hu hd hi, run_loadVar_mid w c 0 ty us d k.rng hu hd hj]
theorem two_end {w w3 : World} {b c base : Nat} {zs ys : List Value} (hz : Bx w3 b zs) (hy : Bx w3 c ys) (lz : zs.length = 6) (ly : ys.length = 6) (hbc : b ≠ c) (hg : Gr w w3) (hb : w.heap.size ≤ b) (hc : w.heap.size ≤ c) {o1 o2 : Option Addr} {n1 n2 c1 c2 : Nat} {l1 l2 : List Rw} (h1 : OwnAt w3 base o1 n1 c1 l1) (h2 : OwnAt w3 base o2 n2 c2 l2) (k1 : b < base) (k2 : c < base) (a0 a1 a2 a3 a4 a5 d0 d1 d2 d3 d4 d5 : Value) :
    Bx (chain6 (chain6 w3 b a0 a1 a2 a3 a4 a5) c d0 d1 d2 d3 d4 d5) b [a0, a1, a2, a3, a4, a5] ∧ Bx (chain6 (chain6 w3 b a0 a1 a2 a3 a4 a5) c d0 d1 d2 d3 d4 d5) c [d0, d1, d2, d3, d4, d5] ∧ Gr w (chain6 (chain6 w3 b a0 a1 a2 a3 a4 a5) c d0 d1 d2 d3 d4 d5) ∧
      OwnAt (chain6 (chain6 w3 b a0 a1 a2 a3 a4 a5) c d0 d1 d2 d3 d4 d5) base o1 n1 c1 l1 ∧ OwnAt (chain6 (chain6 w3 b a0 a1 a2 a3 a4 a5) c d0 d1 d2 d3 d4 d5) base o2 n2 c2 l2 := by
  show Bx ((w3.setCells b 0 [a0, a1, a2, a3, a4, a5]).setCells c 0 [d0, d1, d2, d3, d4, d5]) b _ ∧ Bx ((w3.setCells b 0 [a0, a1, a2, a3, a4, a5]).setCells c 0 [d0, d1, d2, d3, d4, d5]) c _ ∧ Gr w ((w3.setCells b 0 [a0, a1, a2, a3, a4, a5]).setCells c 0 [d0, d1, d2, d3, d4, d5]) ∧ OwnAt ((w3.setCells b 0 [a0, a1, a2, a3, a4, a5]).setCells c 0 [d0, d1, d2, d3, d4, d5]) base o1 n1 c1 l1 ∧ OwnAt ((w3.setCells b 0 [a0, a1, a2, a3, a4, a5]).setCells c 0 [d0, d1, d2, d3, d4, d5]) base o2 n2 c2 l2
  have ne : ∀ {o : Option Addr} {n cc : Nat} {l : List Rw} {x : Nat}, OwnAt w3 base o n cc l → x < base → Value.ownBlock (.slice o n cc) ≠ some x := fun h hx q => by have := h.block q; omega
  exact ⟨(hz.setAll (by rw [lz]; rfl)).others hbc _, (hy.others (fun q => hbc q.symm) _).setAll (by rw [ly]; rfl), (hg.setCells hb _ _).setCells hc _ _, (h1.setOther (ne h1 k1) _ _).setOther (ne h1 k2) _ _, (h2.setOther (ne h2 k1) _ _).setOther (ne h2 k2) _ _⟩
/-- a leaf's halves, or why not -/
def hvV (v : Vw) : Option ByteArray × Int := if v.gone = true then (none, 13) else hvK v.rows
abbrev hvA (v : Vw) (key : ByteArray) : Vw := ⟨v.low, key, false, 0, v.rows.take (v.rows.length / 2), false⟩
abbrev hvB (v : Vw) (key : ByteArray) : Vw := ⟨key, v.high, v.unb, v.right, v.rows.drop (v.rows.length / 2), false⟩
def HalvesTells (w : World) (v : Vw) (e : Ending) (w' : World) : Prop :=
  match (hvV v).1 with
  | some key => ∃ o1 m1 c1 o2 m2 c2, e = .returned (.tuple #[.string key, vwV (hvA v key) o1 m1 c1, vwV (hvB v key) o2 m2 c2, .nilIface]) ∧ OwnAt w' w.heap.size o1 m1 c1 (v.rows.take (v.rows.length / 2)) ∧ OwnAt w' w.heap.size o2 m2 c2 (v.rows.drop (v.rows.length / 2)) ∧ Gr w w'
  | none => e = .returned (.tuple #[.string ⟨#[]⟩, zV, zV, errV (hvV v).2]) ∧ Gr w w'
set_option maxRecDepth 100000 in
set_option maxHeartbeats 2000000 in
theorem halves_any (v : Vw) (oa : Option Addr) (n cap : Nat) (w : World) (h : RowsAt w oa n cap v.rows) (hn : n ≤ 1000000) :
    Calls Tryd.prog 36 #[vwV v oa n cap] w (HalvesTells w v) := by
  have s1 := size_alloc1
  have B0 : Bx (((w.alloc (.cells (vL v oa n cap).toArray 28)).alloc (.cells zL.toArray 28)).alloc (.cells zL.toArray 28)) w.heap.size (vL v oa n cap) := (((Bx.new w _ _ rfl).keep ((Gr.refl _).alloc _)).keep ((Gr.refl _).alloc _)).of (by simp)
  have Z0 : Bx (((w.alloc (.cells (vL v oa n cap).toArray 28)).alloc (.cells zL.toArray 28)).alloc (.cells zL.toArray 28)) (w.heap.size + 1) zL := ((Bx.new (w.alloc _) _ _ (by rw [s1])).keep ((Gr.refl _).alloc _)).of (by simp)
  have Y0 : Bx (((w.alloc (.cells (vL v oa n cap).toArray 28)).alloc (.cells zL.toArray 28)).alloc (.cells zL.toArray 28)) (w.heap.size + 2) zL := (Bx.new ((w.alloc _).alloc _) _ _ (by rw [s1, s1])).of (by simp)
  have hg0 : Gr w (((w.alloc (.cells (vL v oa n cap).toArray 28)).alloc (.cells zL.toArray 28)).alloc (.cells zL.toArray 28)) := (((Gr.refl _).alloc _).alloc _).alloc _
  have hsz : (((w.alloc (.cells (vL v oa n cap).toArray 28)).alloc (.cells zL.toArray 28)).alloc (.cells zL.toArray 28)).heap.size = w.heap.size + 3 := by rw [s1, s1, s1]
  have hT : Hid (∀ (e : Ending) (w' : World), (match (if v.gone = true then (none, 13) else hvK v.rows : Option ByteArray × Int).1 with
  | some key => ∃ o1 m1 c1 o2 m2 c2, e = .returned (.tuple #[.string key, vwV (hvA v key) o1 m1 c1, vwV (hvB v key) o2 m2 c2, .nilIface]) ∧ OwnAt w' w.heap.size o1 m1 c1 (v.rows.take (v.rows.length / 2)) ∧ OwnAt w' w.heap.size o2 m2 c2 (v.rows.drop (v.rows.length / 2)) ∧ Gr w w'
  | none => e = .returned (.tuple #[.string ⟨#[]⟩, zV, zV, errV (if v.gone = true then (none, 13) else hvK v.rows : Option ByteArray × Int).2]) ∧ Gr w w') → HalvesTells w v e w') := Lib.hid fun e w' q => q
  generalize HalvesTells w v = HT at *
  go_enter Tryd.func36, Tryd.ntmps36
  go_upto_region 1 with fail
  generalize ((w.alloc (.cells (vL v oa n cap).toArray 28)).alloc (.cells zL.toArray 28)).alloc (.cells zL.toArray 28) = W at *
  have Hsz := Lib.hid hsz
  clear hsz s1
  generalize hBX : w.heap.size = BX at *
  have hRW := Lib.hid fun w1 (hq : Gr W w1) => h.keep (hg0.trans hq)
  clear h
  have v0 := B0.cell 0 rfl
  have v1 := B0.cell 1 rfl
  have v2 := B0.cell 2 rfl
  have v3 := B0.cell 3 rfl
  have v4 := B0.cell 4 rfl
  have v5 := B0.cell 5 rfl
  cases hgone : v.gone
  · rw [hgone] at v5 hT
    go_upto_region 3 with fail
    cases hk : (hvK v.rows).1 with
    | none =>
      go_wp2_with (first | (go_at_call 54; (with_reducible refine (halve_any _ _ _ _ _ (hRW.out _ (Gr.refl _)) hn).mono ?_); rintro e w3 hq; unfold HalveTells at hq; rw [hk] at hq; obtain ⟨rfl, hg3⟩ := hq; have Z1 := Z0.keep hg3; have Y1 := Y0.keep hg3) | ((with_reducible refine wpList_store_box (ty := 28) (Z1) (zL) ?_ ?_ ?_ ?_ ?_ ?_); (focus (exact rfl)); (focus (exact ⟨_, _, rfl, rfl, rfl⟩)); (focus (exact rfl)); (focus kernel_rfl); (focus kernel_rfl)) | ((with_reducible refine wpList_store_box (ty := 28) ((Y1.others (by omega) _)) (zL) ?_ ?_ ?_ ?_ ?_ ?_); (focus (exact rfl)); (focus (exact ⟨_, _, rfl, rfl, rfl⟩)); (focus (exact rfl)); (focus kernel_rfl); (focus kernel_rfl)))
      have ZZ : Bx ((w3.setCells (BX + 1) 0 zL).setCells (BX + 2) 0 zL) (BX + 1) zL := (Z1.setAll (us := zL) rfl).others (b' := BX + 2) (by omega) zL
      have YY : Bx ((w3.setCells (BX + 1) 0 zL).setCells (BX + 2) 0 zL) (BX + 2) zL := (Y1.others (b' := BX + 1) (by omega) zL).setAll (us := zL) rfl
      refine bodyPost_ret (Bx.ret4 ZZ YY rfl _ rfl rfl rfl rfl Tryd.underlying28 rfl (by kernel_rfl) (by kernel_rfl)) rfl ?_
      refine hT.out _ _ ?_
      rw [if_neg (by decide)]
      rw [hk]
      exact ⟨rfl, ((hg0.trans hg3).setCells (by omega) _ _).setCells (by omega) _ _⟩
    | some key =>
      have hsz := Hsz.out
      go_upto_region 4 with (first | (go_at_call 54; (with_reducible refine (halve_any _ _ _ _ _ (hRW.out _ (Gr.refl _)) hn).mono ?_); rintro e w3 hq; unfold HalveTells at hq; rw [hk] at hq; obtain ⟨o1, m1, c1, o2, m2, c2, rfl, hr1, hr2, hg3⟩ := hq; have Z1 := Z0.keep hg3; have Y1 := Y0.keep hg3))
      have Hr1 := Lib.hid hr1
      have Hr2 := Lib.hid hr2
      have u0 := hg3.keep v0
      have u1 := hg3.keep v1
      have u2 := hg3.keep v2
      have u3 := hg3.keep v3
      have hle := hg3.le
      clear v0 v1 v2 v3 v4 v5 hr1 hr2 B0 Z0 Y0
      go_upto_region 7 with fail
      go_cut [2, 5] (fun s2 s5 wx => s2 = .string key ∧ s5 = .nilIface ∧ Bx wx (BX + 1) (vL (hvA v key) o1 m1 c1) ∧ Bx wx (BX + 2) (vL (hvB v key) o2 m2 c2) ∧ Gr w wx ∧ OwnAt wx W.heap.size o1 m1 c1 (v.rows.take (v.rows.length / 2)) ∧ OwnAt wx W.heap.size o2 m2 c2 (v.rows.drop (v.rows.length / 2)))
      case first =>
        have hpA := Lib.hid fun w1 => part_any v.low key false 0 o1 m1 c1 w1
        have hpB := Lib.hid fun w1 => part_any key v.high v.unb v.right o2 m2 c2 w1
        go_region_held3 (fun W' => W'.cell? ⟨BX, 0, none⟩ = some (.string v.low) ∧ W'.cell? ⟨BX, 1, none⟩ = some (.string v.high) ∧ W'.cell? ⟨BX, 2, none⟩ = some (.bool v.unb) ∧ W'.cell? ⟨BX, 3, none⟩ = some (.int .i64 v.right))
          (first | (go_split_ands; (repeat' apply And.intro) <;> first | with_reducible assumption | (with_reducible refine Gr.keep hg4 ?_; with_reducible assumption) | ((repeat (first | with_reducible refine drew1 ?_ | with_reducible refine alloc1 ?_ | with_reducible refine far1 ?_ (by omega))); first | with_reducible assumption | (with_reducible refine Gr.keep hg4 ?_; (repeat (first | with_reducible refine drew1 ?_ | with_reducible refine alloc1 ?_)); with_reducible assumption))) | (go_split_ands; (repeat' apply And.intro) <;> first | with_reducible assumption | (with_reducible refine Gr.keep hg5 ?_; with_reducible assumption) | ((repeat (first | with_reducible refine drew1 ?_ | with_reducible refine alloc1 ?_ | with_reducible refine far1 ?_ (by omega))); first | with_reducible assumption | (with_reducible refine Gr.keep hg5 ?_; (repeat (first | with_reducible refine drew1 ?_ | with_reducible refine alloc1 ?_)); with_reducible assumption)))) (first | (go_at_call 55; (with_reducible refine (hpA.out _).mono ?_); rintro e w4 ⟨rfl, hg4⟩; (have hg9 : Gr w3 w4 := Gr.trans (by (repeat (first | with_reducible exact Gr.refl _ | with_reducible refine Gr.drewN ?_ _ | with_reducible refine Gr.drew ?_ | with_reducible refine Gr.alloc ?_ _ | with_reducible refine Gr.setCell ?_ ?_ _ | (with_reducible refine Gr.trans ?_ (by assumption)) | omega | (dsimp only; omega)))) hg4); have Z2 := Z1.keep hg9; have Y2 := Y1.keep hg9; have v0 := hg9.keep u0; have v1 := hg9.keep u1; have v2 := hg9.keep u2; have v3 := hg9.keep u3; have q0 := (Z2).cell 0 rfl; have q1 := (Z2).cell 1 rfl; have q2 := (Z2).cell 2 rfl; have q3 := (Z2).cell 3 rfl; have q4 := (Z2).cell 4 rfl; have q5 := (Z2).cell 5 rfl; have p0 := (Z2).free 0 (by simp); have p1 := (Z2).free 1 (by simp); have p2 := (Z2).free 2 (by simp); have p3 := (Z2).free 3 (by simp); have p4 := (Z2).free 4 (by simp); have p5 := (Z2).free 5 (by simp); have q0 := (Y2).cell 0 rfl; have q1 := (Y2).cell 1 rfl; have q2 := (Y2).cell 2 rfl; have q3 := (Y2).cell 3 rfl; have q4 := (Y2).cell 4 rfl; have q5 := (Y2).cell 5 rfl; have p0 := (Y2).free 0 (by simp); have p1 := (Y2).free 1 (by simp); have p2 := (Y2).free 2 (by simp); have p3 := (Y2).free 3 (by simp); have p4 := (Y2).free 4 (by simp); have p5 := (Y2).free 5 (by simp)) | (go_at_call 55; (with_reducible refine (hpB.out _).mono ?_); rintro e w5 ⟨rfl, hg5⟩; (have hg9 : Gr w3 w5 := Gr.trans (by (repeat (first | with_reducible exact Gr.refl _ | with_reducible refine Gr.drewN ?_ _ | with_reducible refine Gr.drew ?_ | with_reducible refine Gr.alloc ?_ _ | with_reducible refine Gr.setCell ?_ ?_ _ | (with_reducible refine Gr.trans ?_ (by assumption)) | omega | (dsimp only; omega)))) hg5); have Z2 := Z1.keep hg9; have Y2 := Y1.keep hg9; have v0 := hg9.keep u0; have v1 := hg9.keep u1; have v2 := hg9.keep u2; have v3 := hg9.keep u3; have q0 := (Z2).cell 0 rfl; have q1 := (Z2).cell 1 rfl; have q2 := (Z2).cell 2 rfl; have q3 := (Z2).cell 3 rfl; have q4 := (Z2).cell 4 rfl; have q5 := (Z2).cell 5 rfl; have p0 := (Z2).free 0 (by simp); have p1 := (Z2).free 1 (by simp); have p2 := (Z2).free 2 (by simp); have p3 := (Z2).free 3 (by simp); have p4 := (Z2).free 4 (by simp); have p5 := (Z2).free 5 (by simp); have q0 := (Y2).cell 0 rfl; have q1 := (Y2).cell 1 rfl; have q2 := (Y2).cell 2 rfl; have q3 := (Y2).cell 3 rfl; have q4 := (Y2).cell 4 rfl; have q5 := (Y2).cell 5 rfl; have p0 := (Y2).free 0 (by simp); have p1 := (Y2).free 1 (by simp); have p2 := (Y2).free 2 (by simp); have p3 := (Y2).free 3 (by simp); have p4 := (Y2).free 4 (by simp); have p5 := (Y2).free 5 (by simp)))
        all_goals (go_wp2_with fail; go_meet; have hO1 := Hr1.out.keep hg9; have hO2 := Hr2.out.keep hg9; have hgz := (hg0.trans hg3).trans hg9; with_reducible exact ⟨rfl, rfl, two_end Z2 Y2 (by simp) (by simp) (by omega) hgz (by omega) (by omega) hO1 hO2 (by omega) (by omega) _ _ _ _ _ _ _ _ _ _ _ _⟩)
      case rest =>
        obtain ⟨rfl, rfl, hA, hB, hg4, hO1, hO2⟩ := hcut
        have HO1 := Lib.hid hO1
        have HO2 := Lib.hid hO2
        clear hO1 hO2
        go_wp2_with fail
        refine bodyPost_ret (Bx.ret4 hA hB rfl _ rfl rfl rfl rfl Tryd.underlying28 rfl (by kernel_rfl) (by kernel_rfl)) rfl ?_
        refine hT.out _ _ ?_
        rw [if_neg (by decide), hk]
        exact ⟨o1, m1, c1, o2, m2, c2, rfl, HO1.out.lower2 (by omega), HO2.out.lower2 (by omega), hg4⟩
  · rw [hgone] at v5 hT
    go_wp2_with (first | ((with_reducible refine wpList_store_box (ty := 28) (Z0) (zL) ?_ ?_ ?_ ?_ ?_ ?_); (focus (exact rfl)); (focus (exact ⟨_, _, rfl, rfl, rfl⟩)); (focus (exact rfl)); (focus kernel_rfl); (focus kernel_rfl)) | ((with_reducible refine wpList_store_box (ty := 28) ((Y0.others (by omega) _)) (zL) ?_ ?_ ?_ ?_ ?_ ?_); (focus (exact rfl)); (focus (exact ⟨_, _, rfl, rfl, rfl⟩)); (focus (exact rfl)); (focus kernel_rfl); (focus kernel_rfl)))
    have ZZ : Bx ((W.setCells (BX + 1) 0 zL).setCells (BX + 2) 0 zL) (BX + 1) zL := (Z0.setAll (us := zL) rfl).others (b' := BX + 2) (by omega) zL
    have YY : Bx ((W.setCells (BX + 1) 0 zL).setCells (BX + 2) 0 zL) (BX + 2) zL := (Y0.others (b' := BX + 1) (by omega) zL).setAll (us := zL) rfl
    refine bodyPost_ret (Bx.ret4 ZZ YY rfl _ rfl rfl rfl rfl Tryd.underlying28 rfl (by kernel_rfl) (by kernel_rfl)) rfl ?_
    refine hT.out _ _ ?_
    rw [if_pos trivial]
    exact ⟨rfl, (hg0.setCells (by omega) _ _).setCells (by omega) _ _⟩
end Go.Proofs.YtidfelbaegaphaaDoor
