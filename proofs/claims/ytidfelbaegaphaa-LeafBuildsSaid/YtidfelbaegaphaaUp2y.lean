import Derived.Test.YtidfelbaegaphaaLvy
namespace Go.Proofs.Ytidfelbaegaphaa
set_option linter.unusedVariables false
set_option linter.unusedSimpArgs false
open Go.BigFrame Go.RowKit Go.WideShapes

set_option maxRecDepth 100000 in
set_option maxHeartbeats 4000000 in
theorem up_del {base : Nat} (v : Vw) (x : Rx) (oa : Option Addr) (n cap : Nat) (oa2 : Option Addr) (n2 cap2 : Nat) (ob : Option Addr) (m cap3 : Nat) (w : World) (hR : RowsAt w oa n cap v.rows) (hn : n ≤ 1000000) (hb : base ≤ w.heap.size) (hv : VwSz v) (hx : RxSz x) (hk : x.r.kind = 3) :
    Calls Try.prog 28 #[vwV v oa n cap, rxV x oa2 n2 cap2 ob m cap3] w (UpPost base w (upP v x.r)) := by
  have hU : upP v x.r = if v.gone = false ∧ hasK v x.r.key = true then some { v with rows := dropL v.rows x.r.key } else none := by
    unfold upP; rw [if_neg (by omega), if_pos hk]
  have HU := Lib.hid hU
  generalize upP v x.r = res at *
  obtain ⟨B0, hg0⟩ := up_boxes w v x oa n cap oa2 n2 cap2 ob m cap3
  have Hk := Lib.hid hk
  unfold upW at *
  clear hk hU
  obtain ⟨low, high, unb, right, rows, gone⟩ := v
  dsimp only at *
  generalize hBX : w.heap.size = BX at *
  go_enter Try.func28, Try.ntmps28
  go_upto_region 1 with fail
  generalize ((w.alloc (.cells #[.string low, .string high, .bool unb, .int .i64 right, .slice oa n cap, .bool gone] 27)).alloc (.cells #[.int .i64 x.r.kind, .string x.r.low, .string x.r.high, .bool x.r.unb, .int .i64 x.r.right, .slice oa2 n2 cap2, .slice ob m cap3, .string x.r.key, .string x.r.val, .int .i64 x.r.page, .int .i64 x.hpage, .int .i64 x.hleft, .string x.hkey, .int .i64 x.slot, .int .i64 x.gen] 35)).alloc (.cells #[.string ⟨#[]⟩, .string ⟨#[]⟩, .bool false, .int .i64 0, .slice none 0 0, .bool false] 27) = W at *
  have v5 := B0.v.cell 5 rfl
  have x0 := B0.x.cell 0 rfl
  have v4 := B0.v.cell 4 rfl
  have x7 := B0.x.cell 7 rfl
  rw [Hk.out] at x0
  have hlt := B0.lt
  have hP := Lib.hid (fun w1 (hq : Gr W w1) => drop_own oa n cap rows x.r.key w1 (hR.keep (hg0.trans hq)) hn hx.key)
  have HU2 := HU
  go_wp2_with fail
  refine (hP.out _ (Gr.refl _)).mono ?_
  rintro e w1 ⟨o1, m1, c1, rfl, hO1, hg1⟩
  have B1 := B0.keep hg1
  have v4' := B1.v.cell 4 rfl
  have f4 := B1.v.free 4 (by simp)
  clear v4 v5 x0 x7
  go_upto_region 14 with fail
  have hgW : Gr w (w1.setCell ⟨BX, 4, none⟩ (.slice o1 m1 c1)) := (hg0.trans hg1).setCell (Nat.le_of_eq hBX) _
  have B2 := B1.setV 4 (.slice o1 m1 c1)
  have hO2 := hO1.setLow (b := BX) (i := 4) (u := .slice o1 m1 c1) (by omega)
  have HO2 := Lib.hid hO2
  clear hO1 hO2
  generalize w1.setCell ⟨BX, 4, none⟩ (.slice o1 m1 c1) = W2 at *
  have hz2 : w.heap.size ≤ BX + 1 + 1 := by omega
  have hlow : BX + 1 + 1 < W.heap.size := by omega
  have hfin := Lib.hid fun (W3 : World) (hq : Gr W2 W3) (b : Bool) => up_end (base := base) (base2 := W.heap.size) (B2.z.keep hq) rfl (hgW.trans hq) hz2 (HO2.out.keep hq) hlow (by omega) (.string low) (.string high) (.bool unb) (.int .i64 right) (.slice o1 m1 c1) (.bool b)
  clear hR hP
  cases gone
  all_goals simp only [Bool.not_false, Bool.not_true]
  · have hH := Lib.hid fun w3 => has_any ⟨low, high, unb, right, rows, false⟩ o1 m1 c1 x.r.key w3 ⟨hv.low, hv.high⟩ hx.key
    have v0 := (B2).v.cell 0 rfl; have v1 := (B2).v.cell 1 rfl; have v2 := (B2).v.cell 2 rfl; have v3 := (B2).v.cell 3 rfl; have v4 := (B2).v.cell 4 rfl; have v5 := (B2).v.cell 5 rfl; have z0 := (B2).z.cell 0 rfl; have z1 := (B2).z.cell 1 rfl; have z2 := (B2).z.cell 2 rfl; have z3 := (B2).z.cell 3 rfl; have z4 := (B2).z.cell 4 rfl; have z5 := (B2).z.cell 5 rfl; have f0 := (B2).z.free 0 (by simp); have f1 := (B2).z.free 1 (by simp); have f2 := (B2).z.free 2 (by simp); have f3 := (B2).z.free 3 (by simp); have f4 := (B2).z.free 4 (by simp); have f5 := (B2).z.free 5 (by simp)
    have x7 := B2.x.cell 7 rfl
    go_cut [5] (fun s5 wx => s5 = .bool (hasK ⟨low, high, unb, right, rows, false⟩ x.r.key) ∧ UpEnd base BX w wx [.string low, .string high, .bool unb, .int .i64 right, .slice o1 m1 c1, .bool false] o1 m1 c1 (dropL rows x.r.key))
    case first =>
      go_region_held3 (fun W' => W'.cell? ⟨BX, 0, none⟩ = some (.string low) ∧ W'.cell? ⟨BX, 1, none⟩ = some (.string high) ∧ W'.cell? ⟨BX, 2, none⟩ = some (.bool unb) ∧ W'.cell? ⟨BX, 3, none⟩ = some (.int .i64 right) ∧ W'.cell? ⟨BX, 4, none⟩ = some (.slice o1 m1 c1) ∧ W'.cell? ⟨BX, 5, none⟩ = some (.bool false) ∧ W'.cell? ⟨BX + 1, 7, none⟩ = some (.string x.r.key))
        ((go_split_ands; (repeat' apply And.intro) <;> first | with_reducible assumption | (with_reducible refine drew1 ?_; with_reducible assumption) | (with_reducible refine Gr.keep hg3 ?_; with_reducible assumption) | ((repeat (with_reducible refine far1 ?_ (by omega))); with_reducible assumption))) (first | (go_at_call 38; refine (hH.out _).mono ?_; rintro e w3 ⟨rfl, hg3⟩; have B3 := B2.keep (((Gr.refl W2).drew).trans hg3); have v0 := (B3).v.cell 0 rfl; have v1 := (B3).v.cell 1 rfl; have v2 := (B3).v.cell 2 rfl; have v3 := (B3).v.cell 3 rfl; have v4 := (B3).v.cell 4 rfl; have v5 := (B3).v.cell 5 rfl; have z0 := (B3).z.cell 0 rfl; have z1 := (B3).z.cell 1 rfl; have z2 := (B3).z.cell 2 rfl; have z3 := (B3).z.cell 3 rfl; have z4 := (B3).z.cell 4 rfl; have z5 := (B3).z.cell 5 rfl; have f0 := (B3).z.free 0 (by simp); have f1 := (B3).z.free 1 (by simp); have f2 := (B3).z.free 2 (by simp); have f3 := (B3).z.free 3 (by simp); have f4 := (B3).z.free 4 (by simp); have f5 := (B3).z.free 5 (by simp)))
      all_goals (go_wp2_with fail; go_meet; with_reducible exact ⟨rfl, hfin.out _ (((Gr.refl W2).drew).trans hg3) false⟩)
    case rest =>
      obtain ⟨rfl, hE⟩ := hcut
      go_wp2_with fail
      refine bodyPost_ret (Bx.ret2 hE.z rfl _ rfl rfl Try.underlying27 rfl (by kernel_rfl)) rfl ?_
      exact UpPost.mk (v2 := ⟨low, high, unb, right, dropL rows x.r.key, false⟩) (by rw [HU2.out]; simp) (fun _ => hE.own) hE.gr rfl
  · have hno : res = none := by rw [HU2.out]; simp
    have Hno := Lib.hid hno
    clear hno
    have v0 := (B2).v.cell 0 rfl; have v1 := (B2).v.cell 1 rfl; have v2 := (B2).v.cell 2 rfl; have v3 := (B2).v.cell 3 rfl; have v4 := (B2).v.cell 4 rfl; have v5 := (B2).v.cell 5 rfl; have z0 := (B2).z.cell 0 rfl; have z1 := (B2).z.cell 1 rfl; have z2 := (B2).z.cell 2 rfl; have z3 := (B2).z.cell 3 rfl; have z4 := (B2).z.cell 4 rfl; have z5 := (B2).z.cell 5 rfl; have f0 := (B2).z.free 0 (by simp); have f1 := (B2).z.free 1 (by simp); have f2 := (B2).z.free 2 (by simp); have f3 := (B2).z.free 3 (by simp); have f4 := (B2).z.free 4 (by simp); have f5 := (B2).z.free 5 (by simp)
    go_cut [5] (fun s5 wx => s5 = .bool false ∧ UpEnd base BX w wx [.string low, .string high, .bool unb, .int .i64 right, .slice o1 m1 c1, .bool true] o1 m1 c1 (dropL rows x.r.key))
    case first =>
      go_region
      all_goals (go_wp2_with fail; go_meet; with_reducible exact ⟨rfl, (hfin.out _ (Gr.refl W2) true).drew⟩)
    case rest =>
      obtain ⟨rfl, hE⟩ := hcut
      go_wp2_with fail
      refine bodyPost_ret (Bx.ret2 hE.z rfl _ rfl rfl Try.underlying27 rfl (by kernel_rfl)) rfl ?_
      exact UpPost.no Hno.out hE.gr rfl
end Go.Proofs.Ytidfelbaegaphaa

namespace Go.Proofs.Ytidfelbaegaphaa
set_option linter.unusedVariables false
set_option linter.unusedSimpArgs false
open Go.BigFrame Go.RowKit Go.WideShapes

/-- what up tells of a record that says that the leaf goes -/
def UpRem (w : World) (v : Vw) (oa : Option Addr) (n cap : Nat) (e : Ending) (w' : World) : Prop :=
  if v.gone = false then e = .returned (.tuple #[vwV { v with gone := true } oa n cap, .bool true]) ∧ Gr w w' else ∃ (a b : ByteArray) (u g : Bool) (r : Int) (o : Option Addr) (n c : Nat), e = .returned (.tuple #[.agg #[.string a, .string b, .bool u, .int .i64 r, .slice o n c, .bool g], .bool false]) ∧ Gr w w'
set_option maxRecDepth 100000 in
set_option maxHeartbeats 4000000 in
theorem up_rem (v : Vw) (x : Rx) (oa : Option Addr) (n cap : Nat) (oa2 : Option Addr) (n2 cap2 : Nat) (ob : Option Addr) (m cap3 : Nat) (w : World) (hk : x.r.kind = 5) :
    Calls Try.prog 28 #[vwV v oa n cap, rxV x oa2 n2 cap2 ob m cap3] w (UpRem w v oa n cap) := by
  obtain ⟨B0, hg0⟩ := up_boxes w v x oa n cap oa2 n2 cap2 ob m cap3
  have Hk := Lib.hid hk
  unfold upW at *
  clear hk
  obtain ⟨low, high, unb, right, rows, gone⟩ := v
  dsimp only at *
  generalize hBX : w.heap.size = BX at *
  go_enter Try.func28, Try.ntmps28
  go_upto_region 1 with fail
  generalize ((w.alloc (.cells #[.string low, .string high, .bool unb, .int .i64 right, .slice oa n cap, .bool gone] 27)).alloc (.cells #[.int .i64 x.r.kind, .string x.r.low, .string x.r.high, .bool x.r.unb, .int .i64 x.r.right, .slice oa2 n2 cap2, .slice ob m cap3, .string x.r.key, .string x.r.val, .int .i64 x.r.page, .int .i64 x.hpage, .int .i64 x.hleft, .string x.hkey, .int .i64 x.slot, .int .i64 x.gen] 35)).alloc (.cells #[.string ⟨#[]⟩, .string ⟨#[]⟩, .bool false, .int .i64 0, .slice none 0 0, .bool false] 27) = W at *
  have v5 := B0.v.cell 5 rfl
  have x0 := B0.x.cell 0 rfl
  rw [Hk.out] at x0
  have hlt := B0.lt
  have f5 := B0.v.free 5 (by simp)
  cases gone
  all_goals
    go_upto_region 25 with fail
    have B3 : Up3 (W.setCell ⟨BX, 5, none⟩ (.bool true)) BX [.string low, .string high, .bool unb, .int .i64 right, .slice oa n cap, .bool true] (xL x oa2 n2 cap2 ob m cap3) zL := B0.setV 5 (.bool true)
    have hg3 := hg0.setCell (p := ⟨BX, 5, none⟩) (Nat.le_of_eq hBX) (.bool true)
    clear v5 x0 f5
    generalize W.setCell ⟨BX, 5, none⟩ (.bool true) = W3 at *
    have x0 := B3.x.cell 0 rfl
    rw [Hk.out] at x0
    go_wp2_with (first | (refine wpList_load_mid rfl 27 _ rfl _ 0 rfl _ _ (B3.v).rng Try.underlying27 rfl (by kernel_rfl) ?_) | (refine wpList_store_mid rfl 27 _ _ rfl _ 0 _ rfl rfl (B3.z).may (by kernel_rfl) (by kernel_rfl) ?_))
    refine bodyPost_ret ((B3.z.setAll (us := [.string low, .string high, .bool unb, .int .i64 right, .slice oa n cap, .bool true]) rfl).ret2 rfl _ rfl rfl Try.underlying27 rfl (by kernel_rfl)) rfl ?_
  · unfold UpRem
    rw [if_pos rfl]
    exact ⟨rfl, hg3.setCells (by omega) _ _⟩
  · unfold UpRem
    rw [if_neg (by simp)]
    exact ⟨_, _, _, _, _, _, _, _, rfl, hg3.setCells (by omega) _ _⟩

set_option maxRecDepth 100000 in
set_option maxHeartbeats 4000000 in
theorem up_other {base : Nat} (v : Vw) (x : Rx) (oa : Option Addr) (n cap : Nat) (oa2 : Option Addr) (n2 cap2 : Nat) (ob : Option Addr) (m cap3 : Nat) (w : World)  (hn : n ≤ 1000000) (hb : base ≤ w.heap.size) (hv : VwSz v) (hx : RxSz x) (hk : x.r.kind < 2 ∨ 6 < x.r.kind) :
    Calls Try.prog 28 #[vwV v oa n cap, rxV x oa2 n2 cap2 ob m cap3] w (UpPost base w (upP v x.r)) := by
  have hU : upP v x.r = none := by
    unfold upP; rw [if_neg (by omega), if_neg (by omega), if_neg (by omega), if_neg (by omega), if_neg (by omega)]
  have HU := Lib.hid hU
  generalize upP v x.r = res at *
  obtain ⟨B0, hg0⟩ := up_boxes w v x oa n cap oa2 n2 cap2 ob m cap3
  have Hk := Lib.hid hk
  unfold upW at *
  clear hk hU
  obtain ⟨low, high, unb, right, rows, gone⟩ := v
  dsimp only at *
  generalize hBX : w.heap.size = BX at *
  go_enter Try.func28, Try.ntmps28
  go_upto_region 1 with fail
  generalize ((w.alloc (.cells #[.string low, .string high, .bool unb, .int .i64 right, .slice oa n cap, .bool gone] 27)).alloc (.cells #[.int .i64 x.r.kind, .string x.r.low, .string x.r.high, .bool x.r.unb, .int .i64 x.r.right, .slice oa2 n2 cap2, .slice ob m cap3, .string x.r.key, .string x.r.val, .int .i64 x.r.page, .int .i64 x.hpage, .int .i64 x.hleft, .string x.hkey, .int .i64 x.slot, .int .i64 x.gen] 35)).alloc (.cells #[.string ⟨#[]⟩, .string ⟨#[]⟩, .bool false, .int .i64 0, .slice none 0 0, .bool false] 27) = W at *
  have v5 := B0.v.cell 5 rfl
  have x0 := B0.x.cell 0 rfl
  have hlt := B0.lt
  have k2 : (x.r.kind == 2) = false := by have := Hk.out; rw [beq_eq_false_iff_ne]; omega
  have k3 : (x.r.kind == 3) = false := by have := Hk.out; rw [beq_eq_false_iff_ne]; omega
  have k4 : (x.r.kind == 4) = false := by have := Hk.out; rw [beq_eq_false_iff_ne]; omega
  have k5 : (x.r.kind == 5) = false := by have := Hk.out; rw [beq_eq_false_iff_ne]; omega
  have k6 : (x.r.kind == 6) = false := by have := Hk.out; rw [beq_eq_false_iff_ne]; omega
  cases gone
  · go_wp2_with (first | (refine wpList_load_mid rfl 27 _ rfl _ 0 rfl _ _ (B0.v).rng Try.underlying27 rfl (by kernel_rfl) ?_) | (refine wpList_store_mid rfl 27 _ _ rfl _ 0 _ rfl rfl (B0.z).may (by kernel_rfl) (by kernel_rfl) ?_))
    refine bodyPost_ret ((B0.z.setAll (us := [.string low, .string high, .bool unb, .int .i64 right, .slice oa n cap, .bool false]) rfl).ret2 rfl _ rfl rfl Try.underlying27 rfl (by kernel_rfl)) rfl ?_
    refine UpPost.no HU.out ?_ rfl
    exact hg0.setCells (by omega) _ _
  · go_wp2_with (first | (refine wpList_load_mid rfl 27 _ rfl _ 0 rfl _ _ (B0.v).rng Try.underlying27 rfl (by kernel_rfl) ?_) | (refine wpList_store_mid rfl 27 _ _ rfl _ 0 _ rfl rfl (B0.z).may (by kernel_rfl) (by kernel_rfl) ?_))
    refine bodyPost_ret ((B0.z.setAll (us := [.string low, .string high, .bool unb, .int .i64 right, .slice oa n cap, .bool true]) rfl).ret2 rfl _ rfl rfl Try.underlying27 rfl (by kernel_rfl)) rfl ?_
    refine UpPost.no HU.out ?_ rfl
    exact hg0.setCells (by omega) _ _
end Go.Proofs.Ytidfelbaegaphaa
