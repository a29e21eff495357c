import Derived.Test.YtidfelbaegaphaaDoorUp
namespace Go.Proofs.YtidfelbaegaphaaDoor
set_option linter.unusedVariables false
set_option linter.unusedSimpArgs false
open Go.BigFrame Go.RowKit Go.WideShapes

/-- what up tells of a record that says that the leaf goes -/
def UpRem (w : World) (v : Vw) (oa : Option Addr) (n cap : Nat) (e : Ending) (w' : World) : Prop :=
  if v.gone = false then e = .returned (.tuple #[vwV { v with gone := true } oa n cap, .bool true]) ∧ Gr w w' else ∃ (a b : ByteArray) (u g : Bool) (r : Int) (o : Option Addr) (n c : Nat), e = .returned (.tuple #[.agg #[.string a, .string b, .bool u, .int .i64 r, .slice o n c, .bool g], .bool false]) ∧ Gr w w'
set_option maxRecDepth 100000 in
set_option maxHeartbeats 4000000 in
theorem up_rem (v : Vw) (x : Rx) (oa : Option Addr) (n cap : Nat) (oa2 : Option Addr) (n2 cap2 : Nat) (ob : Option Addr) (m cap3 : Nat) (w : World) (hk : x.r.kind = 5) :
    Calls Tryd.prog 24 #[vwV v oa n cap, rxV x oa2 n2 cap2 ob m cap3] w (UpRem w v oa n cap) := by
  obtain ⟨B0, hg0⟩ := up_boxes w v x oa n cap oa2 n2 cap2 ob m cap3
  have Hk := Lib.hid hk
  unfold upW at *
  clear hk
  obtain ⟨low, high, unb, right, rows, gone⟩ := v
  dsimp only at *
  generalize hBX : w.heap.size = BX at *
  go_enter Tryd.func24, Tryd.ntmps24
  go_upto_region 1 with fail
  generalize ((w.alloc (.cells #[.string low, .string high, .bool unb, .int .i64 right, .slice oa n cap, .bool gone] 28)).alloc (.cells #[.int .i64 x.r.kind, .string x.r.low, .string x.r.high, .bool x.r.unb, .int .i64 x.r.right, .slice oa2 n2 cap2, .slice ob m cap3, .string x.r.key, .string x.r.val, .int .i64 x.r.page, .int .i64 x.hpage, .int .i64 x.hleft, .string x.hkey, .int .i64 x.slot, .int .i64 x.gen] 49)).alloc (.cells #[.string ⟨#[]⟩, .string ⟨#[]⟩, .bool false, .int .i64 0, .slice none 0 0, .bool false] 28) = W at *
  have v5 := B0.v.cell 5 rfl
  have x0 := B0.x.cell 0 rfl
  rw [Hk.out] at x0
  have hlt := B0.lt
  have f5 := B0.v.free 5 (by simp)
  cases gone
  all_goals
    go_upto_region 25 with fail
    have B3 : Up3 (W.setCell ⟨BX, 5, none⟩ (.bool true)) BX [.string low, .string high, .bool unb, .int .i64 right, .slice oa n cap, .bool true] (xL x oa2 n2 cap2 ob m cap3) zL := B0.setV 5 (.bool true)
    have hg3 := hg0.setCell (p := ⟨BX, 5, none⟩) (Nat.le_of_eq hBX) (.bool true)
    clear v5 x0 f5
    generalize W.setCell ⟨BX, 5, none⟩ (.bool true) = W3 at *
    have x0 := B3.x.cell 0 rfl
    rw [Hk.out] at x0
    go_wp2_with (first | (refine wpList_load_mid rfl 28 _ rfl _ 0 rfl _ _ (B3.v).rng Tryd.underlying28 rfl (by kernel_rfl) ?_) | (refine wpList_store_mid rfl 28 _ _ rfl _ 0 _ rfl rfl (B3.z).may (by kernel_rfl) (by kernel_rfl) ?_))
    refine bodyPost_ret ((B3.z.setAll (us := [.string low, .string high, .bool unb, .int .i64 right, .slice oa n cap, .bool true]) rfl).ret2 rfl _ rfl rfl Tryd.underlying28 rfl (by kernel_rfl)) rfl ?_
  · unfold UpRem
    rw [if_pos rfl]
    exact ⟨rfl, hg3.setCells (by omega) _ _⟩
  · unfold UpRem
    rw [if_neg (by simp)]
    exact ⟨_, _, _, _, _, _, _, _, rfl, hg3.setCells (by omega) _ _⟩

set_option maxRecDepth 100000 in
set_option maxHeartbeats 4000000 in
theorem up_other {base : Nat} (v : Vw) (x : Rx) (oa : Option Addr) (n cap : Nat) (oa2 : Option Addr) (n2 cap2 : Nat) (ob : Option Addr) (m cap3 : Nat) (w : World)  (hn : n ≤ 1000000) (hb : base ≤ w.heap.size) (hv : VwSz v) (hx : RxSz x) (hk : x.r.kind < 2 ∨ 6 < x.r.kind) :
    Calls Tryd.prog 24 #[vwV v oa n cap, rxV x oa2 n2 cap2 ob m cap3] w (UpPost base w (upP v x.r)) := by
  have hU : upP v x.r = none := by
    unfold upP; rw [if_neg (by omega), if_neg (by omega), if_neg (by omega), if_neg (by omega), if_neg (by omega)]
  have HU := Lib.hid hU
  generalize upP v x.r = res at *
  obtain ⟨B0, hg0⟩ := up_boxes w v x oa n cap oa2 n2 cap2 ob m cap3
  have Hk := Lib.hid hk
  unfold upW at *
  clear hk hU
  obtain ⟨low, high, unb, right, rows, gone⟩ := v
  dsimp only at *
  generalize hBX : w.heap.size = BX at *
  go_enter Tryd.func24, Tryd.ntmps24
  go_upto_region 1 with fail
  generalize ((w.alloc (.cells #[.string low, .string high, .bool unb, .int .i64 right, .slice oa n cap, .bool gone] 28)).alloc (.cells #[.int .i64 x.r.kind, .string x.r.low, .string x.r.high, .bool x.r.unb, .int .i64 x.r.right, .slice oa2 n2 cap2, .slice ob m cap3, .string x.r.key, .string x.r.val, .int .i64 x.r.page, .int .i64 x.hpage, .int .i64 x.hleft, .string x.hkey, .int .i64 x.slot, .int .i64 x.gen] 49)).alloc (.cells #[.string ⟨#[]⟩, .string ⟨#[]⟩, .bool false, .int .i64 0, .slice none 0 0, .bool false] 28) = W at *
  have v5 := B0.v.cell 5 rfl
  have x0 := B0.x.cell 0 rfl
  have hlt := B0.lt
  have k2 : (x.r.kind == 2) = false := by have := Hk.out; rw [beq_eq_false_iff_ne]; omega
  have k3 : (x.r.kind == 3) = false := by have := Hk.out; rw [beq_eq_false_iff_ne]; omega
  have k4 : (x.r.kind == 4) = false := by have := Hk.out; rw [beq_eq_false_iff_ne]; omega
  have k5 : (x.r.kind == 5) = false := by have := Hk.out; rw [beq_eq_false_iff_ne]; omega
  have k6 : (x.r.kind == 6) = false := by have := Hk.out; rw [beq_eq_false_iff_ne]; omega
  cases gone
  · go_wp2_with (first | (refine wpList_load_mid rfl 28 _ rfl _ 0 rfl _ _ (B0.v).rng Tryd.underlying28 rfl (by kernel_rfl) ?_) | (refine wpList_store_mid rfl 28 _ _ rfl _ 0 _ rfl rfl (B0.z).may (by kernel_rfl) (by kernel_rfl) ?_))
    refine bodyPost_ret ((B0.z.setAll (us := [.string low, .string high, .bool unb, .int .i64 right, .slice oa n cap, .bool false]) rfl).ret2 rfl _ rfl rfl Tryd.underlying28 rfl (by kernel_rfl)) rfl ?_
    refine UpPost.no HU.out ?_ rfl
    exact hg0.setCells (by omega) _ _
  · go_wp2_with (first | (refine wpList_load_mid rfl 28 _ rfl _ 0 rfl _ _ (B0.v).rng Tryd.underlying28 rfl (by kernel_rfl) ?_) | (refine wpList_store_mid rfl 28 _ _ rfl _ 0 _ rfl rfl (B0.z).may (by kernel_rfl) (by kernel_rfl) ?_))
    refine bodyPost_ret ((B0.z.setAll (us := [.string low, .string high, .bool unb, .int .i64 right, .slice oa n cap, .bool true]) rfl).ret2 rfl _ rfl rfl Tryd.underlying28 rfl (by kernel_rfl)) rfl ?_
    refine UpPost.no HU.out ?_ rfl
    exact hg0.setCells (by omega) _ _
end Go.Proofs.YtidfelbaegaphaaDoor
