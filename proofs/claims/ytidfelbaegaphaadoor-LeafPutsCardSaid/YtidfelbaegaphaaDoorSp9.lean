import Derived.Test.YtidfelbaegaphaaDoorSp8
namespace Go.Proofs.YtidfelbaegaphaaDoor
set_option linter.unusedVariables false
set_option linter.unusedSimpArgs false
open Go.BigFrame Go.RowKit Go.WideShapes

abbrev zRV : Value := .agg #[.int .i64 0, .string ⟨#[]⟩, .string ⟨#[]⟩, .bool false, .int .i64 0, .slice none 0 0, .slice none 0 0, .string ⟨#[]⟩, .string ⟨#[]⟩, .int .i64 0, .int .i64 0, .int .i64 0, .string ⟨#[]⟩, .int .i64 0, .int .i64 0]
/-- what splits a leaf -/
abbrev sRc (key : ByteArray) (page : Int) : Rx := ⟨⟨4, ⟨#[]⟩, ⟨#[]⟩, false, 0, [], key, ⟨#[]⟩, page⟩, 0, 0, ⟨#[]⟩, 0, 0⟩
def SplitTells (w : World) (v : Vw) (page : Int) (e : Ending) (w' : World) : Prop :=
  match (hvV v).1 with
  | some key => ∃ o m c, e = .returned (.tuple #[rxV (sRc key page) none 0 0 none 0 0, rxV (bRc (hvB v key)) o m c none 0 0, .nilIface]) ∧ OwnAt w' w.heap.size o m c (v.rows.drop (v.rows.length / 2)) ∧ Gr w w'
  | none => e = .returned (.tuple #[zRV, zRV, errV (hvV v).2]) ∧ Gr w w'
set_option maxRecDepth 100000 in
set_option maxHeartbeats 2000000 in
theorem split_any (v : Vw) (page : Int) (oa : Option Addr) (n cap : Nat) (w : World) (h : RowsAt w oa n cap v.rows) (hn : n ≤ 1000000) :
    Calls Tryd.prog 18 #[vwV v oa n cap, .int .i64 page] w (SplitTells w v page) := by
  have s1 := size_alloc1
  have B0 : Bx (((w.alloc (.cells (vL v oa n cap).toArray 28)).alloc (.cells zR.toArray 49)).alloc (.cells zR.toArray 49)) w.heap.size (vL v oa n cap) := (((Bx.new w _ _ rfl).keep ((Gr.refl _).alloc _)).keep ((Gr.refl _).alloc _)).of (by simp)
  have Z0 : Bx (((w.alloc (.cells (vL v oa n cap).toArray 28)).alloc (.cells zR.toArray 49)).alloc (.cells zR.toArray 49)) (w.heap.size + 1) zR := ((Bx.new (w.alloc _) _ _ (by rw [s1])).keep ((Gr.refl _).alloc _)).of (by simp)
  have Y0 : Bx (((w.alloc (.cells (vL v oa n cap).toArray 28)).alloc (.cells zR.toArray 49)).alloc (.cells zR.toArray 49)) (w.heap.size + 2) zR := (Bx.new ((w.alloc _).alloc _) _ _ (by rw [s1, s1])).of (by simp)
  have hg0 : Gr w (((w.alloc (.cells (vL v oa n cap).toArray 28)).alloc (.cells zR.toArray 49)).alloc (.cells zR.toArray 49)) := (((Gr.refl _).alloc _).alloc _).alloc _
  have hsz : (((w.alloc (.cells (vL v oa n cap).toArray 28)).alloc (.cells zR.toArray 49)).alloc (.cells zR.toArray 49)).heap.size = w.heap.size + 3 := by rw [s1, s1, s1]
  have hlen := h.len
  cases hk : (hvV v).1 with
  | none =>
    have hT : Hid (∀ (e : Ending) (w' : World), (e = .returned (.tuple #[zRV, zRV, errV (hvV v).2]) ∧ Gr w w') → SplitTells w v page e w') := Lib.hid fun e w' q => by
      unfold SplitTells
      rw [hk]
      exact q
    generalize SplitTells w v page = HT at *
    go_enter Tryd.func18, Tryd.ntmps18
    go_upto_region 1 with fail
    generalize ((w.alloc (.cells (vL v oa n cap).toArray 28)).alloc (.cells zR.toArray 49)).alloc (.cells zR.toArray 49) = W at *
    have Hsz := Lib.hid hsz
    clear hsz s1
    generalize hBX : w.heap.size = BX at *
    have hRW := h.keep hg0
    clear h
    have hH := halves_any v oa n cap W hRW hn
    unfold HalvesTells at hH
    rw [hk] at hH
    have HH := Lib.hid hH
    clear hH hRW
    have hsz := Hsz.out
    go_wp2_with (first | ((with_reducible refine wpList_load_box (ty := 28) (B0) ?_ ?_ Tryd.underlying28 ?_ ?_ ?_); (focus (exact rfl)); (focus (exact ⟨_, rfl, rfl⟩)); (focus (exact rfl)); (focus kernel_rfl)) | (go_at_call 36; (with_reducible refine HH.out.mono ?_); rintro e w3 ⟨rfl, hg3⟩; have A8 : Bx ((w3.alloc (.cells zL.toArray 28)).alloc (.cells zL.toArray 28)) w3.heap.size zL := ((Bx.new w3 _ _ rfl).keep ((Gr.refl _).alloc _)).of (by simp); have A9 : Bx ((w3.alloc (.cells zL.toArray 28)).alloc (.cells zL.toArray 28)) (w3.heap.size + 1) zL := (Bx.new (w3.alloc _) _ _ (by rw [size_alloc1])).of (by simp); have hg4 : Gr W ((((w3.alloc (.cells zL.toArray 28)).alloc (.cells zL.toArray 28)).setCells w3.heap.size 0 zL).setCells (w3.heap.size + 1) 0 zL) := (((hg3.alloc _).alloc _).setCells hg3.le _ _).setCells (by have := hg3.le; omega) _ _; have Z1 := Z0.keep hg4; have Y1 := Y0.keep hg4) | ((with_reducible refine wpList_store_box (ty := 28) (A8) (zL) ?_ ?_ ?_ ?_ ?_ ?_); (focus (exact rfl)); (focus (exact ⟨_, _, rfl, rfl, rfl⟩)); (focus (exact rfl)); (focus kernel_rfl); (focus kernel_rfl)) | ((with_reducible refine wpList_store_box (ty := 28) ((A9.others (by omega) _)) (zL) ?_ ?_ ?_ ?_ ?_ ?_); (focus (exact rfl)); (focus (exact ⟨_, _, rfl, rfl, rfl⟩)); (focus (exact rfl)); (focus kernel_rfl); (focus kernel_rfl)) | ((with_reducible refine wpList_store_box (ty := 49) (Z1) (zR) ?_ ?_ ?_ ?_ ?_ ?_); (focus (exact rfl)); (focus (exact ⟨_, _, rfl, rfl, rfl⟩)); (focus (exact rfl)); (focus kernel_rfl); (focus kernel_rfl)) | ((with_reducible refine wpList_store_box (ty := 49) ((Y1.others (by omega) _)) (zR) ?_ ?_ ?_ ?_ ?_ ?_); (focus (exact rfl)); (focus (exact ⟨_, _, rfl, rfl, rfl⟩)); (focus (exact rfl)); (focus kernel_rfl); (focus kernel_rfl)))
    have ZZ := (Z1.setAll (us := zR) rfl).others (b' := BX + 2) (by omega) zR
    have YY := (Y1.others (b' := BX + 1) (by omega) zR).setAll (us := zR) rfl
    refine bodyPost_ret (Bx.ret3 ZZ YY rfl _ rfl rfl rfl Tryd.underlying49 rfl (by kernel_rfl) (by kernel_rfl)) rfl ?_
    refine hT.out _ _ ?_
    exact ⟨rfl, ((hg0.trans hg4).setCells (by omega) _ _).setCells (by omega) _ _⟩
  | some key =>
    have hT : Hid (∀ (e : Ending) (w' : World), (∃ o m c, e = .returned (.tuple #[rxV (sRc key page) none 0 0 none 0 0, rxV (bRc (hvB v key)) o m c none 0 0, .nilIface]) ∧ OwnAt w' w.heap.size o m c (v.rows.drop (v.rows.length / 2)) ∧ Gr w w') → SplitTells w v page e w') := Lib.hid fun e w' q => by
      unfold SplitTells
      rw [hk]
      exact q
    generalize SplitTells w v page = HT at *
    go_enter Tryd.func18, Tryd.ntmps18
    go_upto_region 1 with fail
    generalize ((w.alloc (.cells (vL v oa n cap).toArray 28)).alloc (.cells zR.toArray 49)).alloc (.cells zR.toArray 49) = W at *
    have Hsz := Lib.hid hsz
    clear hsz s1
    generalize hBX : w.heap.size = BX at *
    have hRW := h.keep hg0
    clear h
    have hH := halves_any v oa n cap W hRW hn
    unfold HalvesTells at hH
    rw [hk] at hH
    have HH := Lib.hid hH
    clear hH hRW
    have hsz := Hsz.out
    go_cut [7, 9, 10] (fun s7 s9 s10 wx => ∃ (b9 : Nat) (o : Option Addr) (m c : Nat), s7 = .string key ∧ s9 = .pointer (some ⟨b9, 0, none⟩) ∧ s10 = .nilIface ∧ Bx wx b9 (vL (hvB v key) o m c) ∧ OwnAt wx W.heap.size o m c (v.rows.drop (v.rows.length / 2)) ∧ Gr W wx)
    case first =>
      go_wp2_with (first | ((with_reducible refine wpList_load_box (ty := 28) (B0) ?_ ?_ Tryd.underlying28 ?_ ?_ ?_); (focus (exact rfl)); (focus (exact ⟨_, rfl, rfl⟩)); (focus (exact rfl)); (focus kernel_rfl)) | (go_at_call 36; (with_reducible refine HH.out.mono ?_); rintro e w3 ⟨o1, m1, c1, o2, m2, c2, rfl, hO1, hO2, hg3⟩; have A8 : Bx ((w3.alloc (.cells zL.toArray 28)).alloc (.cells zL.toArray 28)) w3.heap.size zL := ((Bx.new w3 _ _ rfl).keep ((Gr.refl _).alloc _)).of (by simp); have A9 : Bx ((w3.alloc (.cells zL.toArray 28)).alloc (.cells zL.toArray 28)) (w3.heap.size + 1) zL := (Bx.new (w3.alloc _) _ _ (by rw [size_alloc1])).of (by simp); have HO2 := Lib.hid hO2; clear hO1 hO2) | ((with_reducible refine wpList_store_box (ty := 28) (A8) ((vL (hvA v key) o1 m1 c1)) ?_ ?_ ?_ ?_ ?_ ?_); (focus (exact rfl)); (focus (exact ⟨_, _, rfl, rfl, rfl⟩)); (focus (exact rfl)); (focus kernel_rfl); (focus kernel_rfl)) | ((with_reducible refine wpList_store_box (ty := 28) ((A9.others (by omega) _)) ((vL (hvB v key) o2 m2 c2)) ?_ ?_ ?_ ?_ ?_ ?_); (focus (exact rfl)); (focus (exact ⟨_, _, rfl, rfl, rfl⟩)); (focus (exact rfl)); (focus kernel_rfl); (focus kernel_rfl)))
      go_meet
      have hO3 := HO2.out.keep (((Gr.refl _).alloc (.cells zL.toArray 28)).alloc (.cells zL.toArray 28))
      have hlt : ∀ g, Value.ownBlock (.slice o2 m2 c2) = some g → g < w3.heap.size := fun g hg => (HO2.out.own.lt g hg).2
      refine ⟨w3.heap.size + 1, o2, m2, c2, rfl, rfl, rfl, (A9.others (by omega) _).setAll rfl, (hO3.setOther (fun q => by have := hlt _ q; omega) _ _).setOther (fun q => by have := hlt _ q; omega) _ _, (((hg3.alloc _).alloc _).setCells hg3.le _ _).setCells (by have := hg3.le; omega) _ _⟩
    case rest =>
      obtain ⟨b9, o, m, c, rfl, rfl, rfl, B9, hO, hg4⟩ := hcut
      have Z1 := Z0.keep hg4
      have Y1 := Y0.keep hg4
      have hm := hO.rows.len
      rw [List.length_drop] at hm
      have hB := Lib.hid (base_any (hvB v key) o m c wc hO.rows (by omega))
      clear hO hm
      go_wp2_with (first | ((with_reducible refine wpList_load_box (ty := 28) (B9) ?_ ?_ Tryd.underlying28 ?_ ?_ ?_); (focus (exact rfl)); (focus (exact ⟨_, rfl, rfl⟩)); (focus (exact rfl)); (focus kernel_rfl)) | (go_at_call 19; (with_reducible refine hB.out.mono ?_); rintro e w5 ⟨o5, m5, c5, rfl, hO5, hg5⟩; have Z2 := Z1.keep hg5; have Y2 := Y1.keep hg5; have HO5 := Lib.hid hO5; clear hO5) | ((with_reducible refine wpList_store_box (ty := 49) (Z2) ((xL (sRc key page) none 0 0 none 0 0)) ?_ ?_ ?_ ?_ ?_ ?_); (focus (exact rfl)); (focus (exact ⟨_, _, rfl, rfl, rfl⟩)); (focus (exact rfl)); (focus kernel_rfl); (focus kernel_rfl)) | ((with_reducible refine wpList_store_box (ty := 49) ((Y2.others (by omega) _)) ((xL (bRc (hvB v key)) o5 m5 c5 none 0 0)) ?_ ?_ ?_ ?_ ?_ ?_); (focus (exact rfl)); (focus (exact ⟨_, _, rfl, rfl, rfl⟩)); (focus (exact rfl)); (focus kernel_rfl); (focus kernel_rfl)))
      have ZZ := (Z2.setAll (us := xL (sRc key page) none 0 0 none 0 0) rfl).others (b' := BX + 2) (by omega) (xL (bRc (hvB v key)) o5 m5 c5 none 0 0)
      have YY := (Y2.others (b' := BX + 1) (by omega) (xL (sRc key page) none 0 0 none 0 0)).setAll (us := xL (bRc (hvB v key)) o5 m5 c5 none 0 0) rfl
      refine bodyPost_ret (Bx.ret3 ZZ YY rfl _ rfl rfl rfl Tryd.underlying49 rfl (by kernel_rfl) (by kernel_rfl)) rfl ?_
      refine hT.out _ _ ?_
      have hle := hg4.le
      have hlt : ∀ g, Value.ownBlock (.slice o5 m5 c5) = some g → wc.heap.size ≤ g := fun g hg => HO5.out.block hg
      exact ⟨o5, m5, c5, rfl, ((HO5.out.setOther (fun q => by have := hlt _ q; omega) _ _).setOther (fun q => by have := hlt _ q; omega) _ _).lower2 (by omega), (((hg0.trans hg4).trans hg5).setCells (by omega) _ _).setCells (by omega) _ _⟩
end Go.Proofs.YtidfelbaegaphaaDoor
