import Derived.Test.YtidfelbaegaphaaSp7y
import Derived.Test.YtidfelbaegaphaaUpAy
namespace Go.Proofs.Ytidfelbaegaphaa
set_option linter.unusedVariables false
set_option linter.unusedSimpArgs false
open Go.BigFrame Go.RowKit Go.WideShapes

abbrev zRV : Value := .agg #[.int .i64 0, .string ⟨#[]⟩, .string ⟨#[]⟩, .bool false, .int .i64 0, .slice none 0 0, .slice none 0 0, .string ⟨#[]⟩, .string ⟨#[]⟩, .int .i64 0, .int .i64 0, .int .i64 0, .string ⟨#[]⟩, .int .i64 0, .int .i64 0]
/-- what splits a leaf -/
abbrev sRc (key : ByteArray) (page : Int) : Rx := ⟨⟨4, ⟨#[]⟩, ⟨#[]⟩, false, 0, [], key, ⟨#[]⟩, page⟩, 0, 0, ⟨#[]⟩, 0, 0⟩
def SplitTells (w : World) (v : Vw) (page : Int) (e : Ending) (w' : World) : Prop :=
  match (hvV v).1 with
  | some key => ∃ o m c, e = .returned (.tuple #[rxV (sRc key page) none 0 0 none 0 0, rxV (bRc (hvB v key)) o m c none 0 0, .nilIface]) ∧ OwnAt w' w.heap.size o m c (v.rows.drop (v.rows.length / 2)) ∧ Gr w w'
  | none => e = .returned (.tuple #[zRV, zRV, errV (hvV v).2]) ∧ Gr w w'
set_option maxRecDepth 100000 in
set_option maxHeartbeats 2000000 in
theorem split_any (v : Vw) (page : Int) (oa : Option Addr) (n cap : Nat) (w : World) (h : RowsAt w oa n cap v.rows) (hn : n ≤ 1000000) :
    Calls Try.prog 7 #[vwV v oa n cap, .int .i64 page] w (SplitTells w v page) := by
  have s1 := size_alloc1
  have B0 : Bx (((w.alloc (.cells (vL v oa n cap).toArray 27)).alloc (.cells zR.toArray 35)).alloc (.cells zR.toArray 35)) w.heap.size (vL v oa n cap) := (((Bx.new w _ _ rfl).keep ((Gr.refl _).alloc _)).keep ((Gr.refl _).alloc _)).of (by simp)
  have Z0 : Bx (((w.alloc (.cells (vL v oa n cap).toArray 27)).alloc (.cells zR.toArray 35)).alloc (.cells zR.toArray 35)) (w.heap.size + 1) zR := ((Bx.new (w.alloc _) _ _ (by rw [s1])).keep ((Gr.refl _).alloc _)).of (by simp)
  have Y0 : Bx (((w.alloc (.cells (vL v oa n cap).toArray 27)).alloc (.cells zR.toArray 35)).alloc (.cells zR.toArray 35)) (w.heap.size + 2) zR := (Bx.new ((w.alloc _).alloc _) _ _ (by rw [s1, s1])).of (by simp)
  have hg0 : Gr w (((w.alloc (.cells (vL v oa n cap).toArray 27)).alloc (.cells zR.toArray 35)).alloc (.cells zR.toArray 35)) := (((Gr.refl _).alloc _).alloc _).alloc _
  have hsz : (((w.alloc (.cells (vL v oa n cap).toArray 27)).alloc (.cells zR.toArray 35)).alloc (.cells zR.toArray 35)).heap.size = w.heap.size + 3 := by rw [s1, s1, s1]
  have hlen := h.len
  cases hk : (hvV v).1 with
  | none =>
    have hT : Hid (∀ (e : Ending) (w' : World), (e = .returned (.tuple #[zRV, zRV, errV (hvV v).2]) ∧ Gr w w') → SplitTells w v page e w') := Lib.hid fun e w' q => by
      unfold SplitTells
      rw [hk]
      exact q
    generalize SplitTells w v page = HT at *
    go_enter Try.func7, Try.ntmps7
    go_upto_region 1 with fail
    generalize ((w.alloc (.cells (vL v oa n cap).toArray 27)).alloc (.cells zR.toArray 35)).alloc (.cells zR.toArray 35) = W at *
    have Hsz := Lib.hid hsz
    clear hsz s1
    generalize hBX : w.heap.size = BX at *
    have hRW := h.keep hg0
    clear h
    have hH := halves_any v oa n cap W hRW hn
    unfold HalvesTells at hH
    rw [hk] at hH
    have HH := Lib.hid hH
    clear hH hRW
    have hsz := Hsz.out
    go_wp2_with (first | ((with_reducible refine wpList_load_box (ty := 27) (B0) ?_ ?_ Try.underlying27 ?_ ?_ ?_); (focus (exact rfl)); (focus (exact ⟨_, rfl, rfl⟩)); (focus (exact rfl)); (focus kernel_rfl)) | (go_at_call 21; (with_reducible refine HH.out.mono ?_); rintro e w3 ⟨rfl, hg3⟩; have A8 : Bx ((w3.alloc (.cells zL.toArray 27)).alloc (.cells zL.toArray 27)) w3.heap.size zL := ((Bx.new w3 _ _ rfl).keep ((Gr.refl _).alloc _)).of (by simp); have A9 : Bx ((w3.alloc (.cells zL.toArray 27)).alloc (.cells zL.toArray 27)) (w3.heap.size + 1) zL := (Bx.new (w3.alloc _) _ _ (by rw [size_alloc1])).of (by simp); have hg4 : Gr W ((((w3.alloc (.cells zL.toArray 27)).alloc (.cells zL.toArray 27)).setCells w3.heap.size 0 zL).setCells (w3.heap.size + 1) 0 zL) := (((hg3.alloc _).alloc _).setCells hg3.le _ _).setCells (by have := hg3.le; omega) _ _; have Z1 := Z0.keep hg4; have Y1 := Y0.keep hg4) | ((with_reducible refine wpList_store_box (ty := 27) (A8) (zL) ?_ ?_ ?_ ?_ ?_ ?_); (focus (exact rfl)); (focus (exact ⟨_, _, rfl, rfl, rfl⟩)); (focus (exact rfl)); (focus kernel_rfl); (focus kernel_rfl)) | ((with_reducible refine wpList_store_box (ty := 27) ((A9.others (by omega) _)) (zL) ?_ ?_ ?_ ?_ ?_ ?_); (focus (exact rfl)); (focus (exact ⟨_, _, rfl, rfl, rfl⟩)); (focus (exact rfl)); (focus kernel_rfl); (focus kernel_rfl)) | ((with_reducible refine wpList_store_box (ty := 35) (Z1) (zR) ?_ ?_ ?_ ?_ ?_ ?_); (focus (exact rfl)); (focus (exact ⟨_, _, rfl, rfl, rfl⟩)); (focus (exact rfl)); (focus kernel_rfl); (focus kernel_rfl)) | ((with_reducible refine wpList_store_box (ty := 35) ((Y1.others (by omega) _)) (zR) ?_ ?_ ?_ ?_ ?_ ?_); (focus (exact rfl)); (focus (exact ⟨_, _, rfl, rfl, rfl⟩)); (focus (exact rfl)); (focus kernel_rfl); (focus kernel_rfl)))
    have ZZ := (Z1.setAll (us := zR) rfl).others (b' := BX + 2) (by omega) zR
    have YY := (Y1.others (b' := BX + 1) (by omega) zR).setAll (us := zR) rfl
    refine bodyPost_ret (Bx.ret3 ZZ YY rfl _ rfl rfl rfl Try.underlying35 rfl (by kernel_rfl) (by kernel_rfl)) rfl ?_
    refine hT.out _ _ ?_
    exact ⟨rfl, ((hg0.trans hg4).setCells (by omega) _ _).setCells (by omega) _ _⟩
  | some key =>
    have hT : Hid (∀ (e : Ending) (w' : World), (∃ o m c, e = .returned (.tuple #[rxV (sRc key page) none 0 0 none 0 0, rxV (bRc (hvB v key)) o m c none 0 0, .nilIface]) ∧ OwnAt w' w.heap.size o m c (v.rows.drop (v.rows.length / 2)) ∧ Gr w w') → SplitTells w v page e w') := Lib.hid fun e w' q => by
      unfold SplitTells
      rw [hk]
      exact q
    generalize SplitTells w v page = HT at *
    go_enter Try.func7, Try.ntmps7
    go_upto_region 1 with fail
    generalize ((w.alloc (.cells (vL v oa n cap).toArray 27)).alloc (.cells zR.toArray 35)).alloc (.cells zR.toArray 35) = W at *
    have Hsz := Lib.hid hsz
    clear hsz s1
    generalize hBX : w.heap.size = BX at *
    have hRW := h.keep hg0
    clear h
    have hH := halves_any v oa n cap W hRW hn
    unfold HalvesTells at hH
    rw [hk] at hH
    have HH := Lib.hid hH
    clear hH hRW
    have hsz := Hsz.out
    go_cut [7, 9, 10] (fun s7 s9 s10 wx => ∃ (b9 : Nat) (o : Option Addr) (m c : Nat), s7 = .string key ∧ s9 = .pointer (some ⟨b9, 0, none⟩) ∧ s10 = .nilIface ∧ Bx wx b9 (vL (hvB v key) o m c) ∧ OwnAt wx W.heap.size o m c (v.rows.drop (v.rows.length / 2)) ∧ Gr W wx)
    case first =>
      go_wp2_with (first | ((with_reducible refine wpList_load_box (ty := 27) (B0) ?_ ?_ Try.underlying27 ?_ ?_ ?_); (focus (exact rfl)); (focus (exact ⟨_, rfl, rfl⟩)); (focus (exact rfl)); (focus kernel_rfl)) | (go_at_call 21; (with_reducible refine HH.out.mono ?_); rintro e w3 ⟨o1, m1, c1, o2, m2, c2, rfl, hO1, hO2, hg3⟩; have A8 : Bx ((w3.alloc (.cells zL.toArray 27)).alloc (.cells zL.toArray 27)) w3.heap.size zL := ((Bx.new w3 _ _ rfl).keep ((Gr.refl _).alloc _)).of (by simp); have A9 : Bx ((w3.alloc (.cells zL.toArray 27)).alloc (.cells zL.toArray 27)) (w3.heap.size + 1) zL := (Bx.new (w3.alloc _) _ _ (by rw [size_alloc1])).of (by simp); have HO2 := Lib.hid hO2; clear hO1 hO2) | ((with_reducible refine wpList_store_box (ty := 27) (A8) ((vL (hvA v key) o1 m1 c1)) ?_ ?_ ?_ ?_ ?_ ?_); (focus (exact rfl)); (focus (exact ⟨_, _, rfl, rfl, rfl⟩)); (focus (exact rfl)); (focus kernel_rfl); (focus kernel_rfl)) | ((with_reducible refine wpList_store_box (ty := 27) ((A9.others (by omega) _)) ((vL (hvB v key) o2 m2 c2)) ?_ ?_ ?_ ?_ ?_ ?_); (focus (exact rfl)); (focus (exact ⟨_, _, rfl, rfl, rfl⟩)); (focus (exact rfl)); (focus kernel_rfl); (focus kernel_rfl)))
      go_meet
      have hO3 := HO2.out.keep (((Gr.refl _).alloc (.cells zL.toArray 27)).alloc (.cells zL.toArray 27))
      have hlt : ∀ g, Value.ownBlock (.slice o2 m2 c2) = some g → g < w3.heap.size := fun g hg => (HO2.out.own.lt g hg).2
      refine ⟨w3.heap.size + 1, o2, m2, c2, rfl, rfl, rfl, (A9.others (by omega) _).setAll rfl, (hO3.setOther (fun q => by have := hlt _ q; omega) _ _).setOther (fun q => by have := hlt _ q; omega) _ _, (((hg3.alloc _).alloc _).setCells hg3.le _ _).setCells (by have := hg3.le; omega) _ _⟩
    case rest =>
      obtain ⟨b9, o, m, c, rfl, rfl, rfl, B9, hO, hg4⟩ := hcut
      have Z1 := Z0.keep hg4
      have Y1 := Y0.keep hg4
      have hm := hO.rows.len
      rw [List.length_drop] at hm
      have hB := Lib.hid (base_any (hvB v key) o m c wc hO.rows (by omega))
      clear hO hm
      go_wp2_with (first | ((with_reducible refine wpList_load_box (ty := 27) (B9) ?_ ?_ Try.underlying27 ?_ ?_ ?_); (focus (exact rfl)); (focus (exact ⟨_, rfl, rfl⟩)); (focus (exact rfl)); (focus kernel_rfl)) | (go_at_call 15; (with_reducible refine hB.out.mono ?_); rintro e w5 ⟨o5, m5, c5, rfl, hO5, hg5⟩; have Z2 := Z1.keep hg5; have Y2 := Y1.keep hg5; have HO5 := Lib.hid hO5; clear hO5) | ((with_reducible refine wpList_store_box (ty := 35) (Z2) ((xL (sRc key page) none 0 0 none 0 0)) ?_ ?_ ?_ ?_ ?_ ?_); (focus (exact rfl)); (focus (exact ⟨_, _, rfl, rfl, rfl⟩)); (focus (exact rfl)); (focus kernel_rfl); (focus kernel_rfl)) | ((with_reducible refine wpList_store_box (ty := 35) ((Y2.others (by omega) _)) ((xL (bRc (hvB v key)) o5 m5 c5 none 0 0)) ?_ ?_ ?_ ?_ ?_ ?_); (focus (exact rfl)); (focus (exact ⟨_, _, rfl, rfl, rfl⟩)); (focus (exact rfl)); (focus kernel_rfl); (focus kernel_rfl)))
      have ZZ := (Z2.setAll (us := xL (sRc key page) none 0 0 none 0 0) rfl).others (b' := BX + 2) (by omega) (xL (bRc (hvB v key)) o5 m5 c5 none 0 0)
      have YY := (Y2.others (b' := BX + 1) (by omega) (xL (sRc key page) none 0 0 none 0 0)).setAll (us := xL (bRc (hvB v key)) o5 m5 c5 none 0 0) rfl
      refine bodyPost_ret (Bx.ret3 ZZ YY rfl _ rfl rfl rfl Try.underlying35 rfl (by kernel_rfl) (by kernel_rfl)) rfl ?_
      refine hT.out _ _ ?_
      have hle := hg4.le
      have hlt : ∀ g, Value.ownBlock (.slice o5 m5 c5) = some g → wc.heap.size ≤ g := fun g hg => HO5.out.block hg
      exact ⟨o5, m5, c5, rfl, ((HO5.out.setOther (fun q => by have := hlt _ q; omega) _ _).setOther (fun q => by have := hlt _ q; omega) _ _).lower2 (by omega), (((hg0.trans hg4).trans hg5).setCells (by omega) _ _).setCells (by omega) _ _⟩
end Go.Proofs.Ytidfelbaegaphaa

namespace Go.Proofs.Ytidfelbaegaphaa
set_option linter.unusedVariables false
set_option linter.unusedSimpArgs false
open Go.BigFrame Go.RowKit Go.WideShapes

def abcd : List Rw := [⟨⟨#[97]⟩, ⟨#[]⟩⟩, ⟨⟨#[98]⟩, ⟨#[]⟩⟩, ⟨⟨#[99]⟩, ⟨#[]⟩⟩, ⟨⟨#[100]⟩, ⟨#[]⟩⟩]
theorem abcd_cells (w : World) : RowsAt (w.alloc (.cells #[.string ⟨#[97]⟩, .string ⟨#[]⟩, .string ⟨#[98]⟩, .string ⟨#[]⟩, .string ⟨#[99]⟩, .string ⟨#[]⟩, .string ⟨#[100]⟩, .string ⟨#[]⟩] 61)) (some ⟨w.heap.size, 0, none⟩) 4 4 abcd := by
  refine ⟨rfl, Nat.le_refl _, by unfold maxLen; omega, fun q => (by cases q), ⟨w.heap.size, 0, fun _ => ⟨rfl, by show w.heap.size < (w.heap.push _).size; rw [Array.size_push]; omega⟩, fun i hi => ?_⟩, fun i hi => ?_⟩
  · obtain rfl | rfl | rfl | rfl : i = 0 ∨ i = 1 ∨ i = 2 ∨ i = 3 := by omega
    all_goals exact ⟨World.cell?_alloc_new w _ _ _, World.cell?_alloc_new w _ _ _⟩
  · obtain rfl | rfl | rfl | rfl : i = 0 ∨ i = 1 ∨ i = 2 ∨ i = 3 := by omega
    all_goals exact ⟨by decide, by decide⟩
abbrev vw4 : Vw := ⟨⟨#[]⟩, ⟨#[]⟩, true, 0, abcd, false⟩
abbrev vw2 : Vw := ⟨⟨#[]⟩, ⟨#[99]⟩, false, 3, abcd.take 2, false⟩
theorem abcd_halves : (hvV vw4).1 = some ⟨#[99]⟩ := by decide
theorem abcd_drop : (vw4.rows.drop (vw4.rows.length / 2)).length = 2 := by decide
theorem abcd_fold : foldP [(sRc ⟨#[99]⟩ 3).r, (bRc vw4).r] = (some vw2, 0) := by kernel_rfl
/-- two records in a block of their own -/
theorem recs_two {w w3 : World} {x y : Ry} {o1 : Option Addr} {n1 c1 : Nat} {o2 : Option Addr} {n2 c2 : Nat} {o3 : Option Addr} {n3 c3 : Nat} {o4 : Option Addr} {n4 c4 : Nat} (hg : Gr w w3) (h1 : RowsAt w o1 n1 c1 x.x.r.rows) (h2 : EntsAt w o2 n2 c2 x.ents) (h3 : RowsAt w o3 n3 c3 y.x.r.rows) (h4 : EntsAt w o4 n4 c4 y.ents) (s1 : RxSz x.x) (s2 : RxSz y.x) (cs : Array Value) (T : TypeId)
    (hcs : cs.toList = xL x.x o1 n1 c1 o2 n2 c2 ++ xL y.x o3 n3 c3 o4 n4 c4) : RecsAt (w3.alloc (.cells cs T)) (some ⟨w3.heap.size, 0, none⟩) 2 2 [x, y] := by
  have hg2 : Gr w (w3.alloc (.cells cs T)) := hg.alloc _
  have hB := Bx.new w3 cs T rfl
  rw [hcs] at hB
  refine ⟨rfl, Nat.le_refl _, by unfold maxLen; omega, fun q => (by cases q), w3.heap.size, 0, fun _ => ⟨rfl, by rw [size_alloc1]; omega⟩, fun i z hi => ?_⟩
  have hi2 : i < 2 := (List.getElem?_eq_some_iff.1 hi).1
  obtain rfl | rfl : i = 0 ∨ i = 1 := by omega
  · obtain rfl : x = z := by simpa using hi
    refine ⟨xL x.x o1 n1 c1 o2 n2 c2, rfl, xL_one _ _ _ _ _ _ _, ⟨o1, n1, c1, o2, n2, c2, rfl, h1.keep hg2, SlE.keep EnE_mono h2 hg2, s1⟩, fun j u hj => ?_⟩
    have hj' : j < 15 := (List.getElem?_eq_some_iff.1 hj).1
    have := hB.cell j (u := u) (by rw [List.getElem?_append_left (by exact hj')]; exact hj)
    simpa using this
  · obtain rfl : y = z := by simpa using hi
    refine ⟨xL y.x o3 n3 c3 o4 n4 c4, rfl, xL_one _ _ _ _ _ _ _, ⟨o3, n3, c3, o4, n4, c4, rfl, h3.keep hg2, SlE.keep EnE_mono h4 hg2, s2⟩, fun j u hj => ?_⟩
    have hj' : j < 15 := (List.getElem?_eq_some_iff.1 hj).1
    have := hB.cell (15 + j) (u := u) (by rw [List.getElem?_append_right (by show 15 ≤ 15 + j; omega)]; rw [show 15 + j - (xL x.x o1 n1 c1 o2 n2 c2).length = j by show 15 + j - 15 = j; omega]; exact hj)
    simpa using this
theorem vw2_drop : (vw2.rows).length = 2 := by decide
theorem sz_s : RxSz (sRc ⟨#[99]⟩ 3) := ⟨by decide, by decide, by decide, by decide, by decide⟩
theorem sz_b : RxSz (bRc vw4) := ⟨by decide, by decide, by decide, by decide, by decide⟩
theorem fold_two (w1 w2 : World) (b : Nat) (hb : b = w2.heap.size) (o3 : Option Addr) (m3 c3 : Nat) (cs : Array Value) (T : TypeId) (hg : Gr w1 w2) (hr : RowsAt w1 o3 m3 c3 abcd) (hcs : cs.toList = xL (sRc ⟨#[99]⟩ 3) none 0 0 none 0 0 ++ xL (bRc vw4) o3 m3 c3 none 0 0) {w5 : World} (hw5 : Gr (w2.alloc (.cells cs T)) w5) :
    Calls Try.prog 20 #[.slice (some ⟨b, 0, none⟩) 2 2] w5 fun e w4 => ∃ o c, e = .returned (.tuple #[vwV vw2 o 2 c, .nilIface]) ∧ Gr w5 w4 := by
  subst hb
  have hz : RowsAt w1 none 0 0 ([] : List Rw) := ⟨rfl, Nat.le_refl _, Nat.zero_le _, fun _ => rfl, ⟨0, 0, fun q => absurd q (by omega), fun i hi => absurd hi (by omega)⟩, fun i hi => absurd hi (by omega)⟩
  have hR := recs_two (x := ⟨sRc ⟨#[99]⟩ 3, []⟩) (y := ⟨bRc vw4, []⟩) (T := T) hg hz (SlE.nil _ _ _) hr (SlE.nil _ _ _) sz_s sz_b cs hcs
  have hF := fold_any _ _ _ _ _ (hR.keep hw5) (by omega) (fun i y hi => by
    have hi2 : i < 2 := (List.getElem?_eq_some_iff.1 hi).1
    obtain rfl | rfl : i = 0 ∨ i = 1 := by omega
    · obtain rfl := Option.some.inj hi; decide
    · obtain rfl := Option.some.inj hi; decide)
  rw [show foldP (rcs [⟨sRc ⟨#[99]⟩ 3, []⟩, ⟨bRc vw4, []⟩]) = (some vw2, 0) from abcd_fold] at hF
  refine hF.mono fun e w' hq => ?_
  obtain ⟨o, m, c, rfl, hO, -, hg4⟩ := hq
  obtain rfl : m = 2 := hO.rows.len.symm.trans vw2_drop
  exact ⟨o, c, rfl, hg4⟩
theorem ak_boxA {W w3 : World} {s : Nat} {zs : List Value} (B8 : Bx w3 s zs) (hl : zs.length = 6) (hg : Gr W w3) (hs : W.heap.size ≤ s) (a0 a1 a2 a3 a4 a5 : Value) : Bx (chain6 w3 s a0 a1 a2 a3 a4 a5) s [a0, a1, a2, a3, a4, a5] ∧ Gr W (chain6 w3 s a0 a1 a2 a3 a4 a5) := ⟨box6 B8 hl _ _ _ _ _ _, gr6 hg hs _ _ _ _ _ _⟩
theorem ak_boxB {W w3 : World} (hg : Gr W w3) (T : TypeId) (us : List Value) : Bx (w3.alloc (.cells us.toArray T)) w3.heap.size us ∧ Gr W (w3.alloc (.cells us.toArray T)) := ⟨(Bx.new w3 us.toArray T rfl).of (by simp), hg.alloc _⟩
set_option maxRecDepth 100000 in
set_option maxHeartbeats 2000000 in
theorem awake7_any (w : World) : Calls Try.prog 5 #[] w fun e w' => e = .returned (.bool true) ∧ Gr w w' := by
  have hA := abcd_cells w
  have hg0 := (Gr.refl w).alloc (.cells #[.string ⟨#[97]⟩, .string ⟨#[]⟩, .string ⟨#[98]⟩, .string ⟨#[]⟩, .string ⟨#[99]⟩, .string ⟨#[]⟩, .string ⟨#[100]⟩, .string ⟨#[]⟩] 61)
  go_enter Try.func5, Try.ntmps5
  go_upto_region 1 with fail
  go_cut [1] (fun s1 wx => ∃ b1, s1 = .pointer (some ⟨b1, 0, none⟩) ∧ Bx wx b1 (vL vw4 (some ⟨w.heap.size, 0, none⟩) 4 4) ∧ RowsAt wx (some ⟨w.heap.size, 0, none⟩) 4 4 abcd ∧ Gr w wx)
  case first =>
    generalize hw2 : w.alloc (.cells #[.string ⟨#[97]⟩, .string ⟨#[]⟩, .string ⟨#[98]⟩, .string ⟨#[]⟩, .string ⟨#[99]⟩, .string ⟨#[]⟩, .string ⟨#[100]⟩, .string ⟨#[]⟩] 61) = w2 at *
    have Z := (Bx.new w2 zL.toArray 27 rfl).of (us := zL) (by simp)
    go_wp2_with ((with_reducible refine wpList_store_box (ty := 27) (Z) ((vL vw4 (some ⟨w.heap.size, 0, none⟩) 4 4)) ?_ ?_ ?_ ?_ ?_ ?_); (focus (exact rfl)); (focus (exact ⟨_, _, rfl, rfl, rfl⟩)); (focus (exact rfl)); (focus kernel_rfl); (focus kernel_rfl))
    go_meet
    with_reducible exact ⟨w2.heap.size, rfl, Z.setAll rfl, hA.keep (((Gr.refl w2).alloc _).setCells (Nat.le_refl _) _ _), (hg0.alloc _).setCells hg0.le _ _⟩
  case rest =>
    obtain ⟨b1, rfl, B1, hA1, hg1⟩ := hcut
    clear hA hg0
    have HA := Lib.hid hA1
    have hS := split_any vw4 3 (some ⟨w.heap.size, 0, none⟩) 4 4 wc hA1 (by omega)
    unfold SplitTells at hS
    rw [abcd_halves] at hS
    have HS := Lib.hid hS
    clear hS hA1
    go_upto_region 2 with fail
    go_cut [2, 3, 4] (fun s2 s3 s4 wx => ∃ (b2 b3 : Nat) (o : Option Addr) (m c : Nat), s2 = .pointer (some ⟨b2, 0, none⟩) ∧ s3 = .pointer (some ⟨b3, 0, none⟩) ∧ s4 = .nilIface ∧ Bx wx b2 (xL (sRc ⟨#[99]⟩ 3) none 0 0 none 0 0) ∧ Bx wx b3 (xL (bRc (hvB vw4 ⟨#[99]⟩)) o m c none 0 0) ∧ m = 2 ∧ Gr wc wx)
    case first =>
      go_wp2_with (first | ((with_reducible refine wpList_load_box (ty := 27) (B1) ?_ ?_ Try.underlying27 ?_ ?_ ?_); (focus (exact rfl)); (focus (exact ⟨_, rfl, rfl⟩)); (focus (exact rfl)); (focus kernel_rfl)) | (go_at_call 7; (with_reducible refine HS.out.mono ?_); rintro e w3 ⟨o, m, c, rfl, hO, hg3⟩; have A8 : Bx ((w3.alloc (.cells zR.toArray 35)).alloc (.cells zR.toArray 35)) w3.heap.size zR := ((Bx.new w3 _ _ rfl).keep ((Gr.refl _).alloc _)).of (by simp); have A9 : Bx ((w3.alloc (.cells zR.toArray 35)).alloc (.cells zR.toArray 35)) (w3.heap.size + 1) zR := (Bx.new (w3.alloc _) _ _ (by rw [size_alloc1])).of (by simp); obtain rfl : m = 2 := hO.rows.len.symm.trans abcd_drop; clear hO) | ((with_reducible refine wpList_store_box (ty := 35) (A8) ((xL (sRc ⟨#[99]⟩ 3) none 0 0 none 0 0)) ?_ ?_ ?_ ?_ ?_ ?_); (focus (exact rfl)); (focus (exact ⟨_, _, rfl, rfl, rfl⟩)); (focus (exact rfl)); (focus kernel_rfl); (focus kernel_rfl)) | ((with_reducible refine wpList_store_box (ty := 35) ((A9.others (by omega) _)) ((xL (bRc (hvB vw4 ⟨#[99]⟩)) o 2 c none 0 0)) ?_ ?_ ?_ ?_ ?_ ?_); (focus (exact rfl)); (focus (exact ⟨_, _, rfl, rfl, rfl⟩)); (focus (exact rfl)); (focus kernel_rfl); (focus kernel_rfl)))
      go_meet
      have F2 := (A8.setAll (us := xL (sRc ⟨#[99]⟩ 3) none 0 0 none 0 0) rfl).others (b' := w3.heap.size + 1) (by omega) (xL (bRc (hvB vw4 ⟨#[99]⟩)) o 2 c none 0 0)
      have F3 := (A9.others (b' := w3.heap.size) (by omega) (xL (sRc ⟨#[99]⟩ 3) none 0 0 none 0 0)).setAll (us := xL (bRc (hvB vw4 ⟨#[99]⟩)) o 2 c none 0 0) rfl
      have hgf := (((hg3.alloc (.cells zR.toArray 35)).alloc (.cells zR.toArray 35)).setCells hg3.le (xL (sRc ⟨#[99]⟩ 3) none 0 0 none 0 0) 0).setCells (b := w3.heap.size + 1) (by have := hg3.le; omega) (xL (bRc (hvB vw4 ⟨#[99]⟩)) o 2 c none 0 0) 0
      with_reducible exact ⟨w3.heap.size, w3.heap.size + 1, o, 2, c, rfl, rfl, rfl, F2, F3, rfl, hgf⟩
    case rest =>
      obtain ⟨b2, b3, o, m, c, rfl, rfl, rfl, B2, B3, rfl, hg2⟩ := hcut
      have B1 := B1.keep hg2
      have hb1 := B1.lt (by simp)
      have hb2 := B2.lt (by simp)
      have HSk := Lib.hid fun W' (hq : Gr wc W') => (show W'.cell? ⟨b2, 0, none⟩ = some (.int .i64 4) ∧ W'.cell? ⟨b2, 1, none⟩ = some (.string ⟨#[]⟩) ∧ W'.cell? ⟨b2, 2, none⟩ = some (.string ⟨#[]⟩) ∧ W'.cell? ⟨b2, 3, none⟩ = some (.bool false) ∧ W'.cell? ⟨b2, 4, none⟩ = some (.int .i64 0) ∧ W'.cell? ⟨b2, 5, none⟩ = some (.slice none 0 0) ∧ W'.cell? ⟨b2, 6, none⟩ = some (.slice none 0 0) ∧ W'.cell? ⟨b2, 7, none⟩ = some (.string ⟨#[99]⟩) ∧ W'.cell? ⟨b2, 8, none⟩ = some (.string ⟨#[]⟩) ∧ W'.cell? ⟨b2, 9, none⟩ = some (.int .i64 3) ∧ W'.cell? ⟨b2, 10, none⟩ = some (.int .i64 0) ∧ W'.cell? ⟨b2, 11, none⟩ = some (.int .i64 0) ∧ W'.cell? ⟨b2, 12, none⟩ = some (.string ⟨#[]⟩) ∧ W'.cell? ⟨b2, 13, none⟩ = some (.int .i64 0) ∧ W'.cell? ⟨b2, 14, none⟩ = some (.int .i64 0) ∧ W'.cell? ⟨b1, 0, none⟩ = some (.string ⟨#[]⟩) ∧ W'.cell? ⟨b1, 1, none⟩ = some (.string ⟨#[]⟩) ∧ W'.cell? ⟨b1, 2, none⟩ = some (.bool true) ∧ W'.cell? ⟨b1, 3, none⟩ = some (.int .i64 0) ∧ W'.cell? ⟨b1, 4, none⟩ = some (.slice (some ⟨w.heap.size, 0, none⟩) 4 4) ∧ W'.cell? ⟨b1, 5, none⟩ = some (.bool false) from ⟨(B2.keep hq).cell 0 rfl, (B2.keep hq).cell 1 rfl, (B2.keep hq).cell 2 rfl, (B2.keep hq).cell 3 rfl, (B2.keep hq).cell 4 rfl, (B2.keep hq).cell 5 rfl, (B2.keep hq).cell 6 rfl, (B2.keep hq).cell 7 rfl, (B2.keep hq).cell 8 rfl, (B2.keep hq).cell 9 rfl, (B2.keep hq).cell 10 rfl, (B2.keep hq).cell 11 rfl, (B2.keep hq).cell 12 rfl, (B2.keep hq).cell 13 rfl, (B2.keep hq).cell 14 rfl, (B1.keep hq).cell 0 rfl, (B1.keep hq).cell 1 rfl, (B1.keep hq).cell 2 rfl, (B1.keep hq).cell 3 rfl, (B1.keep hq).cell 4 rfl, (B1.keep hq).cell 5 rfl⟩)
      have hB := Lib.hid fun w1 (hq : Gr wc w1) => base_any vw4 (some ⟨w.heap.size, 0, none⟩) 4 4 w1 ((HA.out.keep hg2).keep hq) (by omega)
      obtain ⟨v0, v1, v2, v3, v4, v5, v6, v7, v8, v9, v10, v11, v12, v13, v14, v15, v16, v17, v18, v19, v20⟩ := HSk.out _ (Gr.refl _)
      go_upto_region 3 with fail
      go_cut [5, 6] (fun s5 s6 wx => ∃ (b5 : Nat) (o : Option Addr) (c : Nat), s5 = .pointer (some ⟨b5, 0, none⟩) ∧ s6 = .nilIface ∧ Bx wx b5 (vL vw2 o 2 c) ∧ Gr wc wx)
      case first =>
        go_region_held3 (fun W' => W'.cell? ⟨b2, 0, none⟩ = some (.int .i64 4) ∧ W'.cell? ⟨b2, 1, none⟩ = some (.string ⟨#[]⟩) ∧ W'.cell? ⟨b2, 2, none⟩ = some (.string ⟨#[]⟩) ∧ W'.cell? ⟨b2, 3, none⟩ = some (.bool false) ∧ W'.cell? ⟨b2, 4, none⟩ = some (.int .i64 0) ∧ W'.cell? ⟨b2, 5, none⟩ = some (.slice none 0 0) ∧ W'.cell? ⟨b2, 6, none⟩ = some (.slice none 0 0) ∧ W'.cell? ⟨b2, 7, none⟩ = some (.string ⟨#[99]⟩) ∧ W'.cell? ⟨b2, 8, none⟩ = some (.string ⟨#[]⟩) ∧ W'.cell? ⟨b2, 9, none⟩ = some (.int .i64 3) ∧ W'.cell? ⟨b2, 10, none⟩ = some (.int .i64 0) ∧ W'.cell? ⟨b2, 11, none⟩ = some (.int .i64 0) ∧ W'.cell? ⟨b2, 12, none⟩ = some (.string ⟨#[]⟩) ∧ W'.cell? ⟨b2, 13, none⟩ = some (.int .i64 0) ∧ W'.cell? ⟨b2, 14, none⟩ = some (.int .i64 0) ∧ W'.cell? ⟨b1, 0, none⟩ = some (.string ⟨#[]⟩) ∧ W'.cell? ⟨b1, 1, none⟩ = some (.string ⟨#[]⟩) ∧ W'.cell? ⟨b1, 2, none⟩ = some (.bool true) ∧ W'.cell? ⟨b1, 3, none⟩ = some (.int .i64 0) ∧ W'.cell? ⟨b1, 4, none⟩ = some (.slice (some ⟨w.heap.size, 0, none⟩) 4 4) ∧ W'.cell? ⟨b1, 5, none⟩ = some (.bool false))
          (first | (go_split_ands; (repeat' apply And.intro) <;> first | with_reducible assumption | (with_reducible refine Gr.keep hg3 ?_; with_reducible assumption) | ((repeat (first | with_reducible refine drew1 ?_ | with_reducible refine alloc1 ?_ | with_reducible refine far1 ?_ (by omega))); first | with_reducible assumption | (with_reducible refine Gr.keep hg3 ?_; (repeat (first | with_reducible refine drew1 ?_ | with_reducible refine alloc1 ?_)); with_reducible assumption))) | (go_split_ands; (repeat' apply And.intro) <;> first | with_reducible assumption | (with_reducible refine Gr.keep hg4 ?_; with_reducible assumption) | ((repeat (first | with_reducible refine drew1 ?_ | with_reducible refine alloc1 ?_ | with_reducible refine far1 ?_ (by omega))); first | with_reducible assumption | (with_reducible refine Gr.keep hg4 ?_; (repeat (first | with_reducible refine drew1 ?_ | with_reducible refine alloc1 ?_)); with_reducible assumption)))) (first | (go_at_call 15; (with_reducible refine (hB.out _ ?_).mono ?_); (focus ((repeat (first | with_reducible exact Gr.refl _ | with_reducible refine Gr.drewN ?_ _ | with_reducible refine Gr.drew ?_ | with_reducible refine Gr.alloc ?_ _ | with_reducible refine Gr.setCell ?_ ?_ _ | (with_reducible refine Gr.trans ?_ (by assumption)) | omega | (dsimp only; omega))); done)); rintro e w3 ⟨o3, m3, c3, rfl, hO3, hg3⟩; (have hg9 : Gr wc w3 := Gr.trans (by (repeat (first | with_reducible exact Gr.refl _ | with_reducible refine Gr.drewN ?_ _ | with_reducible refine Gr.drew ?_ | with_reducible refine Gr.alloc ?_ _ | with_reducible refine Gr.setCell ?_ ?_ _ | (with_reducible refine Gr.trans ?_ (by assumption)) | omega | (dsimp only; omega)))) hg3); have hr3 := hO3.rows; obtain rfl : m3 = 4 := hr3.len.symm.trans (by decide); have Hr3 := Lib.hid hr3; have hle9 := hg9.le; obtain ⟨v0, v1, v2, v3, v4, v5, v6, v7, v8, v9, v10, v11, v12, v13, v14, v15, v16, v17, v18, v19, v20⟩ := HSk.out _ hg9; (try (have B8 := ((Bx.new wc #[.string ⟨#[]⟩, .string ⟨#[]⟩, .bool false, .int .i64 0, .slice none 0 0, .bool false] 27 (b := wc.heap.size) rfl).keep (Gr.refl _).drew).keep hg3; have q0 := (B8).cell 0 rfl; have q1 := (B8).cell 1 rfl; have q2 := (B8).cell 2 rfl; have q3 := (B8).cell 3 rfl; have q4 := (B8).cell 4 rfl; have q5 := (B8).cell 5 rfl; have p0 := (B8).free 0 (by simp); have p1 := (B8).free 1 (by simp); have p2 := (B8).free 2 (by simp); have p3 := (B8).free 3 (by simp); have p4 := (B8).free 4 (by simp); have p5 := (B8).free 5 (by simp)))) | (go_at_call 20; (first | ((with_reducible refine (fold_two w3 _ _ ?_ o3 4 c3 _ _ ?_ Hr3.out ?_ (Gr.refl _)).mono ?_); (focus (first | (with_reducible rfl) | (rw [size_alloc1]; done) | (rw [size_alloc1]; with_reducible rfl))); (focus ((repeat (first | with_reducible exact Gr.refl _ | with_reducible refine Gr.drewN ?_ _ | with_reducible refine Gr.drew ?_ | with_reducible refine Gr.alloc ?_ _ | with_reducible refine Gr.setCell ?_ ?_ _ | (with_reducible refine Gr.trans ?_ (by assumption)) | omega | (dsimp only; omega))); done)); (focus (exact rfl))) | ((with_reducible refine (fold_two w3 w3 _ ?_ o3 4 c3 _ _ ?_ Hr3.out ?_ ((Gr.refl _).alloc _)).mono ?_); (focus (with_reducible rfl)); (focus ((repeat (first | with_reducible exact Gr.refl _ | with_reducible refine Gr.drewN ?_ _ | with_reducible refine Gr.drew ?_ | with_reducible refine Gr.alloc ?_ _ | with_reducible refine Gr.setCell ?_ ?_ _ | (with_reducible refine Gr.trans ?_ (by assumption)) | omega | (dsimp only; omega))); done)); (focus (exact rfl)))); rintro e w4 ⟨o4, c4, rfl, hg4⟩; (have hg9 : Gr wc w4 := Gr.trans (by (repeat (first | with_reducible exact Gr.refl _ | with_reducible refine Gr.drewN ?_ _ | with_reducible refine Gr.drew ?_ | with_reducible refine Gr.alloc ?_ _ | with_reducible refine Gr.setCell ?_ ?_ _ | (with_reducible refine Gr.trans ?_ (by assumption)) | omega | (dsimp only; omega)))) hg4); have hle9 := hg9.le; obtain ⟨v0, v1, v2, v3, v4, v5, v6, v7, v8, v9, v10, v11, v12, v13, v14, v15, v16, v17, v18, v19, v20⟩ := HSk.out _ hg9; (first | (with_reducible have B9 := (B8.keep ((Gr.refl _).alloc _)).keep hg4; have q0 := (B9).cell 0 rfl; have q1 := (B9).cell 1 rfl; have q2 := (B9).cell 2 rfl; have q3 := (B9).cell 3 rfl; have q4 := (B9).cell 4 rfl; have q5 := (B9).cell 5 rfl; have p0 := (B9).free 0 (by simp); have p1 := (B9).free 1 (by simp); have p2 := (B9).free 2 (by simp); have p3 := (B9).free 3 (by simp); have p4 := (B9).free 4 (by simp); have p5 := (B9).free 5 (by simp)) | (with_reducible have B9 := ((Bx.new w3 #[.string ⟨#[]⟩, .string ⟨#[]⟩, .bool false, .int .i64 0, .slice none 0 0, .bool false] 27 (b := w3.heap.size) rfl).keep ((Gr.refl _).alloc _)).keep hg4; have q0 := (B9).cell 0 rfl; have q1 := (B9).cell 1 rfl; have q2 := (B9).cell 2 rfl; have q3 := (B9).cell 3 rfl; have q4 := (B9).cell 4 rfl; have q5 := (B9).cell 5 rfl; have p0 := (B9).free 0 (by simp); have p1 := (B9).free 1 (by simp); have p2 := (B9).free 2 (by simp); have p3 := (B9).free 3 (by simp); have p4 := (B9).free 4 (by simp); have p5 := (B9).free 5 (by simp)) | (have e1 : ∀ ob : Obj, (w3.alloc ob).heap.size = w3.heap.size + 1 := fun ob => size_alloc1 _ _; with_reducible have B9 := (Bx.new (w3.alloc _) #[.string ⟨#[]⟩, .string ⟨#[]⟩, .bool false, .int .i64 0, .slice none 0 0, .bool false] 27 (b := w3.heap.size + 1) (e1 _).symm).keep hg4; have q0 := (B9).cell 0 rfl; have q1 := (B9).cell 1 rfl; have q2 := (B9).cell 2 rfl; have q3 := (B9).cell 3 rfl; have q4 := (B9).cell 4 rfl; have q5 := (B9).cell 5 rfl; have p0 := (B9).free 0 (by simp); have p1 := (B9).free 1 (by simp); have p2 := (B9).free 2 (by simp); have p3 := (B9).free 3 (by simp); have p4 := (B9).free 4 (by simp); have p5 := (B9).free 5 (by simp)) | skip)))
        all_goals (go_wp2_with fail; go_meet; first | (with_reducible exact ⟨w4.heap.size, o4, c4, rfl, rfl, ak_boxB hg9 _ _⟩) | (with_reducible exact ⟨_, o4, c4, rfl, rfl, ak_boxA B9 rfl hg9 (by omega) _ _ _ _ _ _⟩))
      case rest =>
        obtain ⟨b5, o5, c5, rfl, rfl, B5, hg5⟩ := hcut
        have x7 := (B2.keep hg5).cell 7 rfl
        have x9 := (B2.keep hg5).cell 9 rfl
        have y5 := (B3.keep hg5).cell 5 rfl
        have z1 := B5.cell 1 rfl
        have z3 := B5.cell 3 rfl
        have z4 := B5.cell 4 rfl
        have hgr := (hg1.trans hg2).trans hg5
        go_wp2_with fail
        go_ret
        exact ⟨rfl, by repeat (first | with_reducible exact Gr.refl _ | with_reducible refine Gr.drewN ?_ _ | with_reducible refine Gr.drew ?_ | with_reducible refine Gr.alloc ?_ _ | with_reducible refine Gr.setCell ?_ ?_ _ | (with_reducible refine Gr.trans ?_ (by assumption)) | omega | (dsimp only; omega))⟩
end Go.Proofs.Ytidfelbaegaphaa
