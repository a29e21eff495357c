import Derived.Test.YtfejdbcfcpmdiaaDoorCwz
namespace Go.Proofs.YtfejdbcfcpmdiaaDoor
set_option linter.unusedVariables false
set_option linter.unusedSimpArgs false
open Go.BigFrame Go.RowKit Go.WideShapes

/-! New: the program's and the document's. -/
def newB (thr lim : Int) : Bool := decide (1 ≤ thr) && decide (thr ≤ 64) && decide (1 ≤ lim) && decide (lim ≤ 1099511627776)
theorem newB_bad {thr lim : Int} (h : newB thr lim = false) : thr < 1 ∨ 64 < thr ∨ lim < 1 ∨ 1099511627776 < lim := by
  unfold newB at h
  simp only [Bool.and_eq_false_iff, decide_eq_false_iff_not] at h
  omega
theorem newB_nat {thr lim : Int} (h : newB thr lim = true) : ∃ a b : Nat, thr = a ∧ lim = b ∧ 1 ≤ a ∧ a ≤ 64 ∧ 1 ≤ b ∧ b ≤ 1099511627776 := by
  unfold newB at h
  simp only [Bool.and_eq_true, decide_eq_true_eq] at h
  exact ⟨thr.toNat, lim.toNat, by omega, by omega, by omega, by omega, by omega, by omega⟩
theorem map_empty {w : World} {b : Nat} (h : w.heap[b]? = some (.map #[] 0)) : mapI w b (fun _ => none) :=
  .of (n := 0) (D := .map []) ⟨#[], 0, h, ⟨by simp, Go.MapKept.stamped_empty 0, by simp⟩, Nat.le_refl _, rfl⟩ RdF.empty
set_option maxRecDepth 100000 in
set_option maxHeartbeats 2000000 in
theorem newP_bad (thr lim : Int) (w : World) (h : newB thr lim = false) : Calls Tryd.prog 8 #[.int .i64 thr, .int .i64 lim] w fun e w' => e = .returned (.pointer none) ∧ w = w' := by
  have hb := newB_bad h
  clear h
  by_cases h1 : thr < 1
  · have q1 : decide (thr < 1) = true := by simpa using h1
    clear hb
    go_enter Tryd.func8, Tryd.ntmps8
    go_wp2_with fail
    go_ret
    exact ⟨rfl, rfl⟩
  have q1 : decide (thr < 1) = false := by simpa using h1
  by_cases h2 : 64 < thr
  · have q2 : decide (64 < thr) = true := by simpa using h2
    clear hb
    go_enter Tryd.func8, Tryd.ntmps8
    go_wp2_with fail
    go_ret
    exact ⟨rfl, rfl⟩
  have q2 : decide (64 < thr) = false := by simpa using h2
  by_cases h3 : lim < 1
  · have q3 : decide (lim < 1) = true := by simpa using h3
    clear hb
    go_enter Tryd.func8, Tryd.ntmps8
    go_wp2_with fail
    go_ret
    exact ⟨rfl, rfl⟩
  have q3 : decide (lim < 1) = false := by simpa using h3
  have q4 : decide (1099511627776 < lim) = true := by simp; omega
  clear hb
  go_enter Tryd.func8, Tryd.ntmps8
  go_wp2_with fail
  go_ret
  exact ⟨rfl, rfl⟩
/-- a new table of the program -/
def NewT (thr lim : Nat) (w : World) (e : Ending) (w' : World) : Prop := ∃ t cm mk, e = .returned (.pointer (some ⟨t, 0, none⟩)) ∧ w.heap.size ≤ t ∧ w.heap.size ≤ cm ∧ w.heap.size ≤ mk ∧ TabV [t, cm, mk] w' t cm mk (newC thr lim) ∧ Gr w w'
theorem newP_v (thr lim : Nat) (w : World) (h1 : 1 ≤ thr) (h2 : thr ≤ 64) (h3 : 1 ≤ lim) (h4 : lim ≤ 1099511627776) : Calls Tryd.prog 8 #[.int .i64 thr, .int .i64 lim] w (NewT thr lim w) :=
  (new_any thr lim w (by omega) (by omega) (by omega) (by omega)).mono fun e w' ⟨t, cm, mk, he, hT, hg⟩ => by
    refine ⟨t, cm, mk, he, hT.ht, hT.hcm, hT.hmk, ⟨hT.ne1, hT.ne2, hT.ne3, by simp, by simp, by simp, ⟨fun j u hj => ?_, fun j hj => ⟨?_, hT.fz _⟩⟩, ⟨_, map_empty hT.m1, ⟨fun i hi => by simp [newC] at hi, fun k v hv => by cases hv⟩⟩, ?_⟩, hg⟩
    · have hu : (tabL (newC thr lim) cm mk)[j]? = some u := hj
      unfold newC tabL at hu
      dsimp only at hu
      rw [List.length_replicate] at hu
      rw [Nat.zero_add]
      rcases j with _ | _ | _ | _ | _ | _ | _ | j <;> simp at hu
      · rw [← hu]; exact hT.c0
      · rw [← hu]; exact hT.c1
      · rw [← hu]; exact hT.c2
      · rw [← hu]; exact hT.c3
      · rw [← hu]; exact hT.c4
      · rw [← hu]; exact hT.c5
      · rw [← hu]; exact hT.c6
    · rw [Nat.zero_add]
      have hj : j < 7 := hj
      rcases j with _ | _ | _ | _ | _ | _ | _ | j
      · rw [hT.c0]; rfl
      · rw [hT.c1]; rfl
      · rw [hT.c2]; rfl
      · rw [hT.c3]; rfl
      · rw [hT.c4]; rfl
      · rw [hT.c5]; rfl
      · rw [hT.c6]; rfl
      · omega
    · show mapI w' mk (marksF (List.replicate thr (-1)))
      rw [marksF_new]
      exact map_empty hT.m2
theorem Mod.grownOwn {S : List Nat} {V w w' : World} {r : Option Nat} (h : Mod S V w) (hg : w.grownBy w' r) (hr : ∀ g, r = some g → V.heap.size ≤ g) : Mod S V w' := by
  cases r with
  | none => exact h.then (Mod.grown hg (S := []) fun x e => by cases e) (fun g e => by cases e)
  | some g => exact h.then (Mod.grown hg (S := [g]) fun x e => by cases e; simp) (fun x e => by rw [List.mem_singleton] at e; subst e; exact .inr (hr _ rfl))
theorem OwnS.far {α : Type} {E : EP α} (hEw : ∀ w w' x vs, E w x vs → E w' x vs) {k : Nat} {T : TypeId} {w : World} {base : Nat} {oa : Option Addr} {n cap : Nat} {l : List α} (h : OwnS E k T w base oa n cap l) {b' j : Nat} (hb : b' < base) (u : Value) : OwnS E k T (w.setCell ⟨b', j, none⟩ u) base oa n cap l := by
  have hlt := h.lt
  obtain ⟨hl, vss, h1, h2, h3, h5⟩ := h
  exact ⟨hl, vss, h1, h2, ownsRow_setCell_other h3 (a := ⟨b', j, none⟩) (fun q => by have := (hlt b' q).1; omega) u, fun i x vs a b => hEw _ _ _ _ (h5 i x vs a b)⟩
section
variable {S : List Nat} {W w : World}
set_option maxRecDepth 100000 in
set_option maxHeartbeats 2000000 in
theorem refNew_r (thr lim : Nat) (h1 : 1 ≤ thr) (h2 : thr ≤ 64) (h3 : 1 ≤ lim) (h4 : lim ≤ 1099511627776) (hS : ∀ b ∈ S, b < w.heap.size) :
    Calls Tryd.prog 9 #[.int .i64 thr, .int .i64 lim] w (RefT1 S W w (newC thr lim) (.bool true)) := by
  have q1 : decide ((thr : Int) < 1) = false := by simp; omega
  have q2 : decide (64 < (thr : Int)) = false := by simp; omega
  have q3 : decide ((lim : Int) < 1) = false := by simp; omega
  have q4 : decide (1099511627776 < (lim : Int)) = false := by simp; omega
  have h64 : (thr : Int) ≤ 64 := by omega
  unfold RefT1
  obtain ⟨V, hV, B0, B1, hg0, hsz⟩ := boxes2 w 31 zRT [.int .i64 lim, .int .i64 0, .slice none 0 0, .slice none 0 0, .slice none 0 0, .int .i64 (-1)]
  go_enter Tryd.func9, Tryd.ntmps9
  go_upto_region 2 with fail
  rw [← hV]
  clear hV
  have Hsz := Lib.hid hsz
  generalize hbx : w.heap.size = bx at *
  have Hbx := Lib.hid hbx
  have hbx1 := B0.lt (by simp)
  have hbx2 := B1.lt (by simp)
  clear hbx hsz
  have HN := Lib.hid (OwnS.nil InE 1 3 V V.heap.size)
  have HB0 := Lib.hid B0
  have HB1 := Lib.hid B1
  clear B0 B1
  go_wp2_with fail
  go_loopw [7] (fun s7 wr => ∃ (k : Nat) (o : Option Addr) (c : Nat), k ≤ thr ∧ s7 = .int .i64 k ∧ Hid (OwnS InE 1 3 wr V.heap.size o k c (List.replicate k (-1))) ∧ Hid (Mod [bx + 1] V wr) ∧ Hid (Bx wr bx zRT) ∧ Hid (Bx wr (bx + 1) [.int .i64 lim, .int .i64 0, .slice none 0 0, .slice none 0 0, .slice o k c, .int .i64 (-1)])) (fun s7 _ => thr - (intOf s7).toNat)
  case atStart => exact ⟨0, none, 0, Nat.zero_le _, rfl, HN, Lib.hid (Mod.refl _ _), HB0, HB1⟩
  case round =>
    obtain ⟨k, o, c, hk, rfl, hO, hM, hB0, hB1⟩ := hrel
    by_cases hlt : k < thr
    · have B0 := hB0.out
      have B1 := hB1.out
      have d4 := B1.cell 4 rfl
      have hMs := hM.out.size
      have HO2 := Lib.hid (hO.out.keep InE_mono ((Gr.refl wr).alloc (.cells #[.int .i64 (-1)] 3)))
      have HS3 := Lib.hid (SlE.one1 (E := InE) (x := -1) (v := .int .i64 (-1)) (r := Value.ownBlock (.slice o k c)) (w := wr.alloc (.cells #[.int .i64 (-1)] 3)) (b := wr.heap.size) rfl (fun w => rfl) (World.cell?_alloc_new wr _ _ 0) (fun e => by have := (hO.out.lt _ e).2; omega))
      go_upto_region 6 with (at_builtin; refine wpList_app InE_mono inT rfl _ _ rfl (base := V.heap.size) (Nat.le_trans hMs (Gr.le ((Gr.refl wr).alloc _))) rfl HO2.out rfl HS3.out (by unfold maxLen; omega) (by omega) ?_; intro oc c3 w2 ho2 hb2; (have B0 := (B0.keep ((Gr.refl wr).alloc (.cells #[.int .i64 (-1)] 3))).grown hb2 (fun e => by have := (HO2.out.lt _ e).1; omega)); (have B1 := (B1.keep ((Gr.refl wr).alloc (.cells #[.int .i64 (-1)] 3))).grown hb2 (fun e => by have := (HO2.out.lt _ e).1; omega)); have y4 := B1.cell 4 rfl; have f4 := B1.free 4 (by simp); have HOo := Lib.hid ho2; have Hb2 := Lib.hid hb2; clear ho2 hb2)
      have C0 := B0.other (b' := bx + 1) (j := 4) (by omega) (.slice oc (k + 1) c3)
      have C1 := (B1.set 4 (.slice oc (k + 1) c3)).of (us := [.int .i64 lim, .int .i64 0, .slice none 0 0, .slice none 0 0, .slice oc (k + 1) c3, .int .i64 (-1)]) rfl
      have HC0 := Lib.hid C0
      have HC1 := Lib.hid C1
      have HM5 := Lib.hid (((hM.out.trans (((Gr.refl wr).alloc (.cells #[.int .i64 (-1)] 3)).mod _)).grownOwn Hb2.out (fun g e => (hO.out.lt g e).1)).trans (Mod.setCell w2 ⟨bx + 1, 4, none⟩ (.slice oc (k + 1) c3) (by simp)))
      have HO5 := Lib.hid (HOo.out.far (fun w w' x vs h => h) hbx2 (j := 4) (.slice oc (k + 1) c3))
      clear C0 C1 B0 B1 y4 f4 d4
      generalize w2.setCell ⟨bx + 1, 4, none⟩ (.slice oc (k + 1) c3) = w5 at *
      (try simp only [Act.put])
      go_wp2_with fail
      go_roundw
      case rel => exact ⟨k + 1, oc, c3, by omega, by go_num, Lib.hid (by rw [List.replicate_succ']; exact HO5.out), HM5, HC0, HC1⟩
      case measure => simp [intOf]; omega
    · obtain rfl : k = thr := by omega
      have B0 := hB0.out
      have B1 := hB1.out
      have hgV : Gr w wr := hM.out.gr hg0 (fun b hb => by have := Hbx.out; rw [List.mem_singleton] at hb; omega)
      have HS2 := Lib.hid fun b (hb : b ∈ S) => show b < V.heap.size by have := hS b hb; omega
      clear hB0 hB1
      go_wp2_with (first | ((with_reducible refine wpList_load_box (ty := 31) (B1) ?_ ?_ Tryd.underlying31 ?_ ?_ ?_); (focus (exact rfl)); (focus (exact ⟨_, rfl, rfl⟩)); (focus (exact rfl)); (focus kernel_rfl)) | ((with_reducible refine wpList_store_box (ty := 31) (B0) ([.int .i64 lim, .int .i64 0, .slice none 0 0, .slice none 0 0, .slice o k c, .int .i64 (-1)]) ?_ ?_ ?_ ?_ ?_ ?_); (focus (exact rfl)); (focus (exact ⟨_, _, rfl, rfl, rfl⟩)); (focus (exact rfl)); (focus kernel_rfl); (focus kernel_rfl)))
      have Z := B0.setAll (us := [.int .i64 lim, .int .i64 0, .slice none 0 0, .slice none 0 0, .slice o k c, .int .i64 (-1)]) rfl
      have hM8 : Mod [bx] wr (wr.setCells bx 0 [.int .i64 lim, .int .i64 0, .slice none 0 0, .slice none 0 0, .slice o k c, .int .i64 (-1)]) := Mod.setCells (by simp) _ _ _
      have hgz := hM8.gr hgV (fun b hb => by have := Hbx.out; rw [List.mem_singleton] at hb; omega)
      have hm1 := (hO.out.hide InE_mono (S := bx :: S) (fun b hb => by
        rcases List.mem_cons.1 hb with rfl | hb
        · exact hbx1
        · exact HS2.out b hb) (fun x vs h => h)).ex InE_mono ((hM8.ex2 (S' := bx :: S) (by simp)).trans (hideL_sub _ (S' := S) (by simp +contextual)))
      refine bodyPost_ret (Bx.ret2 Z rfl _ rfl rfl Tryd.underlying31 rfl (by kernel_rfl)) rfl ?_
      refine ⟨⟨none, 0, none, 0, o, c⟩, ?_, ⟨SlE.nil _ _ _, SlE.nil _ _ _, ?_⟩, hgz⟩
      · unfold newC refL
        dsimp only
        rw [List.length_replicate]
        rfl
      · show SlE InE 1 _ o (List.replicate k (-1)).length c (List.replicate k (-1))
        rw [List.length_replicate]
        exact hm1
end
end Go.Proofs.YtfejdbcfcpmdiaaDoor
