import Derived.Test.YtkngjnkecmjakaaDoorHe
import Derived.Test.YtkngjnkecmjakaaDoorFs
import Derived.Test.YtkngjnkecmjakaaDoorOi
namespace Go.Proofs.YtkngjnkecmjakaaDoor
set_option linter.unusedVariables false
set_option linter.unusedSimpArgs false
open Go.BigFrame Go.RowKit Go.WideShapes

/-- a search as it stands: its block, the marks, the order so far -/
structure Sr (w : World) (base B U : Nat) (lv : Value) (u : List Bool) (ov : Value) (order : List Nat) (rv : Value) : Prop where
  hB : base ≤ B
  hU : base ≤ U
  ne : B ≠ U
  blk : w.heap[B]? = some (.cells #[lv, .slice (some ⟨U, 0, none⟩) u.length u.length, ov, rv] 51 (0, 0))
  ublk : w.heap[U]? = some (.cells (u.map Value.bool).toArray 4 (0, 0))
  own : w.ownsRow base 3 1 ov order.length (intsV order)
  oB : ∀ g, Value.ownBlock ov = some g → g ≠ B ∧ g ≠ U

theorem blk_cell {w : World} {B : Nat} {cs : Array Value} {T : TypeId} (h : w.heap[B]? = some (.cells cs T (0, 0))) (i : Nat) : w.cell? ⟨B, i, none⟩ = cs[i]? := by
  unfold World.cell?
  rw [show w.heap[(⟨B, i, none⟩ : Addr).block]? = _ from h]; simp
theorem blk_free {w : World} {B : Nat} {cs : Array Value} {T : TypeId} (h : w.heap[B]? = some (.cells cs T (0, 0))) (i : Nat) : w.frozen? ⟨B, i, none⟩ = false := by
  unfold World.frozen?
  rw [show w.heap[(⟨B, i, none⟩ : Addr).block]? = _ from h]; simp
theorem blk_keep {w w' : World} (hg : Gr w w') {B : Nat} {o : Obj} (h : w.heap[B]? = some o) : w'.heap[B]? = some o := by
  have hlt : B < w.heap.size := by
    rcases Nat.lt_or_ge B w.heap.size with r | r
    · exact r
    · rw [Array.getElem?_eq_none r] at h; cases h
  rw [hg.block B hlt]; exact h
theorem Sr.keep {w w' : World} {base B U : Nat} {lv : Value} {u : List Bool} {ov : Value} {order : List Nat} {rv : Value} (h : Sr w base B U lv u ov order rv) (hg : Gr w w') : Sr w' base B U lv u ov order rv := by
  refine ⟨h.hB, h.hU, h.ne, blk_keep hg h.blk, blk_keep hg h.ublk, ⟨h.own.1, ?_⟩, h.oB⟩
  rcases h.own.2 with ⟨e, hn⟩ | ⟨g, cap, cur, e, hb, hcur, rest⟩
  · exact .inl ⟨e, hn⟩
  · exact .inr ⟨g, cap, cur, e, hb, blk_keep hg hcur, rest⟩
theorem usedAt_cell {w : World} {U : Nat} {u : List Bool} {T : TypeId} (h : w.heap[U]? = some (.cells (u.map Value.bool).toArray T (0, 0))) {i : Nat} (hi : i < u.length) : w.cell? ⟨U, i, none⟩ = some (.bool (usedAt u i)) := by
  rw [blk_cell h]
  unfold usedAt
  rw [List.getD_eq_getElem?_getD, List.getElem?_eq_getElem hi]
  simp [hi]
theorem cells_boolT : Tryd.prog.cellsOf 4 = 1 := by kernel_rfl
theorem run_bl {oa : Option Addr} {n b off : Nat} (cap : Nat) (ho : 0 < n → oa = some ⟨b, off, none⟩) {k : Nat} (hk : k < n) (w : World) :
    (Instr.indexAt 49 (.slice oa n cap) (.int .i64 (k : Int))).run Tryd.prog w = .ok (.pointer (some ⟨b, off + k, none⟩)) w := by
  rw [ho (by omega)]
  go_simp

set_option maxRecDepth 100000 in
set_option maxHeartbeats 4000000 in
theorem whole_any {oa : Option Addr} {n cap : Nat} {l : List Ev} {w : World} {base B U : Nat} {u : List Bool} {ov : Value} {order : List Nat} {rv : Value} (hS : Sr w base B U (.slice oa n cap) u ov order rv) (hE : EvsAt w oa n cap l) (hu : u.length = n) :
    Calls Tryd.prog 30 #[.pointer (some ⟨B, 0, none⟩)] w fun e w' => e = .returned (.bool (wholeB l u)) ∧ Gr w w' := by
  have c0 : w.cell? ⟨B, 0, none⟩ = some (.slice oa n cap) := by rw [blk_cell hS.blk]; rfl
  have c1 : w.cell? ⟨B, 1, none⟩ = some (.slice (some ⟨U, 0, none⟩) u.length u.length) := by rw [blk_cell hS.blk]; rfl
  have Hu := Lib.hid (fun (i : Nat) (hi : i < n) => usedAt_cell hS.ublk (i := i) (by omega))
  rw [hu] at c1
  clear hS
  obtain ⟨b1, off1, ho1, hc1⟩ := hE.cells
  have Hc1 := Lib.hid hc1
  have Ho1 := Lib.hid (fun q => (ho1 q).1)
  have H1 := Lib.hid hE
  have hn1 := hE.cap_le
  have hm1 := hE.cap_max
  unfold maxLen at hm1
  clear hc1 ho1 hE
  go_enter Tryd.func30, Tryd.ntmps30
  go_wp2_with fail
  go_loopw [10] (fun i wr => ∃ k : Nat, k ≤ n ∧ i = .int .i64 k ∧ Hid (∀ j, j < k → usedAt u j = true ∨ (evAt l j).fin < 0) ∧ Gr w wr) (fun i _ => n - (intOf i).toNat)
  case atStart => exact ⟨0, Nat.zero_le _, rfl, Lib.hid fun j hj => by omega, Gr.refl _⟩
  case round =>
    obtain ⟨k, hk, rfl, hp, hg⟩ := hrel
    by_cases hlt : k < n
    · obtain ⟨a0, a1, a2, a3, a4, a5, a6, a7⟩ := Hc1.out k hlt
      have a0 := hg.keep a0
      have a1 := hg.keep a1
      have a2 := hg.keep a2
      have a3 := hg.keep a3
      have a4 := hg.keep a4
      have a5 := hg.keep a5
      have a6 := hg.keep a6
      have a7 := hg.keep a7
      have hI := run_ev cap Ho1.out hlt
      have gx := (Gr.refl wr).alloc (.cells #[.int .i64 (evAt l k).thread, .int .i64 (evAt l k).kind, .string (evAt l k).key, .string (evAt l k).cval, .string (evAt l k).val, .int .i64 (evAt l k).code, .int .i64 (evAt l k).beg, .int .i64 (evAt l k).fin] 38)
      have d1 := gx.keep (hg.keep c1)
      have d2 := gx.keep (hg.keep (Hu.out k hlt))
      have hIu := run_bl (oa := some ⟨U, 0, none⟩) (n := n) (b := U) (off := 0) n (fun _ => rfl) hlt
      rw [Nat.zero_add] at hIu
      clear gx
      cases hus : usedAt u k
      · rw [hus] at d2
        by_cases hfin : (evAt l k).fin < 0
        · have Hf := Lib.hid hfin
          go_wp2_with fail
          go_roundw
          case rel => exact ⟨k + 1, by omega, by go_num, Lib.hid fun j hj => by
            rcases Nat.lt_or_ge j k with q | q
            · exact hp.out j q
            · obtain rfl : j = k := by omega
              exact .inr Hf.out, hg.trans (by (repeat (first | with_reducible exact Gr.refl _ | with_reducible refine Gr.drewN ?_ _ | with_reducible refine Gr.drew ?_ | with_reducible refine Gr.alloc ?_ _ | with_reducible refine Gr.setCell ?_ ?_ _ | (with_reducible refine Gr.trans ?_ (by assumption)) | omega | (dsimp only; omega))))⟩
          case measure => simp [intOf]; omega
        · have e : wholeB l u = false := by
            unfold wholeB
            rw [decide_eq_false_iff_not]
            intro q
            rcases q k (by rw [H1.out.len]; exact hlt) with r | r
            · rw [hus] at r; cases r
            · exact hfin r
          have E := Lib.hid e
          clear e
          go_wp2_with fail
          go_ret
          exact ⟨by rw [E.out]; rfl, hg.trans (by (repeat (first | with_reducible exact Gr.refl _ | with_reducible refine Gr.drewN ?_ _ | with_reducible refine Gr.drew ?_ | with_reducible refine Gr.alloc ?_ _ | with_reducible refine Gr.setCell ?_ ?_ _ | (with_reducible refine Gr.trans ?_ (by assumption)) | omega | (dsimp only; omega))))⟩
      · rw [hus] at d2
        have Hs := Lib.hid hus
        clear hus
        go_wp2_with fail
        go_roundw
        case rel => exact ⟨k + 1, by omega, by go_num, Lib.hid fun j hj => by
          rcases Nat.lt_or_ge j k with q | q
          · exact hp.out j q
          · obtain rfl : j = k := by omega
            exact .inl Hs.out, hg.trans (by (repeat (first | with_reducible exact Gr.refl _ | with_reducible refine Gr.drewN ?_ _ | with_reducible refine Gr.drew ?_ | with_reducible refine Gr.alloc ?_ _ | with_reducible refine Gr.setCell ?_ ?_ _ | (with_reducible refine Gr.trans ?_ (by assumption)) | omega | (dsimp only; omega))))⟩
        case measure => simp [intOf]; omega
    · obtain rfl : k = n := by omega
      have e : wholeB l u = true := by
        unfold wholeB
        rw [decide_eq_true_iff]
        intro j hj
        exact hp.out j (by rw [H1.out.len] at hj; exact hj)
      have E := Lib.hid e
      clear e
      go_wp2_with fail
      go_ret
      exact ⟨by rw [E.out]; rfl, hg⟩

abbrev evW (w : World) (e : Ev) : World := w.alloc (.cells #[.int .i64 e.thread, .int .i64 e.kind, .string e.key, .string e.cval, .string e.val, .int .i64 e.code, .int .i64 e.beg, .int .i64 e.fin] 38)
theorem evbox (w : World) (e : Ev) : (evW w e).cell? ⟨w.heap.size, 0, none⟩ = some (.int .i64 e.thread) ∧ (evW w e).cell? ⟨w.heap.size, 1, none⟩ = some (.int .i64 e.kind) ∧ (evW w e).cell? ⟨w.heap.size, 2, none⟩ = some (.string e.key) ∧ (evW w e).cell? ⟨w.heap.size, 3, none⟩ = some (.string e.cval)
    ∧ (evW w e).cell? ⟨w.heap.size, 4, none⟩ = some (.string e.val) ∧ (evW w e).cell? ⟨w.heap.size, 5, none⟩ = some (.int .i64 e.code) ∧ (evW w e).cell? ⟨w.heap.size, 6, none⟩ = some (.int .i64 e.beg) ∧ (evW w e).cell? ⟨w.heap.size, 7, none⟩ = some (.int .i64 e.fin) :=
  ⟨World.cell?_alloc_new w _ _ 0, World.cell?_alloc_new w _ _ 1, World.cell?_alloc_new w _ _ 2, World.cell?_alloc_new w _ _ 3, World.cell?_alloc_new w _ _ 4, World.cell?_alloc_new w _ _ 5, World.cell?_alloc_new w _ _ 6, World.cell?_alloc_new w _ _ 7⟩

set_option maxRecDepth 100000 in
set_option maxHeartbeats 8000000 in
theorem free_any {oa : Option Addr} {n cap : Nat} {l : List Ev} {w : World} {base B U : Nat} {u : List Bool} {ov : Value} {order : List Nat} {rv : Value} (hS : Sr w base B U (.slice oa n cap) u ov order rv) (hE : EvsAt w oa n cap l) (hu : u.length = n) (i : Nat) (hi : i < n) :
    Calls Tryd.prog 31 #[.pointer (some ⟨B, 0, none⟩), .int .i64 i] w fun e w' => e = .returned (.bool (freeB l u i)) ∧ Gr w w' := by
  have c0 : w.cell? ⟨B, 0, none⟩ = some (.slice oa n cap) := by rw [blk_cell hS.blk]; rfl
  have c1 : w.cell? ⟨B, 1, none⟩ = some (.slice (some ⟨U, 0, none⟩) u.length u.length) := by rw [blk_cell hS.blk]; rfl
  have Hu := Lib.hid (fun (i : Nat) (hi : i < n) => usedAt_cell hS.ublk (i := i) (by omega))
  rw [hu] at c1
  clear hS
  obtain ⟨b1, off1, ho1, hc1⟩ := hE.cells
  have Hc1 := Lib.hid hc1
  have Ho1 := Lib.hid (fun q => (ho1 q).1)
  have H1 := Lib.hid hE
  have hn1 := hE.cap_le
  have hm1 := hE.cap_max
  unfold maxLen at hm1
  clear hc1 ho1 hE
  have d3 := Hu.out i hi
  have hIi := run_bl (oa := some ⟨U, 0, none⟩) (n := n) (b := U) (off := 0) n (fun _ => rfl) hi
  rw [Nat.zero_add] at hIi
  go_enter Tryd.func31, Tryd.ntmps31
  cases hui : usedAt u i
  rotate_left
  · rw [hui] at d3
    have e : freeB l u i = false := by unfold freeB; rw [hui]; rfl
    have E := Lib.hid e
    clear e
    go_wp2_with fail
    go_ret
    exact ⟨by rw [E.out]; rfl, Gr.refl _⟩
  rw [hui] at d3
  have Hi := Lib.hid hui
  clear hui
  go_wp2_with fail
  go_loopw [19] (fun v wr => ∃ k : Nat, k ≤ n ∧ v = .int .i64 k ∧ Hid (∀ j, j < k → j ≠ i → usedAt u j = false → aheadB (evAt l j) (evAt l i) = false) ∧ Gr w wr) (fun v _ => n - (intOf v).toNat)
  case atStart => exact ⟨0, Nat.zero_le _, rfl, Lib.hid fun j hj => by omega, Gr.refl _⟩
  case round =>
    obtain ⟨k, hk, rfl, hp, hg⟩ := hrel
    by_cases hlt : k < n
    · obtain ⟨a0, a1, a2, a3, a4, a5, a6, a7⟩ := Hc1.out k hlt
      have a0 := hg.keep a0
      have a1 := hg.keep a1
      have a2 := hg.keep a2
      have a3 := hg.keep a3
      have a4 := hg.keep a4
      have a5 := hg.keep a5
      have a6 := hg.keep a6
      have a7 := hg.keep a7
      have hI := run_ev cap Ho1.out hlt
      have hI2 := run_ev cap Ho1.out hi
      have gx := (Gr.refl wr).alloc (.cells #[.int .i64 (evAt l k).thread, .int .i64 (evAt l k).kind, .string (evAt l k).key, .string (evAt l k).cval, .string (evAt l k).val, .int .i64 (evAt l k).code, .int .i64 (evAt l k).beg, .int .i64 (evAt l k).fin] 38)
      have hgn := hg.trans gx
      have d0 := After.cell (gx.keep (hg.keep c0))
      have d1 := After.cell (gx.keep (hg.keep c1))
      have d2 := After.cell (gx.keep (hg.keep (Hu.out k hlt)))
      obtain ⟨x0, x1, x2, x3, x4, x5, x6, x7⟩ := Hc1.out i hi
      have x0 := After.cell (hgn.keep x0)
      have x1 := After.cell (hgn.keep x1)
      have x2 := After.cell (hgn.keep x2)
      have x3 := After.cell (hgn.keep x3)
      have x4 := After.cell (hgn.keep x4)
      have x5 := After.cell (hgn.keep x5)
      have x6 := After.cell (hgn.keep x6)
      have x7 := After.cell (hgn.keep x7)
      have v0 := After.cell (evbox wr (evAt l k)).1
      have v1 := After.cell (evbox wr (evAt l k)).2.1
      have v2 := After.cell (evbox wr (evAt l k)).2.2.1
      have v3 := After.cell (evbox wr (evAt l k)).2.2.2.1
      have v4 := After.cell (evbox wr (evAt l k)).2.2.2.2.1
      have v5 := After.cell (evbox wr (evAt l k)).2.2.2.2.2.1
      have v6 := After.cell (evbox wr (evAt l k)).2.2.2.2.2.2.1
      have v7 := After.cell (evbox wr (evAt l k)).2.2.2.2.2.2.2
      have hIu := run_bl (oa := some ⟨U, 0, none⟩) (n := n) (b := U) (off := 0) n (fun _ => rfl) hlt
      rw [Nat.zero_add] at hIu
      have hA0 := fun w => ahead_any (evAt l k) (evAt l i) w
      clear gx
      by_cases hki : k = i
      · have hne : ((k : Int) != (i : Int)) = false := by simp; omega
        have Hki := Lib.hid hki
        have HA := Lib.hid hA0
        clear hki hA0
        go_wp2_with fail
        refine wp_region_after (by kernel_rfl) (by kernel_rfl) ?_
        repeat (go_big_quiet_step ((go_at_call 47; (with_reducible exact after_gr (HA.out _)))))
        refine wpQuiet_nil ?_
        rintro _ ⟨⟨w1, hg1⟩, rfl⟩
        go_wp2_with fail
        go_roundw
        case rel => exact ⟨k + 1, by omega, by go_num, Lib.hid fun j hj h1 h2 => by
          rcases Nat.lt_or_ge j k with q | q
          · exact hp.out j q h1 h2
          · obtain rfl : j = k := by omega
            exact absurd Hki.out h1, hgn.trans hg1⟩
        case measure => simp [intOf]; omega
      · have hne : ((k : Int) != (i : Int)) = true := by simp; omega
        cases huk : usedAt u k
        · rw [huk] at d2
          cases hah : aheadB (evAt l k) (evAt l i)
          · rw [hah] at hA0
            have HA := Lib.hid hA0
            have Hah := Lib.hid hah
            clear hA0 hah huk
            go_wp2_with fail
            refine wp_region_after (by kernel_rfl) (by kernel_rfl) ?_
            repeat (go_big_quiet_step ((go_at_call 47; (with_reducible exact after_gr (HA.out _)))))
            refine wpQuiet_nil ?_
            rintro _ ⟨⟨w1, hg1⟩, rfl⟩
            go_wp2_with fail
            go_roundw
            case rel => exact ⟨k + 1, by omega, by go_num, Lib.hid fun j hj h1 h2 => by
              rcases Nat.lt_or_ge j k with q | q
              · exact hp.out j q h1 h2
              · obtain rfl : j = k := by omega
                exact Hah.out, hgn.trans hg1⟩
            case measure => simp [intOf]; omega
          · rw [hah] at hA0
            have HA := Lib.hid hA0
            have e : freeB l u i = false := by
              unfold freeB
              rw [Hi.out, Bool.not_false, Bool.true_and, decide_eq_false_iff_not]
              intro q
              have := q k (by rw [H1.out.len]; exact hlt) hki huk
              rw [hah] at this; cases this
            have E := Lib.hid e
            clear hA0 hah huk e
            go_wp2_with fail
            refine wp_region_after (by kernel_rfl) (by kernel_rfl) ?_
            repeat (go_big_quiet_step ((go_at_call 47; (with_reducible exact after_gr (HA.out _)))))
            refine wpQuiet_nil ?_
            rintro _ ⟨⟨w1, hg1⟩, rfl⟩
            go_wp2_with fail
            go_ret
            exact ⟨by rw [E.out]; rfl, hgn.trans hg1⟩
        · rw [huk] at d2
          have Huk := Lib.hid huk
          have HA := Lib.hid hA0
          clear huk hA0
          go_wp2_with fail
          refine wp_region_after (by kernel_rfl) (by kernel_rfl) ?_
          repeat (go_big_quiet_step ((go_at_call 47; (with_reducible exact after_gr (HA.out _)))))
          refine wpQuiet_nil ?_
          rintro _ ⟨⟨w1, hg1⟩, rfl⟩
          go_wp2_with fail
          go_roundw
          case rel => exact ⟨k + 1, by omega, by go_num, Lib.hid fun j hj h1 h2 => by
            rcases Nat.lt_or_ge j k with q | q
            · exact hp.out j q h1 h2
            · obtain rfl : j = k := by omega
              exact absurd h2 (by rw [Huk.out]; decide), hgn.trans hg1⟩
          case measure => simp [intOf]; omega
    · obtain rfl : k = n := by omega
      have e : freeB l u i = true := by
        unfold freeB
        rw [Hi.out, Bool.not_false, Bool.true_and, decide_eq_true_iff]
        intro j hj h1 h2
        exact hp.out j (by rw [H1.out.len] at hj; exact hj) h1 h2
      have E := Lib.hid e
      clear e
      go_wp2_with fail
      go_ret
      exact ⟨by rw [E.out]; rfl, hg⟩
end Go.Proofs.YtkngjnkecmjakaaDoor
