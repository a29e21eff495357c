import Derived.Test.YtlgeaponicgdoaaTk
import Derived.Test.YtlgeaponicgdoaaAw
import Derived.Deep.RegionWith
namespace Go.Proofs.Ytlgeaponicgdoaa
set_option linter.unusedVariables false
set_option linter.unusedSimpArgs false
open Go.BigFrame Go.RowKit Go.WideShapes

/-- the rows of a span, rising -/
def ups (low high : ByteArray) (u : Bool) (l : List Rw) : List Rw := l.filter (inS low high u)
/-- how many of them a limit leaves -/
def many (low high : ByteArray) (u : Bool) (lim : Int) (l : List Rw) : Nat := if 1 ≤ lim then min lim.toNat (ups low high u l).length else (ups low high u l).length
theorem turn_up (low high : ByteArray) (u : Bool) (lim : Int) (l : List Rw) : takeR low high u lim false l = (ups low high u l).take (many low high u lim l) := by
  unfold takeR many visit ups
  rw [if_neg (show ¬ (false = true) by decide)]
  split
  · rw [List.take_eq_take_iff]; omega
  · rw [List.take_length]
theorem turn_down (low high : ByteArray) (u : Bool) (lim : Int) (l : List Rw) : takeR low high u lim true l = (ups low high u l).reverse.take (many low high u lim l) := by
  unfold takeR many visit ups
  rw [if_pos rfl, List.filter_reverse]
  split
  · rw [List.take_eq_take_iff, List.length_reverse]; omega
  · rw [List.take_of_length_le (by simp)]
theorem many_le (low high : ByteArray) (u : Bool) (lim : Int) (l : List Rw) : many low high u lim l ≤ (ups low high u l).length := by
  unfold many; split <;> omega
theorem many_all (low high : ByteArray) (u : Bool) (lim : Int) (l : List Rw) (h : ¬ 1 ≤ lim) : many low high u lim l = (ups low high u l).length := by
  unfold many; rw [if_neg h]
theorem many_lim {low high : ByteArray} {u : Bool} {lim : Int} {l : List Rw} (h : 1 ≤ lim) : (many low high u lim l : Int) = min lim ((ups low high u l).length : Int) := by
  unfold many; rw [if_pos h]; omega
theorem rAt_reverse {l : List Rw} {k : Nat} (h : k < l.length) : rAt l.reverse (l.length - 1 - k) = rAt l k := by
  rw [rAt_lt (by simp; omega), rAt_lt h, List.getElem_reverse]
  congr 1
  omega

theorem of_drew {w w' : World} (h : Gr w.drew w') : Gr w w' := ((Gr.refl w).drew).trans h

abbrev spanW (w : World) (low high : ByteArray) (u : Bool) : World := w.alloc (.cells #[.string low, .string high, .bool u] 39)

set_option maxRecDepth 100000 in
set_option maxHeartbeats 1000000 in
theorem turns_skip (oa : Option Addr) (n cap : Nat) (l : List Rw) (low high : ByteArray) (u : Bool) (lim : Int) (w : World) (h : RowsAt w oa n cap l) (hl : low.size ≤ maxLen) (hh : high.size ≤ maxLen) (hs : 100 < low.size ∨ (low.size ≤ 100 ∧ 100 < high.size)) :
    Calls Try.prog 5 #[.slice oa n cap, .agg #[.string low, .string high, .bool u], .int .i64 lim] w fun e w' => e = .returned (.bool true) ∧ Gr w w' := by
  have hF := Lib.hid (few_any oa n cap l (spanW w low high u) (h.keep (by repeat (first | with_reducible exact Gr.refl _ | with_reducible refine Gr.drewN ?_ _ | with_reducible refine Gr.drew ?_ | with_reducible refine Gr.alloc ?_ _ | with_reducible refine Gr.setCell ?_ ?_ _ | (with_reducible refine Gr.trans ?_ (by assumption)) | omega | (dsimp only; omega)))))
  have b0 := fun d : Nat => (show ((spanW w low high u).drewN d).cell? ⟨w.heap.size, 0, none⟩ = some (.string low) from World.cell?_alloc_new w _ _ 0)
  have b1 := fun d : Nat => (show ((spanW w low high u).drewN d).cell? ⟨w.heap.size, 1, none⟩ = some (.string high) from World.cell?_alloc_new w _ _ 1)
  clear h
  unfold maxLen at hl hh
  rcases hs with hs | ⟨hs, hs2⟩
  all_goals
    go_enter Try.func5, Try.ntmps5
    go_wp2_with fail
    refine hF.out.mono ?_
    rintro e w1 ⟨⟨b, rfl, hb⟩, d, rfl⟩
    cases b
    all_goals
      go_wp2_with fail
      refine (awake_any _).mono ?_
      rintro e w2 ⟨rfl, hg2⟩
      go_wp2_with fail
      go_ret
      exact ⟨rfl, by repeat (first | with_reducible exact Gr.refl _ | with_reducible refine Gr.drewN ?_ _ | with_reducible refine Gr.drew ?_ | with_reducible refine Gr.alloc ?_ _ | with_reducible refine Gr.setCell ?_ ?_ _ | (with_reducible refine Gr.trans ?_ (by assumption)) | omega | (dsimp only; omega))⟩

set_option maxRecDepth 100000 in
set_option maxHeartbeats 20000000 in
theorem turns_main (oa : Option Addr) (n cap : Nat) (l : List Rw) (low high : ByteArray) (u : Bool) (lim : Int) (w : World) (h : RowsAt w oa n cap l) (hl : low.size ≤ maxLen) (hh : high.size ≤ maxLen) (hl1 : low.size ≤ 100) (hh1 : high.size ≤ 100) :
    Calls Try.prog 5 #[.slice oa n cap, .agg #[.string low, .string high, .bool u], .int .i64 lim] w fun e w' => e = .returned (.bool true) ∧ Gr w w' := by
  have hF := Lib.hid (few_any oa n cap l (spanW w low high u) (h.keep (by repeat (first | with_reducible exact Gr.refl _ | with_reducible refine Gr.drewN ?_ _ | with_reducible refine Gr.drew ?_ | with_reducible refine Gr.alloc ?_ _ | with_reducible refine Gr.setCell ?_ ?_ _ | (with_reducible refine Gr.trans ?_ (by assumption)) | omega | (dsimp only; omega)))))
  have b0 : (spanW w low high u).cell? ⟨w.heap.size, 0, none⟩ = some (.string low) := World.cell?_alloc_new w _ _ 0
  have b1 : (spanW w low high u).cell? ⟨w.heap.size, 1, none⟩ = some (.string high) := World.cell?_alloc_new w _ _ 1
  have b2 : (spanW w low high u).cell? ⟨w.heap.size, 2, none⟩ = some (.bool u) := World.cell?_alloc_new w _ _ 2
  have H := Lib.hid h
  clear h
  go_enter Try.func5, Try.ntmps5
  go_wp2_with fail
  refine hF.out.mono ?_
  rintro e w1 ⟨⟨b, rfl, hb⟩, d, rfl⟩
  have b0 : ((spanW w low high u).drewN d).cell? ⟨w.heap.size, 0, none⟩ = some (.string low) := b0
  have b1 : ((spanW w low high u).drewN d).cell? ⟨w.heap.size, 1, none⟩ = some (.string high) := b1
  have b2 : ((spanW w low high u).drewN d).cell? ⟨w.heap.size, 2, none⟩ = some (.bool u) := b2
  have hg1 : Gr w ((spanW w low high u).drewN d) := by repeat (first | with_reducible exact Gr.refl _ | with_reducible refine Gr.drewN ?_ _ | with_reducible refine Gr.drew ?_ | with_reducible refine Gr.alloc ?_ _ | with_reducible refine Gr.setCell ?_ ?_ _ | (with_reducible refine Gr.trans ?_ (by assumption)) | omega | (dsimp only; omega))
  generalize (spanW w low high u).drewN d = w1 at *
  cases b
  · go_wp2_with fail
    refine (awake_any _).mono ?_
    rintro e w2 ⟨rfl, hg2⟩
    go_wp2_with fail
    go_ret
    exact ⟨rfl, by repeat (first | with_reducible exact Gr.refl _ | with_reducible refine Gr.drewN ?_ _ | with_reducible refine Gr.drew ?_ | with_reducible refine Gr.alloc ?_ _ | with_reducible refine Gr.setCell ?_ ?_ _ | (with_reducible refine Gr.trans ?_ (by assumption)) | omega | (dsimp only; omega))⟩
  · have hn := hb rfl
    clear hb hF
    have Hb := Lib.hid (fun w2 (hg : Gr w1 w2) => And.intro (hg.keep b0) (And.intro (hg.keep b1) (hg.keep b2)))
    have hA := Lib.hid (fun w2 (hg : Gr w1 w2) => take_any oa n cap l low high u 0 false w2 (H.out.keep (hg1.trans hg)) (by omega) hl hh)
    have hB := Lib.hid (fun w2 (hg : Gr w1 w2) => take_any oa n cap l low high u (-5) true w2 (H.out.keep (hg1.trans hg)) (by omega) hl hh)
    have hC := Lib.hid (fun w2 (hg : Gr w1 w2) => take_any oa n cap l low high u lim false w2 (H.out.keep (hg1.trans hg)) (by omega) hl hh)
    have hD := Lib.hid (fun w2 (hg : Gr w1 w2) => take_any oa n cap l low high u lim true w2 (H.out.keep (hg1.trans hg)) (by omega) hl hh)
    rw [turn_up, many_all _ _ _ _ _ (by decide), List.take_length] at hA
    rw [turn_down, many_all _ _ _ _ _ (by decide), ← List.length_reverse, List.take_length] at hB
    rw [turn_up] at hC
    rw [turn_down] at hD
    have hq := many_le low high u lim l
    have hQ := Lib.hid (fun h : 1 ≤ lim => many_lim (low := low) (high := high) (u := u) (l := l) h)
    generalize many low high u lim l = q at *
    generalize ups low high u l = F at *
    go_wp2_with fail
    go_region_with (first
      | (go_at_call 19; ((with_reducible refine Calls.mono (hA.out _ ?_) ?_); (focus ((repeat (first | with_reducible exact Gr.refl _ | with_reducible refine Gr.drewN ?_ _ | with_reducible refine Gr.drew ?_ | with_reducible refine Gr.alloc ?_ _ | with_reducible refine Gr.setCell ?_ ?_ _ | (with_reducible refine Gr.trans ?_ (by assumption)) | omega | (dsimp only; omega))); done))); rintro e w2 ⟨o1, m1, c1, rfl, hr1, hg2, -⟩; obtain ⟨b0, b1, b2⟩ := Hb.out w2 (by (repeat (first | with_reducible exact Gr.refl _ | with_reducible refine Gr.drewN ?_ _ | with_reducible refine Gr.drew ?_ | with_reducible refine Gr.alloc ?_ _ | with_reducible refine Gr.setCell ?_ ?_ _ | (with_reducible refine Gr.trans ?_ (by assumption)) | omega | (dsimp only; omega)))))
      | (go_at_call 19; ((with_reducible refine Calls.mono (hB.out _ ?_) ?_); (focus ((repeat (first | with_reducible exact Gr.refl _ | with_reducible refine Gr.drewN ?_ _ | with_reducible refine Gr.drew ?_ | with_reducible refine Gr.alloc ?_ _ | with_reducible refine Gr.setCell ?_ ?_ _ | (with_reducible refine Gr.trans ?_ (by assumption)) | omega | (dsimp only; omega))); done))); rintro e w3 ⟨o2, m2, c2, rfl, hr2, hg3, -⟩; obtain ⟨b0, b1, b2⟩ := Hb.out w3 (by (repeat (first | with_reducible exact Gr.refl _ | with_reducible refine Gr.drewN ?_ _ | with_reducible refine Gr.drew ?_ | with_reducible refine Gr.alloc ?_ _ | with_reducible refine Gr.setCell ?_ ?_ _ | (with_reducible refine Gr.trans ?_ (by assumption)) | omega | (dsimp only; omega))))))
    all_goals
      obtain rfl : m1 = F.length := hr1.len.symm
      obtain rfl : m2 = F.length := by rw [← hr2.len, List.length_reverse]
      have R1 := Lib.hid (hr1.keep (show Gr w2 w3 from hg3))
      have R2 := Lib.hid hr2
      have hgW : Gr w1 w3 := Gr.trans (of_drew hg2) hg3
      clear hr1 hr2 hg2 hg3
      generalize w3 = W at *
      go_wp2_with fail
      go_region_with (first
        | (go_at_call 19; ((with_reducible refine Calls.mono (hC.out _ ?_) ?_); (focus ((repeat (first | with_reducible exact Gr.refl _ | with_reducible refine Gr.drewN ?_ _ | with_reducible refine Gr.drew ?_ | with_reducible refine Gr.alloc ?_ _ | with_reducible refine Gr.setCell ?_ ?_ _ | (with_reducible refine Gr.trans ?_ (by assumption)) | omega | (dsimp only; omega))); done))); rintro e w4 ⟨o3, m3, c3, rfl, hr3, hg4, -⟩; obtain ⟨b0, b1, b2⟩ := Hb.out w4 (by (repeat (first | with_reducible exact Gr.refl _ | with_reducible refine Gr.drewN ?_ _ | with_reducible refine Gr.drew ?_ | with_reducible refine Gr.alloc ?_ _ | with_reducible refine Gr.setCell ?_ ?_ _ | (with_reducible refine Gr.trans ?_ (by assumption)) | omega | (dsimp only; omega)))))
        | (go_at_call 19; ((with_reducible refine Calls.mono (hD.out _ ?_) ?_); (focus ((repeat (first | with_reducible exact Gr.refl _ | with_reducible refine Gr.drewN ?_ _ | with_reducible refine Gr.drew ?_ | with_reducible refine Gr.alloc ?_ _ | with_reducible refine Gr.setCell ?_ ?_ _ | (with_reducible refine Gr.trans ?_ (by assumption)) | omega | (dsimp only; omega))); done))); rintro e w5 ⟨o4, m4, c4, rfl, hr4, hg5, -⟩; obtain ⟨b0, b1, b2⟩ := Hb.out w5 (by (repeat (first | with_reducible exact Gr.refl _ | with_reducible refine Gr.drewN ?_ _ | with_reducible refine Gr.drew ?_ | with_reducible refine Gr.alloc ?_ _ | with_reducible refine Gr.setCell ?_ ?_ _ | (with_reducible refine Gr.trans ?_ (by assumption)) | omega | (dsimp only; omega))))))
      all_goals
        have e3 := hr3.len
        have e4 := hr4.len
        rw [List.length_take] at e3 e4
        rw [List.length_reverse] at e4
        rw [Nat.min_eq_left hq] at e3 e4
        subst e3 e4
        have R3 := Lib.hid (hr3.keep (show Gr w4 w5 from hg5))
        have R4 := Lib.hid hr4
        have hgV : Gr W w5 := Gr.trans (of_drew hg4) hg5
        clear hr3 hr4 hg4 hg5
        generalize w5 = V at *
        have R1 := Lib.hid (R1.out.keep hgV)
        have R2 := Lib.hid (R2.out.keep hgV)
        have hgU : Gr w V := hg1.trans (hgW.trans hgV)
        clear Hb hA hB hC hD hgV hgW hg1 b0 b1 b2
        have d1 : decide ((F.length : Int) < (q : Int)) = false := by simp; omega
        have d2 : decide (F.length < q) = false := by simp; omega
        have Hh := H.out.len
        clear H
        have hc1 := R1.out.cap_le
        have hc2 := R2.out.cap_le
        have hm1 := R1.out.cap_max
        have hm2 := R2.out.cap_max
        unfold maxLen at hm1 hm2
        obtain ⟨b1, off1, ho1, hcl1⟩ := R1.out.cells
        obtain ⟨b2, off2, ho2, hcl2⟩ := R2.out.cells
        have Ho1 := Lib.hid (fun q => (ho1 q).1)
        have Ho2 := Lib.hid (fun q => (ho2 q).1)
        have Hc1 := Lib.hid hcl1
        have Hc2 := Lib.hid hcl2
        clear ho1 ho2 hcl1 hcl2
        have t1 := run_head o1 F.length c1 q (by omega)
        have t2 := run_head o2 F.length c2 q (by omega)
        have hS1 := Lib.hid (fun w1 (hg : Gr V w1) => refSame_any o3 o1 q c3 q c1 _ _ w1 (R3.out.keep hg) ((R1.out.keep hg).head hq))
        have hS2 := Lib.hid (fun w1 (hg : Gr V w1) => refSame_any o4 o2 q c4 q c2 _ _ w1 (R4.out.keep hg) ((R2.out.keep hg).head hq))
        have HH : 1 ≤ lim → ((q : Int) = F.length ∧ (F.length : Int) < lim) ∨ ((q : Int) = lim ∧ ¬ (F.length : Int) < lim) := fun h => by
          have := hQ.out h
          omega
        clear hQ
        by_cases hlim : 1 ≤ lim
        rotate_left
        · clear HH
          go_wp2_with fail
          go_loopw [76] (fun i wr => ∃ k : Nat, k ≤ F.length ∧ i = .int .i64 k ∧ Dr V wr) (fun i _ => F.length - (intOf i).toNat)
          case atStart => exact ⟨0, Nat.zero_le _, rfl, Dr.refl _⟩
          case round =>
            obtain ⟨k, hk, rfl, d, rfl⟩ := hrel
            by_cases hlt : k < F.length
            · have a1 := (Hc1.out k hlt).1
              have a2 := (Hc1.out k hlt).2
              have a3 := (Hc2.out (F.length - 1 - k) (by omega)).1
              have a4 := (Hc2.out (F.length - 1 - k) (by omega)).2
              unfold kAt at a3
              unfold vAt at a4
              rw [rAt_reverse hlt] at a3 a4
              change _ = some (Value.string (kAt F k)) at a3
              change _ = some (Value.string (vAt F k)) at a4
              have hI := run_row c1 Ho1.out hlt
              have hI2 := fun w => run_rowI c2 Ho2.out (k := (F.length : Int) - 1 - (k : Int)) (by omega) (by omega) w
              have e1 : ((F.length : Int) - 1 - (k : Int)).toNat = F.length - 1 - k := by omega
              rw [e1] at hI2
              go_wp2_with fail
              go_big_quiet (fail)
              go_wp2_with fail
              go_roundw
              case rel => exact ⟨k + 1, by omega, by go_num, ⟨_, rfl⟩⟩
              case measure => simp [intOf]; omega
            · obtain hkk : k = F.length := by omega
              go_wp2_with fail
              have hS1 := hS1.out (V.drewN d) (by repeat (first | with_reducible exact Gr.refl _ | with_reducible refine Gr.drewN ?_ _ | with_reducible refine Gr.drew ?_ | with_reducible refine Gr.alloc ?_ _ | with_reducible refine Gr.setCell ?_ ?_ _ | (with_reducible refine Gr.trans ?_ (by assumption)) | omega | (dsimp only; omega)))
              (first | rw [decide_eq_true rfl] at hS1 | rw [decide_eq_true trivial] at hS1 | simp only [decide_true] at hS1)
              have hS1 := Lib.hid hS1
              refine hS1.out.mono ?_
              rintro e w6 ⟨rfl, hg6⟩
              have hS2 := hS2.out w6 (hg6.gr.drewN d |> fun _ => ((Gr.refl V).drewN d).trans hg6.gr)
              (first | rw [decide_eq_true rfl] at hS2 | rw [decide_eq_true trivial] at hS2 | simp only [decide_true] at hS2)
              have hS2 := Lib.hid hS2
              have hgX : Gr w w6 := hgU.trans (((Gr.refl V).drewN d).trans hg6.gr)
              clear hg6 hS1
              go_wp2_with fail
              refine hS2.out.mono ?_
              rintro e w7 ⟨rfl, hg7⟩
              have hg7 := hg7.gr
              clear hS2
              go_wp2_with (go_at_call 13; refine (awake_any _).mono ?_; rintro e w8 ⟨rfl, hg8⟩)
              go_ret
              exact ⟨rfl, hgX.trans (hg7.trans (by (repeat (first | with_reducible exact Gr.refl _ | with_reducible refine Gr.drewN ?_ _ | with_reducible refine Gr.drew ?_ | with_reducible refine Gr.alloc ?_ _ | with_reducible refine Gr.setCell ?_ ?_ _ | (with_reducible refine Gr.trans ?_ (by assumption)) | omega | (dsimp only; omega)))))⟩
        obtain ⟨hx, hy⟩ | ⟨hx, hy⟩ := HH hlim
        · obtain rfl : q = F.length := by omega
          clear HH hx
          go_wp2_with fail
          go_loopw [76] (fun i wr => ∃ k : Nat, k ≤ F.length ∧ i = .int .i64 k ∧ Dr V wr) (fun i _ => F.length - (intOf i).toNat)
          case atStart => exact ⟨0, Nat.zero_le _, rfl, Dr.refl _⟩
          case round =>
            obtain ⟨k, hk, rfl, d, rfl⟩ := hrel
            by_cases hlt : k < F.length
            · have a1 := (Hc1.out k hlt).1
              have a2 := (Hc1.out k hlt).2
              have a3 := (Hc2.out (F.length - 1 - k) (by omega)).1
              have a4 := (Hc2.out (F.length - 1 - k) (by omega)).2
              unfold kAt at a3
              unfold vAt at a4
              rw [rAt_reverse hlt] at a3 a4
              change _ = some (Value.string (kAt F k)) at a3
              change _ = some (Value.string (vAt F k)) at a4
              have hI := run_row c1 Ho1.out hlt
              have hI2 := fun w => run_rowI c2 Ho2.out (k := (F.length : Int) - 1 - (k : Int)) (by omega) (by omega) w
              have e1 : ((F.length : Int) - 1 - (k : Int)).toNat = F.length - 1 - k := by omega
              rw [e1] at hI2
              go_wp2_with fail
              go_big_quiet (fail)
              go_wp2_with fail
              go_roundw
              case rel => exact ⟨k + 1, by omega, by go_num, ⟨_, rfl⟩⟩
              case measure => simp [intOf]; omega
            · obtain hkk : k = F.length := by omega
              go_wp2_with fail
              have hS1 := hS1.out (V.drewN d) (by repeat (first | with_reducible exact Gr.refl _ | with_reducible refine Gr.drewN ?_ _ | with_reducible refine Gr.drew ?_ | with_reducible refine Gr.alloc ?_ _ | with_reducible refine Gr.setCell ?_ ?_ _ | (with_reducible refine Gr.trans ?_ (by assumption)) | omega | (dsimp only; omega)))
              (first | rw [decide_eq_true rfl] at hS1 | rw [decide_eq_true trivial] at hS1 | simp only [decide_true] at hS1)
              have hS1 := Lib.hid hS1
              refine hS1.out.mono ?_
              rintro e w6 ⟨rfl, hg6⟩
              have hS2 := hS2.out w6 (hg6.gr.drewN d |> fun _ => ((Gr.refl V).drewN d).trans hg6.gr)
              (first | rw [decide_eq_true rfl] at hS2 | rw [decide_eq_true trivial] at hS2 | simp only [decide_true] at hS2)
              have hS2 := Lib.hid hS2
              have hgX : Gr w w6 := hgU.trans (((Gr.refl V).drewN d).trans hg6.gr)
              clear hg6 hS1
              go_wp2_with fail
              refine hS2.out.mono ?_
              rintro e w7 ⟨rfl, hg7⟩
              have hg7 := hg7.gr
              clear hS2
              go_wp2_with (go_at_call 13; refine (awake_any _).mono ?_; rintro e w8 ⟨rfl, hg8⟩)
              go_ret
              exact ⟨rfl, hgX.trans (hg7.trans (by (repeat (first | with_reducible exact Gr.refl _ | with_reducible refine Gr.drewN ?_ _ | with_reducible refine Gr.drew ?_ | with_reducible refine Gr.alloc ?_ _ | with_reducible refine Gr.setCell ?_ ?_ _ | (with_reducible refine Gr.trans ?_ (by assumption)) | omega | (dsimp only; omega)))))⟩
        · subst hx
          clear HH
          go_wp2_with fail
          go_loopw [76] (fun i wr => ∃ k : Nat, k ≤ F.length ∧ i = .int .i64 k ∧ Dr V wr) (fun i _ => F.length - (intOf i).toNat)
          case atStart => exact ⟨0, Nat.zero_le _, rfl, Dr.refl _⟩
          case round =>
            obtain ⟨k, hk, rfl, d, rfl⟩ := hrel
            by_cases hlt : k < F.length
            · have a1 := (Hc1.out k hlt).1
              have a2 := (Hc1.out k hlt).2
              have a3 := (Hc2.out (F.length - 1 - k) (by omega)).1
              have a4 := (Hc2.out (F.length - 1 - k) (by omega)).2
              unfold kAt at a3
              unfold vAt at a4
              rw [rAt_reverse hlt] at a3 a4
              change _ = some (Value.string (kAt F k)) at a3
              change _ = some (Value.string (vAt F k)) at a4
              have hI := run_row c1 Ho1.out hlt
              have hI2 := fun w => run_rowI c2 Ho2.out (k := (F.length : Int) - 1 - (k : Int)) (by omega) (by omega) w
              have e1 : ((F.length : Int) - 1 - (k : Int)).toNat = F.length - 1 - k := by omega
              rw [e1] at hI2
              go_wp2_with fail
              go_big_quiet (fail)
              go_wp2_with fail
              go_roundw
              case rel => exact ⟨k + 1, by omega, by go_num, ⟨_, rfl⟩⟩
              case measure => simp [intOf]; omega
            · obtain hkk : k = F.length := by omega
              go_wp2_with fail
              have hS1 := hS1.out (V.drewN d) (by repeat (first | with_reducible exact Gr.refl _ | with_reducible refine Gr.drewN ?_ _ | with_reducible refine Gr.drew ?_ | with_reducible refine Gr.alloc ?_ _ | with_reducible refine Gr.setCell ?_ ?_ _ | (with_reducible refine Gr.trans ?_ (by assumption)) | omega | (dsimp only; omega)))
              (first | rw [decide_eq_true rfl] at hS1 | rw [decide_eq_true trivial] at hS1 | simp only [decide_true] at hS1)
              have hS1 := Lib.hid hS1
              refine hS1.out.mono ?_
              rintro e w6 ⟨rfl, hg6⟩
              have hS2 := hS2.out w6 (hg6.gr.drewN d |> fun _ => ((Gr.refl V).drewN d).trans hg6.gr)
              (first | rw [decide_eq_true rfl] at hS2 | rw [decide_eq_true trivial] at hS2 | simp only [decide_true] at hS2)
              have hS2 := Lib.hid hS2
              have hgX : Gr w w6 := hgU.trans (((Gr.refl V).drewN d).trans hg6.gr)
              clear hg6 hS1
              go_wp2_with fail
              refine hS2.out.mono ?_
              rintro e w7 ⟨rfl, hg7⟩
              have hg7 := hg7.gr
              clear hS2
              go_wp2_with (go_at_call 13; refine (awake_any _).mono ?_; rintro e w8 ⟨rfl, hg8⟩)
              go_ret
              exact ⟨rfl, hgX.trans (hg7.trans (by (repeat (first | with_reducible exact Gr.refl _ | with_reducible refine Gr.drewN ?_ _ | with_reducible refine Gr.drew ?_ | with_reducible refine Gr.alloc ?_ _ | with_reducible refine Gr.setCell ?_ ?_ _ | (with_reducible refine Gr.trans ?_ (by assumption)) | omega | (dsimp only; omega)))))⟩

theorem turns_walk (oa : Option Addr) (n cap : Nat) (l : List Rw) (low high : ByteArray) (u : Bool) (lim : Int) (w : World) (h : RowsAt w oa n cap l) (hl : low.size ≤ maxLen) (hh : high.size ≤ maxLen) :
    Calls Try.prog 5 #[.slice oa n cap, .agg #[.string low, .string high, .bool u], .int .i64 lim] w fun e w' => e = .returned (.bool true) ∧ Gr w w' := by
  by_cases h1 : low.size ≤ 100
  · by_cases h2 : high.size ≤ 100
    · exact turns_main oa n cap l low high u lim w h hl hh h1 h2
    · exact turns_skip oa n cap l low high u lim w h hl hh (.inr ⟨h1, by omega⟩)
  · exact turns_skip oa n cap l low high u lim w h hl hh (.inl (by omega))
end Go.Proofs.Ytlgeaponicgdoaa
