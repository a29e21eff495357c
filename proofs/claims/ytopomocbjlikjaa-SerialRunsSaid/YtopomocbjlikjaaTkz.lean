import Derived.Test.YtopomocbjlikjaaPtz
import Derived.Test.YtopomocbjlikjaaOw2z
import Derived.OneCell
namespace Go.Proofs.Ytopomocbjlikjaa
set_option linter.unusedVariables false
set_option linter.unusedSimpArgs false
open Go.BigFrame Go.RowKit Go.WideShapes

/-- what the closure of Take keeps: the span in block B, the limit in B + 1, what was found in B + 2 -/
structure Tk (w : World) (B : Nat) (low high : ByteArray) (u : Bool) (lim : Int) (oa : Option Addr) (n cap : Nat) (got : List Rw) : Prop where
  c0 : w.cell? ⟨B, 0, none⟩ = some (.string low)
  c1 : w.cell? ⟨B, 1, none⟩ = some (.string high)
  c2 : w.cell? ⟨B, 2, none⟩ = some (.bool u)
  cl : w.cell? ⟨B + 1, 0, none⟩ = some (.int .i64 lim)
  co : w.heap[B + 2]? = some (.cells #[.slice oa n cap] 25 (0, 0))
  size : B + 3 ≤ w.heap.size
  own : OwnAt w (B + 3) oa n cap got

theorem below_cell {w w' : World} {B b o : Nat} (h : Below B w w') (hb : b < B) : w'.cell? ⟨b, o, none⟩ = w.cell? ⟨b, o, none⟩ := Below.cell h (p := ⟨b, o, none⟩) hb

theorem Tk.keep {w w' : World} {B : Nat} {low high : ByteArray} {u : Bool} {lim : Int} {oa : Option Addr} {n cap : Nat} {got : List Rw} (h : Tk w B low high u lim oa n cap got) (hg : Gr w w') : Tk w' B low high u lim oa n cap got :=
  ⟨hg.keep h.c0, hg.keep h.c1, hg.keep h.c2, hg.keep h.cl, by rw [hg.block _ (by have := h.size; omega)]; exact h.co, Nat.le_trans h.size hg.le, h.own.keep hg⟩

/-- behind an append and the store of what it gave -/
theorem Tk.next {w w' : World} {B : Nat} {low high : ByteArray} {u : Bool} {lim : Int} {oa ob : Option Addr} {n cap m cap2 : Nat} {got got2 : List Rw} (h : Tk w B low high u lim oa n cap got)
    (hb : Below (B + 3) w w') (ho : OwnAt w' (B + 3) ob m cap2 got2) : Tk (w'.setCell ⟨B + 2, 0, none⟩ (.slice ob m cap2)) B low high u lim ob m cap2 got2 := by
  have hsz := h.size
  have hco : w'.heap[B + 2]? = some (.cells #[.slice oa n cap] 25 (0, 0)) := by rw [hb.block _ (by omega)]; exact h.co
  have hbs : Below (B + 2) w' (w'.setCell ⟨B + 2, 0, none⟩ (.slice ob m cap2)) := (Below.refl _ _).setCell (p := ⟨B + 2, 0, none⟩) (Nat.le_refl _) _
  have hcell : ∀ b o, b < B + 2 → (w'.setCell ⟨B + 2, 0, none⟩ (.slice ob m cap2)).cell? ⟨b, o, none⟩ = w.cell? ⟨b, o, none⟩ := fun b o q => by
    rw [below_cell hbs q, below_cell hb (by omega)]
  refine ⟨by rw [hcell _ _ (by omega)]; exact h.c0, by rw [hcell _ _ (by omega)]; exact h.c1, by rw [hcell _ _ (by omega)]; exact h.c2, by rw [hcell _ _ (by omega)]; exact h.cl, one_setCell hco, ?_, ?_, ?_⟩
  · exact Nat.le_trans (Nat.le_trans hsz hb.size) hbs.size
  · refine ownsRow_setCell_other ho.own (a := ⟨B + 2, 0, none⟩) (fun q => ?_) _
    have := (ho.own.lt _ q).1
    dsimp only at this
    omega
  · obtain ⟨h1, h2, h3, h4, ⟨b, off, h5, h6⟩, h7⟩ := ho.rows
    have hbo : 0 < m → B + 3 ≤ b := fun q => by
      have e := (h5 q).1
      have := (ho.own.lt b (by rw [e]; rfl)).1
      omega
    refine ⟨h1, h2, h3, h4, ⟨b, off, fun q => ⟨(h5 q).1, ?_⟩, fun i hi => ?_⟩, h7⟩
    · exact Nat.lt_of_lt_of_le (h5 q).2 hbs.size
    · have hne : ∀ o, (w'.setCell ⟨B + 2, 0, none⟩ (.slice ob m cap2)).cell? ⟨b, o, none⟩ = w'.cell? ⟨b, o, none⟩ := fun o => World.cell?_setCell_other _ _ _ _ (by
        have := hbo (by omega)
        intro e
        simp at e
        try omega)
      rw [hne, hne]
      exact h6 i hi

def TkHas (w : World) (B : Nat) (low high : ByteArray) (u : Bool) (lim : Int) (n : Nat) (got : List Rw) : Prop := ∃ oa cap, Tk w B low high u lim oa n cap got

set_option maxRecDepth 100000 in
set_option maxHeartbeats 1000000 in
theorem give_in (k v low high : ByteArray) (u : Bool) (lim : Int) (B : Nat) (oa : Option Addr) (n cap : Nat) (got : List Rw) (w : World) (h : Tk w B low high u lim oa n cap got)
    (hk : k.size ≤ maxLen) (hv : v.size ≤ maxLen) (hl : low.size ≤ maxLen) (hh : high.size ≤ maxLen) (hn : n ≤ 1000000) (hi : inB low high u k = true) :
    Calls Try.prog 41 #[.agg #[.string k, .string v], .pointer (some ⟨B, 0, none⟩), .pointer (some ⟨B + 2, 0, none⟩), .pointer (some ⟨B + 1, 0, none⟩)] w fun e w' =>
      e = .returned (.bool (decide (lim < 1) || decide ((n : Int) + 1 < lim))) ∧ TkHas w' B low high u lim (n + 1) (got ++ [⟨k, v⟩]) ∧ Below (B + 2) w w' := by
  have hI := Lib.hid (fun w => in_any low high u k w hl hh hk)
  rw [hi] at hI
  have H := Lib.hid h
  have b0 := box_key w k v
  have b1 := box_val w k v
  have hb := (Gr.refl w).alloc (.cells #[.string k, .string v] 35)
  have c0 := hb.keep h.c0
  have c1 := hb.keep h.c1
  have c2 := hb.keep h.c2
  clear h hi
  go_enter Try.func41, Try.ntmps41
  go_wp2_with fail
  refine (hI.out _).mono ?_
  rintro e w1 ⟨rfl, d, rfl⟩
  have hg1 : Gr w ((boxW w k v).drewN d) := by repeat (first | with_reducible exact Gr.refl _ | with_reducible refine Gr.drewN ?_ _ | with_reducible refine Gr.drew ?_ | with_reducible refine Gr.alloc ?_ _ | with_reducible refine Gr.setCell ?_ ?_ _ | (with_reducible refine Gr.trans ?_ (by assumption)) | omega | (dsimp only; omega))
  have T1 := H.out.keep hg1
  have b0 : ((boxW w k v).drewN d).cell? ⟨w.heap.size, 0, none⟩ = some (.string k) := b0
  have b1 : ((boxW w k v).drewN d).cell? ⟨w.heap.size, 1, none⟩ = some (.string v) := b1
  clear c0 c1 c2
  generalize (boxW w k v).drewN d = w1 at *
  have p0 := cell_of_one T1.co
  have p1 := T1.size
  have HT := Lib.hid T1
  have TA := Lib.hid (T1.own.keep ((Gr.refl w1).alloc (.cells #[.string k, .string v] 35)))
  have hsz : B + 3 ≤ (w1.alloc (.cells #[.string k, .string v] 35)).heap.size := Nat.le_trans p1 ((Gr.refl w1).alloc _).le
  clear T1
  go_wp2_with (at_builtin; refine wpList_rows_g rfl _ _ rfl (B + 3) hsz rfl TA.out rfl (row_one (b := w1.heap.size) (Nat.le_refl _) (by unfold maxLen; omega) (World.cell?_alloc_new w1 _ _ 0) (World.cell?_alloc_new w1 _ _ 1) hk hv) (by omega) ?_; intro oc c3 w2 ho2 hb2; have hbl : Below (B + 3) w1 w2 := (((Gr.refl w1).alloc _).mono p1).trans (grown_below hb2 TA.out hsz); have T3 := HT.out.next hbl ho2; have co2 : w2.heap[B + 2]? = some (.cells #[.slice oa n cap] 25 (0, 0)) := (by rw [hbl.block _ (by omega)]; exact HT.out.co); have q0 := cell_of_one co2; have q1 := free_of_one co2; have q2 := cell_of_one T3.co; have q3 := T3.cl)
  all_goals
    go_ret
    refine ⟨ret_bool ?_, ⟨_, _, T3⟩, Below.setCell (B := B + 2) ((hg1.mono (show B + 2 ≤ w.heap.size by have := H.out.size; omega)).trans (hbl.mono (show B + 2 ≤ B + 3 by omega))) (p := ⟨B + 2, 0, none⟩) (Nat.le_refl _) _⟩
    first | rfl | (simp [*]; done)

set_option maxRecDepth 100000 in
set_option maxHeartbeats 1000000 in
theorem give_out (k v low high : ByteArray) (u : Bool) (lim : Int) (B : Nat) (oa : Option Addr) (n cap : Nat) (got : List Rw) (w : World) (h : Tk w B low high u lim oa n cap got)
    (hk : k.size ≤ maxLen) (hv : v.size ≤ maxLen) (hl : low.size ≤ maxLen) (hh : high.size ≤ maxLen) (hn : n ≤ 1000000) (hi : inB low high u k = false) :
    Calls Try.prog 41 #[.agg #[.string k, .string v], .pointer (some ⟨B, 0, none⟩), .pointer (some ⟨B + 2, 0, none⟩), .pointer (some ⟨B + 1, 0, none⟩)] w fun e w' =>
      e = .returned (.bool (decide (lim < 1) || decide ((n : Int) < lim))) ∧ TkHas w' B low high u lim n got ∧ Below (B + 2) w w' := by
  have hI := Lib.hid (fun w => in_any low high u k w hl hh hk)
  rw [hi] at hI
  have H := Lib.hid h
  have b0 := box_key w k v
  have b1 := box_val w k v
  have hb := (Gr.refl w).alloc (.cells #[.string k, .string v] 35)
  have c0 := hb.keep h.c0
  have c1 := hb.keep h.c1
  have c2 := hb.keep h.c2
  clear h hi
  go_enter Try.func41, Try.ntmps41
  go_wp2_with fail
  refine (hI.out _).mono ?_
  rintro e w1 ⟨rfl, d, rfl⟩
  have hg1 : Gr w ((boxW w k v).drewN d) := by repeat (first | with_reducible exact Gr.refl _ | with_reducible refine Gr.drewN ?_ _ | with_reducible refine Gr.drew ?_ | with_reducible refine Gr.alloc ?_ _ | with_reducible refine Gr.setCell ?_ ?_ _ | (with_reducible refine Gr.trans ?_ (by assumption)) | omega | (dsimp only; omega))
  have T1 := H.out.keep hg1
  clear c0 c1 c2 b0 b1
  generalize (boxW w k v).drewN d = w1 at *
  have q2 := cell_of_one T1.co
  have q3 := T1.cl
  have HT := Lib.hid T1
  clear T1
  go_wp2_with fail
  all_goals
    go_ret
    refine ⟨ret_bool ?_, ⟨_, _, HT.out⟩, hg1.mono (show B + 2 ≤ w.heap.size by have := H.out.size; omega)⟩
    first | rfl | (simp [*]; done)

set_option maxRecDepth 100000 in
set_option maxHeartbeats 4000000 in
theorem take_up (oa : Option Addr) (n cap : Nat) (l : List Rw) (low high : ByteArray) (u : Bool) (lim : Int) (w : World) (h : RowsAt w oa n cap l) (hn : n ≤ 1000000) (hl : low.size ≤ maxLen) (hh : high.size ≤ maxLen) :
    Calls Try.prog 33 #[.slice oa n cap, .agg #[.string low, .string high, .bool u], .int .i64 lim, .bool false] w (New1 w (takeR low high u lim false l)) := by
  have hmf : ∀ (fn : Fn) (first cap : Array Value) (w : World), (Instr.makeFunc fn first cap).run Try.prog w = .ok (.func fn first cap) w := fun _ _ _ _ => rfl
  have T0 : Tk (((w.alloc (.cells #[.string low, .string high, .bool u] 48)).alloc (.cells #[.int .i64 lim] 3)).alloc (.cells #[.slice none 0 0] 25)) w.heap.size low high u lim none 0 0 (found low high u (visit l false) 0) := by
    refine ⟨by simp [go_sem], by simp [go_sem], by simp [go_sem], by simp [go_sem], ?_, by simp [go_sem], own_nil _ _⟩
    have e := heap_alloc_new (((w.alloc (.cells #[.string low, .string high, .bool u] 48)).alloc (.cells #[.int .i64 lim] 3))) (.cells #[.slice none 0 0] 25)
    simpa using e
  have HT0 := Lib.hid T0
  clear T0
  have H := Lib.hid h
  clear h
  generalize hxs : visit l false = xs at *
  have HX := Lib.hid hxs
  clear hxs
  have hxl : xs.length = n := by rw [← HX.out, visit_length, H.out.len]
  have HL := Lib.hid hxl
  clear hxl
  obtain ⟨b1, off1, ho1, hc1⟩ := H.out.cells
  have Ho1 := Lib.hid (fun q => (ho1 q).1)
  have Hb1 := Lib.hid (fun q => (ho1 q).2)
  have Hc1 := Lib.hid hc1
  clear ho1 hc1
  have hGI := Lib.hid (fun (k : Nat) (hk : k < n) (oa : Option Addr) (m cap : Nat) (got : List Rw) (wr : World) (hm : m ≤ n) (T : Tk wr w.heap.size low high u lim oa m cap got) (hi : inS low high u (rAt l k) = true) =>
    (show Calls Try.prog 41 #[.agg #[.string (kAt l k), .string (vAt l k)], .pointer (some ⟨w.heap.size, 0, none⟩), .pointer (some ⟨w.heap.size + 1 + 1, 0, none⟩), .pointer (some ⟨w.heap.size + 1, 0, none⟩)] wr _ from
      give_in (kAt l k) (vAt l k) low high u lim w.heap.size oa m cap got wr T (H.out.sizes k hk).1 (H.out.sizes k hk).2 hl hh (by omega) hi))
  have hGO := Lib.hid (fun (k : Nat) (hk : k < n) (oa : Option Addr) (m cap : Nat) (got : List Rw) (wr : World) (hm : m ≤ n) (T : Tk wr w.heap.size low high u lim oa m cap got) (hi : inS low high u (rAt l k) = false) =>
    (show Calls Try.prog 41 #[.agg #[.string (kAt l k), .string (vAt l k)], .pointer (some ⟨w.heap.size, 0, none⟩), .pointer (some ⟨w.heap.size + 1 + 1, 0, none⟩), .pointer (some ⟨w.heap.size + 1, 0, none⟩)] wr _ from
      give_out (kAt l k) (vAt l k) low high u lim w.heap.size oa m cap got wr T (H.out.sizes k hk).1 (H.out.sizes k hk).2 hl hh (by omega) hi))
  have hcap := H.out.cap_le
  have hcm := H.out.cap_max
  unfold maxLen at hcm
  have hW0 : Gr w (((w.alloc (.cells #[.string low, .string high, .bool u] 48)).alloc (.cells #[.int .i64 lim] 3)).alloc (.cells #[.slice none 0 0] 25)) := by repeat (first | with_reducible exact Gr.refl _ | with_reducible refine Gr.drewN ?_ _ | with_reducible refine Gr.drew ?_ | with_reducible refine Gr.alloc ?_ _ | with_reducible refine Gr.setCell ?_ ?_ _ | (with_reducible refine Gr.trans ?_ (by assumption)) | omega | (dsimp only; omega))
  go_enter Try.func33, Try.ntmps33
  go_wp2_with fail
  generalize (((w.alloc (.cells #[.string low, .string high, .bool u] 48)).alloc (.cells #[.int .i64 lim] 3)).alloc (.cells #[.slice none 0 0] 25)) = W0 at *
  go_loopw [16] (fun i wr => ∃ k m : Nat, k ≤ n ∧ i = .int .i64 k ∧ TkHas wr w.heap.size low high u lim m (found low high u xs k) ∧ (1 ≤ lim → (m : Int) < lim) ∧ Gr w wr) (fun i _ => n - (intOf i).toNat)
  case atStart => exact ⟨0, 0, Nat.zero_le _, rfl, ⟨_, _, HT0.out⟩, fun q => by omega, hW0⟩
  case round =>
    obtain ⟨k, m, hk, rfl, ⟨ob, cap2, T⟩, hlim, hg⟩ := hrel
    have hmn : m ≤ n := by
      have := T.own.rows.len
      have := found_le low high u xs k
      have := HL.out
      omega
    have q2 : wr.cell? ⟨w.heap.size + 1 + 1, 0, none⟩ = some (.slice ob m cap2) := cell_of_one T.co
    have HT := Lib.hid T
    clear T
    by_cases hlt : k < n
    · obtain ⟨kk, hkk, hkr, hkI⟩ : ∃ kk : Nat, kk < n ∧ rAt xs k = rAt l kk ∧ (kk : Int) = (k : Int) := by
        have e := visit_get (l := l) (rev := false) (k := k) (by rw [H.out.len]; exact hlt)
        rw [HX.out, H.out.len] at e
        exact ⟨k, hlt, e, rfl⟩
      have a1 := hg.keep (Hc1.out kk hkk).1
      have a2 := hg.keep (Hc1.out kk hkk).2
      have hI := run_row cap Ho1.out hkk
      rw [hkI] at hI
      have Hkr := Lib.hid hkr
      have hin0 : rAt xs k = rAt l kk := hkr
      clear hkr hkI
      have hkr := Hkr.out
      clear hin0
      cases hin : inS low high u (rAt l kk)
      · have hG := hGO.out kk hkk ob m cap2 _ wr hmn HT.out hin
        have hF := Lib.hid (found_out (low := low) (high := high) (u := u) (xs := xs) (k := k) (by rw [HL.out]; exact hlt) (by rw [Hkr.out]; exact hin))
        clear hkr hin
        by_cases hq : lim < 1 ∨ (m : Int) < lim
        · skip
          have hd : (decide (lim < 1) || decide ((m : Int) < lim)) = true := by simp; omega
          rw [hd] at hG
          have hG := Lib.hid hG
          clear hd
          have Hq := Lib.hid hq
          clear hq
          go_wp2_with fail
          refine hG.out.mono ?_
          rintro e w2 ⟨rfl, ⟨o2, cap3, T2⟩, hb2⟩
          have hg2 : Gr w w2 := Below.trans hg (hb2.mono (Nat.le_add_right _ 2))
          rw [← hF.out] at T2
          have q3 : w2.cell? ⟨w.heap.size + 1 + 1, 0, none⟩ = some (.slice o2 m cap3) := cell_of_one T2.co
          have HT2 := Lib.hid T2
          clear T2
          go_wp2_with fail
          go_roundw
          case rel => exact ⟨k + 1, m, by omega, by go_num, ⟨_, _, HT2.out⟩, fun q => by have := Hq.out; omega, hg2⟩
          case measure => simp [intOf]; omega
        · skip
          exfalso
          by_cases h9 : lim < 1
          · omega
          · have := hlim (by omega); omega
      · have hG := hGI.out kk hkk ob m cap2 _ wr hmn HT.out hin
        have hF := Lib.hid (found_in (low := low) (high := high) (u := u) (xs := xs) (k := k) (by rw [HL.out]; exact hlt) (by rw [Hkr.out]; exact hin))
        clear hkr hin
        by_cases hq : lim < 1 ∨ (m : Int) + 1 < lim
        · skip
          have hd : (decide (lim < 1) || decide (((m : Int) + 1) < lim)) = true := by simp; omega
          rw [hd] at hG
          have hG := Lib.hid hG
          clear hd
          have Hq := Lib.hid hq
          clear hq
          go_wp2_with fail
          refine hG.out.mono ?_
          rintro e w2 ⟨rfl, ⟨o2, cap3, T2⟩, hb2⟩
          have hg2 : Gr w w2 := Below.trans hg (hb2.mono (Nat.le_add_right _ 2))
          rw [rw_eta, ← Hkr.out, ← hF.out] at T2
          have q3 : w2.cell? ⟨w.heap.size + 1 + 1, 0, none⟩ = some (.slice o2 (m + 1) cap3) := cell_of_one T2.co
          have HT2 := Lib.hid T2
          clear T2
          go_wp2_with fail
          go_roundw
          case rel => exact ⟨k + 1, (m + 1), by omega, by go_num, ⟨_, _, HT2.out⟩, fun q => by have := Hq.out; omega, hg2⟩
          case measure => simp [intOf]; omega
        · skip
          have hd : (decide (lim < 1) || decide (((m : Int) + 1) < lim)) = false := by simp; omega
          rw [hd] at hG
          have hG := Lib.hid hG
          clear hd
          have Hq := Lib.hid hq
          clear hq
          go_wp2_with fail
          refine hG.out.mono ?_
          rintro e w2 ⟨rfl, ⟨o2, cap3, T2⟩, hb2⟩
          have hg2 : Gr w w2 := Below.trans hg (hb2.mono (Nat.le_add_right _ 2))
          rw [rw_eta, ← Hkr.out, ← hF.out] at T2
          have q3 : w2.cell? ⟨w.heap.size + 1 + 1, 0, none⟩ = some (.slice o2 (m + 1) cap3) := cell_of_one T2.co
          have HT2 := Lib.hid T2
          clear T2
          go_wp2_with fail
          have e := takeR_stop (low := low) (high := high) (u := u) (lim := lim) (rev := false) (l := l) (k := k + 1) (by have := Hq.out; omega) (by rw [HX.out, HT2.out.own.rows.len]; have := Hq.out; have := hlim (by omega); omega)
          rw [HX.out] at e
          go_ret
          refine ⟨_, _, _, rfl, ?_, hg2, w.heap.size + 3, ?_, ?_⟩
          · rw [e]; exact HT2.out.own.rows
          · exact Nat.le_add_right _ 3
          · rw [e]; exact HT2.out.own
    · have hkn : k = n := by omega
      have HK := Lib.hid hkn
      clear hkn
      have e := takeR_end (low := low) (high := high) (u := u) (lim := lim) (rev := false) (l := l) (k := k) (by rw [H.out.len]; omega) (by
        intro q
        have := hlim q
        rw [HX.out, HT.out.own.rows.len]
        exact this)
      rw [HX.out] at e
      have E := Lib.hid e
      clear e
      go_wp2_with fail
      go_ret
      refine ⟨_, _, _, rfl, ?_, hg, w.heap.size + 3, ?_, ?_⟩
      · rw [E.out]; exact HT.out.own.rows
      · exact Nat.le_add_right _ 3
      · rw [E.out]; exact HT.out.own
set_option maxRecDepth 100000 in
set_option maxHeartbeats 4000000 in
theorem take_down (oa : Option Addr) (n cap : Nat) (l : List Rw) (low high : ByteArray) (u : Bool) (lim : Int) (w : World) (h : RowsAt w oa n cap l) (hn : n ≤ 1000000) (hl : low.size ≤ maxLen) (hh : high.size ≤ maxLen) :
    Calls Try.prog 33 #[.slice oa n cap, .agg #[.string low, .string high, .bool u], .int .i64 lim, .bool true] w (New1 w (takeR low high u lim true l)) := by
  have hmf : ∀ (fn : Fn) (first cap : Array Value) (w : World), (Instr.makeFunc fn first cap).run Try.prog w = .ok (.func fn first cap) w := fun _ _ _ _ => rfl
  have T0 : Tk (((w.alloc (.cells #[.string low, .string high, .bool u] 48)).alloc (.cells #[.int .i64 lim] 3)).alloc (.cells #[.slice none 0 0] 25)) w.heap.size low high u lim none 0 0 (found low high u (visit l true) 0) := by
    refine ⟨by simp [go_sem], by simp [go_sem], by simp [go_sem], by simp [go_sem], ?_, by simp [go_sem], own_nil _ _⟩
    have e := heap_alloc_new (((w.alloc (.cells #[.string low, .string high, .bool u] 48)).alloc (.cells #[.int .i64 lim] 3))) (.cells #[.slice none 0 0] 25)
    simpa using e
  have HT0 := Lib.hid T0
  clear T0
  have H := Lib.hid h
  clear h
  generalize hxs : visit l true = xs at *
  have HX := Lib.hid hxs
  clear hxs
  have hxl : xs.length = n := by rw [← HX.out, visit_length, H.out.len]
  have HL := Lib.hid hxl
  clear hxl
  obtain ⟨b1, off1, ho1, hc1⟩ := H.out.cells
  have Ho1 := Lib.hid (fun q => (ho1 q).1)
  have Hb1 := Lib.hid (fun q => (ho1 q).2)
  have Hc1 := Lib.hid hc1
  clear ho1 hc1
  have hGI := Lib.hid (fun (k : Nat) (hk : k < n) (oa : Option Addr) (m cap : Nat) (got : List Rw) (wr : World) (hm : m ≤ n) (T : Tk wr w.heap.size low high u lim oa m cap got) (hi : inS low high u (rAt l k) = true) =>
    (show Calls Try.prog 41 #[.agg #[.string (kAt l k), .string (vAt l k)], .pointer (some ⟨w.heap.size, 0, none⟩), .pointer (some ⟨w.heap.size + 1 + 1, 0, none⟩), .pointer (some ⟨w.heap.size + 1, 0, none⟩)] wr _ from
      give_in (kAt l k) (vAt l k) low high u lim w.heap.size oa m cap got wr T (H.out.sizes k hk).1 (H.out.sizes k hk).2 hl hh (by omega) hi))
  have hGO := Lib.hid (fun (k : Nat) (hk : k < n) (oa : Option Addr) (m cap : Nat) (got : List Rw) (wr : World) (hm : m ≤ n) (T : Tk wr w.heap.size low high u lim oa m cap got) (hi : inS low high u (rAt l k) = false) =>
    (show Calls Try.prog 41 #[.agg #[.string (kAt l k), .string (vAt l k)], .pointer (some ⟨w.heap.size, 0, none⟩), .pointer (some ⟨w.heap.size + 1 + 1, 0, none⟩), .pointer (some ⟨w.heap.size + 1, 0, none⟩)] wr _ from
      give_out (kAt l k) (vAt l k) low high u lim w.heap.size oa m cap got wr T (H.out.sizes k hk).1 (H.out.sizes k hk).2 hl hh (by omega) hi))
  have hcap := H.out.cap_le
  have hcm := H.out.cap_max
  unfold maxLen at hcm
  have hW0 : Gr w (((w.alloc (.cells #[.string low, .string high, .bool u] 48)).alloc (.cells #[.int .i64 lim] 3)).alloc (.cells #[.slice none 0 0] 25)) := by repeat (first | with_reducible exact Gr.refl _ | with_reducible refine Gr.drewN ?_ _ | with_reducible refine Gr.drew ?_ | with_reducible refine Gr.alloc ?_ _ | with_reducible refine Gr.setCell ?_ ?_ _ | (with_reducible refine Gr.trans ?_ (by assumption)) | omega | (dsimp only; omega))
  go_enter Try.func33, Try.ntmps33
  go_wp2_with fail
  generalize (((w.alloc (.cells #[.string low, .string high, .bool u] 48)).alloc (.cells #[.int .i64 lim] 3)).alloc (.cells #[.slice none 0 0] 25)) = W0 at *
  go_loopw [16] (fun i wr => ∃ k m : Nat, k ≤ n ∧ i = .int .i64 k ∧ TkHas wr w.heap.size low high u lim m (found low high u xs k) ∧ (1 ≤ lim → (m : Int) < lim) ∧ Gr w wr) (fun i _ => n - (intOf i).toNat)
  case atStart => exact ⟨0, 0, Nat.zero_le _, rfl, ⟨_, _, HT0.out⟩, fun q => by omega, hW0⟩
  case round =>
    obtain ⟨k, m, hk, rfl, ⟨ob, cap2, T⟩, hlim, hg⟩ := hrel
    have hmn : m ≤ n := by
      have := T.own.rows.len
      have := found_le low high u xs k
      have := HL.out
      omega
    have q2 : wr.cell? ⟨w.heap.size + 1 + 1, 0, none⟩ = some (.slice ob m cap2) := cell_of_one T.co
    have HT := Lib.hid T
    clear T
    by_cases hlt : k < n
    · obtain ⟨kk, hkk, hkr, hkI⟩ : ∃ kk : Nat, kk < n ∧ rAt xs k = rAt l kk ∧ (kk : Int) = ((n : Int) - 1 - k) := by
        have e := visit_get (l := l) (rev := true) (k := k) (by rw [H.out.len]; exact hlt)
        rw [HX.out, H.out.len] at e
        exact ⟨n - 1 - k, by omega, e, by omega⟩
      have a1 := hg.keep (Hc1.out kk hkk).1
      have a2 := hg.keep (Hc1.out kk hkk).2
      have hI := run_row cap Ho1.out hkk
      rw [hkI] at hI
      have Hkr := Lib.hid hkr
      have hin0 : rAt xs k = rAt l kk := hkr
      clear hkr hkI
      have hkr := Hkr.out
      clear hin0
      cases hin : inS low high u (rAt l kk)
      · have hG := hGO.out kk hkk ob m cap2 _ wr hmn HT.out hin
        have hF := Lib.hid (found_out (low := low) (high := high) (u := u) (xs := xs) (k := k) (by rw [HL.out]; exact hlt) (by rw [Hkr.out]; exact hin))
        clear hkr hin
        by_cases hq : lim < 1 ∨ (m : Int) < lim
        · skip
          have hd : (decide (lim < 1) || decide ((m : Int) < lim)) = true := by simp; omega
          rw [hd] at hG
          have hG := Lib.hid hG
          clear hd
          have Hq := Lib.hid hq
          clear hq
          go_wp2_with fail
          refine hG.out.mono ?_
          rintro e w2 ⟨rfl, ⟨o2, cap3, T2⟩, hb2⟩
          have hg2 : Gr w w2 := Below.trans hg (hb2.mono (Nat.le_add_right _ 2))
          rw [← hF.out] at T2
          have q3 : w2.cell? ⟨w.heap.size + 1 + 1, 0, none⟩ = some (.slice o2 m cap3) := cell_of_one T2.co
          have HT2 := Lib.hid T2
          clear T2
          go_wp2_with fail
          go_roundw
          case rel => exact ⟨k + 1, m, by omega, by go_num, ⟨_, _, HT2.out⟩, fun q => by have := Hq.out; omega, hg2⟩
          case measure => simp [intOf]; omega
        · skip
          exfalso
          by_cases h9 : lim < 1
          · omega
          · have := hlim (by omega); omega
      · have hG := hGI.out kk hkk ob m cap2 _ wr hmn HT.out hin
        have hF := Lib.hid (found_in (low := low) (high := high) (u := u) (xs := xs) (k := k) (by rw [HL.out]; exact hlt) (by rw [Hkr.out]; exact hin))
        clear hkr hin
        by_cases hq : lim < 1 ∨ (m : Int) + 1 < lim
        · skip
          have hd : (decide (lim < 1) || decide (((m : Int) + 1) < lim)) = true := by simp; omega
          rw [hd] at hG
          have hG := Lib.hid hG
          clear hd
          have Hq := Lib.hid hq
          clear hq
          go_wp2_with fail
          refine hG.out.mono ?_
          rintro e w2 ⟨rfl, ⟨o2, cap3, T2⟩, hb2⟩
          have hg2 : Gr w w2 := Below.trans hg (hb2.mono (Nat.le_add_right _ 2))
          rw [rw_eta, ← Hkr.out, ← hF.out] at T2
          have q3 : w2.cell? ⟨w.heap.size + 1 + 1, 0, none⟩ = some (.slice o2 (m + 1) cap3) := cell_of_one T2.co
          have HT2 := Lib.hid T2
          clear T2
          go_wp2_with fail
          go_roundw
          case rel => exact ⟨k + 1, (m + 1), by omega, by go_num, ⟨_, _, HT2.out⟩, fun q => by have := Hq.out; omega, hg2⟩
          case measure => simp [intOf]; omega
        · skip
          have hd : (decide (lim < 1) || decide (((m : Int) + 1) < lim)) = false := by simp; omega
          rw [hd] at hG
          have hG := Lib.hid hG
          clear hd
          have Hq := Lib.hid hq
          clear hq
          go_wp2_with fail
          refine hG.out.mono ?_
          rintro e w2 ⟨rfl, ⟨o2, cap3, T2⟩, hb2⟩
          have hg2 : Gr w w2 := Below.trans hg (hb2.mono (Nat.le_add_right _ 2))
          rw [rw_eta, ← Hkr.out, ← hF.out] at T2
          have q3 : w2.cell? ⟨w.heap.size + 1 + 1, 0, none⟩ = some (.slice o2 (m + 1) cap3) := cell_of_one T2.co
          have HT2 := Lib.hid T2
          clear T2
          go_wp2_with fail
          have e := takeR_stop (low := low) (high := high) (u := u) (lim := lim) (rev := true) (l := l) (k := k + 1) (by have := Hq.out; omega) (by rw [HX.out, HT2.out.own.rows.len]; have := Hq.out; have := hlim (by omega); omega)
          rw [HX.out] at e
          go_ret
          refine ⟨_, _, _, rfl, ?_, hg2, w.heap.size + 3, ?_, ?_⟩
          · rw [e]; exact HT2.out.own.rows
          · exact Nat.le_add_right _ 3
          · rw [e]; exact HT2.out.own
    · have hkn : k = n := by omega
      have HK := Lib.hid hkn
      clear hkn
      have e := takeR_end (low := low) (high := high) (u := u) (lim := lim) (rev := true) (l := l) (k := k) (by rw [H.out.len]; omega) (by
        intro q
        have := hlim q
        rw [HX.out, HT.out.own.rows.len]
        exact this)
      rw [HX.out] at e
      have E := Lib.hid e
      clear e
      go_wp2_with fail
      go_ret
      refine ⟨_, _, _, rfl, ?_, hg, w.heap.size + 3, ?_, ?_⟩
      · rw [E.out]; exact HT.out.own.rows
      · exact Nat.le_add_right _ 3
      · rw [E.out]; exact HT.out.own
theorem take_any (oa : Option Addr) (n cap : Nat) (l : List Rw) (low high : ByteArray) (u : Bool) (lim : Int) (rev : Bool) (w : World) (h : RowsAt w oa n cap l) (hn : n ≤ 1000000) (hl : low.size ≤ maxLen) (hh : high.size ≤ maxLen) :
    Calls Try.prog 33 #[.slice oa n cap, .agg #[.string low, .string high, .bool u], .int .i64 lim, .bool rev] w (New1 w (takeR low high u lim rev l)) := by
  cases rev
  · exact take_up oa n cap l low high u lim w h hn hl hh
  · exact take_down oa n cap l low high u lim w h hn hl hh
end Go.Proofs.Ytopomocbjlikjaa
