import Derived.Test.YtopomocbjlikjaaDoorTkz
import Derived.Test.YtopomocbjlikjaaDoorFwz
namespace Go.Proofs.YtopomocbjlikjaaDoor
set_option linter.unusedVariables false
set_option linter.unusedSimpArgs false
open Go.BigFrame Go.RowKit Go.WideShapes

theorem own_one {w : World} {b base : Nat} {k v : ByteArray} (hb : b = w.heap.size) (h : base ≤ b) (hk : k.size ≤ maxLen) (hv : v.size ≤ maxLen) : OwnAt (w.alloc (.cells #[.string k, .string v] 64)) base (some ⟨b, 0, none⟩) 1 1 [⟨k, v⟩] := by
  subst hb
  exact ⟨⟨rfl, .inr ⟨w.heap.size, 1, #[.string k, .string v], rfl, h, heap_alloc_new w _, Nat.le_refl _, by unfold maxLen; omega, rfl, rfl⟩⟩,
    row_one (Nat.le_refl _) (by unfold maxLen; omega) (World.cell?_alloc_new w _ _ 0) (World.cell?_alloc_new w _ _ 1) hk hv⟩
theorem run_headI (oa : Option Addr) (n cap : Nat) (h : Int) (h0 : 0 ≤ h) (hc : h.toNat ≤ cap) (w : World) :
    (Instr.sliceAt 45 (.slice oa n cap) none (some (.int .i64 h)) none).run Tryd.prog w = .ok (.slice oa h.toNat cap) w := by
  obtain ⟨m, rfl⟩ := Int.eq_ofNat_of_zero_le h0
  exact run_head oa n cap m hc w

/-- what the document's loop holds -/
def held (low high : ByteArray) (u : Bool) (rev : Bool) (l : List Rw) (k : Nat) : List Rw := if rev = true then (found low high u l k).reverse else found low high u l k
theorem held_length (low high : ByteArray) (u : Bool) (rev : Bool) (l : List Rw) (k : Nat) : (held low high u rev l k).length ≤ l.length := by
  unfold held
  split
  · rw [List.length_reverse]; exact found_le low high u l k
  · exact found_le low high u l k
theorem held_end (low high : ByteArray) (u : Bool) (rev : Bool) (l : List Rw) : held low high u rev l l.length = (visit l rev).filter (inS low high u) := by
  unfold held visit found
  rw [List.take_length]
  split
  · rw [List.filter_reverse]
  · rfl

theorem held_down {low high : ByteArray} {u : Bool} {l : List Rw} {k : Nat} {r : Rw} (h : found low high u l (k + 1) = found low high u l k ++ [r]) : held low high u true l (k + 1) = [r] ++ held low high u true l k := by
  unfold held
  rw [if_pos rfl, if_pos rfl, h, List.reverse_append]
  rfl

set_option maxRecDepth 100000 in
set_option maxHeartbeats 4000000 in
theorem refTake_up (oa : Option Addr) (n cap : Nat) (l : List Rw) (low high : ByteArray) (u : Bool) (lim : Int) (w : World) (h : RowsAt w oa n cap l) (hn : n ≤ 1000000) (hl : low.size ≤ maxLen) (hh : high.size ≤ maxLen) :
    Calls Tryd.prog 61 #[.slice oa n cap, .string low, .string high, .bool u, .int .i64 lim, .bool false] w fun e w' => ∃ o1 m1 c1, e = .returned (.slice o1 m1 c1) ∧ RowsAt w' o1 m1 c1 (takeR low high u lim false l) ∧ Gr w w' := by
  obtain ⟨b1, off1, ho1, hc1⟩ := h.cells
  have Hc1 := Lib.hid hc1
  have Ho1 := Lib.hid (fun q => (ho1 q).1)
  have H1 := Lib.hid h
  have hn1 := h.cap_le
  have hm1 := h.cap_max
  unfold maxLen at hm1
  clear hc1 ho1 h
  go_enter Tryd.func61, Tryd.ntmps61
  go_wp2_with fail
  go_loopw [13, 14] (fun all i wr => ∃ k m ob cap2, k ≤ n ∧ i = .int .i64 (k : Nat) ∧ all = .slice ob m cap2 ∧ OwnAt wr w.heap.size ob m cap2 (held low high u false l k) ∧ Gr w wr) (fun _ i _ => n - (intOf i).toNat)
  case atStart => exact ⟨0, 0, none, 0, Nat.zero_le _, rfl, rfl, own_nil _ _, Gr.refl _⟩
  case round =>
    obtain ⟨k, m, ob, cap2, hk, rfl, rfl, hO, hg⟩ := hrel
    have hmn : m ≤ n := by
      have := hO.rows.len
      have := held_length low high u false l k
      have := H1.out.len
      omega
    have HO := Lib.hid hO
    clear hO
    by_cases hlt : k < n
    · have a1 := hg.keep (Hc1.out k hlt).1
      have a2 := hg.keep (Hc1.out k hlt).2
      have s1 := (H1.out.sizes k hlt).1
      have s2 := (H1.out.sizes k hlt).2
      have hI := run_row cap Ho1.out hlt
      have hC := fun w => refIn_any low high u (kAt l k) w hl hh s1
      rw [← inB_eq] at hC
      cases hin : inB low high u (kAt l k)
      · rw [hin] at hC
        have hC := Lib.hid hC
        have hF := Lib.hid (found_out (low := low) (high := high) (u := u) (xs := l) (k := k) (by rw [H1.out.len]; exact hlt) hin)
        clear hin
        go_wp2_with (go_at_call 63; (with_reducible refine (hC.out _).mono ?_); rintro e w' ⟨rfl, d, rfl⟩)
        go_roundw
        case rel => exact ⟨k + 1, m, ob, cap2, by omega, by go_num, rfl, by rw [show held low high u false l (k + 1) = held low high u false l k from hF.out]; exact HO.out.keep (by repeat (first | with_reducible exact Gr.refl _ | with_reducible refine Gr.drewN ?_ _ | with_reducible refine Gr.drew ?_ | with_reducible refine Gr.alloc ?_ _ | with_reducible refine Gr.setCell ?_ ?_ _ | (with_reducible refine Gr.trans ?_ (by assumption)) | omega | (dsimp only; omega))), by repeat (first | with_reducible exact Gr.refl _ | with_reducible refine Gr.drewN ?_ _ | with_reducible refine Gr.drew ?_ | with_reducible refine Gr.alloc ?_ _ | with_reducible refine Gr.setCell ?_ ?_ _ | (with_reducible refine Gr.trans ?_ (by assumption)) | omega | (dsimp only; omega))⟩
        case measure => simp [intOf]; omega
      · rw [hin] at hC
        have hC := Lib.hid hC
        have hF := Lib.hid (found_in (low := low) (high := high) (u := u) (xs := l) (k := k) (by rw [H1.out.len]; exact hlt) hin)
        clear hin
        go_wp2_with (first | (go_at_call 63; (with_reducible refine (hC.out _).mono ?_); rintro e w' ⟨rfl, d, rfl⟩) | (at_builtin; refine wpList_rows_g rfl _ _ rfl w.heap.size (Gr.le (by repeat (first | with_reducible exact Gr.refl _ | with_reducible refine Gr.drewN ?_ _ | with_reducible refine Gr.drew ?_ | with_reducible refine Gr.alloc ?_ _ | with_reducible refine Gr.setCell ?_ ?_ _ | (with_reducible refine Gr.trans ?_ (by assumption)) | omega | (dsimp only; omega)))) rfl (HO.out.keep (by repeat (first | with_reducible exact Gr.refl _ | with_reducible refine Gr.drewN ?_ _ | with_reducible refine Gr.drew ?_ | with_reducible refine Gr.alloc ?_ _ | with_reducible refine Gr.setCell ?_ ?_ _ | (with_reducible refine Gr.trans ?_ (by assumption)) | omega | (dsimp only; omega)))) rfl (row_one (b := wr.heap.size) (Nat.le_refl _) (by unfold maxLen; omega) (by simp [go_sem, cell_new_drewN]) (by simp [go_sem, cell_new_drewN]) s1 s2) (by omega) ?_; intro oc c3 w3 ho3 hb3; have hg3 : Gr w w3 := grown_gr hb3 (HO.out.keep (by repeat (first | with_reducible exact Gr.refl _ | with_reducible refine Gr.drewN ?_ _ | with_reducible refine Gr.drew ?_ | with_reducible refine Gr.alloc ?_ _ | with_reducible refine Gr.setCell ?_ ?_ _ | (with_reducible refine Gr.trans ?_ (by assumption)) | omega | (dsimp only; omega)))) (by repeat (first | with_reducible exact Gr.refl _ | with_reducible refine Gr.drewN ?_ _ | with_reducible refine Gr.drew ?_ | with_reducible refine Gr.alloc ?_ _ | with_reducible refine Gr.setCell ?_ ?_ _ | (with_reducible refine Gr.trans ?_ (by assumption)) | omega | (dsimp only; omega))) (Nat.le_refl _)))
        go_roundw
        case rel => exact ⟨k + 1, m + 1, oc, c3, by omega, by go_num, rfl, by rw [show held low high u false l (k + 1) = held low high u false l k ++ [rAt l k] from hF.out]; exact ho3, hg3⟩
        case measure => simp [intOf]; omega
    · have hkn : k = l.length := by rw [H1.out.len]; omega
      have hO := HO.out
      rw [hkn, held_end] at hO
      have hml := hO.rows.len
      have HO2 := Lib.hid hO
      clear hO
      by_cases hq : 1 ≤ lim ∧ lim < (m : Int)
      · have hc2 := HO2.out.rows.cap_le
        have t1 := run_headI ob m cap2 lim (by omega) (by omega)
        have hr := HO2.out.rows.head (k := lim.toNat) (by omega)
        have e : takeR low high u lim false l = ((visit l false).filter (inS low high u)).take lim.toNat := by unfold takeR; rw [if_pos hq.1]
        rw [← e] at hr
        have HR := Lib.hid hr
        clear hr e hkn
        go_wp2_with fail
        go_ret
        exact ⟨_, _, _, rfl, HR.out, hg⟩
      · have e : takeR low high u lim false l = (visit l false).filter (inS low high u) := by
          unfold takeR
          split
          · rw [List.take_of_length_le (by omega)]
          · rfl
        have hr := HO2.out.rows
        rw [← e] at hr
        have HR := Lib.hid hr
        clear hr e hkn hml
        go_wp2_with fail
        all_goals
          go_ret
          exact ⟨_, _, _, rfl, HR.out, hg⟩
set_option maxRecDepth 100000 in
set_option maxHeartbeats 4000000 in
theorem refTake_down (oa : Option Addr) (n cap : Nat) (l : List Rw) (low high : ByteArray) (u : Bool) (lim : Int) (w : World) (h : RowsAt w oa n cap l) (hn : n ≤ 1000000) (hl : low.size ≤ maxLen) (hh : high.size ≤ maxLen) :
    Calls Tryd.prog 61 #[.slice oa n cap, .string low, .string high, .bool u, .int .i64 lim, .bool true] w fun e w' => ∃ o1 m1 c1, e = .returned (.slice o1 m1 c1) ∧ RowsAt w' o1 m1 c1 (takeR low high u lim true l) ∧ Gr w w' := by
  obtain ⟨b1, off1, ho1, hc1⟩ := h.cells
  have Hc1 := Lib.hid hc1
  have Ho1 := Lib.hid (fun q => (ho1 q).1)
  have H1 := Lib.hid h
  have hn1 := h.cap_le
  have hm1 := h.cap_max
  unfold maxLen at hm1
  clear hc1 ho1 h
  go_enter Tryd.func61, Tryd.ntmps61
  go_wp2_with fail
  go_loopw [13, 14] (fun all i wr => ∃ k m ob cap2, k ≤ n ∧ i = .int .i64 (k : Nat) ∧ all = .slice ob m cap2 ∧ OwnAt wr w.heap.size ob m cap2 (held low high u true l k) ∧ Gr w wr) (fun _ i _ => n - (intOf i).toNat)
  case atStart => exact ⟨0, 0, none, 0, Nat.zero_le _, rfl, rfl, own_nil _ _, Gr.refl _⟩
  case round =>
    obtain ⟨k, m, ob, cap2, hk, rfl, rfl, hO, hg⟩ := hrel
    have hmn : m ≤ n := by
      have := hO.rows.len
      have := held_length low high u true l k
      have := H1.out.len
      omega
    have HO := Lib.hid hO
    clear hO
    by_cases hlt : k < n
    · have a1 := hg.keep (Hc1.out k hlt).1
      have a2 := hg.keep (Hc1.out k hlt).2
      have s1 := (H1.out.sizes k hlt).1
      have s2 := (H1.out.sizes k hlt).2
      have hI := run_row cap Ho1.out hlt
      have hC := fun w => refIn_any low high u (kAt l k) w hl hh s1
      rw [← inB_eq] at hC
      cases hin : inB low high u (kAt l k)
      · rw [hin] at hC
        have hC := Lib.hid hC
        have hF := Lib.hid (found_out (low := low) (high := high) (u := u) (xs := l) (k := k) (by rw [H1.out.len]; exact hlt) hin)
        clear hin
        go_wp2_with (go_at_call 63; (with_reducible refine (hC.out _).mono ?_); rintro e w' ⟨rfl, d, rfl⟩)
        go_roundw
        case rel => exact ⟨k + 1, m, ob, cap2, by omega, by go_num, rfl, by rw [show held low high u true l (k + 1) = held low high u true l k from congrArg List.reverse hF.out]; exact HO.out.keep (by repeat (first | with_reducible exact Gr.refl _ | with_reducible refine Gr.drewN ?_ _ | with_reducible refine Gr.drew ?_ | with_reducible refine Gr.alloc ?_ _ | with_reducible refine Gr.setCell ?_ ?_ _ | (with_reducible refine Gr.trans ?_ (by assumption)) | omega | (dsimp only; omega))), by repeat (first | with_reducible exact Gr.refl _ | with_reducible refine Gr.drewN ?_ _ | with_reducible refine Gr.drew ?_ | with_reducible refine Gr.alloc ?_ _ | with_reducible refine Gr.setCell ?_ ?_ _ | (with_reducible refine Gr.trans ?_ (by assumption)) | omega | (dsimp only; omega))⟩
        case measure => simp [intOf]; omega
      · rw [hin] at hC
        have hC := Lib.hid hC
        have hF := Lib.hid (found_in (low := low) (high := high) (u := u) (xs := l) (k := k) (by rw [H1.out.len]; exact hlt) hin)
        clear hin
        go_wp2_with (first | (go_at_call 63; (with_reducible refine (hC.out _).mono ?_); rintro e w' ⟨rfl, d, rfl⟩) | (at_builtin; refine wpList_rows_g rfl _ _ rfl w.heap.size (Gr.le (by repeat (first | with_reducible exact Gr.refl _ | with_reducible refine Gr.drewN ?_ _ | with_reducible refine Gr.drew ?_ | with_reducible refine Gr.alloc ?_ _ | with_reducible refine Gr.setCell ?_ ?_ _ | (with_reducible refine Gr.trans ?_ (by assumption)) | omega | (dsimp only; omega)))) rfl (own_one (by simp [drewN_heap]) (Gr.le hg) s1 s2) rfl (HO.out.rows.keep (by repeat (first | with_reducible exact Gr.refl _ | with_reducible refine Gr.drewN ?_ _ | with_reducible refine Gr.drew ?_ | with_reducible refine Gr.alloc ?_ _ | with_reducible refine Gr.setCell ?_ ?_ _ | (with_reducible refine Gr.trans ?_ (by assumption)) | omega | (dsimp only; omega)))) (by omega) ?_; intro oc c3 w3 ho3 hb3; have hg3 : Gr w w3 := grown_gr hb3 (own_one (base := w.heap.size) (by simp [drewN_heap]) (Gr.le hg) s1 s2) (by repeat (first | with_reducible exact Gr.refl _ | with_reducible refine Gr.drewN ?_ _ | with_reducible refine Gr.drew ?_ | with_reducible refine Gr.alloc ?_ _ | with_reducible refine Gr.setCell ?_ ?_ _ | (with_reducible refine Gr.trans ?_ (by assumption)) | omega | (dsimp only; omega))) (Nat.le_refl _)))
        go_roundw
        case rel => exact ⟨k + 1, 1 + m, oc, c3, by omega, by go_num, rfl, by rw [show held low high u true l (k + 1) = [rAt l k] ++ held low high u true l k from held_down hF.out]; exact ho3, hg3⟩
        case measure => simp [intOf]; omega
    · have hkn : k = l.length := by rw [H1.out.len]; omega
      have hO := HO.out
      rw [hkn, held_end] at hO
      have hml := hO.rows.len
      have HO2 := Lib.hid hO
      clear hO
      by_cases hq : 1 ≤ lim ∧ lim < (m : Int)
      · have hc2 := HO2.out.rows.cap_le
        have t1 := run_headI ob m cap2 lim (by omega) (by omega)
        have hr := HO2.out.rows.head (k := lim.toNat) (by omega)
        have e : takeR low high u lim true l = ((visit l true).filter (inS low high u)).take lim.toNat := by unfold takeR; rw [if_pos hq.1]
        rw [← e] at hr
        have HR := Lib.hid hr
        clear hr e hkn
        go_wp2_with fail
        go_ret
        exact ⟨_, _, _, rfl, HR.out, hg⟩
      · have e : takeR low high u lim true l = (visit l true).filter (inS low high u) := by
          unfold takeR
          split
          · rw [List.take_of_length_le (by omega)]
          · rfl
        have hr := HO2.out.rows
        rw [← e] at hr
        have HR := Lib.hid hr
        clear hr e hkn hml
        go_wp2_with fail
        all_goals
          go_ret
          exact ⟨_, _, _, rfl, HR.out, hg⟩

theorem refTake_any (oa : Option Addr) (n cap : Nat) (l : List Rw) (low high : ByteArray) (u : Bool) (lim : Int) (rev : Bool) (w : World) (h : RowsAt w oa n cap l) (hn : n ≤ 1000000) (hl : low.size ≤ maxLen) (hh : high.size ≤ maxLen) :
    Calls Tryd.prog 61 #[.slice oa n cap, .string low, .string high, .bool u, .int .i64 lim, .bool rev] w fun e w' => ∃ o1 m1 c1, e = .returned (.slice o1 m1 c1) ∧ RowsAt w' o1 m1 c1 (takeR low high u lim rev l) ∧ Gr w w' := by
  cases rev
  · exact refTake_up oa n cap l low high u lim w h hn hl hh
  · exact refTake_down oa n cap l low high u lim w h hn hl hh
end Go.Proofs.YtopomocbjlikjaaDoor
