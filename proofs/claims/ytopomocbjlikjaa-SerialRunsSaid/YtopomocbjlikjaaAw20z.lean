import Derived.Test.YtopomocbjlikjaaCk20z
import Derived.Test.YtopomocbjlikjaaErrz
namespace Go.Proofs.Ytopomocbjlikjaa
set_option linter.unusedVariables false
set_option linter.unusedSimpArgs false
open Go.BigFrame Go.RowKit Go.WideShapes

/-! The awake law of serial. -/
set_option maxRecDepth 100000 in
theorem faultIs20 (n m : Int) (w : World) : Calls Try.prog 13 #[errV n, .int .i64 m] w fun e w' => e = .returned (.bool (n == m)) ∧ Gr w w' := by
  go_enter Try.func13, Try.ntmps13
  go_wp2_with fail
  refine (is_code n m _).mono ?_
  rintro e w1 ⟨rfl, rfl⟩
  go_wp2_with fail
  go_ret
  exact ⟨rfl, by repeat (first | with_reducible exact Gr.refl _ | with_reducible refine Gr.drewN ?_ _ | with_reducible refine Gr.drew ?_ | with_reducible refine Gr.alloc ?_ _ | with_reducible refine Gr.setCell ?_ ?_ _ | (with_reducible refine Gr.trans ?_ (by assumption)) | omega | (dsimp only; omega))⟩
abbrev sA : Sn := ⟨3, ⟨#[97]⟩, ⟨#[49]⟩, false, ⟨#[]⟩, ⟨#[]⟩, false, 0, false, []⟩
abbrev sB : Sn := ⟨2, ⟨#[97]⟩, ⟨#[]⟩, false, ⟨#[]⟩, ⟨#[]⟩, false, 0, false, []⟩
abbrev sC : Sn := ⟨2, ⟨#[97]⟩, ⟨#[49]⟩, true, ⟨#[]⟩, ⟨#[]⟩, false, 0, false, []⟩
abbrev tA : Tr := ⟨0, 1, 0, 1, [sA]⟩
abbrev tB : Tr := ⟨0, 1, 0, 0, [sB]⟩
abbrev tC : Tr := ⟨0, 1, 0, 0, [sC]⟩
theorem sz_sA : SnSz sA := ⟨by decide, by decide, by decide, by decide⟩
theorem sz_sB : SnSz sB := ⟨by decide, by decide, by decide, by decide⟩
theorem sz_sC : SnSz sC := ⟨by decide, by decide, by decide, by decide⟩
theorem awake_code (x : Tr) (h : okT x = true) (h1 : x.num = 0) (h2 : x.snap = 0) : codeR [tA, x] = 0 := by
  have hl : lastN [tA, x] = 1 := by
    show max (max 0 1) x.num = 1
    rw [h1]; decide
  refine code_none (fun t ht => ?_) (fun t ht h0 => ?_) (by rw [hl]; simp) (fun n a b => ?_) (fun t ht => ?_)
  · simp only [List.mem_cons, List.not_mem_nil, or_false] at ht
    rcases ht with rfl | rfl
    · decide +kernel
    · exact h
  · have hc : countN [tA, x] 1 = 1 := by
      unfold countN
      rw [List.filter_cons_of_pos (by decide), List.filter_cons_of_neg (by simp [h1])]
      rfl
    simp only [List.mem_cons, List.not_mem_nil, or_false] at ht
    rcases ht with rfl | rfl
    · exact Nat.le_of_eq hc
    · omega
  · obtain rfl : n = 1 := by omega
    unfold countN
    rw [List.filter_cons_of_pos (by decide)]
    simp
  · rw [hl]
    simp only [List.mem_cons, List.not_mem_nil, or_false] at ht
    rcases ht with rfl | rfl
    · decide
    · omega
theorem awake_ok : checkR [tA, tB] = (-1, 0) := by
  have hc := awake_code tB (by decide +kernel) rfl rfl
  refine checkR_none hc fun j x hj hx => ?_
  have hm : x ∈ [tA, tB] := List.mem_of_getElem? hx
  refine chk_0 hc hm (num_le_last hm) ?_ ?_
  · simp only [List.mem_cons, List.not_mem_nil, or_false] at hm
    rcases hm with rfl | rfl
    · decide +kernel
    · decide +kernel
  · intro o ho
    simp only [List.mem_cons, List.not_mem_nil, or_false] at hm ho
    rcases hm with rfl | rfl <;> rcases ho with rfl | rfl <;> (simp)
theorem awake_bad : checkR [tA, tC] = (1, 12) := by
  have hc := awake_code tC (by decide +kernel) rfl rfl
  have h12 : chkAt [tA, tC] tC = 12 := chk_12 hc (by simp) (num_le_last (by simp)) (by decide +kernel)
  have h := checkR_at hc (k := 1) (t := tC) rfl (fun j x hj hx => ?_) (by rw [h12]; decide)
  · rw [h, h12]; rfl
  · obtain rfl : j = 0 := by omega
    obtain rfl : tA = x := by simpa using hx
    refine chk_0 hc (by simp) (num_le_last (by simp)) (by decide +kernel) ?_
    intro o ho
    simp only [List.mem_cons, List.not_mem_nil, or_false] at ho
    rcases ho with rfl | rfl <;> simp
theorem seen_of {w : World} {b : Nat} {s : Sn} (h : Bx w b (snL s none 0 0)) (hs : s.rows = []) (hz : SnSz s) : SeenAt w (some ⟨b, 0, none⟩) 1 1 [s] := by
  have hR : RowsAt w none 0 0 ([] : List Rw) := ⟨rfl, Nat.le_refl _, Nat.zero_le _, fun _ => rfl, ⟨0, 0, fun q => absurd q (by omega), fun i hi => absurd hi (by omega)⟩, fun i hi => absurd hi (by omega)⟩
  refine SlE.one (by decide) (Nat.le_refl _) (by unfold maxLen; omega) rfl (snL_one s none 0 0) ⟨none, 0, 0, rfl, by rw [hs]; exact hR, hz⟩ fun j u hj => ?_
  rw [Nat.zero_add]
  exact h.cell j hj
/-- two trips in a block of their own -/
theorem trips_two {w3 w : World} {x y : Tr} {o1 : Option Addr} {n1 c1 : Nat} {o2 : Option Addr} {n2 c2 : Nat} (h1 : SeenAt w o1 n1 c1 x.seen) (h2 : SeenAt w o2 n2 c2 y.seen) (s1 : TrSz x) (s2 : TrSz y) (cs : Array Value) (T : TypeId)
    (hcs : cs.toList = trL x o1 n1 c1 ++ trL y o2 n2 c2) (hg : Gr (w3.alloc (.cells cs T)) w) : TripsAt w (some ⟨w3.heap.size, 0, none⟩) 2 2 [x, y] := by
  have hB := (Bx.new w3 cs T rfl).keep hg
  rw [hcs] at hB
  refine ⟨rfl, Nat.le_refl _, by unfold maxLen; omega, fun q => (by cases q), w3.heap.size, 0, fun _ => ⟨rfl, hB.lt (by simp)⟩, fun i z hi => ?_⟩
  have hi2 : i < 2 := (List.getElem?_eq_some_iff.1 hi).1
  have one : ∀ (t : Tr) (o : Option Addr) (n c : Nat), ∀ u ∈ trL t o n c, u.oneCell' = true := fun t o n c u hu => by
    simp only [List.mem_cons, List.not_mem_nil, or_false] at hu
    rcases hu with rfl | rfl | rfl | rfl | rfl <;> rfl
  obtain rfl | rfl : i = 0 ∨ i = 1 := by omega
  · obtain rfl : x = z := by simpa using hi
    refine ⟨trL x o1 n1 c1, rfl, one _ _ _ _, ⟨o1, n1, c1, rfl, h1, s1⟩, fun j u hj => ?_⟩
    have hj' : j < 5 := (List.getElem?_eq_some_iff.1 hj).1
    have := hB.cell j (u := u) (by rw [List.getElem?_append_left (by exact hj')]; exact hj)
    simpa using this
  · obtain rfl : y = z := by simpa using hi
    refine ⟨trL y o2 n2 c2, rfl, one _ _ _ _, ⟨o2, n2, c2, rfl, h2, s2⟩, fun j u hj => ?_⟩
    have hj' : j < 5 := (List.getElem?_eq_some_iff.1 hj).1
    have := hB.cell (5 + j) (u := u) (by rw [List.getElem?_append_right (by show 5 ≤ 5 + j; omega)]; rw [show 5 + j - (trL x o1 n1 c1).length = j by show 5 + j - 5 = j; omega]; exact hj)
    simpa using this
theorem few_two {x y : Tr} (hx : FewT x) (hy : FewT y) : FewL [x, y] := ⟨by simp, fun i t hi => by
  have hi2 : i < 2 := (List.getElem?_eq_some_iff.1 hi).1
  obtain rfl | rfl : i = 0 ∨ i = 1 := by omega
  · obtain rfl : x = t := by simpa using hi
    exact hx
  · obtain rfl : y = t := by simpa using hi
    exact hy⟩
theorem fewT_one {t : Tr} {s : Sn} (h : t.seen = [s]) (hs : FewS s) : FewT t := by
  unfold FewT
  rw [h]
  refine ⟨by simp, fun i s' hi => ?_⟩
  have : s' ∈ [s] := List.mem_of_getElem? hi
  obtain rfl := List.mem_singleton.1 this
  exact hs
theorem few_AB : FewL [tA, tB] := few_two (fewT_one rfl ⟨by decide, by decide, by decide, by decide, by decide⟩) (fewT_one rfl ⟨by decide, by decide, by decide, by decide, by decide⟩)
theorem few_AC : FewL [tA, tC] := few_two (fewT_one rfl ⟨by decide, by decide, by decide, by decide, by decide⟩) (fewT_one rfl ⟨by decide, by decide, by decide, by decide, by decide⟩)
theorem chk_AB {w3 w : World} {o1 : Option Addr} {o2 : Option Addr} (h1 : SeenAt w o1 1 1 [sA]) (h2 : SeenAt w o2 1 1 [sB]) (cs : Array Value) (T : TypeId) (hcs : cs.toList = trL tA o1 1 1 ++ trL tB o2 1 1) (hg : Gr (w3.alloc (.cells cs T)) w) :
    Calls Try.prog 11 #[.slice (some ⟨w3.heap.size, 0, none⟩) 2 2] w fun e w' => e = .returned (.tuple #[.int .i64 (-1), .nilIface]) ∧ Gr w w' := by
  have := check_any _ 2 2 [tA, tB] w (trips_two h1 h2 ⟨by decide, by decide⟩ ⟨by decide, by decide⟩ cs T hcs hg) few_AB
  rwa [chkV_none awake_ok] at this
theorem chk_AC {w3 w : World} {o1 : Option Addr} {o2 : Option Addr} (h1 : SeenAt w o1 1 1 [sA]) (h2 : SeenAt w o2 1 1 [sC]) (cs : Array Value) (T : TypeId) (hcs : cs.toList = trL tA o1 1 1 ++ trL tC o2 1 1) (hg : Gr (w3.alloc (.cells cs T)) w) :
    Calls Try.prog 11 #[.slice (some ⟨w3.heap.size, 0, none⟩) 2 2] w fun e w' => e = .returned (.tuple #[.int .i64 1, errV 12]) ∧ Gr w w' := by
  have := check_any _ 2 2 [tA, tC] w (trips_two h1 h2 ⟨by decide, by decide⟩ ⟨by decide, by decide⟩ cs T hcs hg) few_AC
  rwa [chkV_err awake_bad (by decide)] at this
set_option maxRecDepth 100000 in
set_option maxHeartbeats 20000000 in
theorem awake20_any (w : World) : Calls Try.prog 6 #[] w fun e w' => e = .returned (.bool true) ∧ Gr w w' := by
  go_enter Try.func6, Try.ntmps6
  have S1 := (Bx.new w (snL sA none 0 0).toArray 50 rfl).of (us := snL sA none 0 0) rfl
  have hg1 : Gr w (w.alloc (.cells (snL sA none 0 0).toArray 50)) := (Gr.refl w).alloc _
  have hl1 : (w.alloc (.cells (snL sA none 0 0).toArray 50)).heap.size = w.heap.size + 1 := size_alloc1 _ _
  go_upto_region 2 with fail
  generalize w.alloc (.cells (snL sA none 0 0).toArray 50) = W20 at *
  generalize w.heap.size = a1 at *
  (try simp only [Act.put])
  rw [← hl1]
  have B1 := (Bx.new W20 (trL tA (some ⟨a1, 0, none⟩) 1 1).toArray 46 rfl).of (us := trL tA (some ⟨a1, 0, none⟩) 1 1) rfl
  have hg2 : Gr W20 (W20.alloc (.cells (trL tA (some ⟨a1, 0, none⟩) 1 1).toArray 46)) := (Gr.refl W20).alloc _
  have ha1 : W20.heap.size < (W20.alloc (.cells (trL tA (some ⟨a1, 0, none⟩) 1 1).toArray 46)).heap.size := B1.lt (by simp)
  have S1 := S1.keep hg2
  have hgs := hg1.trans hg2
  generalize W20.alloc (.cells (trL tA (some ⟨a1, 0, none⟩) 1 1).toArray 46) = W2 at *
  have hgw := hgs
  have hsa : a1 < W2.heap.size := S1.lt (by simp)
  generalize W20.heap.size = b1 at *
  clear hg1 hg2 hl1 hgs
  have S2 := (Bx.new W2 (snL sB none 0 0).toArray 50 rfl).of (us := snL sB none 0 0) rfl
  have hg1 : Gr W2 (W2.alloc (.cells (snL sB none 0 0).toArray 50)) := (Gr.refl W2).alloc _
  have hl1 : (W2.alloc (.cells (snL sB none 0 0).toArray 50)).heap.size = W2.heap.size + 1 := size_alloc1 _ _
  go_upto_region 3 with fail
  generalize W2.alloc (.cells (snL sB none 0 0).toArray 50) = W40 at *
  generalize W2.heap.size = a2 at *
  (try simp only [Act.put])
  rw [← hl1]
  have B2 := (Bx.new W40 (trL tB (some ⟨a2, 0, none⟩) 1 1).toArray 46 rfl).of (us := trL tB (some ⟨a2, 0, none⟩) 1 1) rfl
  have hg2 : Gr W40 (W40.alloc (.cells (trL tB (some ⟨a2, 0, none⟩) 1 1).toArray 46)) := (Gr.refl W40).alloc _
  have ha2 : W40.heap.size < (W40.alloc (.cells (trL tB (some ⟨a2, 0, none⟩) 1 1).toArray 46)).heap.size := B2.lt (by simp)
  have S2 := S2.keep hg2
  have hgs := hg1.trans hg2
  generalize W40.alloc (.cells (trL tB (some ⟨a2, 0, none⟩) 1 1).toArray 46) = W4 at *
  have hbw : w.heap.size ≤ W40.heap.size := (hgw.trans hg1).le
  have hgw := hgw.trans hgs
  have B1 := B1.keep hgs
  have S1 := S1.keep hgs
  have hb12 : b1 ≠ W40.heap.size := by omega
  have ha12 : a1 ≠ W40.heap.size := by omega
  generalize W40.heap.size = b2 at *
  clear hg1 hg2 hl1 hgs
  have hAB := Lib.hid fun w5 (hq : Gr (W4.alloc (.cells #[.int .i64 0, .int .i64 1, .int .i64 0, .int .i64 1, .slice (some ⟨a1, 0, none⟩) 1 1, .int .i64 0, .int .i64 1, .int .i64 0, .int .i64 0, .slice (some ⟨a2, 0, none⟩) 1 1] 46)) w5) => chk_AB (seen_of (S1.keep (((Gr.refl W4).alloc _).trans hq)) rfl sz_sA) (seen_of (S2.keep (((Gr.refl W4).alloc _).trans hq)) rfl sz_sB) _ _ rfl hq
  go_upto_region 4 with (first | ((with_reducible refine wpList_load_box (ty := 46) (B1) ?_ ?_ Try.underlying46 ?_ ?_ ?_); (focus (exact rfl)); (focus (exact ⟨_, rfl, rfl⟩)); (focus (exact rfl)); (focus kernel_rfl)) | ((with_reducible refine wpList_load_box (ty := 46) (B2) ?_ ?_ Try.underlying46 ?_ ?_ ?_); (focus (exact rfl)); (focus (exact ⟨_, rfl, rfl⟩)); (focus (exact rfl)); (focus kernel_rfl)) | (go_at_call 11; (with_reducible refine (hAB.out _ (Gr.refl _)).mono ?_); rintro e w5 ⟨rfl, hg5⟩))
  have hg5 := ((Gr.refl W4).alloc _).trans hg5
  have hgw := hgw.trans hg5
  have S1 := S1.keep hg5
  have B1 := B1.keep hg5
  have B2 := B2.keep hg5
  have hb25 := B2.lt (by simp)
  clear hAB hg5 S2
  have f4 := B2.free 4 (by simp)
  have x4 := B2.cell 4 rfl
  have ha3 : w5.heap.size ≠ b2 := by omega
  go_upto_region 5 with fail
  have hgw := (hgw.setCell (p := ⟨b2, 4, none⟩) hbw (.slice (some ⟨w5.heap.size, 0, none⟩) 1 1)).alloc (.cells (snL sC none 0 0).toArray 50)
  have B1 := (B1.other (b' := b2) (j := 4) (fun e => hb12 e.symm) (.slice (some ⟨w5.heap.size, 0, none⟩) 1 1)).keep ((Gr.refl _).alloc (.cells (snL sC none 0 0).toArray 50))
  have S1 := (S1.other (b' := b2) (j := 4) (fun e => ha12 e.symm) (.slice (some ⟨w5.heap.size, 0, none⟩) 1 1)).keep ((Gr.refl _).alloc (.cells (snL sC none 0 0).toArray 50))
  have B2 := ((B2.set 4 (.slice (some ⟨w5.heap.size, 0, none⟩) 1 1)).of (us := trL tC (some ⟨w5.heap.size, 0, none⟩) 1 1) rfl).keep ((Gr.refl _).alloc (.cells (snL sC none 0 0).toArray 50))
  have S3 := (Bx.new (w5.setCell ⟨b2, 4, none⟩ (.slice (some ⟨w5.heap.size, 0, none⟩) 1 1)) (snL sC none 0 0).toArray 50 (b := w5.heap.size) (by unfold World.setCell; simp)).of (us := snL sC none 0 0) rfl
  generalize (w5.setCell ⟨b2, 4, none⟩ (.slice (some ⟨w5.heap.size, 0, none⟩) 1 1)).alloc (.cells (snL sC none 0 0).toArray 50) = W7 at *
  generalize w5.heap.size = a3 at *
  clear f4 x4
  have hAC := Lib.hid fun w5 (hq : Gr (W7.alloc (.cells #[.int .i64 0, .int .i64 1, .int .i64 0, .int .i64 1, .slice (some ⟨a1, 0, none⟩) 1 1, .int .i64 0, .int .i64 1, .int .i64 0, .int .i64 0, .slice (some ⟨a3, 0, none⟩) 1 1] 46)) w5) => chk_AC (seen_of (S1.keep (((Gr.refl W7).alloc _).trans hq)) rfl sz_sA) (seen_of (S3.keep (((Gr.refl W7).alloc _).trans hq)) rfl sz_sC) _ _ rfl hq
  go_upto_region 6 with (first | ((with_reducible refine wpList_load_box (ty := 46) (B1) ?_ ?_ Try.underlying46 ?_ ?_ ?_); (focus (exact rfl)); (focus (exact ⟨_, rfl, rfl⟩)); (focus (exact rfl)); (focus kernel_rfl)) | ((with_reducible refine wpList_load_box (ty := 46) (B2) ?_ ?_ Try.underlying46 ?_ ?_ ?_); (focus (exact rfl)); (focus (exact ⟨_, rfl, rfl⟩)); (focus (exact rfl)); (focus kernel_rfl)) | (go_at_call 11; (with_reducible refine (hAC.out _ (Gr.refl _)).mono ?_); rintro e w8 ⟨rfl, hg8⟩))
  have hg8 := ((Gr.refl W7).alloc _).trans hg8
  have hgw := hgw.trans hg8
  have hRi := Lib.hid fun w1 (hq : Gr w8 w1) => right20_any tA (some ⟨a1, 0, none⟩) 1 1 w1 (seen_of (S1.keep (hg8.trans hq)) rfl sz_sA)
  rw [show okT tA = true by decide +kernel] at hRi
  have B1 := B1.keep hg8
  clear hAC
  go_wp2_with (first | (go_at_call 13; (with_reducible refine (faultIs20 _ _ _).mono ?_); rintro e w9 ⟨rfl, hg9⟩; have B9 := B1.keep hg9; have y0 := B9.cell 0 rfl; have y1 := B9.cell 1 rfl; have y2 := B9.cell 2 rfl; have y3 := B9.cell 3 rfl; have y4 := B9.cell 4 rfl) | (go_at_call 15; (with_reducible refine (hRi.out _ hg9).mono ?_); rintro e w10 ⟨rfl, hg10⟩))
  go_ret
  exact ⟨rfl, hgw.trans (hg9.trans hg10)⟩
end Go.Proofs.Ytopomocbjlikjaa
