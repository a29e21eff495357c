import Derived.Test.YtfejdbcfcpmdiaaSs
namespace Go.Proofs.Ytfejdbcfcpmdiaa
set_option linter.unusedVariables false
set_option linter.unusedSimpArgs false
open Go.BigFrame Go.RowKit Go.WideShapes

set_option maxRecDepth 100000 in
set_option maxHeartbeats 8000000 in
theorem clear_skip (oa : Option Addr) (n cap : Nat) (l : List Wt) (low high : ByteArray) (u : Bool) (w : World) (h : WritesAt w oa n cap l) (hl : low.size ≤ maxLen) (hh : high.size ≤ maxLen) (hs : 100 < low.size ∨ (low.size ≤ 100 ∧ 100 < high.size)) :
    Calls Try.prog 5 #[.slice oa n cap, .agg #[.string low, .string high, .bool u]] w fun e w' => e = .returned (.bool true) ∧ Gr w w' := by
  have hF := Lib.hid (few_w oa n cap l (w.alloc (.cells #[.string low, .string high, .bool u] 42)) (h.keep (by repeat (first | with_reducible exact Gr.refl _ | with_reducible refine Gr.drewN ?_ _ | with_reducible refine Gr.drew ?_ | with_reducible refine Gr.alloc ?_ _ | with_reducible refine Gr.setCell ?_ ?_ _ | (with_reducible refine Gr.trans ?_ (by assumption)) | omega | (dsimp only; omega)))))
  have b0 := fun d : Nat => (show ((w.alloc (.cells #[.string low, .string high, .bool u] 42)).drewN d).cell? ⟨w.heap.size, 0, none⟩ = some (.string low) from World.cell?_alloc_new w _ _ 0)
  have b1 := fun d : Nat => (show ((w.alloc (.cells #[.string low, .string high, .bool u] 42)).drewN d).cell? ⟨w.heap.size, 1, none⟩ = some (.string high) from World.cell?_alloc_new w _ _ 1)
  clear h
  unfold maxLen at hl hh
  rcases hs with hs | ⟨hs, hs2⟩
  all_goals
    go_enter Try.func5, Try.ntmps5
    go_wp2_with fail
    refine hF.out.mono ?_
    rintro e w1 ⟨⟨b, rfl, hb⟩, d, rfl⟩
    cases b
    all_goals
      go_wp2_with fail
      refine (awake_any _).mono ?_
      rintro e w2 ⟨rfl, hg2⟩
      go_wp2_with fail
      go_ret
      exact ⟨rfl, by repeat (first | with_reducible exact Gr.refl _ | with_reducible refine Gr.drewN ?_ _ | with_reducible refine Gr.drew ?_ | with_reducible refine Gr.alloc ?_ _ | with_reducible refine Gr.setCell ?_ ?_ _ | (with_reducible refine Gr.trans ?_ (by assumption)) | omega | (dsimp only; omega))⟩

set_option maxRecDepth 100000 in
set_option maxHeartbeats 8000000 in
theorem clear_main (oa : Option Addr) (n cap : Nat) (l : List Wt) (low high : ByteArray) (u : Bool) (w : World) (h : WritesAt w oa n cap l) (hl : low.size ≤ maxLen) (hh : high.size ≤ maxLen) (hl1 : low.size ≤ 100) (hh1 : high.size ≤ 100) :
    Calls Try.prog 5 #[.slice oa n cap, .agg #[.string low, .string high, .bool u]] w fun e w' => e = .returned (.bool true) ∧ Gr w w' := by
  have hF := Lib.hid (few_w oa n cap l (w.alloc (.cells #[.string low, .string high, .bool u] 42)) (h.keep (by repeat (first | with_reducible exact Gr.refl _ | with_reducible refine Gr.drewN ?_ _ | with_reducible refine Gr.drew ?_ | with_reducible refine Gr.alloc ?_ _ | with_reducible refine Gr.setCell ?_ ?_ _ | (with_reducible refine Gr.trans ?_ (by assumption)) | omega | (dsimp only; omega)))))
  have b0 : (w.alloc (.cells #[.string low, .string high, .bool u] 42)).cell? ⟨w.heap.size, 0, none⟩ = some (.string low) := World.cell?_alloc_new w _ _ 0
  have b1 : (w.alloc (.cells #[.string low, .string high, .bool u] 42)).cell? ⟨w.heap.size, 1, none⟩ = some (.string high) := World.cell?_alloc_new w _ _ 1
  have b2 : (w.alloc (.cells #[.string low, .string high, .bool u] 42)).cell? ⟨w.heap.size, 2, none⟩ = some (.bool u) := World.cell?_alloc_new w _ _ 2
  obtain ⟨b9, off9, ho9, hc9⟩ := h.cells
  have Hc9 := Lib.hid hc9
  have Ho9 := Lib.hid (fun q => (ho9 q).1)
  have H9 := Lib.hid h
  have hn9 := h.cap_le
  have hm9 := h.cap_max
  unfold maxLen at hm9
  clear hc9 ho9 h
  go_enter Try.func5, Try.ntmps5
  go_wp2_with fail
  refine hF.out.mono ?_
  rintro e w1 ⟨⟨b, rfl, hb⟩, d, rfl⟩
  have b0 : ((w.alloc (.cells #[.string low, .string high, .bool u] 42)).drewN d).cell? ⟨w.heap.size, 0, none⟩ = some (.string low) := b0
  have b1 : ((w.alloc (.cells #[.string low, .string high, .bool u] 42)).drewN d).cell? ⟨w.heap.size, 1, none⟩ = some (.string high) := b1
  have b2 : ((w.alloc (.cells #[.string low, .string high, .bool u] 42)).drewN d).cell? ⟨w.heap.size, 2, none⟩ = some (.bool u) := b2
  have hg1 : Gr w ((w.alloc (.cells #[.string low, .string high, .bool u] 42)).drewN d) := by repeat (first | with_reducible exact Gr.refl _ | with_reducible refine Gr.drewN ?_ _ | with_reducible refine Gr.drew ?_ | with_reducible refine Gr.alloc ?_ _ | with_reducible refine Gr.setCell ?_ ?_ _ | (with_reducible refine Gr.trans ?_ (by assumption)) | omega | (dsimp only; omega))
  generalize (w.alloc (.cells #[.string low, .string high, .bool u] 42)).drewN d = w1 at *
  cases b
  · go_wp2_with fail
    refine (awake_any _).mono ?_
    rintro e w2 ⟨rfl, hg2⟩
    go_wp2_with fail
    go_ret
    exact ⟨rfl, by repeat (first | with_reducible exact Gr.refl _ | with_reducible refine Gr.drewN ?_ _ | with_reducible refine Gr.drew ?_ | with_reducible refine Gr.alloc ?_ _ | with_reducible refine Gr.setCell ?_ ?_ _ | (with_reducible refine Gr.trans ?_ (by assumption)) | omega | (dsimp only; omega))⟩
  have hn := hb rfl
  clear hb hF
  have Hb := Lib.hid (fun w2 (hg : Gr w1 w2) => And.intro (hg.keep b0) (And.intro (hg.keep b1) (hg.keep b2)))
  go_wp2_with fail
  go_loopw [5, 28] (fun s i wr => ∃ (k : Nat) (oc : Option Addr) (c : Nat), k ≤ n ∧ i = .int .i64 k ∧ s = .slice oc k c ∧ Hid (OwnS wr w1.heap.size oc k c ((l.take k).map Wt.key)) ∧ Gr w1 wr) (fun _ i _ => n - (intOf i).toNat)
  case atStart => exact ⟨0, none, 0, Nat.zero_le _, rfl, rfl, Lib.hid (ownS_nil _ _), Gr.refl _⟩
  case round =>
    obtain ⟨k, oc, c, hk, rfl, rfl, how, hg⟩ := hrel
    have hgw := hg1.trans hg
    by_cases hlt : k < n
    · obtain ⟨a1, a2, a3⟩ := Hc9.out k hlt
      have a1 := hgw.keep a1
      have a2 := hgw.keep a2
      have a3 := hgw.keep a3
      have hI := run_rwr cap Ho9.out hlt
      have hT : (l.take k).map Wt.key ++ [(wAt l k).key] = (l.take (k + 1)).map Wt.key := by
        rw [List.take_succ_eq_append_getElem (by rw [H9.out.len]; exact hlt), wAt_lt (by rw [H9.out.len]; exact hlt), List.map_append]; rfl
      have hs1 := (H9.out.sizes k hlt).1
      have hgl := hg.le
      go_wp2_with (at_builtin; refine wpList_s1 rfl _ _ rfl w1.heap.size (by simp; omega) rfl (how.out.keep (((Gr.refl _).alloc _).alloc _)) (b := wr.heap.size + 1) rfl (by simp [go_sem]) hs1 (by omega) ?_; intro oc2 c2 w2 ho2 hg2)
      rw [hT] at ho2
      have hgn : Gr w1 w2 := sgrown_gr hg2 (how.out.keep (((Gr.refl _).alloc _).alloc _)) ((hg.alloc _).alloc _) (Nat.le_refl _)
      go_roundw
      case rel => exact ⟨k + 1, oc2, c2, by omega, by go_num, rfl, Lib.hid ho2, hgn⟩
      case measure => simp [intOf]; omega
    · obtain rfl : k = n := by omega
      rw [show l.take k = l from List.take_of_length_le (by rw [H9.out.len]; exact Nat.le_refl _)] at how
      go_wp2_with fail
      refine (given_n (H9.out.keep hgw) (by omega)).mono ?_
      rintro e w3 ⟨o5, c5, rfl, ho5, hg3⟩
      have HL := Lib.hid ho5.rows
      have HK := Lib.hid (how.out.rows.keep hg3)
      have hg13 := hg.trans hg3
      have hgw3 := hg1.trans hg13
      have hlen := H9.out.len
      have e0 : ByteArray.size ⟨#[]⟩ ≤ maxLen := by decide
      obtain ⟨b0, b1, b2⟩ := Hb.out w3 hg13
      clear ho5 how hg hg3 hgw
      have HA := Lib.hid (fun (w' : World) (b : Nat) (hg : Gr w3 w') (q0 : w'.cell? ⟨b, 0, none⟩ = some (.string ⟨#[]⟩)) (q1 : w'.cell? ⟨b, 1, none⟩ = some (.string ⟨#[]⟩)) (q2 : w'.cell? ⟨b, 2, none⟩ = some (.bool true)) =>
        clash_any none (some ⟨b, 0, none⟩) o5 0 0 1 1 k c5 [] _ l w' (strs_nil _) (write_one (Nat.le_refl _) (by decide) q0 q1 q2 e0 e0) (HL.out.keep hg))
      have HB := Lib.hid (fun (w' : World) (hg : Gr w3 w') => clash_any none none o5 0 0 0 0 k c5 [] [] l w' (strs_nil _) (writes_none _) (HL.out.keep hg))
      have HC := Lib.hid (fun (w' : World) (hg : Gr w3 w') => clash_any oc none o5 k c 0 0 k c5 _ [] l w' (HK.out.keep hg) (writes_none _) (HL.out.keep hg))
      have HD := Lib.hid (fun (w' : World) (b : Nat) (hg : Gr w3 w') (q0 : w'.cell? ⟨b, 0, none⟩ = some (.string low)) (q1 : w'.cell? ⟨b, 1, none⟩ = some (.string high)) (q2 : w'.cell? ⟨b, 2, none⟩ = some (.bool u)) =>
        clash_any oc (some ⟨b, 0, none⟩) none k c 1 1 0 0 _ _ [] w' (HK.out.keep hg) (write_one (Nat.le_refl _) (by decide) q0 q1 q2 hl hh) (writes_none _))
      have HE := Lib.hid (fun (w' : World) (b : Nat) (hg : Gr w3 w') (q0 : w'.cell? ⟨b, 0, none⟩ = some (.string low)) (q1 : w'.cell? ⟨b, 1, none⟩ = some (.string high)) (q2 : w'.cell? ⟨b, 2, none⟩ = some (.bool u)) =>
        clash_any none (some ⟨b, 0, none⟩) o5 0 0 1 1 k c5 [] _ l w' (strs_nil _) (write_one (Nat.le_refl _) (by decide) q0 q1 q2 hl hh) (HL.out.keep hg))
      rw [clash_none] at HB
      rw [clash_own] at HC
      rw [clash_empty] at HD
      rw [clash_whole] at HA
      rcases Nat.eq_zero_or_pos k with h0 | h0
      · have hl0 : l = [] := List.length_eq_zero_iff.1 (by omega)
        rw [hl0, clash_empty] at HE
        rw [decide_eq_false (by omega)] at HA HC
        clear hl0 HL HK
        subst h0
        go_wp2_with fail
        have gA := (Gr.refl w3).alloc (.cells #[.string ⟨#[]⟩, .string ⟨#[]⟩, .bool true] 42)
        with_reducible refine (HA.out _ w3.heap.size gA (World.cell?_alloc_new w3 _ _ 0) (World.cell?_alloc_new w3 _ _ 1) (World.cell?_alloc_new w3 _ _ 2)).mono ?_
        rintro e w4 ⟨rfl, hg4⟩
        have hg34 := gA.trans hg4
        obtain ⟨b0, b1, b2⟩ := Hb.out w4 (hg13.trans hg34)
        clear gA hg4
        go_wp2_with fail
        with_reducible refine (HB.out _ hg34).mono ?_
        rintro e w5 ⟨rfl, hg5⟩
        have hg35 := hg34.trans hg5
        obtain ⟨b0, b1, b2⟩ := Hb.out w5 (hg13.trans hg35)
        clear hg34 hg5
        go_wp2_with fail
        with_reducible refine (HC.out _ hg35).mono ?_
        rintro e w6 ⟨rfl, hg6⟩
        have hg36 := hg35.trans hg6
        obtain ⟨b0, b1, b2⟩ := Hb.out w6 (hg13.trans hg36)
        clear hg35 hg6
        go_wp2_with fail
        have gB := (Gr.refl w6).alloc (.cells #[.string low, .string high, .bool u] 42)
        with_reducible refine (HD.out _ w6.heap.size (hg36.trans gB) (World.cell?_alloc_new w6 _ _ 0) (World.cell?_alloc_new w6 _ _ 1) (World.cell?_alloc_new w6 _ _ 2)).mono ?_
        rintro e w7 ⟨rfl, hg7⟩
        have hg37 := (hg36.trans gB).trans hg7
        obtain ⟨b0, b1, b2⟩ := Hb.out w7 (hg13.trans hg37)
        clear hg36 hg7 gB
        go_wp2_with fail
        have gC := (Gr.refl w7).alloc (.cells #[.string low, .string high, .bool u] 42)
        with_reducible refine (HE.out _ w7.heap.size (hg37.trans gC) (World.cell?_alloc_new w7 _ _ 0) (World.cell?_alloc_new w7 _ _ 1) (World.cell?_alloc_new w7 _ _ 2)).mono ?_
        rintro e w8 ⟨rfl, hg8⟩
        have hg38 := (hg37.trans gC).trans hg8
        have hgw8 := hgw3.trans hg38
        clear hg37 gC hg8 hg38
        go_wp2_with fail
        refine (awake_any _).mono ?_
        rintro e w9 ⟨rfl, hg9⟩
        go_wp2_with fail
        go_ret
        exact ⟨rfl, hgw8.trans (by (repeat (first | with_reducible exact Gr.refl _ | with_reducible refine Gr.drewN ?_ _ | with_reducible refine Gr.drew ?_ | with_reducible refine Gr.alloc ?_ _ | with_reducible refine Gr.setCell ?_ ?_ _ | (with_reducible refine Gr.trans ?_ (by assumption)) | omega | (dsimp only; omega))))⟩
      · rw [decide_eq_true (by omega)] at HA HC
        have hnp : decide ((0 : Int) < (k : Int)) = true := by simp; omega
        generalize clash [] [⟨low, high, u⟩] l = X at *
        clear HL HK
        cases X
        all_goals
          go_wp2_with fail
          have gA := (Gr.refl w3).alloc (.cells #[.string ⟨#[]⟩, .string ⟨#[]⟩, .bool true] 42)
          with_reducible refine (HA.out _ w3.heap.size gA (World.cell?_alloc_new w3 _ _ 0) (World.cell?_alloc_new w3 _ _ 1) (World.cell?_alloc_new w3 _ _ 2)).mono ?_
          rintro e w4 ⟨rfl, hg4⟩
          have hg34 := gA.trans hg4
          obtain ⟨b0, b1, b2⟩ := Hb.out w4 (hg13.trans hg34)
          clear gA hg4
          go_wp2_with fail
          with_reducible refine (HB.out _ hg34).mono ?_
          rintro e w5 ⟨rfl, hg5⟩
          have hg35 := hg34.trans hg5
          obtain ⟨b0, b1, b2⟩ := Hb.out w5 (hg13.trans hg35)
          clear hg34 hg5
          go_wp2_with fail
          with_reducible refine (HC.out _ hg35).mono ?_
          rintro e w6 ⟨rfl, hg6⟩
          have hg36 := hg35.trans hg6
          obtain ⟨b0, b1, b2⟩ := Hb.out w6 (hg13.trans hg36)
          clear hg35 hg6
          go_wp2_with fail
          have gB := (Gr.refl w6).alloc (.cells #[.string low, .string high, .bool u] 42)
          with_reducible refine (HD.out _ w6.heap.size (hg36.trans gB) (World.cell?_alloc_new w6 _ _ 0) (World.cell?_alloc_new w6 _ _ 1) (World.cell?_alloc_new w6 _ _ 2)).mono ?_
          rintro e w7 ⟨rfl, hg7⟩
          have hg37 := (hg36.trans gB).trans hg7
          obtain ⟨b0, b1, b2⟩ := Hb.out w7 (hg13.trans hg37)
          clear hg36 hg7 gB
          go_wp2_with fail
          have gC := (Gr.refl w7).alloc (.cells #[.string low, .string high, .bool u] 42)
          with_reducible refine (HE.out _ w7.heap.size (hg37.trans gC) (World.cell?_alloc_new w7 _ _ 0) (World.cell?_alloc_new w7 _ _ 1) (World.cell?_alloc_new w7 _ _ 2)).mono ?_
          rintro e w8 ⟨rfl, hg8⟩
          have hg38 := (hg37.trans gC).trans hg8
          have hgw8 := hgw3.trans hg38
          clear hg37 gC hg8 hg38
          go_wp2_with fail
          refine (awake_any _).mono ?_
          rintro e w9 ⟨rfl, hg9⟩
          go_wp2_with fail
          go_ret
          exact ⟨rfl, hgw8.trans (by (repeat (first | with_reducible exact Gr.refl _ | with_reducible refine Gr.drewN ?_ _ | with_reducible refine Gr.drew ?_ | with_reducible refine Gr.alloc ?_ _ | with_reducible refine Gr.setCell ?_ ?_ _ | (with_reducible refine Gr.trans ?_ (by assumption)) | omega | (dsimp only; omega))))⟩

theorem clear_walk (oa : Option Addr) (n cap : Nat) (l : List Wt) (low high : ByteArray) (u : Bool) (w : World) (h : WritesAt w oa n cap l) (hl : low.size ≤ maxLen) (hh : high.size ≤ maxLen) :
    Calls Try.prog 5 #[.slice oa n cap, .agg #[.string low, .string high, .bool u]] w fun e w' => e = .returned (.bool true) ∧ Gr w w' := by
  by_cases h1 : low.size ≤ 100
  · by_cases h2 : high.size ≤ 100
    · exact clear_main oa n cap l low high u w h hl hh h1 h2
    · exact clear_skip oa n cap l low high u w h hl hh (.inr ⟨h1, by omega⟩)
  · exact clear_skip oa n cap l low high u w h hl hh (.inl (by omega))
end Go.Proofs.Ytfejdbcfcpmdiaa
