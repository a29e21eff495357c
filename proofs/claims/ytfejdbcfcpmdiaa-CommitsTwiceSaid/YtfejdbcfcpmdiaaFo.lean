import Derived.Test.YtfejdbcfcpmdiaaPl
import Derived.Test.YtfejdbcfcpmdiaaFw
import Derived.Test.YtfejdbcfcpmdiaaRf
import Derived.Test.YtfejdbcfcpmdiaaFe
import Derived.Laws.ResultCell
namespace Go.Proofs.Ytfejdbcfcpmdiaa
set_option linter.unusedVariables false
set_option linter.unusedSimpArgs false
open Go.BigFrame Go.RowKit Go.WideShapes

set_option maxRecDepth 100000 in
set_option maxHeartbeats 4000000 in
theorem refOver_any (oa : Option Addr) (n cap : Nat) (l : List Rw) (ob : Option Addr) (m cap2 : Nat) (p : List Wt) (w : World) (h : RowsAt w oa n cap l) (h2 : WritesAt w ob m cap2 p) (hn : n ≤ 1000) (hm : m ≤ 1000) :
    Calls Try.prog 16 #[.slice oa n cap, .slice ob m cap2] w fun e w' => ∃ o q c, e = .returned (.slice o q c) ∧ RowsAt w' o q c (overL l p) ∧ Gr w w' := by
  have H := Lib.hid h
  clear h
  obtain ⟨b2, off2, ho2, hc2⟩ := h2.cells
  have Hc2 := Lib.hid hc2
  have Ho2 := Lib.hid (fun q => (ho2 q).1)
  have H2 := Lib.hid h2
  have hn2 := h2.cap_le
  have hm2 := h2.cap_max
  unfold maxLen at hm2
  clear hc2 ho2 h2
  go_enter Try.func16, Try.ntmps16
  go_wp2_with fail
  go_loopw [0, 5] (fun s i wr => ∃ (k : Nat) (o : Option Addr) (q c : Nat), k ≤ m ∧ i = .int .i64 k ∧ s = .slice o q c ∧ Hid (RowsAt wr o q c (overL l (p.take k))) ∧ Gr w wr) (fun _ i _ => m - (intOf i).toNat)
  case atStart => exact ⟨0, oa, n, cap, Nat.zero_le _, rfl, rfl, H, Gr.refl _⟩
  case round =>
    obtain ⟨k, o, q, c, hk, rfl, rfl, hR, hg⟩ := hrel
    by_cases hlt : k < m
    · obtain ⟨a1, a2, a3⟩ := Hc2.out k hlt
      have a1 := hg.keep a1
      have a2 := hg.keep a2
      have a3 := hg.keep a3
      have hI := run_rwr cap2 Ho2.out hlt
      have hkl : k < p.length := by rw [H2.out.len]; exact hlt
      have hs1 := (H2.out.sizes k hlt).1
      have hs2 := (H2.out.sizes k hlt).2
      have hst := overL_take (l := l) hkl
      have hql : q ≤ 2000 := by
        have h1 := hR.out.len
        have h2 := overL_length l (p.take k)
        have h3 := H.out.len
        rw [List.length_take] at h2
        omega
      cases hgone : (wAt p k).gone
      · rw [hgone] at a3
        cases hf : fitsB ⟨(wAt p k).key, (wAt p k).val⟩
        · have e : stepL (overL l (p.take k)) (wAt p k) = overL l (p.take k) := by unfold stepL; rw [hgone, hf]; rfl
          rw [e] at hst
          have hF := Lib.hid (fun w => refFits_any (wAt p k).key (wAt p k).val w hs1 hs2)
          rw [hf] at hF
          have v1 := After.cell a1
          have v2 := After.cell a2
          have Hst := Lib.hid hst
          clear hst e hf hgone
          go_wp2_with fail
          refine wp_region_after (by kernel_rfl) (by kernel_rfl) ?_
          repeat (go_big_quiet_step ((go_at_call 37; (with_reducible exact after_gr (hF.out _)))))
          refine wpQuiet_nil ?_
          rintro _ ⟨⟨w1, hg1⟩, rfl⟩
          go_wp2_with fail
          go_roundw
          case rel => exact ⟨k + 1, o, q, c, by omega, by go_num, rfl, Lib.hid (by rw [Hst.out]; exact hR.out.keep (by repeat (first | with_reducible exact Gr.refl _ | with_reducible refine Gr.drewN ?_ _ | with_reducible refine Gr.drew ?_ | with_reducible refine Gr.alloc ?_ _ | with_reducible refine Gr.setCell ?_ ?_ _ | (with_reducible refine Gr.trans ?_ (by assumption)) | omega | (dsimp only; omega)))), hg.trans (by (repeat (first | with_reducible exact Gr.refl _ | with_reducible refine Gr.drewN ?_ _ | with_reducible refine Gr.drew ?_ | with_reducible refine Gr.alloc ?_ _ | with_reducible refine Gr.setCell ?_ ?_ _ | (with_reducible refine Gr.trans ?_ (by assumption)) | omega | (dsimp only; omega))))⟩
          case measure => simp [intOf]; omega
        · have e : stepL (overL l (p.take k)) (wAt p k) = putL (overL l (p.take k)) ⟨(wAt p k).key, (wAt p k).val⟩ := by unfold stepL; rw [hgone, hf]; rfl
          rw [e] at hst
          have hF := Lib.hid (fun w => refFits_any (wAt p k).key (wAt p k).val w hs1 hs2)
          rw [hf] at hF
          have v1 := After.cell a1
          have v2 := After.cell a2
          have Hst := Lib.hid hst
          clear hst e hf hgone
          go_wp2_with fail
          refine wp_region_after (by kernel_rfl) (by kernel_rfl) ?_
          repeat (go_big_quiet_step ((go_at_call 37; (with_reducible exact after_gr (hF.out _)))))
          refine wpQuiet_nil ?_
          rintro _ ⟨⟨w1, hg1⟩, rfl⟩
          clear v1 v2
          have q1 := hg1.keep a1
          have q2 := hg1.keep a2
          have HP := Lib.hid (fun w2 (hq : Gr wr w2) => refPut_any o q c _ (wAt p k).key (wAt p k).val w2 (hR.out.keep hq) (by omega) hs1 hs2)
          go_wp2_with fail
          go_region_with (go_at_call 40; ((with_reducible refine Calls.mono (HP.out _ ?_) ?_); (focus ((repeat (first | with_reducible exact Gr.refl _ | with_reducible refine Gr.drewN ?_ _ | with_reducible refine Gr.drew ?_ | with_reducible refine Gr.alloc ?_ _ | with_reducible refine Gr.setCell ?_ ?_ _ | (with_reducible refine Gr.trans ?_ (by assumption)) | omega | (dsimp only; omega))); done))); rintro e w5 ⟨o5, m5, c5, rfl, hr5, hg5⟩)
          all_goals
            have hR5 := Lib.hid hr5
            have hg15 := hg.trans (show Gr wr w5 from Gr.trans (by (repeat (first | with_reducible exact Gr.refl _ | with_reducible refine Gr.drewN ?_ _ | with_reducible refine Gr.drew ?_ | with_reducible refine Gr.alloc ?_ _ | with_reducible refine Gr.setCell ?_ ?_ _ | (with_reducible refine Gr.trans ?_ (by assumption)) | omega | (dsimp only; omega)))) hg5)
            clear hr5 hg5 HP
            go_wp2_with fail
            go_roundw
            case rel => exact ⟨k + 1, o5, m5, c5, by omega, by go_num, rfl, Lib.hid (by rw [Hst.out]; exact hR5.out), hg15⟩
            case measure => simp [intOf]; omega
      · rw [hgone] at a3
        have e : stepL (overL l (p.take k)) (wAt p k) = dropL (overL l (p.take k)) (wAt p k).key := by unfold stepL; rw [hgone]; rfl
        rw [e] at hst
        have Hst := Lib.hid hst
        clear hst e hgone
        have HD := Lib.hid (fun w2 (hq : Gr wr w2) => refDrop_any o q c _ (wAt p k).key w2 (hR.out.keep hq) (by omega) hs1)
        go_wp2_with fail
        refine (HD.out _ (by repeat (first | with_reducible exact Gr.refl _ | with_reducible refine Gr.drewN ?_ _ | with_reducible refine Gr.drew ?_ | with_reducible refine Gr.alloc ?_ _ | with_reducible refine Gr.setCell ?_ ?_ _ | (with_reducible refine Gr.trans ?_ (by assumption)) | omega | (dsimp only; omega)))).mono ?_
        rintro e w5 ⟨o5, m5, c5, rfl, hr5, hg5⟩
        have hR5 := Lib.hid hr5
        have hg15 := hg.trans (show Gr wr w5 from Gr.trans (by (repeat (first | with_reducible exact Gr.refl _ | with_reducible refine Gr.drewN ?_ _ | with_reducible refine Gr.drew ?_ | with_reducible refine Gr.alloc ?_ _ | with_reducible refine Gr.setCell ?_ ?_ _ | (with_reducible refine Gr.trans ?_ (by assumption)) | omega | (dsimp only; omega)))) hg5)
        clear hr5 hg5 HD
        go_wp2_with fail
        go_roundw
        case rel => exact ⟨k + 1, o5, m5, c5, by omega, by go_num, rfl, Lib.hid (by rw [Hst.out]; exact hR5.out), hg15⟩
        case measure => simp [intOf]; omega
    · obtain rfl : k = m := by omega
      rw [show p.take k = p from List.take_of_length_le (by rw [H2.out.len]; exact Nat.le_refl _)] at hR
      go_wp2_with fail
      go_ret
      exact ⟨o, q, c, rfl, hR.out, hg⟩

theorem wlook_hit {key : ByteArray} {p : List Wt} {j : Nat} (hj : j < p.length) (h : ∀ q, q < j → (wAt p q).key ≠ key) (e : (wAt p j).key = key) : wlook key p = some (wAt p j) := by
  unfold wlook
  rw [List.find?_eq_some_iff_getElem]
  refine ⟨by rw [decide_eq_true_iff]; exact e, j, hj, (wAt_lt hj).symm, fun q hq => ?_⟩
  have := h q hq
  rw [wAt_lt (by omega)] at this
  simp [this]
theorem wlook_no {key : ByteArray} {p : List Wt} (h : ∀ q, q < p.length → (wAt p q).key ≠ key) : wlook key p = none := by
  unfold wlook
  rw [List.find?_eq_none]
  intro r hr c
  obtain ⟨i, hi, rfl⟩ := List.getElem_of_mem hr
  rw [decide_eq_true_iff] at c
  exact h i hi (by rw [wAt_lt hi]; exact c)
/-- what Find tells -/
def findV (key : ByteArray) (a b : List Wt) : Value :=
  match wlook key b with
  | some r => .tuple #[.agg #[.string r.key, .string r.val, .bool r.gone], .bool true]
  | none => match wlook key a with
    | some r => .tuple #[.agg #[.string r.key, .string r.val, .bool r.gone], .bool true]
    | none => .tuple #[.agg #[.string ⟨#[]⟩, .string ⟨#[]⟩, .bool false], .bool false]

set_option maxRecDepth 100000 in
set_option maxHeartbeats 8000000 in
/-- two slices of writes in a block -/
theorem find2 (key : ByteArray) (bp : Nat) (oa ob : Option Addr) (n cap m cap2 : Nat) (a b : List Wt) (w : World) (h0 : w.cell? ⟨bp, 0, none⟩ = some (.slice oa n cap)) (h1 : w.cell? ⟨bp, 1, none⟩ = some (.slice ob m cap2))
    (ha : WritesAt w oa n cap a) (hb : WritesAt w ob m cap2 b) :
    Calls Try.prog 14 #[.string key, .slice (some ⟨bp, 0, none⟩) 2 2] w fun e w' => e = .returned (findV key a b) ∧ Gr w w' := by
  obtain ⟨b3, off3, ho3, hc3⟩ := ha.cells
  have Hc3 := Lib.hid hc3
  have Ho3 := Lib.hid (fun q => (ho3 q).1)
  have H3 := Lib.hid ha
  have hn3 := ha.cap_le
  have hm3 := ha.cap_max
  unfold maxLen at hm3
  clear hc3 ho3 ha
  obtain ⟨b4, off4, ho4, hc4⟩ := hb.cells
  have Hc4 := Lib.hid hc4
  have Ho4 := Lib.hid (fun q => (ho4 q).1)
  have H4 := Lib.hid hb
  have hn4 := hb.cap_le
  have hm4 := hb.cap_max
  unfold maxLen at hm4
  clear hc4 ho4 hb
  go_enter Try.func14, Try.ntmps14
  have g0 := ((Gr.refl w).alloc (.cells #[.string ⟨#[]⟩, .string ⟨#[]⟩, .bool false] 28)).keep h0
  have g1 := ((Gr.refl w).alloc (.cells #[.string ⟨#[]⟩, .string ⟨#[]⟩, .bool false] 28)).keep h1
  have z0 : (w.alloc (.cells #[.string ⟨#[]⟩, .string ⟨#[]⟩, .bool false] 28)).cell? ⟨w.heap.size, 0, none⟩ = some (.string ⟨#[]⟩) := World.cell?_alloc_new w _ _ 0
  have z1 : (w.alloc (.cells #[.string ⟨#[]⟩, .string ⟨#[]⟩, .bool false] 28)).cell? ⟨w.heap.size, 1, none⟩ = some (.string ⟨#[]⟩) := World.cell?_alloc_new w _ _ 1
  have z2 : (w.alloc (.cells #[.string ⟨#[]⟩, .string ⟨#[]⟩, .bool false] 28)).cell? ⟨w.heap.size, 2, none⟩ = some (.bool false) := World.cell?_alloc_new w _ _ 2
  have zf : ∀ o, (w.alloc (.cells #[.string ⟨#[]⟩, .string ⟨#[]⟩, .bool false] 28)).frozen? ⟨w.heap.size, o, none⟩ = false := fun o => by simp [go_sem]
  have hsz : w.heap.size < (w.alloc (.cells #[.string ⟨#[]⟩, .string ⟨#[]⟩, .bool false] 28)).heap.size := by show w.heap.size < (w.heap.push _).size; simp
  go_wp2_with fail
  have hgW : Gr w (w.alloc (.cells #[.string ⟨#[]⟩, .string ⟨#[]⟩, .bool false] 28)) := (Gr.refl w).alloc _
  generalize w.alloc (.cells #[.string ⟨#[]⟩, .string ⟨#[]⟩, .bool false] 28) = W at *
  go_loopw [6] (fun i wr => ((i = .int .i64 1) ∨ (i = .int .i64 0 ∧ wlook key b = none) ∨ (i = .int .i64 (-1) ∧ wlook key b = none ∧ wlook key a = none)) ∧ Gr W wr) (fun i _ => (intOf i + 1).toNat)
  case atStart => exact ⟨.inl rfl, Gr.refl _⟩
  case round =>
    obtain ⟨hi, hg⟩ := hrel
    have hgw : Gr w wr := hgW.trans hg
    have g0 := hg.keep g0
    have g1 := hg.keep g1
    have z0 := hg.keep z0
    have z1 := hg.keep z1
    have z2 := hg.keep z2
    have zf := fun o => (hg.frozen (o := o) hsz).trans (zf o)
    have hsz : w.heap.size < wr.heap.size := Nat.lt_of_lt_of_le hsz hg.le
    rcases hi with rfl | ⟨rfl, hb0⟩ | ⟨rfl, hb0, ha0⟩
    · go_wp2_with fail
      go_loopw [21] (fun i wj => ∃ j : Nat, j ≤ m ∧ i = .int .i64 j ∧ Hid (∀ q, q < j → (wAt b q).key ≠ key) ∧ Gr wr wj) (fun i _ => m - (intOf i).toNat)
      case atStart => exact ⟨0, Nat.zero_le _, rfl, Lib.hid fun j hj => by omega, Gr.refl _⟩
      case round =>
        obtain ⟨j, hj, rfl, hq, hgj⟩ := hrel
        have hgwj := hgw.trans hgj
        have z0 := hgj.keep z0
        have z1 := hgj.keep z1
        have z2 := hgj.keep z2
        have zf := fun o => (hgj.frozen (o := o) hsz).trans (zf o)
        have hszj := Nat.lt_of_lt_of_le hsz hgj.le
        by_cases hjl : j < m
        · obtain ⟨a1, a2, a3⟩ := Hc4.out j hjl
          have a1 := hgwj.keep a1
          have a2 := hgwj.keep a2
          have a3 := hgwj.keep a3
          have hI := run_wr cap2 Ho4.out hjl
          have hjL : j < b.length := by rw [H4.out.len]; exact hjl
          by_cases he : (wAt b j).key = key
          · have Hhit := Lib.hid (wlook_hit hjL hq.out he)
            have hf := eqW he
            clear he
            have gx := (Gr.refl wr).alloc (.cells #[.string (wAt b j).key, .string (wAt b j).val, .bool (wAt b j).gone] 28)
            have y0 := gx.keep z0
            have y1 := gx.keep z1
            have y2 := gx.keep z2
            have f0 := (gx.frozen (o := 0) hszj).trans (zf 0)
            have f1 := (gx.frozen (o := 1) hszj).trans (zf 1)
            have f2 := (gx.frozen (o := 2) hszj).trans (zf 2)
            clear gx
            go_wp2_with fail
            refine bodyPost_ret (v := .tuple #[.agg #[.string (wAt b j).key, .string (wAt b j).val, .bool (wAt b j).gone], .bool true]) (by rw [results_cell_tmp rfl]; go_simp) rfl ?_
            exact ⟨by unfold findV; rw [Hhit.out], by repeat (first | with_reducible exact Gr.refl _ | with_reducible refine Gr.drewN ?_ _ | with_reducible refine Gr.drew ?_ | with_reducible refine Gr.alloc ?_ _ | with_reducible refine Gr.setCell ?_ ?_ _ | (with_reducible refine Gr.trans ?_ (by assumption)) | omega | (dsimp only; omega))⟩
          · have hf := neW he
            have He := Lib.hid he
            clear he
            go_wp2_with fail
            go_roundw
            case rel => exact ⟨j + 1, by omega, by go_num, Lib.hid fun q hq2 => by
              rcases Nat.lt_or_ge q j with r | r
              · exact hq.out q r
              · obtain rfl : q = j := by omega
                exact He.out, hgj.trans (by (repeat (first | with_reducible exact Gr.refl _ | with_reducible refine Gr.drewN ?_ _ | with_reducible refine Gr.drew ?_ | with_reducible refine Gr.alloc ?_ _ | with_reducible refine Gr.setCell ?_ ?_ _ | (with_reducible refine Gr.trans ?_ (by assumption)) | omega | (dsimp only; omega))))⟩
            case measure => simp [intOf]; omega
        · obtain rfl : j = m := by omega
          have Hno := Lib.hid (wlook_no (key := key) (p := b) fun q hq2 => hq.out q (by rw [H4.out.len] at hq2; exact hq2))
          clear hq
          go_wp2_with fail
          go_roundw
          case rel => exact ⟨.inr (.inl ⟨by go_num, Hno.out⟩), hg.trans hgj⟩
          case measure => simp [intOf]
    · go_wp2_with fail
      go_loopw [21] (fun i wj => ∃ j : Nat, j ≤ n ∧ i = .int .i64 j ∧ Hid (∀ q, q < j → (wAt a q).key ≠ key) ∧ Gr wr wj) (fun i _ => n - (intOf i).toNat)
      case atStart => exact ⟨0, Nat.zero_le _, rfl, Lib.hid fun j hj => by omega, Gr.refl _⟩
      case round =>
        obtain ⟨j, hj, rfl, hq, hgj⟩ := hrel
        have hgwj := hgw.trans hgj
        have z0 := hgj.keep z0
        have z1 := hgj.keep z1
        have z2 := hgj.keep z2
        have zf := fun o => (hgj.frozen (o := o) hsz).trans (zf o)
        have hszj := Nat.lt_of_lt_of_le hsz hgj.le
        by_cases hjl : j < n
        · obtain ⟨a1, a2, a3⟩ := Hc3.out j hjl
          have a1 := hgwj.keep a1
          have a2 := hgwj.keep a2
          have a3 := hgwj.keep a3
          have hI := run_wr cap Ho3.out hjl
          have hjL : j < a.length := by rw [H3.out.len]; exact hjl
          by_cases he : (wAt a j).key = key
          · have Hhit := Lib.hid (wlook_hit hjL hq.out he)
            have hf := eqW he
            clear he
            have gx := (Gr.refl wr).alloc (.cells #[.string (wAt a j).key, .string (wAt a j).val, .bool (wAt a j).gone] 28)
            have y0 := gx.keep z0
            have y1 := gx.keep z1
            have y2 := gx.keep z2
            have f0 := (gx.frozen (o := 0) hszj).trans (zf 0)
            have f1 := (gx.frozen (o := 1) hszj).trans (zf 1)
            have f2 := (gx.frozen (o := 2) hszj).trans (zf 2)
            clear gx
            go_wp2_with fail
            refine bodyPost_ret (v := .tuple #[.agg #[.string (wAt a j).key, .string (wAt a j).val, .bool (wAt a j).gone], .bool true]) (by rw [results_cell_tmp rfl]; go_simp) rfl ?_
            exact ⟨by unfold findV; rw [hb0, Hhit.out], by repeat (first | with_reducible exact Gr.refl _ | with_reducible refine Gr.drewN ?_ _ | with_reducible refine Gr.drew ?_ | with_reducible refine Gr.alloc ?_ _ | with_reducible refine Gr.setCell ?_ ?_ _ | (with_reducible refine Gr.trans ?_ (by assumption)) | omega | (dsimp only; omega))⟩
          · have hf := neW he
            have He := Lib.hid he
            clear he
            go_wp2_with fail
            go_roundw
            case rel => exact ⟨j + 1, by omega, by go_num, Lib.hid fun q hq2 => by
              rcases Nat.lt_or_ge q j with r | r
              · exact hq.out q r
              · obtain rfl : q = j := by omega
                exact He.out, hgj.trans (by (repeat (first | with_reducible exact Gr.refl _ | with_reducible refine Gr.drewN ?_ _ | with_reducible refine Gr.drew ?_ | with_reducible refine Gr.alloc ?_ _ | with_reducible refine Gr.setCell ?_ ?_ _ | (with_reducible refine Gr.trans ?_ (by assumption)) | omega | (dsimp only; omega))))⟩
            case measure => simp [intOf]; omega
        · obtain rfl : j = n := by omega
          have Hno := Lib.hid (wlook_no (key := key) (p := a) fun q hq2 => hq.out q (by rw [H3.out.len] at hq2; exact hq2))
          clear hq
          go_wp2_with fail
          go_roundw
          case rel => exact ⟨.inr (.inr ⟨by go_num, hb0, Hno.out⟩), hg.trans hgj⟩
          case measure => simp [intOf]
    · have f0 := zf 0
      have f1 := zf 1
      have f2 := zf 2
      have hV : findV key a b = .tuple #[.agg #[.string ⟨#[]⟩, .string ⟨#[]⟩, .bool false], .bool false] := by unfold findV; rw [hb0, ha0]
      have HV := Lib.hid hV
      clear hV
      go_wp2_with fail
      refine bodyPost_ret (v := .tuple #[.agg #[.string ⟨#[]⟩, .string ⟨#[]⟩, .bool false], .bool false]) (by rw [results_cell_tmp rfl]; go_simp) rfl ?_
      exact ⟨by rw [HV.out], by repeat (first | with_reducible exact Gr.refl _ | with_reducible refine Gr.drewN ?_ _ | with_reducible refine Gr.drew ?_ | with_reducible refine Gr.alloc ?_ _ | with_reducible refine Gr.setCell ?_ ?_ _ | (with_reducible refine Gr.trans ?_ (by assumption)) | omega | (dsimp only; omega))⟩
end Go.Proofs.Ytfejdbcfcpmdiaa
