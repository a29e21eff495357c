import Derived.Test.YtfejdbcfcpmdiaaDoorCrz
namespace Go.Proofs.YtfejdbcfcpmdiaaDoor
set_option linter.unusedVariables false
set_option linter.unusedSimpArgs false
open Go.BigFrame Go.RowKit Go.WideShapes

/-! The document's table: what is read of it. -/
theorem BoE_get {w : World} {oa : Option Addr} {n cap : Nat} {l : List Bool} (h : SlE BoE 1 w oa n cap l) : ∃ g off, (0 < n → oa = some ⟨g, off, none⟩) ∧ ∀ (i : Nat) (b : Bool), l[i]? = some b → w.cell? ⟨g, off + i, none⟩ = some (.bool b) := by
  obtain ⟨g, off, h1, h2⟩ := h.cells
  refine ⟨g, off, fun q => (h1 q).1, fun i b hi => ?_⟩
  obtain ⟨vs, -, -, e, h5⟩ := h2 i b hi
  have e : vs = [.bool b] := e
  subst e
  simpa using h5 0 _ rfl
theorem InE_get {w : World} {oa : Option Addr} {n cap : Nat} {l : List Int} (h : SlE InE 1 w oa n cap l) : ∃ g off, (0 < n → oa = some ⟨g, off, none⟩) ∧ ∀ (i : Nat) (b : Int), l[i]? = some b → w.cell? ⟨g, off + i, none⟩ = some (.int .i64 b) := by
  obtain ⟨g, off, h1, h2⟩ := h.cells
  refine ⟨g, off, fun q => (h1 q).1, fun i b hi => ?_⟩
  obtain ⟨vs, -, -, e, h5⟩ := h2 i b hi
  have e : vs = [.int .i64 b] := e
  subst e
  simpa using h5 0 _ rfl
theorem WsI_get {W w : World} {oa : Option Addr} {n cap : Nat} {l : List (List Wt)} (h : SlE (WsI W) 1 w oa n cap l) : ∃ g off, (0 < n → oa = some ⟨g, off, none⟩) ∧ ∀ (i : Nat) (b : List Wt), l[i]? = some b → ∃ o m c, w.cell? ⟨g, off + i, none⟩ = some (.slice o m c) ∧ WritesAt W o m c b := by
  obtain ⟨g, off, h1, h2⟩ := h.cells
  refine ⟨g, off, fun q => (h1 q).1, fun i b hi => ?_⟩
  obtain ⟨vs, -, -, ⟨o, m, c, rfl, h4⟩, h5⟩ := h2 i b hi
  exact ⟨o, m, c, by simpa using h5 0 _ rfl, h4⟩
section
variable {oa : Option Addr} {n b off : Nat} (cap : Nat) (ho : 0 < n → oa = some ⟨b, off, none⟩) (w : World)
include ho
theorem run_bo {k : Nat} (hk : k < n) : (Instr.indexAt 28 (.slice oa n cap) (.int .i64 (k : Int))).run Tryd.prog w = .ok (.pointer (some ⟨b, off + k, none⟩)) w := by
  rw [ho (by omega)]
  go_simp
theorem run_boI {k : Int} (h0 : 0 ≤ k) (hk : k < n) : (Instr.indexAt 28 (.slice oa n cap) (.int .i64 k)).run Tryd.prog w = .ok (.pointer (some ⟨b, off + k.toNat, none⟩)) w := by
  obtain ⟨m, rfl⟩ := Int.eq_ofNat_of_zero_le h0
  exact run_bo cap ho w (by omega)
theorem run_in {k : Nat} (hk : k < n) : (Instr.indexAt 29 (.slice oa n cap) (.int .i64 (k : Int))).run Tryd.prog w = .ok (.pointer (some ⟨b, off + k, none⟩)) w := by
  rw [ho (by omega)]
  go_simp
theorem run_wss {k : Nat} (hk : k < n) : (Instr.indexAt 27 (.slice oa n cap) (.int .i64 (k : Int))).run Tryd.prog w = .ok (.pointer (some ⟨b, off + k, none⟩)) w := by
  rw [ho (by omega)]
  go_simp
theorem run_wssI {k : Int} (h0 : 0 ≤ k) (hk : k < n) : (Instr.indexAt 27 (.slice oa n cap) (.int .i64 k)).run Tryd.prog w = .ok (.pointer (some ⟨b, off + k.toNat, none⟩)) w := by
  obtain ⟨m, rfl⟩ := Int.eq_ofNat_of_zero_le h0
  exact run_wss cap ho w (by omega)
end
section
variable {S : List Nat} {W w : World} {T : Ct} {p : Rp}
set_option maxRecDepth 100000 in
set_option maxHeartbeats 2000000 in
theorem refMarked_r (hR : RefV S W w T p) (hO : CtOk T) (th : Int) : Calls Tryd.prog 27 #[.agg (refL T p).toArray, .int .i64 th] w fun e w' => e = .returned (.tuple #[.int .i64 (mdN T th), .int .i64 (mkE T th)]) ∧ Gr w w' := by
  have hB := (Bx.new w (refL T p).toArray 31 rfl).of (us := refL T p) (by simp)
  have hg0 : Gr w (w.alloc (.cells (refL T p).toArray 31)) := (Gr.refl w).alloc _
  cases hi : isT T th
  · have hI := refIs_at (p := p) hO.mk2 hi
    have e1 : mdN T th = -1 := by unfold mdN; rw [if_neg (by rw [hi]; decide)]
    have e2 : mkE T th = 1 := by unfold mkE; rw [if_neg (by rw [hi]; decide)]
    rw [e1, e2]
    clear hO hi e1 e2 hR
    go_enter Tryd.func27, Tryd.ntmps27
    go_wp2_with (first | ((with_reducible refine wpList_load_box (ty := 31) (hB) ?_ ?_ Tryd.underlying31 ?_ ?_ ?_); (focus (exact rfl)); (focus (exact ⟨_, rfl, rfl⟩)); (focus (exact rfl)); (focus kernel_rfl)) | (go_at_call 42; (with_reducible refine (hI _).mono ?_); rintro e w1 ⟨rfl, hg1⟩))
    go_ret2
    exact ⟨rfl, hg0.trans hg1⟩
  · have hI := refIs_at (p := p) hO.mk2 hi
    obtain ⟨i, rfl, hil⟩ := isT_nat hi
    have e2 : mkE T i = 0 := by unfold mkE; rw [if_pos hi]
    have hg : T.marks[i]? = some (T.marks[i]) := List.getElem?_eq_getElem hil
    have e1 : mdN T i = T.marks[i] := by rw [mdN_in hi, List.getD_eq_getElem?_getD, hg]; rfl
    rw [e1, e2]
    obtain ⟨g, off, ho, hc⟩ := InE_get hR.wM
    have hx := hc i _ hg
    have hcl := hR.wM.cap_le
    have hcm := hR.wM.cap_max
    have hIx := fun w => run_in p.cM ho w (k := i) hil
    clear hO hi e1 e2 hR hg hc
    generalize T.marks[i] = x at *
    go_enter Tryd.func27, Tryd.ntmps27
    go_wp2_with (first | ((with_reducible refine wpList_load_box (ty := 31) (hB) ?_ ?_ Tryd.underlying31 ?_ ?_ ?_); (focus (exact rfl)); (focus (exact ⟨_, rfl, rfl⟩)); (focus (exact rfl)); (focus kernel_rfl)) | (go_at_call 42; (with_reducible refine (hI _).mono ?_); rintro e w1 ⟨rfl, hg1⟩; (have hgw := hg0.trans hg1); (have d4 := (hB.keep hg1).cell 4 rfl); have hx := hgw.keep hx))
    go_ret2
    exact ⟨rfl, hgw⟩
/-- what the document's At hands back -/
def RAt (W : World) (T : Ct) (n : Int) (w : World) (e : Ending) (w' : World) : Prop := ∃ o m c, e = .returned (.tuple #[.slice o m c, .int .i64 (atE T n)]) ∧ WritesAt W o m c (atL T n) ∧ Gr w w'
theorem writes_none (W : World) : WritesAt W none 0 0 [] := (ownW_nil W 0).rows
set_option maxRecDepth 100000 in
set_option maxHeartbeats 2000000 in
theorem refAt_r (hR : RefV S W w T p) (hO : CtOk T) (n : Int) : Calls Tryd.prog 22 #[.agg (refL T p).toArray, .int .i64 n] w (RAt W T n w) := by
  have hB := (Bx.new w (refL T p).toArray 31 rfl).of (us := refL T p) (by simp)
  have hg0 : Gr w (w.alloc (.cells (refL T p).toArray 31)) := (Gr.refl w).alloc _
  have d2 := hB.cell 2 rfl
  have d3 := hB.cell 3 rfl
  have h2 := hO.cap
  have h3 := hO.lim
  by_cases h0 : n < 1 ∨ (T.all.length : Int) < n
  · have e1 : atE T n = 1 := by unfold atE; rw [if_pos h0]
    have e2 : atL T n = [] := by unfold atL; rw [if_neg (by rw [e1]; decide)]
    unfold RAt
    rw [e1, e2]
    have HN := Lib.hid (writes_none W)
    clear hR hO e1 e2 hB d3
    by_cases h5 : n < 1
    · have hd : decide (n < 1) = true := by simpa using h5
      clear h0
      go_enter Tryd.func22, Tryd.ntmps22
      go_wp2_with fail
      go_ret2
      exact ⟨none, 0, 0, rfl, HN.out, hg0⟩
    · have hd : decide (n < 1) = false := by simpa using h5
      have hd2 : decide ((T.all.length : Int) < n) = true := by simp; omega
      clear h0
      go_enter Tryd.func22, Tryd.ntmps22
      go_wp2_with fail
      go_ret2
      exact ⟨none, 0, 0, rfl, HN.out, hg0⟩
  · have h1 : 1 ≤ n := by omega
    have h4 : n ≤ (T.all.length : Int) := by omega
    have hd : decide (n < 1) = false := by simp; omega
    have hd2 : decide ((T.all.length : Int) < n) = false := by simp; omega
    obtain ⟨i, hi⟩ : ∃ i : Nat, n - 1 = (i : Int) := ⟨(n - 1).toNat, by omega⟩
    have hin : (n - 1).toNat = i := by omega
    have hil : i < T.all.length := by omega
    have hdl : i < T.drp.length := by rw [hO.len]; exact hil
    have hgd : T.drp[i]? = some T.drp[i] := List.getElem?_eq_getElem hdl
    have hga : T.all[i]? = some T.all[i] := List.getElem?_eq_getElem hil
    obtain ⟨g, off, ho, hc⟩ := BoE_get hR.wD
    obtain ⟨g2, off2, ho2, hc2⟩ := WsI_get hR.wA
    have x1 := hg0.keep (hc _ _ hgd)
    obtain ⟨o, m, c, x2, hw⟩ := hc2 _ _ hga
    have x2 := hg0.keep x2
    have hI1 := fun w => run_bo p.cD ho w (k := i) hdl
    have hI2 := fun w => run_wss p.cA ho2 w (k := i) hil
    rw [← hi] at hI1 hI2
    have hcl1 := hR.wA.cap_le
    have hcl2 := hR.wD.cap_le
    have e0 : IntKind.i64.wrap (n - 1) = n - 1 := IntWalk.i64_in _ (by omega)
    have Hw := Lib.hid hw
    cases hb : T.drp[i]
    · have e1 : atE T n = 0 := by unfold atE; rw [if_neg h0, hin, List.getD_eq_getElem?_getD, hgd, hb]; rfl
      have e2 : atL T n = T.all[i] := by unfold atL; rw [if_pos e1, hin, List.getD_eq_getElem?_getD, hga]; rfl
      unfold RAt
      rw [e1, e2]
      rw [hb] at x1
      clear hR hO e1 e2 hB hb hgd hga hc hc2 hw h0 hi hin
      go_enter Tryd.func22, Tryd.ntmps22
      go_wp2_with fail
      go_ret2
      exact ⟨o, m, c, rfl, Hw.out, hg0⟩
    · have e1 : atE T n = 6 := by unfold atE; rw [if_neg h0, hin, List.getD_eq_getElem?_getD, hgd, hb]; rfl
      have e2 : atL T n = [] := by unfold atL; rw [if_neg (by rw [e1]; decide)]
      unfold RAt
      rw [e1, e2]
      rw [hb] at x1
      have HN := Lib.hid (writes_none W)
      clear hR hO e1 e2 hB hb hgd hga hc hc2 hw h0 hi hin
      go_enter Tryd.func22, Tryd.ntmps22
      go_wp2_with fail
      go_ret2
      exact ⟨none, 0, 0, rfl, HN.out, hg0⟩
theorem cntB_take {l : List Bool} {k : Nat} {b : Bool} (h : l[k]? = some b) : cntB (l.take (k + 1)) = cntB (l.take k) + if b = true then 0 else 1 := by
  obtain ⟨h1, h2⟩ := List.getElem?_eq_some_iff.1 h
  rw [List.take_succ_eq_append_getElem h1, h2, cntB_app]
  cases b <;> rfl
set_option maxRecDepth 100000 in
set_option maxHeartbeats 2000000 in
theorem refCount_r (hR : RefV S W w T p) (hO : CtOk T) : Calls Tryd.prog 36 #[.agg (refL T p).toArray] w fun e w' => e = .returned (.int .i64 (cntB T.drp : Nat)) ∧ Gr w w' := by
  have hB := (Bx.new w (refL T p).toArray 31 rfl).of (us := refL T p) (by simp)
  have hg0 : Gr w (w.alloc (.cells (refL T p).toArray 31)) := (Gr.refl w).alloc _
  have d3 := hB.cell 3 rfl
  have h2 := hO.cap
  have h3 := hO.lim
  have h4 := hO.len
  obtain ⟨g, off, ho, hc⟩ := BoE_get hR.wD
  have Hc := Lib.hid fun i b hi => hg0.keep (hc i b hi)
  have Ho := Lib.hid ho
  have hcl := hR.wD.cap_le
  have hcm := hR.wD.cap_max
  clear hB hR hO hc ho
  generalize hn : T.drp.length = n at *
  have Hn := Lib.hid hn
  have hnl : n ≤ 1099511627776 := by omega
  clear hn h4
  go_enter Tryd.func36, Tryd.ntmps36
  go_wp2_with fail
  generalize w.alloc (.cells (refL T p).toArray 31) = V at *
  go_loopw [3, 4] (fun s3 s4 wr => ∃ (k m : Nat), k ≤ n ∧ m ≤ k ∧ s4 = .int .i64 k ∧ s3 = .int .i64 m ∧ Hid (m = cntB (T.drp.take k)) ∧ V = wr) (fun _ s4 _ => n - (intOf s4).toNat)
  case atStart => exact ⟨0, 0, Nat.zero_le _, Nat.zero_le _, rfl, rfl, Lib.hid rfl, rfl⟩
  case round =>
    obtain ⟨k, m, hk, hmk, rfl, rfl, hm, rfl⟩ := hrel
    by_cases hlt : k < n
    · have hgd : T.drp[k]? = some (T.drp[k]'(by rw [Hn.out]; exact hlt)) := List.getElem?_eq_getElem _
      generalize (T.drp[k]'(by rw [Hn.out]; exact hlt)) = b at hgd
      have x1 := Hc.out k b hgd
      have hI := fun w => run_bo p.cD Ho.out w hlt
      have hs := cntB_take hgd
      cases b
      · have Hs := Lib.hid hs
        clear hs hgd
        go_wp2_with fail
        go_roundw
        case rel => exact ⟨k + 1, m + 1, by omega, by omega, by go_num, by go_num, Lib.hid (by rw [Hs.out, hm.out]; rfl), trivial⟩
        case measure => simp [intOf]; omega
      · have Hs := Lib.hid hs
        clear hs hgd
        go_wp2_with fail
        go_roundw
        case rel => exact ⟨k + 1, m, by omega, by omega, by go_num, rfl, Lib.hid (by rw [Hs.out, hm.out]; rfl), trivial⟩
        case measure => simp [intOf]; omega
    · obtain rfl : k = n := by omega
      have e := hm.out
      rw [List.take_of_length_le (by rw [Hn.out]; exact Nat.le_refl _)] at e
      have He := Lib.hid e
      clear e hm
      go_wp2_with fail
      go_ret
      exact ⟨by rw [← He.out]; rfl, hg0⟩
end
end Go.Proofs.YtfejdbcfcpmdiaaDoor
