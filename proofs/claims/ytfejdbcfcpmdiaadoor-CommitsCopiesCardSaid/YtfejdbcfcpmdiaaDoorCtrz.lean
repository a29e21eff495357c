import Derived.Test.YtfejdbcfcpmdiaaDoorCaz
namespace Go.Proofs.YtfejdbcfcpmdiaaDoor
set_option linter.unusedVariables false
set_option linter.unusedSimpArgs false
open Go.BigFrame Go.RowKit Go.WideShapes

/-! Trim of the program's table: a loop over the map, in whatever order. -/
/-- what is left of the map where the loop stands -/
def trF (f : MF) (n : Int) (low : Nat) (left : Int → Bool) : MF := fun k => if (decide (k ≤ n) && decide (k ≤ (low : Int)) && !left k) = true then none else f k
theorem trF_start (f : MF) (n : Int) (low : Nat) : trF f n low (fun k => (f k).isSome) = f := by
  funext k
  unfold trF
  split
  · rename_i h
    simp only [Bool.and_eq_true, Bool.not_eq_true'] at h
    cases hf : f k with
    | none => rfl
    | some v => rw [hf] at h; simp at h
  · rfl
theorem trF_keep {f : MF} {n : Int} {low : Nat} {left : Int → Bool} {k : Int} (h : (decide (k ≤ n) && decide (k ≤ (low : Int))) = false) : trF f n low (fun x => left x && !decide (x = k)) = trF f n low left := by
  funext x
  unfold trF
  by_cases e : x = k
  · subst e; rw [h]; rfl
  · simp [e]
theorem trF_del {f : MF} {n : Int} {low : Nat} {left : Int → Bool} {k : Int} (h : (decide (k ≤ n) && decide (k ≤ (low : Int))) = true) : trF f n low (fun x => left x && !decide (x = k)) = upd (trF f n low left) k none := by
  funext x
  by_cases e : x = k
  · subst e
    rw [upd_same]
    unfold trF
    rw [h]; simp
  · rw [upd_other e]
    unfold trF
    simp [e]
theorem CmOf.trim {S : List Nat} {w : World} {T : Ct} {f : MF} (h : CmOf S w T f) {n : Int} {left : Int → Bool} (hl : ∀ k, left k = false) : CmOf S w (tmT T n) (trF f n T.low left) := by
  refine ⟨fun i hi => ?_, fun k v hv => ?_⟩
  · have hi : (tmD T n)[i]? = Option.some false := hi
    rw [tmD_get] at hi
    obtain ⟨b, hb, e⟩ := Option.map_eq_some_iff.1 hi
    unfold tmB at e
    rw [Bool.or_eq_false_iff] at e
    obtain ⟨rfl, e2⟩ := e
    unfold trF
    rw [if_neg]
    · exact h.yes i hb
    · intro q
      simp only [Bool.and_eq_true, decide_eq_true_eq] at q
      rw [Bool.and_eq_false_iff, decide_eq_false_iff_not, decide_eq_false_iff_not] at e2
      omega
  · unfold trF at hv
    split at hv
    · cases hv
    · rename_i hn
      obtain ⟨i, l, o, m, c, h1, h2, h3, h4, h5⟩ := h.get k v hv
      refine ⟨i, l, o, m, c, h1, h2, ?_, h4, h5⟩
      show (tmD T n)[i]? = _
      rw [tmD_get, h3]
      show Option.some (tmB T n i false) = _
      unfold tmB
      rw [Bool.false_or]
      congr 1
      rw [Bool.and_eq_false_iff, decide_eq_false_iff_not, decide_eq_false_iff_not]
      by_cases q : (i : Int) < n ∧ i < T.low
      · exfalso
        refine hn ?_
        rw [hl k]
        simp only [Bool.and_eq_true, decide_eq_true_eq]
        refine ⟨⟨?_, ?_⟩, rfl⟩ <;> omega
      · omega
section
variable {S : List Nat} {w : World} {t cm mk : Nat} {T : Ct}
set_option maxRecDepth 100000 in
set_option maxHeartbeats 4000000 in
theorem trim_v (hT : TabV S w t cm mk T) (hO : CtOk T) (n : Int) :
    Calls Tryd.prog 34 #[.pointer (some ⟨t, 0, none⟩), .int .i64 n] w fun e w' => e = .returned (.int .i64 ((cntB T.drp : Int) - (cntB (tmD T n) : Int))) ∧ TabV S w' t cm mk (tmT T n) ∧ Mod [cm] w w' := by
  have HT := Lib.hid hT
  have HO := Lib.hid hO
  have c3 := hT.box.cell 3 rfl
  have c4 := hT.box.cell 4 rfl
  have hln := hT.len hO 3
  have hl1 := hO.low
  have hl2 := hO.cap
  have hl3 := hO.lim
  have hct := cnt_all hO
  obtain ⟨f, hf, hc⟩ := hT.m1
  have Hf := Lib.hid hf
  have Hc := Lib.hid hc
  obtain ⟨w1, cnt0, hrg, hR0, hg1, hsz1⟩ := hf.range Tryd.underlying3 Tryd.underlying53
  have hG1 : Gr w w1 := (Mod.grown hg1 (S := []) (fun b e => by cases e)).ofNil
  have HR0 := Lib.hid hR0
  have HG1 := Lib.hid hG1
  have tlt := hT.lt
  have c3 := hG1.keep c3
  have c4b := hG1.keep c4
  clear hT hO hf hc hR0 hg1 hG1
  go_enter Tryd.func34, Tryd.ntmps34
  go_wp2_with fail
  have Hsz1 := Lib.hid hsz1
  clear hsz1 hrg
  generalize hr : w.heap.size = r at *
  have HR := Lib.hid hr
  clear hr
  go_loopw [6] (fun s6 wr => ∃ (left : Int → Bool) (cnt : Nat), Hid (RanV Tryd.prog 3 wr cm r (trF f n T.low left) left cnt) ∧ Hid (Mod [cm, r] w1 wr)) (fun s6 wr => wr.rangeLeft cm r)
  case atStart => exact ⟨_, cnt0, by rw [trF_start]; exact HR0, Lib.hid (Mod.refl _ _)⟩
  case round =>
    obtain ⟨left, cnt, hR, hM⟩ := hrel
    have c3 := hM.out.cell (by simp only [List.mem_cons, List.not_mem_nil, or_false, not_or]; exact ⟨fun e => HT.out.ne1 e.symm, by omega⟩) c3
    have c4 := hM.out.cell (by simp only [List.mem_cons, List.not_mem_nil, or_false, not_or]; exact ⟨fun e => HT.out.ne1 e.symm, by omega⟩) c4b
    have hmS : Mod S w wr := (HG1.out.mod S).then hM.out fun g q => by
      have := HR.out
      simp only [List.mem_cons, List.not_mem_nil, or_false] at q
      rcases q with rfl | rfl
      · exact .inl HT.out.in2
      · exact .inr (by omega)
    have HmS := Lib.hid hmS
    clear hmS
    rcases hR.out.next Tryd.underlying3 0 with ⟨-, hl0, hnx⟩ | ⟨k, v, w2, cnt2, hlk, hm, hwf, hnx, hR2, hlt, hg2, hen⟩
    · have hcT : CmOf S wr (tmT T n) (trF f n T.low left) := (Hc.out.ex HmS.out.ex).trim hl0
      have hOT := tmT_ok HO.out (n := n)
      have hle : cntB (tmT T n).drp ≤ cntB T.drp := tm_le T n
      have hln2 := hR.out.map.len Tryd.underlying3 (hcT.dom hOT.len) Tryd.underlying53 3
      rw [hcT.count hOT.len] at hln2
      have hV : TabV S wr t cm mk (tmT T n) := by
        have e1 := HR.out
        have e3 := HT.out.lt3
        refine ⟨HT.out.ne1, HT.out.ne2, HT.out.ne3, HT.out.in1, HT.out.in2, HT.out.in3, ?_, ⟨_, hR.out.map, hcT⟩, ?_⟩
        · exact hM.out.box (by simp only [List.mem_cons, List.not_mem_nil, or_false, not_or]; exact ⟨fun e => HT.out.ne1 e.symm, by omega⟩) (HT.out.box.keep HG1.out)
        · exact (HT.out.m2.keep HG1.out).mod hM.out (by simp only [List.mem_cons, List.not_mem_nil, or_false, not_or]; exact ⟨fun e => HT.out.ne3 e.symm, by omega⟩)
      have hMM : Mod [cm] w wr := (HG1.out.mod [cm]).then hM.out fun g q => by
        have := HR.out
        simp only [List.mem_cons, List.not_mem_nil, or_false] at q
        rcases q with rfl | rfl
        · exact .inl (by simp)
        · exact .inr (by omega)
      have HV := Lib.hid hV
      have HMM := Lib.hid hMM
      have hl0' := Lib.hid hl0
      clear hl0 hcT hOT hV hMM
      go_wp2_with fail
      go_ret
      exact ⟨rfl, HV.out, HMM.out⟩
    · have hM2 : Mod [r] wr w2 := Mod.grown hg2 fun b e => by cases e; simp
      have d3 := hM2.cell (by simp only [List.mem_singleton]; omega) c3
      have d4 := hM2.cell (by simp only [List.mem_singleton]; omega) c4
      have hM3 : Mod [cm, r] w1 w2 := hM.out.trans (hM2.sub (by simp))
      have HM3 := Lib.hid hM3
      have hbd := wf_bd hwf
      have hcn := hR.out.left_eq
      have hcn2 := hR2.left_eq
      have Hcn := Lib.hid hcn
      have Hcn2 := Lib.hid hcn2
      have Hlt := Lib.hid hlt
      clear hM3 hlk hm hcn hcn2 hlt
      by_cases hb : (decide (k ≤ n) && decide (k ≤ (T.low : Int))) = true
      · have hb1 : decide (k ≤ n) = true := by simp only [Bool.and_eq_true] at hb; exact hb.1
        have hb2 : decide (k ≤ (T.low : Int)) = true := by simp only [Bool.and_eq_true] at hb; exact hb.2
        obtain ⟨w3, cnt3, hdl, hR3, hle, htn⟩ := hR2.del Tryd.underlying3 Tryd.underlying53 hwf 0
        have e : (fun x => (left x && !decide (x = k)) && !decide (x = k)) = fun x => left x && !decide (x = k) := by
          funext x
          cases left x <;> cases decide (x = k) <;> rfl
        rw [e, ← trF_del hb] at hR3
        have HR3 := Lib.hid hR3
        have HM4 := Lib.hid (HM3.out.trans ((turned_mod (S := [cm]) htn (by simp)).sub (by simp)))
        have Hle := Lib.hid hle
        clear hR3 htn hR2 e hb hle
        go_wp2_with fail
        go_roundw
        case rel => exact ⟨_, cnt3, HR3, HM4⟩
        case measure => rw [HR3.out.left_eq, Hcn.out]; have := Hle.out; have := Hlt.out; omega
      · have hbf := Bool.eq_false_iff.2 hb
        rw [← trF_keep hbf] at hR2
        have HR2 := Lib.hid hR2
        clear hR2 hb
        by_cases hb1 : k ≤ n
        · have hd1 : decide (k ≤ n) = true := by simpa using hb1
          have hd2 : decide (k ≤ (T.low : Int)) = false := by rw [hd1, Bool.true_and] at hbf; exact hbf
          clear hbf
          go_wp2_with fail
          go_roundw
          case rel => exact ⟨_, cnt2, HR2, HM3⟩
          case measure => rw [HR2.out.left_eq, Hcn.out]; exact Hlt.out
        · have hd1 : decide (k ≤ n) = false := by simpa using hb1
          clear hbf
          go_wp2_with fail
          go_roundw
          case rel => exact ⟨_, cnt2, HR2, HM3⟩
          case measure => rw [HR2.out.left_eq, Hcn.out]; exact Hlt.out
end
end Go.Proofs.YtfejdbcfcpmdiaaDoor
