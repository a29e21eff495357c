import Derived.Test.YtfejdbcfcpmdiaaDoorCmz
namespace Go.Proofs.YtfejdbcfcpmdiaaDoor
set_option linter.unusedVariables false
set_option linter.unusedSimpArgs false
open Go.BigFrame Go.RowKit Go.WideShapes

/-! Append of the program's table. -/
theorem OwnW.hide {w : World} {base : Nat} {oa : Option Addr} {n cap : Nat} {l : List Wt} (h : OwnW w base oa n cap l) {S : List Nat} (hS : ∀ b ∈ S, b < base) : WritesAt (hideL w S) oa n cap l := by
  have hlt := h.own.lt
  obtain ⟨h1, h2, h3, h4, ⟨b, off, h5, h6⟩, h7⟩ := h.rows
  refine ⟨h1, h2, h3, h4, ⟨b, off, fun q => ⟨(h5 q).1, by rw [hideL_size]; exact (h5 q).2⟩, fun i hi => ?_⟩, h7⟩
  have hb := (hlt b (by rw [(h5 (by omega)).1]; rfl)).1
  have hn : b ∉ S := fun e => by have := hS b e; omega
  exact ⟨hideL_cell.2 ⟨hn, (h6 i hi).1⟩, hideL_cell.2 ⟨hn, (h6 i hi).2.1⟩, hideL_cell.2 ⟨hn, (h6 i hi).2.2⟩⟩
def okL (l : List Wt) : Bool := decide (l ≠ []) && writesOkB l
def apR (T : Ct) (n : Int) (l : List Wt) : Ct := if apOk T n (okL l) = true then apT T l else T
section
variable {S : List Nat} {w : World} {t cm mk : Nat} {T : Ct} {oa : Option Addr} {n cap : Nat} {l : List Wt}
set_option maxRecDepth 100000 in
set_option maxHeartbeats 4000000 in
theorem append_v (hT : TabV S w t cm mk T) (hO : CtOk T) (hS : ∀ b ∈ S, b < w.heap.size) (h : WritesAt w oa n cap l) (hf : FewWs l) (at_ : Int) :
    Calls Tryd.prog 17 #[.pointer (some ⟨t, 0, none⟩), .int .i64 at_, .slice oa n cap] w fun e w' => e = .returned (.tuple #[.bool (apOk T at_ (okL l)), ev (apE T at_ (okL l))]) ∧ TabV S w' t cm mk (apR T at_ l) ∧ Mod [t, cm] w w' := by
  have hR := wright_any oa n cap l w h
  have HT := Lib.hid hT
  have H := Lib.hid h
  have hn : n ≤ 40 := by have := h.len; have := hf.len; omega
  have hcl := h.cap_le
  have hcm := h.cap_max
  unfold maxLen at hcm
  have hl2 := hO.cap
  have hl3 := hO.lim
  have hk : okL l = (decide (n ≠ 0) && writesOkB l) := by
    unfold okL
    congr 1
    rw [Bool.eq_iff_iff, decide_eq_true_iff, decide_eq_true_iff, ← h.len]
    cases l <;> simp
  unfold apR apOk apE
  rw [hk]
  clear hk
  by_cases h0 : n = 0
  · have e0 : decide (n ≠ 0) = false := by simpa using h0
    rw [e0, Bool.false_and, if_pos rfl, ev_n (by decide), if_neg (by simp)]
    subst h0
    clear hT hO h hR e0
    go_enter Tryd.func17, Tryd.ntmps17
    go_wp2_with fail
    go_ret2
    exact ⟨rfl, HT.out, Mod.refl _ _⟩
  have e0 : decide (n ≠ 0) = true := by simpa using h0
  have hz : ((n : Int) == 0) = false := by rw [beq_eq_false_iff_ne]; omega
  rw [e0, Bool.true_and]
  cases hr : writesOkB l
  · rw [hr] at hR
    have hR := Lib.hid hR
    rw [if_pos rfl, ev_n (by decide), if_neg (by simp)]
    clear hT hO h e0 hr
    go_enter Tryd.func17, Tryd.ntmps17
    go_wp2_with (go_at_call 37; (with_reducible refine hR.out.mono ?_); rintro e w1 ⟨rfl, hg1⟩)
    go_ret2
    exact ⟨rfl, HT.out.keep hg1, hg1.mod _⟩
  rw [hr] at hR
  have hR := Lib.hid hR
  rw [if_neg (by decide), Bool.true_and]
  have c1 := hT.box.cell 1 rfl
  have c2 := hT.box.cell 2 rfl
  clear hT h e0 hr
  by_cases h1 : at_ = (T.all.length : Int)
  rotate_left
  · have hd : (at_ != (T.all.length : Int)) = true := by simpa using h1
    rw [decide_eq_false h1, if_pos h1, ev_0, Bool.false_and, if_neg (by decide)]
    clear h1 hO
    go_enter Tryd.func17, Tryd.ntmps17
    go_wp2_with (go_at_call 37; (with_reducible refine hR.out.mono ?_); rintro e w1 ⟨rfl, hg1⟩; have c2 := hg1.keep c2)
    go_ret2
    exact ⟨rfl, HT.out.keep hg1, hg1.mod _⟩
  subst h1
  have hd : ((T.all.length : Int) != (T.all.length : Int)) = false := by simp
  rw [decide_eq_true rfl, if_neg (by simp), Bool.true_and]
  by_cases h2 : T.all.length = T.lim
  · have hd2 : ((T.all.length : Int) == (T.lim : Int)) = true := by rw [h2]; simp
    rw [if_pos h2, ev_n (by decide), decide_eq_false (by omega), if_neg (by decide)]
    clear h2 hO
    go_enter Tryd.func17, Tryd.ntmps17
    go_wp2_with (go_at_call 37; (with_reducible refine hR.out.mono ?_); rintro e w1 ⟨rfl, hg1⟩; (have c2 := hg1.keep c2); have c1 := hg1.keep c1)
    go_big_quiet (fail)
    go_wp2_with fail
    go_ret2
    exact ⟨rfl, HT.out.keep (by repeat (first | with_reducible exact Gr.refl _ | with_reducible refine Gr.drewN ?_ _ | with_reducible refine Gr.drew ?_ | with_reducible refine Gr.alloc ?_ _ | with_reducible refine Gr.setCell ?_ ?_ _ | (with_reducible refine Gr.trans ?_ (by assumption)) | omega | (dsimp only; omega))), Gr.mod (by repeat (first | with_reducible exact Gr.refl _ | with_reducible refine Gr.drewN ?_ _ | with_reducible refine Gr.drew ?_ | with_reducible refine Gr.alloc ?_ _ | with_reducible refine Gr.setCell ?_ ?_ _ | (with_reducible refine Gr.trans ?_ (by assumption)) | omega | (dsimp only; omega))) _⟩
  have hd2 : ((T.all.length : Int) == (T.lim : Int)) = false := by rw [beq_eq_false_iff_ne]; omega
  rw [if_neg h2, ev_0, decide_eq_true (by omega), if_pos rfl]
  have HO := Lib.hid hO
  clear hO
  have hlt : (T.all.length : Int) < T.lim := by omega
  clear h2
  go_enter Tryd.func17, Tryd.ntmps17
  go_wp2_with (go_at_call 37; (with_reducible refine hR.out.mono ?_); rintro e w1 ⟨rfl, hg1⟩; (have c2 := hg1.keep c2); (have c1 := hg1.keep c1); have f2 := (HT.out.keep hg1).box.free 2 (by simp))
  go_big_quiet (fail)
  go_wp2_with fail
  have hgq : Gr w (w1.drewN nq) := hg1.drewN _
  have hT1 := HT.out.keep hgq
  have T1 := Lib.hid hT1
  have hB2 := hT1.box.set 2 (.int .i64 ((T.all.length : Int) + 1))
  have hM2 : Mod [t] (w1.drewN nq) ((w1.drewN nq).setCell ⟨t, 2, none⟩ (.int .i64 ((T.all.length : Int) + 1))) := Mod.setCell _ _ _ (by simp)
  have hL2 : WritesAt ((w1.drewN nq).setCell ⟨t, 2, none⟩ (.int .i64 ((T.all.length : Int) + 1))) oa n cap l := (H.out.keep hgq).set (hT1.box.cell 2 rfl) _
  clear hT1 hR c1 c2 f2
  generalize (w1.drewN nq).setCell ⟨t, 2, none⟩ (.int .i64 ((T.all.length : Int) + 1)) = w2 at *
  have hB2 : Bx w2 t [.int .i64 T.marks.length, .int .i64 T.lim, .int .i64 ((T.all.length : Int) + 1), .int .i64 T.low, .map (some cm), .map (some mk), .int .i64 T.hold] := hB2.of rfl
  have HB2 := Lib.hid hB2
  have L2 := Lib.hid hL2
  have c2 := hB2.cell 2 rfl
  have c4 := hB2.cell 4 rfl
  have hsz2 : w.heap.size ≤ w2.heap.size := Nat.le_trans hgq.le hM2.size
  have hbs : ∀ b ∈ S, b < w2.heap.size := fun b hb => Nat.lt_of_lt_of_le (hS b hb) hsz2
  obtain ⟨f, hf1, hc1⟩ := T1.out.m1
  have hf2 := hf1.mod hM2 (by simp only [List.mem_singleton]; exact T1.out.ne1)
  have hc2 := hc1.ex (hM2.ex2 (S' := S) fun g q => by rw [List.mem_singleton] at q; subst q; exact T1.out.in1)
  have Hf2 := Lib.hid hf2
  have Hc2 := Lib.hid hc2
  have HM2 := Lib.hid hM2
  clear hf1 hc1 hf2 hc2 hL2 hB2 hM2
  have hdom := Lib.hid (Hc2.out.dom HO.out.len)
  go_region_with (first
    | (go_at_call 38; ((with_reducible refine Calls.mono (copied_n (L2.out.keep ?_) (by omega)) ?_); (focus ((repeat (first | with_reducible exact Gr.refl _ | with_reducible refine Gr.drewN ?_ _ | with_reducible refine Gr.drew ?_ | with_reducible refine Gr.alloc ?_ _ | with_reducible refine Gr.setCell ?_ ?_ _ | (with_reducible refine Gr.trans ?_ (by assumption)) | omega | (dsimp only; omega))); done))); rintro e w3 ⟨o, c, rfl, ho, hg3⟩; have hg23 : Gr w2 w3 := Gr.trans (by (repeat (first | with_reducible exact Gr.refl _ | with_reducible refine Gr.drewN ?_ _ | with_reducible refine Gr.drew ?_ | with_reducible refine Gr.alloc ?_ _ | with_reducible refine Gr.setCell ?_ ?_ _ | (with_reducible refine Gr.trans ?_ (by assumption)) | omega | (dsimp only; omega)))) hg3; (have c2 := (HB2.out.keep hg23).cell 2 rfl); (have c4 := (HB2.out.keep hg23).cell 4 rfl); obtain ⟨w4, hU, hm4, ht4⟩ := (Hf2.out.keep hg23).put Tryd.underlying3 hdom.out (by unfold maxLen; omega) Tryd.underlying53 (k := (T.all.length : Int) + 1) (wf_i64 (by omega) (by omega)) (.slice o n c)))
  all_goals
    have hM4 : Mod [cm] w3 w4 := turned_mod ht4 (by simp)
    have ne1 := T1.out.ne1
    have ne3 := T1.out.ne3
    have hV : TabV S w4 t cm mk (apT T l) := by
      refine ⟨ne1, T1.out.ne2, ne3, T1.out.in1, T1.out.in2, T1.out.in3, ?_, ⟨_, hm4, ?_⟩, ?_⟩
      · refine (hM4.box (by simp only [List.mem_singleton]; exact fun e => ne1 e.symm) (HB2.out.keep hg23)).of ?_
        show _ = tabL (apT T l) cm mk
        unfold apT tabL
        dsimp only
        rw [List.length_append, List.length_singleton]
        rfl
      · have hw := (ho.hide (S := S) hbs).ex (hM4.ex2 (S' := S) fun g q => by rw [List.mem_singleton] at q; subst q; exact T1.out.in2)
        exact (Hc2.out.ex ((hideL_gr hg23 S).trans (hM4.ex2 (S' := S) fun g q => by rw [List.mem_singleton] at q; subst q; exact T1.out.in2))).app HO.out.len hw
      · exact (((T1.out.m2.mod HM2.out (by simp only [List.mem_singleton]; exact T1.out.ne2)).keep hg23).mod hM4 (by simp only [List.mem_singleton]; exact fun e => ne3 e.symm))
    have hMM : Mod [t, cm] w w4 := (((hgq.mod [t, cm]).trans (HM2.out.sub (by simp))).trans (hg23.mod _)).trans (hM4.sub (by simp))
    have HV := Lib.hid hV
    clear hU hm4 ht4 hV ho
    go_wp2_with fail
    go_ret2
    exact ⟨rfl, HV.out, hMM⟩
end
end Go.Proofs.YtfejdbcfcpmdiaaDoor
