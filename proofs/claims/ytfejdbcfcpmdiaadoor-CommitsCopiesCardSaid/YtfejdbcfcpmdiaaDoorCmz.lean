import Derived.Test.YtfejdbcfcpmdiaaDoorTvz
namespace Go.Proofs.YtfejdbcfcpmdiaaDoor
set_option linter.unusedVariables false
set_option linter.unusedSimpArgs false
open Go.BigFrame Go.RowKit Go.WideShapes

/-! The methods of the program's table, but those that range, append or copy. -/
/-- an error by its code -/
def ev (c : Int) : Value := if c = 0 then .nilIface else errV c
theorem ev_0 : ev 0 = .nilIface := rfl
theorem ev_n {c : Int} (h : c ≠ 0) : ev c = errV c := by unfold ev; rw [if_neg h]
theorem CmOf.same {S : List Nat} {w : World} {T T' : Ct} {f : MF} (h : CmOf S w T f) (h1 : T'.all = T.all) (h2 : T'.drp = T.drp) : CmOf S w T' f :=
  ⟨fun i hi => h.yes i (by rw [← h2]; exact hi), fun k v hv => by rw [h1, h2]; exact h.get k v hv⟩
section
variable {S : List Nat} {w w' : World} {t cm mk : Nat} {T : Ct}
theorem TabV.setMarks (h : TabV S w t cm mk T) {l' : List Int} (hl : l'.length = T.marks.length) (hm : mapI w' mk (marksF l')) (hg : Mod [mk] w w') : TabV S w' t cm mk { T with marks := l' } := by
  obtain ⟨f, hf, hc⟩ := h.m1
  have n1 : t ∉ [mk] := by simp only [List.mem_singleton]; exact fun e => h.ne2 e.symm
  have n2 : cm ∉ [mk] := by simp only [List.mem_singleton]; exact h.ne3
  refine ⟨h.ne1, h.ne2, h.ne3, h.in1, h.in2, h.in3, ?_, ⟨f, hf.mod hg n2, (hc.ex (hg.ex2 fun g q => by rw [List.mem_singleton] at q; subst q; exact h.in3)).same rfl rfl⟩, hm⟩
  have := hg.box n1 h.box
  show Bx w' t (tabL { T with marks := l' } cm mk)
  unfold tabL
  dsimp only
  rw [hl]
  exact this
/-- a number of the table's is written -/
theorem TabV.setNum (h : TabV S w t cm mk T) {j : Nat} {u : Value} {T' : Ct} (hb : (tabL T cm mk).set j u = tabL T' cm mk) (h1 : T'.all = T.all) (h2 : T'.drp = T.drp) (h3 : T'.marks = T.marks) : TabV S (w.setCell ⟨t, j, none⟩ u) t cm mk T' := by
  have hg : Mod [t] w (w.setCell ⟨t, j, none⟩ u) := Mod.setCell w ⟨t, j, none⟩ u (by simp)
  obtain ⟨f, hf, hc⟩ := h.m1
  have n2 : cm ∉ [t] := by simp only [List.mem_singleton]; exact h.ne1
  have n3 : mk ∉ [t] := by simp only [List.mem_singleton]; exact h.ne2
  exact ⟨h.ne1, h.ne2, h.ne3, h.in1, h.in2, h.in3, (h.box.set j u).of hb, ⟨f, hf.mod hg n2, (hc.ex (hg.ex2 fun g q => by rw [List.mem_singleton] at q; subst q; exact h.in1)).same h1 h2⟩, by rw [h3]; exact h.m2.mod hg n3⟩
theorem int_zero (w : World) : (zeroValue 3).run Tryd.prog w = .ok (.int .i64 0) w := by kernel_rfl
theorem ws_zero (w : World) : (zeroValue 50).run Tryd.prog w = .ok (.slice none 0 0) w := by kernel_rfl
set_option maxRecDepth 100000 in
set_option maxHeartbeats 2000000 in
theorem last_v (hT : TabV S w t cm mk T) : Calls Tryd.prog 12 #[.pointer (some ⟨t, 0, none⟩)] w fun e w' => e = .returned (.int .i64 T.all.length) ∧ w = w' := by
  have c2 := hT.box.cell 2 rfl
  clear hT
  generalize T.all.length = n at *
  go_enter Tryd.func12, Tryd.ntmps12
  go_wp2_with fail
  go_ret
  exact ⟨rfl, rfl⟩
set_option maxRecDepth 100000 in
set_option maxHeartbeats 2000000 in
theorem base_v (hT : TabV S w t cm mk T) : Calls Tryd.prog 13 #[.pointer (some ⟨t, 0, none⟩)] w fun e w' => e = .returned (.int .i64 T.low) ∧ w = w' := by
  have c3 := hT.box.cell 3 rfl
  clear hT
  generalize T.low = n at *
  go_enter Tryd.func13, Tryd.ntmps13
  go_wp2_with fail
  go_ret
  exact ⟨rfl, rfl⟩
theorem TabV.len (hT : TabV S w t cm mk T) (hO : CtOk T) (ty : TypeId) : (Builtin.len_ #[cmT] ty #[.map (some cm)]).run Tryd.prog w = .ok (.int .i64 (cntB T.drp : Nat)) w := by
  obtain ⟨f, hf, hc⟩ := hT.m1
  rw [← hc.count hO.len]
  exact hf.len Tryd.underlying3 (hc.dom hO.len) Tryd.underlying53 ty
set_option maxRecDepth 100000 in
set_option maxHeartbeats 2000000 in
theorem count_v (hT : TabV S w t cm mk T) (hO : CtOk T) : Calls Tryd.prog 14 #[.pointer (some ⟨t, 0, none⟩)] w fun e w' => e = .returned (.int .i64 (cntB T.drp : Nat)) ∧ w = w' := by
  have c4 := hT.box.cell 4 rfl
  have hl := hT.len hO 3
  clear hT hO
  generalize cntB T.drp = n at *
  go_enter Tryd.func14, Tryd.ntmps14
  go_wp2_with fail
  go_ret
  exact ⟨rfl, rfl⟩
set_option maxRecDepth 100000 in
set_option maxHeartbeats 2000000 in
theorem is_v (hT : TabV S w t cm mk T) (th : Int) : Calls Tryd.prog 41 #[.pointer (some ⟨t, 0, none⟩), .int .i64 th] w fun e w' => e = .returned (.bool (isT T th)) ∧ w = w' := by
  have c0 := hT.box.cell 0 rfl
  unfold isT
  clear hT
  generalize T.marks.length = n at *
  by_cases h0 : 0 ≤ th
  · have h1 : decide (0 ≤ th) = true := by simpa using h0
    by_cases h2 : th < (n : Int)
    · have h3 : decide (th < (n : Int)) = true := by simpa using h2
      go_enter Tryd.func41, Tryd.ntmps41
      go_wp2_with fail
      go_ret
      exact ⟨by simp [h0, h2], rfl⟩
    · have h3 : decide (th < (n : Int)) = false := by simpa using h2
      go_enter Tryd.func41, Tryd.ntmps41
      go_wp2_with fail
      go_ret
      exact ⟨by simp [h0, h2], rfl⟩
  · have h1 : decide (0 ≤ th) = false := by simpa using h0
    go_enter Tryd.func41, Tryd.ntmps41
    go_wp2_with fail
    go_ret
    exact ⟨by simp [h0], rfl⟩
theorem is_at (hT : TabV S w t cm mk T) {th : Int} {b : Bool} (hb : isT T th = b) : Calls Tryd.prog 41 #[.pointer (some ⟨t, 0, none⟩), .int .i64 th] w fun e w' => e = .returned (.bool b) ∧ w = w' := by
  rw [← hb]; exact is_v hT th
theorem isT_nat {T : Ct} {th : Int} (h : isT T th = true) : ∃ i : Nat, th = i ∧ i < T.marks.length := by
  unfold isT at h
  simp only [Bool.and_eq_true, decide_eq_true_eq] at h
  exact ⟨th.toNat, by omega, by omega⟩
theorem wf_i64 {k : Int} (h1 : -9223372036854775808 ≤ k) (h2 : k ≤ 9223372036854775807) : (Lit.int .i64 k).wf = true := by
  simp [Lit.wf, IntKind.min, IntKind.max, IntKind.signed, IntKind.bits]; omega
theorem wf_bd {k : Int} (h : (Lit.int .i64 k).wf = true) : -9223372036854775808 ≤ k ∧ k ≤ 9223372036854775807 := by
  simpa [Lit.wf, IntKind.min, IntKind.max, IntKind.signed, IntKind.bits] using h
def mkR (T : Ct) (th n : Int) : Ct := if isT T th = true then mkT T th n else T
def mkE (T : Ct) (th : Int) : Int := if isT T th = true then 0 else 1
set_option maxRecDepth 100000 in
set_option maxHeartbeats 2000000 in
theorem mark_v (hT : TabV S w t cm mk T) (hO : CtOk T) (th n : Int) (hn : (Lit.int .i64 n).wf = true) :
    Calls Tryd.prog 24 #[.pointer (some ⟨t, 0, none⟩), .int .i64 th, .int .i64 n] w fun e w' => e = .returned (ev (mkE T th)) ∧ TabV S w' t cm mk (mkR T th n) ∧ Mod [mk] w w' := by
  have HT := Lib.hid hT
  have c5 := hT.box.cell 5 rfl
  unfold mkR mkE
  cases hi : isT T th
  · have hI := is_at hT hi
    rw [if_neg (by decide), if_neg (by decide), ev_n (by decide)]
    clear hT hi hO
    go_enter Tryd.func24, Tryd.ntmps24
    go_wp2_with (go_at_call 41; (with_reducible refine hI.mono ?_); rintro e w' ⟨rfl, rfl⟩)
    go_ret
    exact ⟨rfl, HT.out, Mod.refl _ _⟩
  · have hI := is_at hT hi
    rw [if_pos rfl, if_pos rfl, ev_0]
    obtain ⟨i, rfl, hil⟩ := isT_nat hi
    have h64 := hO.mk2
    by_cases hn0 : n < 0
    · obtain ⟨w2, r1, r2, r3⟩ := hT.m2.del Tryd.underlying3 Tryd.underlying54 (k := (i : Int)) (wf_i64 (by omega) (by omega)) 0
      have e : mkT T i n = { T with marks := T.marks.set i (-1) } := by unfold mkT; rw [Int.max_eq_right (by omega), Int.toNat_natCast]
      have hV : TabV S w2 t cm mk (mkT T i n) := by
        rw [e]
        exact hT.setMarks (List.length_set ..) (by rw [marksF_set hil, if_neg (by omega)]; exact r2) (turned_mod r3 (by simp))
      have HV := Lib.hid hV
      have HM := Lib.hid (turned_mod (S := [mk]) r3 (by simp))
      clear hT hi hO hV r2 r3 e
      go_enter Tryd.func24, Tryd.ntmps24
      go_wp2_with (go_at_call 41; (with_reducible refine hI.mono ?_); rintro e w' ⟨rfl, rfl⟩)
      go_ret
      exact ⟨rfl, HV.out, HM.out⟩
    · obtain ⟨w2, r1, r2, r3⟩ := hT.m2.put Tryd.underlying3 (marksF_dom _) (by unfold maxLen; omega) Tryd.underlying54 (k := (i : Int)) (wf_i64 (by omega) (by omega)) (.int .i64 n)
      have e : mkT T i n = { T with marks := T.marks.set i n } := by unfold mkT; rw [Int.max_eq_left (by omega), Int.toNat_natCast]
      have hV : TabV S w2 t cm mk (mkT T i n) := by
        rw [e]
        exact hT.setMarks (List.length_set ..) (by rw [marksF_set hil, if_pos (by omega)]; exact r2) (turned_mod r3 (by simp))
      have HV := Lib.hid hV
      have HM := Lib.hid (turned_mod (S := [mk]) r3 (by simp))
      clear hT hi hO hV r2 r3 e
      go_enter Tryd.func24, Tryd.ntmps24
      go_wp2_with (go_at_call 41; (with_reducible refine hI.mono ?_); rintro e w' ⟨rfl, rfl⟩)
      go_ret
      exact ⟨rfl, HV.out, HM.out⟩
def mdN (T : Ct) (th : Int) : Int := if isT T th = true then T.marks.getD th.toNat (-1) else -1
theorem mdN_in {T : Ct} {i : Nat} (h : isT T i = true) : mdN T i = T.marks.getD i (-1) := by unfold mdN; rw [if_pos h, Int.toNat_natCast]
set_option maxRecDepth 100000 in
set_option maxHeartbeats 2000000 in
theorem marked_v (hT : TabV S w t cm mk T) (hO : CtOk T) (th : Int) :
    Calls Tryd.prog 26 #[.pointer (some ⟨t, 0, none⟩), .int .i64 th] w fun e w' => e = .returned (.tuple #[.int .i64 (mdN T th), ev (mkE T th)]) ∧ w = w' := by
  have c5 := hT.box.cell 5 rfl
  cases hi : isT T th
  · have hI := is_at hT hi
    have e1 : mdN T th = -1 := by unfold mdN; rw [if_neg (by rw [hi]; decide)]
    have e2 : mkE T th = 1 := by unfold mkE; rw [if_neg (by rw [hi]; decide)]
    rw [e1, e2, ev_n (by decide)]
    clear hT hi hO e1 e2
    go_enter Tryd.func26, Tryd.ntmps26
    go_wp2_with (go_at_call 41; (with_reducible refine hI.mono ?_); rintro e w' ⟨rfl, rfl⟩)
    go_ret2
    exact ⟨rfl, rfl⟩
  · have hI := is_at hT hi
    obtain ⟨i, rfl, hil⟩ := isT_nat hi
    have h64 := hO.mk2
    have e2 : mkE T i = 0 := by unfold mkE; rw [if_pos hi]
    have hg : T.marks[i]? = some (T.marks[i]) := List.getElem?_eq_getElem hil
    have hx := hO.mkw _ (List.getElem_mem hil)
    have e1 : mdN T i = T.marks[i] := by rw [mdN_in hi, List.getD_eq_getElem?_getD, hg]; rfl
    have hl := hT.m2.look Tryd.underlying3 Tryd.underlying54 (int_zero w) (k := (i : Int)) (wf_i64 (by omega) (by omega))
    rw [marksF_at hg] at hl
    rw [e1, e2, ev_0]
    clear hT hi e1 e2 hO
    generalize T.marks[i] = x at *
    by_cases hx0 : 0 ≤ x
    · rw [if_pos hx0] at hl
      simp only [Option.getD_some, Option.isSome_some] at hl
      go_enter Tryd.func26, Tryd.ntmps26
      go_wp2_with (go_at_call 41; (with_reducible refine hI.mono ?_); rintro e w' ⟨rfl, rfl⟩)
      go_ret2
      exact ⟨rfl, rfl⟩
    · rw [if_neg hx0] at hl
      simp only [Option.getD_none, Option.isSome_none] at hl
      obtain rfl : x = -1 := by omega
      go_enter Tryd.func26, Tryd.ntmps26
      go_wp2_with (go_at_call 41; (with_reducible refine hI.mono ?_); rintro e w' ⟨rfl, rfl⟩)
      go_ret2
      exact ⟨rfl, rfl⟩
def grOk (T : Ct) (th : Int) : Bool := isT T th && decide (T.hold < 0)
def grR (T : Ct) (th : Int) : Ct := if grOk T th = true then hoT T th else T
set_option maxRecDepth 100000 in
set_option maxHeartbeats 2000000 in
theorem grab_v (hT : TabV S w t cm mk T) (th : Int) :
    Calls Tryd.prog 28 #[.pointer (some ⟨t, 0, none⟩), .int .i64 th] w fun e w' => e = .returned (.tuple #[.bool (grOk T th), ev (mkE T th)]) ∧ TabV S w' t cm mk (grR T th) ∧ Mod [t] w w' := by
  have HT := Lib.hid hT
  have c6 := hT.box.cell 6 rfl
  have f6 := hT.box.free 6 (by simp)
  have hV : TabV S (w.setCell ⟨t, 6, none⟩ (.int .i64 th)) t cm mk (hoT T th) := hT.setNum rfl rfl rfl rfl
  have HV := Lib.hid hV
  unfold grR grOk mkE
  cases hi : isT T th
  · have hI := is_at hT hi
    rw [if_neg (by simp), if_neg (by simp), ev_n (by decide)]
    clear hT hi hV
    go_enter Tryd.func28, Tryd.ntmps28
    go_wp2_with (go_at_call 41; (with_reducible refine hI.mono ?_); rintro e w' ⟨rfl, rfl⟩)
    go_ret2
    exact ⟨rfl, HT.out, Mod.refl _ _⟩
  · have hI := is_at hT hi
    rw [if_pos rfl, ev_0]
    clear hT hi hV
    by_cases h0 : T.hold < 0
    · have hb : (true && decide (T.hold < 0)) = true := by simpa using h0
      rw [if_pos hb, hb]
      have hd : decide (0 ≤ T.hold) = false := by simpa using h0
      clear hb
      go_enter Tryd.func28, Tryd.ntmps28
      go_wp2_with (go_at_call 41; (with_reducible refine hI.mono ?_); rintro e w' ⟨rfl, rfl⟩)
      go_ret2
      exact ⟨rfl, HV.out, Mod.setCell _ _ _ (by simp)⟩
    · have hb : (true && decide (T.hold < 0)) = false := by simpa using h0
      rw [if_neg (by rw [hb]; decide), hb]
      have hd : decide (0 ≤ T.hold) = true := by simp; omega
      clear hb
      go_enter Tryd.func28, Tryd.ntmps28
      go_wp2_with (go_at_call 41; (with_reducible refine hI.mono ?_); rintro e w' ⟨rfl, rfl⟩)
      go_ret2
      exact ⟨rfl, HT.out, Mod.refl _ _⟩
def yiOk (T : Ct) (th : Int) : Bool := isT T th && decide (T.hold = th)
def yiR (T : Ct) (th : Int) : Ct := if yiOk T th = true then hoT T (-1) else T
set_option maxRecDepth 100000 in
set_option maxHeartbeats 2000000 in
theorem yield_v (hT : TabV S w t cm mk T) (th : Int) :
    Calls Tryd.prog 30 #[.pointer (some ⟨t, 0, none⟩), .int .i64 th] w fun e w' => e = .returned (.tuple #[.bool (yiOk T th), ev (mkE T th)]) ∧ TabV S w' t cm mk (yiR T th) ∧ Mod [t] w w' := by
  have HT := Lib.hid hT
  have c6 := hT.box.cell 6 rfl
  have f6 := hT.box.free 6 (by simp)
  have hV : TabV S (w.setCell ⟨t, 6, none⟩ (.int .i64 (-1))) t cm mk (hoT T (-1)) := hT.setNum rfl rfl rfl rfl
  have HV := Lib.hid hV
  unfold yiR yiOk mkE
  cases hi : isT T th
  · have hI := is_at hT hi
    rw [if_neg (by simp), if_neg (by simp), ev_n (by decide)]
    clear hT hi hV
    go_enter Tryd.func30, Tryd.ntmps30
    go_wp2_with (go_at_call 41; (with_reducible refine hI.mono ?_); rintro e w' ⟨rfl, rfl⟩)
    go_ret2
    exact ⟨rfl, HT.out, Mod.refl _ _⟩
  · have hI := is_at hT hi
    rw [if_pos rfl, ev_0]
    clear hT hi hV
    by_cases h0 : T.hold = th
    · have hb : (true && decide (T.hold = th)) = true := by simpa using h0
      rw [if_pos hb, hb]
      have hd : (T.hold != th) = false := by simpa using h0
      have H0 := Lib.hid h0
      clear hb h0
      go_enter Tryd.func30, Tryd.ntmps30
      go_wp2_with (go_at_call 41; (with_reducible refine hI.mono ?_); rintro e w' ⟨rfl, rfl⟩)
      go_ret2
      exact ⟨rfl, HV.out, Mod.setCell _ _ _ (by simp)⟩
    · have hb : (true && decide (T.hold = th)) = false := by simpa using h0
      rw [if_neg (by rw [hb]; decide), hb]
      have hd : (T.hold != th) = true := by simpa using h0
      clear hb h0
      go_enter Tryd.func30, Tryd.ntmps30
      go_wp2_with (go_at_call 41; (with_reducible refine hI.mono ?_); rintro e w' ⟨rfl, rfl⟩)
      go_ret2
      exact ⟨rfl, HT.out, Mod.refl _ _⟩
def adR (T : Ct) (n : Int) : Ct := if adOk T n = true then adT T else T
set_option maxRecDepth 100000 in
set_option maxHeartbeats 2000000 in
theorem advance_v (hT : TabV S w t cm mk T) (hO : CtOk T) (n : Int) :
    Calls Tryd.prog 32 #[.pointer (some ⟨t, 0, none⟩), .int .i64 n] w fun e w' => e = .returned (.tuple #[.bool (adOk T n), ev (adE T)]) ∧ TabV S w' t cm mk (adR T n) ∧ Mod [t] w w' := by
  have HT := Lib.hid hT
  have c2 := hT.box.cell 2 rfl
  have c3 := hT.box.cell 3 rfl
  have f3 := hT.box.free 3 (by simp)
  have h1 := hO.low
  have h2 := hO.cap
  have h3 := hO.lim
  unfold adR adOk adE
  by_cases h0 : T.low = T.all.length
  · have hd : ((T.low : Int) == (T.all.length : Int)) = true := by rw [h0]; simp
    have e0 : decide (T.low ≠ T.all.length) = false := by simpa using h0
    rw [if_pos h0, ev_n (by decide), e0]
    clear hT hO e0
    have H0 := Lib.hid h0
    clear h0
    go_enter Tryd.func32, Tryd.ntmps32
    go_wp2_with fail
    go_big_quiet (fail)
    go_wp2_with fail
    go_ret2
    exact ⟨rfl, HT.out.keep (by repeat (first | with_reducible exact Gr.refl _ | with_reducible refine Gr.drewN ?_ _ | with_reducible refine Gr.drew ?_ | with_reducible refine Gr.alloc ?_ _ | with_reducible refine Gr.setCell ?_ ?_ _ | (with_reducible refine Gr.trans ?_ (by assumption)) | omega | (dsimp only; omega))), Gr.mod (by repeat (first | with_reducible exact Gr.refl _ | with_reducible refine Gr.drewN ?_ _ | with_reducible refine Gr.drew ?_ | with_reducible refine Gr.alloc ?_ _ | with_reducible refine Gr.setCell ?_ ?_ _ | (with_reducible refine Gr.trans ?_ (by assumption)) | omega | (dsimp only; omega))) _⟩
  · have hd : ((T.low : Int) == (T.all.length : Int)) = false := by rw [beq_eq_false_iff_ne]; omega
    have e0 : decide (T.low ≠ T.all.length) = true := by simpa using h0
    rw [if_neg h0, ev_0, e0, Bool.true_and]
    clear hT hO e0
    by_cases h4 : (T.low : Int) = n
    · have hd2 : ((T.low : Int) != n) = false := by simpa using h4
      rw [decide_eq_true h4, if_pos rfl]
      have hV := fun w2 (hg : Gr w w2) => (HT.out.keep hg).setNum (j := 3) (u := .int .i64 ((T.low : Int) + 1)) (T' := adT T) (by unfold adT; simp) rfl rfl rfl
      have HV := Lib.hid hV
      have H4 := Lib.hid h4
      clear hV h4
      go_enter Tryd.func32, Tryd.ntmps32
      go_wp2_with fail
      go_big_quiet (fail)
      go_wp2_with fail
      go_ret2
      exact ⟨rfl, HV.out _ (by repeat (first | with_reducible exact Gr.refl _ | with_reducible refine Gr.drewN ?_ _ | with_reducible refine Gr.drew ?_ | with_reducible refine Gr.alloc ?_ _ | with_reducible refine Gr.setCell ?_ ?_ _ | (with_reducible refine Gr.trans ?_ (by assumption)) | omega | (dsimp only; omega))), ((by repeat (first | with_reducible exact Gr.refl _ | with_reducible refine Gr.drewN ?_ _ | with_reducible refine Gr.drew ?_ | with_reducible refine Gr.alloc ?_ _ | with_reducible refine Gr.setCell ?_ ?_ _ | (with_reducible refine Gr.trans ?_ (by assumption)) | omega | (dsimp only; omega)) : Gr w _).mod [t]).trans (Mod.setCell _ _ _ (by simp))⟩
    · have hd2 : ((T.low : Int) != n) = true := by simpa using h4
      rw [decide_eq_false h4, if_neg (by decide)]
      clear h4
      go_enter Tryd.func32, Tryd.ntmps32
      go_wp2_with fail
      go_big_quiet (fail)
      go_wp2_with fail
      go_ret2
      exact ⟨rfl, HT.out.keep (by repeat (first | with_reducible exact Gr.refl _ | with_reducible refine Gr.drewN ?_ _ | with_reducible refine Gr.drew ?_ | with_reducible refine Gr.alloc ?_ _ | with_reducible refine Gr.setCell ?_ ?_ _ | (with_reducible refine Gr.trans ?_ (by assumption)) | omega | (dsimp only; omega))), Gr.mod (by repeat (first | with_reducible exact Gr.refl _ | with_reducible refine Gr.drewN ?_ _ | with_reducible refine Gr.drew ?_ | with_reducible refine Gr.alloc ?_ _ | with_reducible refine Gr.setCell ?_ ?_ _ | (with_reducible refine Gr.trans ?_ (by assumption)) | omega | (dsimp only; omega))) _⟩
def atE (T : Ct) (n : Int) : Int := if n < 1 ∨ (T.all.length : Int) < n then 1 else if T.drp.getD (n - 1).toNat false = true then 6 else 0
def atL (T : Ct) (n : Int) : List Wt := if atE T n = 0 then T.all.getD (n - 1).toNat [] else []
/-- what At hands back -/
def AtT (T : Ct) (n : Int) (w : World) (e : Ending) (w' : World) : Prop := ∃ o m c, e = .returned (.tuple #[.slice o m c, ev (atE T n)]) ∧ OwnW w' w.heap.size o m c (atL T n) ∧ Gr w w'
set_option maxRecDepth 100000 in
set_option maxHeartbeats 2000000 in
theorem at_v (hT : TabV S w t cm mk T) (hO : CtOk T) (n : Int) :
    Calls Tryd.prog 18 #[.pointer (some ⟨t, 0, none⟩), .int .i64 n] w (AtT T n w) := by
  have c2 := hT.box.cell 2 rfl
  have c4 := hT.box.cell 4 rfl
  have h2 := hO.cap
  have h3 := hO.lim
  by_cases h0 : n < 1 ∨ (T.all.length : Int) < n
  · have e1 : atE T n = 1 := by unfold atE; rw [if_pos h0]
    have e2 : atL T n = [] := by unfold atL; rw [if_neg (by rw [e1]; decide)]
    unfold AtT
    rw [e1, e2, ev_n (by decide)]
    clear hT hO e1 e2
    have hN := Lib.hid (ownW_nil w w.heap.size)
    generalize T.all.length = N at *
    by_cases h5 : n < 1
    · have hd : decide (n < 1) = true := by simpa using h5
      clear h0
      go_enter Tryd.func18, Tryd.ntmps18
      go_wp2_with fail
      go_ret2
      exact ⟨none, 0, 0, rfl, hN.out, Gr.refl _⟩
    · have hd : decide (n < 1) = false := by simpa using h5
      have hd2 : decide ((N : Int) < n) = true := by simp; omega
      clear h0
      go_enter Tryd.func18, Tryd.ntmps18
      go_wp2_with fail
      go_ret2
      exact ⟨none, 0, 0, rfl, hN.out, Gr.refl _⟩
  · obtain ⟨i, rfl⟩ : ∃ i : Nat, n = (i : Int) + 1 := ⟨(n - 1).toNat, by omega⟩
    have hi : i < T.all.length := by omega
    have e3 : ((i : Int) + 1 - 1).toNat = i := by omega
    have hd : decide ((i : Int) + 1 < 1) = false := by simp; omega
    have hd2 : decide ((T.all.length : Int) < (i : Int) + 1) = false := by simp; omega
    have hdl : i < T.drp.length := by rw [hO.len]; exact hi
    obtain ⟨f, hf, hc⟩ := hT.m1
    have hl := hf.look Tryd.underlying3 Tryd.underlying53 (ws_zero w) (k := (i : Int) + 1) (wf_i64 (by omega) (by omega))
    cases hb : T.drp[i]
    · have hg : T.drp[i]? = some false := by rw [List.getElem?_eq_getElem hdl, hb]
      have e1 : atE T ((i : Int) + 1) = 0 := by
        unfold atE
        rw [if_neg h0, e3, List.getD_eq_getElem?_getD, hg]; rfl
      obtain ⟨l, o, m, c, g1, g2, g3⟩ := hc.some hg
      have e2 : atL T ((i : Int) + 1) = l := by unfold atL; rw [if_pos e1, e3, List.getD_eq_getElem?_getD, g2]; rfl
      have hfw := hO.few l (List.mem_of_getElem? g2)
      have hm : m ≤ 1000000 := by have := g3.len; have := hfw.len; omega
      have hC := Lib.hid (copied_n (g3.ex (hideL_ex w S)) hm)
      rw [g1] at hl
      simp only [Option.getD_some, Option.isSome_some] at hl
      unfold AtT
      rw [e1, e2, ev_0]
      clear hT hO e1 e2 g1 g2 g3 hb hg hfw h0 hf hc
      go_enter Tryd.func18, Tryd.ntmps18
      go_wp2_with (go_at_call 38; (with_reducible refine hC.out.mono ?_); rintro e w1 ⟨o2, c2, rfl, ho, hg⟩)
      go_ret2
      exact ⟨o2, m, c2, rfl, ho, hg⟩
    · have hg : T.drp[i]? = some true := by rw [List.getElem?_eq_getElem hdl, hb]
      have e1 : atE T ((i : Int) + 1) = 6 := by
        unfold atE
        rw [if_neg h0, e3, List.getD_eq_getElem?_getD, hg]; rfl
      have e2 : atL T ((i : Int) + 1) = [] := by unfold atL; rw [if_neg (by rw [e1]; decide)]
      rw [hc.none hg] at hl
      simp only [Option.getD_none, Option.isSome_none] at hl
      have hN := Lib.hid (ownW_nil w w.heap.size)
      unfold AtT
      rw [e1, e2, ev_n (by decide)]
      clear hT hO e1 e2 hb hg h0 hf hc
      go_enter Tryd.func18, Tryd.ntmps18
      go_wp2_with fail
      go_ret2
      exact ⟨none, 0, 0, rfl, hN.out, Gr.refl _⟩
end
end Go.Proofs.YtfejdbcfcpmdiaaDoor
