import Derived.Test.YtfejdbcfcpmdiaaDoorWgz
import Derived.Test.YtfejdbcfcpmdiaaDoorWmz
namespace Go.Proofs.YtfejdbcfcpmdiaaDoor
set_option linter.unusedVariables false
set_option linter.unusedSimpArgs false
open Go.BigFrame Go.RowKit Go.WideShapes Go.ChangeMaps

theorem ownW_empty {w0 w : World} (h : Gr w0 w) : OwnW (w.alloc (.cells #[] 49)) w0.heap.size (some ⟨w.heap.size, 0, none⟩) 0 0 [] :=
  ⟨⟨rfl, .inr ⟨w.heap.size, 0, #[], rfl, h.le, (by show (w.heap.push (.cells #[] 49))[w.heap.size]? = _; simp), Nat.le_refl _, Nat.zero_le _, rfl, rfl⟩⟩,
   ⟨rfl, Nat.le_refl _, Nat.zero_le _, fun q => (by cases q), ⟨0, 0, fun q => absurd q (by omega), fun i hi => absurd hi (by omega)⟩, fun i hi => absurd hi (by omega)⟩⟩

set_option maxRecDepth 100000 in
set_option maxHeartbeats 2000000 in
theorem copied_any (oa : Option Addr) (n cap : Nat) (l : List Wt) (w : World) (h : WritesAt w oa n cap l) (hn : n ≤ 1000000) :
    Calls Tryd.prog 38 #[.slice oa n cap] w (NewW w l) := by
  have H := Lib.hid h
  clear h
  go_enter Tryd.func38, Tryd.ntmps38
  go_wp2_with (at_builtin; refine wpList_ws rfl _ _ rfl w.heap.size (Gr.le (by repeat (first | with_reducible exact Gr.refl _ | with_reducible refine Gr.drewN ?_ _ | with_reducible refine Gr.drew ?_ | with_reducible refine Gr.alloc ?_ _ | with_reducible refine Gr.setCell ?_ ?_ _ | (with_reducible refine Gr.trans ?_ (by assumption)) | omega | (dsimp only; omega)))) rfl (ownW_empty (Gr.refl w)) rfl (H.out.keep (by repeat (first | with_reducible exact Gr.refl _ | with_reducible refine Gr.drewN ?_ _ | with_reducible refine Gr.drew ?_ | with_reducible refine Gr.alloc ?_ _ | with_reducible refine Gr.setCell ?_ ?_ _ | (with_reducible refine Gr.trans ?_ (by assumption)) | omega | (dsimp only; omega)))) (by omega) ?_; intro oc c3 w1 ho1 hg1)
  rw [Nat.zero_add, List.nil_append] at ho1
  have hg : Gr w w1 := wgrown_gr hg1 (ownW_empty (Gr.refl w)) (by repeat (first | with_reducible exact Gr.refl _ | with_reducible refine Gr.drewN ?_ _ | with_reducible refine Gr.drew ?_ | with_reducible refine Gr.alloc ?_ _ | with_reducible refine Gr.setCell ?_ ?_ _ | (with_reducible refine Gr.trans ?_ (by assumption)) | omega | (dsimp only; omega))) (Nat.le_refl _)
  have e := H.out.len
  subst e
  go_ret
  exact ⟨oc, c3, rfl, ho1, hg⟩

/-- the same, with the length as it is known -/
def NewN (w : World) (n : Nat) (l : List Wt) (e : Ending) (w' : World) : Prop := ∃ oa cap, e = .returned (.slice oa n cap) ∧ OwnW w' w.heap.size oa n cap l ∧ Gr w w'
theorem copied_n {oa : Option Addr} {n cap : Nat} {l : List Wt} {w : World} (h : WritesAt w oa n cap l) (hn : n ≤ 1000000) : Calls Tryd.prog 38 #[.slice oa n cap] w (NewN w n l) := by
  have e := h.len
  subst e
  exact copied_any oa _ cap l w h hn
theorem given_n {oa : Option Addr} {n cap : Nat} {l : List Wt} {w : World} (h : WritesAt w oa n cap l) (hn : n ≤ 1000000) : Calls Tryd.prog 19 #[.slice oa n cap] w (NewN w n l) := by
  have e := h.len
  subst e
  exact given_any oa _ cap l w h hn
/-- what is of a call's own from a block on -/
theorem Tab.keep {w w' : World} {base t cm mk : Nat} {thr lim last low hold : Int} {es ms : Array MapEntry} {ck mc : Nat} (h : Tab w base t cm mk thr lim last low hold es ck ms mc) (hg : Gr w w') : Tab w' base t cm mk thr lim last low hold es ck ms mc := by
  have hb : ∀ {b : Nat} {o : Obj}, w.heap[b]? = some o → w'.heap[b]? = some o := fun {b o} q => by
    have hlt : b < w.heap.size := by
      rcases Nat.lt_or_ge b w.heap.size with r | r
      · exact r
      · rw [Array.getElem?_eq_none r] at q; cases q
    rw [hg.block b hlt]; exact q
  exact ⟨h.ht, h.hcm, h.hmk, Nat.lt_of_lt_of_le h.lt hg.le, h.ne1, h.ne2, h.ne3, hg.keep h.c0, hg.keep h.c1, hg.keep h.c2, hg.keep h.c3, hg.keep h.c4, hg.keep h.c5, hg.keep h.c6, hb h.m1, hb h.m2, fun o => by rw [hg.frozen h.lt]; exact h.fz o⟩

section
variable {thr lim last low hold : Int} {t cm mk : Nat} {es ms : Array MapEntry} {ck mc : Nat} {base : Nat} {oa : Option Addr} {n cap : Nat} {l : List Wt} {w : World}

set_option maxRecDepth 100000 in
set_option maxHeartbeats 2000000 in
theorem append_late (hT : Tab w base t cm mk thr lim last low hold es ck ms mc) (h : WritesAt w oa n cap l) (hn : 0 < n) (hr : writesOkB l = true) (at_ : Int) (hl : at_ ≠ last) :
    Calls Tryd.prog 17 #[.pointer (some ⟨t, 0, none⟩), .int .i64 at_, .slice oa n cap] w fun e w' => e = .returned (.tuple #[.bool false, .nilIface]) ∧ Gr w w' := by
  have hR := wright_any oa n cap l w h
  rw [hr] at hR
  have hR := Lib.hid hR
  have HT := Lib.hid hT
  clear hr hT
  go_enter Tryd.func17, Tryd.ntmps17
  go_wp2_with fail
  refine hR.out.mono ?_
  rintro e w1 ⟨rfl, hg1⟩
  have c2 := (HT.out.keep hg1).c2
  go_wp2_with fail
  go_ret2
  exact ⟨rfl, hg1⟩

set_option maxRecDepth 100000 in
set_option maxHeartbeats 2000000 in
theorem append_bad (h : WritesAt w oa n cap l) (hr : n = 0 ∨ (0 < n ∧ writesOkB l = false)) (at_ : Int) :
    Calls Tryd.prog 17 #[.pointer (some ⟨t, 0, none⟩), .int .i64 at_, .slice oa n cap] w fun e w' => e = .returned (.tuple #[.bool false, errV 1]) ∧ Gr w w' := by
  have hR := wright_any oa n cap l w h
  rcases hr with hr | ⟨hn, hr⟩
  · subst hr
    go_enter Tryd.func17, Tryd.ntmps17
    go_wp2_with fail
    go_ret2
    exact ⟨rfl, Gr.refl _⟩
  · rw [hr] at hR
    have hR := Lib.hid hR
    clear hr
    go_enter Tryd.func17, Tryd.ntmps17
    go_wp2_with fail
    refine hR.out.mono ?_
    rintro e w1 ⟨rfl, hg1⟩
    go_wp2_with fail
    go_ret2
    exact ⟨rfl, hg1⟩

set_option maxRecDepth 100000 in
set_option maxHeartbeats 2000000 in
theorem append_ok (hT : Tab w base t cm mk thr lim last low hold #[] ck ms mc) (h : WritesAt w oa n cap l) (hn : 0 < n) (hn2 : n ≤ 1000000) (hr : writesOkB l = true) (h0 : 0 ≤ last) (hl : last < lim) (hm : lim ≤ 1099511627776) :
    Calls Tryd.prog 17 #[.pointer (some ⟨t, 0, none⟩), .int .i64 last, .slice oa n cap] w fun e w' => ∃ o c, e = .returned (.tuple #[.bool true, .nilIface]) ∧ Below base w w' ∧ WritesAt w' o n c l
      ∧ Tab w' base t cm mk thr lim (last + 1) low hold #[⟨.int .i64 (last + 1), .slice o n c, ck⟩] (ck + 1) ms mc := by
  have hR := wright_any oa n cap l w h
  rw [hr] at hR
  have hR := Lib.hid hR
  have HT := Lib.hid hT
  have H := Lib.hid h
  clear hr hT h
  have hne : (last != lim) = true := by simp; omega
  have hne2 : (last == lim) = false := by simp; omega
  go_enter Tryd.func17, Tryd.ntmps17
  go_wp2_with fail
  refine hR.out.mono ?_
  rintro e w1 ⟨rfl, hg1⟩
  have T1 := HT.out.keep hg1
  have c1 := T1.c1
  have c2 := T1.c2
  have c4 := T1.c4
  have m1 := T1.m1
  have f2 := T1.fz 2
  have T1 := Lib.hid T1
  go_wp2_with fail
  go_big_quiet (fail)
  go_wp2_with fail
  have hgq : Gr w (w1.drewN nq) := hg1.drewN _
  have T2 := Lib.hid (((T1.out.keep ((Gr.refl w1).drewN nq))).setLast (last + 1))
  have L2 := Lib.hid ((H.out.keep hgq).set (T1.out.keep ((Gr.refl w1).drewN nq)).c2 (.int .i64 (last + 1)))
  have B2 : Below base w ((w1.drewN nq).setCell ⟨t, 2, none⟩ (.int .i64 (last + 1))) := Below.setCell (Below.mono hgq (by have := T1.out.ht; have := HT.out.lt; omega)) (p := ⟨t, 2, none⟩) T1.out.ht _
  clear c1 c2 c4 m1 f2 hR T1
  generalize (w1.drewN nq).setCell ⟨t, 2, none⟩ (.int .i64 (last + 1)) = w2 at *
  have c2 := T2.out.c2
  have c4 := T2.out.c4
  have m2 := T2.out.m1
  go_region_with (first
    | (go_at_call 38; ((with_reducible refine Calls.mono (copied_n (L2.out.keep ?_) hn2) ?_); (focus ((repeat (first | with_reducible exact Gr.refl _ | with_reducible refine Gr.drewN ?_ _ | with_reducible refine Gr.drew ?_ | with_reducible refine Gr.alloc ?_ _ | with_reducible refine Gr.setCell ?_ ?_ _ | (with_reducible refine Gr.trans ?_ (by assumption)) | omega | (dsimp only; omega))); done))); rintro e w3 ⟨o, c, rfl, ho, hg3⟩; have hg23 : Gr w2 w3 := Gr.trans (by (repeat (first | with_reducible exact Gr.refl _ | with_reducible refine Gr.drewN ?_ _ | with_reducible refine Gr.drew ?_ | with_reducible refine Gr.alloc ?_ _ | with_reducible refine Gr.setCell ?_ ?_ _ | (with_reducible refine Gr.trans ?_ (by assumption)) | omega | (dsimp only; omega)))) hg3; have c2 := (T2.out.keep hg23).c2; have c4 := (T2.out.keep hg23).c4; have m3 := (T2.out.keep hg23).m1; have hU := run_first cm ck (last + 1) (.slice o n c) w3 m3))
  all_goals
    have hT3 := Lib.hid ((T2.out.keep hg23).setMap #[⟨.int .i64 (last + 1), .slice o n c, ck⟩] (ck + 1))
    have hB3 : Below base w (setBlock w3 cm (.map #[⟨.int .i64 (last + 1), .slice o n c, ck⟩] (ck + 1))) :=
      (B2.trans (Below.mono hg23 (by have := T2.out.ht; have := T2.out.lt; omega))).trans (below_setBlock m3 _ T2.out.hcm)
    have hL3 := Lib.hid (ho.rows.setMap m3 (.map #[⟨.int .i64 (last + 1), .slice o n c, ck⟩] (ck + 1)))
    clear hU m3 m2 ho
    go_wp2_with fail
    go_ret2
    exact ⟨o, c, rfl, hB3, hL3.out, hT3.out⟩
end
end Go.Proofs.YtfejdbcfcpmdiaaDoor
