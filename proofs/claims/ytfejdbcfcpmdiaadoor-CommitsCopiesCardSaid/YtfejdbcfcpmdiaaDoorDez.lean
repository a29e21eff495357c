import Derived.Test.YtfejdbcfcpmdiaaDoorDdz
namespace Go.Proofs.YtfejdbcfcpmdiaaDoor
set_option linter.unusedVariables false
set_option linter.unusedSimpArgs false
open Go.BigFrame Go.RowKit Go.WideShapes

/-! A step, whatever it is; and what holds of both tables behind it. -/
def stp (T : Ct) (d : Ds) : Ct :=
  if d.verb = 0 then apR T (if d.rt = true then (T.all.length : Int) else d.n) d.l
  else if d.verb = 2 then mkR T d.th d.n
  else if d.verb = 4 then grR T d.th
  else if d.verb = 5 then yiR T d.th
  else if d.verb = 6 then adR T (if d.rt = true then (T.low : Int) else d.n)
  else if d.verb = 7 then tmT T d.n
  else T
theorem apR_ok {T : Ct} (h : CtOk T) {n : Int} {l : List Wt} (hf : FewWs l) : CtOk (apR T n l) := by
  unfold apR
  split
  · rename_i ha; exact apT_ok h ha hf
  · exact h
theorem adR_ok {T : Ct} (h : CtOk T) {n : Int} : CtOk (adR T n) := by
  unfold adR
  split
  · rename_i ha; exact adT_ok h ha
  · exact h
theorem stp_ok {T : Ct} (h : CtOk T) {d : Ds} (hf : FewWs d.l) (hn : (Lit.int .i64 d.n).wf = true) : CtOk (stp T d) := by
  unfold stp
  split
  · exact apR_ok h hf
  split
  · unfold mkR
    split
    · exact mkT_ok h hn
    · exact h
  split
  · unfold grR
    split
    · rename_i ha
      unfold grOk at ha
      rw [Bool.and_eq_true] at ha
      obtain ⟨i, hi, hl⟩ := isT_nat ha.1
      have := h.mk2
      exact hoT_ok h ⟨by omega, by omega⟩
    · exact h
  split
  · unfold yiR
    split
    · exact hoT_ok h ⟨by omega, by omega⟩
    · exact h
  split
  · exact adR_ok h
  split
  · exact tmT_ok h
  · exact h
/-- nothing falls -/
structure Up16 (T T' : Ct) : Prop where
  all : T.all.length ≤ T'.all.length
  low : T.low ≤ T'.low
  lim : T'.lim = T.lim
theorem Up16.refl (T : Ct) : Up16 T T := ⟨Nat.le_refl _, Nat.le_refl _, rfl⟩
theorem apR_up (T : Ct) (n : Int) (l : List Wt) : Up16 T (apR T n l) := by
  unfold apR
  split
  · exact ⟨by unfold apT; simp, Nat.le_refl _, rfl⟩
  · exact Up16.refl T
theorem adR_up (T : Ct) (n : Int) : Up16 T (adR T n) := by
  unfold adR
  split
  · exact ⟨Nat.le_refl _, Nat.le_succ _, rfl⟩
  · exact Up16.refl T
theorem stp_mono (T : Ct) (d : Ds) : Up16 T (stp T d) := by
  unfold stp
  split
  · exact apR_up T _ _
  split
  · unfold mkR; split <;> exact ⟨Nat.le_refl _, Nat.le_refl _, rfl⟩
  split
  · unfold grR; split <;> exact ⟨Nat.le_refl _, Nat.le_refl _, rfl⟩
  split
  · unfold yiR; split <;> exact ⟨Nat.le_refl _, Nat.le_refl _, rfl⟩
  split
  · exact adR_up T _
  split
  · exact ⟨Nat.le_refl _, Nat.le_refl _, rfl⟩
  · exact Up16.refl T
section
variable {S : List Nat} {W w : World} {t cm mk : Nat} {T : Ct} {p : Rp}
theorem does_v (hB : Both S W w t cm mk T p) (d : Ds) {o1 : Option Addr} {m1 c1 : Nat} (hw : WritesAt W o1 m1 c1 d.l) (hf : FewWs d.l) (hn : (Lit.int .i64 d.n).wf = true) :
    Calls Tryd.prog 10 #[.pointer (some ⟨t, 0, none⟩), .agg (refL T p).toArray, .agg (doL d o1 m1 c1).toArray] w (DoesT S W w t cm mk (stp T d)) := by
  obtain ⟨vb, n, th, rt, l⟩ := d
  by_cases h0 : vb = 0
  · subst h0
    cases rt
    · exact does_0f hB n th l o1 m1 c1 hw hf hn
    · exact does_0t hB n th l o1 m1 c1 hw hf hn
  by_cases h1 : vb = 1
  · subst h1; exact does_1 hB n th rt l o1 m1 c1 hw hf hn
  by_cases h2 : vb = 2
  · subst h2; exact does_2 hB n th rt l o1 m1 c1 hw hf hn
  by_cases h3 : vb = 3
  · subst h3; exact does_3 hB n th rt l o1 m1 c1 hw hf hn
  by_cases h4 : vb = 4
  · subst h4; exact does_4 hB n th rt l o1 m1 c1 hw hf hn
  by_cases h5 : vb = 5
  · subst h5; exact does_5 hB n th rt l o1 m1 c1 hw hf hn
  by_cases h6 : vb = 6
  · subst h6
    cases rt
    · exact does_6f hB n th l o1 m1 c1 hw hf hn
    · exact does_6t hB n th l o1 m1 c1 hw hf hn
  by_cases h7 : vb = 7
  · subst h7; exact does_7 hB n th rt l o1 m1 c1 hw hf hn
  have e : stp T ⟨vb, n, th, rt, l⟩ = T := by unfold stp; simp [h0, h2, h4, h5, h6, h7]
  rw [e]
  exact does_8 hB n th rt l o1 m1 c1 hw hf hn vb ⟨h0, h1, h2, h3, h4, h5, h6, h7⟩
theorem Both.keep {w' : World} (h : Both S W w t cm mk T p) (hg : Gr w w') : Both S W w' t cm mk T p :=
  ⟨h.tab.keep hg, h.ref.keep hg, h.ok, fun b hb => Nat.lt_of_lt_of_le (h.lt b hb) hg.le, h.gr.trans hg, h.bt, h.bc, h.bm, h.hd⟩
theorem Both.grow {S' : List Nat} {w' : World} (h : Both S W w t cm mk T p) (hg : Gr w w') (h1 : t ∈ S') (h2 : cm ∈ S') (h3 : mk ∈ S') (hs : ∀ b ∈ S', b ∈ S ∨ w.heap.size ≤ b) (hl : ∀ b ∈ S', b < w'.heap.size) : Both S' W w' t cm mk T p :=
  ⟨h.tab.keepN hg h1 h2 h3 hs, h.ref.ex (hideL_new hg hs), h.ok, hl, h.gr.trans hg, h.bt, h.bc, h.bm, h.hd⟩
/-- other blocks are written -/
theorem Both.other {S' : List Nat} {w' : World} (h : Both S W w t cm mk T p) (hM : Mod S' w w') (hs : ∀ b ∈ S', b ∈ S) (h1 : t ∉ S') (h2 : cm ∉ S') (h3 : mk ∉ S') (hb : ∀ b ∈ S', W.heap.size ≤ b) : Both S W w' t cm mk T p :=
  ⟨h.tab.mod hM hs h1 h2 h3, h.ref.mod hM hs, h.ok, fun b q => Nat.lt_of_lt_of_le (h.lt b q) hM.size, hM.gr h.gr hb, h.bt, h.bc, h.bm, h.hd⟩
theorem Both.next {w' : World} {T' : Ct} {p' : Rp} (h : Both S W w t cm mk T p) (h1 : TabV S w' t cm mk T') (h2 : RefV S W w' T' p') (h3 : Mod [t, cm, mk] w w') (h4 : CtOk T') : Both S W w' t cm mk T' p' :=
  ⟨h1, h2, h4, fun b hb => Nat.lt_of_lt_of_le (h.lt b hb) h3.size, h3.gr h.gr (fun b hb => by
    simp only [List.mem_cons, List.not_mem_nil, or_false] at hb
    rcases hb with rfl | rfl | rfl
    · exact h.bt
    · exact h.bc
    · exact h.bm), h.bt, h.bc, h.bm, h.hd⟩
end
set_option maxRecDepth 100000 in
set_option maxHeartbeats 2000000 in
theorem refNew_bad (thr lim : Int) (w : World) (h : newB thr lim = false) : Calls Tryd.prog 9 #[.int .i64 thr, .int .i64 lim] w fun e w' => e = .returned (.tuple #[.agg #[.int .i64 lim, .int .i64 0, .slice none 0 0, .slice none 0 0, .slice none 0 0, .int .i64 (-1)], .bool false]) ∧ Gr w w' := by
  have hb := newB_bad h
  clear h
  obtain ⟨V, hV, B0, B1, hg0, hsz⟩ := boxes2 w 31 zRT [.int .i64 lim, .int .i64 0, .slice none 0 0, .slice none 0 0, .slice none 0 0, .int .i64 (-1)]
  obtain ⟨q, hq⟩ : ∃ q : Prop, q := ⟨True, trivial⟩
  by_cases h1 : thr < 1
  · have q1 : decide (thr < 1) = true := by simpa using h1
    clear hb
    go_enter Tryd.func9, Tryd.ntmps9
    go_upto_region 2 with fail
    rw [← hV]
    clear hV
    generalize hbx : w.heap.size = bx at *
    have Hbx := Lib.hid hbx
    clear hbx
    go_wp2_with (first | ((with_reducible refine wpList_load_box (ty := 31) (B1) ?_ ?_ Tryd.underlying31 ?_ ?_ ?_); (focus (exact rfl)); (focus (exact ⟨_, rfl, rfl⟩)); (focus (exact rfl)); (focus kernel_rfl)) | ((with_reducible refine wpList_store_box (ty := 31) (B0) ([.int .i64 lim, .int .i64 0, .slice none 0 0, .slice none 0 0, .slice none 0 0, .int .i64 (-1)]) ?_ ?_ ?_ ?_ ?_ ?_); (focus (exact rfl)); (focus (exact ⟨_, _, rfl, rfl, rfl⟩)); (focus (exact rfl)); (focus kernel_rfl); (focus kernel_rfl)))
    have Z := B0.setAll (us := [.int .i64 lim, .int .i64 0, .slice none 0 0, .slice none 0 0, .slice none 0 0, .int .i64 (-1)]) rfl
    refine bodyPost_ret (Bx.ret2 Z rfl _ rfl rfl Tryd.underlying31 rfl (by kernel_rfl)) rfl ?_
    exact ⟨rfl, hg0.setCells (by rw [Hbx.out]; exact Nat.le_refl _) _ _⟩
  have q1 : decide (thr < 1) = false := by simpa using h1
  by_cases h2 : 64 < thr
  · have q2 : decide (64 < thr) = true := by simpa using h2
    clear hb
    go_enter Tryd.func9, Tryd.ntmps9
    go_upto_region 2 with fail
    rw [← hV]
    clear hV
    generalize hbx : w.heap.size = bx at *
    have Hbx := Lib.hid hbx
    clear hbx
    go_wp2_with (first | ((with_reducible refine wpList_load_box (ty := 31) (B1) ?_ ?_ Tryd.underlying31 ?_ ?_ ?_); (focus (exact rfl)); (focus (exact ⟨_, rfl, rfl⟩)); (focus (exact rfl)); (focus kernel_rfl)) | ((with_reducible refine wpList_store_box (ty := 31) (B0) ([.int .i64 lim, .int .i64 0, .slice none 0 0, .slice none 0 0, .slice none 0 0, .int .i64 (-1)]) ?_ ?_ ?_ ?_ ?_ ?_); (focus (exact rfl)); (focus (exact ⟨_, _, rfl, rfl, rfl⟩)); (focus (exact rfl)); (focus kernel_rfl); (focus kernel_rfl)))
    have Z := B0.setAll (us := [.int .i64 lim, .int .i64 0, .slice none 0 0, .slice none 0 0, .slice none 0 0, .int .i64 (-1)]) rfl
    refine bodyPost_ret (Bx.ret2 Z rfl _ rfl rfl Tryd.underlying31 rfl (by kernel_rfl)) rfl ?_
    exact ⟨rfl, hg0.setCells (by rw [Hbx.out]; exact Nat.le_refl _) _ _⟩
  have q2 : decide (64 < thr) = false := by simpa using h2
  by_cases h3 : lim < 1
  · have q3 : decide (lim < 1) = true := by simpa using h3
    clear hb
    go_enter Tryd.func9, Tryd.ntmps9
    go_upto_region 2 with fail
    rw [← hV]
    clear hV
    generalize hbx : w.heap.size = bx at *
    have Hbx := Lib.hid hbx
    clear hbx
    go_wp2_with (first | ((with_reducible refine wpList_load_box (ty := 31) (B1) ?_ ?_ Tryd.underlying31 ?_ ?_ ?_); (focus (exact rfl)); (focus (exact ⟨_, rfl, rfl⟩)); (focus (exact rfl)); (focus kernel_rfl)) | ((with_reducible refine wpList_store_box (ty := 31) (B0) ([.int .i64 lim, .int .i64 0, .slice none 0 0, .slice none 0 0, .slice none 0 0, .int .i64 (-1)]) ?_ ?_ ?_ ?_ ?_ ?_); (focus (exact rfl)); (focus (exact ⟨_, _, rfl, rfl, rfl⟩)); (focus (exact rfl)); (focus kernel_rfl); (focus kernel_rfl)))
    have Z := B0.setAll (us := [.int .i64 lim, .int .i64 0, .slice none 0 0, .slice none 0 0, .slice none 0 0, .int .i64 (-1)]) rfl
    refine bodyPost_ret (Bx.ret2 Z rfl _ rfl rfl Tryd.underlying31 rfl (by kernel_rfl)) rfl ?_
    exact ⟨rfl, hg0.setCells (by rw [Hbx.out]; exact Nat.le_refl _) _ _⟩
  have q3 : decide (lim < 1) = false := by simpa using h3
  have q4 : decide (1099511627776 < lim) = true := by simp; omega
  clear hb
  go_enter Tryd.func9, Tryd.ntmps9
  go_upto_region 2 with fail
  rw [← hV]
  clear hV
  generalize hbx : w.heap.size = bx at *
  have Hbx := Lib.hid hbx
  clear hbx
  go_wp2_with (first | ((with_reducible refine wpList_load_box (ty := 31) (B1) ?_ ?_ Tryd.underlying31 ?_ ?_ ?_); (focus (exact rfl)); (focus (exact ⟨_, rfl, rfl⟩)); (focus (exact rfl)); (focus kernel_rfl)) | ((with_reducible refine wpList_store_box (ty := 31) (B0) ([.int .i64 lim, .int .i64 0, .slice none 0 0, .slice none 0 0, .slice none 0 0, .int .i64 (-1)]) ?_ ?_ ?_ ?_ ?_ ?_); (focus (exact rfl)); (focus (exact ⟨_, _, rfl, rfl, rfl⟩)); (focus (exact rfl)); (focus kernel_rfl); (focus kernel_rfl)))
  have Z := B0.setAll (us := [.int .i64 lim, .int .i64 0, .slice none 0 0, .slice none 0 0, .slice none 0 0, .int .i64 (-1)]) rfl
  refine bodyPost_ret (Bx.ret2 Z rfl _ rfl rfl Tryd.underlying31 rfl (by kernel_rfl)) rfl ?_
  exact ⟨rfl, hg0.setCells (by rw [Hbx.out]; exact Nat.le_refl _) _ _⟩
end Go.Proofs.YtfejdbcfcpmdiaaDoor
