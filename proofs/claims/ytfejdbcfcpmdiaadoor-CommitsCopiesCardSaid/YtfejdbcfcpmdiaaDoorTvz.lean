import Derived.Test.YtfejdbcfcpmdiaaDoorCtz
import Derived.Test.YtfejdbcfcpmdiaaDoorMvz
import Derived.Test.YtfejdbcfcpmdiaaDoorWpz
namespace Go.Proofs.YtfejdbcfcpmdiaaDoor
set_option linter.unusedVariables false
set_option linter.unusedSimpArgs false
open Go.BigFrame Go.RowKit Go.WideShapes

/-! The table of commits in memory: the program's (TabV), and the document's (RefV). -/
theorem WritesAt.ex {w w' : World} {oa : Option Addr} {n cap : Nat} {l : List Wt} (h : WritesAt w oa n cap l) (hg : Ex w w') : WritesAt w' oa n cap l := by
  obtain ⟨h1, h2, h3, h4, ⟨b, off, h5, h6⟩, h7⟩ := h
  exact ⟨h1, h2, h3, h4, ⟨b, off, fun q => ⟨(h5 q).1, Nat.lt_of_lt_of_le (h5 q).2 hg.size⟩, fun i hi => ⟨hg.cell _ _ _ (h6 i hi).1, hg.cell _ _ _ (h6 i hi).2.1, hg.cell _ _ _ (h6 i hi).2.2⟩⟩, h7⟩
/-- what the map of commits holds -/
structure CmOf (S : List Nat) (w : World) (T : Ct) (f : MF) : Prop where
  yes : ∀ i : Nat, T.drp[i]? = some false → (f ((i : Int) + 1)).isSome = true
  get : ∀ (k : Int) (v : Value), f k = some v → ∃ (i : Nat) (l : List Wt) (o : Option Addr) (n c : Nat), k = (i : Int) + 1 ∧ T.all[i]? = some l ∧ T.drp[i]? = some false ∧ v = .slice o n c ∧ WritesAt (hideL w S) o n c l
theorem CmOf.ex {S S' : List Nat} {w w' : World} {T : Ct} {f : MF} (h : CmOf S w T f) (hx : Ex (hideL w S) (hideL w' S')) : CmOf S' w' T f :=
  ⟨h.yes, fun k v hv => by
    obtain ⟨i, l, o, n, c, h1, h2, h3, h4, h5⟩ := h.get k v hv
    exact ⟨i, l, o, n, c, h1, h2, h3, h4, h5.ex hx⟩⟩
theorem CmOf.dom {S : List Nat} {w : World} {T : Ct} {f : MF} (h : CmOf S w T f) (hd : T.drp.length = T.all.length) : ∀ k, (f k).isSome = true → 1 ≤ k ∧ k < 1 + (T.all.length : Int) := fun k hk => by
  obtain ⟨v, hv⟩ := Option.isSome_iff_exists.1 hk
  obtain ⟨i, l, o, n, c, h1, h2, -, -, -⟩ := h.get k v hv
  have := (List.getElem?_eq_some_iff.1 h2).1
  omega
theorem cntB_range : ∀ (l : List Bool), ((List.range l.length).filter fun i => decide (l[i]? = some false)).length = cntB l
  | [] => rfl
  | b :: l => by
    rw [List.length_cons, List.range_succ_eq_map, List.filter_cons, List.filter_map]
    have ih := cntB_range l
    have e : ((List.range l.length).filter ((fun i => decide ((b :: l)[i]? = some false)) ∘ Nat.succ)).length = cntB l := ih
    unfold cntB at *
    cases b
    · simp only [List.getElem?_cons_zero, decide_true, if_true, List.length_cons, List.length_map, e]
      simp
    · simp only [List.getElem?_cons_zero, Option.some.injEq, Bool.true_eq_false, decide_false, Bool.false_eq_true, if_false, List.length_map, e]
      simp
theorem CmOf.count {S : List Nat} {w : World} {T : Ct} {f : MF} (h : CmOf S w T f) (hd : T.drp.length = T.all.length) : ((List.range T.all.length).filter fun i => (f (1 + (i : Nat))).isSome).length = cntB T.drp := by
  rw [← cntB_range, hd]
  congr 1
  refine List.filter_congr fun i hi => ?_
  rw [Bool.eq_iff_iff, decide_eq_true_iff]
  constructor
  · intro q
    obtain ⟨v, hv⟩ := Option.isSome_iff_exists.1 q
    obtain ⟨j, l, o, n, c, h1, h2, h3, -, -⟩ := h.get _ v hv
    obtain rfl : i = j := by omega
    exact h3
  · intro q
    rw [Int.add_comm]
    exact h.yes i q
theorem CmOf.none {S : List Nat} {w : World} {T : Ct} {f : MF} (h : CmOf S w T f) {i : Nat} (hi : T.drp[i]? = some true) : f ((i : Int) + 1) = Option.none := by
  cases hf : f ((i : Int) + 1) with
  | none => rfl
  | some v =>
    obtain ⟨j, l, o, n, c, h1, h2, h3, -, -⟩ := h.get _ v hf
    obtain rfl : i = j := by omega
    rw [hi] at h3
    cases h3
theorem CmOf.some {S : List Nat} {w : World} {T : Ct} {f : MF} (h : CmOf S w T f) {i : Nat} (hi : T.drp[i]? = some false) : ∃ l o n c, f ((i : Int) + 1) = .some (.slice o n c) ∧ T.all[i]? = .some l ∧ WritesAt (hideL w S) o n c l := by
  obtain ⟨v, hv⟩ := Option.isSome_iff_exists.1 (h.yes i hi)
  obtain ⟨j, l, o, n, c, h1, h2, h3, rfl, h5⟩ := h.get _ v hv
  obtain rfl : i = j := by omega
  exact ⟨l, o, n, c, hv, h2, h5⟩
theorem CmOf.app {S : List Nat} {w : World} {T : Ct} {f : MF} (h : CmOf S w T f) (hd : T.drp.length = T.all.length) {l : List Wt} {o : Option Addr} {n c : Nat} (hl : WritesAt (hideL w S) o n c l) : CmOf S w (apT T l) (upd f ((T.all.length : Int) + 1) (Option.some (Value.slice o n c))) := by
  refine ⟨fun i hi => ?_, fun k v hv => ?_⟩
  · have hi : (T.drp ++ [false])[i]? = Option.some false := hi
    have hlt := (List.getElem?_eq_some_iff.1 hi).1
    rw [List.length_append, List.length_singleton] at hlt
    rcases Nat.lt_or_ge i T.drp.length with q | q
    · rw [List.getElem?_append_left q] at hi
      rw [upd_other (by omega)]
      exact h.yes i hi
    · rw [show (i : Int) + 1 = (T.all.length : Int) + 1 by omega, upd_same]; rfl
  · by_cases e : k = (T.all.length : Int) + 1
    · subst e
      rw [upd_same] at hv
      obtain rfl := Option.some.inj hv
      refine ⟨T.all.length, l, o, n, c, rfl, ?_, ?_, rfl, hl⟩
      · show (T.all ++ [l])[T.all.length]? = _
        rw [List.getElem?_append_right (Nat.le_refl _)]; simp
      · show (T.drp ++ [false])[T.all.length]? = _
        rw [List.getElem?_append_right (by omega), hd]; simp
    · rw [upd_other e] at hv
      obtain ⟨i, l', o', n', c', h1, h2, h3, h4, h5⟩ := h.get k v hv
      have a1 := (List.getElem?_eq_some_iff.1 h2).1
      have a2 := (List.getElem?_eq_some_iff.1 h3).1
      exact ⟨i, l', o', n', c', h1, (by show (T.all ++ [l])[i]? = _; rw [List.getElem?_append_left a1]; exact h2), (by show (T.drp ++ [false])[i]? = _; rw [List.getElem?_append_left a2]; exact h3), h4, h5⟩
/-- what the map of marks holds -/
def marksF (l : List Int) : MF := fun k => if 0 ≤ k then match l[k.toNat]? with | some x => if 0 ≤ x then some (.int .i64 x) else none | none => none else none
theorem marksF_at {l : List Int} {i : Nat} {x : Int} (h : l[i]? = some x) : marksF l (i : Int) = if 0 ≤ x then some (.int .i64 x) else none := by
  unfold marksF
  rw [if_pos (by omega), Int.toNat_natCast, h]
theorem marksF_dom (l : List Int) : ∀ k, (marksF l k).isSome = true → 0 ≤ k ∧ k < 0 + (l.length : Int) := fun k hk => by
  unfold marksF at hk
  split at hk
  · rename_i h0
    refine ⟨h0, ?_⟩
    split at hk
    · rename_i x hx
      have := (List.getElem?_eq_some_iff.1 hx).1
      omega
    · cases hk
  · cases hk
theorem marksF_set {l : List Int} {i : Nat} (hi : i < l.length) (x : Int) : marksF (l.set i x) = upd (marksF l) (i : Int) (if 0 ≤ x then some (.int .i64 x) else none) := by
  funext k
  by_cases e : k = (i : Int)
  · subst e
    rw [upd_same, marksF_at (List.getElem?_set_self hi)]
  · rw [upd_other e]
    unfold marksF
    split
    · rw [List.getElem?_set_ne (by omega)]
    · rfl
theorem marksF_new (n : Nat) : marksF (List.replicate n (-1)) = fun _ => none := by
  funext k
  unfold marksF
  split
  · rw [List.getElem?_replicate]
    split
    · rename_i x hx
      split at hx
      · obtain rfl := Option.some.inj hx
        rw [if_neg (by omega)]
      · cases hx
    · rfl
  · rfl
abbrev cmT : TypeId := 53
abbrev mkTy : TypeId := 54
abbrev mapI (w : World) (b : Nat) (m : MF) : Prop := MapV Tryd.prog 3 w b m
abbrev tabL (T : Ct) (cm mk : Nat) : List Value := [.int .i64 T.marks.length, .int .i64 T.lim, .int .i64 T.all.length, .int .i64 T.low, .map (some cm), .map (some mk), .int .i64 T.hold]
/-- the program's table; its blocks are of those that may be written -/
structure TabV (S : List Nat) (w : World) (t cm mk : Nat) (T : Ct) : Prop where
  ne1 : cm ≠ t
  ne2 : mk ≠ t
  ne3 : cm ≠ mk
  in1 : t ∈ S
  in2 : cm ∈ S
  in3 : mk ∈ S
  box : Bx w t (tabL T cm mk)
  m1 : ∃ f, mapI w cm f ∧ CmOf S w T f
  m2 : mapI w mk (marksF T.marks)
section
variable {S S' : List Nat} {w w' : World} {t cm mk : Nat} {T : Ct}
theorem TabV.keepN (h : TabV S w t cm mk T) (hg : Gr w w') (h1 : t ∈ S') (h2 : cm ∈ S') (h3 : mk ∈ S') (hs : ∀ b ∈ S', b ∈ S ∨ w.heap.size ≤ b) : TabV S' w' t cm mk T := by
  obtain ⟨f, hf, hc⟩ := h.m1
  exact ⟨h.ne1, h.ne2, h.ne3, h1, h2, h3, h.box.keep hg, ⟨f, hf.keep hg, hc.ex (hideL_new hg hs)⟩, h.m2.keep hg⟩
theorem TabV.keep (h : TabV S w t cm mk T) (hg : Gr w w') : TabV S w' t cm mk T := h.keepN hg h.in1 h.in2 h.in3 fun _ q => .inl q
/-- another table's blocks, or a younger one, are written -/
theorem TabV.mod (h : TabV S w t cm mk T) (hg : Mod S' w w') (hs : ∀ b ∈ S', b ∈ S) (h1 : t ∉ S') (h2 : cm ∉ S') (h3 : mk ∉ S') : TabV S w' t cm mk T := by
  obtain ⟨f, hf, hc⟩ := h.m1
  exact ⟨h.ne1, h.ne2, h.ne3, h.in1, h.in2, h.in3, hg.box h1 h.box, ⟨f, hf.mod hg h2, hc.ex (hg.ex2 hs)⟩, h.m2.mod hg h3⟩
theorem TabV.sub (h : TabV S w t cm mk T) (h1 : t ∈ S') (h2 : cm ∈ S') (h3 : mk ∈ S') (hs : ∀ b ∈ S', b ∈ S) : TabV S' w t cm mk T := h.keepN (Gr.refl w) h1 h2 h3 fun b q => .inl (hs b q)
theorem TabV.lt (h : TabV S w t cm mk T) : t < w.heap.size := h.box.lt (by simp)
theorem TabV.lt2 (h : TabV S w t cm mk T) : cm < w.heap.size := by obtain ⟨f, hf, -⟩ := h.m1; exact hf.lt
theorem TabV.lt3 (h : TabV S w t cm mk T) : mk < w.heap.size := h.m2.lt
end
/-- elements of the document's table -/
def WsI (W : World) : EP (List Wt) := fun _ l vs => ∃ o n c, vs = [.slice o n c] ∧ WritesAt W o n c l
theorem WsI_mono (W : World) : Mono (WsI W) := fun w w' l vs hg h => h
def BoE : EP Bool := fun _ b vs => vs = [.bool b]
theorem BoE_mono : Mono BoE := fun w w' b vs hg h => h
def InE : EP Int := fun _ x vs => vs = [.int .i64 x]
theorem InE_mono : Mono InE := fun w w' b vs hg h => h
theorem wssT : SlT Tryd.prog 27 34 1 24 := ⟨Tryd.underlying27, by
  obtain ⟨i, hi, hz, hsi, hby⟩ := info_parts (show (Tryd.prog.info? 34).map (fun i => (i.zero, i.size, i.bytes)) = some (some (.slice none 0 0), 1, 24) by kernel_rfl)
  exact ⟨i, _, hi, hz, hsi, hby, rfl⟩, by decide⟩
theorem boT : SlT Tryd.prog 28 4 1 1 := ⟨Tryd.underlying28, by
  obtain ⟨i, hi, hz, hsi, hby⟩ := info_parts (show (Tryd.prog.info? 4).map (fun i => (i.zero, i.size, i.bytes)) = some (some (.bool false), 1, 1) by kernel_rfl)
  exact ⟨i, _, hi, hz, hsi, hby, rfl⟩, by decide⟩
theorem inT : SlT Tryd.prog 29 3 1 8 := ⟨Tryd.underlying29, by
  obtain ⟨i, hi, hz, hsi, hby⟩ := info_parts (show (Tryd.prog.info? 3).map (fun i => (i.zero, i.size, i.bytes)) = some (some (.int .i64 0), 1, 8) by kernel_rfl)
  exact ⟨i, _, hi, hz, hsi, hby, rfl⟩, by decide⟩
/-- where the document's table has its slices -/
structure Rp where
  oA : Option Addr
  cA : Nat
  oD : Option Addr
  cD : Nat
  oM : Option Addr
  cM : Nat
abbrev refL (T : Ct) (p : Rp) : List Value := [.int .i64 T.lim, .int .i64 T.low, .slice p.oA T.all.length p.cA, .slice p.oD T.drp.length p.cD, .slice p.oM T.marks.length p.cM, .int .i64 T.hold]
structure RefV (S : List Nat) (W w : World) (T : Ct) (p : Rp) : Prop where
  a : SlE (WsI W) 1 (hideL w S) p.oA T.all.length p.cA T.all
  d : SlE BoE 1 (hideL w S) p.oD T.drp.length p.cD T.drp
  m : SlE InE 1 (hideL w S) p.oM T.marks.length p.cM T.marks
theorem RefV.ex {S S' : List Nat} {W w w' : World} {T : Ct} {p : Rp} (h : RefV S W w T p) (hx : Ex (hideL w S) (hideL w' S')) : RefV S' W w' T p := ⟨h.a.ex (WsI_mono W) hx, h.d.ex BoE_mono hx, h.m.ex InE_mono hx⟩
theorem RefV.keep {S : List Nat} {W w w' : World} {T : Ct} {p : Rp} (h : RefV S W w T p) (hg : Gr w w') : RefV S W w' T p := h.ex (hideL_gr hg S)
theorem RefV.mod {S S' : List Nat} {W w w' : World} {T : Ct} {p : Rp} (h : RefV S W w T p) (hg : Mod S' w w') (hs : ∀ b ∈ S', b ∈ S) : RefV S W w' T p := h.ex (hg.ex2 hs)
/-- in the world itself -/
theorem RefV.wA {S : List Nat} {W w : World} {T : Ct} {p : Rp} (h : RefV S W w T p) : SlE (WsI W) 1 w p.oA T.all.length p.cA T.all := h.a.exL (WsI_mono W)
theorem RefV.wD {S : List Nat} {W w : World} {T : Ct} {p : Rp} (h : RefV S W w T p) : SlE BoE 1 w p.oD T.drp.length p.cD T.drp := h.d.exL BoE_mono
theorem RefV.wM {S : List Nat} {W w : World} {T : Ct} {p : Rp} (h : RefV S W w T p) : SlE InE 1 w p.oM T.marks.length p.cM T.marks := h.m.exL InE_mono
end Go.Proofs.YtfejdbcfcpmdiaaDoor
