import Derived.Test.YtfejdbcfcpmdiaaDoorOpenWz
import Derived.Test.YtfejdbcfcpmdiaaDoorHlz
import Derived.SizedLaws
namespace Go.Proofs.YtfejdbcfcpmdiaaDoor
set_option linter.unusedVariables false
set_option linter.unusedSimpArgs false
open Go.BigFrame Go.RowKit Go.ChangeShapes Go.WideShapes Go.ChangeAt Go.Joins Go.Deep
open Go.ChangeMaps (open_string shut_string)

/-! Steps that came in. -/
/-- a step -/
structure Ds where
  verb : Int
  n : Int
  th : Int
  rt : Bool
  l : List Wt
instance : Inhabited Ds := ⟨⟨0, 0, 0, false, []⟩⟩
abbrev doL (d : Ds) (o : Option Addr) (n c : Nat) : List Value := [.int .i64 d.verb, .int .i64 d.n, .int .i64 d.th, .bool d.rt, .slice o n c]
theorem WritesAt.exD {w w' : World} {oa : Option Addr} {n cap : Nat} {l : List Wt} (h : WritesAt w oa n cap l) (hg : Ex w w') : WritesAt w' oa n cap l := by
  obtain ⟨h1, h2, h3, h4, ⟨b, off, h5, h6⟩, h7⟩ := h
  exact ⟨h1, h2, h3, h4, ⟨b, off, fun q => ⟨(h5 q).1, Nat.lt_of_lt_of_le (h5 q).2 hg.size⟩, fun i hi => ⟨hg.cell _ _ _ (h6 i hi).1, hg.cell _ _ _ (h6 i hi).2.1, hg.cell _ _ _ (h6 i hi).2.2⟩⟩, h7⟩
def DoE : EP Ds := fun w d vs => ∃ o n c, vs = doL d o n c ∧ WritesAt w o n c d.l ∧ (Lit.int .i64 d.n).wf = true ∧ (Lit.int .i64 d.th).wf = true
theorem DoE_mono : Mono DoE := fun w w' d vs hg ⟨o, n, c, h1, h2, h3⟩ => ⟨o, n, c, h1, h2.exD hg, h3⟩
abbrev DosAt (w : World) (oa : Option Addr) (n cap : Nat) (l : List Ds) : Prop := SlE DoE 5 w oa n cap l
theorem DosAt.keep {w w' : World} {oa : Option Addr} {n cap : Nat} {l : List Ds} (h : DosAt w oa n cap l) (hg : Gr w w') : DosAt w' oa n cap l := SlE.keep DoE_mono h hg
/-- a step, in memory -/
structure DoAt (w : World) (b o : Nat) (d : Ds) (p : Option Addr) (n c : Nat) : Prop where
  rng : w.rangeAt b o (doL d p n c)
  ws : WritesAt w p n c d.l
  wn : (Lit.int .i64 d.n).wf = true
  wt : (Lit.int .i64 d.th).wf = true
theorem DoAt.keep {w w' : World} {b o : Nat} {d : Ds} {p : Option Addr} {n c : Nat} (h : DoAt w b o d p n c) (hg : Gr w w') : DoAt w' b o d p n c := ⟨hg.range h.rng, h.ws.keep hg, h.wn, h.wt⟩
theorem DosAt.get {w : World} {oa : Option Addr} {n cap : Nat} {l : List Ds} (h : DosAt w oa n cap l) :
    ∃ b off, (0 < n → oa = some ⟨b, off, none⟩) ∧ ∀ (i : Nat) (d : Ds), l[i]? = some d → ∃ p m c, DoAt w b (off + i * 5) d p m c := by
  obtain ⟨b, off, h1, h2⟩ := h.cells
  refine ⟨b, off, fun q => (h1 q).1, fun i s hi => ?_⟩
  obtain ⟨vs, -, -, ⟨p, m, c, rfl, h3, h4, h5⟩, h6⟩ := h2 i s hi
  exact ⟨p, m, c, h6, h3, h4, h5⟩
section
variable {H : Type} {enc : TypeId × Value → H} {P : Program} {W : World} {base : Nat} {held : Bool}
theorem weights_all {P : Program} {e : TypeId} {d : DataW H} : ∀ {l : List (DataW H)}, d ∈ l → ∀ m ∈ d.weights P e, m ∈ DataW.weightsAll P e l
  | [], h, _, _ => by cases h
  | x :: l, h, m, hm => by
    simp only [DataW.weightsAll, List.mem_append]
    rcases List.mem_cons.1 h with rfl | h
    · exact .inl hm
    · exact .inr (weights_all h m hm)
/-- a slice that came in, opened by what its elements are -/
theorem open_slE {α : Type} [Inhabited α] {E : EP α} (Q : DataW H → α → Prop) {k : Nat} {t e : TypeId} {fuel : Nat} {cs : List Value} {x : DataW H × List MemPlace} (ht : P.underlying t = some (.slice e)) (ce : P.cellsOf e = k) (hk : 0 < k)
    (he : ∀ (n : Nat) (cs' : List Value) (y : DataW H × List MemPlace), cs'.length = k → DataW.trod enc P W base (fun _ => true) held n e cs' = some y → ∃ a : α, (∀ u ∈ cs', u.oneCell' = true) ∧ E W a cs' ∧ Q y.1 a)
    (h : DataW.trod enc P W base (fun _ => true) held fuel t cs = some x) :
    ∃ (oa : Option Addr) (n cap : Nat) (l : List α), cs = [.slice oa n cap] ∧ SlE E k W oa n cap l ∧ (0 < n → ∃ s, (n + s) * P.bytesOf e ∈ x.1.weights P t) ∧
      ∀ (i : Nat) (y : α), l[i]? = some y → ∃ D : DataW H, Q D y ∧ ∀ m ∈ D.weights P e, m ∈ x.1.weights P t := by
  rcases open_slice ht h with ⟨h0, _⟩ | ⟨a, len, cap, m, n, D, Pl, rfl, hb, hl, hm, hmm, rfl, hx⟩
  · exact ⟨none, 0, 0, [], h0, SlE.nil _ _ _, fun q => absurd q (by omega), fun i y hi => by simp at hi⟩
  · simp only [if_true] at hmm
    subst hmm
    have each : ∀ i, i < len → ∃ q : α × List Value, q.2.length = k ∧ (∀ j u, q.2[j]? = some u → W.cell? (a.add (i * k + j)) = some u) ∧ (∀ u ∈ q.2, u.oneCell' = true) ∧ E W q.1 q.2 ∧ Q (D i) q.1 := by
      intro i hi
      obtain ⟨cs', h1, h2⟩ := hx i (by omega)
      rw [ce] at h1
      obtain ⟨_, hlen, hcell⟩ := World.cells?_some h1
      obtain ⟨y, e1, e2, e3⟩ := he n cs' _ hlen h2
      refine ⟨(y, cs'), hlen, fun j u hj => ?_, e1, e2, e3⟩
      have hj' : j < cs'.length := (List.getElem?_eq_some_iff.1 hj).1
      have g := hcell j (by omega)
      rw [add_add] at g
      rw [g]; exact hj
    have : Inhabited (α × List Value) := ⟨(default, [])⟩
    obtain ⟨q, hq⟩ := choose_lt each
    have hget : ∀ (i : Nat) (y : α), ((List.range len).map fun i => (q i).1)[i]? = some y → i < len ∧ y = (q i).1 := fun i y hi => by
      have h1 := (List.getElem?_eq_some_iff.1 hi).1
      simp only [List.length_map, List.length_range] at h1
      rw [List.getElem?_map, List.getElem?_range h1] at hi
      exact ⟨h1, by simpa using hi.symm⟩
    refine ⟨some a, len, m, (List.range len).map fun i => (q i).1, rfl, ⟨by simp, hl, hm, fun q => (by cases q), ?_⟩, fun _ => ⟨m - len, ?_⟩, fun i y hi => ?_⟩
    · obtain ⟨b, off, spot⟩ := a
      rcases Nat.eq_zero_or_pos len with h0 | h0
      · subst h0
        exact ⟨0, 0, fun q => absurd q (by omega), fun i x hi => by simp at hi⟩
      · obtain ⟨g1, g2, -, -, -⟩ := hq 0 h0
        have g0 := g2 0 ((q 0).2[0]'(by omega)) (List.getElem?_eq_getElem _)
        have hspot : spot = none := by simpa [Addr.add] using World.cell?_spot g0
        subst hspot
        rw [add_blockW] at g0
        refine ⟨b, off, fun _ => ⟨rfl, cell_lt g0⟩, fun i x hi => ?_⟩
        obtain ⟨i1, rfl⟩ := hget i x hi
        obtain ⟨g1, g2, g3, g4, g5⟩ := hq i i1
        refine ⟨(q i).2, g1, g3, g4, fun j u hj => ?_⟩
        have := g2 j u hj
        rw [add_blockW, ← Nat.add_assoc] at this
        exact this
    · simp only [DataW.weights, ht]
      rw [List.mem_cons]
      exact .inl (by rw [List.length_map, List.length_range, List.length_map, List.length_range])
    · obtain ⟨i1, rfl⟩ := hget i y hi
      obtain ⟨g1, g2, g3, g4, g5⟩ := hq i i1
      refine ⟨D i, g5, fun m hm => ?_⟩
      simp only [DataW.weights, ht]
      rw [List.mem_cons, List.mem_append]
      exact .inr (.inl (weights_all (List.mem_map_of_mem (List.mem_range.2 i1)) m hm))
end
theorem cells_do : Tryd.prog.cellsOf 36 = 5 := by kernel_rfl
theorem cells_int1 : Tryd.prog.cellsOf 3 = 1 := by kernel_rfl
theorem cells_ws1 : Tryd.prog.cellsOf 34 = 1 := by kernel_rfl
set_option maxRecDepth 100000 in
set_option maxHeartbeats 1000000 in
theorem open_dos0 {H : Type} {enc : TypeId × Value → H} {W : World} {held : Bool} {base2 fuel : Nat} {cs : List Value} {x : DataW H × List MemPlace}
    (h : DataW.trod enc Tryd.prog W base2 (fun _ => true) held fuel 22 cs = some x) :
    ∃ (oa : Option Addr) (n cap : Nat) (l : List Ds), cs = [.slice oa n cap] ∧ DosAt W oa n cap l := by
  obtain ⟨oa, n, cap, l, h1, h2, -, -⟩ := open_slE (E := DoE) (fun _ _ => True) Tryd.underlying22 cells_do (by omega) (fun n cs y hl hy => by
    obtain ⟨xs, k, _, hx, hl, hlen, hf⟩ := DataW.trod_struct Tryd.underlying36 hy
    rw [cells_do] at hl
    match cs, hl with
    | [c0, c1, c2, c3, c4], _ =>
      match xs, hlen with
      | [y0, y1, y2, y3, y4], _ =>
        have g0 := hf 0 _ rfl
        have g1 := hf 1 _ rfl
        have g2 := hf 2 _ rfl
        have g3 := hf 3 _ rfl
        have g4 := hf 4 _ rfl
        simp [cells_int1, cells_bool, cells_ws1] at g0 g1 g2 g3 g4
        obtain ⟨a0, e0, -, -⟩ := DataW.trod_int Tryd.underlying3 g0
        obtain ⟨a1, e1, -, w1⟩ := DataW.trod_int Tryd.underlying3 g1
        obtain ⟨a2, e2, -, w2⟩ := DataW.trod_int Tryd.underlying3 g2
        obtain ⟨a3, e3, -⟩ := DataW.trod_bool Tryd.underlying4 g3
        obtain ⟨o4, n4, q4, l4, e4, r4⟩ := open_writes0 g4
        simp only [List.cons.injEq, and_true] at e0 e1 e2 e3 e4
        subst e0 e1 e2 e3 e4
        refine ⟨⟨a0, a1, a2, a3, l4⟩, ?_, ⟨o4, n4, q4, rfl, r4, w1, w2⟩, trivial⟩
        intro u hu
        simp only [List.mem_cons, List.not_mem_nil, or_false] at hu
        rcases hu with rfl | rfl | rfl | rfl | rfl <;> rfl) h
  exact ⟨oa, n, cap, l, h1, h2⟩
set_option maxRecDepth 100000 in
theorem open_dos {H : Type} {enc : TypeId × Value → H} {W : World} {base : Nat} {v : Value} {d : DataW H} {p : List MemPlace} {held : Bool} {base2 : Nat}
    (hv : Value.okWide Tryd.prog W .any base 22 v) (h : DataW.Trod enc Tryd.prog W base2 (fun _ => true) held 22 v d p) :
    ∃ (oa : Option Addr) (n cap : Nat) (l : List Ds), v = .slice oa n cap ∧ DosAt W oa n cap l := by
  obtain ⟨oa, n, cap, rfl⟩ := okWide_slice Tryd.underlying22 hv
  obtain ⟨fuel, hf⟩ := h
  obtain ⟨oa2, n2, cap2, l, e, hL⟩ := open_dos0 hf
  simp only [Value.cells, List.cons.injEq, and_true, Value.slice.injEq] at e
  obtain ⟨rfl, rfl, rfl⟩ := e
  exact ⟨_, _, _, l, rfl, hL⟩
end Go.Proofs.YtfejdbcfcpmdiaaDoor
