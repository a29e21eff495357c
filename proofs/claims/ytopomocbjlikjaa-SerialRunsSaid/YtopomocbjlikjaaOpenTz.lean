import Derived.Test.YtopomocbjlikjaaLiftz
import Derived.Test.YtopomocbjlikjaaMt20z
import Derived.SizedLaws
namespace Go.Proofs.Ytopomocbjlikjaa
set_option linter.unusedVariables false
set_option linter.unusedSimpArgs false
open Go.BigFrame Go.RowKit Go.ChangeShapes Go.WideShapes Go.ChangeAt Go.Joins Go.Deep
open Go.ChangeMaps (open_string shut_string)

/-! Trips that came in. -/
instance : Inhabited Sn := ⟨⟨0, ByteArray.empty, ByteArray.empty, false, ByteArray.empty, ByteArray.empty, false, 0, false, []⟩⟩
instance : Inhabited Tr := ⟨⟨0, 0, 0, 0, []⟩⟩
instance : Inhabited Rw := ⟨⟨ByteArray.empty, ByteArray.empty⟩⟩
section
variable {H : Type} {enc : TypeId × Value → H} {P : Program} {W : World} {base : Nat} {held : Bool}
theorem weights_all {P : Program} {e : TypeId} {d : DataW H} : ∀ {l : List (DataW H)}, d ∈ l → ∀ m ∈ d.weights P e, m ∈ DataW.weightsAll P e l
  | [], h, _, _ => by cases h
  | x :: l, h, m, hm => by
    simp only [DataW.weightsAll, List.mem_append]
    rcases List.mem_cons.1 h with rfl | h
    · exact .inl hm
    · exact .inr (weights_all h m hm)
/-- a slice that came in, opened by what its elements are -/
theorem open_slE {α : Type} [Inhabited α] {E : EP α} (Q : DataW H → α → Prop) {k : Nat} {t e : TypeId} {fuel : Nat} {cs : List Value} {x : DataW H × List MemPlace} (ht : P.underlying t = some (.slice e)) (ce : P.cellsOf e = k) (hk : 0 < k)
    (he : ∀ (n : Nat) (cs' : List Value) (y : DataW H × List MemPlace), cs'.length = k → DataW.trod enc P W base (fun _ => true) held n e cs' = some y → ∃ a : α, (∀ u ∈ cs', u.oneCell' = true) ∧ E W a cs' ∧ Q y.1 a)
    (h : DataW.trod enc P W base (fun _ => true) held fuel t cs = some x) :
    ∃ (oa : Option Addr) (n cap : Nat) (l : List α), cs = [.slice oa n cap] ∧ SlE E k W oa n cap l ∧ (0 < n → ∃ s, (n + s) * P.bytesOf e ∈ x.1.weights P t) ∧
      ∀ (i : Nat) (y : α), l[i]? = some y → ∃ D : DataW H, Q D y ∧ ∀ m ∈ D.weights P e, m ∈ x.1.weights P t := by
  rcases open_slice ht h with ⟨h0, _⟩ | ⟨a, len, cap, m, n, D, Pl, rfl, hb, hl, hm, hmm, rfl, hx⟩
  · exact ⟨none, 0, 0, [], h0, SlE.nil _ _ _, fun q => absurd q (by omega), fun i y hi => by simp at hi⟩
  · simp only [if_true] at hmm
    subst hmm
    have each : ∀ i, i < len → ∃ q : α × List Value, q.2.length = k ∧ (∀ j u, q.2[j]? = some u → W.cell? (a.add (i * k + j)) = some u) ∧ (∀ u ∈ q.2, u.oneCell' = true) ∧ E W q.1 q.2 ∧ Q (D i) q.1 := by
      intro i hi
      obtain ⟨cs', h1, h2⟩ := hx i (by omega)
      rw [ce] at h1
      obtain ⟨_, hlen, hcell⟩ := World.cells?_some h1
      obtain ⟨y, e1, e2, e3⟩ := he n cs' _ hlen h2
      refine ⟨(y, cs'), hlen, fun j u hj => ?_, e1, e2, e3⟩
      have hj' : j < cs'.length := (List.getElem?_eq_some_iff.1 hj).1
      have g := hcell j (by omega)
      rw [add_add] at g
      rw [g]; exact hj
    have : Inhabited (α × List Value) := ⟨(default, [])⟩
    obtain ⟨q, hq⟩ := choose_lt each
    have hget : ∀ (i : Nat) (y : α), ((List.range len).map fun i => (q i).1)[i]? = some y → i < len ∧ y = (q i).1 := fun i y hi => by
      have h1 := (List.getElem?_eq_some_iff.1 hi).1
      simp only [List.length_map, List.length_range] at h1
      rw [List.getElem?_map, List.getElem?_range h1] at hi
      exact ⟨h1, by simpa using hi.symm⟩
    refine ⟨some a, len, m, (List.range len).map fun i => (q i).1, rfl, ⟨by simp, hl, hm, fun q => (by cases q), ?_⟩, fun _ => ⟨m - len, ?_⟩, fun i y hi => ?_⟩
    · obtain ⟨b, off, spot⟩ := a
      rcases Nat.eq_zero_or_pos len with h0 | h0
      · subst h0
        exact ⟨0, 0, fun q => absurd q (by omega), fun i x hi => by simp at hi⟩
      · obtain ⟨g1, g2, -, -, -⟩ := hq 0 h0
        have g0 := g2 0 ((q 0).2[0]'(by omega)) (List.getElem?_eq_getElem _)
        have hspot : spot = none := by simpa [Addr.add] using World.cell?_spot g0
        subst hspot
        rw [add_block] at g0
        refine ⟨b, off, fun _ => ⟨rfl, cell_lt g0⟩, fun i x hi => ?_⟩
        obtain ⟨i1, rfl⟩ := hget i x hi
        obtain ⟨g1, g2, g3, g4, g5⟩ := hq i i1
        refine ⟨(q i).2, g1, g3, g4, fun j u hj => ?_⟩
        have := g2 j u hj
        rw [add_block, ← Nat.add_assoc] at this
        exact this
    · simp only [DataW.weights, ht]
      rw [List.mem_cons]
      exact .inl (by rw [List.length_map, List.length_range, List.length_map, List.length_range])
    · obtain ⟨i1, rfl⟩ := hget i y hi
      obtain ⟨g1, g2, g3, g4, g5⟩ := hq i i1
      refine ⟨D i, g5, fun m hm => ?_⟩
      simp only [DataW.weights, ht]
      rw [List.mem_cons, List.mem_append]
      exact .inr (.inl (weights_all (List.mem_map_of_mem (List.mem_range.2 i1)) m hm))
end
set_option maxRecDepth 100000 in
/-- rows that came in, by their cell -/
theorem open_rows0 {H : Type} {enc : TypeId × Value → H} {W : World} {held : Bool} {base2 fuel : Nat} {cs : List Value} {x : DataW H × List MemPlace}
    (h : DataW.trod enc Try.prog W base2 (fun _ => true) held fuel 25 cs = some x) :
    ∃ (oa : Option Addr) (n cap : Nat) (l : List Rw), cs = [.slice oa n cap] ∧ RowsAt W oa n cap l := by
  rcases open_slice_pairs Try.underlying25 Try.underlying35 cells_row rfl rfl cells_str cells_str h with ⟨hc, hx⟩ | ⟨a, n, cap, m, k, V0, V1, D0, D1, P0, P1, hc, _, hl, hm, hmm, hx, hall⟩
  · exact ⟨none, 0, 0, [], hc, rfl, Nat.le_refl _, Nat.zero_le _, fun _ => rfl, ⟨0, 0, fun q => absurd q (by omega), fun i hi => absurd hi (by omega)⟩, fun i hi => absurd hi (by omega)⟩
  · simp only [if_true] at hmm
    subst hmm
    have each : ∀ i, i < n → ∃ q : ByteArray × ByteArray, V0 i = .string q.1 ∧ V1 i = .string q.2 ∧ q.1.size ≤ maxLen ∧ q.2.size ≤ maxLen := by
      intro i hi
      have hi' := hall i (by omega)
      obtain ⟨s0, e0, -, w0⟩ := DataW.trod_string Try.underlying9 hi'.2.2.1
      obtain ⟨s1, e1, -, w1⟩ := DataW.trod_string Try.underlying9 hi'.2.2.2
      simp only [List.cons.injEq, and_true] at e0 e1
      exact ⟨(s0, s1), e0, e1, w0, w1⟩
    obtain ⟨q, hq⟩ := choose_lt each
    have hr : ∀ i, i < n → rAt ((List.range n).map fun i => (⟨(q i).1, (q i).2⟩ : Rw)) i = ⟨(q i).1, (q i).2⟩ := fun i hi => by
      rw [rAt_lt (by simpa using hi)]; simp
    refine ⟨some a, n, m, (List.range n).map fun i => ⟨(q i).1, (q i).2⟩, hc, by simp, hl, hm, fun q => (by cases q), ?_, fun i hi => ?_⟩
    · obtain ⟨b, off, spot⟩ := a
      rcases Nat.eq_zero_or_pos n with h0 | h0
      · subst h0
        exact ⟨0, 0, fun q => absurd q (by omega), fun i hi => absurd hi (by omega)⟩
      · have g0 := (hall 0 (by omega)).1
        have hspot : spot = none := by simpa [Addr.add] using World.cell?_spot g0
        subst hspot
        refine ⟨b, off, fun _ => ⟨rfl, ?_⟩, fun i hi => ?_⟩
        · rcases Nat.lt_or_ge b W.heap.size with k | k
          · exact k
          · rw [add_block] at g0
            unfold World.cell? at g0
            rw [show W.heap[b]? = none from Array.getElem?_eq_none k] at g0
            simp at g0
        · have g := hall i (by omega)
          rw [add_block, add_block] at g
          have e1 := g.1
          have e2 := g.2.1
          rw [(hq i hi).1] at e1
          rw [(hq i hi).2.1] at e2
          unfold kAt vAt
          rw [hr i hi]
          exact ⟨e1, by rw [Nat.add_assoc]; exact e2⟩
    · unfold kAt vAt
      rw [hr i hi]
      exact ⟨(hq i hi).2.2.1, (hq i hi).2.2.2⟩
theorem cells_int1 : Try.prog.cellsOf 3 = 1 := by kernel_rfl
theorem cells_bool1 : Try.prog.cellsOf 4 = 1 := by kernel_rfl
theorem cells_rows1 : Try.prog.cellsOf 25 = 1 := by kernel_rfl
theorem cells_seens1 : Try.prog.cellsOf 26 = 1 := by kernel_rfl
theorem cells_seenR : Try.prog.cellsOf 30 = 10 := by kernel_rfl
theorem cells_tripR : Try.prog.cellsOf 28 = 5 := by kernel_rfl
set_option maxRecDepth 100000 in
set_option maxHeartbeats 1000000 in
theorem open_seen0 {H : Type} {enc : TypeId × Value → H} {W : World} {held : Bool} {base2 fuel : Nat} {cs : List Value} {x : DataW H × List MemPlace}
    (h : DataW.trod enc Try.prog W base2 (fun _ => true) held fuel 26 cs = some x) :
    ∃ (oa : Option Addr) (n cap : Nat) (l : List Sn), cs = [.slice oa n cap] ∧ SeenAt W oa n cap l := by
  obtain ⟨oa, n, cap, l, h1, h2, -, -⟩ := open_slE (E := SnE) (fun _ _ => True) Try.underlying26 cells_seenR (by omega) (fun n cs y hl hy => by
    obtain ⟨xs, k, _, hx, hl, hlen, hf⟩ := DataW.trod_struct Try.underlying30 hy
    rw [cells_seenR] at hl
    match cs, hl with
    | [c0, c1, c2, c3, c4, c5, c6, c7, c8, c9], _ =>
      match xs, hlen with
      | [y0, y1, y2, y3, y4, y5, y6, y7, y8, y9], _ =>
        have g0 := hf 0 _ rfl
        have g1 := hf 1 _ rfl
        have g2 := hf 2 _ rfl
        have g3 := hf 3 _ rfl
        have g4 := hf 4 _ rfl
        have g5 := hf 5 _ rfl
        have g6 := hf 6 _ rfl
        have g7 := hf 7 _ rfl
        have g8 := hf 8 _ rfl
        have g9 := hf 9 _ rfl
        simp [cells_str, cells_int1, cells_bool1, cells_rows1] at g0 g1 g2 g3 g4 g5 g6 g7 g8 g9
        obtain ⟨a0, e0, -⟩ := DataW.trod_int Try.underlying3 g0
        obtain ⟨a1, e1, -, w1⟩ := DataW.trod_string Try.underlying9 g1
        obtain ⟨a2, e2, -, w2⟩ := DataW.trod_string Try.underlying9 g2
        obtain ⟨a3, e3, -⟩ := DataW.trod_bool Try.underlying4 g3
        obtain ⟨a4, e4, -, w4⟩ := DataW.trod_string Try.underlying9 g4
        obtain ⟨a5, e5, -, w5⟩ := DataW.trod_string Try.underlying9 g5
        obtain ⟨a6, e6, -⟩ := DataW.trod_bool Try.underlying4 g6
        obtain ⟨a7, e7, -⟩ := DataW.trod_int Try.underlying3 g7
        obtain ⟨a8, e8, -⟩ := DataW.trod_bool Try.underlying4 g8
        obtain ⟨o9, n9, q9, l9, e9, r9⟩ := open_rows0 g9
        simp only [List.cons.injEq, and_true] at e0 e1 e2 e3 e4 e5 e6 e7 e8 e9
        subst e0 e1 e2 e3 e4 e5 e6 e7 e8 e9
        refine ⟨⟨a0, a1, a2, a3, a4, a5, a6, a7, a8, l9⟩, ?_, ⟨o9, n9, q9, rfl, r9, ⟨w1, w2, w4, w5⟩⟩, trivial⟩
        intro u hu
        simp only [List.mem_cons, List.not_mem_nil, or_false] at hu
        rcases hu with rfl | rfl | rfl | rfl | rfl | rfl | rfl | rfl | rfl | rfl <;> rfl) h
  exact ⟨oa, n, cap, l, h1, h2⟩
set_option maxRecDepth 100000 in
set_option maxHeartbeats 1000000 in
theorem open_trips0 {H : Type} {enc : TypeId × Value → H} {W : World} {held : Bool} {base2 fuel : Nat} {cs : List Value} {x : DataW H × List MemPlace}
    (h : DataW.trod enc Try.prog W base2 (fun _ => true) held fuel 22 cs = some x) :
    ∃ (oa : Option Addr) (n cap : Nat) (l : List Tr), cs = [.slice oa n cap] ∧ TripsAt W oa n cap l := by
  obtain ⟨oa, n, cap, l, h1, h2, -, -⟩ := open_slE (E := TrE) (fun _ _ => True) Try.underlying22 cells_tripR (by omega) (fun n cs y hl hy => by
    obtain ⟨xs, k, _, hx, hl, hlen, hf⟩ := DataW.trod_struct Try.underlying28 hy
    rw [cells_tripR] at hl
    match cs, hl with
    | [c0, c1, c2, c3, c4], _ =>
      match xs, hlen with
      | [y0, y1, y2, y3, y4], _ =>
        have g0 := hf 0 _ rfl
        have g1 := hf 1 _ rfl
        have g2 := hf 2 _ rfl
        have g3 := hf 3 _ rfl
        have g4 := hf 4 _ rfl
        simp [cells_int1, cells_seens1] at g0 g1 g2 g3 g4
        obtain ⟨a0, e0, -, -⟩ := DataW.trod_int Try.underlying3 g0
        obtain ⟨a1, e1, -, -⟩ := DataW.trod_int Try.underlying3 g1
        obtain ⟨a2, e2, -, w2⟩ := DataW.trod_int Try.underlying3 g2
        obtain ⟨a3, e3, -, w3⟩ := DataW.trod_int Try.underlying3 g3
        obtain ⟨o4, n4, q4, l4, e4, r4⟩ := open_seen0 g4
        simp only [List.cons.injEq, and_true] at e0 e1 e2 e3 e4
        subst e0 e1 e2 e3 e4
        refine ⟨⟨a0, a1, a2, a3, l4⟩, ?_, ⟨o4, n4, q4, rfl, r4, ⟨w3, w2⟩⟩, trivial⟩
        intro u hu
        simp only [List.mem_cons, List.not_mem_nil, or_false] at hu
        rcases hu with rfl | rfl | rfl | rfl | rfl <;> rfl) h
  exact ⟨oa, n, cap, l, h1, h2⟩
set_option maxRecDepth 100000 in
theorem open_trips {H : Type} {enc : TypeId × Value → H} {W : World} {base : Nat} {v : Value} {d : DataW H} {p : List MemPlace} {held : Bool} {base2 : Nat}
    (hv : Value.okWide Try.prog W .any base 22 v) (h : DataW.Trod enc Try.prog W base2 (fun _ => true) held 22 v d p) :
    ∃ (oa : Option Addr) (n cap : Nat) (l : List Tr), v = .slice oa n cap ∧ TripsAt W oa n cap l := by
  obtain ⟨oa, n, cap, rfl⟩ := okWide_slice Try.underlying22 hv
  obtain ⟨fuel, hf⟩ := h
  obtain ⟨oa2, n2, cap2, l, e, hL⟩ := open_trips0 hf
  simp only [Value.cells, List.cons.injEq, and_true, Value.slice.injEq] at e
  obtain ⟨rfl, rfl, rfl⟩ := e
  exact ⟨_, _, _, l, rfl, hL⟩
end Go.Proofs.Ytopomocbjlikjaa
