import Derived.Test.YtidfelbaegaphaaLifty
import Derived.Test.YtidfelbaegaphaaLvy
import Derived.SizedLaws
namespace Go.Proofs.Ytidfelbaegaphaa
set_option linter.unusedVariables false
set_option linter.unusedSimpArgs false
open Go.BigFrame Go.RowKit Go.ChangeShapes Go.WideShapes Go.ChangeAt Go.Joins Go.Deep
open Go.ChangeMaps (open_string shut_string)

/-! A view that came in. -/
instance : Inhabited Rw := ⟨⟨ByteArray.empty, ByteArray.empty⟩⟩
set_option maxRecDepth 100000 in
/-- rows that came in, by their cell -/
theorem open_rowsV {H : Type} {enc : TypeId × Value → H} {W : World} {held : Bool} {base2 fuel : Nat} {cs : List Value} {x : DataW H × List MemPlace}
    (h : DataW.trod enc Try.prog W base2 (fun _ => true) held fuel 22 cs = some x) :
    ∃ (oa : Option Addr) (n cap : Nat) (l : List Rw), cs = [.slice oa n cap] ∧ RowsAt W oa n cap l := by
  rcases open_slice_pairs Try.underlying22 Try.underlying61 cells_row rfl rfl cells_str cells_str h with ⟨hc, hx⟩ | ⟨a, n, cap, m, k, V0, V1, D0, D1, P0, P1, hc, _, hl, hm, hmm, hx, hall⟩
  · exact ⟨none, 0, 0, [], hc, rfl, Nat.le_refl _, Nat.zero_le _, fun _ => rfl, ⟨0, 0, fun q => absurd q (by omega), fun i hi => absurd hi (by omega)⟩, fun i hi => absurd hi (by omega)⟩
  · simp only [if_true] at hmm
    subst hmm
    have each : ∀ i, i < n → ∃ q : ByteArray × ByteArray, V0 i = .string q.1 ∧ V1 i = .string q.2 ∧ q.1.size ≤ maxLen ∧ q.2.size ≤ maxLen := by
      intro i hi
      have hi' := hall i (by omega)
      obtain ⟨s0, e0, -, w0⟩ := DataW.trod_string Try.underlying9 hi'.2.2.1
      obtain ⟨s1, e1, -, w1⟩ := DataW.trod_string Try.underlying9 hi'.2.2.2
      simp only [List.cons.injEq, and_true] at e0 e1
      exact ⟨(s0, s1), e0, e1, w0, w1⟩
    obtain ⟨q, hq⟩ := choose_lt each
    have hr : ∀ i, i < n → rAt ((List.range n).map fun i => (⟨(q i).1, (q i).2⟩ : Rw)) i = ⟨(q i).1, (q i).2⟩ := fun i hi => by
      rw [rAt_lt (by simpa using hi)]; simp
    refine ⟨some a, n, m, (List.range n).map fun i => ⟨(q i).1, (q i).2⟩, hc, by simp, hl, hm, fun q => (by cases q), ?_, fun i hi => ?_⟩
    · obtain ⟨b, off, spot⟩ := a
      rcases Nat.eq_zero_or_pos n with h0 | h0
      · subst h0
        exact ⟨0, 0, fun q => absurd q (by omega), fun i hi => absurd hi (by omega)⟩
      · have g0 := (hall 0 (by omega)).1
        have hspot : spot = none := by simpa [Addr.add] using World.cell?_spot g0
        subst hspot
        refine ⟨b, off, fun _ => ⟨rfl, ?_⟩, fun i hi => ?_⟩
        · rcases Nat.lt_or_ge b W.heap.size with k | k
          · exact k
          · rw [add_block] at g0
            unfold World.cell? at g0
            rw [show W.heap[b]? = none from Array.getElem?_eq_none k] at g0
            simp at g0
        · have g := hall i (by omega)
          rw [add_block, add_block] at g
          have e1 := g.1
          have e2 := g.2.1
          rw [(hq i hi).1] at e1
          rw [(hq i hi).2.1] at e2
          unfold kAt vAt
          rw [hr i hi]
          exact ⟨e1, by rw [Nat.add_assoc]; exact e2⟩
    · unfold kAt vAt
      rw [hr i hi]
      exact ⟨(hq i hi).2.2.1, (hq i hi).2.2.2⟩
theorem cells_intV : Try.prog.cellsOf 3 = 1 := by kernel_rfl
theorem cells_boolV : Try.prog.cellsOf 4 = 1 := by kernel_rfl
theorem cells_rowsV : Try.prog.cellsOf 22 = 1 := by kernel_rfl
theorem cells_viewV : Try.prog.cellsOf 24 = 6 := by kernel_rfl
set_option maxRecDepth 100000 in
theorem open_view {H : Type} {enc : TypeId × Value → H} {W : World} {base : Nat} {v : Value} {d : DataW H} {p : List MemPlace} {held : Bool} {base2 : Nat}
    (hv : Value.okWide Try.prog W .any base 24 v) (h : DataW.Trod enc Try.prog W base2 (fun _ => true) held 24 v d p) :
    ∃ (w : Vw) (oa : Option Addr) (n cap : Nat), v = vwV w oa n cap ∧ RowsAt W oa n cap w.rows ∧ VwSz w := by
  obtain ⟨cs, rfl, hsz⟩ := okWide_struct Try.underlying24 hv
  obtain ⟨fuel, hf⟩ := h
  obtain ⟨xs, k, _, hx, hl, hlen, hf⟩ := DataW.trod_struct Try.underlying24 hf
  rw [cells_viewV] at hl
  obtain ⟨cs⟩ := cs
  simp only [Value.cells] at hl hf
  match cs, hl with
  | [c0, c1, c2, c3, c4, c5], _ =>
    match xs, hlen with
    | [y0, y1, y2, y3, y4, y5], _ =>
      have g0 := hf 0 _ rfl
      have g1 := hf 1 _ rfl
      have g2 := hf 2 _ rfl
      have g3 := hf 3 _ rfl
      have g4 := hf 4 _ rfl
      have g5 := hf 5 _ rfl
      simp [cells_str, cells_intV, cells_boolV, cells_rowsV] at g0 g1 g2 g3 g4 g5
      obtain ⟨a0, e0, -, w0⟩ := DataW.trod_string Try.underlying9 g0
      obtain ⟨a1, e1, -, w1⟩ := DataW.trod_string Try.underlying9 g1
      obtain ⟨a2, e2, -⟩ := DataW.trod_bool Try.underlying4 g2
      obtain ⟨a3, e3, -⟩ := DataW.trod_int Try.underlying3 g3
      obtain ⟨o4, n4, q4, l4, e4, r4⟩ := open_rowsV g4
      obtain ⟨a5, e5, -⟩ := DataW.trod_bool Try.underlying4 g5
      simp only [List.cons.injEq, and_true] at e0 e1 e2 e3 e4 e5
      subst e0 e1 e2 e3 e4 e5
      exact ⟨⟨a0, a1, a2, a3, l4, a5⟩, o4, n4, q4, rfl, r4, ⟨w0, w1⟩⟩
end Go.Proofs.Ytidfelbaegaphaa
