import Derived.Test.YtidfelbaegaphaaDoorAw
import Derived.Test.YtidfelbaegaphaaDoorLift
import Derived.Lib.SmallJoins
import Derived.Deep.SlicePairs
namespace Go.Proofs.YtidfelbaegaphaaDoor
set_option linter.unusedVariables false
set_option linter.unusedSimpArgs false
open Go.BigFrame Go.RowKit Go.ChangeShapes Go.WideShapes Go.ChangeAt Go.Joins Go.Deep
open Go.ChangeMaps (open_string shut_string)

set_option maxRecDepth 100000 in
/-- a row that came in -/
theorem open_row {H : Type} {enc : TypeId × Value → H} {W : World} {base : Nat} {v : Value} {d : DataW H} {p : List MemPlace} {spare : Nat → Bool} {held : Bool} {base2 : Nat}
    (hv : Value.okWide Tryd.prog W .any base 41 v) (h : DataW.Trod enc Tryd.prog W base2 spare held 41 v d p) :
    ∃ (k x : ByteArray), v = .agg #[.string k, .string x] ∧ k.size ≤ maxLen ∧ x.size ≤ maxLen := by
  obtain ⟨c0, c1, y0, y1, n, rfl, -, -, h0, h1⟩ := open_agg2 Tryd.underlying41 (by kernel_rfl) cells_row hv h
  obtain ⟨k, e0, -, w0⟩ := DataW.trod_string Tryd.underlying9 h0
  obtain ⟨x, e1, -, w1⟩ := DataW.trod_string Tryd.underlying9 h1
  simp only [List.cons.injEq, and_true] at e0 e1
  subst e0 e1
  exact ⟨k, x, rfl, w0, w1⟩

theorem cells_str : Tryd.prog.cellsOf 9 = 1 := by kernel_rfl
instance : Inhabited (ByteArray × ByteArray) := ⟨(ByteArray.empty, ByteArray.empty)⟩
set_option maxRecDepth 100000 in
/-- rows that came in -/
theorem open_rows {H : Type} {enc : TypeId × Value → H} {W : World} {base : Nat} {v : Value} {d : DataW H} {p : List MemPlace} {held : Bool} {base2 : Nat}
    (hv : Value.okWide Tryd.prog W .any base 26 v) (h : DataW.Trod enc Tryd.prog W base2 (fun _ => true) held 26 v d p) :
    ∃ (oa : Option Addr) (n cap : Nat) (l : List Rw), v = .slice oa n cap ∧ RowsAt W oa n cap l := by
  obtain ⟨oa, n, cap, rfl⟩ := okWide_slice Tryd.underlying26 hv
  obtain ⟨fuel, hf⟩ := h
  rcases open_slice_pairs Tryd.underlying26 Tryd.underlying41 cells_row rfl rfl cells_str cells_str hf with ⟨hc, hx⟩ | ⟨a, len, cp, m, k, V0, V1, D0, D1, P0, P1, hc, _, hl, hm, hmm, hx, hall⟩
  · simp only [Value.cells, List.cons.injEq, and_true, Value.slice.injEq] at hc
    obtain ⟨rfl, rfl, rfl⟩ := hc
    exact ⟨none, 0, 0, [], rfl, rfl, Nat.le_refl _, Nat.zero_le _, fun _ => rfl, ⟨0, 0, fun q => absurd q (by omega), fun i hi => absurd hi (by omega)⟩, fun i hi => absurd hi (by omega)⟩
  · simp only [Value.cells, List.cons.injEq, and_true, Value.slice.injEq] at hc
    obtain ⟨rfl, rfl, rfl⟩ := hc
    simp only [if_true] at hmm
    subst hmm
    have each : ∀ i, i < n → ∃ q : ByteArray × ByteArray, V0 i = .string q.1 ∧ V1 i = .string q.2 ∧ q.1.size ≤ maxLen ∧ q.2.size ≤ maxLen := by
      intro i hi
      have hi' := hall i (by omega)
      obtain ⟨s0, e0, -, w0⟩ := DataW.trod_string Tryd.underlying9 hi'.2.2.1
      obtain ⟨s1, e1, -, w1⟩ := DataW.trod_string Tryd.underlying9 hi'.2.2.2
      simp only [List.cons.injEq, and_true] at e0 e1
      exact ⟨(s0, s1), e0, e1, w0, w1⟩
    obtain ⟨q, hq⟩ := choose_lt each
    have hr : ∀ i, i < n → rAt ((List.range n).map fun i => (⟨(q i).1, (q i).2⟩ : Rw)) i = ⟨(q i).1, (q i).2⟩ := fun i hi => by
      rw [rAt_lt (by simpa using hi)]; simp
    refine ⟨some a, n, m, (List.range n).map fun i => ⟨(q i).1, (q i).2⟩, rfl, by simp, hl, hm, fun q => (by cases q), ?_, fun i hi => ?_⟩
    · obtain ⟨b, off, spot⟩ := a
      rcases Nat.eq_zero_or_pos n with h0 | h0
      · subst h0
        exact ⟨0, 0, fun q => absurd q (by omega), fun i hi => absurd hi (by omega)⟩
      · have g0 := (hall 0 (by omega)).1
        have hspot : spot = none := by simpa [Addr.add] using World.cell?_spot g0
        subst hspot
        refine ⟨b, off, fun _ => ⟨rfl, ?_⟩, fun i hi => ?_⟩
        · rcases Nat.lt_or_ge b W.heap.size with k | k
          · exact k
          · rw [add_block] at g0
            unfold World.cell? at g0
            rw [show W.heap[b]? = none from Array.getElem?_eq_none k] at g0
            simp at g0
        · have g := hall i (by omega)
          rw [add_block, add_block] at g
          have e1 := g.1
          have e2 := g.2.1
          rw [(hq i hi).1] at e1
          rw [(hq i hi).2.1] at e2
          unfold kAt vAt
          rw [hr i hi]
          exact ⟨e1, by rw [Nat.add_assoc]; exact e2⟩
    · unfold kAt vAt
      rw [hr i hi]
      exact ⟨(hq i hi).2.2.1, (hq i hi).2.2.2⟩
end Go.Proofs.YtidfelbaegaphaaDoor
