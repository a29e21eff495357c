import Derived.Test.YtfejdbcfcpmdiaaOpenW
import Derived.Test.YtfejdbcfcpmdiaaCl
namespace Go.Proofs.Ytfejdbcfcpmdiaa
set_option linter.unusedVariables false
set_option linter.unusedSimpArgs false
open Go.BigFrame Go.RowKit Go.ChangeShapes Go.WideShapes Go.ChangeAt Go.Joins Go.Deep
open Go.ChangeMaps (open_string shut_string)

set_option maxRecDepth 100000 in
theorem open_spans {H : Type} {enc : TypeId × Value → H} {W : World} {base : Nat} {v : Value} {d : DataW H} {p : List MemPlace} {held : Bool} {base2 : Nat}
    (hv : Value.okWide Try.prog W .any base 40 v) (h : DataW.Trod enc Try.prog W base2 (fun _ => true) held 40 v d p) :
    ∃ (oa : Option Addr) (n cap : Nat) (l : List Wt), v = .slice oa n cap ∧ WritesAt W oa n cap l := by
  obtain ⟨oa, n, cap, rfl⟩ := okWide_slice Try.underlying40 hv
  obtain ⟨fuel, hf⟩ := h
  rcases open_slice_threes Try.underlying40 Try.underlying42 cells_spanT rfl rfl rfl cells_str cells_str cells_bool hf with hc | ⟨a, n2, cap2, m, k, hc, hl, hm, hmm, hall⟩
  · simp only [Value.cells, List.cons.injEq, and_true, Value.slice.injEq] at hc
    obtain ⟨rfl, rfl, rfl⟩ := hc
    exact ⟨_, _, _, [], rfl, writes_nil W⟩
  · simp only [Value.cells, List.cons.injEq, and_true, Value.slice.injEq] at hc
    obtain ⟨rfl, rfl, rfl⟩ := hc
    simp only [if_true] at hmm
    subst hmm
    obtain ⟨l, hL⟩ := writes_of (a := a) hl hm (fun i hi => by
      obtain ⟨v0, v1, v2, y0, y1, y2, h0, h1, h2, t0, t1, t2⟩ := hall i (by omega)
      obtain ⟨s0, e0, -, w0⟩ := DataW.trod_string Try.underlying9 t0
      obtain ⟨s1, e1, -, w1⟩ := DataW.trod_string Try.underlying9 t1
      obtain ⟨u, e2, -⟩ := DataW.trod_bool Try.underlying4 t2
      simp only [List.cons.injEq, and_true] at e0 e1 e2
      subst e0 e1 e2
      exact ⟨(s0, s1, u), h0, h1, h2, w0, w1⟩)
    exact ⟨_, _, _, l, rfl, hL⟩

instance : Inhabited ByteArray := ⟨ByteArray.empty⟩
set_option maxRecDepth 100000 in
theorem open_strs {H : Type} {enc : TypeId × Value → H} {W : World} {base : Nat} {v : Value} {d : DataW H} {p : List MemPlace} {held : Bool} {base2 : Nat}
    (hv : Value.okWide Try.prog W .any base 39 v) (h : DataW.Trod enc Try.prog W base2 (fun _ => true) held 39 v d p) :
    ∃ (oa : Option Addr) (n cap : Nat) (l : List ByteArray), v = .slice oa n cap ∧ StrsAt W oa n cap l := by
  obtain ⟨oa, n, cap, rfl⟩ := okWide_slice Try.underlying39 hv
  obtain ⟨fuel, hf⟩ := h
  rcases open_slice Try.underlying39 hf with h0 | ⟨a, n2, cap2, m, k, D, Pl, hc, hb, hl, hm, hmm, hx, hall⟩
  · have hc := h0.1
    simp only [Value.cells, List.cons.injEq, and_true, Value.slice.injEq] at hc
    obtain ⟨rfl, rfl, rfl⟩ := hc
    exact ⟨_, _, _, [], rfl, rfl, Nat.le_refl _, Nat.zero_le _, fun _ => rfl, ⟨0, 0, fun q => absurd q (by omega), fun i hi => absurd hi (by omega)⟩, fun i hi => absurd hi (by omega)⟩
  · simp only [Value.cells, List.cons.injEq, and_true, Value.slice.injEq] at hc
    obtain ⟨rfl, rfl, rfl⟩ := hc
    simp only [if_true] at hmm
    subst hmm
    have each : ∀ i, i < n → ∃ q : ByteArray, W.cell? (a.add i) = some (.string q) ∧ q.size ≤ maxLen := fun i hi => by
      obtain ⟨cs', h1, h2⟩ := hall i (by omega)
      rw [cells_str] at h1
      obtain ⟨_, hlen, hcell⟩ := World.cells?_some h1
      match cs', hlen with
      | [v0], _ =>
        have e0 := hcell 0 (by omega)
        rw [add_add] at e0
        obtain ⟨s0, e1, -, w0⟩ := DataW.trod_string Try.underlying9 h2
        simp only [List.cons.injEq, and_true] at e1
        subst e1
        exact ⟨s0, by simpa using e0, w0⟩
    obtain ⟨q, hq⟩ := choose_lt each
    have hr : ∀ i, i < n → sAt ((List.range n).map q) i = q i := fun i hi => by
      rw [sAt_lt (by simpa using hi)]; simp
    refine ⟨some a, n, m, (List.range n).map q, rfl, by simp, hl, hm, fun q => (by cases q), ?_, fun i hi => by rw [hr i hi]; exact (hq i hi).2⟩
    obtain ⟨b, off, spot⟩ := a
    rcases Nat.eq_zero_or_pos n with h0 | h0
    · subst h0
      exact ⟨0, 0, fun q => absurd q (by omega), fun i hi => absurd hi (by omega)⟩
    · have g0 := (hq 0 (by omega)).1
      have hspot : spot = none := by simpa [Addr.add] using World.cell?_spot g0
      subst hspot
      refine ⟨b, off, fun _ => ⟨rfl, ?_⟩, fun i hi => ?_⟩
      · rcases Nat.lt_or_ge b W.heap.size with k | k
        · exact k
        · rw [add_block] at g0
          unfold World.cell? at g0
          rw [show W.heap[b]? = none from Array.getElem?_eq_none k] at g0
          simp at g0
      · rw [hr i hi]
        have := (hq i hi).1
        rwa [add_block] at this
end Go.Proofs.Ytfejdbcfcpmdiaa
