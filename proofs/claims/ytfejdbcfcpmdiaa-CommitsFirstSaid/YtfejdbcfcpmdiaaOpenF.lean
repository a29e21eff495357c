import Derived.Test.YtfejdbcfcpmdiaaOpenW
import Derived.Test.YtfejdbcfcpmdiaaPw
namespace Go.Proofs.Ytfejdbcfcpmdiaa
set_option linter.unusedVariables false
set_option linter.unusedSimpArgs false
open Go.BigFrame Go.RowKit Go.ChangeShapes Go.WideShapes Go.ChangeAt Go.Joins Go.Deep
open Go.ChangeMaps (open_string shut_string)

set_option maxRecDepth 100000 in
/-- slices of writes that came in -/
theorem open_writess {H : Type} {enc : TypeId × Value → H} {W : World} {base : Nat} {v : Value} {d : DataW H} {p : List MemPlace} {held : Bool} {base2 : Nat}
    (hv : Value.okWide Try.prog W .any base 48 v) (h : DataW.Trod enc Try.prog W base2 (fun _ => true) held 48 v d p) :
    ∃ (oa : Option Addr) (n cap : Nat) (l : List Pw), v = .slice oa n cap ∧ PartsW W oa n cap l := by
  obtain ⟨oa, n, cap, rfl⟩ := okWide_slice Try.underlying48 hv
  obtain ⟨fuel, hf⟩ := h
  rcases open_slice Try.underlying48 hf with h0 | ⟨a, n2, cap2, m, k, D, Pl, hc, hb, hl, hm, hmm, hx, hall⟩
  · have hc := h0.1
    simp only [Value.cells, List.cons.injEq, and_true, Value.slice.injEq] at hc
    obtain ⟨rfl, rfl, rfl⟩ := hc
    exact ⟨_, _, _, [], rfl, rfl, Nat.le_refl _, Nat.zero_le _, fun _ => rfl, ⟨0, 0, fun q => absurd q (by omega), fun i hi => absurd hi (by omega)⟩⟩
  · simp only [Value.cells, List.cons.injEq, and_true, Value.slice.injEq] at hc
    obtain ⟨rfl, rfl, rfl⟩ := hc
    simp only [if_true] at hmm
    subst hmm
    have each : ∀ i, i < n → ∃ q : Pw, W.cell? (a.add i) = some (.slice q.oa q.n q.cap) ∧ WritesAt W q.oa q.n q.cap q.l := fun i hi => by
      obtain ⟨cs', h1, h2⟩ := hall i (by omega)
      rw [cells_wsl] at h1
      obtain ⟨_, hlen, hcell⟩ := World.cells?_some h1
      match cs', hlen with
      | [v0], _ =>
        have e0 := hcell 0 (by omega)
        rw [add_add] at e0
        obtain ⟨oa2, n2, cap2, l2, e1, hL⟩ := open_writes0 h2
        simp only [List.cons.injEq, and_true] at e1
        subst e1
        exact ⟨⟨oa2, n2, cap2, l2⟩, by simpa using e0, hL⟩
    obtain ⟨q, hq⟩ := choose_lt each
    have hr : ∀ i, i < n → pwAt ((List.range n).map q) i = q i := fun i hi => by
      rw [pwAt_lt (by simpa using hi)]; simp
    refine ⟨some a, n, m, (List.range n).map q, rfl, by simp, hl, hm, fun q => (by cases q), ?_⟩
    obtain ⟨b, off, spot⟩ := a
    rcases Nat.eq_zero_or_pos n with h0 | h0
    · subst h0
      exact ⟨0, 0, fun q => absurd q (by omega), fun i hi => absurd hi (by omega)⟩
    · have g0 := (hq 0 (by omega)).1
      have hspot : spot = none := by simpa [Addr.add] using World.cell?_spot g0
      subst hspot
      refine ⟨b, off, fun _ => ⟨rfl, ?_⟩, fun i hi => ?_⟩
      · rcases Nat.lt_or_ge b W.heap.size with k | k
        · exact k
        · rw [add_blockW] at g0
          unfold World.cell? at g0
          rw [show W.heap[b]? = none from Array.getElem?_eq_none k] at g0
          simp at g0
      · rw [hr i hi]
        have := hq i hi
        rwa [add_blockW] at this
end Go.Proofs.Ytfejdbcfcpmdiaa
