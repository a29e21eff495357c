import Derived.Test.YtkngjnkecmjakaaOpenE
namespace Go.Proofs.Ytkngjnkecmjakaa
set_option linter.unusedVariables false
set_option linter.unusedSimpArgs false
open Go.BigFrame Go.RowKit Go.ChangeShapes Go.WideShapes Go.ChangeAt Go.Joins Go.Deep
open Go.ChangeMaps (open_string shut_string)

/-- a call -/
structure Cl where
  kind : Int
  key : ByteArray
  val : ByteArray
def clAt (l : List Cl) (i : Nat) : Cl := l.getD i ⟨0, ByteArray.empty, ByteArray.empty⟩
theorem clAt_lt {l : List Cl} {i : Nat} (h : i < l.length) : clAt l i = l[i] := by
  unfold clAt; rw [List.getD_eq_getElem?_getD, List.getElem?_eq_getElem h]; rfl
instance : Inhabited Cl := ⟨⟨0, ByteArray.empty, ByteArray.empty⟩⟩
/-- the slice '.slice oa n cap' holds these calls -/
structure CallsAt (w : World) (oa : Option Addr) (n cap : Nat) (l : List Cl) : Prop where
  len : l.length = n
  cap_le : n ≤ cap
  cap_max : cap ≤ maxLen
  none : oa = none → cap = 0
  cells : ∃ b off, (0 < n → oa = some ⟨b, off, Option.none⟩ ∧ b < w.heap.size) ∧ ∀ i, i < n →
    w.cell? ⟨b, off + i * 3, Option.none⟩ = some (.int .i64 (clAt l i).kind) ∧ w.cell? ⟨b, off + i * 3 + 1, Option.none⟩ = some (.string (clAt l i).key) ∧ w.cell? ⟨b, off + i * 3 + 2, Option.none⟩ = some (.string (clAt l i).val)
  sizes : ∀ i, i < n → (clAt l i).key.size ≤ maxLen ∧ (clAt l i).val.size ≤ maxLen
theorem CallsAt.keep {w w' : World} {oa : Option Addr} {n cap : Nat} {l : List Cl} (h : CallsAt w oa n cap l) (hg : Gr w w') : CallsAt w' oa n cap l := by
  obtain ⟨h1, h2, h3, h4, ⟨b, off, h5, h6⟩, h7⟩ := h
  exact ⟨h1, h2, h3, h4, ⟨b, off, fun q => ⟨(h5 q).1, Nat.lt_of_lt_of_le (h5 q).2 hg.le⟩, fun i hi => by
    obtain ⟨a0, a1, a2⟩ := h6 i hi
    exact ⟨hg.keep a0, hg.keep a1, hg.keep a2⟩⟩, h7⟩
theorem run_cl {oa : Option Addr} {n b off : Nat} (cap : Nat) (ho : 0 < n → oa = some ⟨b, off, none⟩) {k : Nat} (hk : k < n) (w : World) :
    (Instr.indexAt 50 (.slice oa n cap) (.int .i64 (k : Int))).run Try.prog w = .ok (.pointer (some ⟨b, off + k * 3, none⟩)) w := by
  rw [ho (by omega)]
  have hc := cells_callE
  go_simp

theorem calls_nil (W : World) : CallsAt W none 0 0 [] :=
  ⟨rfl, Nat.le_refl _, Nat.zero_le _, fun _ => rfl, ⟨0, 0, fun q => absurd q (by omega), fun i hi => absurd hi (by omega)⟩, fun i hi => absurd hi (by omega)⟩
/-- calls by their cells -/
theorem calls_of {W : World} {a : Addr} {n cap : Nat} (hl : n ≤ cap) (hm : cap ≤ maxLen)
    (each : ∀ i, i < n → ∃ e : Cl, (W.cell? (a.add (i * 3)) = some (.int .i64 e.kind) ∧ W.cell? (a.add (i * 3 + 1)) = some (.string e.key) ∧ W.cell? (a.add (i * 3 + 2)) = some (.string e.val)) ∧ e.key.size ≤ maxLen ∧ e.val.size ≤ maxLen) :
    ∃ l : List Cl, CallsAt W (some a) n cap l := by
  obtain ⟨q, hq⟩ := choose_lt each
  have hr : ∀ i, i < n → clAt ((List.range n).map q) i = q i := fun i hi => by
    rw [clAt_lt (by simpa using hi)]; simp
  refine ⟨(List.range n).map q, by simp, hl, hm, fun q => (by cases q), ?_, fun i hi => ?_⟩
  · obtain ⟨b, off, spot⟩ := a
    rcases Nat.eq_zero_or_pos n with h0 | h0
    · subst h0
      exact ⟨0, 0, fun q => absurd q (by omega), fun i hi => absurd hi (by omega)⟩
    · have g0 := (hq 0 (by omega)).1.1
      have hspot : spot = none := by simpa [Addr.add] using World.cell?_spot g0
      subst hspot
      refine ⟨b, off, fun _ => ⟨rfl, ?_⟩, fun i hi => ?_⟩
      · rcases Nat.lt_or_ge b W.heap.size with k | k
        · exact k
        · rw [add_block] at g0
          unfold World.cell? at g0
          rw [show W.heap[b]? = none from Array.getElem?_eq_none k] at g0
          simp at g0
      · have g := (hq i hi).1
        simp only [add_block, ← Nat.add_assoc] at g
        rw [hr i hi]
        exact g
  · rw [hr i hi]
    exact (hq i hi).2

set_option maxRecDepth 100000 in
/-- calls that came in -/
theorem open_calls {H : Type} {enc : TypeId × Value → H} {W : World} {base : Nat} {v : Value} {d : DataW H} {p : List MemPlace} {held : Bool} {base2 : Nat}
    (hv : Value.okWide Try.prog W .any base 50 v) (h : DataW.Trod enc Try.prog W base2 (fun _ => true) held 50 v d p) :
    ∃ (oa : Option Addr) (n cap : Nat) (l : List Cl), v = .slice oa n cap ∧ CallsAt W oa n cap l := by
  obtain ⟨oa, n, cap, rfl⟩ := okWide_slice Try.underlying50 hv
  obtain ⟨fuel, hf⟩ := h
  rcases open_slice Try.underlying50 hf with ⟨hc, -⟩ | ⟨a, len, cp, m, k, D, Pl, hc, hb, hl, hm, hmm, -, hall⟩
  · simp only [Value.cells, List.cons.injEq, and_true, Value.slice.injEq] at hc
    obtain ⟨rfl, rfl, rfl⟩ := hc
    exact ⟨none, 0, 0, [], rfl, calls_nil W⟩
  · simp only [Value.cells, List.cons.injEq, and_true, Value.slice.injEq] at hc
    obtain ⟨rfl, rfl, rfl⟩ := hc
    simp only [if_true] at hmm
    subst hmm
    obtain ⟨l, hL⟩ := calls_of (a := a) hl hm (fun i hi => by
      obtain ⟨cs', h1, h2⟩ := hall i (by omega)
      rw [cells_callE] at h1
      obtain ⟨_, hlen, hcell⟩ := World.cells?_some h1
      obtain ⟨kd, ky, vl, rfl, w⟩ := call_of h2
      refine ⟨⟨kd, ky, vl⟩, ?_, w⟩
      have c0 := hcell 0 (by omega)
      have c1 := hcell 1 (by omega)
      have c2 := hcell 2 (by omega)
      rw [add_add] at c0 c1 c2
      exact ⟨c0, c1, c2⟩)
    exact ⟨some a, n, m, l, rfl, hL⟩
end Go.Proofs.Ytkngjnkecmjakaa
