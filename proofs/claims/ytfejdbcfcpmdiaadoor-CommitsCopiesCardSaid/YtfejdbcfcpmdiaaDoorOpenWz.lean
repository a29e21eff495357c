import Derived.Test.YtfejdbcfcpmdiaaDoorWaz
import Derived.Test.YtfejdbcfcpmdiaaDoorLiftz
import Derived.Lib.SmallJoins
import Derived.Deep.SlicePairs
namespace Go.Proofs.YtfejdbcfcpmdiaaDoor
set_option linter.unusedVariables false
set_option linter.unusedSimpArgs false
open Go.BigFrame Go.RowKit Go.ChangeShapes Go.WideShapes Go.ChangeAt Go.Joins Go.Deep
open Go.ChangeMaps (open_string shut_string)

theorem add_blockW (b off k : Nat) : (⟨b, off, none⟩ : Addr).add k = ⟨b, off + k, none⟩ := by unfold Addr.add; split <;> simp_all
theorem cells_strW : Tryd.prog.cellsOf 9 = 1 := by kernel_rfl
theorem cells_bool : Tryd.prog.cellsOf 4 = 1 := by kernel_rfl

section
variable {H : Type} {enc : TypeId × Value → H} {P : Program} {w : World} {base : Nat} {spare : Nat → Bool} {held : Bool}
/-- a slice of structs of three one-cell fields, opened at every index -/
theorem open_slice_threes {t e : TypeId} {f0 f1 f2 : Field} {fuel : Nat} {cs : List Value} {x : DataW H × List MemPlace} (ht : P.underlying t = some (.slice e)) (he : P.underlying e = some (.struct #[f0, f1, f2]))
    (ce : P.cellsOf e = 3) (o0 : f0.offset = 0) (o1 : f1.offset = 1) (o2 : f2.offset = 2) (c0 : P.cellsOf f0.type = 1) (c1 : P.cellsOf f1.type = 1) (c2 : P.cellsOf f2.type = 1)
    (h : DataW.trod enc P w base spare held fuel t cs = some x) :
    (cs = [.slice none 0 0]) ∨
    ∃ (a : Addr) (len cap m n : Nat), cs = [.slice (some a) len cap] ∧ len ≤ cap ∧ cap ≤ maxLen ∧ m = (if spare a.block then cap else len) ∧
      ∀ i, i < m → ∃ v0 v1 v2 y0 y1 y2, w.cell? (a.add (i * 3)) = some v0 ∧ w.cell? (a.add (i * 3 + 1)) = some v1 ∧ w.cell? (a.add (i * 3 + 2)) = some v2 ∧
        DataW.trod enc P w base spare held n f0.type [v0] = some y0 ∧ DataW.trod enc P w base spare held n f1.type [v1] = some y1 ∧ DataW.trod enc P w base spare held n f2.type [v2] = some y2 := by
  rcases open_slice ht h with h0 | ⟨a, len, cap, m, n, D, Pl, rfl, hb, hl, hm, hmm, rfl, hx⟩
  · exact Or.inl h0.1
  right
  refine ⟨a, len, cap, m, n - 1, rfl, hl, hm, hmm, fun i hi => ?_⟩
  obtain ⟨cs', h1, h2⟩ := hx i hi
  rw [ce] at h1
  obtain ⟨_, hlen, hcell⟩ := World.cells?_some h1
  obtain ⟨xs, k, hk, hxy, _, hxl, hf⟩ := DataW.trod_struct he h2
  have hk' : k = n - 1 := by omega
  subst hk'
  match xs, hxl, cs', hlen with
  | [y0, y1, y2], _, [v0, v1, v2], _ =>
    have g0 := hf 0 f0 rfl
    have g1 := hf 1 f1 rfl
    have g2 := hf 2 f2 rfl
    simp [o0, o1, o2, c0, c1, c2] at g0 g1 g2
    have e0 := hcell 0 (by omega)
    have e1 := hcell 1 (by omega)
    have e2 := hcell 2 (by omega)
    rw [add_add] at e0 e1 e2
    exact ⟨v0, v1, v2, y0, y1, y2, by simpa using e0, by simpa using e1, by simpa using e2, g0, g1, g2⟩
end

instance : Inhabited (ByteArray × ByteArray × Bool) := ⟨(ByteArray.empty, ByteArray.empty, false)⟩
/-- writes by their cells -/
theorem writes_of {W : World} {a : Addr} {n cap : Nat} (hl : n ≤ cap) (hm : cap ≤ maxLen)
    (each : ∀ i, i < n → ∃ q : ByteArray × ByteArray × Bool, W.cell? (a.add (i * 3)) = some (.string q.1) ∧ W.cell? (a.add (i * 3 + 1)) = some (.string q.2.1) ∧ W.cell? (a.add (i * 3 + 2)) = some (.bool q.2.2) ∧ q.1.size ≤ maxLen ∧ q.2.1.size ≤ maxLen) :
    ∃ l : List Wt, WritesAt W (some a) n cap l := by
  obtain ⟨q, hq⟩ := choose_lt each
  have hr : ∀ i, i < n → wAt ((List.range n).map fun i => (⟨(q i).1, (q i).2.1, (q i).2.2⟩ : Wt)) i = ⟨(q i).1, (q i).2.1, (q i).2.2⟩ := fun i hi => by
    rw [wAt_lt (by simpa using hi)]; simp
  refine ⟨(List.range n).map fun i => ⟨(q i).1, (q i).2.1, (q i).2.2⟩, by simp, hl, hm, fun q => (by cases q), ?_, fun i hi => ?_⟩
  · obtain ⟨b, off, spot⟩ := a
    rcases Nat.eq_zero_or_pos n with h0 | h0
    · subst h0
      exact ⟨0, 0, fun q => absurd q (by omega), fun i hi => absurd hi (by omega)⟩
    · have g0 := (hq 0 (by omega)).1
      have hspot : spot = none := by simpa [Addr.add] using World.cell?_spot g0
      subst hspot
      refine ⟨b, off, fun _ => ⟨rfl, ?_⟩, fun i hi => ?_⟩
      · rcases Nat.lt_or_ge b W.heap.size with k | k
        · exact k
        · rw [add_blockW] at g0
          unfold World.cell? at g0
          rw [show W.heap[b]? = none from Array.getElem?_eq_none k] at g0
          simp at g0
      · have g := hq i hi
        rw [add_blockW, add_blockW, add_blockW] at g
        rw [hr i hi]
        exact ⟨g.1, by rw [Nat.add_assoc]; exact g.2.1, by rw [Nat.add_assoc]; exact g.2.2.1⟩
  · rw [hr i hi]
    exact ⟨(hq i hi).2.2.2.1, (hq i hi).2.2.2.2⟩
theorem writes_nil (W : World) : WritesAt W none 0 0 [] :=
  ⟨rfl, Nat.le_refl _, Nat.zero_le _, fun _ => rfl, ⟨0, 0, fun q => absurd q (by omega), fun i hi => absurd hi (by omega)⟩, fun i hi => absurd hi (by omega)⟩

/-- writes that came in, by their slice value -/
theorem open_writes0 {H : Type} {enc : TypeId × Value → H} {W : World} {held : Bool} {base2 fuel : Nat} {cs : List Value} {x : DataW H × List MemPlace}
    (h : DataW.trod enc Tryd.prog W base2 (fun _ => true) held fuel 34 cs = some x) :
    ∃ (oa : Option Addr) (n cap : Nat) (l : List Wt), cs = [.slice oa n cap] ∧ WritesAt W oa n cap l := by
  rcases open_slice_threes Tryd.underlying34 Tryd.underlying77 cells_rwrite rfl rfl rfl cells_strW cells_strW cells_bool h with hc | ⟨a, n, cap, m, k, hc, hl, hm, hmm, hall⟩
  · exact ⟨none, 0, 0, [], hc, writes_nil W⟩
  · simp only [if_true] at hmm
    subst hmm
    obtain ⟨l, hL⟩ := writes_of (a := a) hl hm (fun i hi => by
      obtain ⟨v0, v1, v2, y0, y1, y2, h0, h1, h2, t0, t1, t2⟩ := hall i (by omega)
      obtain ⟨s0, e0, -, w0⟩ := DataW.trod_string Tryd.underlying9 t0
      obtain ⟨s1, e1, -, w1⟩ := DataW.trod_string Tryd.underlying9 t1
      obtain ⟨u, e2, -⟩ := DataW.trod_bool Tryd.underlying4 t2
      simp only [List.cons.injEq, and_true] at e0 e1 e2
      subst e0 e1 e2
      exact ⟨(s0, s1, u), h0, h1, h2, w0, w1⟩)
    exact ⟨some a, n, m, l, hc, hL⟩
set_option maxRecDepth 100000 in
theorem open_writes {H : Type} {enc : TypeId × Value → H} {W : World} {base : Nat} {v : Value} {d : DataW H} {p : List MemPlace} {held : Bool} {base2 : Nat}
    (hv : Value.okWide Tryd.prog W .any base 34 v) (h : DataW.Trod enc Tryd.prog W base2 (fun _ => true) held 34 v d p) :
    ∃ (oa : Option Addr) (n cap : Nat) (l : List Wt), v = .slice oa n cap ∧ WritesAt W oa n cap l := by
  obtain ⟨oa, n, cap, rfl⟩ := okWide_slice Tryd.underlying34 hv
  obtain ⟨fuel, hf⟩ := h
  obtain ⟨oa2, n2, cap2, l, e, hL⟩ := open_writes0 hf
  simp only [Value.cells, List.cons.injEq, and_true, Value.slice.injEq] at e
  obtain ⟨rfl, rfl, rfl⟩ := e
  exact ⟨_, _, _, l, rfl, hL⟩

set_option maxRecDepth 100000 in
/-- a step that came in -/
theorem open_do {H : Type} {enc : TypeId × Value → H} {W : World} {base : Nat} {v : Value} {d : DataW H} {p : List MemPlace} {held : Bool} {base2 : Nat}
    (hv : Value.okWide Tryd.prog W .any base 36 v) (h : DataW.Trod enc Tryd.prog W base2 (fun _ => true) held 36 v d p) :
    ∃ (vb n th : Int) (r : Bool) (oa : Option Addr) (m cap : Nat) (l : List Wt), v = .agg #[.int .i64 vb, .int .i64 n, .int .i64 th, .bool r, .slice oa m cap] ∧ WritesAt W oa m cap l := by
  obtain ⟨cs, rfl, hsz⟩ := okWide_struct Tryd.underlying36 hv
  rw [show Tryd.prog.cellsOf 36 = 5 from by kernel_rfl] at hsz
  obtain ⟨fuel, hf⟩ := h
  obtain ⟨xs, n, _, hx, hl, hlen, hf⟩ := DataW.trod_struct Tryd.underlying36 hf
  obtain ⟨cs⟩ := cs
  match cs, hsz with
  | [c0, c1, c2, c3, c4], _ =>
    match xs, hlen with
    | [y0, y1, y2, y3, y4], _ =>
      have g0 := hf 0 _ rfl
      have g1 := hf 1 _ rfl
      have g2 := hf 2 _ rfl
      have g3 := hf 3 _ rfl
      have g4 := hf 4 _ rfl
      simp [Value.cells, show Tryd.prog.cellsOf 3 = 1 from by kernel_rfl, cells_bool, show Tryd.prog.cellsOf 34 = 1 from by kernel_rfl] at g0 g1 g2 g3 g4
      obtain ⟨a0, e0, -⟩ := DataW.trod_int Tryd.underlying3 g0
      obtain ⟨a1, e1, -⟩ := DataW.trod_int Tryd.underlying3 g1
      obtain ⟨a2, e2, -⟩ := DataW.trod_int Tryd.underlying3 g2
      obtain ⟨a3, e3, -⟩ := DataW.trod_bool Tryd.underlying4 g3
      obtain ⟨oa, m, cap, l, e4, hL⟩ := open_writes0 g4
      simp only [List.cons.injEq, and_true] at e0 e1 e2 e3 e4
      subst e0 e1 e2 e3 e4
      exact ⟨a0, a1, a2, a3, oa, m, cap, l, rfl, hL⟩
end Go.Proofs.YtfejdbcfcpmdiaaDoor
