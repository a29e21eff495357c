import Derived.Test.YtkngjnkecmjakaaDoorOpen
import Derived.Test.YtkngjnkecmjakaaDoorHe
namespace Go.Proofs.YtkngjnkecmjakaaDoor
set_option linter.unusedVariables false
set_option linter.unusedSimpArgs false
open Go.BigFrame Go.RowKit Go.ChangeShapes Go.WideShapes Go.ChangeAt Go.Joins Go.Deep
open Go.ChangeMaps (open_string shut_string)

theorem cells_intE : Tryd.prog.cellsOf 3 = 1 := by kernel_rfl
theorem cells_codeE : Tryd.prog.cellsOf 32 = 1 := by kernel_rfl
theorem cells_callE : Tryd.prog.cellsOf 36 = 3 := by kernel_rfl
set_option maxRecDepth 100000 in
/-- a call's cells -/
theorem call_of {H : Type} {enc : TypeId × Value → H} {W : World} {spare : Nat → Bool} {held : Bool} {base2 fuel : Nat} {cs : List Value} {x : DataW H × List MemPlace}
    (h : DataW.trod enc Tryd.prog W base2 spare held fuel 36 cs = some x) :
    ∃ (kind : Int) (key val : ByteArray), cs = [.int .i64 kind, .string key, .string val] ∧ key.size ≤ maxLen ∧ val.size ≤ maxLen := by
  obtain ⟨xs, n, _, hx, hl, hlen, hf⟩ := DataW.trod_struct Tryd.underlying36 h
  rw [cells_callE] at hl
  match cs, hl with
  | [c0, c1, c2], _ =>
    match xs, hlen with
    | [y0, y1, y2], _ =>
      have g0 := hf 0 _ rfl
      have g1 := hf 1 _ rfl
      have g2 := hf 2 _ rfl
      simp [cells_intE, cells_str] at g0 g1 g2
      obtain ⟨a0, e0, -⟩ := DataW.trod_int Tryd.underlying3 g0
      obtain ⟨s1, e1, -, w1⟩ := DataW.trod_string Tryd.underlying9 g1
      obtain ⟨s2, e2, -, w2⟩ := DataW.trod_string Tryd.underlying9 g2
      simp only [List.cons.injEq, and_true] at e0 e1 e2
      subst e0 e1 e2
      exact ⟨a0, s1, s2, rfl, w1, w2⟩
set_option maxRecDepth 100000 in
/-- an event's cells -/
theorem event_of {H : Type} {enc : TypeId × Value → H} {W : World} {spare : Nat → Bool} {held : Bool} {base2 fuel : Nat} {cs : List Value} {x : DataW H × List MemPlace}
    (h : DataW.trod enc Tryd.prog W base2 spare held fuel 38 cs = some x) :
    ∃ e : Ev, cs = [.int .i64 e.thread, .int .i64 e.kind, .string e.key, .string e.cval, .string e.val, .int .i64 e.code, .int .i64 e.beg, .int .i64 e.fin] ∧ e.key.size ≤ maxLen ∧ e.cval.size ≤ maxLen ∧ e.val.size ≤ maxLen := by
  obtain ⟨xs, n, _, hx, hl, hlen, hf⟩ := DataW.trod_struct Tryd.underlying38 h
  rw [cells_ev] at hl
  match cs, hl with
  | [c0, c1, c2, c3, c4, c5, c6, c7], _ =>
    match xs, hlen with
    | [y0, y1, y2, y3, y4, y5], _ =>
      have g0 := hf 0 _ rfl
      have g1 := hf 1 _ rfl
      have g2 := hf 2 _ rfl
      have g3 := hf 3 _ rfl
      have g4 := hf 4 _ rfl
      have g5 := hf 5 _ rfl
      simp [cells_intE, cells_str, cells_codeE, cells_callE] at g0 g1 g2 g3 g4 g5
      obtain ⟨a0, e0, -⟩ := DataW.trod_int Tryd.underlying3 g0
      obtain ⟨kd, ky, vl, e1, z1, z2⟩ := call_of g1
      obtain ⟨s2, e2, -, w2⟩ := DataW.trod_string Tryd.underlying9 g2
      obtain ⟨a3, e3, -⟩ := DataW.trod_int Tryd.underlying32 g3
      obtain ⟨a4, e4, -⟩ := DataW.trod_int Tryd.underlying3 g4
      obtain ⟨a5, e5, -⟩ := DataW.trod_int Tryd.underlying3 g5
      simp only [List.cons.injEq, and_true] at e0 e1 e2 e3 e4 e5
      obtain ⟨rfl, rfl, rfl⟩ := e1
      subst e0 e2 e3 e4 e5
      exact ⟨⟨a0, kd, ky, vl, s2, a3, a4, a5⟩, rfl, z1, z2, w2⟩

set_option maxRecDepth 100000 in
/-- an event that came in -/
theorem open_event {H : Type} {enc : TypeId × Value → H} {W : World} {base : Nat} {v : Value} {d : DataW H} {p : List MemPlace} {spare : Nat → Bool} {held : Bool} {base2 : Nat}
    (hv : Value.okWide Tryd.prog W .any base 38 v) (h : DataW.Trod enc Tryd.prog W base2 spare held 38 v d p) :
    ∃ e : Ev, v = e.v ∧ e.key.size ≤ maxLen ∧ e.cval.size ≤ maxLen ∧ e.val.size ≤ maxLen := by
  obtain ⟨cs, rfl, hsz⟩ := okWide_struct Tryd.underlying38 hv
  obtain ⟨fuel, hf⟩ := h
  obtain ⟨e, he, w⟩ := event_of hf
  refine ⟨e, ?_, w⟩
  obtain ⟨cs⟩ := cs
  simp only [Value.cells] at he
  subst he
  rfl

instance : Inhabited Ev := ⟨⟨0, 0, ByteArray.empty, ByteArray.empty, ByteArray.empty, 0, 0, 0⟩⟩
theorem events_nil (W : World) : EvsAt W none 0 0 [] :=
  ⟨rfl, Nat.le_refl _, Nat.zero_le _, fun _ => rfl, ⟨0, 0, fun q => absurd q (by omega), fun i hi => absurd hi (by omega)⟩, fun i hi => absurd hi (by omega)⟩
/-- events by their cells -/
theorem events_of {W : World} {a : Addr} {n cap : Nat} (hl : n ≤ cap) (hm : cap ≤ maxLen)
    (each : ∀ i, i < n → ∃ e : Ev, (W.cell? (a.add (i * 8)) = some (.int .i64 e.thread) ∧ W.cell? (a.add (i * 8 + 1)) = some (.int .i64 e.kind) ∧ W.cell? (a.add (i * 8 + 2)) = some (.string e.key) ∧ W.cell? (a.add (i * 8 + 3)) = some (.string e.cval) ∧ W.cell? (a.add (i * 8 + 4)) = some (.string e.val) ∧ W.cell? (a.add (i * 8 + 5)) = some (.int .i64 e.code) ∧ W.cell? (a.add (i * 8 + 6)) = some (.int .i64 e.beg) ∧ W.cell? (a.add (i * 8 + 7)) = some (.int .i64 e.fin)) ∧ e.key.size ≤ maxLen ∧ e.cval.size ≤ maxLen ∧ e.val.size ≤ maxLen) :
    ∃ l : List Ev, EvsAt W (some a) n cap l := by
  obtain ⟨q, hq⟩ := choose_lt each
  have hr : ∀ i, i < n → evAt ((List.range n).map q) i = q i := fun i hi => by
    rw [evAt_lt (by simpa using hi)]; simp
  refine ⟨(List.range n).map q, by simp, hl, hm, fun q => (by cases q), ?_, fun i hi => ?_⟩
  · obtain ⟨b, off, spot⟩ := a
    rcases Nat.eq_zero_or_pos n with h0 | h0
    · subst h0
      exact ⟨0, 0, fun q => absurd q (by omega), fun i hi => absurd hi (by omega)⟩
    · have g0 := (hq 0 (by omega)).1.1
      have hspot : spot = none := by simpa [Addr.add] using World.cell?_spot g0
      subst hspot
      refine ⟨b, off, fun _ => ⟨rfl, ?_⟩, fun i hi => ?_⟩
      · rcases Nat.lt_or_ge b W.heap.size with k | k
        · exact k
        · rw [add_block] at g0
          unfold World.cell? at g0
          rw [show W.heap[b]? = none from Array.getElem?_eq_none k] at g0
          simp at g0
      · have g := (hq i hi).1
        simp only [add_block, ← Nat.add_assoc] at g
        rw [hr i hi]
        exact g
  · rw [hr i hi]
    exact (hq i hi).2

set_option maxRecDepth 100000 in
/-- events that came in -/
theorem open_events {H : Type} {enc : TypeId × Value → H} {W : World} {base : Nat} {v : Value} {d : DataW H} {p : List MemPlace} {held : Bool} {base2 : Nat}
    (hv : Value.okWide Tryd.prog W .any base 22 v) (h : DataW.Trod enc Tryd.prog W base2 (fun _ => true) held 22 v d p) :
    ∃ (oa : Option Addr) (n cap : Nat) (l : List Ev), v = .slice oa n cap ∧ EvsAt W oa n cap l := by
  obtain ⟨oa, n, cap, rfl⟩ := okWide_slice Tryd.underlying22 hv
  obtain ⟨fuel, hf⟩ := h
  rcases open_slice Tryd.underlying22 hf with ⟨hc, -⟩ | ⟨a, len, cp, m, k, D, Pl, hc, hb, hl, hm, hmm, -, hall⟩
  · simp only [Value.cells, List.cons.injEq, and_true, Value.slice.injEq] at hc
    obtain ⟨rfl, rfl, rfl⟩ := hc
    exact ⟨none, 0, 0, [], rfl, events_nil W⟩
  · simp only [Value.cells, List.cons.injEq, and_true, Value.slice.injEq] at hc
    obtain ⟨rfl, rfl, rfl⟩ := hc
    simp only [if_true] at hmm
    subst hmm
    obtain ⟨l, hL⟩ := events_of (a := a) hl hm (fun i hi => by
      obtain ⟨cs', h1, h2⟩ := hall i (by omega)
      rw [cells_ev] at h1
      obtain ⟨_, hlen, hcell⟩ := World.cells?_some h1
      obtain ⟨e, rfl, w⟩ := event_of h2
      refine ⟨e, ?_, w⟩
      have c0 := hcell 0 (by omega)
      have c1 := hcell 1 (by omega)
      have c2 := hcell 2 (by omega)
      have c3 := hcell 3 (by omega)
      have c4 := hcell 4 (by omega)
      have c5 := hcell 5 (by omega)
      have c6 := hcell 6 (by omega)
      have c7 := hcell 7 (by omega)
      rw [add_add] at c0 c1 c2 c3 c4 c5 c6 c7
      exact ⟨c0, c1, c2, c3, c4, c5, c6, c7⟩)
    exact ⟨some a, n, m, l, rfl, hL⟩
end Go.Proofs.YtkngjnkecmjakaaDoor
