/-
  From a contract of a law to its statement: each law of this seat tells true, and leaves what it is handed as it was.
-/
import Derived.Test.YtopomocbjlikjaaStrz
import Derived.ProofKit
import Derived.OpenShut
import Derived.ShutString
import Derived.ChangeOld
import Derived.Test.YtopomocbjlikjaaPtz
import Derived.Lib.SmallJoins
import Derived.Deep.SlicePairs
namespace Go.Proofs.Ytopomocbjlikjaa
open Go.ChangeShapes Go.WideShapes Go.ChangeAt Go.RowKit

theorem trodAll_lt {H : Type} {enc : TypeId × Value → H} {P : Program} {W : World} {base : Nat} {spare : Nat → Bool} {held : Bool} :
    ∀ (ts : List TypeId) (vs : List Value) (ds : List (DataW H)) (p : List MemPlace), DataW.TrodAll enc P W base spare held ts vs ds p → ∀ x ∈ p, x.block < W.heap.size
  | [], [], [], p, h, x, hx => by
    have h' : p = [] := h
    subst h'; cases hx
  | t :: ts, v :: vs, d :: ds, p, h, x, hx => by
    obtain ⟨p1, p2, ⟨fuel, h1⟩, h2, rfl⟩ := h
    rcases List.mem_append.1 hx with hx | hx
    · exact DataW.trod_lt fuel _ _ _ h1 x hx
    · exact trodAll_lt ts vs ds p2 h2 x hx
  | [], _ :: _, _, _, h, _, _ => h.elim
  | [], [], _ :: _, _, h, _, _ => h.elim
  | _ :: _, [], _, _, h, _, _ => h.elim
  | _ :: _, _ :: _, [], _, h, _, _ => h.elim

theorem trodAll_below {H : Type} {enc : TypeId × Value → H} {P : Program} {W W' : World} (hl : laidOutB P = true) (hb : Below W.heap.size W W') :
    ∀ (ts : List TypeId) (vs : List Value) (ds : List (DataW H)) (p : List MemPlace), (ts.all fun t => P.readableRec t && decide (t < P.types.size)) = true →
      DataW.TrodAll enc P W 0 (fun _ => true) true ts vs ds p → (∀ x ∈ p, x.block < W.heap.size) →
      DataW.TrodAll enc P W' 0 (fun b => decide (b < W.heap.size)) true ts vs ds p
  | [], [], [], p, _, h, _ => h
  | t :: ts, v :: vs, d :: ds, p, ht, h, hlt => by
    obtain ⟨p1, p2, h1, h2, rfl⟩ := h
    simp only [List.all_cons, Bool.and_eq_true, decide_eq_true_eq] at ht
    exact ⟨p1, p2, Below.trod hl ht.1.1 ht.1.2 h1 hb (fun x hx => hlt x (List.mem_append.2 (.inl hx))),
      trodAll_below hl hb ts vs ds p2 ht.2 h2 (fun x hx => hlt x (List.mem_append.2 (.inr hx))), rfl⟩
  | [], _ :: _, _, _, _, h, _ => h.elim
  | [], [], _ :: _, _, _, h, _ => h.elim
  | _ :: _, [], _, _, _, h, _ => h.elim
  | _ :: _, _ :: _, [], _, _, h, _ => h.elim

theorem own : ownKnob Try.prog.godebug = none := by kernel_rfl
theorem laidOut : laidOutB Try.prog = true := by kernel_rfl

/-- THE CLOSING: what a law's contract gives of the row's 'post'. -/
theorem law_post {H : Type} {enc : TypeId × Value → H} {fn : Func} {s : ChangeSpec} {W : World} {args : Array Value} {ds gs : List (DataW H)} {before : List MemPlace} {F : FuncId}
    (hres : fn.resultTypes = #[4]) (hts : (fn.params.toList.all fun t => Try.prog.readableRec t && decide (t < Try.prog.types.size)) = true) (hvars : s.vars = [])
    (hW : DataW.Whole enc Try.prog fn.params.toList s.vars false W args.toList ds gs before)
    (hspec : s.fn H (ds ++ gs) = { results := [.lit (.bool true)], args := ds })
    (hc : Calls Try.prog F args W fun e W' => e = .returned (.bool true) ∧ Below W.heap.size W W') :
    Calls Try.prog F args W fun e W' => ∃ v, e = .returned v ∧ s.post enc Try.prog fn false true false false W args v W' := by
  refine hc.mono fun e W' ⟨he, bel⟩ => ?_
  subst he
  have hW' := hW
  obtain ⟨p, q, hA, hV, rfl, hfz, hnd⟩ := hW
  have hlt := trodAll_lt _ _ _ _ hA
  rw [hvars] at hV
  refine ⟨_, rfl, ds, gs, _, [], p, [], hW', ?_, ?_, ?_, bel.frame _, fun h => by cases h⟩
  · rw [hspec, hres]; exact trodAll_mk1 (shut_bool Try.underlying4 true)
  · rw [hspec]; exact trodAll_below laidOut bel _ _ _ _ hts hA hlt
  · rw [hspec, hvars]; rfl
end Go.Proofs.Ytopomocbjlikjaa

namespace Go.Proofs.Ytopomocbjlikjaa
set_option linter.unusedVariables false
set_option linter.unusedSimpArgs false
open Go.BigFrame Go.RowKit Go.ChangeShapes Go.WideShapes Go.ChangeAt Go.Joins Go.Deep
open Go.ChangeMaps (open_string shut_string)

set_option maxRecDepth 100000 in
/-- a row that came in -/
theorem open_row {H : Type} {enc : TypeId × Value → H} {W : World} {base : Nat} {v : Value} {d : DataW H} {p : List MemPlace} {spare : Nat → Bool} {held : Bool} {base2 : Nat}
    (hv : Value.okWide Try.prog W .any base 35 v) (h : DataW.Trod enc Try.prog W base2 spare held 35 v d p) :
    ∃ (k x : ByteArray), v = .agg #[.string k, .string x] ∧ k.size ≤ maxLen ∧ x.size ≤ maxLen := by
  obtain ⟨c0, c1, y0, y1, n, rfl, -, -, h0, h1⟩ := open_agg2 Try.underlying35 (by kernel_rfl) cells_row hv h
  obtain ⟨k, e0, -, w0⟩ := DataW.trod_string Try.underlying9 h0
  obtain ⟨x, e1, -, w1⟩ := DataW.trod_string Try.underlying9 h1
  simp only [List.cons.injEq, and_true] at e0 e1
  subst e0 e1
  exact ⟨k, x, rfl, w0, w1⟩

theorem cells_str : Try.prog.cellsOf 9 = 1 := by kernel_rfl
instance : Inhabited (ByteArray × ByteArray) := ⟨(ByteArray.empty, ByteArray.empty)⟩
set_option maxRecDepth 100000 in
/-- rows that came in -/
theorem open_rows {H : Type} {enc : TypeId × Value → H} {W : World} {base : Nat} {v : Value} {d : DataW H} {p : List MemPlace} {held : Bool} {base2 : Nat}
    (hv : Value.okWide Try.prog W .any base 25 v) (h : DataW.Trod enc Try.prog W base2 (fun _ => true) held 25 v d p) :
    ∃ (oa : Option Addr) (n cap : Nat) (l : List Rw), v = .slice oa n cap ∧ RowsAt W oa n cap l := by
  obtain ⟨oa, n, cap, rfl⟩ := okWide_slice Try.underlying25 hv
  obtain ⟨fuel, hf⟩ := h
  rcases open_slice_pairs Try.underlying25 Try.underlying35 cells_row rfl rfl cells_str cells_str hf with ⟨hc, hx⟩ | ⟨a, len, cp, m, k, V0, V1, D0, D1, P0, P1, hc, _, hl, hm, hmm, hx, hall⟩
  · simp only [Value.cells, List.cons.injEq, and_true, Value.slice.injEq] at hc
    obtain ⟨rfl, rfl, rfl⟩ := hc
    exact ⟨none, 0, 0, [], rfl, rfl, Nat.le_refl _, Nat.zero_le _, fun _ => rfl, ⟨0, 0, fun q => absurd q (by omega), fun i hi => absurd hi (by omega)⟩, fun i hi => absurd hi (by omega)⟩
  · simp only [Value.cells, List.cons.injEq, and_true, Value.slice.injEq] at hc
    obtain ⟨rfl, rfl, rfl⟩ := hc
    simp only [if_true] at hmm
    subst hmm
    have each : ∀ i, i < n → ∃ q : ByteArray × ByteArray, V0 i = .string q.1 ∧ V1 i = .string q.2 ∧ q.1.size ≤ maxLen ∧ q.2.size ≤ maxLen := by
      intro i hi
      have hi' := hall i (by omega)
      obtain ⟨s0, e0, -, w0⟩ := DataW.trod_string Try.underlying9 hi'.2.2.1
      obtain ⟨s1, e1, -, w1⟩ := DataW.trod_string Try.underlying9 hi'.2.2.2
      simp only [List.cons.injEq, and_true] at e0 e1
      exact ⟨(s0, s1), e0, e1, w0, w1⟩
    obtain ⟨q, hq⟩ := choose_lt each
    have hr : ∀ i, i < n → rAt ((List.range n).map fun i => (⟨(q i).1, (q i).2⟩ : Rw)) i = ⟨(q i).1, (q i).2⟩ := fun i hi => by
      rw [rAt_lt (by simpa using hi)]; simp
    refine ⟨some a, n, m, (List.range n).map fun i => ⟨(q i).1, (q i).2⟩, rfl, by simp, hl, hm, fun q => (by cases q), ?_, fun i hi => ?_⟩
    · obtain ⟨b, off, spot⟩ := a
      rcases Nat.eq_zero_or_pos n with h0 | h0
      · subst h0
        exact ⟨0, 0, fun q => absurd q (by omega), fun i hi => absurd hi (by omega)⟩
      · have g0 := (hall 0 (by omega)).1
        have hspot : spot = none := by simpa [Addr.add] using World.cell?_spot g0
        subst hspot
        refine ⟨b, off, fun _ => ⟨rfl, ?_⟩, fun i hi => ?_⟩
        · rcases Nat.lt_or_ge b W.heap.size with k | k
          · exact k
          · rw [add_block] at g0
            unfold World.cell? at g0
            rw [show W.heap[b]? = none from Array.getElem?_eq_none k] at g0
            simp at g0
        · have g := hall i (by omega)
          rw [add_block, add_block] at g
          have e1 := g.1
          have e2 := g.2.1
          rw [(hq i hi).1] at e1
          rw [(hq i hi).2.1] at e2
          unfold kAt vAt
          rw [hr i hi]
          exact ⟨e1, by rw [Nat.add_assoc]; exact e2⟩
    · unfold kAt vAt
      rw [hr i hi]
      exact ⟨(hq i hi).2.2.1, (hq i hi).2.2.2⟩
end Go.Proofs.Ytopomocbjlikjaa
