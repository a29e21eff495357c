/-
  From a contract of a law to its statement: each law of this seat tells true, and leaves what it is handed as it was.
-/
import Derived.Test.YtfejdbcfcpmdiaaDoorStrz
import Derived.ProofKit
import Derived.OpenShut
import Derived.ShutString
import Derived.ChangeOld
namespace Go.Proofs.YtfejdbcfcpmdiaaDoor
open Go.ChangeShapes Go.WideShapes Go.ChangeAt Go.RowKit

theorem trodAll_lt {H : Type} {enc : TypeId × Value → H} {P : Program} {W : World} {base : Nat} {spare : Nat → Bool} {held : Bool} :
    ∀ (ts : List TypeId) (vs : List Value) (ds : List (DataW H)) (p : List MemPlace), DataW.TrodAll enc P W base spare held ts vs ds p → ∀ x ∈ p, x.block < W.heap.size
  | [], [], [], p, h, x, hx => by
    have h' : p = [] := h
    subst h'; cases hx
  | t :: ts, v :: vs, d :: ds, p, h, x, hx => by
    obtain ⟨p1, p2, ⟨fuel, h1⟩, h2, rfl⟩ := h
    rcases List.mem_append.1 hx with hx | hx
    · exact DataW.trod_lt fuel _ _ _ h1 x hx
    · exact trodAll_lt ts vs ds p2 h2 x hx
  | [], _ :: _, _, _, h, _, _ => h.elim
  | [], [], _ :: _, _, h, _, _ => h.elim
  | _ :: _, [], _, _, h, _, _ => h.elim
  | _ :: _, _ :: _, [], _, h, _, _ => h.elim

theorem trodAll_below {H : Type} {enc : TypeId × Value → H} {P : Program} {W W' : World} (hl : laidOutB P = true) (hb : Below W.heap.size W W') :
    ∀ (ts : List TypeId) (vs : List Value) (ds : List (DataW H)) (p : List MemPlace), (ts.all fun t => P.readableRec t && decide (t < P.types.size)) = true →
      DataW.TrodAll enc P W 0 (fun _ => true) true ts vs ds p → (∀ x ∈ p, x.block < W.heap.size) →
      DataW.TrodAll enc P W' 0 (fun b => decide (b < W.heap.size)) true ts vs ds p
  | [], [], [], p, _, h, _ => h
  | t :: ts, v :: vs, d :: ds, p, ht, h, hlt => by
    obtain ⟨p1, p2, h1, h2, rfl⟩ := h
    simp only [List.all_cons, Bool.and_eq_true, decide_eq_true_eq] at ht
    exact ⟨p1, p2, Below.trod hl ht.1.1 ht.1.2 h1 hb (fun x hx => hlt x (List.mem_append.2 (.inl hx))),
      trodAll_below hl hb ts vs ds p2 ht.2 h2 (fun x hx => hlt x (List.mem_append.2 (.inr hx))), rfl⟩
  | [], _ :: _, _, _, _, h, _ => h.elim
  | [], [], _ :: _, _, _, h, _ => h.elim
  | _ :: _, [], _, _, _, h, _ => h.elim
  | _ :: _, _ :: _, [], _, _, h, _ => h.elim

theorem own : ownKnob Tryd.prog.godebug = none := by kernel_rfl
theorem laidOut : laidOutB Tryd.prog = true := by kernel_rfl

/-- THE CLOSING: what a law's contract gives of the row's 'post'. -/
theorem law_post {H : Type} {enc : TypeId × Value → H} {fn : Func} {s : ChangeSpec} {W : World} {args : Array Value} {ds gs : List (DataW H)} {before : List MemPlace} {F : FuncId}
    (hres : fn.resultTypes = #[4]) (hts : (fn.params.toList.all fun t => Tryd.prog.readableRec t && decide (t < Tryd.prog.types.size)) = true) (hvars : s.vars = [])
    (hW : DataW.Whole enc Tryd.prog fn.params.toList s.vars false W args.toList ds gs before)
    (hspec : s.fn H (ds ++ gs) = { results := [.lit (.bool true)], args := ds })
    (hc : Calls Tryd.prog F args W fun e W' => e = .returned (.bool true) ∧ Below W.heap.size W W') :
    Calls Tryd.prog F args W fun e W' => ∃ v, e = .returned v ∧ s.post enc Tryd.prog fn false true false false W args v W' := by
  refine hc.mono fun e W' ⟨he, bel⟩ => ?_
  subst he
  have hW' := hW
  obtain ⟨p, q, hA, hV, rfl, hfz, hnd⟩ := hW
  have hlt := trodAll_lt _ _ _ _ hA
  rw [hvars] at hV
  refine ⟨_, rfl, ds, gs, _, [], p, [], hW', ?_, ?_, ?_, bel.frame _, fun h => by cases h⟩
  · rw [hspec, hres]; exact trodAll_mk1 (shut_bool Tryd.underlying4 true)
  · rw [hspec]; exact trodAll_below laidOut bel _ _ _ _ hts hA hlt
  · rw [hspec, hvars]; rfl
end Go.Proofs.YtfejdbcfcpmdiaaDoor
