import Derived.Test.YtkngjnkecmjakaaDoorRf
import Derived.Test.YtkngjnkecmjakaaDoorFe
namespace Go.Proofs.YtkngjnkecmjakaaDoor
set_option linter.unusedVariables false
set_option linter.unusedSimpArgs false
open Go.BigFrame Go.RowKit Go.WideShapes

/-- an event: its thread, its call, what it told, when -/
structure Ev where
  thread : Int
  kind : Int
  key : ByteArray
  cval : ByteArray
  val : ByteArray
  code : Int
  beg : Int
  fin : Int
  deriving Inhabited, DecidableEq
def evAt (l : List Ev) (i : Nat) : Ev := l.getD i ⟨0, 0, ByteArray.empty, ByteArray.empty, ByteArray.empty, 0, 0, 0⟩
theorem evAt_lt {l : List Ev} {i : Nat} (h : i < l.length) : evAt l i = l[i] := by
  unfold evAt; rw [List.getD_eq_getElem?_getD, List.getElem?_eq_getElem h]; rfl
/-- an event as a value -/
abbrev Ev.v (e : Ev) : Value := .agg #[.int .i64 e.thread, .int .i64 e.kind, .string e.key, .string e.cval, .string e.val, .int .i64 e.code, .int .i64 e.beg, .int .i64 e.fin]

/-- may a call be? -/
def mayB (kind : Int) (key val : ByteArray) : Bool := decide (1 ≤ kind) && decide (kind ≤ 5) && rightB key && (decide (kind = 1) || decide (kind = 5) || decide (val.size ≤ 16))
/-- may an event be? -/
def evOk (e : Ev) : Bool := mayB e.kind e.key e.cval && decide (0 ≤ e.beg) && (decide (e.fin < 0) || decide (e.beg ≤ e.fin))
/-- does an event stand ahead of another one? -/
def aheadB (a b : Ev) : Bool := decide (0 ≤ a.fin) && decide (a.fin ≤ b.beg)
/-- a key's value, or none -/
def wasOf (key : ByteArray) (l : List Rw) : ByteArray := if hasB key l = true then vAt l (place key l) else ⟨#[]⟩
/-- what a call does to rows, and tells -/
def applyL (kind : Int) (key val : ByteArray) (l : List Rw) : List Rw × ByteArray × Int :=
  if hasB key l = true ∧ kind = 2 then (l, ⟨#[]⟩, 7)
  else if hasB key l = false ∧ kind ≠ 2 ∧ kind ≠ 4 then (l, ⟨#[]⟩, 6)
  else if kind = 1 then (l, wasOf key l, 0)
  else if kind = 5 then (dropL l key, wasOf key l, 0)
  else (putL l ⟨key, val⟩, wasOf key l, 0)

set_option maxRecDepth 100000 in
set_option maxHeartbeats 2000000 in
theorem may_any (kind : Int) (key val : ByteArray) (w : World) (hk : key.size ≤ maxLen) (hv : val.size ≤ maxLen) :
    Calls Tryd.prog 27 #[.agg #[.int .i64 kind, .string key, .string val]] w fun e w' => e = .returned (.bool (mayB kind key val)) ∧ Gr w w' := by
  unfold mayB
  have hv2 := hv
  unfold maxLen at hv2
  have hR := fun w => right_any key w hk
  have b0 := fun d : Nat => (show ((w.alloc (.cells #[.int .i64 kind, .string key, .string val] 36)).drewN d).cell? ⟨w.heap.size, 0, none⟩ = some (.int .i64 kind) from World.cell?_alloc_new w _ _ 0)
  have b2 := fun d : Nat => (show ((w.alloc (.cells #[.int .i64 kind, .string key, .string val] 36)).drewN d).cell? ⟨w.heap.size, 2, none⟩ = some (.string val) from World.cell?_alloc_new w _ _ 2)
  cases hr : rightB key
  all_goals
    rw [hr] at hR
    have HR := Lib.hid hR
    clear hR hr
    go_enter Tryd.func27, Tryd.ntmps27
    go_wp2_with (go_at_call 45; refine (HR.out _).mono ?_; rintro e w' ⟨rfl, d, rfl⟩)
    all_goals
      go_ret
      refine ⟨ret_bool ?_, by repeat (first | with_reducible exact Gr.refl _ | with_reducible refine Gr.drewN ?_ _ | with_reducible refine Gr.drew ?_ | with_reducible refine Gr.alloc ?_ _ | with_reducible refine Gr.setCell ?_ ?_ _ | (with_reducible refine Gr.trans ?_ (by assumption)) | omega | (dsimp only; omega))⟩
      first | rfl | (simp; omega) | (simp; done) | (rw [Bool.eq_iff_iff]; simp; omega)
end Go.Proofs.YtkngjnkecmjakaaDoor
