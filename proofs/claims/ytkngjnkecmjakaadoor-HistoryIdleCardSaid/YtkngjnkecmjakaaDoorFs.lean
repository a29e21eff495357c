import Derived.Test.YtkngjnkecmjakaaDoorHy
namespace Go.Proofs.YtkngjnkecmjakaaDoor
set_option linter.unusedVariables false
set_option linter.unusedSimpArgs false

/-- what Apply tells of any call and any rows -/
def applyH (kind : Int) (key val : ByteArray) (l : List Rw) : List Rw × ByteArray × Int :=
  if mayB kind key val = true ∧ rowsOkB l = true then applyL kind key val l else (l, ⟨#[]⟩, 1)
/-- does an event change nothing? -/
def idleB (e : Ev) : Bool := decide (0 ≤ e.fin) && (decide (e.code = 3) || decide (e.code = 5))
/-- rows behind an event that may stand there -/
def stepE (now : List Rw) (e : Ev) : Option (List Rw) :=
  if idleB e = true then some now
  else if 0 ≤ e.fin ∧ ((applyH e.kind e.key e.cval now).2.1 ≠ e.val ∨ (applyH e.kind e.key e.cval now).2.2 ≠ e.code) then none
  else some (applyH e.kind e.key e.cval now).1
def usedAt (u : List Bool) (i : Nat) : Bool := u.getD i false
/-- do all that are not pending stand in the order? -/
def wholeB (l : List Ev) (u : List Bool) : Bool := decide (∀ i, i < l.length → usedAt u i = true ∨ (evAt l i).fin < 0)
/-- may an event stand next? -/
def freeB (l : List Ev) (u : List Bool) (i : Nat) : Bool := !usedAt u i && decide (∀ k, k < l.length → k ≠ i → usedAt u k = false → aheadB (evAt l k) (evAt l i) = false)
/-- the first of the places from one on that has an answer -/
def tryFrom {β : Type} (c : Nat → Option β) : Nat → Nat → Option β
  | 0, _ => none
  | k + 1, i => match c i with
    | some r => some r
    | none => tryFrom c k (i + 1)
/-- what a place comes to -/
def candF (l : List Ev) (rec : List Bool → List Nat → List Rw → Option (List Nat × List Rw)) (u : List Bool) (o : List Nat) (now : List Rw) (i : Nat) : Option (List Nat × List Rw) :=
  if freeB l u i = true then
    match stepE now (evAt l i) with
    | some next => rec (u.set i true) (o ++ [i]) next
    | none => none
  else none
/-- the search -/
def findF (l : List Ev) : Nat → List Bool → List Nat → List Rw → Option (List Nat × List Rw)
  | 0, u, o, now => if wholeB l u = true then some (o, now) else none
  | f + 1, u, o, now => if wholeB l u = true then some (o, now) else tryFrom (candF l (findF l f) u o now) l.length 0

/-- the two inserts of one key -/
def twoIns : List Ev := [⟨0, 2, ⟨#[97]⟩, ⟨#[49]⟩, ⟨#[]⟩, 7, 0, 9⟩, ⟨0, 2, ⟨#[97]⟩, ⟨#[49]⟩, ⟨#[]⟩, 0, 0, 9⟩]
theorem twoIns_found : findF twoIns 2 [false, false] [] [] = some ([1, 0], [⟨⟨#[97]⟩, ⟨#[49]⟩⟩]) := by decide
end Go.Proofs.YtkngjnkecmjakaaDoor
