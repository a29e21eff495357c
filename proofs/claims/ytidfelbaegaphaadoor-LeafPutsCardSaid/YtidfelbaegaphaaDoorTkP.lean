import Derived.Test.YtidfelbaegaphaaDoorAw
namespace Go.Proofs.YtidfelbaegaphaaDoor
set_option linter.unusedVariables false
set_option linter.unusedSimpArgs false

/-- is a row's key in a span? -/
def inS (low high : ByteArray) (u : Bool) (r : Rw) : Bool := inB low high u r.key
/-- rows in the order in which they are gone through -/
def visit (l : List Rw) (rev : Bool) : List Rw := if rev = true then l.reverse else l
theorem visit_length (l : List Rw) (rev : Bool) : (visit l rev).length = l.length := by unfold visit; split <;> simp
theorem visit_get {l : List Rw} {rev : Bool} {k : Nat} (h : k < l.length) : rAt (visit l rev) k = rAt l (if rev = true then l.length - 1 - k else k) := by
  unfold visit
  split
  · rw [rAt_lt (by simpa using h), rAt_lt (by omega), List.getElem_reverse]
  · rfl
/-- rows of a span, by a limit -/
def takeR (low high : ByteArray) (u : Bool) (lim : Int) (rev : Bool) (l : List Rw) : List Rw :=
  if 1 ≤ lim then ((visit l rev).filter (inS low high u)).take lim.toNat else (visit l rev).filter (inS low high u)
/-- what is found among the first k -/
def found (low high : ByteArray) (u : Bool) (xs : List Rw) (k : Nat) : List Rw := (xs.take k).filter (inS low high u)

theorem found_in {low high : ByteArray} {u : Bool} {xs : List Rw} {k : Nat} (hk : k < xs.length) (h : inS low high u (rAt xs k) = true) : found low high u xs (k + 1) = found low high u xs k ++ [rAt xs k] := by
  unfold found
  rw [List.take_succ_eq_append_getElem hk, List.filter_append, ← rAt_lt hk]
  simp [h]
theorem found_out {low high : ByteArray} {u : Bool} {xs : List Rw} {k : Nat} (hk : k < xs.length) (h : inS low high u (rAt xs k) = false) : found low high u xs (k + 1) = found low high u xs k := by
  unfold found
  rw [List.take_succ_eq_append_getElem hk, List.filter_append, ← rAt_lt hk]
  simp [h]
theorem found_le (low high : ByteArray) (u : Bool) (xs : List Rw) (k : Nat) : (found low high u xs k).length ≤ xs.length := by
  unfold found
  exact Nat.le_trans (List.length_filter_le _ _) (by rw [List.length_take]; omega)
theorem found_split (low high : ByteArray) (u : Bool) (xs : List Rw) (k : Nat) : xs.filter (inS low high u) = found low high u xs k ++ (xs.drop k).filter (inS low high u) := by
  unfold found
  rw [← List.filter_append, List.take_append_drop]
theorem takeR_end {low high : ByteArray} {u : Bool} {lim : Int} {rev : Bool} {l : List Rw} {k : Nat} (hk : l.length ≤ k) (h : 1 ≤ lim → ((found low high u (visit l rev) k).length : Int) < lim) :
    takeR low high u lim rev l = found low high u (visit l rev) k := by
  have e : found low high u (visit l rev) k = (visit l rev).filter (inS low high u) := by
    unfold found; rw [List.take_of_length_le (by rw [visit_length]; exact hk)]
  unfold takeR
  rw [e] at h ⊢
  split
  · rename_i q
    have := h q
    rw [List.take_of_length_le (by omega)]
  · rfl
theorem takeR_stop {low high : ByteArray} {u : Bool} {lim : Int} {rev : Bool} {l : List Rw} {k : Nat} (h1 : 1 ≤ lim) (h : ((found low high u (visit l rev) k).length : Int) = lim) :
    takeR low high u lim rev l = found low high u (visit l rev) k := by
  unfold takeR
  rw [if_pos h1, found_split low high u (visit l rev) k]
  exact List.take_left' (by omega)
theorem takeR_sized {low high : ByteArray} {u : Bool} {lim : Int} {rev : Bool} {l : List Rw} : (takeR low high u lim rev l).length ≤ l.length := by
  have h : ((visit l rev).filter (inS low high u)).length ≤ l.length := by
    have := List.length_filter_le (inS low high u) (visit l rev)
    rwa [visit_length] at this
  unfold takeR
  split
  · rw [List.length_take]; omega
  · exact h
end Go.Proofs.YtidfelbaegaphaaDoor
