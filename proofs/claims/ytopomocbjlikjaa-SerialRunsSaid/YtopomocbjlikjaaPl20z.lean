import Derived.Test.YtopomocbjlikjaaPtz
namespace Go.Proofs.Ytopomocbjlikjaa
set_option linter.unusedVariables false
set_option linter.unusedSimpArgs false

/-! Trips, plainly (serial). -/
/-- something that was seen, or written -/
structure Sn where
  kind : Int
  key : ByteArray
  val : ByteArray
  there : Bool
  low : ByteArray
  high : ByteArray
  unb : Bool
  limit : Int
  rev : Bool
  rows : List Rw
/-- a trip -/
structure Tr where
  beg : Int
  fin : Int
  snap : Int
  num : Int
  seen : List Sn
/-- what one thing that was written leaves of rows -/
def wrS (l : List Rw) (s : Sn) : List Rw := if s.kind = 3 then (if fitsB ⟨s.key, s.val⟩ = true then putL l ⟨s.key, s.val⟩ else l) else if s.kind = 4 then dropL l s.key else l
def wrL (ss : List Sn) (l : List Rw) : List Rw := ss.foldl wrS l
def okS (s : Sn) : Bool := decide (2 ≤ s.kind) && decide (s.kind ≤ 5) && (!decide (s.kind = 3) || fitsB ⟨s.key, s.val⟩) && (!decide (s.kind = 4) || rightB s.key)
def okT (t : Tr) : Bool := decide (0 ≤ t.beg) && decide (t.beg ≤ t.fin) && decide (0 ≤ t.snap) && decide (0 ≤ t.num) && !(decide (0 < t.num) && decide (t.num ≤ t.snap)) && t.seen.all okS
/-- the greatest number -/
def lastN (l : List Tr) : Int := l.foldl (fun a t => max a t.num) 0
def countN (l : List Tr) (n : Int) : Nat := (l.filter fun t => decide (t.num = n)).length
/-- the document's rows behind a number -/
def oneR (l : List Tr) (n : Int) (r : List Rw) : List Rw := l.foldl (fun r t => if t.num = n then wrL t.seen r else r) r
def stR (l : List Tr) : Nat → List Rw
  | 0 => []
  | n + 1 => oneR l (n + 1) (stR l n)
/-- the program's: by the trip that has the number -/
def byN (l : List Tr) (n : Int) : Option Tr := l.find? fun t => decide (t.num = n)
def stP (l : List Tr) : Nat → List Rw
  | 0 => []
  | n + 1 => match byN l (n + 1) with | some t => wrL t.seen (stP l n) | none => []
theorem oneR_none {n : Int} : ∀ {l : List Tr} (r : List Rw), (∀ t ∈ l, t.num ≠ n) → oneR l n r = r
  | [], r, _ => rfl
  | t :: l, r, h => by
    show oneR l n (if t.num = n then wrL t.seen r else r) = r
    rw [if_neg (h t (by simp))]
    exact oneR_none r fun x hx => h x (by simp [hx])
theorem count_zero {n : Int} {l : List Tr} (h : countN l n = 0) : ∀ t ∈ l, t.num ≠ n := fun t ht e => by
  unfold countN at h
  rw [List.length_eq_zero_iff] at h
  have : t ∈ l.filter fun t => decide (t.num = n) := List.mem_filter.2 ⟨ht, by simpa using e⟩
  rw [h] at this
  cases this
theorem oneR_one {n : Int} : ∀ {l : List Tr} (r : List Rw), countN l n = 1 → ∃ t, byN l n = some t ∧ oneR l n r = wrL t.seen r
  | [], r, h => by simp [countN] at h
  | t :: l, r, h => by
    by_cases e : t.num = n
    · have h0 : countN l n = 0 := by
        unfold countN at h ⊢
        rw [List.filter_cons_of_pos (by simpa using e)] at h
        simpa using h
      refine ⟨t, ?_, ?_⟩
      · unfold byN; rw [List.find?_cons_of_pos (by simpa using e)]
      · show oneR l n (if t.num = n then wrL t.seen r else r) = _
        rw [if_pos e]
        exact oneR_none _ (count_zero h0)
    · have h1 : countN l n = 1 := by
        unfold countN at h ⊢
        rw [List.filter_cons_of_neg (by simpa using e)] at h
        exact h
      obtain ⟨x, h2, h3⟩ := oneR_one (l := l) r h1
      refine ⟨x, ?_, ?_⟩
      · unfold byN; rw [List.find?_cons_of_neg (by simpa using e)]; exact h2
      · show oneR l n (if t.num = n then wrL t.seen r else r) = _
        rw [if_neg e]; exact h3
/-- each number up to it stands once: the two are one -/
theorem st_eq {l : List Tr} : ∀ {n : Nat}, (∀ k : Nat, 1 ≤ k → k ≤ n → countN l k = 1) → stP l n = stR l n
  | 0, _ => rfl
  | n + 1, h => by
    have ih := st_eq (l := l) (n := n) fun k h1 h2 => h k h1 (by omega)
    obtain ⟨t, h2, h3⟩ := oneR_one (l := l) (n := ((n + 1 : Nat) : Int)) (stR l n) (h (n + 1) (by omega) (Nat.le_refl _))
    show (match byN l ((n : Int) + 1) with | some t => wrL t.seen (stP l n) | none => []) = oneR l ((n : Int) + 1) (stR l n)
    have e : ((n + 1 : Nat) : Int) = (n : Int) + 1 := by omega
    rw [e] at h2 h3
    rw [h2, h3, ih]
/-! Why there are no states. -/
open Classical in
noncomputable def codeP (l : List Tr) : Int :=
  if ∃ t ∈ l, okT t = false then 1 else if ∃ t ∈ l, 0 < t.num ∧ 1 < countN l t.num then 7 else if ∃ t ∈ l, lastN l < t.snap ∨ (l.length : Int) < lastN l then 2 else if ∃ n : Int, 1 ≤ n ∧ n ≤ lastN l ∧ countN l n = 0 then 2 else 0
open Classical in
noncomputable def codeR (l : List Tr) : Int :=
  if ∃ t ∈ l, okT t = false then 1 else if ∃ t ∈ l, 0 < t.num ∧ 1 < countN l t.num then 7 else if (l.length : Int) < lastN l then 2 else if ∃ n : Int, 1 ≤ n ∧ n ≤ lastN l ∧ countN l n = 0 then 2 else if ∃ t ∈ l, lastN l < t.snap then 2 else 0
theorem code_eq (l : List Tr) : codeP l = codeR l := by
  unfold codeP codeR
  by_cases h1 : ∃ t ∈ l, okT t = false
  · rw [if_pos h1, if_pos h1]
  rw [if_neg h1, if_neg h1]
  by_cases h2 : ∃ t ∈ l, 0 < t.num ∧ 1 < countN l t.num
  · rw [if_pos h2, if_pos h2]
  rw [if_neg h2, if_neg h2]
  by_cases h3 : (l.length : Int) < lastN l
  · rw [if_pos h3]
    cases l with
    | nil => simp [lastN] at h3
    | cons t l => rw [if_pos ⟨t, by simp, .inr h3⟩]
  rw [if_neg h3]
  by_cases h4 : ∃ n : Int, 1 ≤ n ∧ n ≤ lastN l ∧ countN l n = 0
  · rw [if_pos h4, if_pos h4]
    split <;> rfl
  rw [if_neg h4, if_neg h4]
  by_cases h5 : ∃ t ∈ l, lastN l < t.snap
  · obtain ⟨t, ht, h⟩ := h5
    rw [if_pos ⟨t, ht, .inl h⟩, if_pos ⟨t, ht, h⟩]
  · rw [if_neg h5, if_neg]
    rintro ⟨t, ht, h | h⟩
    · exact h5 ⟨t, ht, h⟩
    · exact h3 h
/-- there are states: each number up to the last stands once -/
theorem code_zero {l : List Tr} (h : codeR l = 0) : (∀ t ∈ l, okT t = true) ∧ (∀ k : Nat, 1 ≤ k → (k : Int) ≤ lastN l → countN l k = 1) ∧ (∀ t ∈ l, t.snap ≤ lastN l) ∧ lastN l ≤ l.length := by
  unfold codeR at h
  split at h
  · cases h
  · rename_i h1
    split at h
    · cases h
    · rename_i h2
      split at h
      · cases h
      · rename_i h3
        split at h
        · cases h
        · rename_i h4
          split at h
          · cases h
          · rename_i h5
            refine ⟨fun t ht => ?_, fun k hk hl => ?_, fun t ht => ?_, by omega⟩
            · cases hq : okT t
              · exact absurd ⟨t, ht, hq⟩ h1
              · rfl
            · rcases Nat.lt_trichotomy (countN l k) 1 with q | q | q
              · exact absurd ⟨(k : Int), by omega, hl, by omega⟩ h4
              · exact q
              · exfalso
                obtain ⟨t, ht⟩ := List.exists_mem_of_length_pos (l := l.filter fun t => decide (t.num = (k : Int))) (by unfold countN at q; omega)
                obtain ⟨h6, h7⟩ := List.mem_filter.1 ht
                have h7 : t.num = (k : Int) := by simpa using h7
                exact h2 ⟨t, h6, by omega, by rw [h7]; exact q⟩
            · rcases Int.lt_or_le (lastN l) t.snap with q | q
              · exact absurd ⟨t, ht, q⟩ h5
              · exact q
end Go.Proofs.Ytopomocbjlikjaa

namespace Go.Proofs.Ytopomocbjlikjaa
set_option linter.unusedVariables false
set_option linter.unusedSimpArgs false

/-! Whether trips fit, plainly (serial). -/
/-- a key that was read -/
def seesK (s : Sn) (r : List Rw) : Bool := if hasB s.key r = true then s.there && decide (s.val = vAt r (place s.key r)) else !s.there && decide (s.val.size = 0)
def fitL : List Sn → List Rw → Bool
  | [], _ => true
  | s :: ss, r => if s.kind = 3 ∨ s.kind = 4 then fitL ss (wrS r s) else if s.kind = 5 then (if s.rows = takeR s.low s.high s.unb s.limit s.rev r then fitL ss r else false) else (seesK s r && fitL ss r)
def fitsT (t : Tr) (r : List Rw) : Bool := okT t && rowsOkB r && fitL t.seen r
open Classical in
/-- what is wrong with a trip -/
noncomputable def chkAt (l : List Tr) (t : Tr) : Int :=
  if fitsT t (stR l t.snap.toNat) = false ∨ (0 < t.num ∧ fitsT t (stR l (t.num - 1).toNat) = false) then 12 else if ∃ o ∈ l, t.snap < o.num ∧ o.fin ≤ t.beg then 13 else 0
/-- the first that is wrong, from a place on -/
noncomputable def checkF (l : List Tr) : List Tr → Nat → Int × Int
  | [], _ => (-1, 0)
  | t :: ts, i => if chkAt l t = 0 then checkF l ts (i + 1) else ((i : Int), chkAt l t)
noncomputable def checkR (l : List Tr) : Int × Int := if codeR l = 0 then checkF l l 0 else (-1, codeR l)
theorem checkF_wrong (l : List Tr) : ∀ (ts : List Tr) (i : Nat), (∃ t ∈ ts, chkAt l t ≠ 0) → (checkF l ts i).2 ≠ 0
  | [], i, h => by obtain ⟨t, ht, -⟩ := h; cases ht
  | t :: ts, i, h => by
    unfold checkF
    by_cases q : chkAt l t = 0
    · rw [if_pos q]
      refine checkF_wrong l ts (i + 1) ?_
      obtain ⟨x, hx, h1⟩ := h
      rcases List.mem_cons.1 hx with rfl | hx
      · exact absurd q h1
      · exact ⟨x, hx, h1⟩
    · rw [if_neg q]; exact q
/-- a late one is wrong -/
theorem late_wrong {l : List Tr} (hc : codeR l = 0) (h : ∃ a ∈ l, ∃ b ∈ l, 0 < a.num ∧ a.fin ≤ b.beg ∧ b.snap < a.num) : (checkR l).2 ≠ 0 := by
  obtain ⟨a, ha, b, hb, h1, h2, h3⟩ := h
  unfold checkR
  rw [if_pos hc]
  refine checkF_wrong l l 0 ⟨b, hb, ?_⟩
  unfold chkAt
  split
  · decide
  · rw [if_pos ⟨a, ha, h3, h2⟩]; decide
theorem chkAt_code (l : List Tr) (t : Tr) : chkAt l t = 0 ∨ chkAt l t = 12 ∨ chkAt l t = 13 := by
  unfold chkAt
  split
  · exact .inr (.inl rfl)
  · split
    · exact .inr (.inr rfl)
    · exact .inl rfl
/-- how a loop finds it: all ahead of a place are well -/
theorem checkF_skip (l : List Tr) : ∀ (ts : List Tr) (i k : Nat), (∀ j t, j < k → ts[j]? = some t → chkAt l t = 0) → k ≤ ts.length → checkF l ts i = checkF l (ts.drop k) (i + k)
  | ts, i, 0, _, _ => by simp
  | [], i, k + 1, _, h => by simp at h
  | t :: ts, i, k + 1, h, hk => by
    have h0 := h 0 t (by omega) rfl
    show (if chkAt l t = 0 then checkF l ts (i + 1) else ((i : Int), chkAt l t)) = _
    rw [if_pos h0, checkF_skip l ts (i + 1) k (fun j x hj hx => h (j + 1) x (by omega) hx) (by simpa using hk)]
    rw [List.drop_succ_cons, show i + 1 + k = i + (k + 1) by omega]
theorem checkR_at {l : List Tr} (hc : codeR l = 0) {k : Nat} {t : Tr} (hk : l[k]? = some t) (h : ∀ j x, j < k → l[j]? = some x → chkAt l x = 0) (hw : chkAt l t ≠ 0) : checkR l = ((k : Int), chkAt l t) := by
  have hlt : k < l.length := (List.getElem?_eq_some_iff.1 hk).1
  unfold checkR
  rw [if_pos hc, checkF_skip l l 0 k h (by omega), List.drop_eq_getElem_cons hlt]
  have e : l[k] = t := (List.getElem?_eq_some_iff.1 hk).2
  rw [e, Nat.zero_add]
  unfold checkF
  rw [if_neg hw]
theorem checkR_none {l : List Tr} (hc : codeR l = 0) (h : ∀ j x, j < l.length → l[j]? = some x → chkAt l x = 0) : checkR l = (-1, 0) := by
  unfold checkR
  rw [if_pos hc, checkF_skip l l 0 l.length h (Nat.le_refl _), List.drop_length]
  rfl
theorem drop_subS (l : List Rw) (key : ByteArray) : (dropL l key).Sublist l := by
  unfold dropL
  split
  · have e : l.take (place key l) ++ l.drop (place key l) = l := List.take_append_drop _ _
    have : (l.take (place key l) ++ l.drop (place key l + 1)).Sublist (l.take (place key l) ++ l.drop (place key l)) :=
      List.Sublist.append (List.Sublist.refl _) (by rw [← List.drop_drop]; exact List.drop_sublist _ _)
    rwa [e] at this
  · exact List.Sublist.refl _
/-- rows behind writes: how many -/
theorem wrS_len (l : List Rw) (s : Sn) : (wrS l s).length ≤ l.length + 1 := by
  unfold wrS
  split
  · split
    · have := place_le s.key l
      unfold putL
      rw [List.length_append, List.length_append, List.length_take, List.length_drop, List.length_singleton]
      dsimp only
      split <;> omega
    · omega
  · split
    · have := (drop_subS l s.key).length_le
      omega
    · omega
theorem wrL_len : ∀ (ss : List Sn) (l : List Rw), (wrL ss l).length ≤ l.length + ss.length
  | [], l => Nat.le_refl _
  | s :: ss, l => by
    have h1 := wrL_len ss (wrS l s)
    have h2 := wrS_len l s
    show (wrL ss (wrS l s)).length ≤ _
    rw [List.length_cons]; omega
end Go.Proofs.Ytopomocbjlikjaa

namespace Go.Proofs.Ytopomocbjlikjaa
set_option linter.unusedVariables false
set_option linter.unusedSimpArgs false

/-! A run, plainly (serial). -/
def keepS (s : Sn) : Bool := !decide (s.kind = 5) && (decide (s.kind = 2) || okS s)
/-- a read as it would be -/
def reS (s : Sn) (now : List Rw) : Sn := if s.kind = 2 then ⟨2, s.key, if hasB s.key now = true then vAt now (place s.key now) else ⟨#[]⟩, hasB s.key now, ⟨#[]⟩, ⟨#[]⟩, false, 0, false, []⟩ else s
/-- what a run's trip sees -/
def runS : List Sn → List Rw → List Sn
  | [], _ => []
  | s :: ss, now => if keepS s = true then reS s now :: runS ss (wrS now (reS s now)) else runS ss now
def writesL (ss : List Sn) : Bool := ss.any fun s => decide (s.kind = 3) || decide (s.kind = 4)
def runT (i n : Nat) (rows : List Rw) (t : Tr) : Tr := ⟨2 * i, 2 * i + 1, n, if writesL (runS t.seen rows) = true then (n : Int) + 1 else 0, runS t.seen rows⟩
def nextN (n : Nat) (x : Tr) : Nat := if writesL x.seen = true then n + 1 else n
def nextR (rows : List Rw) (x : Tr) : List Rw := if writesL x.seen = true then wrL x.seen rows else rows
def runL : List Tr → Nat → Nat → List Rw → List Tr
  | [], _, _, _ => []
  | t :: ts, i, n, rows => runT i n rows t :: runL ts (i + 1) (nextN n (runT i n rows t)) (nextR rows (runT i n rows t))
theorem keep_kind {s : Sn} (h : keepS s = true) : s.kind = 2 ∨ s.kind = 3 ∨ s.kind = 4 := by
  unfold keepS okS at h
  simp only [Bool.and_eq_true, Bool.or_eq_true, Bool.not_eq_true', decide_eq_true_eq, decide_eq_false_iff_not] at h
  omega
theorem reS_kind (s : Sn) (now : List Rw) : (reS s now).kind = s.kind := by
  unfold reS
  split
  · rename_i h; exact h.symm
  · rfl
theorem reS_ok {s : Sn} (h : keepS s = true) (now : List Rw) : okS (reS s now) = true := by
  unfold reS
  split
  · rfl
  · rename_i h2
    unfold keepS at h
    simp only [Bool.and_eq_true, Bool.or_eq_true, decide_eq_true_eq] at h
    rcases h.2 with q | q
    · exact absurd q h2
    · exact q
theorem runS_ok : ∀ (ss : List Sn) (now : List Rw), (runS ss now).all okS = true
  | [], _ => rfl
  | s :: ss, now => by
    unfold runS
    split
    · rename_i h
      rw [List.all_cons, reS_ok h, runS_ok]; rfl
    · exact runS_ok ss now
theorem sees_re {s : Sn} (h : s.kind = 2) (now : List Rw) : seesK (reS s now) now = true := by
  unfold reS
  rw [if_pos h]
  unfold seesK
  dsimp only
  cases hb : hasB s.key now
  · rw [if_neg (by decide), if_neg (by decide)]; rfl
  · rw [if_pos rfl, if_pos rfl]; simp
theorem runS_fit : ∀ (ss : List Sn) (now : List Rw), fitL (runS ss now) now = true
  | [], _ => rfl
  | s :: ss, now => by
    unfold runS
    split
    · rename_i h
      unfold fitL
      rw [reS_kind]
      rcases keep_kind h with q | q | q
      · rw [if_neg (by omega), if_neg (by omega), sees_re q, Bool.true_and]
        have e : wrS now (reS s now) = now := by
          unfold wrS
          rw [reS_kind, if_neg (by omega), if_neg (by omega)]
        rw [e]
        exact runS_fit ss now
      · rw [if_pos (.inl q)]; exact runS_fit ss _
      · rw [if_pos (.inr q)]; exact runS_fit ss _
    · exact runS_fit ss now
theorem wrS_ok {l : List Rw} {s : Sn} (h : rowsOkB l = true) : rowsOkB (wrS l s) = true := by
  unfold wrS
  split
  · split
    · rename_i hf; exact (keeps (r := ⟨s.key, s.val⟩) h hf).1
    · exact h
  · split
    · by_cases hb : hasB s.key l = true
      · have hr : ∃ x : Rw, fitsB x = true ∧ x.key = s.key := by
          unfold hasB at hb
          rw [decide_eq_true_iff] at hb
          have h2 := of_decide_eq_true (show decide (RowsOk l) = true from h)
          exact ⟨rAt l (place s.key l), (h2 _ hb.1).1, hb.2⟩
        obtain ⟨x, hx, hk⟩ := hr
        have := (keeps (r := x) h hx).2.1
        rw [hk] at this
        exact this
      · unfold dropL
        rw [if_neg hb]; exact h
    · exact h
theorem wrL_ok : ∀ {ss : List Sn} {l : List Rw}, rowsOkB l = true → rowsOkB (wrL ss l) = true
  | [], _, h => h
  | s :: ss, l, h => wrL_ok (ss := ss) (l := wrS l s) (wrS_ok h)
theorem wrL_none : ∀ {ss : List Sn} {l : List Rw}, writesL ss = false → wrL ss l = l
  | [], _, _ => rfl
  | s :: ss, l, h => by
    unfold writesL at h
    rw [List.any_cons, Bool.or_eq_false_iff] at h
    have h1 := h.1
    simp only [Bool.or_eq_false_iff, decide_eq_false_iff_not] at h1
    show wrL ss (wrS l s) = l
    have e : wrS l s = l := by unfold wrS; rw [if_neg h1.1, if_neg h1.2]
    rw [e]
    exact wrL_none h.2
end Go.Proofs.Ytopomocbjlikjaa

namespace Go.Proofs.Ytopomocbjlikjaa
set_option linter.unusedVariables false
set_option linter.unusedSimpArgs false

/-! A run is right, plainly (serial). -/
theorem oneR_app (a b : List Tr) (k : Int) (r : List Rw) : oneR (a ++ b) k r = oneR b k (oneR a k r) := by
  unfold oneR; rw [List.foldl_append]
theorem stR_app {a b : List Tr} {n : Nat} (h : ∀ t ∈ b, t.num = 0 ∨ (n : Int) < t.num) : ∀ {m : Nat}, m ≤ n → stR (a ++ b) m = stR a m
  | 0, _ => rfl
  | m + 1, hm => by
    show oneR (a ++ b) ((m : Int) + 1) (stR (a ++ b) m) = oneR a ((m : Int) + 1) (stR a m)
    rw [oneR_app, stR_app h (m := m) (by omega)]
    exact oneR_none _ fun t ht e => by have := h t ht; omega
theorem next_le (n : Nat) (x : Tr) : n ≤ nextN n x ∧ nextN n x ≤ n + 1 := by
  unfold nextN; split <;> omega
theorem suf_num : ∀ (ts : List Tr) (i n : Nat) (rows : List Rw), ∀ t ∈ runL ts i n rows, t.num = 0 ∨ (n : Int) < t.num
  | [], _, _, _, _, h => by cases h
  | t :: ts, i, n, rows, x, h => by
    rcases List.mem_cons.1 h with rfl | h
    · show (if writesL (runS t.seen rows) = true then (n : Int) + 1 else 0) = 0 ∨ (n : Int) < (if writesL (runS t.seen rows) = true then (n : Int) + 1 else 0)
      split
      · right; omega
      · left; rfl
    · rcases suf_num ts _ _ _ x h with q | q
      · exact .inl q
      · have := (next_le n (runT i n rows t)).1
        exact .inr (by omega)
theorem suf_fin : ∀ (ts : List Tr) (i n : Nat) (rows : List Rw), ∀ t ∈ runL ts i n rows, 2 * (i : Int) + 1 ≤ t.fin
  | [], _, _, _, _, h => by cases h
  | t :: ts, i, n, rows, x, h => by
    rcases List.mem_cons.1 h with rfl | h
    · exact Int.le_refl _
    · have := suf_fin ts _ _ _ x h
      omega
theorem count_app (a b : List Tr) (k : Int) : countN (a ++ b) k = countN a k + countN b k := by
  unfold countN; rw [List.filter_append, List.length_append]
theorem count_none {l : List Tr} {k : Int} (h : ∀ t ∈ l, t.num ≠ k) : countN l k = 0 := by
  unfold countN
  rw [List.length_eq_zero_iff, List.filter_eq_nil_iff]
  intro t ht
  simpa using h t ht
theorem runT_ok (i n : Nat) (rows : List Rw) (t : Tr) : okT (runT i n rows t) = true := by
  unfold okT runT
  dsimp only
  rw [runS_ok]
  simp only [Bool.and_true, Bool.and_eq_true, decide_eq_true_eq, Bool.not_eq_true', Bool.and_eq_false_iff, decide_eq_false_iff_not]
  split <;> omega
/-- what holds ahead of a place of a run -/
structure RunInv (pre : List Tr) (i n : Nat) (rows : List Rw) : Prop where
  num : ∀ t ∈ pre, 0 ≤ t.num ∧ t.num ≤ (n : Int)
  fin : ∀ t ∈ pre, t.fin < 2 * (i : Int)
  once : ∀ m : Nat, 1 ≤ m → m ≤ n → countN pre m = 1
  st : stR pre n = rows
  ok : rowsOkB rows = true
  len : n ≤ pre.length
theorem run_inv {pre : List Tr} {i n : Nat} {rows : List Rw} (h : RunInv pre i n rows) (t : Tr) : RunInv (pre ++ [runT i n rows t]) (i + 1) (nextN n (runT i n rows t)) (nextR rows (runT i n rows t)) := by
  have hx : (runT i n rows t).num = if writesL (runT i n rows t).seen = true then (n : Int) + 1 else 0 := rfl
  have hf : (runT i n rows t).fin = 2 * (i : Int) + 1 := rfl
  generalize runT i n rows t = x at *
  have hn := next_le n x
  refine ⟨fun y hy => ?_, fun y hy => ?_, fun m h1 h2 => ?_, ?_, ?_, by rw [List.length_append, List.length_singleton]; have := h.len; omega⟩
  · rcases List.mem_append.1 hy with q | q
    · have := h.num y q; omega
    · rw [List.mem_singleton] at q
      subst q
      unfold nextN
      rw [hx]
      split <;> omega
  · rcases List.mem_append.1 hy with q | q
    · have := h.fin y q; omega
    · rw [List.mem_singleton] at q
      subst q
      omega
  · rw [count_app]
    unfold nextN at h2
    by_cases hw : writesL x.seen = true
    · rw [if_pos hw] at h2 hx
      rcases Nat.lt_or_ge n m with q | q
      · obtain rfl : m = n + 1 := by omega
        rw [count_none (l := pre) (fun y hy e => by have := h.num y hy; omega)]
        unfold countN
        rw [List.filter_cons_of_pos (by rw [hx]; simp)]
        rfl
      · rw [h.once m h1 q, count_none (l := [x]) (fun y hy e => by rw [List.mem_singleton] at hy; subst hy; omega)]
    · rw [if_neg hw] at h2 hx
      rw [h.once m h1 h2, count_none (l := [x]) (fun y hy e => by rw [List.mem_singleton] at hy; subst hy; omega)]
  · unfold nextN nextR
    by_cases hw : writesL x.seen = true
    · rw [if_pos hw, if_pos hw]
      rw [if_pos hw] at hx
      show oneR (pre ++ [x]) ((n : Int) + 1) (stR (pre ++ [x]) n) = _
      rw [stR_app (n := n) (fun y hy => by rw [List.mem_singleton] at hy; subst hy; right; omega) (Nat.le_refl _), h.st, oneR_app]
      rw [oneR_none (l := pre) _ (fun y hy e => by have := h.num y hy; omega)]
      show (if x.num = (n : Int) + 1 then wrL x.seen rows else rows) = _
      rw [if_pos hx]
    · rw [if_neg hw, if_neg hw]
      rw [if_neg hw] at hx
      rw [stR_app (n := n) (fun y hy => by rw [List.mem_singleton] at hy; subst hy; left; exact hx) (Nat.le_refl _), h.st]
  · unfold nextR
    split
    · exact wrL_ok h.ok
    · exact h.ok
/-- every trip of a run is right -/
theorem run_right : ∀ (ts pre : List Tr) (i n : Nat) (rows : List Rw), RunInv pre i n rows → (∀ x ∈ runL ts i n rows, chkAt (pre ++ runL ts i n rows) x = 0 ∧ okT x = true) ∧ ∃ j N R, n ≤ N ∧ RunInv (pre ++ runL ts i n rows) j N R ∧ ∀ x ∈ runL ts i n rows, x.snap ≤ (N : Int)
  | [], pre, i, n, rows, h => ⟨fun x hx => (by cases hx), i, n, rows, Nat.le_refl _, (by rw [show pre ++ runL [] i n rows = pre from List.append_nil _]; exact h), fun x hx => (by cases hx)⟩
  | t :: ts, pre, i, n, rows, h => by
    have hi := run_inv h t
    obtain ⟨h1, j, N, R, h2, h3, h4⟩ := run_right ts _ _ _ _ hi
    have e : pre ++ runL (t :: ts) i n rows = pre ++ [runT i n rows t] ++ runL ts (i + 1) (nextN n (runT i n rows t)) (nextR rows (runT i n rows t)) := by
      rw [List.append_assoc]; rfl
    have hnx := next_le n (runT i n rows t)
    rw [e]
    have hst : stR (pre ++ [runT i n rows t] ++ runL ts (i + 1) (nextN n (runT i n rows t)) (nextR rows (runT i n rows t))) n = rows := by
      rw [← e, stR_app (n := n) (suf_num (t :: ts) i n rows) (Nat.le_refl _), h.st]
    refine ⟨fun x hx => ?_, j, N, R, by omega, h3, fun x hx => ?_⟩
    · rcases List.mem_cons.1 hx with rfl | hx
      · refine ⟨?_, runT_ok i n rows t⟩
        have hfit : fitsT (runT i n rows t) rows = true := by
          unfold fitsT
          rw [runT_ok, h.ok]
          exact runS_fit t.seen rows
        have hs : (runT i n rows t).snap.toNat = n := by show ((n : Int)).toNat = n; omega
        unfold chkAt
        rw [if_neg, if_neg]
        · rintro ⟨o, ho, q1, q2⟩
          have q1 : (n : Int) < o.num := q1
          have q2 : o.fin ≤ 2 * (i : Int) := q2
          rw [← e] at ho
          rcases List.mem_append.1 ho with q | q
          · have := h.num o q; omega
          · have := suf_fin (t :: ts) i n rows o q; omega
        · rw [hs, hst, hfit]
          rintro (q | ⟨q1, q2⟩)
          · cases q
          · have hnum : (runT i n rows t).num = if writesL (runS t.seen rows) = true then (n : Int) + 1 else 0 := rfl
            have hn1 : ((runT i n rows t).num - 1).toNat = n := by
              rw [hnum] at q1 ⊢
              split at q1
              · rename_i hw; rw [if_pos hw]; omega
              · omega
            rw [hn1, hst, hfit] at q2
            cases q2
      · exact h1 x hx
    · rcases List.mem_cons.1 hx with rfl | hx
      · show (n : Int) ≤ N; omega
      · exact h4 x hx
theorem last_of {l : List Tr} {N : Nat} (h : ∀ t ∈ l, 0 ≤ t.num ∧ t.num ≤ (N : Int)) (h2 : N = 0 ∨ ∃ t ∈ l, t.num = (N : Int)) : lastN l = N := by
  have gen : ∀ (l : List Tr) (a : Int), (∀ t ∈ l, t.num ≤ (N : Int)) → a ≤ N → (a = N ∨ ∃ t ∈ l, t.num = (N : Int)) → l.foldl (fun a t => max a t.num) a = N := by
    intro l
    induction l with
    | nil =>
      intro a _ _ h
      rcases h with h | ⟨t, ht, _⟩
      · exact h
      · cases ht
    | cons t l ih =>
      intro a h1 ha h
      refine ih (max a t.num) (fun x hx => h1 x (by simp [hx])) (by have := h1 t (by simp); omega) ?_
      rcases h with h | ⟨x, hx, e⟩
      · have := h1 t (by simp); left; omega
      · rcases List.mem_cons.1 hx with rfl | hx
        · left; omega
        · exact .inr ⟨x, hx, e⟩
  refine gen l 0 (fun t ht => (h t ht).2) (by omega) ?_
  rcases h2 with h2 | h2
  · left; omega
  · exact .inr h2
theorem run_check (ts : List Tr) : codeR (runL ts 0 0 []) = 0 ∧ checkR (runL ts 0 0 []) = (-1, 0) := by
  have h0 : RunInv [] 0 0 [] := ⟨fun t h => (by cases h), fun t h => (by cases h), fun m h1 h2 => (by omega), rfl, rfl, Nat.le_refl _⟩
  obtain ⟨h1, j, N, R, _, h3, h4⟩ := run_right ts [] 0 0 [] h0
  rw [List.nil_append] at h1 h3
  have hl : lastN (runL ts 0 0 []) = N := by
    refine last_of h3.num ?_
    rcases Nat.eq_zero_or_pos N with q | q
    · exact .inl q
    · right
      have hc := h3.once N q (Nat.le_refl _)
      obtain ⟨t, ht⟩ := List.exists_mem_of_length_pos (l := (runL ts 0 0 []).filter fun t => decide (t.num = (N : Int))) (by unfold countN at hc; omega)
      obtain ⟨h6, h7⟩ := List.mem_filter.1 ht
      exact ⟨t, h6, by simpa using h7⟩
  have hc : codeR (runL ts 0 0 []) = 0 := by
    unfold codeR
    rw [if_neg, if_neg, if_neg, if_neg, if_neg]
    · rintro ⟨t, ht, q⟩
      have := h4 t ht
      rw [hl] at q; omega
    · rintro ⟨k, k1, k2, k3⟩
      rw [hl] at k2
      have := h3.once k.toNat (by omega) (by omega)
      rw [show ((k.toNat : Nat) : Int) = k by omega] at this
      omega
    · rw [hl]; have := h3.len; omega
    · rintro ⟨t, ht, q1, q2⟩
      have := h3.num t ht
      have h5 := h3.once t.num.toNat (by omega) (by omega)
      rw [show ((t.num.toNat : Nat) : Int) = t.num by omega] at h5
      omega
    · rintro ⟨t, ht, q⟩
      rw [(h1 t ht).2] at q; cases q
  exact ⟨hc, checkR_none hc fun j x hj hx => (h1 x (List.mem_of_getElem? hx)).1⟩
end Go.Proofs.Ytopomocbjlikjaa

namespace Go.Proofs.Ytopomocbjlikjaa
set_option linter.unusedVariables false
set_option linter.unusedSimpArgs false

/-! A run with a wrong read, plainly (serial). -/
abbrev X1 : ByteArray := ⟨#[120]⟩
abbrev longS (s : Sn) : Sn := { s with val := s.val ++ X1 }
/-- two trips that differ at most in what was read -/
structure Alike (a b : Tr) : Prop where
  beg : a.beg = b.beg
  fin : a.fin = b.fin
  snap : a.snap = b.snap
  num : a.num = b.num
  ok : okT a = okT b
  wr : ∀ r, wrL a.seen r = wrL b.seen r
theorem Alike.refl (a : Tr) : Alike a a := ⟨rfl, rfl, rfl, rfl, rfl, fun _ => rfl⟩
inductive AlikeL : List Tr → List Tr → Prop
  | nil : AlikeL [] []
  | cons {a b : Tr} {l k : List Tr} (h : Alike a b) (t : AlikeL l k) : AlikeL (a :: l) (b :: k)
theorem AlikeL.refl : ∀ l : List Tr, AlikeL l l
  | [] => .nil
  | a :: l => .cons (Alike.refl a) (AlikeL.refl l)
theorem AlikeL.set : ∀ {l : List Tr} {k : Nat} {a b : Tr}, l[k]? = some a → Alike a b → AlikeL l (l.set k b)
  | [], k, a, b, h, _ => by simp at h
  | x :: l, 0, a, b, h, q => by
    obtain rfl : x = a := by simpa using h
    exact .cons q (AlikeL.refl l)
  | x :: l, k + 1, a, b, h, q => .cons (Alike.refl x) (AlikeL.set (l := l) (k := k) (by simpa using h) q)
theorem AlikeL.len {l k : List Tr} (h : AlikeL l k) : l.length = k.length := by
  induction h with
  | nil => rfl
  | cons _ _ ih => rw [List.length_cons, List.length_cons, ih]
theorem AlikeL.oneR {l k : List Tr} (h : AlikeL l k) (n : Int) : ∀ r, oneR l n r = oneR k n r := by
  induction h with
  | nil => intro r; rfl
  | @cons a b l k q _ ih =>
    intro r
    show Go.Proofs.Ytopomocbjlikjaa.oneR l n (if a.num = n then wrL a.seen r else r) = Go.Proofs.Ytopomocbjlikjaa.oneR k n (if b.num = n then wrL b.seen r else r)
    rw [q.num, q.wr, ih]
theorem AlikeL.stR {l k : List Tr} (h : AlikeL l k) : ∀ n, stR l n = stR k n
  | 0 => rfl
  | n + 1 => by
    show Go.Proofs.Ytopomocbjlikjaa.oneR l ((n : Int) + 1) (Go.Proofs.Ytopomocbjlikjaa.stR l n) = Go.Proofs.Ytopomocbjlikjaa.oneR k ((n : Int) + 1) (Go.Proofs.Ytopomocbjlikjaa.stR k n)
    rw [AlikeL.stR h n, h.oneR]
theorem AlikeL.count {l k : List Tr} (h : AlikeL l k) (n : Int) : countN l n = countN k n := by
  induction h with
  | nil => rfl
  | @cons a b l k q _ ih =>
    unfold countN at *
    rw [List.filter_cons, List.filter_cons, q.num]
    split
    · rw [List.length_cons, List.length_cons, ih]
    · exact ih
theorem AlikeL.last {l k : List Tr} (h : AlikeL l k) : lastN l = lastN k := by
  have gen : ∀ a : Int, l.foldl (fun a t => max a t.num) a = k.foldl (fun a t => max a t.num) a := by
    induction h with
    | nil => intro a; rfl
    | @cons x y l k q _ ih => intro a; rw [List.foldl_cons, List.foldl_cons, q.num, ih]
  exact gen 0
theorem AlikeL.ex {l k : List Tr} (h : AlikeL l k) (p : Tr → Prop) (hp : ∀ a b, Alike a b → (p a ↔ p b)) : (∃ t ∈ l, p t) ↔ ∃ t ∈ k, p t := by
  induction h with
  | nil => simp
  | @cons a b l k q _ ih =>
    simp only [List.mem_cons, exists_eq_or_imp]
    rw [hp a b q, ih]
theorem if_same {p q : Prop} [Decidable p] [Decidable q] {a b c : Int} (h : p ↔ q) (e : b = c) : (if p then a else b) = (if q then a else c) := by
  by_cases hp : p
  · rw [if_pos hp, if_pos (h.1 hp)]
  · rw [if_neg hp, if_neg (fun z => hp (h.2 z)), e]
theorem AlikeL.code {l k : List Tr} (h : AlikeL l k) : codeR l = codeR k := by
  classical
  unfold codeR
  rw [h.last, h.len]
  have e1 := h.ex (fun t => okT t = false) fun a b q => by rw [q.ok]
  have e2 := h.ex (fun t => 0 < t.num ∧ 1 < countN l t.num) fun a b q => by rw [q.num]
  have e3 := h.ex (fun t => lastN k < t.snap) fun a b q => by rw [q.snap]
  have e4 : (∃ n : Int, 1 ≤ n ∧ n ≤ lastN k ∧ countN l n = 0) ↔ ∃ n : Int, 1 ≤ n ∧ n ≤ lastN k ∧ countN k n = 0 := by
    constructor <;> (rintro ⟨n, a, b, c⟩; refine ⟨n, a, b, ?_⟩)
    · rw [← h.count]; exact c
    · rw [h.count]; exact c
  have e5 : (∃ t ∈ k, 0 < t.num ∧ 1 < countN l t.num) ↔ ∃ t ∈ k, 0 < t.num ∧ 1 < countN k t.num := by
    constructor <;> (rintro ⟨t, a, b, c⟩; refine ⟨t, a, b, ?_⟩)
    · rw [← h.count]; exact c
    · rw [h.count]; exact c
  have e2 := e2.trans e5
  exact @if_same _ _ (_) (_) _ _ _ e1 (@if_same _ _ (_) (_) _ _ _ e2 (@if_same _ _ (_) (_) _ _ _ Iff.rfl (@if_same _ _ (_) (_) _ _ _ e4 (@if_same _ _ (_) (_) _ _ _ e3 rfl))))
theorem AlikeL.chk {l k : List Tr} (h : AlikeL l k) (t : Tr) : chkAt l t = chkAt k t := by
  unfold chkAt
  have e := h.ex (fun o => t.snap < o.num ∧ o.fin ≤ t.beg) fun a b q => by rw [q.num, q.fin]
  simp only [h.stR, e]
theorem sees_long {s : Sn} {r : List Rw} (h : seesK s r = true) : seesK (longS s) r = false := by
  unfold seesK at *
  dsimp only [longS] at *
  split at h
  · rename_i hb
    rw [if_pos hb]
    simp only [Bool.and_eq_true, decide_eq_true_eq] at h
    have : ¬ s.val ++ X1 = vAt r (place s.key r) := fun e => by
      have h3 := congrArg ByteArray.size e
      rw [← h.2, ByteArray.size_append, show X1.size = 1 from rfl] at h3
      omega
    rw [decide_eq_false this, Bool.and_false]
  · rename_i hb
    rw [if_neg hb]
    have : ¬ (s.val ++ X1).size = 0 := by
      rw [ByteArray.size_append, show X1.size = 1 from rfl]; omega
    rw [decide_eq_false this, Bool.and_false]
theorem fit_long : ∀ {ss : List Sn} {j : Nat} {s : Sn} {r : List Rw}, fitL ss r = true → ss[j]? = some s → s.kind = 2 → fitL (ss.set j (longS s)) r = false
  | [], j, s, r, _, h, _ => by simp at h
  | a :: ss, 0, s, r, hf, h, hk => by
    obtain rfl : a = s := by simpa using h
    unfold fitL at hf
    rw [if_neg (by omega), if_neg (by omega), Bool.and_eq_true] at hf
    show fitL (longS a :: ss) r = false
    unfold fitL
    rw [if_neg (show ¬ (a.kind = 3 ∨ a.kind = 4) by omega), if_neg (show ¬ a.kind = 5 by omega), sees_long hf.1]
    rfl
  | a :: ss, j + 1, s, r, hf, h, hk => by
    have h2 : ss[j]? = some s := by simpa using h
    show fitL (a :: ss.set j (longS s)) r = false
    unfold fitL at hf ⊢
    split
    · rename_i q
      rw [if_pos q] at hf
      exact fit_long hf h2 hk
    · rename_i q
      rw [if_neg q] at hf
      split
      · rename_i q2
        rw [if_pos q2] at hf
        split
        · rename_i q3
          rw [if_pos q3] at hf
          exact fit_long hf h2 hk
        · rfl
      · rename_i q2
        rw [if_neg q2, Bool.and_eq_true] at hf
        rw [fit_long hf.2 h2 hk, Bool.and_false]
theorem wr_long : ∀ {ss : List Sn} {j : Nat} {s : Sn} (r : List Rw), ss[j]? = some s → s.kind = 2 → wrL (ss.set j (longS s)) r = wrL ss r
  | [], j, s, r, h, _ => by simp at h
  | a :: ss, 0, s, r, h, hk => by
    obtain rfl : a = s := by simpa using h
    show wrL ss (wrS r (longS a)) = wrL ss (wrS r a)
    congr 1
    unfold wrS
    simp [show ¬ a.kind = 3 by omega, show ¬ a.kind = 4 by omega]
  | a :: ss, j + 1, s, r, h, hk => by
    show wrL (ss.set j (longS s)) (wrS r a) = wrL ss (wrS r a)
    exact wr_long _ (by simpa using h) hk
theorem all_long : ∀ {ss : List Sn} {j : Nat} {s : Sn}, ss[j]? = some s → s.kind = 2 → (ss.set j (longS s)).all okS = ss.all okS
  | [], j, s, h, _ => by simp at h
  | a :: ss, 0, s, h, hk => by
    obtain rfl : a = s := by simpa using h
    show (longS a :: ss).all okS = _
    rw [List.all_cons, List.all_cons]
    congr 1
    unfold okS
    rw [decide_eq_false (show ¬ a.kind = 3 by omega)]
    rfl
  | a :: ss, j + 1, s, h, hk => by
    show (a :: ss.set j (longS s)).all okS = _
    rw [List.all_cons, List.all_cons, all_long (by simpa using h) hk]
/-- the trip with a wrong read -/
abbrev longT (x : Tr) (j : Nat) (s : Sn) : Tr := { x with seen := x.seen.set j (longS s) }
theorem alike_long {x : Tr} {j : Nat} {s : Sn} (h : x.seen[j]? = some s) (hk : s.kind = 2) : Alike x (longT x j s) :=
  ⟨rfl, rfl, rfl, rfl, by unfold okT; dsimp only [longT]; rw [all_long h hk], fun r => (wr_long r h hk).symm⟩
theorem run_wrong (ts : List Tr) {k j : Nat} {x : Tr} {s : Sn} (hx : (runL ts 0 0 [])[k]? = some x) (hs : x.seen[j]? = some s) (hk : s.kind = 2) : checkR ((runL ts 0 0 []).set k (longT x j s)) = ((k : Int), 12) := by
  have hA := AlikeL.set hx (alike_long hs hk)
  obtain ⟨hc, -⟩ := run_check ts
  have h0 : RunInv [] 0 0 [] := ⟨fun t h => (by cases h), fun t h => (by cases h), fun m h1 h2 => (by omega), rfl, rfl, Nat.le_refl _⟩
  obtain ⟨h1, -⟩ := run_right ts [] 0 0 [] h0
  rw [List.nil_append] at h1
  have hlt : k < (runL ts 0 0 []).length := (List.getElem?_eq_some_iff.1 hx).1
  have h12 : chkAt ((runL ts 0 0 []).set k (longT x j s)) (longT x j s) = 12 := by
    rw [← hA.chk]
    have hxc := (h1 x (List.mem_of_getElem? hx)).1
    unfold chkAt at hxc ⊢
    rw [if_pos]
    left
    split at hxc
    · cases hxc
    · rename_i q
      have hfit : fitsT x (stR (runL ts 0 0 []) x.snap.toNat) = true := by
        cases hq : fitsT x (stR (runL ts 0 0 []) x.snap.toNat)
        · exact absurd (.inl hq) q
        · rfl
      unfold fitsT at hfit ⊢
      simp only [Bool.and_eq_true] at hfit
      show (okT (longT x j s) && rowsOkB _ && fitL (x.seen.set j (longS s)) _) = false
      rw [fit_long hfit.2 hs hk, Bool.and_false]
  rw [checkR_at (by rw [← hA.code]; exact hc) (List.getElem?_set_self hlt) (fun i y hi hy => ?_) (by rw [h12]; decide), h12]
  rw [List.getElem?_set_ne (by omega)] at hy
  rw [← hA.chk]
  exact (h1 y (List.mem_of_getElem? hy)).1
end Go.Proofs.Ytopomocbjlikjaa
