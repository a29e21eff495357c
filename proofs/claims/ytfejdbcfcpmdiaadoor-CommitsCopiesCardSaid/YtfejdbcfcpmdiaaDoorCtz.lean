import Derived.Test.YtfejdbcfcpmdiaaDoorWrz
namespace Go.Proofs.YtfejdbcfcpmdiaaDoor
set_option linter.unusedVariables false
set_option linter.unusedSimpArgs false

/-! The table of commits, plainly: what the document has. -/
structure Ct where
  lim : Nat
  low : Nat
  all : List (List Wt)
  drp : List Bool
  marks : List Int
  hold : Int
/-- writes that may be gone through -/
structure FewWs (l : List Wt) : Prop where
  len : l.length ≤ 40
  sz : ∀ x ∈ l, x.key.size ≤ 1000 ∧ x.val.size ≤ 1000
/-- what holds of every table -/
structure CtOk (T : Ct) : Prop where
  len : T.drp.length = T.all.length
  low : T.low ≤ T.all.length
  cap : T.all.length ≤ T.lim
  lim : T.lim ≤ 1099511627776
  mk1 : 1 ≤ T.marks.length
  mk2 : T.marks.length ≤ 64
  mkw : ∀ x ∈ T.marks, -1 ≤ x ∧ (Lit.int .i64 x).wf = true
  drp : ∀ i, T.drp[i]? = some true → i < T.low
  hold : -1 ≤ T.hold ∧ T.hold < 64
  few : ∀ l ∈ T.all, FewWs l
def newC (thr lim : Nat) : Ct := ⟨lim, 0, [], [], List.replicate thr (-1), -1⟩
theorem newC_ok {thr lim : Nat} (h1 : 1 ≤ thr) (h2 : thr ≤ 64) (h4 : lim ≤ 1099511627776) : CtOk (newC thr lim) :=
  ⟨rfl, Nat.le_refl _, Nat.zero_le _, h4, by unfold newC; simpa using h1, by unfold newC; simpa using h2, fun x hx => by
    unfold newC at hx
    rw [List.mem_replicate] at hx
    obtain ⟨-, rfl⟩ := hx
    exact ⟨Int.le_refl _, by decide⟩, fun i h => by simp [newC] at h, ⟨(by show (-1 : Int) ≤ -1; omega), (by show (-1 : Int) < 64; omega)⟩, fun l hl => by cases hl⟩
/-- Append: what it tells, and the table behind it -/
def apOk (T : Ct) (n : Int) (ok : Bool) : Bool := ok && decide (n = T.all.length) && decide (T.all.length < T.lim)
def apE (T : Ct) (n : Int) (ok : Bool) : Int := if ok = false then 1 else if n ≠ T.all.length then 0 else if T.all.length = T.lim then 5 else 0
def apT (T : Ct) (l : List Wt) : Ct := { T with all := T.all ++ [l], drp := T.drp ++ [false] }
def adOk (T : Ct) (n : Int) : Bool := decide (T.low ≠ T.all.length) && decide ((T.low : Int) = n)
def adE (T : Ct) : Int := if T.low = T.all.length then 13 else 0
def adT (T : Ct) : Ct := { T with low := T.low + 1 }
def isT (T : Ct) (th : Int) : Bool := decide (0 ≤ th) && decide (th < T.marks.length)
def mkT (T : Ct) (th n : Int) : Ct := { T with marks := T.marks.set th.toNat (max n (-1)) }
def hoT (T : Ct) (th : Int) : Ct := { T with hold := th }
/-- is commit i+1 dropped by Trim(n)? -/
def tmB (T : Ct) (n : Int) (i : Nat) (b : Bool) : Bool := b || (decide ((i : Int) < n) && decide (i < T.low))
def tmD (T : Ct) (n : Int) : List Bool := T.drp.mapIdx (tmB T n)
def tmT (T : Ct) (n : Int) : Ct := { T with drp := tmD T n }
def cntB (l : List Bool) : Nat := (l.filter fun b => !b).length
theorem cntB_le (l : List Bool) : cntB l ≤ l.length := List.length_filter_le _ _
theorem cntB_app (a b : List Bool) : cntB (a ++ b) = cntB a + cntB b := by unfold cntB; rw [List.filter_append, List.length_append]
theorem apT_ok {T : Ct} (h : CtOk T) {n : Int} {l : List Wt} {ok : Bool} (ha : apOk T n ok = true) (hf : FewWs l) : CtOk (apT T l) := by
  unfold apOk at ha
  simp only [Bool.and_eq_true, decide_eq_true_eq] at ha
  refine ⟨by simp [apT, h.len], ?_, ?_, h.lim, h.mk1, h.mk2, h.mkw, fun i hi => ?_, h.hold, fun x hx => ?_⟩
  · show T.low ≤ (T.all ++ [l]).length
    rw [List.length_append, List.length_singleton]; have := h.low; omega
  · show (T.all ++ [l]).length ≤ T.lim
    rw [List.length_append, List.length_singleton]; omega
  · have hi : (T.drp ++ [false])[i]? = some true := hi
    have h3 := (List.getElem?_eq_some_iff.1 hi).1
    rw [List.length_append, List.length_singleton] at h3
    rcases Nat.lt_or_ge i T.drp.length with q | q
    · rw [List.getElem?_append_left q] at hi; exact h.drp i hi
    · obtain rfl : i = T.drp.length := by omega
      simp at hi
  · have hx : x ∈ T.all ++ [l] := hx
    rcases List.mem_append.1 hx with q | q
    · exact h.few x q
    · obtain rfl := List.mem_singleton.1 q; exact hf
theorem adT_ok {T : Ct} (h : CtOk T) {n : Int} (ha : adOk T n = true) : CtOk (adT T) := by
  unfold adOk at ha
  simp only [Bool.and_eq_true, decide_eq_true_eq] at ha
  have hl := h.low
  exact ⟨h.len, (by show T.low + 1 ≤ T.all.length; omega), h.cap, h.lim, h.mk1, h.mk2, h.mkw, fun i hi => Nat.lt_succ_of_lt (h.drp i hi), h.hold, h.few⟩
theorem mkT_ok {T : Ct} (h : CtOk T) {th n : Int} (hn : (Lit.int .i64 n).wf = true) : CtOk (mkT T th n) := by
  refine ⟨h.len, h.low, h.cap, h.lim, by show 1 ≤ (T.marks.set _ _).length; rw [List.length_set]; exact h.mk1, by show (T.marks.set _ _).length ≤ 64; rw [List.length_set]; exact h.mk2, fun x hx => ?_, h.drp, h.hold, h.few⟩
  have hx : x ∈ T.marks.set th.toNat (max n (-1)) := hx
  rcases List.mem_or_eq_of_mem_set hx with q | rfl
  · exact h.mkw x q
  · refine ⟨by omega, ?_⟩
    rcases Int.le_total n (-1) with q | q
    · rw [Int.max_eq_right q]; decide
    · rw [Int.max_eq_left q]; exact hn
theorem hoT_ok {T : Ct} (h : CtOk T) {th : Int} (ht : -1 ≤ th ∧ th < 64) : CtOk (hoT T th) := ⟨h.len, h.low, h.cap, h.lim, h.mk1, h.mk2, h.mkw, h.drp, ht, h.few⟩
theorem tmD_len (T : Ct) (n : Int) : (tmD T n).length = T.drp.length := by unfold tmD; rw [List.length_mapIdx]
theorem tmD_get (T : Ct) (n : Int) (i : Nat) : (tmD T n)[i]? = (T.drp[i]?).map (tmB T n i) := by unfold tmD; rw [List.getElem?_mapIdx]
theorem tmT_ok {T : Ct} (h : CtOk T) {n : Int} : CtOk (tmT T n) := by
  refine ⟨by show (tmD T n).length = _; rw [tmD_len]; exact h.len, h.low, h.cap, h.lim, h.mk1, h.mk2, h.mkw, fun i hi => ?_, h.hold, h.few⟩
  have hi : (tmD T n)[i]? = some true := hi
  rw [tmD_get] at hi
  obtain ⟨b, hb, e⟩ := Option.map_eq_some_iff.1 hi
  unfold tmB at e
  rcases Bool.or_eq_true _ _ ▸ e with q | q
  · subst q; exact h.drp i hb
  · simp only [Bool.and_eq_true, decide_eq_true_eq] at q
    exact q.2
theorem cntB_mono : ∀ (a b : List Bool), a.length = b.length → (∀ i : Nat, b[i]? = some false → a[i]? = some false) → cntB b ≤ cntB a
  | [], [], _, _ => Nat.le_refl _
  | x :: a, y :: b, hl, h => by
    have ih := cntB_mono a b (by simpa using hl) (fun i hi => by simpa using h (i + 1) (by simpa using hi))
    have h0 := h 0
    simp only [List.getElem?_cons_zero, Option.some.injEq] at h0
    unfold cntB at *
    cases y
    · rw [h0 rfl]; simpa using ih
    · cases x
      · simp; omega
      · simpa using ih
theorem tm_le (T : Ct) (n : Int) : cntB (tmD T n) ≤ cntB T.drp := cntB_mono _ _ (tmD_len T n).symm fun i hi => by
  rw [tmD_get] at hi
  obtain ⟨b, hb, e⟩ := Option.map_eq_some_iff.1 hi
  unfold tmB at e
  rw [Bool.or_eq_false_iff] at e
  rw [hb, e.1]
/-- as many are kept as lie behind the base, at least -/
theorem cnt_low {T : Ct} (h : CtOk T) : T.all.length - T.low ≤ cntB T.drp := by
  have e : T.drp.drop T.low = List.replicate (T.all.length - T.low) false := by
    refine List.ext_getElem? fun i => ?_
    rw [List.getElem?_drop, List.getElem?_replicate]
    by_cases hi : i < T.all.length - T.low
    · rw [if_pos hi]
      have hl : T.low + i < T.drp.length := by rw [h.len]; omega
      rw [List.getElem?_eq_getElem hl]
      cases hb : T.drp[T.low + i]
      · rfl
      · have := h.drp (T.low + i) (by rw [List.getElem?_eq_getElem hl, hb]); omega
    · rw [if_neg hi, List.getElem?_eq_none (by rw [h.len]; omega)]
  have h2 : cntB T.drp = cntB (T.drp.take T.low) + cntB (T.drp.drop T.low) := by rw [← cntB_app, List.take_append_drop]
  rw [h2, e]
  have : cntB (List.replicate (T.all.length - T.low) false) = T.all.length - T.low := by unfold cntB; simp
  omega
theorem cnt_all {T : Ct} (h : CtOk T) : cntB T.drp ≤ T.all.length := by rw [← h.len]; exact cntB_le _
end Go.Proofs.YtfejdbcfcpmdiaaDoor
