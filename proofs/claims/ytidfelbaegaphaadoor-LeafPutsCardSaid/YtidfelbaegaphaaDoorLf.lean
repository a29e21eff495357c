import Derived.Test.YtidfelbaegaphaaDoorSrt
namespace Go.Proofs.YtidfelbaegaphaaDoor
set_option linter.unusedVariables false
set_option linter.unusedSimpArgs false

/-! A leaf's chain: what the program makes of it is what the document says (no program here). -/
/-- a view -/
structure Vw where
  low : ByteArray
  high : ByteArray
  unb : Bool
  right : Int
  rows : List Rw
  gone : Bool
/-- a record of a chain, as far as a leaf goes -/
structure Rc where
  kind : Int
  low : ByteArray
  high : ByteArray
  unb : Bool
  right : Int
  rows : List Rw
  key : ByteArray
  val : ByteArray
  page : Int
def hasK (v : Vw) (key : ByteArray) : Bool := inB v.low v.high v.unb key
/-- may rows be, and lie in a span that may be? (the program's way) -/
def soundP (l : List Rw) (low high : ByteArray) (unb : Bool) : Bool :=
  if (unb = true ∧ high ≠ ByteArray.empty) ∨ rowsOkB l = false then false else decide ((takeR low high unb 0 false l).length = l.length)
/-- (the document's way) -/
def soundR (l : List Rw) (low high : ByteArray) (unb : Bool) : Bool :=
  rowsOkB l && !(unb && decide (high ≠ ByteArray.empty)) && l.all (inS low high unb)
theorem sound_eq (l : List Rw) (low high : ByteArray) (unb : Bool) : soundP l low high unb = soundR l low high unb := by
  unfold soundP soundR
  have ht : takeR low high unb 0 false l = l.filter (inS low high unb) := by unfold takeR visit; rw [if_neg (by decide), if_neg (by decide)]
  rw [ht]
  have hf : decide ((l.filter (inS low high unb)).length = l.length) = l.all (inS low high unb) := by
    rw [Bool.eq_iff_iff, decide_eq_true_iff, List.all_eq_true]
    exact List.length_filter_eq_length_iff
  rw [hf]
  cases hr : rowsOkB l
  · rw [if_pos (.inr rfl)]; rfl
  · by_cases hu : unb = true ∧ high ≠ ByteArray.empty
    · rw [if_pos (.inl hu), hu.1, decide_eq_true hu.2]; rfl
    · rw [if_neg (fun q => q.elim hu (fun r => by cases r))]
      have : (unb && decide (high ≠ ByteArray.empty)) = false := by
        rw [Bool.and_eq_false_iff]
        cases unb
        · exact .inl rfl
        · exact .inr (decide_eq_false (fun q => hu ⟨rfl, q⟩))
      rw [this]; rfl
/-- rows behind each other -/
def joinOk (a b : List Rw) : Bool := decide (a = [] ∨ b = [] ∨ Str.cmp (Tx (kAt a (a.length - 1))) (Tx (kAt b 0)) < 0)
/-- one record above a view (the program's way); none: that may not be -/
def upP (v : Vw) (r : Rc) : Option Vw :=
  if r.kind = 2 then (if fitsB ⟨r.key, r.val⟩ = true ∧ v.gone = false ∧ hasK v r.key = true then some { v with rows := putL v.rows ⟨r.key, r.val⟩ } else none)
  else if r.kind = 3 then (if v.gone = false ∧ hasK v r.key = true then some { v with rows := dropL v.rows r.key } else none)
  else if r.kind = 4 then (if v.gone = false ∧ hasK v r.key = true ∧ Str.cmp (Tx v.low) (Tx r.key) < 0 then some { v with rows := v.rows.take (place r.key v.rows), high := r.key, unb := false, right := r.page } else none)
  else if r.kind = 6 then (if v.gone = false ∧ v.unb = false ∧ v.high = r.key ∧ soundP r.rows r.key r.high r.unb = true ∧ (r.unb = true ∨ Str.cmp (Tx r.key) (Tx r.high) < 0) ∧ joinOk v.rows r.rows = true then some { v with rows := v.rows ++ r.rows, high := r.high, unb := r.unb, right := r.right } else none)
  else if r.kind = 5 then (if v.gone = false then some { v with gone := true } else none)
  else none
/-- (the document's way) -/
def upR (v : Vw) (r : Rc) : Option Vw :=
  if r.kind = 2 then (if fitsB ⟨r.key, r.val⟩ = true ∧ hasK v r.key = true then some { v with rows := putL v.rows ⟨r.key, r.val⟩ } else none)
  else if r.kind = 3 then (if hasK v r.key = true then some { v with rows := dropL v.rows r.key } else none)
  else if r.kind = 4 then (if hasK v r.key = true ∧ r.key ≠ v.low then some { v with rows := v.rows.filter (fun x => Str.before (Tx x.key) (Tx r.key)), high := r.key, unb := false, right := r.page } else none)
  else if r.kind = 6 then (if v.unb = false ∧ v.high = r.key ∧ soundR r.rows r.key r.high r.unb = true ∧ (r.unb = true ∨ Str.before (Tx r.key) (Tx r.high) = true) then some { v with rows := v.rows ++ r.rows, high := r.high, unb := r.unb, right := r.right } else none)
  else if r.kind = 5 then some { v with gone := true }
  else some v
/-- a view that may be: its rows may be, and lie below its high end -/
structure VwOk (v : Vw) : Prop where
  ok : rowsOkB v.rows = true
  inn : ∀ x ∈ v.rows, v.unb = true ∨ Str.before (Tx x.key) (Tx v.high) = true

theorem filter_place {l : List Rw} (h : l.Pairwise ltR) (key : ByteArray) : l.filter (fun x => Str.before (Tx x.key) (Tx key)) = l.take (place key l) := by
  have ht := place_take key l
  have hd := place_drop (key := key) h
  conv => lhs; rw [← List.take_append_drop (place key l) l]
  rw [List.filter_append, List.filter_eq_self.2 ht, List.filter_eq_nil_iff.2 (fun r hr => by rw [hd r hr]; decide), List.append_nil]
theorem inS_iff {low high : ByteArray} {unb : Bool} {x : Rw} : inS low high unb x = true ↔ Str.cmp (Tx low) (Tx x.key) ≤ 0 ∧ (unb = true ∨ Str.before (Tx x.key) (Tx high) = true) := by
  unfold inS inB
  rw [Bool.and_eq_true, Bool.or_eq_true, decide_eq_true_iff, decide_eq_true_iff, Str.cmp_neg_iff]
theorem hasK_iff {v : Vw} {key : ByteArray} : hasK v key = true ↔ Str.cmp (Tx v.low) (Tx key) ≤ 0 ∧ (v.unb = true ∨ Str.before (Tx key) (Tx v.high) = true) := by
  unfold hasK inB
  rw [Bool.and_eq_true, Bool.or_eq_true, decide_eq_true_iff, decide_eq_true_iff, Str.cmp_neg_iff]
theorem le_before {a b c : Str.Txt} (h : Str.cmp a b ≤ 0) (k : Str.before b c = true) : Str.before a c = true := by
  rcases Int.lt_or_eq_of_le h with q | q
  · exact Str.before_trans (Str.cmp_neg_iff.1 q) k
  · rw [Str.cmp_eq_iff.1 q]; exact k
theorem le_trans' {a b c : Str.Txt} (h : Str.cmp a b ≤ 0) (k : Str.cmp b c ≤ 0) : Str.cmp a c ≤ 0 := by
  rcases Int.lt_or_eq_of_le k with q | q
  · have := Str.cmp_neg_iff.2 (le_before h (Str.cmp_neg_iff.1 q)); omega
  · rw [← Str.cmp_eq_iff.1 q]; exact h
theorem ok_append {a b : List Rw} (ha : rowsOkB a = true) (hb : rowsOkB b = true) (h : ∀ x ∈ a, ∀ y ∈ b, ltR x y) : rowsOkB (a ++ b) = true := by
  rw [rowsOkB_iff] at ha hb ⊢
  refine ⟨fun r hr => (List.mem_append.1 hr).elim (ha.1 r) (hb.1 r), ?_⟩
  rw [List.pairwise_append]
  exact ⟨ha.2, hb.2, h⟩
theorem ok_sub {a b : List Rw} (hb : rowsOkB b = true) (h : a.Sublist b) : rowsOkB a = true := by
  rw [rowsOkB_iff] at hb ⊢
  exact ⟨fun r hr => hb.1 r (h.subset hr), hb.2.sublist h⟩
theorem mem_put {l : List Rw} {r x : Rw} (h : x ∈ putL l r) : x = r ∨ x ∈ l := by
  unfold putL at h
  simp only [List.mem_append, List.mem_singleton] at h
  rcases h with (h | h) | h
  · exact .inr (List.mem_of_mem_take h)
  · exact .inl h
  · exact .inr (List.mem_of_mem_drop h)
theorem drop_sub (l : List Rw) (key : ByteArray) : (dropL l key).Sublist l := by
  unfold dropL
  split
  · have e : l.take (place key l) ++ l.drop (place key l) = l := List.take_append_drop _ _
    have : (l.take (place key l) ++ l.drop (place key l + 1)).Sublist (l.take (place key l) ++ l.drop (place key l)) :=
      List.Sublist.append (List.Sublist.refl _) (by rw [← List.drop_drop]; exact List.drop_sublist _ _)
    rwa [e] at this
  · exact List.Sublist.refl _
/-- what lies ahead of a span's low end, and in it, may stand behind each other -/
theorem merge_ok {v : Vw} (hv : VwOk v) (hu : v.unb = false) {b : List Rw} {high : ByteArray} {unb : Bool} (hb : ∀ y ∈ b, inS v.high high unb y = true) : (∀ x ∈ v.rows, ∀ y ∈ b, ltR x y) ∧ joinOk v.rows b = true := by
  have key : ∀ x ∈ v.rows, ∀ y ∈ b, ltR x y := fun x hx y hy => by
    have h1 := hv.inn x hx
    rw [hu] at h1
    have h1 : Str.before (Tx x.key) (Tx v.high) = true := h1.resolve_left (by decide)
    have h2 := (inS_iff.1 (hb y hy)).1
    unfold ltR
    rcases Int.lt_or_eq_of_le h2 with q | q
    · exact Str.before_trans h1 (Str.cmp_neg_iff.1 q)
    · rw [← Str.cmp_eq_iff.1 q]; exact h1
  refine ⟨key, ?_⟩
  unfold joinOk
  rw [decide_eq_true_iff]
  by_cases h1 : v.rows = []
  · exact .inl h1
  · by_cases h2 : b = []
    · exact .inr (.inl h2)
    · refine .inr (.inr (Str.cmp_neg_iff.2 ?_))
      have l1 : v.rows.length - 1 < v.rows.length := by have := List.length_pos_iff.2 h1; omega
      have l2 : 0 < b.length := List.length_pos_iff.2 h2
      unfold kAt
      rw [rAt_lt l1, rAt_lt l2]
      exact key _ (List.getElem_mem _) _ (List.getElem_mem _)
theorem soundR_iff {l : List Rw} {low high : ByteArray} {unb : Bool} : soundR l low high unb = true ↔ rowsOkB l = true ∧ (unb = true → high = ByteArray.empty) ∧ ∀ x ∈ l, inS low high unb x = true := by
  unfold soundR
  rw [Bool.and_eq_true, Bool.and_eq_true, List.all_eq_true, Bool.not_eq_true', Bool.and_eq_false_iff, decide_eq_false_iff_not, and_assoc]
  refine and_congr_right fun _ => and_congr_left fun _ => ?_
  cases unb <;> simp
/-- one step is one step, of a view that may be and does not go -/
theorem up_eq {v : Vw} {r : Rc} (hv : VwOk v) (hg : v.gone = false) (h1 : r.kind ≠ 1) (h16 : 1 ≤ r.kind ∧ r.kind ≤ 6) : upP v r = upR v r ∧ ∀ v', upR v r = some v' → VwOk v' ∧ (r.kind ≠ 5 → v'.gone = false) := by
  obtain ⟨ho1, ho2⟩ := hv
  have hp := (rowsOkB_iff v.rows).1 ho1
  have hv : VwOk v := ⟨ho1, ho2⟩
  unfold upP upR
  by_cases k2 : r.kind = 2
  · rw [if_pos k2, if_pos k2]
    constructor
    · simp [hg]
    · intro v' h
      split at h
      · rename_i q
        cases h
        refine ⟨⟨(keeps (r := ⟨r.key, r.val⟩) ho1 q.1).1, fun x hx => ?_⟩, fun _ => hg⟩
        rcases mem_put hx with rfl | hx
        · exact (hasK_iff.1 q.2).2
        · exact ho2 x hx
      · cases h
  · rw [if_neg k2, if_neg k2]
    by_cases k3 : r.kind = 3
    · rw [if_pos k3, if_pos k3]
      constructor
      · simp [hg]
      · intro v' h
        split at h
        · cases h
          exact ⟨⟨ok_sub ho1 (drop_sub _ _), fun x hx => ho2 x ((drop_sub _ _).subset hx)⟩, fun _ => hg⟩
        · cases h
    · rw [if_neg k3, if_neg k3]
      by_cases k4 : r.kind = 4
      · rw [if_pos k4, if_pos k4, filter_place hp.2]
        constructor
        · by_cases hh : hasK v r.key = true
          · have hle := (hasK_iff.1 hh).1
            have : Str.cmp (Tx v.low) (Tx r.key) < 0 ↔ r.key ≠ v.low := by
              constructor
              · intro q e; rw [e, Str.cmp_eq_iff.2 rfl] at q; omega
              · intro q
                rcases Int.lt_or_eq_of_le hle with s | s
                · exact s
                · exact absurd (tx_inj (Str.cmp_eq_iff.1 s)).symm q
            simp only [hg, hh, true_and, this]
          · simp only [hh, false_and, and_false, if_false]; simp [hg]
        · intro v' h
          split at h
          · rename_i q
            cases h
            refine ⟨⟨ok_sub ho1 (List.take_sublist _ _), fun x hx => .inr (place_take _ _ x hx)⟩, fun _ => hg⟩
          · cases h
      · rw [if_neg k4, if_neg k4]
        by_cases k6 : r.kind = 6
        · rw [if_pos k6, if_pos k6, sound_eq]
          have hj : v.unb = false ∧ v.high = r.key ∧ soundR r.rows r.key r.high r.unb = true → joinOk v.rows r.rows = true := fun q => by
            obtain ⟨q1, q2, q3⟩ := q
            obtain ⟨s1, s2, s3⟩ := soundR_iff.1 q3
            rw [← q2] at s3
            exact (merge_ok hv q1 s3).2
          constructor
          · by_cases hall : v.unb = false ∧ v.high = r.key ∧ soundR r.rows r.key r.high r.unb = true
            · have := hj hall
              simp only [hg, hall.1, hall.2.1, hall.2.2, this, Str.cmp_neg_iff, true_and, and_true]
            · rw [if_neg (fun q => hall ⟨q.2.1, q.2.2.1, q.2.2.2.1⟩), if_neg (fun q => hall ⟨q.1, q.2.1, q.2.2.1⟩)]
          · intro v' h
            split at h
            · rename_i q
              cases h
              obtain ⟨q1, q2, q3, q4⟩ := q
              obtain ⟨s1, s2, s3⟩ := soundR_iff.1 q3
              have s3' := s3
              rw [← q2] at s3'
              refine ⟨⟨ok_append ho1 s1 (merge_ok hv q1 s3').1, fun x hx => ?_⟩, fun _ => hg⟩
              rcases List.mem_append.1 hx with hx | hx
              · rcases q4 with q4 | q4
                · exact .inl q4
                · right
                  have h1 := ho2 x hx
                  rw [q1] at h1
                  have h1 := h1.resolve_left (by decide)
                  rw [q2] at h1
                  exact Str.before_trans h1 q4
              · exact (inS_iff.1 (s3 x hx)).2
            · cases h
        · rw [if_neg k6, if_neg k6]
          have k5 : r.kind = 5 := by omega
          rw [if_pos k5, if_pos k5, if_pos hg]
          refine ⟨rfl, fun v' h => ?_⟩
          cases h
          exact ⟨⟨ho1, ho2⟩, fun q => absurd k5 q⟩
end Go.Proofs.YtidfelbaegaphaaDoor
