import Derived.Test.YtidfelbaegaphaaPty
namespace Go.Proofs.Ytidfelbaegaphaa
set_option linter.unusedVariables false
set_option linter.unusedSimpArgs false

/-! A leaf's chain: what the program makes of it is what the document says (no program here). -/
/-- a view -/
structure Vw where
  low : ByteArray
  high : ByteArray
  unb : Bool
  right : Int
  rows : List Rw
  gone : Bool
/-- a record of a chain, as far as a leaf goes -/
structure Rc where
  kind : Int
  low : ByteArray
  high : ByteArray
  unb : Bool
  right : Int
  rows : List Rw
  key : ByteArray
  val : ByteArray
  page : Int
def hasK (v : Vw) (key : ByteArray) : Bool := inB v.low v.high v.unb key
/-- may rows be, and lie in a span that may be? (the program's way) -/
def soundP (l : List Rw) (low high : ByteArray) (unb : Bool) : Bool :=
  if (unb = true ∧ high ≠ ByteArray.empty) ∨ rowsOkB l = false then false else decide ((takeR low high unb 0 false l).length = l.length)
/-- (the document's way) -/
def soundR (l : List Rw) (low high : ByteArray) (unb : Bool) : Bool :=
  rowsOkB l && !(unb && decide (high ≠ ByteArray.empty)) && l.all (inS low high unb)
theorem sound_eq (l : List Rw) (low high : ByteArray) (unb : Bool) : soundP l low high unb = soundR l low high unb := by
  unfold soundP soundR
  have ht : takeR low high unb 0 false l = l.filter (inS low high unb) := by unfold takeR visit; rw [if_neg (by decide), if_neg (by decide)]
  rw [ht]
  have hf : decide ((l.filter (inS low high unb)).length = l.length) = l.all (inS low high unb) := by
    rw [Bool.eq_iff_iff, decide_eq_true_iff, List.all_eq_true]
    exact List.length_filter_eq_length_iff
  rw [hf]
  cases hr : rowsOkB l
  · rw [if_pos (.inr rfl)]; rfl
  · by_cases hu : unb = true ∧ high ≠ ByteArray.empty
    · rw [if_pos (.inl hu), hu.1, decide_eq_true hu.2]; rfl
    · rw [if_neg (fun q => q.elim hu (fun r => by cases r))]
      have : (unb && decide (high ≠ ByteArray.empty)) = false := by
        rw [Bool.and_eq_false_iff]
        cases unb
        · exact .inl rfl
        · exact .inr (decide_eq_false (fun q => hu ⟨rfl, q⟩))
      rw [this]; rfl
/-- rows behind each other -/
def joinOk (a b : List Rw) : Bool := decide (a = [] ∨ b = [] ∨ Str.cmp (Tx (kAt a (a.length - 1))) (Tx (kAt b 0)) < 0)
/-- one record above a view (the program's way); none: that may not be -/
def upP (v : Vw) (r : Rc) : Option Vw :=
  if r.kind = 2 then (if fitsB ⟨r.key, r.val⟩ = true ∧ v.gone = false ∧ hasK v r.key = true then some { v with rows := putL v.rows ⟨r.key, r.val⟩ } else none)
  else if r.kind = 3 then (if v.gone = false ∧ hasK v r.key = true then some { v with rows := dropL v.rows r.key } else none)
  else if r.kind = 4 then (if v.gone = false ∧ hasK v r.key = true ∧ Str.cmp (Tx v.low) (Tx r.key) < 0 then some { v with rows := v.rows.take (place r.key v.rows), high := r.key, unb := false, right := r.page } else none)
  else if r.kind = 6 then (if v.gone = false ∧ v.unb = false ∧ v.high = r.key ∧ soundP r.rows r.key r.high r.unb = true ∧ (r.unb = true ∨ Str.cmp (Tx r.key) (Tx r.high) < 0) ∧ joinOk v.rows r.rows = true then some { v with rows := v.rows ++ r.rows, high := r.high, unb := r.unb, right := r.right } else none)
  else if r.kind = 5 then (if v.gone = false then some { v with gone := true } else none)
  else none
/-- (the document's way) -/
def upR (v : Vw) (r : Rc) : Option Vw :=
  if r.kind = 2 then (if fitsB ⟨r.key, r.val⟩ = true ∧ hasK v r.key = true then some { v with rows := putL v.rows ⟨r.key, r.val⟩ } else none)
  else if r.kind = 3 then (if hasK v r.key = true then some { v with rows := dropL v.rows r.key } else none)
  else if r.kind = 4 then (if hasK v r.key = true ∧ r.key ≠ v.low then some { v with rows := v.rows.filter (fun x => Str.before (Tx x.key) (Tx r.key)), high := r.key, unb := false, right := r.page } else none)
  else if r.kind = 6 then (if v.unb = false ∧ v.high = r.key ∧ soundR r.rows r.key r.high r.unb = true ∧ (r.unb = true ∨ Str.before (Tx r.key) (Tx r.high) = true) then some { v with rows := v.rows ++ r.rows, high := r.high, unb := r.unb, right := r.right } else none)
  else if r.kind = 5 then some { v with gone := true }
  else some v
/-- a view that may be: its rows may be, and lie below its high end -/
structure VwOk (v : Vw) : Prop where
  ok : rowsOkB v.rows = true
  inn : ∀ x ∈ v.rows, v.unb = true ∨ Str.before (Tx x.key) (Tx v.high) = true

theorem filter_place {l : List Rw} (h : l.Pairwise ltR) (key : ByteArray) : l.filter (fun x => Str.before (Tx x.key) (Tx key)) = l.take (place key l) := by
  have ht := place_take key l
  have hd := place_drop (key := key) h
  conv => lhs; rw [← List.take_append_drop (place key l) l]
  rw [List.filter_append, List.filter_eq_self.2 ht, List.filter_eq_nil_iff.2 (fun r hr => by rw [hd r hr]; decide), List.append_nil]
theorem inS_iff {low high : ByteArray} {unb : Bool} {x : Rw} : inS low high unb x = true ↔ Str.cmp (Tx low) (Tx x.key) ≤ 0 ∧ (unb = true ∨ Str.before (Tx x.key) (Tx high) = true) := by
  unfold inS inB
  rw [Bool.and_eq_true, Bool.or_eq_true, decide_eq_true_iff, decide_eq_true_iff, Str.cmp_neg_iff]
theorem hasK_iff {v : Vw} {key : ByteArray} : hasK v key = true ↔ Str.cmp (Tx v.low) (Tx key) ≤ 0 ∧ (v.unb = true ∨ Str.before (Tx key) (Tx v.high) = true) := by
  unfold hasK inB
  rw [Bool.and_eq_true, Bool.or_eq_true, decide_eq_true_iff, decide_eq_true_iff, Str.cmp_neg_iff]
theorem le_before {a b c : Str.Txt} (h : Str.cmp a b ≤ 0) (k : Str.before b c = true) : Str.before a c = true := by
  rcases Int.lt_or_eq_of_le h with q | q
  · exact Str.before_trans (Str.cmp_neg_iff.1 q) k
  · rw [Str.cmp_eq_iff.1 q]; exact k
theorem le_trans' {a b c : Str.Txt} (h : Str.cmp a b ≤ 0) (k : Str.cmp b c ≤ 0) : Str.cmp a c ≤ 0 := by
  rcases Int.lt_or_eq_of_le k with q | q
  · have := Str.cmp_neg_iff.2 (le_before h (Str.cmp_neg_iff.1 q)); omega
  · rw [← Str.cmp_eq_iff.1 q]; exact h
theorem ok_append {a b : List Rw} (ha : rowsOkB a = true) (hb : rowsOkB b = true) (h : ∀ x ∈ a, ∀ y ∈ b, ltR x y) : rowsOkB (a ++ b) = true := by
  rw [rowsOkB_iff] at ha hb ⊢
  refine ⟨fun r hr => (List.mem_append.1 hr).elim (ha.1 r) (hb.1 r), ?_⟩
  rw [List.pairwise_append]
  exact ⟨ha.2, hb.2, h⟩
theorem ok_sub {a b : List Rw} (hb : rowsOkB b = true) (h : a.Sublist b) : rowsOkB a = true := by
  rw [rowsOkB_iff] at hb ⊢
  exact ⟨fun r hr => hb.1 r (h.subset hr), hb.2.sublist h⟩
theorem mem_put {l : List Rw} {r x : Rw} (h : x ∈ putL l r) : x = r ∨ x ∈ l := by
  unfold putL at h
  simp only [List.mem_append, List.mem_singleton] at h
  rcases h with (h | h) | h
  · exact .inr (List.mem_of_mem_take h)
  · exact .inl h
  · exact .inr (List.mem_of_mem_drop h)
theorem drop_sub (l : List Rw) (key : ByteArray) : (dropL l key).Sublist l := by
  unfold dropL
  split
  · have e : l.take (place key l) ++ l.drop (place key l) = l := List.take_append_drop _ _
    have : (l.take (place key l) ++ l.drop (place key l + 1)).Sublist (l.take (place key l) ++ l.drop (place key l)) :=
      List.Sublist.append (List.Sublist.refl _) (by rw [← List.drop_drop]; exact List.drop_sublist _ _)
    rwa [e] at this
  · exact List.Sublist.refl _
/-- what lies ahead of a span's low end, and in it, may stand behind each other -/
theorem merge_ok {v : Vw} (hv : VwOk v) (hu : v.unb = false) {b : List Rw} {high : ByteArray} {unb : Bool} (hb : ∀ y ∈ b, inS v.high high unb y = true) : (∀ x ∈ v.rows, ∀ y ∈ b, ltR x y) ∧ joinOk v.rows b = true := by
  have key : ∀ x ∈ v.rows, ∀ y ∈ b, ltR x y := fun x hx y hy => by
    have h1 := hv.inn x hx
    rw [hu] at h1
    have h1 : Str.before (Tx x.key) (Tx v.high) = true := h1.resolve_left (by decide)
    have h2 := (inS_iff.1 (hb y hy)).1
    unfold ltR
    rcases Int.lt_or_eq_of_le h2 with q | q
    · exact Str.before_trans h1 (Str.cmp_neg_iff.1 q)
    · rw [← Str.cmp_eq_iff.1 q]; exact h1
  refine ⟨key, ?_⟩
  unfold joinOk
  rw [decide_eq_true_iff]
  by_cases h1 : v.rows = []
  · exact .inl h1
  · by_cases h2 : b = []
    · exact .inr (.inl h2)
    · refine .inr (.inr (Str.cmp_neg_iff.2 ?_))
      have l1 : v.rows.length - 1 < v.rows.length := by have := List.length_pos_iff.2 h1; omega
      have l2 : 0 < b.length := List.length_pos_iff.2 h2
      unfold kAt
      rw [rAt_lt l1, rAt_lt l2]
      exact key _ (List.getElem_mem _) _ (List.getElem_mem _)
theorem soundR_iff {l : List Rw} {low high : ByteArray} {unb : Bool} : soundR l low high unb = true ↔ rowsOkB l = true ∧ (unb = true → high = ByteArray.empty) ∧ ∀ x ∈ l, inS low high unb x = true := by
  unfold soundR
  rw [Bool.and_eq_true, Bool.and_eq_true, List.all_eq_true, Bool.not_eq_true', Bool.and_eq_false_iff, decide_eq_false_iff_not, and_assoc]
  refine and_congr_right fun _ => and_congr_left fun _ => ?_
  cases unb <;> simp
/-- one step is one step, of a view that may be and does not go -/
theorem up_eq {v : Vw} {r : Rc} (hv : VwOk v) (hg : v.gone = false) (h1 : r.kind ≠ 1) (h16 : 1 ≤ r.kind ∧ r.kind ≤ 6) : upP v r = upR v r ∧ ∀ v', upR v r = some v' → VwOk v' ∧ (r.kind ≠ 5 → v'.gone = false) := by
  obtain ⟨ho1, ho2⟩ := hv
  have hp := (rowsOkB_iff v.rows).1 ho1
  have hv : VwOk v := ⟨ho1, ho2⟩
  unfold upP upR
  by_cases k2 : r.kind = 2
  · rw [if_pos k2, if_pos k2]
    constructor
    · simp [hg]
    · intro v' h
      split at h
      · rename_i q
        cases h
        refine ⟨⟨(keeps (r := ⟨r.key, r.val⟩) ho1 q.1).1, fun x hx => ?_⟩, fun _ => hg⟩
        rcases mem_put hx with rfl | hx
        · exact (hasK_iff.1 q.2).2
        · exact ho2 x hx
      · cases h
  · rw [if_neg k2, if_neg k2]
    by_cases k3 : r.kind = 3
    · rw [if_pos k3, if_pos k3]
      constructor
      · simp [hg]
      · intro v' h
        split at h
        · cases h
          exact ⟨⟨ok_sub ho1 (drop_sub _ _), fun x hx => ho2 x ((drop_sub _ _).subset hx)⟩, fun _ => hg⟩
        · cases h
    · rw [if_neg k3, if_neg k3]
      by_cases k4 : r.kind = 4
      · rw [if_pos k4, if_pos k4, filter_place hp.2]
        constructor
        · by_cases hh : hasK v r.key = true
          · have hle := (hasK_iff.1 hh).1
            have : Str.cmp (Tx v.low) (Tx r.key) < 0 ↔ r.key ≠ v.low := by
              constructor
              · intro q e; rw [e, Str.cmp_eq_iff.2 rfl] at q; omega
              · intro q
                rcases Int.lt_or_eq_of_le hle with s | s
                · exact s
                · exact absurd (tx_inj (Str.cmp_eq_iff.1 s)).symm q
            simp only [hg, hh, true_and, this]
          · simp only [hh, false_and, and_false, if_false]; simp [hg]
        · intro v' h
          split at h
          · rename_i q
            cases h
            refine ⟨⟨ok_sub ho1 (List.take_sublist _ _), fun x hx => .inr (place_take _ _ x hx)⟩, fun _ => hg⟩
          · cases h
      · rw [if_neg k4, if_neg k4]
        by_cases k6 : r.kind = 6
        · rw [if_pos k6, if_pos k6, sound_eq]
          have hj : v.unb = false ∧ v.high = r.key ∧ soundR r.rows r.key r.high r.unb = true → joinOk v.rows r.rows = true := fun q => by
            obtain ⟨q1, q2, q3⟩ := q
            obtain ⟨s1, s2, s3⟩ := soundR_iff.1 q3
            rw [← q2] at s3
            exact (merge_ok hv q1 s3).2
          constructor
          · by_cases hall : v.unb = false ∧ v.high = r.key ∧ soundR r.rows r.key r.high r.unb = true
            · have := hj hall
              simp only [hg, hall.1, hall.2.1, hall.2.2, this, Str.cmp_neg_iff, true_and, and_true]
            · rw [if_neg (fun q => hall ⟨q.2.1, q.2.2.1, q.2.2.2.1⟩), if_neg (fun q => hall ⟨q.1, q.2.1, q.2.2.1⟩)]
          · intro v' h
            split at h
            · rename_i q
              cases h
              obtain ⟨q1, q2, q3, q4⟩ := q
              obtain ⟨s1, s2, s3⟩ := soundR_iff.1 q3
              have s3' := s3
              rw [← q2] at s3'
              refine ⟨⟨ok_append ho1 s1 (merge_ok hv q1 s3').1, fun x hx => ?_⟩, fun _ => hg⟩
              rcases List.mem_append.1 hx with hx | hx
              · rcases q4 with q4 | q4
                · exact .inl q4
                · right
                  have h1 := ho2 x hx
                  rw [q1] at h1
                  have h1 := h1.resolve_left (by decide)
                  rw [q2] at h1
                  exact Str.before_trans h1 q4
              · exact (inS_iff.1 (s3 x hx)).2
            · cases h
        · rw [if_neg k6, if_neg k6]
          have k5 : r.kind = 5 := by omega
          rw [if_pos k5, if_pos k5, if_pos hg]
          refine ⟨rfl, fun v' h => ?_⟩
          cases h
          exact ⟨⟨ho1, ho2⟩, fun q => absurd k5 q⟩
end Go.Proofs.Ytidfelbaegaphaa

namespace Go.Proofs.Ytidfelbaegaphaa
set_option linter.unusedVariables false
set_option linter.unusedSimpArgs false

/-- a base's view -/
def baseV (b : Rc) : Vw := ⟨b.low, b.high, b.unb, b.right, b.rows, false⟩
/-- records above a view, the last one first -/
def foldV (up : Vw → Rc → Option Vw) (init : List Rc) (v0 : Vw) : Option Vw := init.foldr (fun r acc => acc.bind fun v => up v r) (some v0)
theorem foldV_cons (up : Vw → Rc → Option Vw) (r : Rc) (init : List Rc) (v0 : Vw) : foldV up (r :: init) v0 = (foldV up init v0).bind fun v => up v r := rfl
def kindsOk (c : List Rc) : Prop := ∀ r ∈ c, 1 ≤ r.kind ∧ r.kind ≤ 6
instance (c : List Rc) : Decidable (kindsOk c) := by unfold kindsOk; infer_instance
/-- where a base, and a removal, stand -/
def posOk (init : List Rc) (b : Rc) : Prop := b.kind = 1 ∧ (∀ r ∈ init, r.kind ≠ 1) ∧ ∀ r ∈ init.tail, r.kind ≠ 5
instance (init : List Rc) (b : Rc) : Decidable (posOk init b) := by unfold posOk; infer_instance
/-- a chain's view, or why it has none (the program's way) -/
def foldP (c : List Rc) : Option Vw × Int :=
  if kindsOk c then
    (match c.getLast? with
    | none => (none, 10)
    | some b => if b.kind = 1 ∧ soundP b.rows b.low b.high b.unb = true then (match foldV upP c.dropLast (baseV b) with | some v => (some v, 0) | none => (none, 10)) else (none, 10))
  else (none, 9)
/-- (the document's way) -/
def foldR (c : List Rc) : Option Vw × Int :=
  if kindsOk c then
    (match c.getLast? with
    | none => (none, 10)
    | some b => if posOk c.dropLast b ∧ soundR b.rows b.low b.high b.unb = true then (match foldV upR c.dropLast (baseV b) with | some v => (some v, 0) | none => (none, 10)) else (none, 10))
  else (none, 9)

theorem base_ok {b : Rc} (h : soundR b.rows b.low b.high b.unb = true) : VwOk (baseV b) := by
  obtain ⟨h1, -, h3⟩ := soundR_iff.1 h
  exact ⟨h1, fun x hx => (inS_iff.1 (h3 x hx)).2⟩
theorem upP_base {v : Vw} {r : Rc} (h : r.kind = 1) : upP v r = none := by
  unfold upP; rw [h]; rfl
theorem upP_gone {v : Vw} {r : Rc} (h : v.gone = true) : upP v r = none := by
  unfold upP
  simp [h]
theorem upP_removed {v v' : Vw} {r : Rc} (hk : r.kind = 5) (h : upP v r = some v') : v'.gone = true := by
  unfold upP at h
  rw [hk] at h
  simp only [show ¬ (5 : Int) = 2 by decide, show ¬ (5 : Int) = 3 by decide, show ¬ (5 : Int) = 4 by decide, show ¬ (5 : Int) = 6 by decide, if_false, if_true] at h
  split at h
  · cases h; rfl
  · cases h
theorem fold_none1 : ∀ (init : List Rc) (v0 : Vw), (∃ r ∈ init, r.kind = 1) → foldV upP init v0 = none := by
  intro init
  induction init with
  | nil => intro v0 h; obtain ⟨r, hr, -⟩ := h; cases hr
  | cons x init ih =>
    intro v0 h
    rw [foldV_cons]
    cases hf : foldV upP init v0 with
    | none => rfl
    | some v =>
      obtain ⟨r, hr, hk⟩ := h
      rcases List.mem_cons.1 hr with rfl | hr
      · exact upP_base hk
      · rw [ih v0 ⟨r, hr, hk⟩] at hf; cases hf
theorem fold_none5 : ∀ (init : List Rc) (v0 : Vw), (∃ r ∈ init.tail, r.kind = 5) → foldV upP init v0 = none := by
  intro init
  induction init with
  | nil => intro v0 h; obtain ⟨r, hr, -⟩ := h; cases hr
  | cons x init ih =>
    intro v0 h
    rw [foldV_cons]
    cases hf : foldV upP init v0 with
    | none => rfl
    | some v =>
      obtain ⟨r, hr, hk⟩ := h
      have hr' : r ∈ init := hr
      cases init with
      | nil => cases hr'
      | cons y init =>
        rcases List.mem_cons.1 hr' with rfl | hr'
        · rw [foldV_cons] at hf
          cases hf2 : foldV upP init v0 with
          | none => rw [hf2] at hf; cases hf
          | some v2 =>
            rw [hf2] at hf
            exact upP_gone (upP_removed hk hf)
        · rw [ih v0 ⟨r, hr', hk⟩] at hf; cases hf
theorem fold_same : ∀ (init : List Rc) (v0 : Vw), VwOk v0 → v0.gone = false → kindsOk init → (∀ r ∈ init, r.kind ≠ 1) → (∀ r ∈ init.tail, r.kind ≠ 5) → foldV upP init v0 = foldV upR init v0 ∧ ∀ v, foldV upR init v0 = some v → VwOk v ∧ ((∀ r ∈ init, r.kind ≠ 5) → v.gone = false) := by
  intro init
  induction init with
  | nil => intro v0 hv hg _ _ _; exact ⟨rfl, fun v h => by cases h; exact ⟨hv, fun _ => hg⟩⟩
  | cons x init ih =>
    intro v0 hv hg hk h1 h5
    have h5' : ∀ r ∈ init, r.kind ≠ 5 := h5
    obtain ⟨e1, e2⟩ := ih v0 hv hg (fun r hr => hk r (List.mem_cons_of_mem _ hr)) (fun r hr => h1 r (List.mem_cons_of_mem _ hr)) (fun r hr => h5' r (List.mem_of_mem_tail hr))
    rw [foldV_cons, foldV_cons, e1]
    cases hf : foldV upR init v0 with
    | none => exact ⟨rfl, fun v h => by cases h⟩
    | some v =>
      obtain ⟨o1, o2⟩ := e2 v hf
      obtain ⟨u1, u2⟩ := up_eq o1 (o2 h5') (h1 x List.mem_cons_self) (hk x List.mem_cons_self)
      refine ⟨u1, fun v' h => ?_⟩
      obtain ⟨w1, w2⟩ := u2 v' h
      exact ⟨w1, fun q => w2 (q x List.mem_cons_self)⟩
theorem kinds_init {c : List Rc} (h : kindsOk c) : kindsOk c.dropLast := fun r hr => h r (List.dropLast_subset _ hr)
/-- the two are one -/
theorem fold_eq (c : List Rc) : foldP c = foldR c := by
  unfold foldP foldR
  by_cases hk : kindsOk c
  · rw [if_pos hk, if_pos hk]
    cases hl : c.getLast? with
    | none => rfl
    | some b =>
      simp only []
      rw [sound_eq]
      by_cases hs : soundR b.rows b.low b.high b.unb = true
      · by_cases hb : b.kind = 1
        · rw [if_pos ⟨hb, hs⟩]
          by_cases hp : posOk c.dropLast b
          · rw [if_pos ⟨hp, hs⟩, (fold_same c.dropLast (baseV b) (base_ok hs) rfl (kinds_init hk) hp.2.1 hp.2.2).1]
          · rw [if_neg (fun q => hp q.1)]
            have : foldV upP c.dropLast (baseV b) = none := by
              by_cases h1 : ∃ r ∈ c.dropLast, r.kind = 1
              · exact fold_none1 _ _ h1
              · by_cases h5 : ∃ r ∈ c.dropLast.tail, r.kind = 5
                · exact fold_none5 _ _ h5
                · exact absurd ⟨hb, fun r hr q => h1 ⟨r, hr, q⟩, fun r hr q => h5 ⟨r, hr, q⟩⟩ hp
            rw [this]
        · rw [if_neg (fun q => hb q.1), if_neg (fun q => hb q.1.1)]
      · rw [if_neg (fun q => hs q.2), if_neg (fun q => hs q.2)]
  · rw [if_neg hk, if_neg hk]
/-- a view that is told may be -/
theorem fold_ok {c : List Rc} {v : Vw} {e : Int} (h : foldP c = (some v, e)) : VwOk v ∧ e = 0 := by
  rw [fold_eq] at h
  unfold foldR at h
  split at h
  · rename_i hk
    split at h
    · cases h
    · rename_i b hb
      split at h
      · rename_i hp
        split at h
        · rename_i v' hv
          cases h
          exact ⟨((fold_same c.dropLast (baseV b) (base_ok hp.2) rfl (kinds_init hk) hp.1.2.1 hp.1.2.2).2 v hv).1, rfl⟩
        · cases h
      · cases h
  · cases h

/-- what a key has in a chain (the program's way): value, there, code -/
def searchP (c : List Rc) (key : ByteArray) : ByteArray × Bool × Int :=
  match foldP c with
  | (none, e) => (ByteArray.empty, false, e)
  | (some v, _) => if v.gone = true then (ByteArray.empty, false, 13) else if hasK v key = false then (ByteArray.empty, false, 2) else if hasB key v.rows = true then (vAt v.rows (place key v.rows), true, 0) else (ByteArray.empty, false, 0)
/-- (the document's way) -/
def searchR (c : List Rc) (key : ByteArray) : ByteArray × Bool × Int :=
  match foldR c with
  | (none, e) => (ByteArray.empty, false, e)
  | (some v, _) => if v.gone = true then (ByteArray.empty, false, 13) else if hasK v key = false then (ByteArray.empty, false, 2) else (match look key v.rows with | some r => (r.val, true, 0) | none => (ByteArray.empty, false, 0))
theorem search_eq (c : List Rc) (key : ByteArray) : searchP c key = searchR c key := by
  unfold searchP searchR
  rw [← fold_eq]
  cases hf : foldP c with
  | mk ov e =>
    cases ov with
    | none => rfl
    | some v =>
      simp only []
      have hp := ((rowsOkB_iff v.rows).1 (fold_ok hf).1.ok).2
      rw [look_spec hp]
      cases hasB key v.rows
      · rfl
      · rfl
theorem foldP_cons {c : List Rc} {v : Vw} {r : Rc} (h : foldP c = (some v, 0)) (hk : 1 ≤ r.kind ∧ r.kind ≤ 6) : foldP (r :: c) = match upP v r with | some v' => (some v', 0) | none => (none, 10) := by
  unfold foldP at h
  split at h
  · rename_i hko
    split at h
    · cases h
    · rename_i b hb
      split at h
      · rename_i hp
        split at h
        · rename_i v' hv
          cases h
          have hne : c ≠ [] := by rintro rfl; cases hb
          have hko2 : kindsOk (r :: c) := fun x hx => (List.mem_cons.1 hx).elim (fun q => by rw [q]; exact hk) (hko x)
          have hb2 : (r :: c).getLast? = some b := by rw [List.getLast?_cons, hb]; rfl
          unfold foldP
          rw [if_pos hko2, hb2]
          simp only []
          rw [if_pos hp, List.dropLast_cons_of_ne_nil hne, foldV_cons, hv]
          rfl
        · cases h
      · cases h
  · cases h
/-- what is put is found, what is dropped is not, and another key has what it had -/
theorem put_law {c : List Rc} {key val : ByteArray} {x : ByteArray × Bool} (h : searchP c key = (x.1, x.2, 0)) (hf : fitsB ⟨key, val⟩ = true) (p d : Rc) (hp : p.kind = 2 ∧ p.key = key ∧ p.val = val) (hd : d.kind = 3 ∧ d.key = key) :
    searchP (p :: c) key = (val, true, 0) ∧ searchP (d :: c) key = (ByteArray.empty, false, 0) ∧ ∀ other, other ≠ key → searchP (p :: c) other = searchP c other ∧ searchP (d :: c) other = searchP c other := by
  have h0 := h
  unfold searchP at h
  cases hfo : foldP c with
  | mk ov e =>
    rw [hfo] at h
    cases ov with
    | none =>
      simp only [Prod.mk.injEq] at h
      obtain ⟨-, -, rfl⟩ := h
      exfalso
      unfold foldP at hfo
      split at hfo
      · split at hfo
        · simp at hfo
        · split at hfo
          · split at hfo <;> simp at hfo
          · simp at hfo
      · simp at hfo
    | some v =>
      obtain ⟨hok, rfl⟩ := fold_ok hfo
      simp only [] at h
      have hg : v.gone = false := by
        cases hg : v.gone
        · rfl
        · rw [hg] at h; simp at h
      have hh : hasK v key = true := by
        cases hh : hasK v key
        · rw [hg, hh] at h; simp at h
        · rfl
      obtain ⟨k1, k2, k3, k4, k5, -, k7⟩ := keeps (r := ⟨key, val⟩) hok.ok hf
      have e1 : upP v p = some { v with rows := putL v.rows ⟨key, val⟩ } := by
        unfold upP
        rw [hp.1, hp.2.1, hp.2.2, if_pos rfl, if_pos ⟨hf, hg, hh⟩]
      have e2 : upP v d = some { v with rows := dropL v.rows key } := by
        unfold upP
        rw [hd.1, hd.2, if_neg (by decide), if_pos rfl, if_pos ⟨hg, hh⟩]
      have f1 := foldP_cons hfo (r := p) (by rw [hp.1]; decide)
      have f2 := foldP_cons hfo (r := d) (by rw [hd.1]; decide)
      rw [e1] at f1
      rw [e2] at f2
      have hp1 := ((rowsOkB_iff _).1 k1).2
      have hp2 := ((rowsOkB_iff _).1 k2).2
      have hp0 := ((rowsOkB_iff _).1 hok.ok).2
      refine ⟨?_, ?_, fun other ho => ?_⟩
      · unfold searchP
        rw [f1]
        simp only []
        rw [hg, if_neg (by decide), if_neg (by show ¬ hasK v key = false; rw [hh]; decide), if_pos k3]
        have : vAt (putL v.rows ⟨key, val⟩) (place key (putL v.rows ⟨key, val⟩)) = val := by unfold vAt; rw [k4]
        rw [this]
      · unfold searchP
        rw [f2]
        simp only []
        rw [hg, if_neg (by decide), if_neg (by show ¬ hasK v key = false; rw [hh]; decide), if_neg (by show ¬ hasB key (dropL v.rows key) = true; rw [k5]; decide)]
      · have hR : ∀ (rows' : List Rw), rowsOkB rows' = true → look other rows' = look other v.rows → ∀ c', foldP c' = (some { v with rows := rows' }, 0) → searchP c' other = searchP c other := by
          intro rows' hr hl c' hc'
          rw [search_eq, search_eq]
          unfold searchR
          rw [← fold_eq, ← fold_eq, hc', hfo]
          simp only []
          rw [hl]
          rfl
        exact ⟨hR _ k1 (k7 other ho).1 _ f1, hR _ k2 (k7 other ho).2 _ f2⟩
end Go.Proofs.Ytidfelbaegaphaa
