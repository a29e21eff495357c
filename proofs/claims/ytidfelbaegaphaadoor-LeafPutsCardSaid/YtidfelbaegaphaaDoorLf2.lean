import Derived.Test.YtidfelbaegaphaaDoorLf
namespace Go.Proofs.YtidfelbaegaphaaDoor
set_option linter.unusedVariables false
set_option linter.unusedSimpArgs false

/-- a base's view -/
def baseV (b : Rc) : Vw := ⟨b.low, b.high, b.unb, b.right, b.rows, false⟩
/-- records above a view, the last one first -/
def foldV (up : Vw → Rc → Option Vw) (init : List Rc) (v0 : Vw) : Option Vw := init.foldr (fun r acc => acc.bind fun v => up v r) (some v0)
theorem foldV_cons (up : Vw → Rc → Option Vw) (r : Rc) (init : List Rc) (v0 : Vw) : foldV up (r :: init) v0 = (foldV up init v0).bind fun v => up v r := rfl
def kindsOk (c : List Rc) : Prop := ∀ r ∈ c, 1 ≤ r.kind ∧ r.kind ≤ 6
instance (c : List Rc) : Decidable (kindsOk c) := by unfold kindsOk; infer_instance
/-- where a base, and a removal, stand -/
def posOk (init : List Rc) (b : Rc) : Prop := b.kind = 1 ∧ (∀ r ∈ init, r.kind ≠ 1) ∧ ∀ r ∈ init.tail, r.kind ≠ 5
instance (init : List Rc) (b : Rc) : Decidable (posOk init b) := by unfold posOk; infer_instance
/-- a chain's view, or why it has none (the program's way) -/
def foldP (c : List Rc) : Option Vw × Int :=
  if kindsOk c then
    (match c.getLast? with
    | none => (none, 10)
    | some b => if b.kind = 1 ∧ soundP b.rows b.low b.high b.unb = true then (match foldV upP c.dropLast (baseV b) with | some v => (some v, 0) | none => (none, 10)) else (none, 10))
  else (none, 9)
/-- (the document's way) -/
def foldR (c : List Rc) : Option Vw × Int :=
  if kindsOk c then
    (match c.getLast? with
    | none => (none, 10)
    | some b => if posOk c.dropLast b ∧ soundR b.rows b.low b.high b.unb = true then (match foldV upR c.dropLast (baseV b) with | some v => (some v, 0) | none => (none, 10)) else (none, 10))
  else (none, 9)

theorem base_ok {b : Rc} (h : soundR b.rows b.low b.high b.unb = true) : VwOk (baseV b) := by
  obtain ⟨h1, -, h3⟩ := soundR_iff.1 h
  exact ⟨h1, fun x hx => (inS_iff.1 (h3 x hx)).2⟩
theorem upP_base {v : Vw} {r : Rc} (h : r.kind = 1) : upP v r = none := by
  unfold upP; rw [h]; rfl
theorem upP_gone {v : Vw} {r : Rc} (h : v.gone = true) : upP v r = none := by
  unfold upP
  simp [h]
theorem upP_removed {v v' : Vw} {r : Rc} (hk : r.kind = 5) (h : upP v r = some v') : v'.gone = true := by
  unfold upP at h
  rw [hk] at h
  simp only [show ¬ (5 : Int) = 2 by decide, show ¬ (5 : Int) = 3 by decide, show ¬ (5 : Int) = 4 by decide, show ¬ (5 : Int) = 6 by decide, if_false, if_true] at h
  split at h
  · cases h; rfl
  · cases h
theorem fold_none1 : ∀ (init : List Rc) (v0 : Vw), (∃ r ∈ init, r.kind = 1) → foldV upP init v0 = none := by
  intro init
  induction init with
  | nil => intro v0 h; obtain ⟨r, hr, -⟩ := h; cases hr
  | cons x init ih =>
    intro v0 h
    rw [foldV_cons]
    cases hf : foldV upP init v0 with
    | none => rfl
    | some v =>
      obtain ⟨r, hr, hk⟩ := h
      rcases List.mem_cons.1 hr with rfl | hr
      · exact upP_base hk
      · rw [ih v0 ⟨r, hr, hk⟩] at hf; cases hf
theorem fold_none5 : ∀ (init : List Rc) (v0 : Vw), (∃ r ∈ init.tail, r.kind = 5) → foldV upP init v0 = none := by
  intro init
  induction init with
  | nil => intro v0 h; obtain ⟨r, hr, -⟩ := h; cases hr
  | cons x init ih =>
    intro v0 h
    rw [foldV_cons]
    cases hf : foldV upP init v0 with
    | none => rfl
    | some v =>
      obtain ⟨r, hr, hk⟩ := h
      have hr' : r ∈ init := hr
      cases init with
      | nil => cases hr'
      | cons y init =>
        rcases List.mem_cons.1 hr' with rfl | hr'
        · rw [foldV_cons] at hf
          cases hf2 : foldV upP init v0 with
          | none => rw [hf2] at hf; cases hf
          | some v2 =>
            rw [hf2] at hf
            exact upP_gone (upP_removed hk hf)
        · rw [ih v0 ⟨r, hr', hk⟩] at hf; cases hf
theorem fold_same : ∀ (init : List Rc) (v0 : Vw), VwOk v0 → v0.gone = false → kindsOk init → (∀ r ∈ init, r.kind ≠ 1) → (∀ r ∈ init.tail, r.kind ≠ 5) → foldV upP init v0 = foldV upR init v0 ∧ ∀ v, foldV upR init v0 = some v → VwOk v ∧ ((∀ r ∈ init, r.kind ≠ 5) → v.gone = false) := by
  intro init
  induction init with
  | nil => intro v0 hv hg _ _ _; exact ⟨rfl, fun v h => by cases h; exact ⟨hv, fun _ => hg⟩⟩
  | cons x init ih =>
    intro v0 hv hg hk h1 h5
    have h5' : ∀ r ∈ init, r.kind ≠ 5 := h5
    obtain ⟨e1, e2⟩ := ih v0 hv hg (fun r hr => hk r (List.mem_cons_of_mem _ hr)) (fun r hr => h1 r (List.mem_cons_of_mem _ hr)) (fun r hr => h5' r (List.mem_of_mem_tail hr))
    rw [foldV_cons, foldV_cons, e1]
    cases hf : foldV upR init v0 with
    | none => exact ⟨rfl, fun v h => by cases h⟩
    | some v =>
      obtain ⟨o1, o2⟩ := e2 v hf
      obtain ⟨u1, u2⟩ := up_eq o1 (o2 h5') (h1 x List.mem_cons_self) (hk x List.mem_cons_self)
      refine ⟨u1, fun v' h => ?_⟩
      obtain ⟨w1, w2⟩ := u2 v' h
      exact ⟨w1, fun q => w2 (q x List.mem_cons_self)⟩
theorem kinds_init {c : List Rc} (h : kindsOk c) : kindsOk c.dropLast := fun r hr => h r (List.dropLast_subset _ hr)
/-- the two are one -/
theorem fold_eq (c : List Rc) : foldP c = foldR c := by
  unfold foldP foldR
  by_cases hk : kindsOk c
  · rw [if_pos hk, if_pos hk]
    cases hl : c.getLast? with
    | none => rfl
    | some b =>
      simp only []
      rw [sound_eq]
      by_cases hs : soundR b.rows b.low b.high b.unb = true
      · by_cases hb : b.kind = 1
        · rw [if_pos ⟨hb, hs⟩]
          by_cases hp : posOk c.dropLast b
          · rw [if_pos ⟨hp, hs⟩, (fold_same c.dropLast (baseV b) (base_ok hs) rfl (kinds_init hk) hp.2.1 hp.2.2).1]
          · rw [if_neg (fun q => hp q.1)]
            have : foldV upP c.dropLast (baseV b) = none := by
              by_cases h1 : ∃ r ∈ c.dropLast, r.kind = 1
              · exact fold_none1 _ _ h1
              · by_cases h5 : ∃ r ∈ c.dropLast.tail, r.kind = 5
                · exact fold_none5 _ _ h5
                · exact absurd ⟨hb, fun r hr q => h1 ⟨r, hr, q⟩, fun r hr q => h5 ⟨r, hr, q⟩⟩ hp
            rw [this]
        · rw [if_neg (fun q => hb q.1), if_neg (fun q => hb q.1.1)]
      · rw [if_neg (fun q => hs q.2), if_neg (fun q => hs q.2)]
  · rw [if_neg hk, if_neg hk]
/-- a view that is told may be -/
theorem fold_ok {c : List Rc} {v : Vw} {e : Int} (h : foldP c = (some v, e)) : VwOk v ∧ e = 0 := by
  rw [fold_eq] at h
  unfold foldR at h
  split at h
  · rename_i hk
    split at h
    · cases h
    · rename_i b hb
      split at h
      · rename_i hp
        split at h
        · rename_i v' hv
          cases h
          exact ⟨((fold_same c.dropLast (baseV b) (base_ok hp.2) rfl (kinds_init hk) hp.1.2.1 hp.1.2.2).2 v hv).1, rfl⟩
        · cases h
      · cases h
  · cases h

/-- what a key has in a chain (the program's way): value, there, code -/
def searchP (c : List Rc) (key : ByteArray) : ByteArray × Bool × Int :=
  match foldP c with
  | (none, e) => (ByteArray.empty, false, e)
  | (some v, _) => if v.gone = true then (ByteArray.empty, false, 13) else if hasK v key = false then (ByteArray.empty, false, 2) else if hasB key v.rows = true then (vAt v.rows (place key v.rows), true, 0) else (ByteArray.empty, false, 0)
/-- (the document's way) -/
def searchR (c : List Rc) (key : ByteArray) : ByteArray × Bool × Int :=
  match foldR c with
  | (none, e) => (ByteArray.empty, false, e)
  | (some v, _) => if v.gone = true then (ByteArray.empty, false, 13) else if hasK v key = false then (ByteArray.empty, false, 2) else (match look key v.rows with | some r => (r.val, true, 0) | none => (ByteArray.empty, false, 0))
theorem search_eq (c : List Rc) (key : ByteArray) : searchP c key = searchR c key := by
  unfold searchP searchR
  rw [← fold_eq]
  cases hf : foldP c with
  | mk ov e =>
    cases ov with
    | none => rfl
    | some v =>
      simp only []
      have hp := ((rowsOkB_iff v.rows).1 (fold_ok hf).1.ok).2
      rw [look_spec hp]
      cases hasB key v.rows
      · rfl
      · rfl
theorem foldP_cons {c : List Rc} {v : Vw} {r : Rc} (h : foldP c = (some v, 0)) (hk : 1 ≤ r.kind ∧ r.kind ≤ 6) : foldP (r :: c) = match upP v r with | some v' => (some v', 0) | none => (none, 10) := by
  unfold foldP at h
  split at h
  · rename_i hko
    split at h
    · cases h
    · rename_i b hb
      split at h
      · rename_i hp
        split at h
        · rename_i v' hv
          cases h
          have hne : c ≠ [] := by rintro rfl; cases hb
          have hko2 : kindsOk (r :: c) := fun x hx => (List.mem_cons.1 hx).elim (fun q => by rw [q]; exact hk) (hko x)
          have hb2 : (r :: c).getLast? = some b := by rw [List.getLast?_cons, hb]; rfl
          unfold foldP
          rw [if_pos hko2, hb2]
          simp only []
          rw [if_pos hp, List.dropLast_cons_of_ne_nil hne, foldV_cons, hv]
          rfl
        · cases h
      · cases h
  · cases h
/-- what is put is found, what is dropped is not, and another key has what it had -/
theorem put_law {c : List Rc} {key val : ByteArray} {x : ByteArray × Bool} (h : searchP c key = (x.1, x.2, 0)) (hf : fitsB ⟨key, val⟩ = true) (p d : Rc) (hp : p.kind = 2 ∧ p.key = key ∧ p.val = val) (hd : d.kind = 3 ∧ d.key = key) :
    searchP (p :: c) key = (val, true, 0) ∧ searchP (d :: c) key = (ByteArray.empty, false, 0) ∧ ∀ other, other ≠ key → searchP (p :: c) other = searchP c other ∧ searchP (d :: c) other = searchP c other := by
  have h0 := h
  unfold searchP at h
  cases hfo : foldP c with
  | mk ov e =>
    rw [hfo] at h
    cases ov with
    | none =>
      simp only [Prod.mk.injEq] at h
      obtain ⟨-, -, rfl⟩ := h
      exfalso
      unfold foldP at hfo
      split at hfo
      · split at hfo
        · simp at hfo
        · split at hfo
          · split at hfo <;> simp at hfo
          · simp at hfo
      · simp at hfo
    | some v =>
      obtain ⟨hok, rfl⟩ := fold_ok hfo
      simp only [] at h
      have hg : v.gone = false := by
        cases hg : v.gone
        · rfl
        · rw [hg] at h; simp at h
      have hh : hasK v key = true := by
        cases hh : hasK v key
        · rw [hg, hh] at h; simp at h
        · rfl
      obtain ⟨k1, k2, k3, k4, k5, -, k7⟩ := keeps (r := ⟨key, val⟩) hok.ok hf
      have e1 : upP v p = some { v with rows := putL v.rows ⟨key, val⟩ } := by
        unfold upP
        rw [hp.1, hp.2.1, hp.2.2, if_pos rfl, if_pos ⟨hf, hg, hh⟩]
      have e2 : upP v d = some { v with rows := dropL v.rows key } := by
        unfold upP
        rw [hd.1, hd.2, if_neg (by decide), if_pos rfl, if_pos ⟨hg, hh⟩]
      have f1 := foldP_cons hfo (r := p) (by rw [hp.1]; decide)
      have f2 := foldP_cons hfo (r := d) (by rw [hd.1]; decide)
      rw [e1] at f1
      rw [e2] at f2
      have hp1 := ((rowsOkB_iff _).1 k1).2
      have hp2 := ((rowsOkB_iff _).1 k2).2
      have hp0 := ((rowsOkB_iff _).1 hok.ok).2
      refine ⟨?_, ?_, fun other ho => ?_⟩
      · unfold searchP
        rw [f1]
        simp only []
        rw [hg, if_neg (by decide), if_neg (by show ¬ hasK v key = false; rw [hh]; decide), if_pos k3]
        have : vAt (putL v.rows ⟨key, val⟩) (place key (putL v.rows ⟨key, val⟩)) = val := by unfold vAt; rw [k4]
        rw [this]
      · unfold searchP
        rw [f2]
        simp only []
        rw [hg, if_neg (by decide), if_neg (by show ¬ hasK v key = false; rw [hh]; decide), if_neg (by show ¬ hasB key (dropL v.rows key) = true; rw [k5]; decide)]
      · have hR : ∀ (rows' : List Rw), rowsOkB rows' = true → look other rows' = look other v.rows → ∀ c', foldP c' = (some { v with rows := rows' }, 0) → searchP c' other = searchP c other := by
          intro rows' hr hl c' hc'
          rw [search_eq, search_eq]
          unfold searchR
          rw [← fold_eq, ← fold_eq, hc', hfo]
          simp only []
          rw [hl]
          rfl
        exact ⟨hR _ k1 (k7 other ho).1 _ f1, hR _ k2 (k7 other ho).2 _ f2⟩
end Go.Proofs.YtidfelbaegaphaaDoor
