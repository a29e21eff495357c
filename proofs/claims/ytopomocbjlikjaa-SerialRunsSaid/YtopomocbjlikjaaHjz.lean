import Derived.Test.YtopomocbjlikjaaStrz
import Derived.Deep.RegionHeld
import Derived.Deep.MidRow
namespace Go.Proofs.Ytopomocbjlikjaa
set_option linter.unusedVariables false
set_option linter.unusedSimpArgs false

/-! A region that draws its order, where one cell is both read and written: what is known of it (C) is known up to the operation l that writes it; i is the load, m an operation between the two. -/
section
variable {P : Program} {ops : Array Oper} {Q : Exit → Act → World → Prop} {md : Region.Mode} {S : Array Bool → World → Prop} {B C T : World → Prop} {i m l : Nat}
def wpAnyJ (P : Program) (md : Region.Mode) (ops : Array Oper) (Q : Exit → Act → World → Prop) (S : Array Bool → World → Prop) : Nat → Array Bool → Act → World → Prop
  | 0, L, a, w => Region.ready md ops L = [] ∧ Q .normal a w
  | fuel + 1, L, a, w => (Region.ready md ops L = [] → Q .normal a w) ∧ ∀ j ∈ Region.ready md ops L, wpOp P ops Q j (fun a' w' => S (L.setIfInBounds j true) w' ∧ wpAnyJ P md ops Q S fuel (L.setIfInBounds j true) a' w') a w
theorem wpAny_of_J : ∀ (fuel : Nat) (L : Array Bool) (a : Act) (w : World), wpAnyJ P md ops Q S fuel L a w → wpAny P md ops Q fuel L a w
  | 0, _, _, _, h => h
  | fuel + 1, _, _, _, h => ⟨h.1, fun j hj => wpOp_mono (fun a' w' h' => wpAny_of_J fuel _ a' w' h'.2) (h.2 j hj)⟩
theorem wpAnyJ_first {k : Nat} {ok : Oper} {v : Value} (hk : ops[k]? = some ok) (hsel : ∀ (j : Nat) (o : Oper) cs b, ops[j]? = some o → o.op ≠ .select cs b)
    (hQ : ∀ c a w, Q (.panic c) (a.put ok.dst v) w → Q (.panic c) a w) (hmono : ∀ L w, S L w → S (L.setIfInBounds k true) w)
    (hback : ∀ (L : Array Bool) (j : Nat) (w0 w : World), S L w0 → k ∈ Region.ready md ops L → j ∈ Region.ready md ops L → j ≠ k → S ((L.setIfInBounds j true).setIfInBounds k true) w → S (L.setIfInBounds j true) w)
    (hT : ∀ L w, S L w → k ∈ Region.ready md ops L → T w) :
    ∀ (fuel : Nat) (L : Array Bool) (a : Act) (w : World),
      (∀ j oj, ops[j]? = some oj → j ≠ k → L.getD j true = false → (∀ e ∈ oj.after, Region.binds md e = true → e.on ≠ k) → ok.apart ops oj = true) →
      k ∈ Region.ready md ops L → YieldsIf P ops T ok v a → S L w →
      wpAnyJ P md ops Q S fuel (L.setIfInBounds k true) (a.put ok.dst v) w → wpAnyJ P md ops Q S (fuel + 1) L a w := by
  intro fuel
  induction fuel with
  | zero =>
    intro L a w _ hr hy hS H
    refine ⟨fun h => (by rw [h] at hr; cases hr), fun j hj => ?_⟩
    by_cases hjk : j = k
    · subst hjk; exact hy.wpOp hk (hT L w hS hr) ⟨hmono L w hS, H⟩
    · have := ready_mono hj hjk
      rw [H.1] at this
      cases this
  | succ fuel ih =>
    intro L a w hfree hr hy hS H
    refine ⟨fun h => (by rw [h] at hr; cases hr), fun j hj => ?_⟩
    by_cases hjk : j = k
    · subst hjk; exact hy.wpOp hk (hT L w hS hr) ⟨hmono L w hS, H⟩
    · have h1 := H.2 j (ready_mono hj hjk)
      obtain ⟨hjun, oj, hoj, hall⟩ := mem_ready.1 hj
      have hnot : ∀ e ∈ oj.after, Region.binds md e = true → e.on ≠ k := fun e he hb heq => by
        have h1 := hall e he hb
        have h0 := (mem_ready.1 hr).1
        rw [heq] at h1
        rcases Nat.lt_or_ge k L.size with h' | h'
        · simp [h'] at h0 h1; rw [h0] at h1; cases h1
        · simp [Array.getElem?_eq_none h'] at h1
      have h2 := wpOp_putIf hoj (hfree j oj hoj hjk hjun hnot) (fun cs b => hsel k ok cs b hk) (fun cs b => hsel j oj cs b hoj) hQ hy h1
      have hfree' : ∀ p op, ops[p]? = some op → p ≠ k → (L.setIfInBounds j true).getD p true = false → (∀ e ∈ op.after, Region.binds md e = true → e.on ≠ k) → ok.apart ops op = true := fun p op hp hpk hun hno => by
        refine hfree p op hp hpk ?_ hno
        by_cases hjp : j = p
        · subst hjp; exact hjun
        · rw [getD_set_ne true hjp] at hun; exact hun
      refine wpOp_mono (fun a' w' h3 => ?_) h2
      rw [Array.setIfInBounds_comm _ _ (Ne.symm hjk)] at h3
      have hS' := hback L j w w' hS hr hj hjk h3.2.1
      exact ⟨hS', ih (L.setIfInBounds j true) a' w' hfree' (ready_mono hr (Ne.symm hjk)) h3.1 hS' h3.2.2⟩
/-- what is known meanwhile -/
def SJ (B C : World → Prop) (i m l : Nat) (L : Array Bool) (w : World) : Prop := B w ∧ (L.getD i true = false → L.getD m true = false ∧ L.getD l true = false) ∧ (L.getD l true = false → C w)
theorem getD_of_set {L : Array Bool} {j k : Nat} (h : (L.setIfInBounds j true).getD k true = false) : L.getD k true = false ∧ k ≠ j := by
  by_cases e : j = k
  · subst e
    rcases Nat.lt_or_ge j L.size with q | q
    · simp [q] at h
    · simp [q, Array.getElem?_eq_none] at h
  · rw [getD_set_ne true e] at h; exact ⟨h, Ne.symm e⟩
theorem SJ_mono {k : Nat} (h1 : k ≠ m) (h2 : k ≠ l) {L : Array Bool} {w : World} (h : SJ B C i m l L w) : SJ B C i m l (L.setIfInBounds k true) w := by
  obtain ⟨a, b, c⟩ := h
  refine ⟨a, fun q => ?_, fun q => c (getD_of_set q).1⟩
  rw [getD_set_ne true h1, getD_set_ne true h2]
  exact b (getD_of_set q).1
def hasEdge (md : Region.Mode) (ops : Array Oper) (x y : Nat) : Bool := ((ops[x]?).map fun o => o.after.any fun e => Region.binds md e && e.on == y).getD false
theorem hasEdge_listed {x y : Nat} {L : Array Bool} (h : hasEdge md ops x y = true) (hx : x ∈ Region.ready md ops L) : L.getD y false = true := by
  obtain ⟨-, o, ho, hall⟩ := mem_ready.1 hx
  unfold hasEdge at h
  rw [ho] at h
  simp only [Option.map_some, Option.getD_some] at h
  rw [Array.any_eq_true'] at h
  simp only [Bool.and_eq_true, beq_iff_eq] at h
  obtain ⟨e, he, hb, rfl⟩ := h
  exact hall e he hb
theorem listed_not {L : Array Bool} {y : Nat} (h : L.getD y false = true) : L.getD y true ≠ false := by
  rcases Nat.lt_or_ge y L.size with q | q
  · simp [q] at h ⊢; exact h
  · simp [Array.getElem?_eq_none q] at h
theorem SJ_back {k : Nat} (h1 : k ≠ m) (h2 : k ≠ l) (he1 : hasEdge md ops m i = true) (he2 : hasEdge md ops l m = true) (L : Array Bool) (j : Nat) (w0 w : World) (h0 : SJ B C i m l L w0) (hj : j ∈ Region.ready md ops L)
    (h : SJ B C i m l ((L.setIfInBounds j true).setIfInBounds k true) w) : SJ B C i m l (L.setIfInBounds j true) w := by
  obtain ⟨a, b, c⟩ := h
  refine ⟨a, fun q => ?_, fun q => c (by rw [getD_set_ne true h2]; exact q)⟩
  obtain ⟨q1, q2⟩ := getD_of_set q
  obtain ⟨q3, q4⟩ := h0.2.1 q1
  have n1 : j ≠ m := fun e => by subst e; exact listed_not (hasEdge_listed he1 hj) q1
  have n2 : j ≠ l := fun e => by subst e; exact listed_not (hasEdge_listed he2 hj) q3
  rw [getD_set_ne true n1, getD_set_ne true n2]
  exact ⟨q3, q4⟩
def closedJ (i m l : Nat) (L : Array Bool) : Bool := L.getD i true || (!L.getD m true && !L.getD l true)
theorem SJ_of {L : Array Bool} {w : World} (hB : B w) (hC : C w) (h : closedJ i m l L = true) : SJ B C i m l L w := by
  refine ⟨hB, fun q => ?_, fun _ => hC⟩
  unfold closedJ at h
  rw [q] at h
  simpa using h
/-- an operation that only reads is taken first -/
theorem wpAnyJ_take {k : Nat} {ok : Oper} {v : Value} {fuel : Nat} {L : Array Bool} {a : Act} {w : World} (hk : ops[k]? = some ok) (hs : Region.noSelect ops = true) (hf : Region.free md ops L k = true) (hr : (Region.ready md ops L).contains k = true)
    (hc : (k != m && k != l && hasEdge md ops m i && hasEdge md ops l m && closedJ i m l L) = true) (hQ : ∀ c a w, Q (.panic c) (a.put ok.dst v) w → Q (.panic c) a w)
    (hT : ∀ w, B w → (k = i → C w) → T w) (hy : YieldsIf P ops T ok v a) (hB : B w) (hC : C w)
    (h : wpAnyJ P md ops Q (SJ B C i m l) fuel (L.setIfInBounds k true) (a.put ok.dst v) w) : wpAnyJ P md ops Q (SJ B C i m l) (fuel + 1) L a w := by
  simp only [Bool.and_eq_true, bne_iff_ne, ne_eq] at hc
  obtain ⟨⟨⟨⟨c1, c2⟩, c3⟩, c4⟩, c5⟩ := hc
  refine wpAnyJ_first hk (Region.noSelect_spec hs) hQ (fun L w q => SJ_mono c1 c2 q) (fun L j w0 w h0 hk hj _ q => SJ_back c1 c2 c3 c4 L j w0 w h0 hj q) (fun L w q hk => hT w q.1 fun e => ?_) fuel L a w (Region.free_spec hk hf) (by simpa using hr) hy (SJ_of hB hC c5) h
  subst e
  exact q.2.2 (q.2.1 (mem_ready.1 hk).1).2
/-- the one that comes up is carried out -/
theorem wpAnyJ_one {j : Nat} {o : Oper} {fuel : Nat} {L : Array Bool} {a : Act} {w : World} (ho : ops[j]? = some o) (hr : Region.ready md ops L = [j]) (hc : closedJ i m l (L.setIfInBounds j true) = true)
    (h : ∀ K' : Act → World → Prop, Shut (∀ a w, B w → C w → (B w → C w → wpAnyJ P md ops Q (SJ B C i m l) fuel (L.setIfInBounds j true) a w) → K' a w) → if Region.wanted o (yielded ops a.tmps) = true then Oper.wp P o a w K' Q else K' (a.put o.dst undef) w) :
    wpAnyJ P md ops Q (SJ B C i m l) (fuel + 1) L a w := by
  refine ⟨fun h => (by rw [h] at hr; cases hr), fun k hk => ?_⟩
  rw [hr, List.mem_singleton] at hk
  subst hk
  exact wpOp_step ho fun K' hK => h K' fun a w hB hC hW => hK a w ⟨SJ_of hB hC hc, hW hB hC⟩
/-- the one that writes, last of all -/
theorem wpAnyJ_last {o : Oper} {fuel : Nat} {L : Array Bool} {a : Act} {w : World} (ho : ops[l]? = some o) (hr : Region.ready md ops L = [l]) (hd : Region.ready md ops (L.setIfInBounds l true) = []) (hc : ((L.setIfInBounds l true).getD i true && (L.setIfInBounds l true).getD l true) = true)
    (h : ∀ K' : Act → World → Prop, Shut (∀ a w, B w → Q .normal a w → K' a w) → if Region.wanted o (yielded ops a.tmps) = true then Oper.wp P o a w K' Q else K' (a.put o.dst undef) w) :
    wpAnyJ P md ops Q (SJ B C i m l) (fuel + 1) L a w := by
  rw [Bool.and_eq_true] at hc
  refine ⟨fun h => (by rw [h] at hr; cases hr), fun k hk => ?_⟩
  rw [hr, List.mem_singleton] at hk
  subst hk
  refine wpOp_step ho fun K' hK => h K' fun a w hB hW => hK a w ⟨⟨hB, fun q => ?_, fun q => ?_⟩, ?_⟩
  · rw [hc.1] at q; cases q
  · rw [hc.2] at q; cases q
  · cases fuel with
    | zero => exact ⟨hd, hW⟩
    | succ f => exact ⟨fun _ => hW, fun j hj => by rw [hd] at hj; cases hj⟩
theorem wp_region_J (B C : World → Prop) (i m l : Nat) {id : Nat} {a : Act} {w : World} (hm : P.follows .mixedOrders = true)
    (h : wpAnyJ P .any ops Q (SJ B C i m l) ops.size (Array.replicate ops.size false) a w.drew) : (Code.region id ops true).wp P Q a w :=
  wp_region_any hm (wpAny_of_J _ _ _ _ h)
end
end Go.Proofs.Ytopomocbjlikjaa
