import Derived.Test.YtopomocbjlikjaaRl20z
import Derived.Test.YtopomocbjlikjaaWn20z
import Derived.Test.YtopomocbjlikjaaWq20z
namespace Go.Proofs.Ytopomocbjlikjaa
set_option linter.unusedVariables false
set_option linter.unusedSimpArgs false
open Go.BigFrame Go.RowKit Go.WideShapes

/-! A run in memory (serial): what a trip saw, its rows those that came in. -/
def SnI (W : World) : EP Sn := fun _ s vs => ∃ o n c, vs = snL s o n c ∧ RowsAt W o n c s.rows ∧ SnSz s
theorem SnI_mono (W : World) : Mono (SnI W) := fun w w' s vs hg h => h
def TrI (W : World) : EP Tr := fun w t vs => ∃ o n c, vs = trL t o n c ∧ SlE (SnI W) 10 w o n c t.seen ∧ TrSz t
theorem TrI_mono (W : World) : Mono (TrI W) := fun w w' t vs hg ⟨o, n, c, h1, h2, h3⟩ => ⟨o, n, c, h1, h2.ex (SnI_mono W) hg, h3⟩
theorem SnI.E {W w : World} {s : Sn} {vs : List Value} (h : SnI W w s vs) (hg : Gr W w) : SnE w s vs := by
  obtain ⟨o, n, c, h1, h2, h3⟩ := h
  exact ⟨o, n, c, h1, h2.keep hg, h3⟩
theorem seenI {W w : World} {o : Option Addr} {n c : Nat} {l : List Sn} (h : SlE (SnI W) 10 w o n c l) (hg : Gr W w) : SeenAt w o n c l := h.weak fun _ _ q => SnI.E q hg
theorem TrI.E {W w : World} {t : Tr} {vs : List Value} (h : TrI W w t vs) (hg : Gr W w) : TrE w t vs := by
  obtain ⟨o, n, c, h1, h2, h3⟩ := h
  exact ⟨o, n, c, h1, seenI h2 hg, h3⟩
theorem tripsI {W w : World} {o : Option Addr} {n c : Nat} {l : List Tr} (h : SlE (TrI W) 5 w o n c l) (hg : Gr W w) : TripsAt w o n c l := h.weak fun _ _ q => TrI.E q hg
theorem seenRT : SlT Try.prog 26 30 10 128 := ⟨Try.underlying26, by
  obtain ⟨i, hi, hz, hsi, hby⟩ := info_parts (show (Try.prog.info? 30).map (fun i => (i.zero, i.size, i.bytes)) = some (some (.agg zS.toArray), 10, 128) by kernel_rfl)
  exact ⟨i, _, hi, hz, hsi, hby, rfl⟩, by decide⟩
theorem tripRT : SlT Try.prog 22 28 5 56 := ⟨Try.underlying22, by
  obtain ⟨i, hi, hz, hsi, hby⟩ := info_parts (show (Try.prog.info? 28).map (fun i => (i.zero, i.size, i.bytes)) = some (some (.agg zT.toArray), 5, 56) by kernel_rfl)
  exact ⟨i, _, hi, hz, hsi, hby, rfl⟩, by decide⟩
/-- one thing seen in a block of its own, beside an older block -/
theorem seenI_one {W w3 : World} {s : Sn} {o1 : Option Addr} {n1 c1 : Nat} {T : TypeId} (hR : RowsAt W o1 n1 c1 s.rows) (hz : SnSz s) {r : Option Nat} (hr : ∀ g, r = some g → g < w3.heap.size) :
    SlE (SnI W) 10 (hideB (w3.alloc (.cells (snL s o1 n1 c1).toArray T)) r) (some ⟨w3.heap.size, 0, none⟩) 1 1 [s] := by
  refine SlE.one (by decide) (Nat.le_refl _) (by unfold maxLen; omega) rfl (snL_one _ _ _ _) ⟨o1, n1, c1, rfl, hR, hz⟩ fun j u hj => ?_
  refine hideB_cell.2 ⟨fun e => by have := hr _ e; omega, ?_⟩
  have := World.cell?_alloc_new w3 (snL s o1 n1 c1).toArray T j
  rw [Nat.zero_add, this]
  simpa using hj
theorem ownI_hide {W w : World} {base : Nat} {T : TypeId} {oa : Option Addr} {n cap : Nat} {l : List Sn} (h : OwnS (SnI W) 10 T w base oa n cap l) {r : Option Nat} (hr : ∀ g, r = some g → g < base) : SlE (SnI W) 10 (hideB w r) oa n cap l := by
  have hb := fun g hg => (h.lt g hg).1
  obtain ⟨h1, h2, h3, h4, b, off, h5, h6⟩ := h.sl (SnI_mono W)
  refine ⟨h1, h2, h3, h4, b, off, fun q => ⟨(h5 q).1, by rw [hideB_size]; exact (h5 q).2⟩, fun i x hi => ?_⟩
  obtain ⟨vs, e1, e2, e3, e4⟩ := h6 i x hi
  have hil : i < n := by have := (List.getElem?_eq_some_iff.1 hi).1; omega
  have hbb : base ≤ b := hb b (by rw [(h5 (by omega)).1]; rfl)
  have hne : r ≠ some b := fun e => by have := hr b e; omega
  exact ⟨vs, e1, e2, e3, fun j u hj => hideB_cell.2 ⟨hne, e4 j u hj⟩⟩
theorem ownI_store {W w : World} {base : Nat} {T : TypeId} {oa : Option Addr} {n cap : Nat} {l : List Sn} (h : OwnS (SnI W) 10 T w base oa n cap l) {b' j : Nat} (hb : b' < base) (u : Value) : OwnS (SnI W) 10 T (w.setCell ⟨b', j, none⟩ u) base oa n cap l := by
  have hlt := h.lt
  obtain ⟨hl, vss, h1, h2, h3, h5⟩ := h
  refine ⟨hl, vss, h1, h2, ownsRow_setCell_other h3 (a := ⟨b', j, none⟩) (fun q => ?_) u, h5⟩
  have := (hlt b' q).1; omega
theorem tripI_one {W w3 : World} {base : Nat} {t : Tr} {o1 : Option Addr} {n1 c1 : Nat} {T T2 : TypeId} (hO : OwnS (SnI W) 10 T2 w3 base o1 n1 c1 t.seen) (hz : TrSz t) {r : Option Nat} (hr : ∀ g, r = some g → g < base ∧ g < w3.heap.size) :
    SlE (TrI W) 5 (hideB (w3.alloc (.cells (trL t o1 n1 c1).toArray T)) r) (some ⟨w3.heap.size, 0, none⟩) 1 1 [t] := by
  have hm := hideB_gr (r := r) ((Gr.refl w3).alloc (.cells (trL t o1 n1 c1).toArray T))
  refine SlE.one (by decide) (Nat.le_refl _) (by unfold maxLen; omega) rfl (trL_one _ _ _ _) ⟨o1, n1, c1, rfl, (ownI_hide hO fun g hg => (hr g hg).1).ex (SnI_mono W) hm, hz⟩ fun j u hj => ?_
  refine hideB_cell.2 ⟨fun e => by have := (hr _ e).2; omega, ?_⟩
  have := World.cell?_alloc_new w3 (trL t o1 n1 c1).toArray T j
  rw [Nat.zero_add, this]
  simpa using hj
/-- rows stay where a number is written -/
theorem RowsAt.setI {w : World} {oa : Option Addr} {n cap : Nat} {l : List Rw} (h : RowsAt w oa n cap l) {b' j : Nat} {q : Int} (hc : w.cell? ⟨b', j, Option.none⟩ = some (.int .i64 q)) (u : Value) : RowsAt (w.setCell ⟨b', j, Option.none⟩ u) oa n cap l := by
  obtain ⟨h1, h2, h3, h4, ⟨b, off, h5, h6⟩, h7⟩ := h
  have hne : ∀ {x : Nat} {y : ByteArray}, w.cell? ⟨b, x, Option.none⟩ = some (.string y) → (w.setCell ⟨b', j, Option.none⟩ u).cell? ⟨b, x, Option.none⟩ = some (.string y) := fun {x y} q => by
    rw [World.cell?_setCell_other _ _ _ _ (fun e => by rw [e, q] at hc; simp at hc)]
    exact q
  exact ⟨h1, h2, h3, h4, ⟨b, off, fun q => ⟨(h5 q).1, by unfold World.setCell; simpa using (h5 q).2⟩, fun i hi => ⟨hne (h6 i hi).1, hne (h6 i hi).2⟩⟩, h7⟩

/-! Blocks of unlike types are unlike. -/
def TyAt (w : World) (b : Nat) (T : TypeId) : Prop := ∃ cs fz, w.heap[b]? = some (.cells cs T fz)
theorem TyAt.new (w : World) (vs : Array Value) (T : TypeId) {b : Nat} (hb : b = w.heap.size) : TyAt (w.alloc (.cells vs T)) b T := by
  subst hb
  exact ⟨vs, _, by show (w.heap.push _)[w.heap.size]? = _; rw [Array.getElem?_push_size]⟩
theorem TyAt.lt {w : World} {b : Nat} {T : TypeId} (h : TyAt w b T) : b < w.heap.size := by
  obtain ⟨cs, fz, e⟩ := h
  rcases Nat.lt_or_ge b w.heap.size with k | k
  · exact k
  · rw [Array.getElem?_eq_none k] at e; cases e
theorem TyAt.keep {w w' : World} {b : Nat} {T : TypeId} (h : TyAt w b T) (hg : Gr w w') : TyAt w' b T := by
  have hl := h.lt
  obtain ⟨cs, fz, e⟩ := h
  exact ⟨cs, fz, by rw [hg.block b hl]; exact e⟩
theorem TyAt.grown {w w' : World} {b : Nat} {T : TypeId} {r : Option Nat} (h : TyAt w b T) (hg : w.grownBy w' r) (hr : some b ≠ r) : TyAt w' b T := by
  have hl := h.lt
  obtain ⟨cs, fz, e⟩ := h
  exact ⟨cs, fz, by rw [hg.block b hl hr]; exact e⟩
theorem TyAt.set {w : World} {b : Nat} {T : TypeId} (h : TyAt w b T) (b' j : Nat) (u : Value) : TyAt (w.setCell ⟨b', j, none⟩ u) b T := by
  obtain ⟨cs, fz, e⟩ := h
  unfold TyAt World.setCell
  rw [Array.getElem?_modify]
  split
  · rename_i q
    rw [e]
    exact ⟨_, _, rfl⟩
  · exact ⟨cs, fz, e⟩
theorem TyAt.rows {w : World} {b : Nat} {T : TypeId} (h : TyAt w b T) (hT : T ≠ 35) {base : Nat} {oa : Option Addr} {n cap : Nat} {l : List Rw} (k : OwnAt w base oa n cap l) : Value.ownBlock (.slice oa n cap) ≠ some b := fun q => by
  obtain ⟨cs, fz, e⟩ := h
  rcases k.own.2 with ⟨e2, -⟩ | ⟨g, cp, cur, e2, -, e3, -⟩
  · simp only [Value.slice.injEq] at e2
    rw [e2.1] at q
    cases q
  · simp only [Value.slice.injEq] at e2
    rw [e2.1] at q
    simp [Value.ownBlock] at q
    subst q
    rw [e] at e3
    simp at e3
    exact hT e3.2.1
theorem TyAt.own {α : Type} {E : EP α} {k : Nat} {w : World} {base : Nat} {oa : Option Addr} {n cap : Nat} {l : List α} {T : TypeId} (h : OwnS E k T w base oa n cap l) {g : Nat} (hg : Value.ownBlock (.slice oa n cap) = some g) : TyAt w g T := by
  obtain ⟨hl, vss, h1, h2, ⟨h3, h4⟩, h5⟩ := h
  rcases h4 with ⟨e, -⟩ | ⟨g', cp, cur, e, hb, hcur, rest⟩
  · simp only [Value.slice.injEq] at e
    rw [e.1] at hg
    cases hg
  · simp only [Value.slice.injEq] at e
    rw [e.1] at hg
    simp [Value.ownBlock] at hg
    subst hg
    exact ⟨cur, _, hcur⟩
theorem OwnAt.grownN {w w' : World} {base : Nat} {oa : Option Addr} {n cap : Nat} {l : List Rw} (h : OwnAt w base oa n cap l) {r : Option Nat} (hg : w.grownBy w' r) (hr : ∀ g, r = some g → Value.ownBlock (.slice oa n cap) ≠ some g) : OwnAt w' base oa n cap l := by
  have key : ∀ a, oa = some a → a.block < w.heap.size → w'.heap[a.block]? = w.heap[a.block]? := fun a e hl => hg.block _ hl (fun q => hr a.block q.symm (by rw [e]; rfl))
  refine ⟨⟨h.own.1, ?_⟩, ?_⟩
  · rcases h.own.2 with e | ⟨g, cp, cur, e, hb, hcur, rest⟩
    · exact .inl e
    · have hl : g < w.heap.size := by
        rcases Nat.lt_or_ge g w.heap.size with k | k
        · exact k
        · rw [Array.getElem?_eq_none k] at hcur; cases hcur
      have e2 := e
      simp only [Value.slice.injEq] at e2
      exact .inr ⟨g, cp, cur, e, hb, by rw [key _ e2.1 hl]; exact hcur, rest⟩
  · obtain ⟨h1, h2, h3, h4, ⟨b, off, h5, h6⟩, h7⟩ := h.rows
    refine ⟨h1, h2, h3, h4, ⟨b, off, fun q => ⟨(h5 q).1, Nat.lt_of_lt_of_le (h5 q).2 hg.size⟩, fun i hi => ?_⟩, h7⟩
    obtain ⟨e1, e2⟩ := h5 (by omega)
    have e3 := key _ e1 e2
    exact ⟨by rw [World.cell?_of_block (w := w) (a := ⟨b, off + i * 2, Option.none⟩) e3]; exact (h6 i hi).1, by rw [World.cell?_of_block (w := w) (a := ⟨b, off + i * 2 + 1, Option.none⟩) e3]; exact (h6 i hi).2⟩
theorem OwnAt.setO {w : World} {base : Nat} {oa : Option Addr} {n cap : Nat} {l : List Rw} (h : OwnAt w base oa n cap l) {b' j : Nat} (hr : Value.ownBlock (.slice oa n cap) ≠ some b') (u : Value) : OwnAt (w.setCell ⟨b', j, none⟩ u) base oa n cap l :=
  ⟨ownsRow_setCell_other h.own (a := ⟨b', j, none⟩) hr u, h.rows.setS (fun a e q => hr (by rw [e]; show some a.block = _; rw [q])) u⟩
/-! What is small stays small. -/
def small (r : List Rw) : Prop := ∀ x ∈ r, x.val.size ≤ 100
theorem small_val {r : List Rw} (h : small r) {key : ByteArray} (hb : hasB key r = true) : (vAt r (place key r)).size ≤ 100 := by
  unfold hasB at hb
  simp only [decide_eq_true_eq] at hb
  unfold vAt
  rw [rAt_lt hb.1]
  exact h _ (List.getElem_mem _)
theorem small_wr {r : List Rw} (h : small r) {s : Sn} (hs : s.val.size ≤ 100) : small (wrS r s) := by
  unfold wrS
  split
  · split
    · unfold putL
      intro x hx
      rcases List.mem_append.1 hx with q | q
      · rcases List.mem_append.1 q with q | q
        · exact h x (List.mem_of_mem_take q)
        · obtain rfl := List.mem_singleton.1 q
          exact hs
      · exact h x (List.mem_of_mem_drop q)
    · exact h
  · split
    · exact fun x hx => h x ((drop_subS r s.key).subset hx)
    · exact h
theorem few_re {r : List Rw} (h : small r) {s : Sn} (hs : FewS s) : FewS (reS s r) := by
  unfold reS
  split
  · refine ⟨hs.key, ?_, (show (0 : Nat) ≤ 100 by omega), (show (0 : Nat) ≤ 100 by omega), (show (0 : Nat) ≤ 20 by omega)⟩
    dsimp only
    by_cases hb : hasB s.key r = true
    · rw [if_pos hb]; exact small_val h hb
    · rw [if_neg hb]; decide
  · exact hs
theorem few_sz {s : Sn} {v : Nat} (hs : FewS s v) (hv : v ≤ 1000) : SnSz s := ⟨by unfold maxLen; have := hs.key; omega, by unfold maxLen; have := hs.val; omega, by unfold maxLen; have := hs.low; omega, by unfold maxLen; have := hs.high; omega⟩
theorem re_kind2 {s : Sn} (h : s.kind = 2) (r : List Rw) : reS s r = ⟨2, s.key, if hasB s.key r = true then vAt r (place s.key r) else ⟨#[]⟩, hasB s.key r, ⟨#[]⟩, ⟨#[]⟩, false, 0, false, []⟩ := by unfold reS; rw [if_pos h]
theorem re_kindN {s : Sn} (h : s.kind ≠ 2) (r : List Rw) : reS s r = s := by unfold reS; rw [if_neg h]
theorem runS_keep {ss : List Sn} {j : Nat} {s : Sn} {now : List Rw} (h : ss[j]? = some s) (hk : keepS s = true) : runS (ss.drop j) now = reS s now :: runS (ss.drop (j + 1)) (wrS now (reS s now)) := by
  obtain ⟨h1, h2⟩ := List.getElem?_eq_some_iff.1 h
  rw [List.drop_eq_getElem_cons h1, h2]
  conv => lhs; unfold runS
  rw [if_pos hk]
theorem runS_skip {ss : List Sn} {j : Nat} {s : Sn} {now : List Rw} (h : ss[j]? = some s) (hk : keepS s = false) : runS (ss.drop j) now = runS (ss.drop (j + 1)) now := by
  obtain ⟨h1, h2⟩ := List.getElem?_eq_some_iff.1 h
  rw [List.drop_eq_getElem_cons h1, h2]
  conv => lhs; unfold runS
  rw [if_neg (by rw [hk]; decide)]
/-- where a run's trip stands, a thing seen further -/
structure InT (ss : List Sn) (R : List Rw) (j : Nat) (S : List Sn) (now : List Rw) : Prop where
  run : runS ss R = S ++ runS (ss.drop j) now
  nowe : now = wrL S R
  few : ∀ s ∈ S, FewS s
  len : S.length ≤ j
  sml : small now
  size : now.length ≤ R.length + j
theorem InT.start {ss : List Sn} {R : List Rw} (h : small R) : InT ss R 0 [] R := ⟨rfl, rfl, fun s h => (by cases h), Nat.le_refl _, h, Nat.le_refl _⟩
theorem InT.keep {ss : List Sn} {R : List Rw} {j : Nat} {S : List Sn} {now : List Rw} (h : InT ss R j S now) {s : Sn} (hs : ss[j]? = some s) (hk : keepS s = true) (hf : FewS s) : InT ss R (j + 1) (S ++ [reS s now]) (wrS now (reS s now)) := by
  have hfr := few_re h.sml hf
  refine ⟨?_, ?_, fun x hx => ?_, ?_, small_wr h.sml hfr.val, ?_⟩
  · rw [h.run, runS_keep hs hk]; simp
  · unfold wrL; rw [List.foldl_append]; show wrS now _ = wrS (wrL S R) _; rw [← h.nowe]
  · rcases List.mem_append.1 hx with q | q
    · exact h.few x q
    · obtain rfl := List.mem_singleton.1 q
      exact hfr
  · rw [List.length_append, List.length_singleton]; have := h.len; omega
  · have h1 := wrS_len now (reS s now)
    have h2 := h.size
    omega
theorem InT.skip {ss : List Sn} {R : List Rw} {j : Nat} {S : List Sn} {now : List Rw} (h : InT ss R j S now) {s : Sn} (hs : ss[j]? = some s) (hk : keepS s = false) : InT ss R (j + 1) S now :=
  ⟨by rw [h.run, runS_skip hs hk], h.nowe, h.few, by have := h.len; omega, h.sml, by have := h.size; omega⟩
theorem InT.stop {ss : List Sn} {R : List Rw} {j : Nat} {S : List Sn} {now : List Rw} (h : InT ss R j S now) (hj : ss.length ≤ j) : S = runS ss R ∧ now = wrL (runS ss R) R := by
  have := h.run
  rw [List.drop_of_length_le hj] at this
  rw [show runS [] now = [] from rfl, List.append_nil] at this
  exact ⟨this.symm, by rw [this]; exact h.nowe⟩
/-- where a run stands -/
structure InL (l : List Tr) (i : Nat) (L : List Tr) (n : Nat) (R : List Rw) : Prop where
  run : runL l 0 0 [] = L ++ runL (l.drop i) i n R
  len : L.length = i
  num : n ≤ i
  few : ∀ x ∈ L, x.seen.length ≤ 8 ∧ ∀ s ∈ x.seen, FewS s
  sml : small R
  size : R.length ≤ 8 * i
theorem InL.start (l : List Tr) : InL l 0 [] 0 [] := ⟨rfl, rfl, Nat.le_refl _, fun x h => (by cases h), fun x h => (by cases h), Nat.le_refl _⟩
theorem InL.next {l : List Tr} {i : Nat} {L : List Tr} {n : Nat} {R : List Rw} (h : InL l i L n R) {t : Tr} (ht : l[i]? = some t) {S : List Sn} {now : List Rw} (hT : InT t.seen R t.seen.length S now) (h8 : t.seen.length ≤ 8) :
    runT i n R t = ⟨2 * i, 2 * i + 1, n, if writesL S = true then (n : Int) + 1 else 0, S⟩ ∧ InL l (i + 1) (L ++ [runT i n R t]) (if writesL S = true then n + 1 else n) (if writesL S = true then now else R) := by
  obtain ⟨e1, e2⟩ := hT.stop (Nat.le_refl _)
  have hx : runT i n R t = ⟨2 * i, 2 * i + 1, n, if writesL S = true then (n : Int) + 1 else 0, S⟩ := by unfold runT; rw [← e1]
  refine ⟨hx, ?_⟩
  obtain ⟨h1, h2⟩ := List.getElem?_eq_some_iff.1 ht
  have hd : runL (l.drop i) i n R = runT i n R t :: runL (l.drop (i + 1)) (i + 1) (if writesL S = true then n + 1 else n) (if writesL S = true then now else R) := by
    rw [List.drop_eq_getElem_cons h1, h2]
    show runT i n R t :: runL (l.drop (i + 1)) (i + 1) (nextN n (runT i n R t)) (nextR R (runT i n R t)) = _
    have ex : (runT i n R t).seen = S := by rw [hx]
    unfold nextN nextR
    rw [ex, e2, ← e1]
  refine ⟨by rw [h.run, hd]; simp, by rw [List.length_append, List.length_singleton, h.len], by split <;> (have := h.num; omega), fun x hx2 => ?_, ?_, ?_⟩
  · rcases List.mem_append.1 hx2 with q | q
    · exact h.few x q
    · obtain rfl := List.mem_singleton.1 q
      rw [hx]
      exact ⟨by have := hT.len; show S.length ≤ 8; omega, hT.few⟩
  · split
    · exact hT.sml
    · exact h.sml
  · have h3 := h.size
    split
    · have := hT.size; omega
    · omega
theorem InL.stop {l : List Tr} {i : Nat} {L : List Tr} {n : Nat} {R : List Rw} (h : InL l i L n R) (hi : l.length ≤ i) : L = runL l 0 0 [] := by
  have := h.run
  rw [List.drop_of_length_le hi, show runL [] i n R = [] from rfl, List.append_nil] at this
  exact this.symm
theorem InL.fewL {l : List Tr} {i : Nat} {L : List Tr} {n : Nat} {R : List Rw} (h : InL l i L n R) (hi : i ≤ 8) : FewL L := ⟨by rw [h.len]; exact hi, fun k x hk => by
  obtain ⟨h1, h2⟩ := h.few x (List.mem_of_getElem? hk)
  exact ⟨h1, fun j s hj => h2 s (List.mem_of_getElem? hj)⟩⟩
theorem FewS.up {s : Sn} {v v' : Nat} (h : FewS s v) (hv : v ≤ v') : FewS s v' := ⟨h.key, Nat.le_trans h.val hv, h.low, h.high, h.rows⟩
theorem few_long {L : List Tr} (h : FewL L) {k j : Nat} {x : Tr} {s : Sn} (hx : L[k]? = some x) (hs : x.seen[j]? = some s) : FewL (L.set k (longT x j s)) 101 := by
  refine ⟨by rw [List.length_set]; exact h.1, fun i y hi => ?_⟩
  by_cases e : i = k
  · subst e
    rw [List.getElem?_set_self (List.getElem?_eq_some_iff.1 hx).1] at hi
    obtain rfl := Option.some.inj hi
    refine ⟨by show (x.seen.set j _).length ≤ 8; rw [List.length_set]; exact (h.2 i x hx).1, fun q s' hq => ?_⟩
    by_cases e2 : q = j
    · subst e2
      have hq : (x.seen.set q (longS s))[q]? = some s' := hq
      rw [List.getElem?_set_self (List.getElem?_eq_some_iff.1 hs).1] at hq
      obtain rfl := Option.some.inj hq
      have hf := (h.2 i x hx).2 q s hs
      refine ⟨hf.key, ?_, hf.low, hf.high, hf.rows⟩
      show (s.val ++ X1).size ≤ 101
      rw [ByteArray.size_append, show X1.size = 1 from rfl]
      have := hf.val
      omega
    · have hq : (x.seen.set j (longS s))[q]? = some s' := hq
      rw [List.getElem?_set_ne (fun z => e2 z.symm)] at hq
      exact ((h.2 i x hx).2 q s' hq).up (by decide)
  · rw [List.getElem?_set_ne (fun z => e z.symm)] at hi
    exact ⟨(h.2 i y hi).1, fun q s' hq => ((h.2 i y hi).2 q s' hq).up (by decide)⟩
/-! Does a trip write? -/
theorem writes_take {ss : List Sn} {k : Nat} {s : Sn} (h : ss[k]? = some s) : writesL (ss.take (k + 1)) = (writesL (ss.take k) || (decide (s.kind = 3) || decide (s.kind = 4))) := by
  obtain ⟨h1, h2⟩ := List.getElem?_eq_some_iff.1 h
  rw [List.take_succ_eq_append_getElem h1, h2]
  unfold writesL
  rw [List.any_append]
  simp
theorem writes_yes {ss : List Sn} {k : Nat} {s : Sn} (h : ss[k]? = some s) (hk : s.kind = 3 ∨ s.kind = 4) : writesL ss = true := by
  unfold writesL
  rw [List.any_eq_true]
  exact ⟨s, List.mem_of_getElem? h, by rcases hk with q | q <;> simp [q]⟩
set_option maxRecDepth 100000 in
set_option maxHeartbeats 4000000 in
theorem writes17_any (oa : Option Addr) (n cap : Nat) (ss : List Sn) (w : World) (h : SeenAt w oa n cap ss) :
    Calls Try.prog 10 #[.slice oa n cap] w fun e w' => e = .returned (.bool (writesL ss)) ∧ Gr w w' := by
  have Hl := Lib.hid h.len
  have hcl := h.cap_le
  have hcm := h.cap_max
  unfold maxLen at hcm
  obtain ⟨b, off, ho, hc⟩ := h.get
  have Ho := Lib.hid ho
  have Hc := Lib.hid hc
  clear ho hc h
  go_enter Try.func10, Try.ntmps10
  go_wp2_with fail
  go_loopw [3] (fun s3 wr => ∃ (k : Nat), k ≤ n ∧ s3 = .int .i64 k ∧ Hid (writesL (ss.take k) = false) ∧ Gr w wr) (fun s3 _ => n - (intOf s3).toNat)
  case atStart => exact ⟨0, Nat.zero_le _, rfl, Lib.hid rfl, Gr.refl _⟩
  case round =>
    obtain ⟨k, hk, rfl, hW, hg⟩ := hrel
    by_cases hlt : k < n
    · have hy : ss[k]? = some (ss[k]'(by have := Hl.out; omega)) := List.getElem?_eq_getElem _
      generalize (ss[k]'(by have := Hl.out; omega)) = s at hy
      obtain ⟨p1, m1, c1, R0⟩ := Hc.out k s hy
      have a0 := (R0.keep hg).cell 0 rfl
      simp only [Nat.add_zero] at a0
      have hI := run_seen cap Ho.out hlt
      have HT := Lib.hid (writes_take hy)
      have HY := Lib.hid (@writes_yes ss k s hy)
      clear R0 hy
      by_cases h3 : s.kind = 3
      · have E := Lib.hid (HY.out (.inl h3))
        rw [h3] at a0
        clear h3
        go_wp2_with fail
        go_ret
        exact ⟨by first | (rw [E.out]; rfl) | rw [E.out], hg⟩
      · by_cases h4 : s.kind = 4
        · have E := Lib.hid (HY.out (.inr h4))
          rw [h4] at a0
          clear h3 h4
          go_wp2_with fail
          go_ret
          exact ⟨by first | (rw [E.out]; rfl) | rw [E.out], hg⟩
        · have E := Lib.hid (show writesL (ss.take (k + 1)) = false by rw [HT.out, hW.out, decide_eq_false h3, decide_eq_false h4]; rfl)
          have e3 : (s.kind == 3) = false := by rw [beq_eq_false_iff_ne]; exact h3
          have e4 : (s.kind == 4) = false := by rw [beq_eq_false_iff_ne]; exact h4
          clear h3 h4
          go_wp2_with fail
          go_roundw
          case rel => exact ⟨k + 1, by omega, by go_num, E, hg⟩
          case measure => simp [intOf]; omega
    · obtain rfl : k = n := by omega
      have hE := hW.out
      rw [List.take_of_length_le (by rw [Hl.out]; exact Nat.le_refl _)] at hE
      have E := Lib.hid hE
      clear hE hW
      go_wp2_with fail
      go_ret
      exact ⟨by first | (rw [E.out]; rfl) | rw [E.out], hg⟩
end Go.Proofs.Ytopomocbjlikjaa
