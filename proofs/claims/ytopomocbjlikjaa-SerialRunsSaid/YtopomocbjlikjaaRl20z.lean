import Derived.Test.YtopomocbjlikjaaAl20z
import Derived.Test.YtopomocbjlikjaaSt20z
namespace Go.Proofs.Ytopomocbjlikjaa
set_option linter.unusedVariables false
set_option linter.unusedSimpArgs false
open Go.BigFrame Go.RowKit Go.WideShapes

/-! Trips as the program has them, each of whose things seen may be written. -/
/-- a trip, where what it saw lies, and between which blocks -/
structure Gv where
  t : Tr
  p : Option Addr
  c : Nat
  lo : Nat
  hi : Nat
/-- what was seen, its rows between blocks, and not in one -/
def SnR (lo hi : Nat) (q : Option Addr) : EP Sn := fun w s vs => ∃ o n c, vs = snL s o n c ∧ RowsAt w o n c s.rows ∧ SnSz s ∧ (0 < n → ∀ a, o = some a → lo ≤ a.block ∧ a.block < hi ∧ ∀ b, q = some b → a.block ≠ b.block)
theorem SnR_mono (lo hi : Nat) (q : Option Addr) : Mono (SnR lo hi q) := fun w w' s vs hg ⟨o, n, c, e, h1, h2, h3⟩ => ⟨o, n, c, e, h1.exS hg, h2, h3⟩
theorem SnR_E {lo hi : Nat} {q : Option Addr} {w : World} {s : Sn} {vs : List Value} (h : SnR lo hi q w s vs) : SnE w s vs := by
  obtain ⟨o, n, c, e, h1, h2, h3⟩ := h
  exact ⟨o, n, c, e, h1, h2⟩
def GvE : EP Gv := fun w x vs => vs = trL x.t x.p x.t.seen.length x.c ∧ SlE (SnR x.lo x.hi x.p) 10 w x.p x.t.seen.length x.c x.t.seen ∧ TrSz x.t ∧ (0 < x.t.seen.length → ∀ a, x.p = some a → x.lo ≤ a.block ∧ a.block < x.hi)
theorem GvE_mono : Mono GvE := fun w w' x vs hg ⟨h1, h2, h3⟩ => ⟨h1, h2.ex (SnR_mono _ _ _) hg, h3⟩
/-- the cells of what was seen may be written -/
def GvF (w : World) (x : Gv) : Prop := 0 < x.t.seen.length → ∀ a, x.p = some a → ∀ j, w.frozen? ⟨a.block, j, none⟩ = false
def apart (L : List Gv) : Prop := ∀ (i j : Nat) (x y : Gv), i < j → L[i]? = some x → L[j]? = some y → x.hi ≤ y.lo
theorem SlE.first {α : Type} {E : EP α} {k : Nat} {w : World} {oa : Option Addr} {n cap : Nat} {l : List α} (h : SlE E k w oa n cap l) (hk : 0 < k) (hn : 0 < n) : ∃ b off v, oa = some ⟨b, off, Option.none⟩ ∧ w.cell? ⟨b, off, Option.none⟩ = some v := by
  obtain ⟨h1, h2, h3, h4, b, off, h5, h6⟩ := h
  have hl : 0 < l.length := by omega
  obtain ⟨vs, e1, e2, e3, e4⟩ := h6 0 _ (List.getElem?_eq_getElem hl)
  have := e4 0 _ (List.getElem?_eq_getElem (by omega))
  exact ⟨b, off, _, (h5 hn).1, by simpa using this⟩
theorem RowsAt.first {w : World} {o : Option Addr} {n c : Nat} {l : List Rw} (h : RowsAt w o n c l) (hn : 0 < n) : ∃ b off v, o = some ⟨b, off, Option.none⟩ ∧ w.cell? ⟨b, off, Option.none⟩ = some v := by
  obtain ⟨h1, h2, h3, h4, ⟨b, off, h5, h6⟩, h7⟩ := h
  have := (h6 0 hn).1
  exact ⟨b, off, _, (h5 hn).1, by simpa using this⟩
theorem GvF.keep {w w' : World} {x : Gv} {vs : List Value} (h : GvF w x) (hx : GvE w x vs) (hg : Gr w w') : GvF w' x := fun hl a ha j => by
  obtain ⟨b, off, v, e, hc⟩ := hx.2.1.first (by decide) hl
  rw [ha] at e
  cases e
  rw [Below.frozen hg (cell_lt hc)]
  exact h hl _ ha j
theorem GvF.grown {w w' : World} {x : Gv} {vs : List Value} {r : Option Nat} (h : GvF w x) (hx : GvE (hideB w r) x vs) (hg : w.grownBy w' r) : GvF w' x := fun hl a ha j => by
  obtain ⟨b, off, v, e, hc⟩ := hx.2.1.first (by decide) hl
  rw [ha] at e
  cases e
  obtain ⟨h1, h2⟩ := hideB_cell.1 hc
  rw [World.frozen?_of_block (w := w) (hg.block b (cell_lt h2) (fun q => h1 q.symm))]
  exact h hl _ ha j
/-- what given gives, beside an older block -/
theorem ownS_gv {w : World} {B : Nat} {T : TypeId} {oa : Option Addr} {n cap : Nat} {l : List Sn} (h : OwnS (SnB B) 10 T w B oa n cap l) {r : Option Nat} (hr : ∀ g, r = some g → g < B) : SlE (SnR B w.heap.size oa) 10 (hideB w r) oa n cap l ∧ (0 < n → ∀ a, oa = some a → B ≤ a.block ∧ a.block < w.heap.size) := by
  have hb := h.lt
  have hblk : ∀ a, oa = some a → Value.ownBlock (.slice oa n cap) = some a.block := fun a e => by rw [e]; rfl
  refine ⟨?_, fun hn a ha => hb _ (hblk a ha)⟩
  obtain ⟨h1, h2, h3, h4, b, off, h5, h6⟩ := h.beside
  refine ⟨h1, h2, h3, h4, b, off, fun q => ⟨(h5 q).1, by rw [hideB_size]; exact (h5 q).2⟩, fun i x hi => ?_⟩
  obtain ⟨vs, e1, e2, ⟨o, m, c, k1, k2, k3, k4⟩, e4⟩ := h6 i x hi
  have hil : i < n := by have := (List.getElem?_eq_some_iff.1 hi).1; omega
  have hob := hblk _ (h5 (by omega)).1
  have hbb : B ≤ b := (hb b hob).1
  have hne : r ≠ some b := fun e => by have := hr b e; omega
  refine ⟨vs, e1, e2, ⟨o, m, c, k1, ?_, k3, fun hm a ha => ?_⟩, fun j u hj => hideB_cell.2 ⟨hne, e4 j u hj⟩⟩
  · obtain ⟨g1, g2, g3, g4, ⟨b2, off2, g5, g6⟩, g7⟩ := k2
    refine ⟨g1, g2, g3, g4, ⟨b2, off2, fun q => ⟨(g5 q).1, by rw [hideB_size]; have := (g5 q).2; rwa [hideB_size] at this⟩, fun i hi => ?_⟩, g7⟩
    have hne2 : r ≠ some b2 := fun e => by have h1 := hr b2 e; have h2 := k4 _ (g5 (by omega)).1; dsimp only at h2; omega
    exact ⟨hideB_cell.2 ⟨hne2, (hideB_cell.1 (g6 i hi).1).2⟩, hideB_cell.2 ⟨hne2, (hideB_cell.1 (g6 i hi).2).2⟩⟩
  · obtain ⟨b2, off2, v, e, hc⟩ := k2.first hm
    rw [ha] at e
    cases e
    obtain ⟨q1, q2⟩ := hideB_cell.1 hc
    refine ⟨k4 _ ha, cell_lt q2, fun b' e' => ?_⟩
    rw [hblk b' e'] at q1
    exact fun e => q1 (by rw [show b2 = b'.block from e])
theorem ownS_free {w : World} {B base : Nat} {T : TypeId} {oa : Option Addr} {n cap : Nat} {l : List Sn} (h : OwnS (SnB B) 10 T w base oa n cap l) : ∀ a, oa = some a → ∀ j, w.frozen? ⟨a.block, j, none⟩ = false := fun a ha j => by
  obtain ⟨hl, vss, h1, h2, ⟨h3, h4⟩, h5⟩ := h
  rcases h4 with ⟨e, -⟩ | ⟨g, cp, cur, e, hb, hcur, rest⟩
  · simp only [Value.slice.injEq] at e
    rw [ha] at e
    cases e.1
  · simp only [Value.slice.injEq] at e
    rw [ha] at e
    cases e.1
    simp [World.frozen?, hcur]
theorem apart_snoc {L : List Gv} {y : Gv} (h : apart L) (hy : ∀ x ∈ L, x.hi ≤ y.lo) : apart (L ++ [y]) := by
  intro i j x z hij hi hj
  have h1 : j < (L ++ [y]).length := (List.getElem?_eq_some_iff.1 hj).1
  rw [List.length_append, List.length_singleton] at h1
  have hil : i < L.length := by omega
  rw [List.getElem?_append_left hil] at hi
  rcases Nat.lt_or_ge j L.length with k | k
  · rw [List.getElem?_append_left k] at hj
    exact h i j x z hij hi hj
  · obtain rfl : j = L.length := by omega
    rw [List.getElem?_append_right (Nat.le_refl _)] at hj
    simp at hj
    subst hj
    exact hy x (List.mem_of_getElem? hi)
theorem gv_one {w3 : World} {B : Nat} {t : Tr} {o1 : Option Addr} {n1 c1 : Nat} {T T2 : TypeId} (hO : OwnS (SnB B) 10 T2 w3 B o1 n1 c1 t.seen) (hz : TrSz t) (hb3 : B ≤ w3.heap.size) {r : Option Nat} (hr : ∀ g, r = some g → g < B) :
    SlE GvE 5 (hideB (w3.alloc (.cells (trL t o1 n1 c1).toArray T)) r) (some ⟨w3.heap.size, 0, none⟩) 1 1 [⟨t, o1, c1, B, w3.heap.size⟩] := by
  have hl := hO.len
  subst hl
  have hm := hideB_gr (r := r) ((Gr.refl w3).alloc (.cells (trL t o1 t.seen.length c1).toArray T))
  have hq := ownS_gv hO hr
  refine SlE.one (by decide) (Nat.le_refl _) (by unfold maxLen; omega) rfl (trL_one _ _ _ _) ⟨rfl, hq.1.ex (SnR_mono _ _ _) hm, hz, hq.2⟩ fun j u hj => ?_
  refine hideB_cell.2 ⟨fun e => by have := hr _ e; omega, ?_⟩
  have := World.cell?_alloc_new w3 (trL t o1 t.seen.length c1).toArray T j
  rw [Nat.zero_add, this]
  simpa using hj
theorem gvf_one {w3 w4 : World} {B : Nat} {t : Tr} {o1 : Option Addr} {n1 c1 : Nat} {T2 : TypeId} (hO : OwnS (SnB B) 10 T2 w3 B o1 n1 c1 t.seen) (hi : Nat) (hg : Gr w3 w4) : GvF w4 ⟨t, o1, c1, B, hi⟩ := fun _ a ha j => by
  have h1 := (hO.lt a.block (by rw [show o1 = some a from ha]; rfl)).2
  rw [Below.frozen hg (p := ⟨a.block, j, none⟩) h1]
  exact ownS_free hO a ha j
/-- the elements beside the list's own block -/
theorem gv_beside {w : World} {base : Nat} {T : TypeId} {oa : Option Addr} {n cap : Nat} {L : List Gv} (h : OwnS GvE 5 T w base oa n cap L) : ∀ x ∈ L, ∃ vs, GvE (hideB w (Value.ownBlock (.slice oa n cap))) x vs := fun x hx => by
  obtain ⟨i, hi, rfl⟩ := List.mem_iff_getElem.1 hx
  obtain ⟨h1, h2, h3, h4, b, off, h5, h6⟩ := h.beside
  obtain ⟨vs, e1, e2, e3, e4⟩ := h6 i _ (List.getElem?_eq_getElem hi)
  exact ⟨vs, e3⟩
theorem gvf_keep {w w' : World} {base : Nat} {T : TypeId} {oa : Option Addr} {n cap : Nat} {L : List Gv} (h : OwnS GvE 5 T w base oa n cap L) (hF : ∀ x ∈ L, GvF w x) (hg : Gr w w') : ∀ x ∈ L, GvF w' x := fun x hx => by
  obtain ⟨vs, hv⟩ := gv_beside h x hx
  exact (hF x hx).keep (GvE_mono _ _ _ _ (hideB_ex _ _) hv) hg
theorem gvf_grown {w w' : World} {base : Nat} {T : TypeId} {oa : Option Addr} {n cap : Nat} {L : List Gv} (h : OwnS GvE 5 T w base oa n cap L) (hF : ∀ x ∈ L, GvF w x) (hg : w.grownBy w' (Value.ownBlock (.slice oa n cap))) : ∀ x ∈ L, GvF w' x := fun x hx => by
  obtain ⟨vs, hv⟩ := gv_beside h x hx
  exact (hF x hx).grown hv hg
theorem gvf_new {w w' : World} {oa : Option Addr} {n cap : Nat} {y : Gv} {ob : Option Addr} {m cap2 : Nat} (h : SlE GvE 5 (hideB w (Value.ownBlock (.slice oa n cap))) ob m cap2 [y]) (hF : GvF w y) (hg : w.grownBy w' (Value.ownBlock (.slice oa n cap))) : GvF w' y := by
  obtain ⟨h1, h2, h3, h4, b, off, h5, h6⟩ := h
  obtain ⟨vs, e1, e2, e3, e4⟩ := h6 0 y rfl
  exact hF.grown e3 hg
set_option maxRecDepth 100000 in
set_option maxHeartbeats 20000000 in
theorem allOwn_any (oa : Option Addr) (n cap : Nat) (l : List Tr) (w : World) (h : TripsAt w oa n cap l) {v : Nat} (hf : FewL l v) :
    Calls Try.prog 12 #[.slice oa n cap] w fun e w' => ∃ o c L, e = .returned (.slice o n c) ∧ L.map Gv.t = l ∧ OwnS GvE 5 46 w' w.heap.size o n c L ∧ (∀ x ∈ L, GvF w' x) ∧ apart L ∧ (∀ x ∈ L, w.heap.size ≤ x.lo) ∧ Gr w w' := by
  have Hl := Lib.hid h.len
  have Hf := Lib.hid hf
  have hn : n ≤ 8 := by have h1 := hf.1; have h2 := h.len; omega
  have hcl := h.cap_le
  have hcm := h.cap_max
  unfold maxLen at hcm
  obtain ⟨b, off, ho, hc⟩ := h.get
  have Ho := Lib.hid ho
  have Hc := Lib.hid hc
  clear ho hc h hf
  go_enter Try.func12, Try.ntmps12
  go_wp2_with fail
  go_loopw [3, 8] (fun s3 s8 wr => ∃ (k : Nat) (o : Option Addr) (c : Nat) (L : List Gv), k ≤ n ∧ s8 = .int .i64 k ∧ s3 = .slice o k c ∧ Hid (L.map Gv.t = l.take k) ∧ Hid (OwnS GvE 5 46 wr w.heap.size o k c L) ∧ Hid (∀ x ∈ L, GvF wr x) ∧ Hid (∀ x ∈ L, x.hi ≤ wr.heap.size) ∧ Hid (apart L) ∧ Hid (∀ x ∈ L, w.heap.size ≤ x.lo) ∧ Gr w wr) (fun _ s8 _ => n - (intOf s8).toNat)
  case atStart => exact ⟨0, none, 0, [], Nat.zero_le _, rfl, rfl, Lib.hid rfl, Lib.hid (OwnS.nil _ _ _ _ _), Lib.hid (fun x h => by cases h), Lib.hid (fun x h => by cases h), Lib.hid (fun i j x y _ h => by cases h), Lib.hid (fun x h => by cases h), Gr.refl _⟩
  case round =>
    obtain ⟨k, o, c, L, hk, rfl, rfl, hM, hO, hF, hI0, hA, hLo, hg⟩ := hrel
    by_cases hlt : k < n
    · have hy : l[k]? = some (l[k]'(by have := Hl.out; omega)) := List.getElem?_eq_getElem _
      generalize (l[k]'(by have := Hl.out; omega)) = t at hy
      obtain ⟨p1, m1, c1, R0⟩ := Hc.out k t hy
      have R1 := R0.keep hg
      have hI := run_trip cap Ho.out hlt
      have hFT := Hf.out.2 k t hy
      have Hy := Lib.hid hy
      have Z := (Bx.new wr zT.toArray 28 rfl).of (us := zT) (by simp)
      clear hy R0
      go_upto_region 5 with (first | (refine wpList_load_mid rfl 28 _ rfl _ _ rfl _ _ (R1).rng Try.underlying28 rfl (by kernel_rfl) ?_) | ((with_reducible refine wpList_store_box (ty := 28) (Z) ((trL t p1 m1 c1)) ?_ ?_ ?_ ?_ ?_ ?_); (focus (exact rfl)); (focus (exact ⟨_, _, rfl, rfl, rfl⟩)); (focus (exact rfl)); (focus kernel_rfl); (focus kernel_rfl)))
      have B5 := Z.setAll (us := trL t p1 m1 c1) rfl
      have hg5 : Gr wr ((wr.alloc (.cells zT.toArray 28)).setCells wr.heap.size 0 (trL t p1 m1 c1)) := ((Gr.refl wr).alloc _).setCells (Nat.le_refl _) _ _
      have R2 := R1.keep hg5
      have HG := Lib.hid (given20_any t p1 m1 c1 _ R2.seen (by have h1 := R2.seen.len; have h2 := hFT.1; omega) (fun i s hs => by have := (hFT.2 i s hs).rows; omega))
      have HZ := Lib.hid R2.size
      have hO2 := Lib.hid (hO.out.keep GvE_mono hg5)
      have HF5 := Lib.hid (gvf_keep hO.out hF.out hg5)
      have HI5 := Lib.hid fun x (hx : x ∈ L) => Nat.le_trans (hI0.out x hx) hg5.le
      have hgx := hg.trans hg5
      have hlt5 := Lib.hid hO2.out.lt
      clear hI R1 R2 Z hg hg5 hO hFT hI0 hF
      generalize (wr.alloc (.cells zT.toArray 28)).setCells wr.heap.size 0 (trL t p1 m1 c1) = w5 at *
      generalize wr.heap.size = b5 at *
      go_wp2_with (first | ((with_reducible refine wpList_load_box (ty := 28) (B5) ?_ ?_ Try.underlying28 ?_ ?_ ?_); (focus (exact rfl)); (focus (exact ⟨_, rfl, rfl⟩)); (focus (exact rfl)); (focus kernel_rfl)) | (go_at_call 22; (with_reducible refine HG.out.mono ?_); rintro e w3 ⟨p1, d1, rfl, hO3, hg3⟩; have hO4 := hO2.out.keep GvE_mono (hg3.trans ((Gr.refl _).alloc (.cells (trL t p1 m1 d1).toArray 46))); have hsrc := gv_one (T := 46) hO3 HZ.out hg3.le (r := Value.ownBlock (.slice o k c)) (fun g hg => (hlt5.out g hg).2); (have hgA := (Gr.refl w3).alloc (.cells (trL t p1 m1 d1).toArray 46)); (have HFa := Lib.hid (gvf_keep (hO2.out.keep GvE_mono hg3) (gvf_keep hO2.out HF5.out hg3) hgA)); (have HFb := Lib.hid (gvf_one hO3 w3.heap.size hgA)); have HO4 := Lib.hid hO4; have Hsrc := Lib.hid hsrc; have HO3 := Lib.hid hO3; clear hO4 hsrc hO3) | (at_builtin; refine wpList_app GvE_mono tripT rfl _ _ rfl (base := w.heap.size) ((hgx.trans hg3).alloc _).le rfl HO4.out rfl Hsrc.out (by unfold maxLen; omega) (by omega) ?_; intro oc k3 w4 ho4 hb4; (have hg4 : Gr w w4 := HO4.out.gr hb4 ((hgx.trans hg3).alloc _) (Nat.le_refl _)); (have HF6 := Lib.hid (gvf_grown HO4.out HFa.out hb4)); (have HF7 := Lib.hid (gvf_new Hsrc.out HFb.out hb4)); (have hsz4 : w3.heap.size ≤ w4.heap.size := Nat.le_trans hgA.le hb4.size); have HO5 := Lib.hid ho4; clear ho4 hb4))
      have HI3 := Lib.hid fun x (hx : x ∈ L) => Nat.le_trans (HI5.out x hx) hg3.le
      go_roundw
      case rel =>
        refine ⟨k + 1, oc, k3, _, by omega, by go_num, rfl, Lib.hid ?_, HO5, Lib.hid fun x hx => ?_, Lib.hid fun x hx => ?_, Lib.hid (apart_snoc hA.out fun x hx => HI5.out x hx), Lib.hid fun x hx => ?_, hg4⟩
        · rw [List.map_append, hM.out, List.take_add_one, Hy.out]; rfl
        · rcases List.mem_append.1 hx with q | q
          · exact HF6.out x q
          · obtain rfl := List.mem_singleton.1 q
            exact HF7.out
        · rcases List.mem_append.1 hx with q | q
          · exact Nat.le_trans (HI3.out x q) hsz4
          · obtain rfl := List.mem_singleton.1 q
            exact hsz4
        · rcases List.mem_append.1 hx with q | q
          · exact hLo.out x q
          · obtain rfl := List.mem_singleton.1 q
            exact hgx.le
      case measure => simp [intOf]; omega
    · obtain rfl : k = n := by omega
      have hM2 := hM.out
      rw [List.take_of_length_le (by rw [Hl.out]; exact Nat.le_refl _)] at hM2
      have HM := Lib.hid hM2
      clear hM2 hM
      go_wp2_with fail
      go_ret
      exact ⟨o, c, L, rfl, HM.out, hO.out, hF.out, hA.out, hLo.out, hg⟩
/-! One thing seen is written anew. -/
theorem ex_setCells (w : World) (g o : Nat) (us : List Value) : Ex (hideB w (some g)) (w.setCells g o us) := by
  refine ⟨fun b x v h => ?_, ?_⟩
  · obtain ⟨h1, h2⟩ := hideB_cell.1 h
    rw [World.cell?_setCells_out g us o w ⟨b, x, none⟩ (fun e _ => absurd (show some g = some b by rw [show b = g from e]) h1)]
    exact h2
  · rw [hideB_size]
    have : ∀ (us : List Value) (o : Nat) (w : World), (w.setCells g o us).heap.size = w.heap.size := by
      intro us
      induction us with
      | nil => intro o w; rfl
      | cons u us ih => intro o w; rw [World.setCells, ih]; unfold World.setCell; simp
    rw [this]; exact Nat.le_refl _
/-- rows beside a block -/
theorem RowsAt.hideN {w : World} {o : Option Addr} {n c : Nat} {l : List Rw} (h : RowsAt w o n c l) {g : Nat} (hg : 0 < n → ∀ a, o = some a → a.block ≠ g) : RowsAt (hideB w (some g)) o n c l := by
  obtain ⟨h1, h2, h3, h4, ⟨b, off, h5, h6⟩, h7⟩ := h
  refine ⟨h1, h2, h3, h4, ⟨b, off, fun q => ⟨(h5 q).1, by rw [hideB_size]; exact (h5 q).2⟩, fun i hi => ?_⟩, h7⟩
  have hne : some g ≠ some b := fun e => hg (by omega) _ (h5 (by omega)).1 (by simpa using e.symm)
  exact ⟨hideB_cell.2 ⟨hne, (h6 i hi).1⟩, hideB_cell.2 ⟨hne, (h6 i hi).2⟩⟩
theorem long_store {w : World} {base : Nat} {T : TypeId} {o : Option Addr} {n c : Nat} {L : List Gv} (hO : OwnS GvE 5 T w base o n c L) (hF : ∀ x ∈ L, GvF w x) (hA : apart L) {k : Nat} {x : Gv} (hx : L[k]? = some x) {j : Nat} {s : Sn} (hs : x.t.seen[j]? = some s) :
    ∃ bT off g og o3 n3 c3, o = some ⟨bT, off, none⟩ ∧ x.p = some ⟨g, og, none⟩ ∧ x.t.seen.length ≤ x.c ∧ x.c ≤ maxLen ∧ w.cell? ⟨bT, off + k * 5 + 4, none⟩ = some (.slice x.p x.t.seen.length x.c) ∧ w.rangeAt g (og + j * 10) (snL s o3 n3 c3) ∧ w.there g (og + j * 10) 10 ∧ RowsAt w o3 n3 c3 s.rows ∧ SnSz s ∧
      (∀ (i : Nat) (s1 : Sn), x.t.seen[i]? = some s1 → ∃ o1 n1 c1, w.rangeAt g (og + i * 10) (snL s1 o1 n1 c1) ∧ RowsAt w o1 n1 c1 s1.rows ∧ SnSz s1) ∧
      bT ≠ g ∧ g < w.heap.size ∧ x.lo ≤ g ∧ ∀ W, Gr w W → W.there g (og + j * 10) 10 ∧ ∀ s' : Sn, s'.rows = s.rows → SnSz s' → TripsAt (W.setCells g (og + j * 10) (snL s' o3 n3 c3)) o n c ((L.map Gv.t).set k { x.t with seen := x.t.seen.set j s' }) := by
  obtain ⟨l1, l2, l3, l4, bT, off, l5, l6⟩ := hO.beside
  have hkl : k < L.length := (List.getElem?_eq_some_iff.1 hx).1
  have hjl : j < x.t.seen.length := (List.getElem?_eq_some_iff.1 hs).1
  obtain ⟨vs, e1, e2, ⟨rfl, eS, eZ, eB⟩, e4⟩ := l6 k x hx
  have ho := (l5 (by omega)).1
  have hown : Value.ownBlock (.slice o n c) = some bT := by rw [ho]; rfl
  rw [hown] at eS
  obtain ⟨m1, m2, m3, m4, g, og, m5, m6⟩ := eS
  have hp := (m5 (by omega)).1
  have hgl := eB (by omega) _ hp
  dsimp only at hgl
  -- the block of what was seen is not that of the trips
  obtain ⟨v0, a1, a2, ⟨o3, n3, c3, rfl, aR, aZ, aB⟩, a4⟩ := m6 j s hs
  have hgT : bT ≠ g := fun e => by
    have := (hideB_cell.1 (a4 0 _ rfl)).1
    exact this (by rw [e])
  have hRange : w.rangeAt g (og + j * 10) (snL s o3 n3 c3) := fun i u hu => (hideB_cell.1 (a4 i u hu)).2
  have hThere : w.there g (og + j * 10) 10 := fun i hi => ⟨hRange.isSome i (by show i < 10; exact hi), hF x (List.mem_of_getElem? hx) (by omega) _ hp _⟩
  have hR3 : RowsAt w o3 n3 c3 s.rows := aR.exS (hideB_ex _ _)
  refine ⟨bT, off, g, og, o3, n3, c3, ho, hp, m2, m3, by have := e4 4 _ rfl; rw [hp]; rw [hp] at this; exact this, hRange, hThere, hR3, aZ, fun i s1 hi => ?_, hgT, cell_lt (hRange 0 _ rfl), hgl.1, fun W hW => ⟨?_, fun s' hrows hz' => ?_⟩⟩
  · obtain ⟨v1, b1, b2, ⟨o1, n1, c1, rfl, bR, bZ, bB⟩, b4⟩ := m6 i s1 hi
    exact ⟨o1, n1, c1, fun i u hu => (hideB_cell.1 (b4 i u hu)).2, bR.exS (hideB_ex _ _), bZ⟩
  · intro i hi
    obtain ⟨t1, t2⟩ := hThere i hi
    obtain ⟨u, hu⟩ := Option.isSome_iff_exists.1 t1
    exact ⟨by rw [hW.keep hu]; rfl, by rw [Below.frozen hW (p := ⟨g, og + j * 10 + i, none⟩) (cell_lt hu)]; exact t2⟩
  have hThereW : W.there g (og + j * 10) 10 := fun i hi => by
    obtain ⟨t1, t2⟩ := hThere i hi
    obtain ⟨u, hu⟩ := Option.isSome_iff_exists.1 t1
    exact ⟨by rw [hW.keep hu]; rfl, by rw [Below.frozen hW (p := ⟨g, og + j * 10 + i, none⟩) (cell_lt hu)]; exact t2⟩
  have hEx := (hideB_gr hW (some g)).trans (ex_setCells W g (og + j * 10) (snL s' o3 n3 c3))
  refine ⟨by rw [List.length_set, List.length_map]; exact l1, l2, l3, l4, bT, off, fun q => ⟨(l5 q).1, Nat.lt_of_lt_of_le (l5 q).2 (by have := hEx.size; rwa [hideB_size] at this)⟩, fun i y hi => ?_⟩
  have hil : i < L.length := by
    have := (List.getElem?_eq_some_iff.1 hi).1
    rwa [List.length_set, List.length_map] at this
  by_cases hik : i = k
  · subst hik
    rw [List.getElem?_set_self (by rw [List.length_map]; exact hil)] at hi
    obtain rfl := Option.some.inj hi
    refine ⟨trL x.t x.p x.t.seen.length x.c, rfl, trL_one _ _ _ _, ⟨x.p, x.t.seen.length, x.c, rfl, ?_, ⟨eZ.num, eZ.snap⟩⟩, fun q u hu => hEx.cell _ _ _ (hideB_cell.2 ⟨fun e => hgT (by simpa using e.symm), e4 q u hu⟩)⟩
    refine ⟨by rw [List.length_set], m2, m3, m4, g, og, fun q => ⟨(m5 q).1, Nat.lt_of_lt_of_le (m5 q).2 (by have := hEx.size; rwa [hideB_size, ← hideB_size w (some bT)] at this)⟩, fun q s1 hq => ?_⟩
    by_cases hqj : q = j
    · subst hqj
      rw [List.getElem?_set_self hjl] at hq
      obtain rfl := Option.some.inj hq
      refine ⟨snL s' o3 n3 c3, rfl, snL_one _ _ _ _, ⟨o3, n3, c3, rfl, ?_, hz'⟩, ?_⟩
      · rw [hrows]
        exact (hR3.hideN fun h a ha => (aB h a ha).2.2 _ hp).exS hEx
      · exact World.rangeAt_setCells_same W g (og + q * 10) (snL s' o3 n3 c3) hThereW
    · rw [List.getElem?_set_ne (fun e => hqj e.symm)] at hq
      obtain ⟨v1, b1, b2, ⟨o1, n1, c1, rfl, bR, bZ, bB⟩, b4⟩ := m6 q s1 hq
      refine ⟨snL s1 o1 n1 c1, rfl, snL_one _ _ _ _, ⟨o1, n1, c1, rfl, ?_, bZ⟩, ?_⟩
      · exact ((bR.exS (hideB_ex _ _)).hideN fun h a ha => (bB h a ha).2.2 _ hp).exS hEx
      · have hb : W.rangeAt g (og + q * 10) (snL s1 o1 n1 c1) := fun i u hu => hW.keep (hideB_cell.1 (b4 i u hu)).2
        refine World.rangeAt_setCells_apart hb g (og + j * 10) (snL s' o3 n3 c3) (.inr ?_)
        show og + q * 10 + 10 ≤ og + j * 10 ∨ og + j * 10 + 10 ≤ og + q * 10
        omega
  · rw [List.getElem?_set_ne (fun e => hik e.symm), List.getElem?_map] at hi
    obtain ⟨z, hz, rfl⟩ := Option.map_eq_some_iff.1 hi
    obtain ⟨vs, f1, f2, ⟨rfl, fS, fZ, fB⟩, f4⟩ := l6 i z hz
    rw [hown] at fS
    refine ⟨trL z.t z.p z.t.seen.length z.c, rfl, trL_one _ _ _ _, ⟨z.p, z.t.seen.length, z.c, rfl, ?_, fZ⟩, fun q u hu => hEx.cell _ _ _ (hideB_cell.2 ⟨fun e => hgT (by simpa using e.symm), f4 q u hu⟩)⟩
    have hout : ∀ b, z.lo ≤ b → b < z.hi → b ≠ g := fun b h1 h2 e => by
      subst e
      rcases Nat.lt_or_ge i k with q | q
      · have := hA i k z x q hz hx; omega
      · have := hA k i x z (by omega) hx hz; omega
    obtain ⟨p1, p2, p3, p4, gz, ogz, p5, p6⟩ := fS
    refine ⟨p1, p2, p3, p4, gz, ogz, fun q => ⟨(p5 q).1, Nat.lt_of_lt_of_le (p5 q).2 (by have := hEx.size; rwa [hideB_size, ← hideB_size w (some bT)] at this)⟩, fun q s1 hq => ?_⟩
    have hql : q < z.t.seen.length := (List.getElem?_eq_some_iff.1 hq).1
    obtain ⟨v1, b1, b2, ⟨o1, n1, c1, rfl, bR, bZ, bB⟩, b4⟩ := p6 q s1 hq
    have hzp := (p5 (by omega)).1
    have hzb := fB (by omega) _ hzp
    refine ⟨snL s1 o1 n1 c1, rfl, snL_one _ _ _ _, ⟨o1, n1, c1, rfl, ?_, bZ⟩, fun jj u hu => hEx.cell _ _ _ (hideB_cell.2 ⟨fun e => hout gz hzb.1 hzb.2 (by simpa using e.symm), (hideB_cell.1 (b4 jj u hu)).2⟩)⟩
    exact ((bR.exS (hideB_ex _ _)).hideN fun h a ha => hout _ (bB h a ha).1 (bB h a ha).2.1).exS hEx
end Go.Proofs.Ytopomocbjlikjaa
