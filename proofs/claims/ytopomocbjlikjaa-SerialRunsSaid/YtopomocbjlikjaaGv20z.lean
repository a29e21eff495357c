import Derived.Test.YtopomocbjlikjaaWk20z
import Derived.Test.YtopomocbjlikjaaHjz
import Derived.Test.YtopomocbjlikjaaOw2z
import Derived.OneCell
import Derived.StillTailTactics
namespace Go.Proofs.Ytopomocbjlikjaa
set_option linter.unusedVariables false
set_option linter.unusedSimpArgs false
open Go.BigFrame Go.RowKit Go.WideShapes

/-! A trip as the program has it, in memory of its own. -/
/-- what was seen, its rows in blocks from B on -/
def SnB (B : Nat) : EP Sn := fun w s vs => ∃ o n c, vs = snL s o n c ∧ RowsAt w o n c s.rows ∧ SnSz s ∧ ∀ a, o = some a → B ≤ a.block
theorem SnB_mono (B : Nat) : Mono (SnB B) := fun w w' s vs hg ⟨o, n, c, e, h1, h2, h3⟩ => ⟨o, n, c, e, h1.exS hg, h2, h3⟩
theorem SnB_E {B : Nat} {w : World} {s : Sn} {vs : List Value} (h : SnB B w s vs) : SnE w s vs := by
  obtain ⟨o, n, c, e, h1, h2, h3⟩ := h
  exact ⟨o, n, c, e, h1, h2⟩
theorem SnB_lower {B B' : Nat} (hb : B' ≤ B) {w : World} {s : Sn} {vs : List Value} (h : SnB B w s vs) : SnB B' w s vs := by
  obtain ⟨o, n, c, e, h1, h2, h3⟩ := h
  exact ⟨o, n, c, e, h1, h2, fun a q => Nat.le_trans hb (h3 a q)⟩
theorem SlE.weak {α : Type} {E E' : EP α} {k : Nat} {w : World} {oa : Option Addr} {n cap : Nat} {l : List α} (h : SlE E k w oa n cap l) (hE : ∀ x vs, E w x vs → E' w x vs) : SlE E' k w oa n cap l := by
  obtain ⟨h1, h2, h3, h4, b, off, h5, h6⟩ := h
  refine ⟨h1, h2, h3, h4, b, off, h5, fun i x hi => ?_⟩
  obtain ⟨vs, e1, e2, e3, e4⟩ := h6 i x hi
  exact ⟨vs, e1, e2, hE _ _ e3, e4⟩
theorem OwnS.weak {α : Type} {E E' : EP α} {k : Nat} {T : TypeId} {w : World} {base : Nat} {oa : Option Addr} {n cap : Nat} {l : List α} (h : OwnS E k T w base oa n cap l) (hE : ∀ w x vs, E w x vs → E' w x vs) : OwnS E' k T w base oa n cap l := by
  obtain ⟨hl, vss, h1, h2, h3, h5⟩ := h
  exact ⟨hl, vss, h1, h2, h3, fun i x vs hi hv => hE _ _ _ (h5 i x vs hi hv)⟩
theorem step_wanted {ops : Array Oper} {o : Oper} {a : Act} {A B : Prop} (h : Region.wanted o (yielded ops a.tmps) = true) (k : A) : if Region.wanted o (yielded ops a.tmps) = true then A else B := by
  rw [if_pos h]; exact k
theorem snL_one (s : Sn) (p : Option Addr) (n c : Nat) : ∀ u ∈ snL s p n c, u.oneCell' = true := by
  intro u hu
  simp only [List.mem_cons, List.not_mem_nil, or_false] at hu
  rcases hu with rfl | rfl | rfl | rfl | rfl | rfl | rfl | rfl | rfl | rfl <;> rfl
theorem seenT : SlT Try.prog 44 50 10 128 := ⟨Try.underlying44, by
  obtain ⟨i, hi, hz, hsi, hby⟩ := info_parts (show (Try.prog.info? 50).map (fun i => (i.zero, i.size, i.bytes)) = some (some (.agg zS.toArray), 10, 128) by kernel_rfl)
  exact ⟨i, _, hi, hz, hsi, hby, rfl⟩, by decide⟩
theorem OwnAt.block20 {w : World} {base : Nat} {oa : Option Addr} {n cap : Nat} {l : List Rw} (h : OwnAt w base oa n cap l) {g : Nat} (hg : Value.ownBlock (.slice oa n cap) = some g) : base ≤ g := (h.own.lt g hg).1
/-- rows of the call's own lie beside an older block -/
theorem OwnAt.hide20 {w : World} {base : Nat} {oa : Option Addr} {n cap : Nat} {l : List Rw} (h : OwnAt w base oa n cap l) {r : Option Nat} (hr : ∀ g, r = some g → g < base) : RowsAt (hideB w r) oa n cap l := by
  obtain ⟨h1, h2, h3, h4, ⟨b, off, h5, h6⟩, h7⟩ := h.rows
  refine ⟨h1, h2, h3, h4, ⟨b, off, fun q => ⟨(h5 q).1, by rw [hideB_size]; exact (h5 q).2⟩, fun i hi => ?_⟩, h7⟩
  have hb : base ≤ b := h.block20 (by rw [(h5 (by omega)).1]; rfl)
  have hne : r ≠ some b := fun e => by have := hr b e; omega
  exact ⟨hideB_cell.2 ⟨hne, (h6 i hi).1⟩, hideB_cell.2 ⟨hne, (h6 i hi).2⟩⟩
/-- where own rows lie -/
theorem OwnAt.from {w : World} {base : Nat} {oa : Option Addr} {n cap : Nat} {l : List Rw} (h : OwnAt w base oa n cap l) : ∀ a, oa = some a → base ≤ a.block := fun a e => h.block20 (by rw [e]; rfl)
/-- a copy in a block of one, beside an older block -/
theorem seen_one {w3 : World} {base : Nat} {s : Sn} {o1 : Option Addr} {n1 c1 : Nat} {T : TypeId} (hO : OwnAt w3 base o1 n1 c1 s.rows) (hz : SnSz s) (hb3 : base ≤ w3.heap.size) {r : Option Nat} (hr : ∀ g, r = some g → g < base) {B : Nat} (hB : B ≤ base) :
    SlE (SnB B) 10 (hideB (w3.alloc (.cells (snL s o1 n1 c1).toArray T)) r) (some ⟨w3.heap.size, 0, none⟩) 1 1 [s] := by
  have hm := hideB_gr (r := r) ((Gr.refl w3).alloc (.cells (snL s o1 n1 c1).toArray T))
  refine SlE.one (by decide) (Nat.le_refl _) (by unfold maxLen; omega) rfl (snL_one _ _ _ _) ⟨o1, n1, c1, rfl, (hO.hide20 hr).exS hm, hz, fun a e => Nat.le_trans hB (hO.from a e)⟩ fun j u hj => ?_
  refine hideB_cell.2 ⟨fun e => by have := hr _ e; omega, ?_⟩
  have := World.cell?_alloc_new w3 (snL s o1 n1 c1).toArray T j
  rw [Nat.zero_add, this]
  simpa using hj
theorem set_heap20 (w : World) (t o b : Nat) (v : Value) (h : b ≠ t) : (w.setCell ⟨t, o, none⟩ v).heap[b]? = w.heap[b]? := by
  simp only [World.setCell, Array.getElem?_modify]
  rw [if_neg (fun q => h q.symm)]
theorem RowsAt.setS {w : World} {oa : Option Addr} {n cap : Nat} {l : List Rw} (h : RowsAt w oa n cap l) {b' j : Nat} (hb : ∀ a, oa = some a → a.block ≠ b') (u : Value) : RowsAt (w.setCell ⟨b', j, Option.none⟩ u) oa n cap l := by
  obtain ⟨h1, h2, h3, h4, ⟨b, off, h5, h6⟩, h7⟩ := h
  refine ⟨h1, h2, h3, h4, ⟨b, off, fun q => ⟨(h5 q).1, by unfold World.setCell; simpa using (h5 q).2⟩, fun i hi => ?_⟩, h7⟩
  have hne : b ≠ b' := hb _ (h5 (by omega)).1
  exact ⟨far1 (h6 i hi).1 hne, far1 (h6 i hi).2 hne⟩
theorem hideB_set (w : World) (r : Option Nat) (b' j : Nat) (u : Value) {b o : Nat} {v : Value} (h : (hideB w r).cell? ⟨b, o, none⟩ = some v) (hb : b ≠ b') : (hideB (w.setCell ⟨b', j, none⟩ u) r).cell? ⟨b, o, none⟩ = some v := by
  obtain ⟨h1, h2⟩ := hideB_cell.1 h
  exact hideB_cell.2 ⟨h1, far1 h2 hb⟩
/-- what is of the call's own stays where an older block is written -/
theorem ownS_store {w : World} {B base : Nat} {T : TypeId} {oa : Option Addr} {n cap : Nat} {l : List Sn} (h : OwnS (SnB B) 10 T w base oa n cap l) {b' j : Nat} (hb : b' < base) (hB : b' < B) (u : Value) : OwnS (SnB B) 10 T (w.setCell ⟨b', j, none⟩ u) base oa n cap l := by
  have hlt := h.lt
  obtain ⟨hl, vss, h1, h2, h3, h5⟩ := h
  refine ⟨hl, vss, h1, h2, ownsRow_setCell_other h3 (a := ⟨b', j, none⟩) (fun q => ?_) u, fun i x vs hi hv => ?_⟩
  · have := (hlt b' q).1; omega
  · obtain ⟨o, m, c, e, k1, k2, k3⟩ := h5 i x vs hi hv
    refine ⟨o, m, c, e, ?_, k2, k3⟩
    obtain ⟨g1, g2, g3, g4, ⟨b, off, g5, g6⟩, g7⟩ := k1
    refine ⟨g1, g2, g3, g4, ⟨b, off, fun q => ⟨(g5 q).1, by have := (g5 q).2; rw [hideB_size] at this ⊢; unfold World.setCell; simpa using this⟩, fun i hi => ?_⟩, g7⟩
    have hne : b ≠ b' := by have := k3 _ (g5 (by omega)).1; dsimp only at this; omega
    exact ⟨hideB_set _ _ _ _ _ (g6 i hi).1 hne, hideB_set _ _ _ _ _ (g6 i hi).2 hne⟩
theorem ownS_stores {B base : Nat} {T : TypeId} {oa : Option Addr} {n cap : Nat} {l : List Sn} {b' : Nat} (hb : b' < base) (hB : b' < B) (us : List Value) : ∀ (w : World) (j : Nat), OwnS (SnB B) 10 T w base oa n cap l → OwnS (SnB B) 10 T (w.setCells b' j us) base oa n cap l := by
  induction us with
  | nil => intro w j h; exact h
  | cons u us ih => intro w j h; exact ih _ (j + 1) (ownS_store h hb hB u)
theorem bx_block {w w' : World} {b : Nat} {vs : List Value} (e : w'.heap[b]? = w.heap[b]?) (h : Bx w b vs) : Bx w' b vs :=
  ⟨fun j v hv => by rw [cell_of_block e]; exact h.rng j v hv, fun j hj => by
    obtain ⟨h1, h2⟩ := h.may j hj
    exact ⟨by rw [cell_of_block e]; exact h1, by rw [World.frozen?_of_block (a := ⟨b, 0 + j, none⟩) e]; exact h2⟩⟩
abbrev zT : List Value := [.int .i64 0, .int .i64 0, .int .i64 0, .int .i64 0, .slice none 0 0]
set_option maxRecDepth 100000 in
set_option maxHeartbeats 20000000 in
theorem given20_any (t : Tr) (p : Option Addr) (n cp : Nat) (w : World) (h : SeenAt w p n cp t.seen) (hn : n ≤ 1000) (hrs : ∀ (i : Nat) (s : Sn), t.seen[i]? = some s → s.rows.length ≤ 1000) :
    Calls Try.prog 22 #[.agg (trL t p n cp).toArray] w fun e w' => ∃ o c, e = .returned (.agg (trL t o n c).toArray) ∧ OwnS (SnB w.heap.size) 10 50 w' w.heap.size o n c t.seen ∧ Gr w w' := by
  have Hl := Lib.hid h.len
  have Hrs := Lib.hid hrs
  have hcl := h.cap_le
  have hcm := h.cap_max
  unfold maxLen at hcm
  obtain ⟨W, hW⟩ : ∃ W, W = (w.alloc (.cells (trL t p n cp).toArray 28)).alloc (.cells zT.toArray 46) := ⟨_, rfl⟩
  have B0 : Bx W w.heap.size (trL t p n cp) := by rw [hW]; exact ((Bx.new w _ _ rfl).keep ((Gr.refl _).alloc _)).of (by simp)
  have Z0 : Bx W (w.heap.size + 1) zT := by rw [hW]; exact (Bx.new (w.alloc _) _ _ (by rw [size_alloc1])).of (by simp)
  have hg0 : Gr w W := by rw [hW]; exact ((Gr.refl _).alloc _).alloc _
  have hsz : W.heap.size = w.heap.size + 2 := by rw [hW, size_alloc1, size_alloc1]
  obtain ⟨b, off, ho, hc⟩ := (h.keep hg0).get
  have Ho := Lib.hid ho
  have Hc := Lib.hid hc
  clear ho hc h hrs
  go_enter Try.func22, Try.ntmps22
  go_upto_region 1 with fail
  rw [← hW]
  clear hW
  have Hsz := Lib.hid hsz
  clear hsz
  generalize hBX : w.heap.size = BX at *
  have HBX := Lib.hid hBX
  clear hBX
  have v0 := B0.cell 0 rfl
  have v1 := B0.cell 1 rfl
  have v2 := B0.cell 2 rfl
  have v3 := B0.cell 3 rfl
  have v4 := B0.cell 4 rfl
  have Z3 := (Bx.new W zT.toArray 46 rfl).of (us := zT) (by simp)
  go_upto_region 2 with ((with_reducible refine wpList_store_box (ty := 46) (Z3) ((trL t none 0 0)) ?_ ?_ ?_ ?_ ?_ ?_); (focus (exact rfl)); (focus (exact ⟨_, _, rfl, rfl, rfl⟩)); (focus (exact rfl)); (focus kernel_rfl); (focus kernel_rfl))
  have B3 := Z3.setAll (us := trL t none 0 0) rfl
  have hg3 : Gr W ((W.alloc (.cells zT.toArray 46)).setCells W.heap.size 0 (trL t none 0 0)) := ((Gr.refl W).alloc _).setCells (Nat.le_refl _) _ _
  have hb3 : W.heap.size < ((W.alloc (.cells zT.toArray 46)).setCells W.heap.size 0 (trL t none 0 0)).heap.size := B3.lt (by simp)
  clear Z3 B0 v0 v1 v2 v3
  have v4 := hg3.keep v4
  generalize (W.alloc (.cells zT.toArray 46)).setCells W.heap.size 0 (trL t none 0 0) = W3 at *
  have Hle := Lib.hid hg0.le
  generalize hb : W.heap.size = b3 at *
  have Hb := Lib.hid hb
  clear hb
  go_wp2_with fail
  clear v4
  go_loopw [18] (fun s18 wr => ∃ (k : Nat) (o : Option Addr) (c : Nat), k ≤ n ∧ s18 = .int .i64 k ∧ Hid (OwnS (SnB W3.heap.size) 10 50 wr W3.heap.size o k c (t.seen.take k)) ∧ Bx wr b3 (trL t o k c) ∧ Gr W wr ∧ W3.heap.size ≤ wr.heap.size) (fun s18 _ => n - (intOf s18).toNat)
  case atStart => exact ⟨0, none, 0, Nat.zero_le _, rfl, Lib.hid (OwnS.nil _ _ _ _ _), B3, hg3, Nat.le_refl _⟩
  case round =>
    obtain ⟨k, o, c, hk, rfl, hO, B3, hg, hsz3⟩ := hrel
    by_cases hlt : k < n
    · have hy : t.seen[k]? = some (t.seen[k]'(by have := Hl.out; omega)) := List.getElem?_eq_getElem _
      generalize (t.seen[k]'(by have := Hl.out; omega)) = s at hy
      obtain ⟨p1, m1, c1, R0⟩ := Hc.out k s hy
      have R1 := R0.keep hg
      have hI := run_seen cp Ho.out hlt
      have hm1 : m1 ≤ 1000 := by have h1 := Hrs.out _ _ hy; have h2 := R1.rows.len; omega
      have Hy := Lib.hid hy
      have Z := (Bx.new wr zS.toArray 30 rfl).of (us := zS) (by simp)
      clear R0 hy
      go_upto_region 5 with (first | (refine wpList_load_mid rfl 30 _ rfl _ _ rfl _ _ (R1).rng Try.underlying30 rfl (by kernel_rfl) ?_) | ((with_reducible refine wpList_store_box (ty := 30) (Z) ((snL s p1 m1 c1)) ?_ ?_ ?_ ?_ ?_ ?_); (focus (exact rfl)); (focus (exact ⟨_, _, rfl, rfl, rfl⟩)); (focus (exact rfl)); (focus kernel_rfl); (focus kernel_rfl)))
      have B4 := Z.setAll (us := snL s p1 m1 c1) rfl
      have hg4 : Gr wr ((wr.alloc (.cells zS.toArray 30)).setCells wr.heap.size 0 (snL s p1 m1 c1)) := ((Gr.refl wr).alloc _).setCells (Nat.le_refl _) _ _
      have HR := Lib.hid (R1.rows.keep hg4)
      have HZ := Lib.hid R1.size
      have B3 := B3.keep hg4
      have hgw := hg.trans hg4
      have hb4 : b3 ≠ wr.heap.size := by have := hsz3; omega
      have Hgb := Lib.hid fun g q => (hO.out.lt g q).2
      have hsz4 := Nat.le_trans hsz3 hg4.le
      have hO := Lib.hid (hO.out.keep (SnB_mono _) hg4)
      clear Z R1 hI hg hg4
      generalize (wr.alloc (.cells zS.toArray 30)).setCells wr.heap.size 0 (snL s p1 m1 c1) = w4 at *
      generalize wr.heap.size = b4 at *
      have hd4 : Gr w4 w4.drew := (Gr.refl w4).drew
      refine wp_region_J (fun w' => w'.rangeAt b4 0 (snL s p1 m1 c1)) (fun w' => w'.cell? ⟨b3, 4, none⟩ = some (.slice o k c)) 1 27 29 (by kernel_rfl) ?_
      have hB := hd4.range B4.rng
      have hC := hd4.keep (B3.cell 4 rfl)
      refine' wpAnyJ_take (k := 0) (ok := { dst := some 22, op := .fieldAddr 46 (.tmp 3) 4, type := _, pos := _, after := _, guard := none }) (v := .pointer (some ⟨b3, 4, none⟩)) rfl (by kernel_rfl) (by kernel_rfl) (by kernel_rfl) (by kernel_rfl) (fun _ _ _ h => h) (T := fun _ => True) (fun _ _ _ => trivial) (.inl ⟨by rfl, ?_⟩) hB hC ?_
      · (intro w hSw; go_simp)
      try simp only [Act.put, List.setIfInBounds_toArray, List.set_cons_zero, List.set_cons_succ]
      refine' wpAnyJ_take (k := 1) (ok := { dst := some 23, op := .load 44 (.tmp 22), type := _, pos := _, after := _, guard := none }) (v := .slice o k c) rfl (by kernel_rfl) (by kernel_rfl) (by kernel_rfl) (by kernel_rfl) (fun _ _ _ h => h) (T := fun w' => w'.cell? ⟨b3, 4, none⟩ = some (.slice o k c)) (fun _ _ h => h rfl) (.inl ⟨by rfl, ?_⟩) hB hC ?_
      · (intro w hSw; go_simp)
      try simp only [Act.put, List.setIfInBounds_toArray, List.set_cons_zero, List.set_cons_succ]
      refine' wpAnyJ_take (k := 2) (ok := { dst := some 24, op := .fieldAddr 30 (.tmp 5) 0, type := _, pos := _, after := _, guard := none }) (v := .pointer (some ⟨b4, 0, none⟩)) rfl (by kernel_rfl) (by kernel_rfl) (by kernel_rfl) (by kernel_rfl) (fun _ _ _ h => h) (T := fun _ => True) (fun _ _ _ => trivial) (.inl ⟨by rfl, ?_⟩) hB hC ?_
      · (intro w hSw; go_simp)
      try simp only [Act.put, List.setIfInBounds_toArray, List.set_cons_zero, List.set_cons_succ]
      refine' wpAnyJ_take (k := 3) (ok := { dst := some 25, op := .load 3 (.tmp 24), type := _, pos := _, after := _, guard := none }) (v := .int .i64 s.kind) rfl (by kernel_rfl) (by kernel_rfl) (by kernel_rfl) (by kernel_rfl) (fun _ _ _ h => h) (T := fun w' => w'.cell? ⟨b4, 0, none⟩ = some (.int .i64 s.kind)) (fun w' h _ => by have := h 0 _ rfl; simpa using this) (.inl ⟨by rfl, ?_⟩) hB hC ?_
      · (intro w hSw; go_simp)
      try simp only [Act.put, List.setIfInBounds_toArray, List.set_cons_zero, List.set_cons_succ]
      refine' wpAnyJ_take (k := 4) (ok := { dst := some 26, op := .fieldAddr 30 (.tmp 5) 1, type := _, pos := _, after := _, guard := none }) (v := .pointer (some ⟨b4, 1, none⟩)) rfl (by kernel_rfl) (by kernel_rfl) (by kernel_rfl) (by kernel_rfl) (fun _ _ _ h => h) (T := fun _ => True) (fun _ _ _ => trivial) (.inl ⟨by rfl, ?_⟩) hB hC ?_
      · (intro w hSw; go_simp)
      try simp only [Act.put, List.setIfInBounds_toArray, List.set_cons_zero, List.set_cons_succ]
      refine' wpAnyJ_take (k := 5) (ok := { dst := some 27, op := .load 9 (.tmp 26), type := _, pos := _, after := _, guard := none }) (v := .string s.key) rfl (by kernel_rfl) (by kernel_rfl) (by kernel_rfl) (by kernel_rfl) (fun _ _ _ h => h) (T := fun w' => w'.cell? ⟨b4, 1, none⟩ = some (.string s.key)) (fun w' h _ => by have := h 1 _ rfl; simpa using this) (.inl ⟨by rfl, ?_⟩) hB hC ?_
      · (intro w hSw; go_simp)
      try simp only [Act.put, List.setIfInBounds_toArray, List.set_cons_zero, List.set_cons_succ]
      refine' wpAnyJ_take (k := 6) (ok := { dst := some 28, op := .fieldAddr 30 (.tmp 5) 2, type := _, pos := _, after := _, guard := none }) (v := .pointer (some ⟨b4, 2, none⟩)) rfl (by kernel_rfl) (by kernel_rfl) (by kernel_rfl) (by kernel_rfl) (fun _ _ _ h => h) (T := fun _ => True) (fun _ _ _ => trivial) (.inl ⟨by rfl, ?_⟩) hB hC ?_
      · (intro w hSw; go_simp)
      try simp only [Act.put, List.setIfInBounds_toArray, List.set_cons_zero, List.set_cons_succ]
      refine' wpAnyJ_take (k := 7) (ok := { dst := some 29, op := .load 9 (.tmp 28), type := _, pos := _, after := _, guard := none }) (v := .string s.val) rfl (by kernel_rfl) (by kernel_rfl) (by kernel_rfl) (by kernel_rfl) (fun _ _ _ h => h) (T := fun w' => w'.cell? ⟨b4, 2, none⟩ = some (.string s.val)) (fun w' h _ => by have := h 2 _ rfl; simpa using this) (.inl ⟨by rfl, ?_⟩) hB hC ?_
      · (intro w hSw; go_simp)
      try simp only [Act.put, List.setIfInBounds_toArray, List.set_cons_zero, List.set_cons_succ]
      refine' wpAnyJ_take (k := 8) (ok := { dst := some 30, op := .fieldAddr 30 (.tmp 5) 3, type := _, pos := _, after := _, guard := none }) (v := .pointer (some ⟨b4, 3, none⟩)) rfl (by kernel_rfl) (by kernel_rfl) (by kernel_rfl) (by kernel_rfl) (fun _ _ _ h => h) (T := fun _ => True) (fun _ _ _ => trivial) (.inl ⟨by rfl, ?_⟩) hB hC ?_
      · (intro w hSw; go_simp)
      try simp only [Act.put, List.setIfInBounds_toArray, List.set_cons_zero, List.set_cons_succ]
      refine' wpAnyJ_take (k := 9) (ok := { dst := some 31, op := .load 4 (.tmp 30), type := _, pos := _, after := _, guard := none }) (v := .bool s.there) rfl (by kernel_rfl) (by kernel_rfl) (by kernel_rfl) (by kernel_rfl) (fun _ _ _ h => h) (T := fun w' => w'.cell? ⟨b4, 3, none⟩ = some (.bool s.there)) (fun w' h _ => by have := h 3 _ rfl; simpa using this) (.inl ⟨by rfl, ?_⟩) hB hC ?_
      · (intro w hSw; go_simp)
      try simp only [Act.put, List.setIfInBounds_toArray, List.set_cons_zero, List.set_cons_succ]
      refine' wpAnyJ_take (k := 10) (ok := { dst := some 32, op := .fieldAddr 30 (.tmp 5) 4, type := _, pos := _, after := _, guard := none }) (v := .pointer (some ⟨b4, 4, none⟩)) rfl (by kernel_rfl) (by kernel_rfl) (by kernel_rfl) (by kernel_rfl) (fun _ _ _ h => h) (T := fun _ => True) (fun _ _ _ => trivial) (.inl ⟨by rfl, ?_⟩) hB hC ?_
      · (intro w hSw; go_simp)
      try simp only [Act.put, List.setIfInBounds_toArray, List.set_cons_zero, List.set_cons_succ]
      refine' wpAnyJ_take (k := 11) (ok := { dst := some 33, op := .load 9 (.tmp 32), type := _, pos := _, after := _, guard := none }) (v := .string s.low) rfl (by kernel_rfl) (by kernel_rfl) (by kernel_rfl) (by kernel_rfl) (fun _ _ _ h => h) (T := fun w' => w'.cell? ⟨b4, 4, none⟩ = some (.string s.low)) (fun w' h _ => by have := h 4 _ rfl; simpa using this) (.inl ⟨by rfl, ?_⟩) hB hC ?_
      · (intro w hSw; go_simp)
      try simp only [Act.put, List.setIfInBounds_toArray, List.set_cons_zero, List.set_cons_succ]
      refine' wpAnyJ_take (k := 12) (ok := { dst := some 34, op := .fieldAddr 30 (.tmp 5) 5, type := _, pos := _, after := _, guard := none }) (v := .pointer (some ⟨b4, 5, none⟩)) rfl (by kernel_rfl) (by kernel_rfl) (by kernel_rfl) (by kernel_rfl) (fun _ _ _ h => h) (T := fun _ => True) (fun _ _ _ => trivial) (.inl ⟨by rfl, ?_⟩) hB hC ?_
      · (intro w hSw; go_simp)
      try simp only [Act.put, List.setIfInBounds_toArray, List.set_cons_zero, List.set_cons_succ]
      refine' wpAnyJ_take (k := 13) (ok := { dst := some 35, op := .load 9 (.tmp 34), type := _, pos := _, after := _, guard := none }) (v := .string s.high) rfl (by kernel_rfl) (by kernel_rfl) (by kernel_rfl) (by kernel_rfl) (fun _ _ _ h => h) (T := fun w' => w'.cell? ⟨b4, 5, none⟩ = some (.string s.high)) (fun w' h _ => by have := h 5 _ rfl; simpa using this) (.inl ⟨by rfl, ?_⟩) hB hC ?_
      · (intro w hSw; go_simp)
      try simp only [Act.put, List.setIfInBounds_toArray, List.set_cons_zero, List.set_cons_succ]
      refine' wpAnyJ_take (k := 14) (ok := { dst := some 36, op := .fieldAddr 30 (.tmp 5) 6, type := _, pos := _, after := _, guard := none }) (v := .pointer (some ⟨b4, 6, none⟩)) rfl (by kernel_rfl) (by kernel_rfl) (by kernel_rfl) (by kernel_rfl) (fun _ _ _ h => h) (T := fun _ => True) (fun _ _ _ => trivial) (.inl ⟨by rfl, ?_⟩) hB hC ?_
      · (intro w hSw; go_simp)
      try simp only [Act.put, List.setIfInBounds_toArray, List.set_cons_zero, List.set_cons_succ]
      refine' wpAnyJ_take (k := 15) (ok := { dst := some 37, op := .load 4 (.tmp 36), type := _, pos := _, after := _, guard := none }) (v := .bool s.unb) rfl (by kernel_rfl) (by kernel_rfl) (by kernel_rfl) (by kernel_rfl) (fun _ _ _ h => h) (T := fun w' => w'.cell? ⟨b4, 6, none⟩ = some (.bool s.unb)) (fun w' h _ => by have := h 6 _ rfl; simpa using this) (.inl ⟨by rfl, ?_⟩) hB hC ?_
      · (intro w hSw; go_simp)
      try simp only [Act.put, List.setIfInBounds_toArray, List.set_cons_zero, List.set_cons_succ]
      refine' wpAnyJ_take (k := 16) (ok := { dst := some 38, op := .build 48 #[(0, .tmp 33), (1, .tmp 35), (2, .tmp 37)], type := _, pos := _, after := _, guard := none }) (v := .agg #[.string s.low, .string s.high, .bool s.unb]) rfl (by kernel_rfl) (by kernel_rfl) (by kernel_rfl) (by kernel_rfl) (fun _ _ _ h => h) (T := fun _ => True) (fun _ _ _ => trivial) (.inl ⟨by rfl, ?_⟩) hB hC ?_
      · (intro w hSw; go_simp)
      try simp only [Act.put, List.setIfInBounds_toArray, List.set_cons_zero, List.set_cons_succ]
      refine' wpAnyJ_take (k := 17) (ok := { dst := some 39, op := .fieldAddr 30 (.tmp 5) 7, type := _, pos := _, after := _, guard := none }) (v := .pointer (some ⟨b4, 7, none⟩)) rfl (by kernel_rfl) (by kernel_rfl) (by kernel_rfl) (by kernel_rfl) (fun _ _ _ h => h) (T := fun _ => True) (fun _ _ _ => trivial) (.inl ⟨by rfl, ?_⟩) hB hC ?_
      · (intro w hSw; go_simp)
      try simp only [Act.put, List.setIfInBounds_toArray, List.set_cons_zero, List.set_cons_succ]
      refine' wpAnyJ_take (k := 18) (ok := { dst := some 40, op := .load 3 (.tmp 39), type := _, pos := _, after := _, guard := none }) (v := .int .i64 s.limit) rfl (by kernel_rfl) (by kernel_rfl) (by kernel_rfl) (by kernel_rfl) (fun _ _ _ h => h) (T := fun w' => w'.cell? ⟨b4, 7, none⟩ = some (.int .i64 s.limit)) (fun w' h _ => by have := h 7 _ rfl; simpa using this) (.inl ⟨by rfl, ?_⟩) hB hC ?_
      · (intro w hSw; go_simp)
      try simp only [Act.put, List.setIfInBounds_toArray, List.set_cons_zero, List.set_cons_succ]
      refine' wpAnyJ_take (k := 19) (ok := { dst := some 41, op := .fieldAddr 30 (.tmp 5) 8, type := _, pos := _, after := _, guard := none }) (v := .pointer (some ⟨b4, 8, none⟩)) rfl (by kernel_rfl) (by kernel_rfl) (by kernel_rfl) (by kernel_rfl) (fun _ _ _ h => h) (T := fun _ => True) (fun _ _ _ => trivial) (.inl ⟨by rfl, ?_⟩) hB hC ?_
      · (intro w hSw; go_simp)
      try simp only [Act.put, List.setIfInBounds_toArray, List.set_cons_zero, List.set_cons_succ]
      refine' wpAnyJ_take (k := 20) (ok := { dst := some 42, op := .load 4 (.tmp 41), type := _, pos := _, after := _, guard := none }) (v := .bool s.rev) rfl (by kernel_rfl) (by kernel_rfl) (by kernel_rfl) (by kernel_rfl) (fun _ _ _ h => h) (T := fun w' => w'.cell? ⟨b4, 8, none⟩ = some (.bool s.rev)) (fun w' h _ => by have := h 8 _ rfl; simpa using this) (.inl ⟨by rfl, ?_⟩) hB hC ?_
      · (intro w hSw; go_simp)
      try simp only [Act.put, List.setIfInBounds_toArray, List.set_cons_zero, List.set_cons_succ]
      refine' wpAnyJ_take (k := 22) (ok := { dst := some 44, op := .fieldAddr 30 (.tmp 5) 9, type := _, pos := _, after := _, guard := none }) (v := .pointer (some ⟨b4, 9, none⟩)) rfl (by kernel_rfl) (by kernel_rfl) (by kernel_rfl) (by kernel_rfl) (fun _ _ _ h => h) (T := fun _ => True) (fun _ _ _ => trivial) (.inl ⟨by rfl, ?_⟩) hB hC ?_
      · (intro w hSw; go_simp)
      try simp only [Act.put, List.setIfInBounds_toArray, List.set_cons_zero, List.set_cons_succ]
      refine' wpAnyJ_take (k := 23) (ok := { dst := some 45, op := .load 25 (.tmp 44), type := _, pos := _, after := _, guard := none }) (v := .slice p1 m1 c1) rfl (by kernel_rfl) (by kernel_rfl) (by kernel_rfl) (by kernel_rfl) (fun _ _ _ h => h) (T := fun w' => w'.cell? ⟨b4, 9, none⟩ = some (.slice p1 m1 c1)) (fun w' h _ => by have := h 9 _ rfl; simpa using this) (.inl ⟨by rfl, ?_⟩) hB hC ?_
      · (intro w hSw; go_simp)
      try simp only [Act.put, List.setIfInBounds_toArray, List.set_cons_zero, List.set_cons_succ]
      refine wpAnyJ_one (j := 21) (o := { dst := some 43, op := .buildSlice 25 0 #[], type := _, pos := _, after := _, guard := none }) rfl (by kernel_rfl) (by kernel_rfl) (fun K hK => ?_)
      refine step_wanted (by rfl) ?_
      go_simp
      have ha : Gr w4 ((w4.alloc (.cells #[] 35)).drew) := ((Gr.refl w4).alloc _).drew
      refine hK.out _ _ (ha.range B4.rng) (ha.keep (B3.cell 4 rfl)) (fun hB hC => ?_)
      clear hK K
      try simp only [Act.put, List.setIfInBounds_toArray, List.set_cons_zero, List.set_cons_succ]
      refine wpAnyJ_one (j := 24) (o := { dst := some 46, op := .call { callee := .builtin .append, args := #[.tmp 43, .tmp 45], argTypes := #[25, 25] }, type := _, pos := _, after := _, guard := none }) rfl (by kernel_rfl) (by kernel_rfl) (fun K hK => ?_)
      refine step_rows (w0 := w4) rfl _ _ rfl ha rfl ((own_empty (w := w4) (Gr.refl w4)).keep ((Gr.refl _).drew)) rfl (HR.out.keep ha) (by omega) ?_
      intro oc c3 w5 ho1 hg5
      (try simp only [Nat.zero_add, List.nil_append] at ho1 ⊢)
      refine hK.out _ _ (hg5.range B4.rng) (hg5.keep (B3.cell 4 rfl)) (fun hB hC => ?_)
      clear hK K hd4 ha
      try simp only [Act.put, List.setIfInBounds_toArray, List.set_cons_zero, List.set_cons_succ]
      refine' wpAnyJ_take (k := 25) (ok := { dst := some 47, op := .build 50 #[(0, .tmp 25), (1, .tmp 27), (2, .tmp 29), (3, .tmp 31), (4, .tmp 38), (5, .tmp 40), (6, .tmp 42), (7, .tmp 46)], type := _, pos := _, after := _, guard := none }) (v := .agg (snL s oc m1 c3).toArray) rfl (by kernel_rfl) (by kernel_rfl) (by kernel_rfl) (by kernel_rfl) (fun _ _ _ h => h) (T := fun _ => True) (fun _ _ _ => trivial) (.inl ⟨by rfl, ?_⟩) hB hC ?_
      · (intro w hSw; go_simp)
      try simp only [Act.put, List.setIfInBounds_toArray, List.set_cons_zero, List.set_cons_succ]
      have B3' := B3.keep hg5
      have hO5 := hO.out.keep (SnB_mono _) (hg5.trans ((Gr.refl _).alloc (.cells (snL s oc m1 c3).toArray 50)))
      have hsrc := seen_one (T := 50) (B := W3.heap.size) ho1 HZ.out hg5.le (r := Value.ownBlock (.slice o k c)) (fun g hg => (hO.out.lt g hg).2) hsz4
      have HO5 := Lib.hid hO5
      have Hsrc := Lib.hid hsrc
      clear hO5 hsrc ho1
      refine wpAnyJ_one (j := 26) (o := { dst := some 48, op := .buildSlice 44 1 #[(0, .tmp 47)], type := _, pos := _, after := _, guard := none }) rfl (by kernel_rfl) (by kernel_rfl) (fun K hK => ?_)
      refine step_wanted (by rfl) ?_
      go_simp
      have ha : Gr w4 (w5.alloc (.cells (snL s oc m1 c3).toArray 50)) := hg5.alloc _
      refine hK.out _ _ (ha.range B4.rng) (ha.keep (B3.cell 4 rfl)) (fun hB hC => ?_)
      clear hK K
      try simp only [Act.put, List.setIfInBounds_toArray, List.set_cons_zero, List.set_cons_succ]
      refine wpAnyJ_one (j := 27) (o := { dst := some 49, op := .call { callee := .builtin .append, args := #[.tmp 23, .tmp 48], argTypes := #[44, 44] }, type := _, pos := _, after := _, guard := none }) rfl (by kernel_rfl) (by kernel_rfl) (fun K hK => ?_)
      refine step_app (SnB_mono _) seenT rfl _ _ rfl (base := W3.heap.size) (Nat.le_trans hsz4 ha.le) rfl HO5.out rfl Hsrc.out (by unfold maxLen; omega) (by omega) ?_
      intro od d3 w6 ho6 hb6
      have hbel : Below W3.heap.size w4 w6 := Below.grown (ha.mono hsz4) hb6 (Nat.le_trans hsz4 ha.le) (fun q hq => (HO5.out.lt q hq).1)
      have B46 : Bx w6 b4 (snL s p1 m1 c1) := bx_block (hb6.block b4 ((B4.keep ha).lt (by simp)) (fun e => by have := Hgb.out b4 e.symm; omega)) (B4.keep ha)
      have B36 : Bx w6 b3 (trL t o k c) := bx_block (hbel.block b3 hb3) B3
      refine hK.out _ _ B46.rng (B36.cell 4 rfl) (fun hB hC => ?_)
      clear hK K
      try simp only [Act.put, List.setIfInBounds_toArray, List.set_cons_zero, List.set_cons_succ]
      refine' wpAnyJ_take (k := 28) (ok := { dst := some 50, op := .fieldAddr 46 (.tmp 3) 4, type := _, pos := _, after := _, guard := none }) (v := .pointer (some ⟨b3, 4, none⟩)) rfl (by kernel_rfl) (by kernel_rfl) (by kernel_rfl) (by kernel_rfl) (fun _ _ _ h => h) (T := fun _ => True) (fun _ _ _ => trivial) (.inl ⟨by rfl, ?_⟩) hB hC ?_
      · (intro w hSw; go_simp)
      try simp only [Act.put, List.setIfInBounds_toArray, List.set_cons_zero, List.set_cons_succ]
      have c4 := B36.cell 4 rfl
      have f4 := B36.free 4 (by simp)
      refine wpAnyJ_last (o := { dst := none, op := .store 44 (.tmp 50) (.tmp 49), type := _, pos := _, after := _, guard := none }) rfl (by kernel_rfl) (by kernel_rfl) (by kernel_rfl) (fun K hK => ?_)
      refine step_wanted (by rfl) ?_
      go_simp
      refine hK.out _ _ (fun j v hv => far1 (B46.rng j v hv) (Ne.symm hb4)) ?_
      clear hK K
      have hO7 := Lib.hid (ownS_store (j := 4) ho6 hb3 hb3 (.slice od (k + 1) d3))
      have B37 := (B36.set 4 (.slice od (k + 1) d3)).of (us := trL t od (k + 1) d3) rfl
      have hW6 : Gr W w6 := Below.trans hgw (hbel.mono (by rw [Hb.out]; omega))
      have hW7 := hW6.setCell (p := ⟨b3, 4, none⟩) (by show W.heap.size ≤ b3; rw [Hb.out]; exact Nat.le_refl _) (.slice od (k + 1) d3)
      have hsz7 : W3.heap.size ≤ (w6.setCell ⟨b3, 4, none⟩ (.slice od (k + 1) d3)).heap.size := by have := hbel.size; unfold World.setCell; simp; omega
      clear B36 B46 ho6 hb6 hbel hB hC c4 f4 B3' hO
      generalize w6.setCell ⟨b3, 4, none⟩ (.slice od (k + 1) d3) = w7 at *
      go_wp2_with fail
      go_roundw
      case rel => exact ⟨k + 1, od, d3, by omega, by go_num, by
        have e : t.seen.take (k + 1) = t.seen.take k ++ [s] := by
          rw [List.take_add_one, Hy.out]; rfl
        rw [e]; exact hO7, B37, hW7, hsz7⟩
      case measure => simp [intOf]; omega
    · obtain rfl : k = n := by omega
      have hS := hO.out
      rw [List.take_of_length_le (by rw [Hl.out]; exact Nat.le_refl _)] at hS
      have HS := Lib.hid hS
      have Z1 := Z0.keep hg
      clear hS hO Z0
      go_wp2_with (first | ((with_reducible refine wpList_load_box (ty := 46) (B3) ?_ ?_ Try.underlying46 ?_ ?_ ?_); (focus (exact rfl)); (focus (exact ⟨_, rfl, rfl⟩)); (focus (exact rfl)); (focus kernel_rfl)) | ((with_reducible refine wpList_store_box (ty := 46) (Z1) ((trL t o k c)) ?_ ?_ ?_ ?_ ?_ ?_); (focus (exact rfl)); (focus (exact ⟨_, _, rfl, rfl, rfl⟩)); (focus (exact rfl)); (focus kernel_rfl); (focus kernel_rfl)))
      refine bodyPost_ret ((Z1.setAll (us := trL t o k c) rfl).ret1 rfl _ rfl Try.underlying46 rfl (by kernel_rfl)) rfl ?_
      have hle := Hle.out
      have hbx := HBX.out
      have hbb := Hb.out
      have hszz := Hsz.out
      refine ⟨o, c, rfl, ?_, (hg0.trans hg).setCells (by omega) _ _⟩
      refine (ownS_stores (by omega) (by omega) _ _ _ HS.out).weak (fun w x vs h => SnB_lower (by omega) h) |>.lower (by omega)
end Go.Proofs.Ytopomocbjlikjaa
