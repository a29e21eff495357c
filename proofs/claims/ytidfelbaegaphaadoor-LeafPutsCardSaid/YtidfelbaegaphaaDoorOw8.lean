import Derived.Test.YtidfelbaegaphaaDoorOw7
namespace Go.Proofs.YtidfelbaegaphaaDoor
set_option linter.unusedVariables false
set_option linter.unusedSimpArgs false
open Go.BigFrame Go.RowKit Go.WideShapes

/-! law07.own once more: what it hands back lies in new memory, wholly. -/
/-- what lies from block base on in the one lies in the other -/
structure Ab (base : Nat) (w w2 : World) : Prop where
  cell : ∀ b o v, base ≤ b → w.cell? ⟨b, o, none⟩ = some v → w2.cell? ⟨b, o, none⟩ = some v
  size : w.heap.size ≤ w2.heap.size
theorem OwnAt.ab {w w2 : World} {base : Nat} {oa : Option Addr} {n cap : Nat} {l : List Rw} (h : OwnAt w base oa n cap l) (hr : Ab base w w2) : RowsAt w2 oa n cap l := by
  obtain ⟨h1, h2, h3, h4, ⟨b, off, h5, h6⟩, h7⟩ := h.rows
  refine ⟨h1, h2, h3, h4, ⟨b, off, fun q => ⟨(h5 q).1, Nat.lt_of_lt_of_le (h5 q).2 hr.size⟩, fun i hi => ?_⟩, h7⟩
  have hb : base ≤ b := h.block (by rw [(h5 (by omega)).1]; rfl)
  exact ⟨hr.cell _ _ _ hb (h6 i hi).1, hr.cell _ _ _ hb (h6 i hi).2⟩
theorem OwnS.abE {w w2 : World} {base : Nat} {T : TypeId} {oa : Option Addr} {n cap : Nat} {l : List En} (h : OwnS EnE 2 T w base oa n cap l) (hr : Ab base w w2) : EntsAt w2 oa n cap l := by
  have hb := fun g hg => (h.lt g hg).1
  obtain ⟨h1, h2, h3, h4, b, off, h5, h6⟩ := h.sl EnE_mono
  refine ⟨h1, h2, h3, h4, b, off, fun q => ⟨(h5 q).1, Nat.lt_of_lt_of_le (h5 q).2 hr.size⟩, fun i x hi => ?_⟩
  obtain ⟨vs, e1, e2, e3, e4⟩ := h6 i x hi
  have hil : i < n := by have := (List.getElem?_eq_some_iff.1 hi).1; omega
  have hbb : base ≤ b := hb b (by rw [(h5 (by omega)).1]; rfl)
  exact ⟨vs, e1, e2, e3, fun j u hj => hr.cell _ _ _ hbb (e4 j u hj)⟩
/-- a record all whose memory lies from block base on -/
def RyB (base : Nat) : EP Ry := fun w y vs => ∀ w2, Ab base w w2 → RyE w2 y vs
theorem RyB_mono (base : Nat) : Mono (RyB base) := fun w w' y vs hg h w2 h2 => h w2 ⟨fun b o v hb q => h2.cell b o v hb (hg.cell b o v q), Nat.le_trans hg.size h2.size⟩
theorem RyB.here {base : Nat} {w : World} {y : Ry} {vs : List Value} (h : RyB base w y vs) : RyE w y vs := h w ⟨fun _ _ _ _ q => q, Nat.le_refl _⟩
/-- records of one's own, beside a block that is older -/
theorem OwnS.recs {w : World} {base : Nat} {T : TypeId} {oa : Option Addr} {n cap : Nat} {l : List Ry} (h : OwnS (RyB base) 15 T w base oa n cap l) {r : Option Nat} (hr : ∀ g, r = some g → g < base) : RecsAt (hideB w r) oa n cap l := by
  have hb := fun g hg => (h.lt g hg).1
  obtain ⟨h1, h2, h3, h4, b, off, h5, h6⟩ := h.sl (RyB_mono base)
  refine ⟨h1, h2, h3, h4, b, off, fun q => ⟨(h5 q).1, by rw [hideB_size]; exact (h5 q).2⟩, fun i x hi => ?_⟩
  obtain ⟨vs, e1, e2, e3, e4⟩ := h6 i x hi
  have hil : i < n := by have := (List.getElem?_eq_some_iff.1 hi).1; omega
  have hbb : base ≤ b := hb b (by rw [(h5 (by omega)).1]; rfl)
  have hne : r ≠ some b := fun e => by have := hr b e; omega
  exact ⟨vs, e1, e2, e3 _ ⟨fun b o v hb q => hideB_cell.2 ⟨fun e => by have := hr b e; omega, q⟩, by rw [hideB_size]; exact Nat.le_refl _⟩, fun j u hj => hideB_cell.2 ⟨hne, e4 j u hj⟩⟩
theorem OwnS.recs0 {w : World} {base : Nat} {T : TypeId} {oa : Option Addr} {n cap : Nat} {l : List Ry} (h : OwnS (RyB base) 15 T w base oa n cap l) : RecsAt w oa n cap l := by
  obtain ⟨h1, h2, h3, h4, b, off, h5, h6⟩ := h.sl (RyB_mono base)
  refine ⟨h1, h2, h3, h4, b, off, h5, fun i x hi => ?_⟩
  obtain ⟨vs, e1, e2, e3, e4⟩ := h6 i x hi
  exact ⟨vs, e1, e2, e3.here, e4⟩
theorem clone_oneB {w3 : World} {base base0 : Nat} {y : Ry} {o1 : Option Addr} {n1 c1 : Nat} {o2 : Option Addr} {n2 c2 : Nat} {T T2 : TypeId} (hO : OwnAt w3 base o1 n1 c1 y.x.r.rows) (hS : OwnS EnE 2 T2 w3 base o2 n2 c2 y.ents) (hz : RxSz y.x) (hb3 : base ≤ w3.heap.size) (hb0 : base0 ≤ base) {r : Option Nat} (hr : ∀ g, r = some g → g < base) :
    SlE (RyB base0) 15 (hideB (w3.alloc (.cells (xL y.x o1 n1 c1 o2 n2 c2).toArray T)) r) (some ⟨w3.heap.size, 0, none⟩) 1 1 [y] := by
  have hg := (Gr.refl w3).alloc (.cells (xL y.x o1 n1 c1 o2 n2 c2).toArray T)
  refine SlE.one (by decide) (Nat.le_refl _) (by unfold maxLen; omega) rfl (xL_one y.x o1 n1 c1 o2 n2 c2) (fun w2 h2 => ?_) (fun j u (hj : (xL y.x o1 n1 c1 o2 n2 c2)[j]? = some u) => ?_)
  · have hA : Ab base w3 w2 := ⟨fun b o v hb q => h2.cell b o v (Nat.le_trans hb0 hb) (hideB_cell.2 ⟨fun e => by have := hr b e; omega, hg.keep q⟩), by have h3 := h2.size; have h4 := hg.le; rw [hideB_size] at h3; omega⟩
    exact ⟨o1, n1, c1, o2, n2, c2, rfl, hO.ab hA, hS.abE hA, hz⟩
  refine hideB_cell.2 ⟨fun e => by have := hr _ e; omega, ?_⟩
  have := World.cell?_alloc_new w3 (xL y.x o1 n1 c1 o2 n2 c2).toArray T j
  rw [Nat.zero_add, this]
  simpa using hj

set_option maxRecDepth 100000 in
set_option maxHeartbeats 4000000 in
theorem own_recsB (oa : Option Addr) (n cap : Nat) (l : List Ry) (w : World) (h : RecsAt w oa n cap l) (hn : n ≤ 1000) (hrs : ∀ (i : Nat) (y : Ry), l[i]? = some y → y.x.r.rows.length ≤ 100) (hes : ∀ (i : Nat) (y : Ry), l[i]? = some y → y.ents.length * 24 ≤ 140737488355328) :
    Calls Tryd.prog 8 #[.slice oa n cap] w fun e w' => ∃ o c, e = .returned (.slice o n c) ∧ OwnS (RyB w.heap.size) 15 49 w' w.heap.size o n c l ∧ Gr w w' := by
  have Hl := Lib.hid h.len
  have Hrs := Lib.hid hrs
  have Hes := Lib.hid hes
  have hcl := h.cap_le
  have hcm := h.cap_max
  unfold maxLen at hcm
  obtain ⟨b, off, ho, hc⟩ := h.get
  have Ho := Lib.hid ho
  have Hc := Lib.hid hc
  clear hrs hes h ho hc
  go_enter Tryd.func8, Tryd.ntmps8
  go_wp2_with fail
  go_loopw [3, 8] (fun s3 s8 wr => ∃ (k : Nat) (o : Option Addr) (c : Nat), k ≤ n ∧ s8 = .int .i64 k ∧ s3 = .slice o k c ∧ Hid (OwnS (RyB w.heap.size) 15 49 wr w.heap.size o k c (l.take k)) ∧ Gr w wr) (fun _ s8 _ => n - (intOf s8).toNat)
  case atStart => exact ⟨0, none, 0, Nat.zero_le _, rfl, rfl, Lib.hid (OwnS.nil _ _ _ _ _), Gr.refl _⟩
  case round =>
    obtain ⟨k, o, c, hk, rfl, rfl, hO, hg⟩ := hrel
    by_cases hlt : k < n
    · have hy : l[k]? = some (l[k]'(by have := Hl.out; omega)) := List.getElem?_eq_getElem _
      generalize (l[k]'(by have := Hl.out; omega)) = y at hy
      obtain ⟨o1, n1, c1, o2, n2, c2, R⟩ := Hc.out k y hy
      have R1 := R.keep hg
      have hI := run_rec cap Ho.out hlt
      have hn1 : n1 ≤ 100 := by have h1 := Hrs.out _ _ hy; have h2 := R1.rows.len; omega
      have hn2 : n2 * 24 ≤ 140737488355328 := by have h1 := Hes.out _ _ hy; have h2 := R1.ents.len; rw [h2] at h1; exact h1
      have Hy := Lib.hid hy
      clear hy R
      go_upto_region 4 with fail
      go_cut [5] (fun s5 wx => ∃ b5 : Nat, s5 = .pointer (some ⟨b5, 0, none⟩) ∧ Bx wx b5 (xL y.x o1 n1 c1 o2 n2 c2) ∧ Gr wr wx)
      case first =>
        go_wp2_with (first | (refine wpList_load_mid rfl 49 _ rfl _ _ rfl _ _ (R1).rng Tryd.underlying49 rfl (by kernel_rfl) ?_) | (refine wpList_store_mid rfl 49 _ _ rfl _ 0 _ rfl rfl (Bx.new _ _ _ rfl).may (by kernel_rfl) (by kernel_rfl) ?_))
        go_meet
        exact ⟨wr.heap.size, rfl, (Bx.new wr _ _ rfl).setAll rfl, ((Gr.refl _).alloc _).setCells (Nat.le_refl _) _ _⟩
      case rest =>
        obtain ⟨b5, rfl, hb5, hg5⟩ := hcut
        have R2 := R1.keep hg5
        have hC := Lib.hid (clone_any y o1 n1 c1 o2 n2 c2 wc R2.rows R2.ents (by omega) hn2)
        have HZ := Lib.hid R2.size
        have hO2 := Lib.hid (hO.out.keep (RyB_mono _) hg5)
        have hgx := hg.trans hg5
        clear hI R1 R2 hn2
        go_wp2_with (first | (refine wpList_load_mid rfl 49 _ rfl _ 0 rfl _ _ (hb5).rng Tryd.underlying49 rfl (by kernel_rfl) ?_) | (go_at_call 20; (with_reducible refine hC.out.mono ?_); rintro e w3 ⟨p1, q1, d1, p2, q2, d2, rfl, hO3, hS3, hg3⟩; have hO4 := hO2.out.keep (RyB_mono _) (hg3.trans ((Gr.refl _).alloc (.cells (xL y.x p1 q1 d1 p2 q2 d2).toArray 49))); have hsrc := clone_oneB (T := 49) hO3 hS3 HZ.out hg3.le hgx.le (r := Value.ownBlock (.slice o k c)) (fun g hg => (hO2.out.lt g hg).2); have HO4 := Lib.hid hO4; have Hsrc := Lib.hid hsrc; have HO3 := Lib.hid hO3; have HS3 := Lib.hid hS3; clear hO4 hsrc hO3 hS3) | (at_builtin; refine wpList_app (RyB_mono _) recT rfl _ _ rfl (base := w.heap.size) ((hgx.trans hg3).alloc _).le rfl HO4.out rfl Hsrc.out (by unfold maxLen; omega) (by omega) ?_; intro oc k3 w4 ho4 hb4; (have hg4 : Gr w w4 := HO4.out.gr hb4 ((hgx.trans hg3).alloc _) (Nat.le_refl _)); have HO5 := Lib.hid ho4; clear ho4 hb4))
        go_roundw
        case rel => exact ⟨k + 1, oc, k3, by omega, by go_num, rfl, by
          have e : l.take (k + 1) = l.take k ++ [y] := by
            rw [List.take_add_one, Hy.out]; rfl
          rw [e]; exact HO5, hg4⟩
        case measure => simp [intOf]; omega
    · obtain rfl : k = n := by omega
      have hS := hO.out
      rw [List.take_of_length_le (by rw [Hl.out]; exact Nat.le_refl _)] at hS
      have HS := Lib.hid hS
      clear hS
      go_wp2_with fail
      go_ret
      exact ⟨o, c, rfl, HS.out, hg⟩
end Go.Proofs.YtidfelbaegaphaaDoor
