import Derived.Test.YtidfelbaegaphaaDoorCl7
namespace Go.Proofs.YtidfelbaegaphaaDoor
set_option linter.unusedVariables false
set_option linter.unusedSimpArgs false
open Go.BigFrame Go.RowKit Go.WideShapes

theorem recT : SlT Tryd.prog 22 49 15 192 := ⟨Tryd.underlying22, by
  obtain ⟨i, hi, hz, hsi, hby⟩ := info_parts (show (Tryd.prog.info? 49).map (fun i => (i.zero, i.size, i.bytes)) = some (some (.agg zR.toArray), 15, 192) by kernel_rfl)
  exact ⟨i, _, hi, hz, hsi, hby, rfl⟩, by decide⟩
/-- rows of the call's own lie beside an older block -/
theorem OwnAt.hide {w : World} {base : Nat} {oa : Option Addr} {n cap : Nat} {l : List Rw} (h : OwnAt w base oa n cap l) {r : Option Nat} (hr : ∀ g, r = some g → g < base) : RowsAt (hideB w r) oa n cap l := by
  obtain ⟨h1, h2, h3, h4, ⟨b, off, h5, h6⟩, h7⟩ := h.rows
  refine ⟨h1, h2, h3, h4, ⟨b, off, fun q => ⟨(h5 q).1, by rw [hideB_size]; exact (h5 q).2⟩, fun i hi => ?_⟩, h7⟩
  have hb : base ≤ b := h.block (by rw [(h5 (by omega)).1]; rfl)
  have hne : r ≠ some b := fun e => by have := hr b e; omega
  exact ⟨hideB_cell.2 ⟨hne, (h6 i hi).1⟩, hideB_cell.2 ⟨hne, (h6 i hi).2⟩⟩
theorem OwnS.hideE {w : World} {base : Nat} {T : TypeId} {oa : Option Addr} {n cap : Nat} {l : List En} (h : OwnS EnE 2 T w base oa n cap l) {r : Option Nat} (hr : ∀ g, r = some g → g < base) : EntsAt (hideB w r) oa n cap l := by
  have hb := fun g hg => (h.lt g hg).1
  obtain ⟨h1, h2, h3, h4, b, off, h5, h6⟩ := h.sl EnE_mono
  refine ⟨h1, h2, h3, h4, b, off, fun q => ⟨(h5 q).1, by rw [hideB_size]; exact (h5 q).2⟩, fun i x hi => ?_⟩
  obtain ⟨vs, e1, e2, e3, e4⟩ := h6 i x hi
  have hil : i < n := by have := (List.getElem?_eq_some_iff.1 hi).1; omega
  have hbb : base ≤ b := hb b (by rw [(h5 (by omega)).1]; rfl)
  have hne : r ≠ some b := fun e => by have := hr b e; omega
  exact ⟨vs, e1, e2, e3, fun j u hj => hideB_cell.2 ⟨hne, e4 j u hj⟩⟩
theorem xL_one (x : Rx) (o1 : Option Addr) (n1 c1 : Nat) (o2 : Option Addr) (n2 c2 : Nat) : ∀ u ∈ xL x o1 n1 c1 o2 n2 c2, u.oneCell' = true := by
  intro u hu
  simp only [List.mem_cons, List.not_mem_nil, or_false] at hu
  rcases hu with rfl | rfl | rfl | rfl | rfl | rfl | rfl | rfl | rfl | rfl | rfl | rfl | rfl | rfl | rfl <;> rfl
/-- a clone in a block of one, beside an older block -/
theorem clone_one {w3 : World} {base : Nat} {y : Ry} {o1 : Option Addr} {n1 c1 : Nat} {o2 : Option Addr} {n2 c2 : Nat} {T T2 : TypeId} (hO : OwnAt w3 base o1 n1 c1 y.x.r.rows) (hS : OwnS EnE 2 T2 w3 base o2 n2 c2 y.ents) (hz : RxSz y.x) (hb3 : base ≤ w3.heap.size) {r : Option Nat} (hr : ∀ g, r = some g → g < base) :
    SlE RyE 15 (hideB (w3.alloc (.cells (xL y.x o1 n1 c1 o2 n2 c2).toArray T)) r) (some ⟨w3.heap.size, 0, none⟩) 1 1 [y] := by
  have hm := hideB_gr (r := r) ((Gr.refl w3).alloc (.cells (xL y.x o1 n1 c1 o2 n2 c2).toArray T))
  refine SlE.one (by decide) (Nat.le_refl _) (by unfold maxLen; omega) rfl (xL_one _ _ _ _ _ _ _) ⟨o1, n1, c1, o2, n2, c2, rfl, (hO.hide hr).ex hm, (hS.hideE hr).ex EnE_mono hm, hz⟩ fun j u hj => ?_
  refine hideB_cell.2 ⟨fun e => by have := hr _ e; omega, ?_⟩
  have := World.cell?_alloc_new w3 (xL y.x o1 n1 c1 o2 n2 c2).toArray T j
  rw [Nat.zero_add, this]
  simpa using hj

set_option maxRecDepth 100000 in
set_option maxHeartbeats 4000000 in
theorem own_recs (oa : Option Addr) (n cap : Nat) (l : List Ry) (w : World) (h : RecsAt w oa n cap l) (hn : n ≤ 1000) (hrs : ∀ (i : Nat) (y : Ry), l[i]? = some y → y.x.r.rows.length ≤ 100) (hes : ∀ (i : Nat) (y : Ry), l[i]? = some y → y.ents.length * 24 ≤ 140737488355328) :
    Calls Tryd.prog 8 #[.slice oa n cap] w fun e w' => ∃ o c, e = .returned (.slice o n c) ∧ RecsAt w' o n c l ∧ Gr w w' := by
  have Hl := Lib.hid h.len
  have Hrs := Lib.hid hrs
  have Hes := Lib.hid hes
  have hcl := h.cap_le
  have hcm := h.cap_max
  unfold maxLen at hcm
  obtain ⟨b, off, ho, hc⟩ := h.get
  have Ho := Lib.hid ho
  have Hc := Lib.hid hc
  clear hrs hes h ho hc
  go_enter Tryd.func8, Tryd.ntmps8
  go_wp2_with fail
  go_loopw [3, 8] (fun s3 s8 wr => ∃ (k : Nat) (o : Option Addr) (c : Nat), k ≤ n ∧ s8 = .int .i64 k ∧ s3 = .slice o k c ∧ Hid (OwnS RyE 15 49 wr w.heap.size o k c (l.take k)) ∧ Gr w wr) (fun _ s8 _ => n - (intOf s8).toNat)
  case atStart => exact ⟨0, none, 0, Nat.zero_le _, rfl, rfl, Lib.hid (OwnS.nil _ _ _ _ _), Gr.refl _⟩
  case round =>
    obtain ⟨k, o, c, hk, rfl, rfl, hO, hg⟩ := hrel
    by_cases hlt : k < n
    · have hy : l[k]? = some (l[k]'(by have := Hl.out; omega)) := List.getElem?_eq_getElem _
      generalize (l[k]'(by have := Hl.out; omega)) = y at hy
      obtain ⟨o1, n1, c1, o2, n2, c2, R⟩ := Hc.out k y hy
      have R1 := R.keep hg
      have hI := run_rec cap Ho.out hlt
      have hn1 : n1 ≤ 100 := by have h1 := Hrs.out _ _ hy; have h2 := R1.rows.len; omega
      have hn2 : n2 * 24 ≤ 140737488355328 := by have h1 := Hes.out _ _ hy; have h2 := R1.ents.len; rw [h2] at h1; exact h1
      have Hy := Lib.hid hy
      clear hy R
      go_upto_region 4 with fail
      go_cut [5] (fun s5 wx => ∃ b5 : Nat, s5 = .pointer (some ⟨b5, 0, none⟩) ∧ Bx wx b5 (xL y.x o1 n1 c1 o2 n2 c2) ∧ Gr wr wx)
      case first =>
        go_wp2_with (first | (refine wpList_load_mid rfl 49 _ rfl _ _ rfl _ _ (R1).rng Tryd.underlying49 rfl (by kernel_rfl) ?_) | (refine wpList_store_mid rfl 49 _ _ rfl _ 0 _ rfl rfl (Bx.new _ _ _ rfl).may (by kernel_rfl) (by kernel_rfl) ?_))
        go_meet
        exact ⟨wr.heap.size, rfl, (Bx.new wr _ _ rfl).setAll rfl, ((Gr.refl _).alloc _).setCells (Nat.le_refl _) _ _⟩
      case rest =>
        obtain ⟨b5, rfl, hb5, hg5⟩ := hcut
        have R2 := R1.keep hg5
        have hC := Lib.hid (clone_any y o1 n1 c1 o2 n2 c2 wc R2.rows R2.ents (by omega) hn2)
        have HZ := Lib.hid R2.size
        have hO2 := Lib.hid (hO.out.keep RyE_mono hg5)
        have hgx := hg.trans hg5
        clear hI R1 R2 hn2
        go_wp2_with (first | (refine wpList_load_mid rfl 49 _ rfl _ 0 rfl _ _ (hb5).rng Tryd.underlying49 rfl (by kernel_rfl) ?_) | (go_at_call 20; (with_reducible refine hC.out.mono ?_); rintro e w3 ⟨p1, q1, d1, p2, q2, d2, rfl, hO3, hS3, hg3⟩; have hO4 := hO2.out.keep RyE_mono (hg3.trans ((Gr.refl _).alloc (.cells (xL y.x p1 q1 d1 p2 q2 d2).toArray 49))); have hsrc := clone_one (T := 49) hO3 hS3 HZ.out hg3.le (r := Value.ownBlock (.slice o k c)) (fun g hg => (hO2.out.lt g hg).2); have HO4 := Lib.hid hO4; have Hsrc := Lib.hid hsrc; have HO3 := Lib.hid hO3; have HS3 := Lib.hid hS3; clear hO4 hsrc hO3 hS3) | (at_builtin; refine wpList_app RyE_mono recT rfl _ _ rfl (base := w.heap.size) ((hgx.trans hg3).alloc _).le rfl HO4.out rfl Hsrc.out (by unfold maxLen; omega) (by omega) ?_; intro oc k3 w4 ho4 hb4; (have hg4 : Gr w w4 := HO4.out.gr hb4 ((hgx.trans hg3).alloc _) (Nat.le_refl _)); have HO5 := Lib.hid ho4; clear ho4 hb4))
        go_roundw
        case rel => exact ⟨k + 1, oc, k3, by omega, by go_num, rfl, by
          have e : l.take (k + 1) = l.take k ++ [y] := by
            rw [List.take_add_one, Hy.out]; rfl
          rw [e]; exact HO5, hg4⟩
        case measure => simp [intOf]; omega
    · obtain rfl : k = n := by omega
      have hS := hO.out.sl RyE_mono
      rw [List.take_of_length_le (by rw [Hl.out]; exact Nat.le_refl _)] at hS
      have HS := Lib.hid hS
      clear hS
      go_wp2_with fail
      go_ret
      exact ⟨o, c, rfl, HS.out, hg⟩
end Go.Proofs.YtidfelbaegaphaaDoor
