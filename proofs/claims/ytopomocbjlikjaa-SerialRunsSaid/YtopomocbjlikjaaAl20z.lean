import Derived.Test.YtopomocbjlikjaaGv20z
namespace Go.Proofs.Ytopomocbjlikjaa
set_option linter.unusedVariables false
set_option linter.unusedSimpArgs false
open Go.BigFrame Go.RowKit Go.WideShapes

/-! Trips as the program has them. -/
theorem trL_one (t : Tr) (p : Option Addr) (n c : Nat) : ∀ u ∈ trL t p n c, u.oneCell' = true := by
  intro u hu
  simp only [List.mem_cons, List.not_mem_nil, or_false] at hu
  rcases hu with rfl | rfl | rfl | rfl | rfl <;> rfl
theorem tripT : SlT Try.prog 42 46 5 56 := ⟨Try.underlying42, by
  obtain ⟨i, hi, hz, hsi, hby⟩ := info_parts (show (Try.prog.info? 46).map (fun i => (i.zero, i.size, i.bytes)) = some (some (.agg zT.toArray), 5, 56) by kernel_rfl)
  exact ⟨i, _, hi, hz, hsi, hby, rfl⟩, by decide⟩
/-- what is of the call's own lies beside an older block -/
theorem ownS_hide {w : World} {B base : Nat} {T : TypeId} {oa : Option Addr} {n cap : Nat} {l : List Sn} (h : OwnS (SnB B) 10 T w base oa n cap l) {r : Option Nat} (hr : ∀ g, r = some g → g < base ∧ g < B) : SeenAt (hideB w r) oa n cap l := by
  have hb := fun g hg => (h.lt g hg).1
  obtain ⟨h1, h2, h3, h4, b, off, h5, h6⟩ := h.sl (SnB_mono B)
  refine ⟨h1, h2, h3, h4, b, off, fun q => ⟨(h5 q).1, by rw [hideB_size]; exact (h5 q).2⟩, fun i x hi => ?_⟩
  obtain ⟨vs, e1, e2, ⟨o, m, c, k1, k2, k3, k4⟩, e4⟩ := h6 i x hi
  have hil : i < n := by have := (List.getElem?_eq_some_iff.1 hi).1; omega
  have hbb : base ≤ b := hb b (by rw [(h5 (by omega)).1]; rfl)
  have hne : r ≠ some b := fun e => by have := hr b e; omega
  refine ⟨vs, e1, e2, ⟨o, m, c, k1, ?_, k3⟩, fun j u hj => hideB_cell.2 ⟨hne, e4 j u hj⟩⟩
  obtain ⟨g1, g2, g3, g4, ⟨b2, off2, g5, g6⟩, g7⟩ := k2
  refine ⟨g1, g2, g3, g4, ⟨b2, off2, fun q => ⟨(g5 q).1, by rw [hideB_size]; exact (g5 q).2⟩, fun i hi => ?_⟩, g7⟩
  have hne2 : r ≠ some b2 := fun e => by have h1 := hr b2 e; have h2 := k4 _ (g5 (by omega)).1; dsimp only at h2; omega
  exact ⟨hideB_cell.2 ⟨hne2, (g6 i hi).1⟩, hideB_cell.2 ⟨hne2, (g6 i hi).2⟩⟩
/-- a copy in a block of one, beside an older block -/
theorem trip_one {w3 : World} {B base : Nat} {t : Tr} {o1 : Option Addr} {n1 c1 : Nat} {T T2 : TypeId} (hO : OwnS (SnB B) 10 T2 w3 base o1 n1 c1 t.seen) (hz : TrSz t) (hb3 : base ≤ w3.heap.size) {r : Option Nat} (hr : ∀ g, r = some g → g < base ∧ g < B) :
    SlE TrE 5 (hideB (w3.alloc (.cells (trL t o1 n1 c1).toArray T)) r) (some ⟨w3.heap.size, 0, none⟩) 1 1 [t] := by
  have hm := hideB_gr (r := r) ((Gr.refl w3).alloc (.cells (trL t o1 n1 c1).toArray T))
  refine SlE.one (by decide) (Nat.le_refl _) (by unfold maxLen; omega) rfl (trL_one _ _ _ _) ⟨o1, n1, c1, rfl, (ownS_hide hO hr).ex SnE_mono hm, hz⟩ fun j u hj => ?_
  refine hideB_cell.2 ⟨fun e => by have := hr _ e; omega, ?_⟩
  have := World.cell?_alloc_new w3 (trL t o1 n1 c1).toArray T j
  rw [Nat.zero_add, this]
  simpa using hj
set_option maxRecDepth 100000 in
set_option maxHeartbeats 20000000 in
theorem all20_any (oa : Option Addr) (n cap : Nat) (l : List Tr) (w : World) (h : TripsAt w oa n cap l) {v : Nat} (hf : FewL l v) :
    Calls Try.prog 12 #[.slice oa n cap] w fun e w' => ∃ o c, e = .returned (.slice o n c) ∧ TripsAt w' o n c l ∧ Gr w w' := by
  have Hl := Lib.hid h.len
  have Hf := Lib.hid hf
  have hn : n ≤ 8 := by have h1 := hf.1; have h2 := h.len; omega
  have hcl := h.cap_le
  have hcm := h.cap_max
  unfold maxLen at hcm
  obtain ⟨b, off, ho, hc⟩ := h.get
  have Ho := Lib.hid ho
  have Hc := Lib.hid hc
  clear ho hc h hf
  go_enter Try.func12, Try.ntmps12
  go_wp2_with fail
  go_loopw [3, 8] (fun s3 s8 wr => ∃ (k : Nat) (o : Option Addr) (c : Nat), k ≤ n ∧ s8 = .int .i64 k ∧ s3 = .slice o k c ∧ Hid (OwnS TrE 5 46 wr w.heap.size o k c (l.take k)) ∧ Gr w wr) (fun _ s8 _ => n - (intOf s8).toNat)
  case atStart => exact ⟨0, none, 0, Nat.zero_le _, rfl, rfl, Lib.hid (OwnS.nil _ _ _ _ _), Gr.refl _⟩
  case round =>
    obtain ⟨k, o, c, hk, rfl, rfl, hO, hg⟩ := hrel
    by_cases hlt : k < n
    · have hy : l[k]? = some (l[k]'(by have := Hl.out; omega)) := List.getElem?_eq_getElem _
      generalize (l[k]'(by have := Hl.out; omega)) = t at hy
      obtain ⟨p1, m1, c1, R0⟩ := Hc.out k t hy
      have R1 := R0.keep hg
      have hI := run_trip cap Ho.out hlt
      have hFT := Hf.out.2 k t hy
      have Hy := Lib.hid hy
      have Z := (Bx.new wr zT.toArray 28 rfl).of (us := zT) (by simp)
      clear hy R0
      go_upto_region 5 with (first | (refine wpList_load_mid rfl 28 _ rfl _ _ rfl _ _ (R1).rng Try.underlying28 rfl (by kernel_rfl) ?_) | ((with_reducible refine wpList_store_box (ty := 28) (Z) ((trL t p1 m1 c1)) ?_ ?_ ?_ ?_ ?_ ?_); (focus (exact rfl)); (focus (exact ⟨_, _, rfl, rfl, rfl⟩)); (focus (exact rfl)); (focus kernel_rfl); (focus kernel_rfl)))
      have B5 := Z.setAll (us := trL t p1 m1 c1) rfl
      have hg5 : Gr wr ((wr.alloc (.cells zT.toArray 28)).setCells wr.heap.size 0 (trL t p1 m1 c1)) := ((Gr.refl wr).alloc _).setCells (Nat.le_refl _) _ _
      have R2 := R1.keep hg5
      have HG := Lib.hid (given20_any t p1 m1 c1 _ R2.seen (by have h1 := R2.seen.len; have h2 := hFT.1; omega) (fun i s hs => by have := (hFT.2 i s hs).rows; omega))
      have HZ := Lib.hid R2.size
      have hO2 := Lib.hid (hO.out.keep TrE_mono hg5)
      have hgx := hg.trans hg5
      have hlt5 := Lib.hid hO2.out.lt
      clear hI R1 R2 Z hg hg5 hO hFT
      generalize (wr.alloc (.cells zT.toArray 28)).setCells wr.heap.size 0 (trL t p1 m1 c1) = w5 at *
      generalize wr.heap.size = b5 at *
      go_wp2_with (first | ((with_reducible refine wpList_load_box (ty := 28) (B5) ?_ ?_ Try.underlying28 ?_ ?_ ?_); (focus (exact rfl)); (focus (exact ⟨_, rfl, rfl⟩)); (focus (exact rfl)); (focus kernel_rfl)) | (go_at_call 22; (with_reducible refine HG.out.mono ?_); rintro e w3 ⟨p1, d1, rfl, hO3, hg3⟩; have hO4 := hO2.out.keep TrE_mono (hg3.trans ((Gr.refl _).alloc (.cells (trL t p1 m1 d1).toArray 46))); have hsrc := trip_one (T := 46) hO3 HZ.out hg3.le (r := Value.ownBlock (.slice o k c)) (fun g hg => ⟨(hlt5.out g hg).2, (hlt5.out g hg).2⟩); have HO4 := Lib.hid hO4; have Hsrc := Lib.hid hsrc; clear hO4 hsrc hO3) | (at_builtin; refine wpList_app TrE_mono tripT rfl _ _ rfl (base := w.heap.size) ((hgx.trans hg3).alloc _).le rfl HO4.out rfl Hsrc.out (by unfold maxLen; omega) (by omega) ?_; intro oc k3 w4 ho4 hb4; (have hg4 : Gr w w4 := HO4.out.gr hb4 ((hgx.trans hg3).alloc _) (Nat.le_refl _)); have HO5 := Lib.hid ho4; clear ho4 hb4))
      go_roundw
      case rel => exact ⟨k + 1, oc, k3, by omega, by go_num, rfl, by
        have e : l.take (k + 1) = l.take k ++ [t] := by
          rw [List.take_add_one, Hy.out]; rfl
        rw [e]; exact HO5, hg4⟩
      case measure => simp [intOf]; omega
    · obtain rfl : k = n := by omega
      have hS := hO.out.sl TrE_mono
      rw [List.take_of_length_le (by rw [Hl.out]; exact Nat.le_refl _)] at hS
      have HS := Lib.hid hS
      clear hS
      go_wp2_with fail
      go_ret
      exact ⟨o, c, rfl, HS.out, hg⟩
end Go.Proofs.Ytopomocbjlikjaa
