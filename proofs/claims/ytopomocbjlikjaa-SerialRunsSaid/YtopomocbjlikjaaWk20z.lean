import Derived.Test.YtopomocbjlikjaaFw20z
import Derived.Test.YtopomocbjlikjaaWrz
import Derived.Laws.ResultCell
namespace Go.Proofs.Ytopomocbjlikjaa
set_option linter.unusedVariables false
set_option linter.unusedSimpArgs false
open Go.BigFrame Go.RowKit Go.WideShapes

/-! serial: write, Right. -/
def wtOf (s : Sn) : Wt := if s.kind = 4 then ⟨s.key, ⟨#[]⟩, true⟩ else ⟨s.key, s.val, false⟩
abbrev wtL (r : Wt) : List Value := [.string r.key, .string r.val, .bool r.gone]
abbrev zWt : List Value := [.string ⟨#[]⟩, .string ⟨#[]⟩, .bool false]
theorem ret_cell3 {P : Program} {w : World} {b : Nat} {vs : List Value} (h : Bx w b vs) {fn : Func} {p : Tmp} {ty : TypeId} (hr : fn.results = #[.cell p ty]) (tmps : Array Value) (hp : tmps.getD p undef = .pointer (some ⟨b, 0, none⟩))
    {d : TypeDesc} (hu : P.underlying ty = some d) (hd : d.isRow = true) (hi : (P.info? ty).map (·.size) = some vs.length) : (results fn tmps).run P w = .ok (.agg vs.toArray) w := h.ret1 hr tmps hp hu hd hi
set_option maxRecDepth 100000 in
set_option maxHeartbeats 2000000 in
theorem write_any (s : Sn) (p : Option Addr) (n c : Nat) (w : World) : Calls Try.prog 26 #[.agg (snL s p n c).toArray] w fun e w' => e = .returned (.agg (wtL (wtOf s)).toArray) ∧ Gr w w' := by
  obtain ⟨W, hW⟩ : ∃ W, W = (w.alloc (.cells (snL s p n c).toArray 50)).alloc (.cells zWt.toArray 72) := ⟨_, rfl⟩
  have B0 : Bx W w.heap.size (snL s p n c) := by rw [hW]; exact ((Bx.new w _ _ rfl).keep ((Gr.refl _).alloc _)).of (by simp)
  have Z0 : Bx W (w.heap.size + 1) zWt := by rw [hW]; exact (Bx.new (w.alloc _) _ _ (by rw [size_alloc1])).of (by simp)
  have hg0 : Gr w W := by rw [hW]; exact ((Gr.refl _).alloc _).alloc _
  go_enter Try.func26, Try.ntmps26
  go_upto_region 1 with fail
  rw [← hW]
  clear hW
  have hle : w.heap.size ≤ w.heap.size + 1 := by omega
  have v0 := B0.cell 0 rfl
  have v1 := B0.cell 1 rfl
  have v2 := B0.cell 2 rfl
  by_cases h4 : s.kind = 4
  · have e : wtOf s = ⟨s.key, ⟨#[]⟩, true⟩ := by unfold wtOf; rw [if_pos h4]
    have E := Lib.hid e
    rw [h4] at v0
    clear h4 e
    go_wp2_with ((with_reducible refine wpList_store_box (ty := 72) (Z0) ([.string s.key, .string ⟨#[]⟩, .bool true]) ?_ ?_ ?_ ?_ ?_ ?_); (focus (exact rfl)); (focus (exact ⟨_, _, rfl, rfl, rfl⟩)); (focus (exact rfl)); (focus kernel_rfl); (focus kernel_rfl))
    refine bodyPost_ret ((Z0.setAll (us := [.string s.key, .string ⟨#[]⟩, .bool true]) rfl).ret1 rfl _ rfl Try.underlying72 rfl (by kernel_rfl)) rfl ?_
    exact ⟨by rw [E.out], hg0.setCells hle _ 0⟩
  · have e : wtOf s = ⟨s.key, s.val, false⟩ := by unfold wtOf; rw [if_neg h4]
    have E := Lib.hid e
    have hk : (s.kind == 4) = false := by simpa using h4
    clear h4 e
    go_wp2_with ((with_reducible refine wpList_store_box (ty := 72) (Z0) ([.string s.key, .string s.val, .bool false]) ?_ ?_ ?_ ?_ ?_ ?_); (focus (exact rfl)); (focus (exact ⟨_, _, rfl, rfl, rfl⟩)); (focus (exact rfl)); (focus kernel_rfl); (focus kernel_rfl))
    refine bodyPost_ret ((Z0.setAll (us := [.string s.key, .string s.val, .bool false]) rfl).ret1 rfl _ rfl Try.underlying72 rfl (by kernel_rfl)) rfl ?_
    exact ⟨by rw [E.out], hg0.setCells hle _ 0⟩
/-- one write in a block of its own -/
theorem writes_new (w : World) (r : Wt) (hk : r.key.size ≤ maxLen) (hv : r.val.size ≤ maxLen) {b : Nat} (hb : b = w.heap.size) : WritesAt (w.alloc (.cells (wtL r).toArray 72)) (some ⟨b, 0, none⟩) 1 1 [r] := by
  subst hb
  exact write_one (Nat.le_refl _) (by unfold maxLen; omega) (World.cell?_alloc_new w _ _ 0) (World.cell?_alloc_new w _ _ 1) (World.cell?_alloc_new w _ _ 2) hk hv
theorem wtOf_key (s : Sn) (h : SnSz s) : (wtOf s).key.size ≤ maxLen ∧ (wtOf s).val.size ≤ maxLen := by
  unfold wtOf
  split
  · exact ⟨h.key, Nat.zero_le _⟩
  · exact ⟨h.key, h.val⟩
theorem writesOkB_one (r : Wt) : writesOkB [r] = wfits r := by
  unfold writesOkB
  cases h : wfits r
  · rw [decide_eq_false]
    intro q
    have := (q 0 (by simp)).1
    rw [show wAt [r] 0 = r from rfl, h] at this
    cases this
  · rw [decide_eq_true]
    intro i hi
    obtain rfl : i = 0 := by simp at hi; exact hi
    exact ⟨h, fun q => absurd q (by omega)⟩
theorem okS_w {s : Sn} (h : s.kind = 3 ∨ s.kind = 4) : okS s = wfits (wtOf s) := by
  rw [okS_mid (by omega)]
  unfold wfits wtOf fitsB
  rcases h with h | h
  · rw [if_neg (by omega), h]
    simp
  · rw [if_pos h, h]
    have : decide ((⟨#[]⟩ : ByteArray) ≠ ByteArray.empty) = false := by simp; rfl
    have h2 : (⟨#[]⟩ : ByteArray).size = 0 := rfl
    simp [this, h2]
set_option maxRecDepth 100000 in
set_option maxHeartbeats 20000000 in
theorem right20_any (t : Tr) (p : Option Addr) (n c : Nat) (w : World) (h : SeenAt w p n c t.seen) :
    Calls Try.prog 15 #[.agg (trL t p n c).toArray] w fun e w' => e = .returned (.bool (okT t)) ∧ Gr w w' := by
  have Hl := Lib.hid h.len
  have hcl := h.cap_le
  have hcm := h.cap_max
  unfold maxLen at hcm
  have B0 : Bx (w.alloc (.cells (trL t p n c).toArray 46)) w.heap.size (trL t p n c) := (Bx.new w _ _ rfl).of (by simp)
  have hg0 := (Gr.refl w).alloc (.cells (trL t p n c).toArray 46)
  obtain ⟨b, off, ho, hc⟩ := (h.keep hg0).get
  have Ho := Lib.hid ho
  have Hc := Lib.hid hc
  clear ho hc h
  have HN := Lib.hid (@okT_no t)
  have HY := Lib.hid (@okT_yes t)
  go_enter Try.func15, Try.ntmps15
  go_upto_region 1 with fail
  generalize w.alloc (.cells (trL t p n c).toArray 46) = W at *
  generalize w.heap.size = b1 at *
  have v0 := B0.cell 0 rfl
  have v1 := B0.cell 1 rfl
  have v2 := B0.cell 2 rfl
  have v3 := B0.cell 3 rfl
  have v4 := B0.cell 4 rfl
  by_cases hA : 0 ≤ t.beg ∧ t.beg ≤ t.fin ∧ 0 ≤ t.snap ∧ 0 ≤ t.num
  rotate_left
  · have HE := Lib.hid (HN.out (.inl hA))
    clear HN HY
    go_wp2_with fail
    all_goals
      go_ret
      rw [HE.out]
      exact ⟨rfl, hg0⟩
  · by_cases hB : 0 < t.num ∧ t.num ≤ t.snap
    · have HE := Lib.hid (HN.out (.inr hB))
      obtain ⟨a1, a2, a3, a4⟩ := hA
      obtain ⟨b2, b3⟩ := hB
      clear HN HY
      go_wp2_with fail
      all_goals
        go_ret
        rw [HE.out]
        exact ⟨rfl, hg0⟩
    · have HE := Lib.hid (HY.out hA hB)
      obtain ⟨a1, a2, a3, a4⟩ := hA
      clear HN HY
      go_cut [36] (fun s36 wx => s36 = .bool false ∧ wx = W)
      case first =>
        have hB : ¬ t.num > 0 ∨ ¬ t.snap ≥ t.num := by omega
        rcases hB with hB | hB
        all_goals
          go_wp2_with fail
          go_meet
          refine ⟨?_, rfl⟩
          first | rfl | (congr 1; simp; omega)
      case rest =>
        obtain ⟨rfl, rfl⟩ := hcut
        clear hB a1 a2 a3 a4 v0 v1 v2 v3
        go_wp2_with fail
        go_loopw [40] (fun s40 wr => ∃ k : Nat, k ≤ n ∧ s40 = .int .i64 k ∧ Hid ((t.seen.take k).all okS = true) ∧ Gr wc wr) (fun s40 _ => n - (intOf s40).toNat)
        case atStart => exact ⟨0, Nat.zero_le _, rfl, Lib.hid rfl, Gr.refl _⟩
        case round =>
          obtain ⟨k, hk, rfl, hal, hg⟩ := hrel
          have v4 := hg.keep v4
          by_cases hlt : k < n
          · have hy : t.seen[k]? = some (t.seen[k]'(by have := Hl.out; omega)) := List.getElem?_eq_getElem _
            generalize (t.seen[k]'(by have := Hl.out; omega)) = s at hy
            obtain ⟨p1, m1, c1, R⟩ := Hc.out k s hy
            have R1 : SnAt wr b (off + k * 10) s p1 m1 c1 := R.keep hg
            have hI := run_seenP c Ho.out hlt
            have Z := (Bx.new wr zS.toArray 50 rfl).of (us := zS) (by simp)
            have hz := Lib.hid R.size
            have HNo := Lib.hid fun (q : okS s = false) => HE.out.trans (all_no hy q)
            have HYes := Lib.hid fun (q : okS s = true) => show (t.seen.take (k + 1)).all okS = true by
              rw [all_take hy, hal.out, q]; rfl
            clear R hy hal
            go_upto_region 6 with (first | (refine wpList_load_mid rfl 50 _ rfl _ _ rfl _ _ (R1).rng Try.underlying50 rfl (by kernel_rfl) ?_) | ((with_reducible refine wpList_store_box (ty := 50) (Z) ((snL s p1 m1 c1)) ?_ ?_ ?_ ?_ ?_ ?_); (focus (exact rfl)); (focus (exact ⟨_, _, rfl, rfl, rfl⟩)); (focus (exact rfl)); (focus kernel_rfl); (focus kernel_rfl)))
            have B4 := Z.setAll (us := snL s p1 m1 c1) rfl
            have hg4 : Gr wc ((wr.alloc (.cells zS.toArray 50)).setCells wr.heap.size 0 (snL s p1 m1 c1)) := hg.trans (((Gr.refl wr).alloc _).setCells (Nat.le_refl _) _ _)
            clear Z R1 hI hg
            generalize (wr.alloc (.cells zS.toArray 50)).setCells wr.heap.size 0 (snL s p1 m1 c1) = w4 at B4 hg4 ⊢
            generalize wr.heap.size = b4 at B4 ⊢
            have x0 := B4.cell 0 rfl
            by_cases h34 : s.kind = 3 ∨ s.kind = 4
            · have hq := okS_w h34
              have hW := Lib.hid fun w1 => write_any s p1 m1 c1 w1
              have hR := fun w1 => wright_any (some ⟨w1.heap.size, 0, none⟩) 1 1 [wtOf s] _ (writes_new w1 (wtOf s) (wtOf_key s hz.out).1 (wtOf_key s hz.out).2 rfl)
              rw [writesOkB_one, ← hq] at hR
              generalize wtOf s = r at *
              cases hf : okS s
              all_goals
                rw [hf] at hR
                have HR := Lib.hid hR
                clear hR
                rcases h34 with h3 | h3
                all_goals
                  rw [h3] at x0
                  clear h3 hq
                  go_wp2_with (first | ((with_reducible refine wpList_load_box (ty := 50) (B4) ?_ ?_ Try.underlying50 ?_ ?_ ?_); (focus (exact rfl)); (focus (exact ⟨_, rfl, rfl⟩)); (focus (exact rfl)); (focus kernel_rfl)) | (go_at_call 26; (with_reducible refine (hW.out _).mono ?_); rintro e w5 ⟨rfl, hg5⟩) | (go_at_call 25; (with_reducible refine (HR.out _).mono ?_); rintro e w6 ⟨rfl, hg6⟩; have hg7 := hg4.trans (hg5.trans (((Gr.refl _).alloc _).trans hg6))))
                  first
                  | (go_ret
                     rw [(HNo.out hf)]
                     exact ⟨rfl, hg0.trans hg7⟩)
                  | (go_roundw
                     case rel => exact ⟨k + 1, by omega, by go_num, Lib.hid (HYes.out hf), hg7⟩
                     case measure => simp [intOf]; omega)
            · by_cases h25 : s.kind = 2 ∨ s.kind = 5
              · have hq : okS s = true := by rw [okS_mid (by omega)]; simp [show ¬ s.kind = 3 by omega, show ¬ s.kind = 4 by omega]
                have HY2 := Lib.hid (HYes.out hq)
                clear h34 HNo HYes hq
                rcases h25 with h3 | h3
                all_goals
                  rw [h3] at x0
                  clear h3
                  go_wp2_with fail
                  go_roundw
                  case rel => exact ⟨k + 1, by omega, by go_num, HY2, hg4⟩
                  case measure => simp [intOf]; omega
              · have HE2 := Lib.hid (HNo.out (okS_kind (by omega)))
                have e2 : (s.kind == 2) = false := by rw [beq_eq_false_iff_ne]; omega
                have e3 : (s.kind == 3) = false := by rw [beq_eq_false_iff_ne]; omega
                have e4 : (s.kind == 4) = false := by rw [beq_eq_false_iff_ne]; omega
                have e5 : (s.kind == 5) = false := by rw [beq_eq_false_iff_ne]; omega
                clear HNo HYes h34 h25
                go_wp2_with fail
                go_ret
                rw [HE2.out]
                exact ⟨rfl, hg0.trans hg4⟩
          · obtain rfl : k = n := by omega
            have hq := hal.out
            rw [List.take_of_length_le (by rw [Hl.out]; exact Nat.le_refl _)] at hq
            have HQ := Lib.hid (HE.out.trans hq)
            clear hq hal
            go_wp2_with fail
            go_ret
            rw [HQ.out]
            exact ⟨rfl, hg0.trans hg⟩
end Go.Proofs.Ytopomocbjlikjaa
