import Derived.Test.YtopomocbjlikjaaDoorLc20z
import Derived.Deep.RegionHeld3
namespace Go.Proofs.YtopomocbjlikjaaDoor
set_option linter.unusedVariables false
set_option linter.unusedSimpArgs false
open Go.BigFrame Go.RowKit Go.WideShapes

/-! The law of states (serial). -/
set_option maxRecDepth 100000 in
set_option maxHeartbeats 40000000 in
theorem states20 (oa : Option Addr) (n cap : Nat) (l : List Tr) (w : World) (h : TripsAt w oa n cap l) (hh : w.cell? ⟨0, 0, none⟩ = some handleV) :
    Calls Tryd.prog 3 #[.slice oa n cap] w fun e w' => e = .returned (.bool true) ∧ Gr w w' := by
  have hFE := Lib.hid (few20_any oa n cap l w h)
  have H := Lib.hid h
  have Hh := Lib.hid hh
  have hcl := h.cap_le
  have hcm := h.cap_max
  unfold maxLen at hcm
  obtain ⟨b, off, ho, hc⟩ := h.get
  have Ho := Lib.hid ho
  have Hc := Lib.hid hc
  have Hl := Lib.hid h.len
  clear ho hc h hh
  go_enter Tryd.func3, Tryd.ntmps3
  go_wp2_with fail
  refine hFE.out.mono ?_
  rintro e w1 ⟨⟨b1, rfl, hb1⟩, hg1⟩
  cases b1
  · go_wp2_with fail
    refine (awake20_any _).mono ?_
    rintro e w2 ⟨rfl, hg2⟩
    go_wp2_with fail
    go_ret
    exact ⟨rfl, hg1.trans hg2⟩
  have Hf := Lib.hid (hb1 rfl)
  clear hb1 hFE
  have hn : n ≤ 8 := by have h1 := Hf.out.1; have h2 := Hl.out; omega
  go_wp2_with fail
  go_loopw [17] (fun s17 wr => ∃ (i : Nat), i ≤ n ∧ s17 = .int .i64 i ∧ Gr w wr) (fun s17 _ => n - (intOf s17).toNat)
  case atStart => exact ⟨0, Nat.zero_le _, rfl, hg1⟩
  case round =>
    obtain ⟨i, hi, rfl, hg⟩ := hrel
    by_cases hlt : i < n
    · have hy : l[i]? = some (l[i]'(by have := Hl.out; omega)) := List.getElem?_eq_getElem _
      generalize (l[i]'(by have := Hl.out; omega)) = t at hy
      obtain ⟨p, m, c, R0⟩ := Hc.out i t hy
      have R1 := R0.keep hg
      have hI := run_trip cap Ho.out hlt
      have hm8 : m ≤ 8 := by
        have h1 := (Hf.out.2 i t hy).1
        have h2 := R1.seen.len
        omega
      have Hrs := Lib.hid fun (j : Nat) (s : Sn) (hs : t.seen[j]? = some s) => show s.rows.length ≤ 1000 by have := ((Hf.out.2 i t hy).2 j s hs).rows; omega
      have Z := (Bx.new wr zT.toArray 27 rfl).of (us := zT) (by simp)
      clear hy R0
      go_upto_region 6 with (first | (refine wpList_load_mid rfl 27 _ rfl _ _ rfl _ _ (R1).rng Tryd.underlying27 rfl (by kernel_rfl) ?_) | ((with_reducible refine wpList_store_box (ty := 27) (Z) ((trL t p m c)) ?_ ?_ ?_ ?_ ?_ ?_); (focus (exact rfl)); (focus (exact ⟨_, _, rfl, rfl, rfl⟩)); (focus (exact rfl)); (focus kernel_rfl); (focus kernel_rfl)))
      have B7 := Z.setAll (us := trL t p m c) rfl
      have hg7 : Gr wr ((wr.alloc (.cells zT.toArray 27)).setCells wr.heap.size 0 (trL t p m c)) := ((Gr.refl wr).alloc _).setCells (Nat.le_refl _) _ _
      have HS7 := Lib.hid (R1.seen.keep hg7)
      have hgw7 := hg.trans hg7
      clear Z R1 hI hg hg7
      generalize (wr.alloc (.cells zT.toArray 27)).setCells wr.heap.size 0 (trL t p m c) = w7 at *
      generalize wr.heap.size = b7 at *
      (try simp only [Act.put])
      have hG := Lib.hid fun (w3 : World) (hq : Gr w7 w3) => given20_any t p m c w3 (HS7.out.keep hq) (by omega) Hrs.out
      have hR := Lib.hid fun (w3 : World) (o3 : Option Addr) (d3 : Nat) (hs : SeenAt w3 o3 m d3 t.seen) => right20_any t o3 m d3 w3 hs
      have hD := Lib.hid fun (w3 : World) (hq : Gr w7 w3) => refRightT_any t p m c w3 (HS7.out.keep hq)
      generalize okT t = ok at *
      have hbb : (ok != ok) = false := by simp
      have x0 := B7.cell 0 rfl
      have x1 := B7.cell 1 rfl
      have x2 := B7.cell 2 rfl
      have x3 := B7.cell 3 rfl
      have x4 := B7.cell 4 rfl
      go_cut [26] (fun s26 wx => s26 = .bool false ∧ Gr w wx)
      case first =>
        go_region_held3 (fun W' => W'.cell? ⟨b7, 0, none⟩ = some (.int .i64 t.beg) ∧ W'.cell? ⟨b7, 1, none⟩ = some (.int .i64 t.fin) ∧ W'.cell? ⟨b7, 2, none⟩ = some (.int .i64 t.snap) ∧ W'.cell? ⟨b7, 3, none⟩ = some (.int .i64 t.num) ∧ W'.cell? ⟨b7, 4, none⟩ = some (.slice p m c))
          (first | (go_split_ands; (repeat' apply And.intro) <;> first | with_reducible assumption | (with_reducible refine Gr.keep hg9 ?_; with_reducible assumption) | ((repeat (first | with_reducible refine drew1 ?_ | with_reducible refine alloc1 ?_ | with_reducible refine far1 ?_ (by omega))); first | with_reducible assumption | (with_reducible refine Gr.keep hg9 ?_; (repeat (first | with_reducible refine drew1 ?_ | with_reducible refine alloc1 ?_)); with_reducible assumption)))) (first | (go_at_call 8; (with_reducible refine Calls.mono (hG.out _ ?_) ?_); (focus ((repeat (first | with_reducible exact Gr.refl _ | with_reducible refine Gr.drewN ?_ _ | with_reducible refine Gr.drew ?_ | with_reducible refine Gr.alloc ?_ _ | with_reducible refine Gr.setCell ?_ ?_ _ | (with_reducible refine Gr.trans ?_ (by assumption)) | omega | (dsimp only; omega))); done)); rintro e w3 ⟨o3, d3, rfl, hr3, hg3⟩; (have hg9 : Gr w7 w3 := Gr.trans (by (repeat (first | with_reducible exact Gr.refl _ | with_reducible refine Gr.drewN ?_ _ | with_reducible refine Gr.drew ?_ | with_reducible refine Gr.alloc ?_ _ | with_reducible refine Gr.setCell ?_ ?_ _ | (with_reducible refine Gr.trans ?_ (by assumption)) | omega | (dsimp only; omega)))) hg3); (have Hr3 : Hid (SeenAt w3 o3 m d3 t.seen) := Lib.hid (SlE.weak (hr3.sl (SnB_mono _)) fun _ _ => SnB_E)); clear hr3) | (go_at_call 7; (with_reducible refine Calls.mono (hR.out _ _ _ (SeenAt.keep Hr3.out ?_)) ?_); (focus ((repeat (first | with_reducible exact Gr.refl _ | with_reducible refine Gr.drewN ?_ _ | with_reducible refine Gr.drew ?_ | with_reducible refine Gr.alloc ?_ _ | with_reducible refine Gr.setCell ?_ ?_ _ | (with_reducible refine Gr.trans ?_ (by assumption)) | omega | (dsimp only; omega))); done)); rintro e w4 ⟨rfl, hg4⟩; have hg9 : Gr w7 w4 := Gr.trans (by (repeat (first | with_reducible exact Gr.refl _ | with_reducible refine Gr.drewN ?_ _ | with_reducible refine Gr.drew ?_ | with_reducible refine Gr.alloc ?_ _ | with_reducible refine Gr.setCell ?_ ?_ _ | (with_reducible refine Gr.trans ?_ (by assumption)) | omega | (dsimp only; omega)))) hg4) | (go_at_call 9; (with_reducible refine Calls.mono (hD.out _ ?_) ?_); (focus ((repeat (first | with_reducible exact Gr.refl _ | with_reducible refine Gr.drewN ?_ _ | with_reducible refine Gr.drew ?_ | with_reducible refine Gr.alloc ?_ _ | with_reducible refine Gr.setCell ?_ ?_ _ | (with_reducible refine Gr.trans ?_ (by assumption)) | omega | (dsimp only; omega))); done)); rintro e w5 ⟨rfl, hg5⟩; have hg9 : Gr w7 w5 := Gr.trans (by (repeat (first | with_reducible exact Gr.refl _ | with_reducible refine Gr.drewN ?_ _ | with_reducible refine Gr.drew ?_ | with_reducible refine Gr.alloc ?_ _ | with_reducible refine Gr.setCell ?_ ?_ _ | (with_reducible refine Gr.trans ?_ (by assumption)) | omega | (dsimp only; omega)))) hg5))
        all_goals
          go_wp2_with fail
          go_meet
          exact ⟨by first | rfl | (congr 1; simp), hgw7.trans hg9⟩
      case rest =>
        obtain ⟨rfl, hg8⟩ := hcut
        clear x0 x1 x2 x3 x4 B7
        go_wp2_with fail
        go_roundw
        case rel => exact ⟨i + 1, by omega, by go_num, hg8⟩
        case measure => simp [intOf]; omega
    · obtain rfl : i = n := by omega
      have hAl := Lib.hid (all20_any oa i cap l wr (H.out.keep hg) Hf.out)
      have hSt := Lib.hid fun w2 o2 c2 (hT : TripsAt w2 o2 i c2 l) => states_any o2 i c2 l w2 hT Hf.out
      have hLa := Lib.hid fun w2 (hq : Gr w w2) => last_any oa i cap l w2 (H.out.keep hq) (by omega)
      by_cases hcode : codeR l = 0
      rotate_left
      · have hcb : (codeR l == 0) = false := by rw [beq_eq_false_iff_ne]; exact hcode
        have hcn : (codeR l != 0) = true := by simpa using hcode
        have hCode := Lib.hid fun w2 (hq : Gr w w2) => code_any (codeR l) w2 (hq.keep Hh.out)
        have hS2 : Hid (∀ w2 o2 c2, TripsAt w2 o2 i c2 l → Calls Tryd.prog 10 #[.slice o2 i c2] w2 fun e w' => e = .returned (.tuple #[.slice none 0 0, errV (codeR l)]) ∧ Gr w2 w') := Lib.hid fun w2 o2 c2 hT => (hSt.out w2 o2 c2 hT).mono fun e w' hq => by
          rcases hq.1 with q | q
          · exact absurd q.1 hcode
          · exact ⟨q.2, hq.2⟩
        clear hSt hcode
        generalize codeR l = cd at *
        go_wp2_with (first | (go_at_call 11; (with_reducible refine hAl.out.mono ?_); rintro e w2 ⟨o2, c2, rfl, hT2, hg2⟩; (have HT2 := Lib.hid hT2); clear hT2) | (go_at_call 10; (with_reducible refine (hS2.out _ _ _ HT2.out).mono ?_); rintro e w3 ⟨rfl, hg3⟩; (have hgw3 := hg.trans (hg2.trans hg3))) | (go_at_call 12; (with_reducible refine (hLa.out _ hgw3).mono ?_); rintro e w4 ⟨rfl, hg4⟩; (have hgw4 := hgw3.trans hg4)) | (go_at_call 13; (with_reducible refine (hCode.out _ hgw4).mono ?_); rintro e w5 ⟨rfl, hg5⟩; (have hgw5 := hgw4.trans hg5)) | (go_at_call 6; (with_reducible refine (awake20_any _).mono ?_); rintro e w6 ⟨rfl, hg6⟩))
        go_ret
        exact ⟨rfl, hgw5.trans hg6⟩
      · have HC := Lib.hid hcode
        have hS2 : Hid (∀ w2 o2 c2, TripsAt w2 o2 i c2 l → Calls Tryd.prog 10 #[.slice o2 i c2] w2 fun e w' => ∃ o c m, Hid (m = (lastN l).toNat + 1) ∧ e = .returned (.tuple #[.slice o m c, .nilIface]) ∧ StatesAt w' o m c (stsP l m) ∧ Gr w2 w') := Lib.hid fun w2 o2 c2 hT => (hSt.out w2 o2 c2 hT).mono fun e w' hq => by
          rcases hq.1 with ⟨-, o, c, q1, q2⟩ | q
          · exact ⟨o, c, _, Lib.hid rfl, q1, q2, hq.2⟩
          · exact absurd hcode q.1
        have hLa2 := Lib.hid fun w2 (hq : Gr w w2) => show Calls Tryd.prog 12 #[.slice oa i cap] w2 fun e w' => e = .returned (.tuple #[.int .i64 (lastN l), .int .i64 0]) ∧ Gr w2 w' by
          have := hLa.out w2 hq
          rwa [hcode, lastV_yes hcode] at this
        clear hSt hLa hcode
        obtain ⟨k1, k2, k3, k4⟩ := code_zero HC.out
        have hl0 := lastN_nn l
        rw [Hl.out] at k4
        have Heq := Lib.hid fun (k : Nat) (hk : k ≤ (lastN l).toNat) => st_eq (l := l) (n := k) fun j a b => k2 j a (by omega)
        clear k1 k2 k3
        have e1 : IntKind.i64.wrap (lastN l + 1) = lastN l + 1 := IntWalk.i64_in _ (by omega)
        go_upto_region 11 with (first | (go_at_call 11; (with_reducible refine hAl.out.mono ?_); rintro e w2 ⟨o2, c2, rfl, hT2, hg2⟩; (have HT2 := Lib.hid hT2); clear hT2) | (go_at_call 10; (with_reducible refine (hS2.out _ _ _ HT2.out).mono ?_); rintro e w3 ⟨oS, cS, mS, HmS, rfl, hS3, hg3⟩; (have hgw3 := hg.trans (hg2.trans hg3)); (have hcS := hS3.cap_le); (have hcS2 := hS3.cap_max); unfold maxLen at hcS2; have HS3 := Lib.hid hS3; clear hS3) | (go_at_call 12; (with_reducible refine (hLa2.out _ hgw3).mono ?_); rintro e w4 ⟨rfl, hg4⟩; (have hgw4 := hgw3.trans hg4)))
        obtain ⟨bS, offS, hoS, hcellS⟩ := HS3.out.cells
        have HoS := Lib.hid fun q => (hoS q).1
        have HcS := Lib.hid hcellS
        clear hoS hcellS
        have hmS := HmS.out
        have hmz : ((mS : Int) != lastN l + 1) = false := by simp; omega
        clear hmS
        go_wp2_with fail
        go_loopw [64] (fun s64 wx => ∃ (k : Nat), k ≤ mS ∧ s64 = .int .i64 k ∧ Gr w4 wx) (fun s64 _ => mS - (intOf s64).toNat)
        case atStart => exact ⟨0, Nat.zero_le _, rfl, Gr.refl _⟩
        case round =>
          obtain ⟨k, hk, rfl, hg5⟩ := hrel
          by_cases hltk : k < mS
          · obtain ⟨vs, -, -, ⟨o1, n1, c1, rfl, hR1⟩, hcl1⟩ := HcS.out k _ (stsP_get (l := l) hltk)
            have y1 := (hg4.trans hg5).keep (hcl1 0 _ rfl)
            simp only [Nat.mul_one, Nat.add_zero] at y1
            have hI1 := fun w => run_rs cS HoS.out (k := k) hltk w
            have hSta := Lib.hid fun w5 (hq : Gr w4 w5) => state_any oa i cap l k k w5 (H.out.keep (hgw4.trans hq)) Hf.out rfl (by have := HmS.out; omega)
            have hSa := Lib.hid fun w5 o5 q5 c5 (hq : Gr w4 w5) (h5 : RowsAt w5 o5 q5 c5 (stR l k)) => show Calls Tryd.prog 14 #[.slice o1 n1 c1, .slice o5 q5 c5] w5 fun e w' => e = .returned (.bool true) ∧ Gr w5 w' from (refSame_any o1 o5 n1 c1 q5 c5 (stP l k) (stR l k) w5 (hR1.keep (hg4.trans hq)) h5).mono fun e w' hq => ⟨by rw [hq.1, decide_eq_true (Heq.out k (by have := HmS.out; omega))], hq.2.below _⟩
            clear hcl1 hR1
            go_wp2_with (first | (go_at_call 15; (with_reducible refine (hSta.out _ hg5).mono ?_); rintro e w5 ⟨o5, q5, c5, rfl, hr5, hg6⟩; (have Hr5 := Lib.hid hr5); clear hr5; (have hg56 := hg5.trans hg6)) | (go_at_call 14; (with_reducible refine (hSa.out _ _ _ _ hg56 Hr5.out).mono ?_); rintro e w6 ⟨rfl, hg7⟩))
            go_roundw
            case rel => exact ⟨k + 1, by omega, by go_num, hg56.trans hg7⟩
            case measure => simp [intOf]; omega
          · obtain rfl : k = mS := by omega
            go_wp2_with (go_at_call 6; (with_reducible refine (awake20_any _).mono ?_); rintro e w6 ⟨rfl, hg6⟩)
            go_ret
            exact ⟨rfl, hgw4.trans (hg5.trans hg6)⟩
end Go.Proofs.YtopomocbjlikjaaDoor
