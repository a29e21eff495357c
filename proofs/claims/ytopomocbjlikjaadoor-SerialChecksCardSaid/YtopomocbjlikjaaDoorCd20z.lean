import Derived.Test.YtopomocbjlikjaaDoorCk20z
import Derived.Test.YtopomocbjlikjaaDoorSf20z
import Derived.Deep.RegionHeld3
namespace Go.Proofs.YtopomocbjlikjaaDoor
set_option linter.unusedVariables false
set_option linter.unusedSimpArgs false
open Go.BigFrame Go.RowKit Go.WideShapes

/-! The document's Check (serial). -/
noncomputable def chkD (l : List Tr) : Value := .tuple #[.int .i64 (checkR l).1, .int .i64 (checkR l).2]
theorem ret_chkD {l : List Tr} {a b : Int} (h : checkR l = (a, b)) : Ending.returned (.tuple #[.int .i64 a, .int .i64 b]) = .returned (chkD l) := by
  unfold chkD
  rw [h]
theorem badB_R {l : List Tr} {t : Tr} (hc : codeR l = 0) (ht : t ∈ l) : badB l t = (!fitsT t (stR l t.snap.toNat) || (decide (0 < t.num) && !fitsT t (stR l (t.num - 1).toNat))) := by
  obtain ⟨h1, h2, h3, h4⟩ := code_zero hc
  have hs := h3 t ht
  have hl := num_le_last ht
  unfold badB
  rw [st_eq (fun k a b => h2 k a (by omega)), st_eq (fun k a b => h2 k a (by omega))]
set_option maxRecDepth 100000 in
set_option maxHeartbeats 40000000 in
theorem refCheck_any (oa : Option Addr) (n cap : Nat) (l : List Tr) (w : World) (h : TripsAt w oa n cap l) (hf : FewL l) :
    Calls Tryd.prog 17 #[.slice oa n cap] w fun e w' => e = .returned (chkD l) ∧ Gr w w' := by
  have Hl := Lib.hid h.len
  have Hf := Lib.hid hf
  have hn : n ≤ 8 := by have h1 := hf.1; have h2 := h.len; omega
  have hcl := h.cap_le
  have hcm := h.cap_max
  unfold maxLen at hcm
  have hLa := last_any oa n cap l w h (by omega)
  have H := Lib.hid h
  obtain ⟨b, off, ho, hc⟩ := h.get
  have Ho := Lib.hid ho
  have Hc := Lib.hid hc
  clear ho hc h hf
  by_cases hcode : codeR l = 0
  rotate_left
  · have HE := Lib.hid (checkR_code hcode)
    have hcb : (codeR l == 0) = false := by rw [beq_eq_false_iff_ne]; exact hcode
    have HLa := Lib.hid hLa
    clear hcode hLa
    generalize codeR l = cd at *
    go_enter Tryd.func17, Tryd.ntmps17
    go_wp2_with (go_at_call 12; (with_reducible refine HLa.out.mono ?_); rintro e w3 ⟨rfl, hg3⟩)
    go_ret2
    exact ⟨ret_chkD HE.out, hg3⟩
  · have HC := Lib.hid hcode
    rw [hcode] at hLa
    have HLa := Lib.hid hLa
    clear hLa hcode
    go_enter Tryd.func17, Tryd.ntmps17
    go_wp2_with (go_at_call 12; (with_reducible refine HLa.out.mono ?_); rintro e w3 ⟨rfl, hg3⟩)
    go_loopw [6] (fun s6 wr => ∃ (i : Nat), i ≤ n ∧ s6 = .int .i64 i ∧ Hid (∀ (j : Nat) (t : Tr), j < i → l[j]? = some t → chkAt l t = 0) ∧ Gr w3 wr) (fun s6 _ => n - (intOf s6).toNat)
    case atStart => exact ⟨0, Nat.zero_le _, rfl, Lib.hid fun j t q _ => absurd q (by omega), Gr.refl _⟩
    case round =>
      obtain ⟨i, hi, rfl, hall, hg⟩ := hrel
      by_cases hlt : i < n
      · have hy : l[i]? = some (l[i]'(by have := Hl.out; omega)) := List.getElem?_eq_getElem _
        generalize (l[i]'(by have := Hl.out; omega)) = t at hy
        obtain ⟨p, m, c, R0⟩ := Hc.out i t hy
        have R1 := R0.keep (hg3.trans hg)
        have hI := run_trip cap Ho.out hlt
        have Hy := Lib.hid hy
        have hm8 : m ≤ 8 := by
          have h1 := (Hf.out.2 i t hy).1
          have h2 := R1.seen.len
          omega
        obtain ⟨k1, k2, k3, k4⟩ := code_zero HC.out
        have htl := List.mem_of_getElem? hy
        have hok := okT_nn (k1 t htl)
        have hsl := k3 t htl
        have hnl := num_le_last htl
        have hln := k4
        rw [Hl.out] at hln
        have Htl := Lib.hid htl
        have Hnl := Lib.hid hnl
        have Hb := Lib.hid (badB_R HC.out htl)
        have hsz := fun k => stR_len Hf.out.seen Hf.out.1 k
        have hsm2 : t.snap.toNat ≤ 8 := by omega
        have hnm2 : (t.num - 1).toNat ≤ 8 := by omega
        have Z := (Bx.new wr zT.toArray 27 rfl).of (us := zT) (by simp)
        clear hy R0 k1 k2 k3 k4 htl
        go_upto_region 8 with (first | (refine wpList_load_mid rfl 27 _ rfl _ _ rfl _ _ (R1).rng Tryd.underlying27 rfl (by kernel_rfl) ?_) | ((with_reducible refine wpList_store_box (ty := 27) (Z) ((trL t p m c)) ?_ ?_ ?_ ?_ ?_ ?_); (focus (exact rfl)); (focus (exact ⟨_, _, rfl, rfl, rfl⟩)); (focus (exact rfl)); (focus kernel_rfl); (focus kernel_rfl)))
        have B7 := Z.setAll (us := trL t p m c) rfl
        have hg7 : Gr wr ((wr.alloc (.cells zT.toArray 27)).setCells wr.heap.size 0 (trL t p m c)) := ((Gr.refl wr).alloc _).setCells (Nat.le_refl _) _ _
        have HS7 := Lib.hid (R1.seen.keep hg7)
        have hg37 := hg.trans hg7
        clear Z R1 hI hg hg7
        generalize (wr.alloc (.cells zT.toArray 27)).setCells wr.heap.size 0 (trL t p m c) = w7 at *
        generalize wr.heap.size = b7 at *
        (try simp only [Act.put])
        have HS1 := Lib.hid fun (w1 : World) (hq : Gr w7 w1) => state_any oa n cap l t.snap t.snap.toNat w1 (H.out.keep ((hg3.trans hg37).trans hq)) Hf.out (by omega) hsm2
        have HF1 := Lib.hid fun (w1 : World) (o1 : Option Addr) (q1 d1 : Nat) (hq : Gr w7 w1) (h3 : RowsAt w1 o1 q1 d1 (stR l t.snap.toNat)) => refFitsT_any t p m c o1 q1 d1 (stR l t.snap.toNat) w1 (HS7.out.keep hq) h3 (by have e1 := h3.len; have e2 := hsz t.snap.toNat; omega)
        go_cut [48] (fun s48 wx => ∃ bb : Bool, s48 = .bool bb ∧ Hid (badB l t = bb) ∧ Gr w7 wx)
        case first =>
          cases hf1 : fitsT t (stR l t.snap.toNat)
          · have HB : Hid (badB l t = true) := Lib.hid (by rw [Hb.out, hf1]; rfl)
            rw [hf1] at HF1
            clear hf1 hsz Hb
            have hd7 : Gr w7 w7.drew := (Gr.refl w7).drew
            have hR7 := hd7.range B7.rng
            refine wp_region_held_drew (S := fun w' => w'.rangeAt b7 0 (trL t p m c)) (by kernel_rfl) hR7 (fun hHeld => ?_)
            refine' wpAnyH_take (i := 0) (oi := { dst := some 27, op := _, type := _, pos := _, after := _, guard := _ }) (v := _) rfl (by kernel_rfl) (by kernel_rfl) (by kernel_rfl) (fun _ _ _ h => h) (yieldsIf_load_mid (by rfl) _ _ rfl _ _ rfl _ _ (fun w h => h) Tryd.underlying27 rfl (by kernel_rfl)) hHeld ?_
            (try simp only [Act.put, List.setIfInBounds_toArray, List.set_cons_zero, List.set_cons_succ])
            refine' wpAnyH_take (i := 1) (oi := { dst := some 28, op := _, type := _, pos := _, after := _, guard := _ }) (v := .slice oa n cap) rfl (by kernel_rfl) (by kernel_rfl) (by kernel_rfl) (fun _ _ _ h => h) (Or.inl ⟨by rfl, ?_⟩) hHeld ?_
            · (intro w hSw; go_simp)
            (try simp only [Act.put, List.setIfInBounds_toArray, List.set_cons_zero, List.set_cons_succ])
            refine' wpAnyH_take (i := 2) (oi := { dst := some 29, op := _, type := _, pos := _, after := _, guard := _ }) (v := .pointer (some ⟨b7, 2, none⟩)) rfl (by kernel_rfl) (by kernel_rfl) (by kernel_rfl) (fun _ _ _ h => h) (Or.inl ⟨by rfl, ?_⟩) hHeld ?_
            · (intro w hSw; go_simp)
            (try simp only [Act.put, List.setIfInBounds_toArray, List.set_cons_zero, List.set_cons_succ])
            refine' wpAnyH_take (i := 3) (oi := { dst := some 30, op := _, type := _, pos := _, after := _, guard := _ }) (v := .int .i64 t.snap) rfl (by kernel_rfl) (by kernel_rfl) (by kernel_rfl) (fun _ _ _ h => h) (Or.inl ⟨by rfl, ?_⟩) hHeld ?_
            · (intro w hSw; have hSc := hSw 2 _ rfl; simp only [Nat.zero_add] at hSc; clear hSw; go_simp)
            (try simp only [Act.put, List.setIfInBounds_toArray, List.set_cons_zero, List.set_cons_succ])
            refine wpAnyH_ready (rs := [4]) (by kernel_rfl) (by simp) ?_
            refine AllReadyH.cons (o := { dst := some 31, op := _, type := _, pos := _, after := _, guard := _ }) rfl (fun K hK => ?_) AllReadyH.nil
            refine step_wanted (by rfl) ?_
            go_simp
            go_at_call 15
            with_reducible refine (HS1.out _ hd7).mono ?_
            rintro e w3 ⟨o1, q1, d1, rfl, hr1, hg4⟩
            have hg8 : Gr w7 w3 := hd7.trans hg4
            have Hr1 := Lib.hid hr1
            clear hr1
            refine hK.out _ _ (hg8.range B7.rng) (fun hHeld => ?_)
            clear hK K
            (try simp only [Act.put, List.setIfInBounds_toArray, List.set_cons_zero, List.set_cons_succ])
            refine wpAnyH_ready (rs := [5]) (by kernel_rfl) (by simp) ?_
            refine AllReadyH.cons (o := { dst := some 32, op := _, type := _, pos := _, after := _, guard := _ }) rfl (fun K hK => ?_) AllReadyH.nil
            refine step_wanted (by rfl) ?_
            go_simp
            go_at_call 28
            with_reducible refine (HF1.out _ _ _ _ hg8 Hr1.out).mono ?_
            rintro e w4 ⟨rfl, hg5⟩
            have hg9 := hg8.trans hg5
            refine hK.out _ _ (hg9.range B7.rng) (fun hHeld => ?_)
            clear hK K
            (try simp only [Act.put, List.setIfInBounds_toArray, List.set_cons_zero, List.set_cons_succ])
            refine' wpAnyH_take (i := 6) (oi := { dst := some 33, op := _, type := _, pos := _, after := _, guard := _ }) (v := .bool true) rfl (by kernel_rfl) (by kernel_rfl) (by kernel_rfl) (fun _ _ _ h => h) (Or.inl ⟨by rfl, ?_⟩) hHeld ?_
            · (intro w hSw; go_simp)
            (try simp only [Act.put, List.setIfInBounds_toArray, List.set_cons_zero, List.set_cons_succ])
            refine' wpAnyH_take (i := 7) (oi := { dst := some 34, op := _, type := _, pos := _, after := _, guard := _ }) (v := .bool true) rfl (by kernel_rfl) (by kernel_rfl) (by kernel_rfl) (fun _ _ _ h => h) (Or.inl ⟨by rfl, ?_⟩) hHeld ?_
            · (intro w hSw; go_simp)
            (try simp only [Act.put, List.setIfInBounds_toArray, List.set_cons_zero, List.set_cons_succ])
            refine' wpAnyH_take (i := 8) (oi := { dst := some 35, op := _, type := _, pos := _, after := _, guard := _ }) (v := undef) rfl (by kernel_rfl) (by kernel_rfl) (by kernel_rfl) (fun _ _ _ h => h) (Or.inr ⟨by rfl, rfl⟩) hHeld ?_
            (try simp only [Act.put, List.setIfInBounds_toArray, List.set_cons_zero, List.set_cons_succ])
            refine' wpAnyH_take (i := 9) (oi := { dst := some 36, op := _, type := _, pos := _, after := _, guard := _ }) (v := undef) rfl (by kernel_rfl) (by kernel_rfl) (by kernel_rfl) (fun _ _ _ h => h) (Or.inr ⟨by rfl, rfl⟩) hHeld ?_
            (try simp only [Act.put, List.setIfInBounds_toArray, List.set_cons_zero, List.set_cons_succ])
            refine' wpAnyH_take (i := 10) (oi := { dst := some 37, op := _, type := _, pos := _, after := _, guard := _ }) (v := undef) rfl (by kernel_rfl) (by kernel_rfl) (by kernel_rfl) (fun _ _ _ h => h) (Or.inr ⟨by rfl, rfl⟩) hHeld ?_
            (try simp only [Act.put, List.setIfInBounds_toArray, List.set_cons_zero, List.set_cons_succ])
            refine' wpAnyH_take (i := 11) (oi := { dst := some 38, op := _, type := _, pos := _, after := _, guard := _ }) (v := undef) rfl (by kernel_rfl) (by kernel_rfl) (by kernel_rfl) (fun _ _ _ h => h) (Or.inr ⟨by rfl, rfl⟩) hHeld ?_
            (try simp only [Act.put, List.setIfInBounds_toArray, List.set_cons_zero, List.set_cons_succ])
            refine' wpAnyH_take (i := 12) (oi := { dst := some 39, op := _, type := _, pos := _, after := _, guard := _ }) (v := undef) rfl (by kernel_rfl) (by kernel_rfl) (by kernel_rfl) (fun _ _ _ h => h) (Or.inr ⟨by rfl, rfl⟩) hHeld ?_
            (try simp only [Act.put, List.setIfInBounds_toArray, List.set_cons_zero, List.set_cons_succ])
            refine' wpAnyH_take (i := 13) (oi := { dst := some 40, op := _, type := _, pos := _, after := _, guard := _ }) (v := undef) rfl (by kernel_rfl) (by kernel_rfl) (by kernel_rfl) (fun _ _ _ h => h) (Or.inr ⟨by rfl, rfl⟩) hHeld ?_
            (try simp only [Act.put, List.setIfInBounds_toArray, List.set_cons_zero, List.set_cons_succ])
            refine' wpAnyH_take (i := 14) (oi := { dst := some 41, op := _, type := _, pos := _, after := _, guard := _ }) (v := undef) rfl (by kernel_rfl) (by kernel_rfl) (by kernel_rfl) (fun _ _ _ h => h) (Or.inr ⟨by rfl, rfl⟩) hHeld ?_
            (try simp only [Act.put, List.setIfInBounds_toArray, List.set_cons_zero, List.set_cons_succ])
            refine' wpAnyH_take (i := 15) (oi := { dst := some 42, op := _, type := _, pos := _, after := _, guard := _ }) (v := undef) rfl (by kernel_rfl) (by kernel_rfl) (by kernel_rfl) (fun _ _ _ h => h) (Or.inr ⟨by rfl, rfl⟩) hHeld ?_
            (try simp only [Act.put, List.setIfInBounds_toArray, List.set_cons_zero, List.set_cons_succ])
            refine' wpAnyH_take (i := 16) (oi := { dst := some 43, op := _, type := _, pos := _, after := _, guard := _ }) (v := undef) rfl (by kernel_rfl) (by kernel_rfl) (by kernel_rfl) (fun _ _ _ h => h) (Or.inr ⟨by rfl, rfl⟩) hHeld ?_
            (try simp only [Act.put, List.setIfInBounds_toArray, List.set_cons_zero, List.set_cons_succ])
            refine' wpAnyH_take (i := 17) (oi := { dst := some 44, op := _, type := _, pos := _, after := _, guard := _ }) (v := undef) rfl (by kernel_rfl) (by kernel_rfl) (by kernel_rfl) (fun _ _ _ h => h) (Or.inr ⟨by rfl, rfl⟩) hHeld ?_
            (try simp only [Act.put, List.setIfInBounds_toArray, List.set_cons_zero, List.set_cons_succ])
            refine' wpAnyH_take (i := 18) (oi := { dst := some 45, op := _, type := _, pos := _, after := _, guard := _ }) (v := undef) rfl (by kernel_rfl) (by kernel_rfl) (by kernel_rfl) (fun _ _ _ h => h) (Or.inr ⟨by rfl, rfl⟩) hHeld ?_
            (try simp only [Act.put, List.setIfInBounds_toArray, List.set_cons_zero, List.set_cons_succ])
            refine' wpAnyH_take (i := 19) (oi := { dst := some 46, op := _, type := _, pos := _, after := _, guard := _ }) (v := undef) rfl (by kernel_rfl) (by kernel_rfl) (by kernel_rfl) (fun _ _ _ h => h) (Or.inr ⟨by rfl, rfl⟩) hHeld ?_
            (try simp only [Act.put, List.setIfInBounds_toArray, List.set_cons_zero, List.set_cons_succ])
            refine' wpAnyH_take (i := 20) (oi := { dst := some 47, op := _, type := _, pos := _, after := _, guard := _ }) (v := undef) rfl (by kernel_rfl) (by kernel_rfl) (by kernel_rfl) (fun _ _ _ h => h) (Or.inr ⟨by rfl, rfl⟩) hHeld ?_
            (try simp only [Act.put, List.setIfInBounds_toArray, List.set_cons_zero, List.set_cons_succ])
            refine' wpAnyH_take (i := 21) (oi := { dst := some 48, op := _, type := _, pos := _, after := _, guard := _ }) (v := .bool true) rfl (by kernel_rfl) (by kernel_rfl) (by kernel_rfl) (fun _ _ _ h => h) (Or.inl ⟨by rfl, ?_⟩) hHeld ?_
            · (intro w hSw; go_simp)
            (try simp only [Act.put, List.setIfInBounds_toArray, List.set_cons_zero, List.set_cons_succ])
            refine wpAnyH_done (by kernel_rfl) ?_ _
            go_wp2_with fail
            go_meet
            exact ⟨true, rfl, HB, hg9⟩
          · by_cases hnum : 0 < t.num
            · have hnum2 : decide (0 < t.num) = true := decide_eq_true hnum
              have e1 : IntKind.i64.wrap (t.num - 1) = t.num - 1 := IntWalk.i64_in _ (by omega)
              have HS2 := Lib.hid fun (w1 : World) (hq : Gr w7 w1) => state_any oa n cap l (t.num - 1) (t.num - 1).toNat w1 (H.out.keep ((hg3.trans hg37).trans hq)) Hf.out (by omega) hnm2
              have HF2 := Lib.hid fun (w1 : World) (o1 : Option Addr) (q1 d1 : Nat) (hq : Gr w7 w1) (h3 : RowsAt w1 o1 q1 d1 (stR l (t.num - 1).toNat)) => refFitsT_any t p m c o1 q1 d1 (stR l (t.num - 1).toNat) w1 (HS7.out.keep hq) h3 (by have e1 := h3.len; have e2 := hsz (t.num - 1).toNat; omega)
              have HB := Lib.hid Hb.out
              rw [hf1, decide_eq_true hnum] at HB
              rw [hf1] at HF1
              clear hf1 hsz Hb
              have hd7 : Gr w7 w7.drew := (Gr.refl w7).drew
              have hR7 := hd7.range B7.rng
              refine wp_region_held_drew (S := fun w' => w'.rangeAt b7 0 (trL t p m c)) (by kernel_rfl) hR7 (fun hHeld => ?_)
              refine' wpAnyH_take (i := 0) (oi := { dst := some 27, op := _, type := _, pos := _, after := _, guard := _ }) (v := _) rfl (by kernel_rfl) (by kernel_rfl) (by kernel_rfl) (fun _ _ _ h => h) (yieldsIf_load_mid (by rfl) _ _ rfl _ _ rfl _ _ (fun w h => h) Tryd.underlying27 rfl (by kernel_rfl)) hHeld ?_
              (try simp only [Act.put, List.setIfInBounds_toArray, List.set_cons_zero, List.set_cons_succ])
              refine' wpAnyH_take (i := 1) (oi := { dst := some 28, op := _, type := _, pos := _, after := _, guard := _ }) (v := .slice oa n cap) rfl (by kernel_rfl) (by kernel_rfl) (by kernel_rfl) (fun _ _ _ h => h) (Or.inl ⟨by rfl, ?_⟩) hHeld ?_
              · (intro w hSw; go_simp)
              (try simp only [Act.put, List.setIfInBounds_toArray, List.set_cons_zero, List.set_cons_succ])
              refine' wpAnyH_take (i := 2) (oi := { dst := some 29, op := _, type := _, pos := _, after := _, guard := _ }) (v := .pointer (some ⟨b7, 2, none⟩)) rfl (by kernel_rfl) (by kernel_rfl) (by kernel_rfl) (fun _ _ _ h => h) (Or.inl ⟨by rfl, ?_⟩) hHeld ?_
              · (intro w hSw; go_simp)
              (try simp only [Act.put, List.setIfInBounds_toArray, List.set_cons_zero, List.set_cons_succ])
              refine' wpAnyH_take (i := 3) (oi := { dst := some 30, op := _, type := _, pos := _, after := _, guard := _ }) (v := .int .i64 t.snap) rfl (by kernel_rfl) (by kernel_rfl) (by kernel_rfl) (fun _ _ _ h => h) (Or.inl ⟨by rfl, ?_⟩) hHeld ?_
              · (intro w hSw; have hSc := hSw 2 _ rfl; simp only [Nat.zero_add] at hSc; clear hSw; go_simp)
              (try simp only [Act.put, List.setIfInBounds_toArray, List.set_cons_zero, List.set_cons_succ])
              refine wpAnyH_ready (rs := [4]) (by kernel_rfl) (by simp) ?_
              refine AllReadyH.cons (o := { dst := some 31, op := _, type := _, pos := _, after := _, guard := _ }) rfl (fun K hK => ?_) AllReadyH.nil
              refine step_wanted (by rfl) ?_
              go_simp
              go_at_call 15
              with_reducible refine (HS1.out _ hd7).mono ?_
              rintro e w3 ⟨o1, q1, d1, rfl, hr1, hg4⟩
              have hg8 : Gr w7 w3 := hd7.trans hg4
              have Hr1 := Lib.hid hr1
              clear hr1
              refine hK.out _ _ (hg8.range B7.rng) (fun hHeld => ?_)
              clear hK K
              (try simp only [Act.put, List.setIfInBounds_toArray, List.set_cons_zero, List.set_cons_succ])
              refine wpAnyH_ready (rs := [5]) (by kernel_rfl) (by simp) ?_
              refine AllReadyH.cons (o := { dst := some 32, op := _, type := _, pos := _, after := _, guard := _ }) rfl (fun K hK => ?_) AllReadyH.nil
              refine step_wanted (by rfl) ?_
              go_simp
              go_at_call 28
              with_reducible refine (HF1.out _ _ _ _ hg8 Hr1.out).mono ?_
              rintro e w4 ⟨rfl, hg5⟩
              have hg9 := hg8.trans hg5
              refine hK.out _ _ (hg9.range B7.rng) (fun hHeld => ?_)
              clear hK K
              (try simp only [Act.put, List.setIfInBounds_toArray, List.set_cons_zero, List.set_cons_succ])
              refine' wpAnyH_take (i := 6) (oi := { dst := some 33, op := _, type := _, pos := _, after := _, guard := _ }) (v := .bool false) rfl (by kernel_rfl) (by kernel_rfl) (by kernel_rfl) (fun _ _ _ h => h) (Or.inl ⟨by rfl, ?_⟩) hHeld ?_
              · (intro w hSw; go_simp)
              (try simp only [Act.put, List.setIfInBounds_toArray, List.set_cons_zero, List.set_cons_succ])
              refine' wpAnyH_take (i := 7) (oi := { dst := some 34, op := _, type := _, pos := _, after := _, guard := _ }) (v := .bool false) rfl (by kernel_rfl) (by kernel_rfl) (by kernel_rfl) (fun _ _ _ h => h) (Or.inl ⟨by rfl, ?_⟩) hHeld ?_
              · (intro w hSw; go_simp)
              (try simp only [Act.put, List.setIfInBounds_toArray, List.set_cons_zero, List.set_cons_succ])
              refine' wpAnyH_take (i := 8) (oi := { dst := some 35, op := _, type := _, pos := _, after := _, guard := _ }) (v := .pointer (some ⟨b7, 3, none⟩)) rfl (by kernel_rfl) (by kernel_rfl) (by kernel_rfl) (fun _ _ _ h => h) (Or.inl ⟨by rfl, ?_⟩) hHeld ?_
              · (intro w hSw; go_simp)
              (try simp only [Act.put, List.setIfInBounds_toArray, List.set_cons_zero, List.set_cons_succ])
              refine' wpAnyH_take (i := 9) (oi := { dst := some 36, op := _, type := _, pos := _, after := _, guard := _ }) (v := .int .i64 t.num) rfl (by kernel_rfl) (by kernel_rfl) (by kernel_rfl) (fun _ _ _ h => h) (Or.inl ⟨by rfl, ?_⟩) hHeld ?_
              · (intro w hSw; have hSc := hSw 3 _ rfl; simp only [Nat.zero_add] at hSc; clear hSw; go_simp)
              (try simp only [Act.put, List.setIfInBounds_toArray, List.set_cons_zero, List.set_cons_succ])
              refine' wpAnyH_take (i := 10) (oi := { dst := some 37, op := _, type := _, pos := _, after := _, guard := _ }) (v := .bool true) rfl (by kernel_rfl) (by kernel_rfl) (by kernel_rfl) (fun _ _ _ h => h) (Or.inl ⟨by rfl, ?_⟩) hHeld ?_
              · (intro w hSw; go_simp)
              (try simp only [Act.put, List.setIfInBounds_toArray, List.set_cons_zero, List.set_cons_succ])
              refine' wpAnyH_take (i := 11) (oi := { dst := some 38, op := _, type := _, pos := _, after := _, guard := _ }) (v := .bool true) rfl (by kernel_rfl) (by kernel_rfl) (by kernel_rfl) (fun _ _ _ h => h) (Or.inl ⟨by rfl, ?_⟩) hHeld ?_
              · (intro w hSw; go_simp)
              (try simp only [Act.put, List.setIfInBounds_toArray, List.set_cons_zero, List.set_cons_succ])
              refine' wpAnyH_take (i := 12) (oi := { dst := some 39, op := _, type := _, pos := _, after := _, guard := _ }) (v := _) rfl (by kernel_rfl) (by kernel_rfl) (by kernel_rfl) (fun _ _ _ h => h) (yieldsIf_load_mid (by rfl) _ _ rfl _ _ rfl _ _ (fun w h => h) Tryd.underlying27 rfl (by kernel_rfl)) hHeld ?_
              (try simp only [Act.put, List.setIfInBounds_toArray, List.set_cons_zero, List.set_cons_succ])
              refine' wpAnyH_take (i := 13) (oi := { dst := some 40, op := _, type := _, pos := _, after := _, guard := _ }) (v := .slice oa n cap) rfl (by kernel_rfl) (by kernel_rfl) (by kernel_rfl) (fun _ _ _ h => h) (Or.inl ⟨by rfl, ?_⟩) hHeld ?_
              · (intro w hSw; go_simp)
              (try simp only [Act.put, List.setIfInBounds_toArray, List.set_cons_zero, List.set_cons_succ])
              refine' wpAnyH_take (i := 14) (oi := { dst := some 41, op := _, type := _, pos := _, after := _, guard := _ }) (v := .pointer (some ⟨b7, 3, none⟩)) rfl (by kernel_rfl) (by kernel_rfl) (by kernel_rfl) (fun _ _ _ h => h) (Or.inl ⟨by rfl, ?_⟩) hHeld ?_
              · (intro w hSw; go_simp)
              (try simp only [Act.put, List.setIfInBounds_toArray, List.set_cons_zero, List.set_cons_succ])
              refine' wpAnyH_take (i := 15) (oi := { dst := some 42, op := _, type := _, pos := _, after := _, guard := _ }) (v := .int .i64 t.num) rfl (by kernel_rfl) (by kernel_rfl) (by kernel_rfl) (fun _ _ _ h => h) (Or.inl ⟨by rfl, ?_⟩) hHeld ?_
              · (intro w hSw; have hSc := hSw 3 _ rfl; simp only [Nat.zero_add] at hSc; clear hSw; go_simp)
              (try simp only [Act.put, List.setIfInBounds_toArray, List.set_cons_zero, List.set_cons_succ])
              refine' wpAnyH_take (i := 16) (oi := { dst := some 43, op := _, type := _, pos := _, after := _, guard := _ }) (v := .int .i64 (t.num - 1)) rfl (by kernel_rfl) (by kernel_rfl) (by kernel_rfl) (fun _ _ _ h => h) (Or.inl ⟨by rfl, ?_⟩) hHeld ?_
              · (intro w hSw; go_simp)
              (try simp only [Act.put, List.setIfInBounds_toArray, List.set_cons_zero, List.set_cons_succ])
              refine wpAnyH_ready (rs := [17]) (by kernel_rfl) (by simp) ?_
              refine AllReadyH.cons (o := { dst := some 44, op := _, type := _, pos := _, after := _, guard := _ }) rfl (fun K hK => ?_) AllReadyH.nil
              refine step_wanted (by rfl) ?_
              go_simp
              go_at_call 15
              with_reducible refine (HS2.out _ hg9).mono ?_
              rintro e w5 ⟨o2, q2, d2, rfl, hr2, hg14⟩
              have hg18 : Gr w7 w5 := hg9.trans hg14
              have Hr2 := Lib.hid hr2
              clear hr2
              refine hK.out _ _ (hg18.range B7.rng) (fun hHeld => ?_)
              clear hK K
              (try simp only [Act.put, List.setIfInBounds_toArray, List.set_cons_zero, List.set_cons_succ])
              refine wpAnyH_ready (rs := [18]) (by kernel_rfl) (by simp) ?_
              refine AllReadyH.cons (o := { dst := some 45, op := _, type := _, pos := _, after := _, guard := _ }) rfl (fun K hK => ?_) AllReadyH.nil
              refine step_wanted (by rfl) ?_
              go_simp
              go_at_call 28
              with_reducible refine (HF2.out _ _ _ _ hg18 Hr2.out).mono ?_
              rintro e w6 ⟨rfl, hg15⟩
              have hg19 := hg18.trans hg15
              refine hK.out _ _ (hg19.range B7.rng) (fun hHeld => ?_)
              clear hK K
              (try simp only [Act.put, List.setIfInBounds_toArray, List.set_cons_zero, List.set_cons_succ])
              refine' wpAnyH_take (i := 19) (oi := { dst := some 46, op := _, type := _, pos := _, after := _, guard := _ }) (v := .bool (!fitsT t (stR l (t.num - 1).toNat))) rfl (by kernel_rfl) (by kernel_rfl) (by kernel_rfl) (fun _ _ _ h => h) (Or.inl ⟨by rfl, ?_⟩) hHeld ?_
              · (intro w hSw; go_simp)
              (try simp only [Act.put, List.setIfInBounds_toArray, List.set_cons_zero, List.set_cons_succ])
              refine' wpAnyH_take (i := 20) (oi := { dst := some 47, op := _, type := _, pos := _, after := _, guard := _ }) (v := .bool (!fitsT t (stR l (t.num - 1).toNat))) rfl (by kernel_rfl) (by kernel_rfl) (by kernel_rfl) (fun _ _ _ h => h) (Or.inl ⟨by rfl, ?_⟩) hHeld ?_
              · (intro w hSw; go_simp)
              (try simp only [Act.put, List.setIfInBounds_toArray, List.set_cons_zero, List.set_cons_succ])
              refine' wpAnyH_take (i := 21) (oi := { dst := some 48, op := _, type := _, pos := _, after := _, guard := _ }) (v := .bool (!fitsT t (stR l (t.num - 1).toNat))) rfl (by kernel_rfl) (by kernel_rfl) (by kernel_rfl) (fun _ _ _ h => h) (Or.inl ⟨by rfl, ?_⟩) hHeld ?_
              · (intro w hSw; go_simp)
              (try simp only [Act.put, List.setIfInBounds_toArray, List.set_cons_zero, List.set_cons_succ])
              refine wpAnyH_done (by kernel_rfl) ?_ _
              go_wp2_with fail
              go_meet
              exact ⟨_, rfl, HB, hg19⟩
            · have HB : Hid (badB l t = false) := Lib.hid (by rw [Hb.out, hf1, decide_eq_false hnum]; rfl)
              have hnum2 : decide (0 < t.num) = false := decide_eq_false hnum
              rw [hf1] at HF1
              clear hf1 hsz Hb
              have hd7 : Gr w7 w7.drew := (Gr.refl w7).drew
              have hR7 := hd7.range B7.rng
              refine wp_region_held_drew (S := fun w' => w'.rangeAt b7 0 (trL t p m c)) (by kernel_rfl) hR7 (fun hHeld => ?_)
              refine' wpAnyH_take (i := 0) (oi := { dst := some 27, op := _, type := _, pos := _, after := _, guard := _ }) (v := _) rfl (by kernel_rfl) (by kernel_rfl) (by kernel_rfl) (fun _ _ _ h => h) (yieldsIf_load_mid (by rfl) _ _ rfl _ _ rfl _ _ (fun w h => h) Tryd.underlying27 rfl (by kernel_rfl)) hHeld ?_
              (try simp only [Act.put, List.setIfInBounds_toArray, List.set_cons_zero, List.set_cons_succ])
              refine' wpAnyH_take (i := 1) (oi := { dst := some 28, op := _, type := _, pos := _, after := _, guard := _ }) (v := .slice oa n cap) rfl (by kernel_rfl) (by kernel_rfl) (by kernel_rfl) (fun _ _ _ h => h) (Or.inl ⟨by rfl, ?_⟩) hHeld ?_
              · (intro w hSw; go_simp)
              (try simp only [Act.put, List.setIfInBounds_toArray, List.set_cons_zero, List.set_cons_succ])
              refine' wpAnyH_take (i := 2) (oi := { dst := some 29, op := _, type := _, pos := _, after := _, guard := _ }) (v := .pointer (some ⟨b7, 2, none⟩)) rfl (by kernel_rfl) (by kernel_rfl) (by kernel_rfl) (fun _ _ _ h => h) (Or.inl ⟨by rfl, ?_⟩) hHeld ?_
              · (intro w hSw; go_simp)
              (try simp only [Act.put, List.setIfInBounds_toArray, List.set_cons_zero, List.set_cons_succ])
              refine' wpAnyH_take (i := 3) (oi := { dst := some 30, op := _, type := _, pos := _, after := _, guard := _ }) (v := .int .i64 t.snap) rfl (by kernel_rfl) (by kernel_rfl) (by kernel_rfl) (fun _ _ _ h => h) (Or.inl ⟨by rfl, ?_⟩) hHeld ?_
              · (intro w hSw; have hSc := hSw 2 _ rfl; simp only [Nat.zero_add] at hSc; clear hSw; go_simp)
              (try simp only [Act.put, List.setIfInBounds_toArray, List.set_cons_zero, List.set_cons_succ])
              refine wpAnyH_ready (rs := [4]) (by kernel_rfl) (by simp) ?_
              refine AllReadyH.cons (o := { dst := some 31, op := _, type := _, pos := _, after := _, guard := _ }) rfl (fun K hK => ?_) AllReadyH.nil
              refine step_wanted (by rfl) ?_
              go_simp
              go_at_call 15
              with_reducible refine (HS1.out _ hd7).mono ?_
              rintro e w3 ⟨o1, q1, d1, rfl, hr1, hg4⟩
              have hg8 : Gr w7 w3 := hd7.trans hg4
              have Hr1 := Lib.hid hr1
              clear hr1
              refine hK.out _ _ (hg8.range B7.rng) (fun hHeld => ?_)
              clear hK K
              (try simp only [Act.put, List.setIfInBounds_toArray, List.set_cons_zero, List.set_cons_succ])
              refine wpAnyH_ready (rs := [5]) (by kernel_rfl) (by simp) ?_
              refine AllReadyH.cons (o := { dst := some 32, op := _, type := _, pos := _, after := _, guard := _ }) rfl (fun K hK => ?_) AllReadyH.nil
              refine step_wanted (by rfl) ?_
              go_simp
              go_at_call 28
              with_reducible refine (HF1.out _ _ _ _ hg8 Hr1.out).mono ?_
              rintro e w4 ⟨rfl, hg5⟩
              have hg9 := hg8.trans hg5
              refine hK.out _ _ (hg9.range B7.rng) (fun hHeld => ?_)
              clear hK K
              (try simp only [Act.put, List.setIfInBounds_toArray, List.set_cons_zero, List.set_cons_succ])
              refine' wpAnyH_take (i := 6) (oi := { dst := some 33, op := _, type := _, pos := _, after := _, guard := _ }) (v := .bool false) rfl (by kernel_rfl) (by kernel_rfl) (by kernel_rfl) (fun _ _ _ h => h) (Or.inl ⟨by rfl, ?_⟩) hHeld ?_
              · (intro w hSw; go_simp)
              (try simp only [Act.put, List.setIfInBounds_toArray, List.set_cons_zero, List.set_cons_succ])
              refine' wpAnyH_take (i := 7) (oi := { dst := some 34, op := _, type := _, pos := _, after := _, guard := _ }) (v := .bool false) rfl (by kernel_rfl) (by kernel_rfl) (by kernel_rfl) (fun _ _ _ h => h) (Or.inl ⟨by rfl, ?_⟩) hHeld ?_
              · (intro w hSw; go_simp)
              (try simp only [Act.put, List.setIfInBounds_toArray, List.set_cons_zero, List.set_cons_succ])
              refine' wpAnyH_take (i := 8) (oi := { dst := some 35, op := _, type := _, pos := _, after := _, guard := _ }) (v := .pointer (some ⟨b7, 3, none⟩)) rfl (by kernel_rfl) (by kernel_rfl) (by kernel_rfl) (fun _ _ _ h => h) (Or.inl ⟨by rfl, ?_⟩) hHeld ?_
              · (intro w hSw; go_simp)
              (try simp only [Act.put, List.setIfInBounds_toArray, List.set_cons_zero, List.set_cons_succ])
              refine' wpAnyH_take (i := 9) (oi := { dst := some 36, op := _, type := _, pos := _, after := _, guard := _ }) (v := .int .i64 t.num) rfl (by kernel_rfl) (by kernel_rfl) (by kernel_rfl) (fun _ _ _ h => h) (Or.inl ⟨by rfl, ?_⟩) hHeld ?_
              · (intro w hSw; have hSc := hSw 3 _ rfl; simp only [Nat.zero_add] at hSc; clear hSw; go_simp)
              (try simp only [Act.put, List.setIfInBounds_toArray, List.set_cons_zero, List.set_cons_succ])
              refine' wpAnyH_take (i := 10) (oi := { dst := some 37, op := _, type := _, pos := _, after := _, guard := _ }) (v := .bool false) rfl (by kernel_rfl) (by kernel_rfl) (by kernel_rfl) (fun _ _ _ h => h) (Or.inl ⟨by rfl, ?_⟩) hHeld ?_
              · (intro w hSw; go_simp)
              (try simp only [Act.put, List.setIfInBounds_toArray, List.set_cons_zero, List.set_cons_succ])
              refine' wpAnyH_take (i := 11) (oi := { dst := some 38, op := _, type := _, pos := _, after := _, guard := _ }) (v := .bool false) rfl (by kernel_rfl) (by kernel_rfl) (by kernel_rfl) (fun _ _ _ h => h) (Or.inl ⟨by rfl, ?_⟩) hHeld ?_
              · (intro w hSw; go_simp)
              (try simp only [Act.put, List.setIfInBounds_toArray, List.set_cons_zero, List.set_cons_succ])
              refine' wpAnyH_take (i := 12) (oi := { dst := some 39, op := _, type := _, pos := _, after := _, guard := _ }) (v := undef) rfl (by kernel_rfl) (by kernel_rfl) (by kernel_rfl) (fun _ _ _ h => h) (Or.inr ⟨by rfl, rfl⟩) hHeld ?_
              (try simp only [Act.put, List.setIfInBounds_toArray, List.set_cons_zero, List.set_cons_succ])
              refine' wpAnyH_take (i := 13) (oi := { dst := some 40, op := _, type := _, pos := _, after := _, guard := _ }) (v := undef) rfl (by kernel_rfl) (by kernel_rfl) (by kernel_rfl) (fun _ _ _ h => h) (Or.inr ⟨by rfl, rfl⟩) hHeld ?_
              (try simp only [Act.put, List.setIfInBounds_toArray, List.set_cons_zero, List.set_cons_succ])
              refine' wpAnyH_take (i := 14) (oi := { dst := some 41, op := _, type := _, pos := _, after := _, guard := _ }) (v := undef) rfl (by kernel_rfl) (by kernel_rfl) (by kernel_rfl) (fun _ _ _ h => h) (Or.inr ⟨by rfl, rfl⟩) hHeld ?_
              (try simp only [Act.put, List.setIfInBounds_toArray, List.set_cons_zero, List.set_cons_succ])
              refine' wpAnyH_take (i := 15) (oi := { dst := some 42, op := _, type := _, pos := _, after := _, guard := _ }) (v := undef) rfl (by kernel_rfl) (by kernel_rfl) (by kernel_rfl) (fun _ _ _ h => h) (Or.inr ⟨by rfl, rfl⟩) hHeld ?_
              (try simp only [Act.put, List.setIfInBounds_toArray, List.set_cons_zero, List.set_cons_succ])
              refine' wpAnyH_take (i := 16) (oi := { dst := some 43, op := _, type := _, pos := _, after := _, guard := _ }) (v := undef) rfl (by kernel_rfl) (by kernel_rfl) (by kernel_rfl) (fun _ _ _ h => h) (Or.inr ⟨by rfl, rfl⟩) hHeld ?_
              (try simp only [Act.put, List.setIfInBounds_toArray, List.set_cons_zero, List.set_cons_succ])
              refine' wpAnyH_take (i := 17) (oi := { dst := some 44, op := _, type := _, pos := _, after := _, guard := _ }) (v := undef) rfl (by kernel_rfl) (by kernel_rfl) (by kernel_rfl) (fun _ _ _ h => h) (Or.inr ⟨by rfl, rfl⟩) hHeld ?_
              (try simp only [Act.put, List.setIfInBounds_toArray, List.set_cons_zero, List.set_cons_succ])
              refine' wpAnyH_take (i := 18) (oi := { dst := some 45, op := _, type := _, pos := _, after := _, guard := _ }) (v := undef) rfl (by kernel_rfl) (by kernel_rfl) (by kernel_rfl) (fun _ _ _ h => h) (Or.inr ⟨by rfl, rfl⟩) hHeld ?_
              (try simp only [Act.put, List.setIfInBounds_toArray, List.set_cons_zero, List.set_cons_succ])
              refine' wpAnyH_take (i := 19) (oi := { dst := some 46, op := _, type := _, pos := _, after := _, guard := _ }) (v := undef) rfl (by kernel_rfl) (by kernel_rfl) (by kernel_rfl) (fun _ _ _ h => h) (Or.inr ⟨by rfl, rfl⟩) hHeld ?_
              (try simp only [Act.put, List.setIfInBounds_toArray, List.set_cons_zero, List.set_cons_succ])
              refine' wpAnyH_take (i := 20) (oi := { dst := some 47, op := _, type := _, pos := _, after := _, guard := _ }) (v := .bool false) rfl (by kernel_rfl) (by kernel_rfl) (by kernel_rfl) (fun _ _ _ h => h) (Or.inl ⟨by rfl, ?_⟩) hHeld ?_
              · (intro w hSw; go_simp)
              (try simp only [Act.put, List.setIfInBounds_toArray, List.set_cons_zero, List.set_cons_succ])
              refine' wpAnyH_take (i := 21) (oi := { dst := some 48, op := _, type := _, pos := _, after := _, guard := _ }) (v := .bool false) rfl (by kernel_rfl) (by kernel_rfl) (by kernel_rfl) (fun _ _ _ h => h) (Or.inl ⟨by rfl, ?_⟩) hHeld ?_
              · (intro w hSw; go_simp)
              (try simp only [Act.put, List.setIfInBounds_toArray, List.set_cons_zero, List.set_cons_succ])
              refine wpAnyH_done (by kernel_rfl) ?_ _
              go_wp2_with fail
              go_meet
              exact ⟨false, rfl, HB, hg9⟩
        case rest =>
          obtain ⟨bb, rfl, HB, hg8⟩ := hcut
          have hgw8 := hg37.trans hg8
          cases bb
          rotate_left
          · have h12 := chk_12 HC.out Htl.out Hnl.out HB.out
            have HE := Lib.hid ((checkR_at HC.out Hy.out hall.out (by rw [h12]; decide)).trans (by rw [h12]))
            clear h12 hsz
            go_wp2_with fail
            go_ret2
            exact ⟨ret_chkD HE.out, hg3.trans hgw8⟩
          · have B8 := B7.keep hg8
            have x0 := B8.cell 0 rfl
            have x2 := B8.cell 2 rfl
            clear B8 B7 hg37 hsz
            go_wp2_with fail
            go_loopw [8] (fun s8 wx => ∃ (j : Nat), j ≤ n ∧ s8 = .int .i64 j ∧ Hid (∀ (k : Nat) (o : Tr), k < j → l[k]? = some o → ¬ (t.snap < o.num ∧ o.fin ≤ t.beg)) ∧ Gr wc wx) (fun s8 _ => n - (intOf s8).toNat)
            case atStart => exact ⟨0, Nat.zero_le _, rfl, Lib.hid fun j t q _ => absurd q (by omega), Gr.refl _⟩
            case round =>
              obtain ⟨j, hj, rfl, hall2, hg9⟩ := hrel
              have x0 := hg9.keep x0
              have x2 := hg9.keep x2
              by_cases hltj : j < n
              · have hy : l[j]? = some (l[j]'(by have := Hl.out; omega)) := List.getElem?_eq_getElem _
                generalize (l[j]'(by have := Hl.out; omega)) = o at hy
                obtain ⟨p2, m2, c2, R0⟩ := Hc.out j o hy
                have R1 := R0.keep (hg3.trans (hgw8.trans hg9))
                have hI := run_trip cap Ho.out hltj
                have Hyo := Lib.hid hy
                have z1 := R1.cell 1 rfl
                have z3 := R1.cell 3 rfl
                clear hy R0 R1
                by_cases hbad : t.snap < o.num ∧ o.fin ≤ t.beg
                · have h13 := chk_13 HC.out Htl.out Hnl.out HB.out (List.mem_of_getElem? Hyo.out) hbad.1 hbad.2
                  have HE := Lib.hid ((checkR_at HC.out Hy.out hall.out (by rw [h13]; decide)).trans (by rw [h13]))
                  have q1 := decide_eq_true (show t.snap < o.num from hbad.1)
                  have q2 := decide_eq_true hbad.2
                  have hgf := hg3.trans (hgw8.trans hg9)
                  clear h13 hbad
                  go_wp2_with fail
                  go_big_quiet (fail)
                  go_wp2_with fail
                  go_ret2
                  exact ⟨ret_chkD HE.out, by repeat (first | with_reducible exact Gr.refl _ | with_reducible refine Gr.drewN ?_ _ | with_reducible refine Gr.drew ?_ | with_reducible refine Gr.alloc ?_ _ | with_reducible refine Gr.setCell ?_ ?_ _ | (with_reducible refine Gr.trans ?_ (by assumption)) | omega | (dsimp only; omega))⟩
                · have Hbad := Lib.hid hbad
                  have hq : ¬ t.snap < o.num ∨ t.snap < o.num ∧ ¬ o.fin ≤ t.beg := by omega
                  clear hbad
                  rcases hq with q1 | ⟨q1, q2⟩
                  all_goals
                    first | (have q2 := decide_eq_false q2; have q1 := decide_eq_true q1) | have q1 := decide_eq_false q1
                    go_wp2_with fail
                    go_big_quiet (fail)
                    go_wp2_with fail
                    go_roundw
                    case rel => exact ⟨j + 1, by omega, by go_num, Lib.hid fun k o' hk ho' => by
                      rcases Nat.lt_or_ge k j with z | z
                      · exact hall2.out k o' z ho'
                      · obtain rfl : k = j := by omega
                        rw [Hyo.out] at ho'
                        cases ho'
                        exact Hbad.out, by repeat (first | with_reducible exact Gr.refl _ | with_reducible refine Gr.drewN ?_ _ | with_reducible refine Gr.drew ?_ | with_reducible refine Gr.alloc ?_ _ | with_reducible refine Gr.setCell ?_ ?_ _ | (with_reducible refine Gr.trans ?_ (by assumption)) | omega | (dsimp only; omega))⟩
                    case measure => simp [intOf]; omega
              · have h0 := chk_0 HC.out Htl.out Hnl.out HB.out (all_get fun k o hk h => hall2.out k o (by rw [Hl.out] at hk; omega) h)
                have H0 := Lib.hid h0
                clear h0 hall2
                go_wp2_with fail
                go_roundw
                case rel => exact ⟨i + 1, by omega, by go_num, Lib.hid fun k o' hk ho' => by
                  rcases Nat.lt_or_ge k i with z | z
                  · exact hall.out k o' z ho'
                  · obtain rfl : k = i := by omega
                    rw [Hy.out] at ho'
                    cases ho'
                    exact H0.out, hgw8.trans hg9⟩
                case measure => simp [intOf]; omega
      · obtain rfl : i = n := by omega
        have HE := Lib.hid (checkR_none HC.out fun j x hj hx => hall.out j x (by rw [Hl.out] at hj; exact hj) hx)
        clear hall
        go_wp2_with fail
        go_ret2
        exact ⟨ret_chkD HE.out, hg3.trans hg⟩
end Go.Proofs.YtopomocbjlikjaaDoor
