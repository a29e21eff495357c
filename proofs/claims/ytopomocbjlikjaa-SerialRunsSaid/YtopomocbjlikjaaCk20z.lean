import Derived.Test.YtopomocbjlikjaaSt20z
import Derived.Test.YtopomocbjlikjaaFs20z
namespace Go.Proofs.Ytopomocbjlikjaa
set_option linter.unusedVariables false
set_option linter.unusedSimpArgs false
open Go.BigFrame Go.RowKit Go.WideShapes

/-! serial.Check. -/
noncomputable def chkV (l : List Tr) : Value := .tuple #[.int .i64 (checkR l).1, if (checkR l).2 = 0 then .nilIface else errV (checkR l).2]
theorem chkV_err {l : List Tr} {a b : Int} (h : checkR l = (a, b)) (hb : b ≠ 0) : chkV l = .tuple #[.int .i64 a, errV b] := by
  unfold chkV
  rw [h, if_neg hb]
theorem chkV_none {l : List Tr} {a : Int} (h : checkR l = (a, 0)) : chkV l = .tuple #[.int .i64 a, .nilIface] := by
  unfold chkV
  rw [h, if_pos rfl]
theorem checkR_code {l : List Tr} (h : codeR l ≠ 0) : checkR l = (-1, codeR l) := by
  unfold checkR
  rw [if_neg h]
theorem ret_chk {l : List Tr} {a b : Value} (h : chkV l = .tuple #[a, b]) : Ending.returned (.tuple #[a, b]) = .returned (chkV l) := by rw [h]
/-- does it not fit? -/
def badB (l : List Tr) (t : Tr) : Bool := !fitsT t (stP l t.snap.toNat) || (decide (0 < t.num) && !fitsT t (stP l (t.num - 1).toNat))
theorem chk_12 {l : List Tr} {t : Tr} (hc : codeR l = 0) (ht : t ∈ l) (hl : t.num ≤ lastN l) (h : badB l t = true) : chkAt l t = 12 := by
  obtain ⟨h1, h2, h3, h4⟩ := code_zero hc
  have hs := h3 t ht
  unfold badB at h
  rw [st_eq (fun k a b => h2 k a (by omega)), st_eq (fun k a b => h2 k a (by omega))] at h
  unfold chkAt
  rw [if_pos]
  simpa using h
theorem chk_rest {l : List Tr} {t : Tr} (hc : codeR l = 0) (ht : t ∈ l) (hl : t.num ≤ lastN l) (h : badB l t = false) : chkAt l t = (open Classical in if ∃ o ∈ l, t.snap < o.num ∧ o.fin ≤ t.beg then 13 else 0) := by
  obtain ⟨h1, h2, h3, h4⟩ := code_zero hc
  have hs := h3 t ht
  unfold badB at h
  rw [st_eq (fun k a b => h2 k a (by omega)), st_eq (fun k a b => h2 k a (by omega))] at h
  unfold chkAt
  rw [if_neg]
  · rintro (q | ⟨q1, q2⟩)
    · rw [q] at h; simp at h
    · rw [q2] at h; simp [q1] at h
theorem chk_13 {l : List Tr} {t o : Tr} (hc : codeR l = 0) (ht : t ∈ l) (hl : t.num ≤ lastN l) (h : badB l t = false) (ho : o ∈ l) (h1 : t.snap < o.num) (h2 : o.fin ≤ t.beg) : chkAt l t = 13 := by
  rw [chk_rest hc ht hl h, if_pos ⟨o, ho, h1, h2⟩]
theorem chk_0 {l : List Tr} {t : Tr} (hc : codeR l = 0) (ht : t ∈ l) (hl : t.num ≤ lastN l) (h : badB l t = false) (ho : ∀ o ∈ l, ¬ (t.snap < o.num ∧ o.fin ≤ t.beg)) : chkAt l t = 0 := by
  rw [chk_rest hc ht hl h, if_neg]
  rintro ⟨o, a, b⟩
  exact ho o a b
theorem num_le_last {l : List Tr} {t : Tr} (h : t ∈ l) : t.num ≤ lastN l := by
  have gen : ∀ (l : List Tr) (a : Int), (a ≤ l.foldl (fun a t => max a t.num) a) ∧ ∀ t ∈ l, t.num ≤ l.foldl (fun a t => max a t.num) a := by
    intro l
    induction l with
    | nil => intro a; exact ⟨Int.le_refl _, fun t h => (by cases h)⟩
    | cons x l ih =>
      intro a
      obtain ⟨h1, h2⟩ := ih (max a x.num)
      refine ⟨?_, fun t ht => ?_⟩
      · show a ≤ l.foldl _ (max a x.num); omega
      · rcases List.mem_cons.1 ht with rfl | ht
        · show t.num ≤ l.foldl _ (max a t.num); omega
        · exact h2 t ht
  exact (gen l 0).2 t h
theorem okT_nn {t : Tr} (h : okT t = true) : 0 ≤ t.snap ∧ 0 ≤ t.num := by
  unfold okT at h
  simp only [Bool.and_eq_true, decide_eq_true_eq] at h
  exact ⟨h.1.1.1.2, h.1.1.2⟩
set_option maxRecDepth 100000 in
set_option maxHeartbeats 40000000 in
theorem check_any (oa : Option Addr) (n cap : Nat) (l : List Tr) (w : World) (h : TripsAt w oa n cap l) {v : Nat} (hf : FewL l v) :
    Calls Try.prog 11 #[.slice oa n cap] w fun e w' => e = .returned (chkV l) ∧ Gr w w' := by
  have Hl := Lib.hid h.len
  have Hf := Lib.hid hf
  have hn : n ≤ 8 := by have h1 := hf.1; have h2 := h.len; omega
  have hcl := h.cap_le
  have hcm := h.cap_max
  unfold maxLen at hcm
  have hSt := Lib.hid (states_any oa n cap l w h hf)
  obtain ⟨b, off, ho, hc⟩ := h.get
  have Ho := Lib.hid ho
  have Hc := Lib.hid hc
  clear ho hc h hf
  by_cases hcode : codeR l = 0
  rotate_left
  · have hS : Calls Try.prog 20 #[.slice oa n cap] w fun e w' => e = .returned (.tuple #[.slice none 0 0, errV (codeR l)]) ∧ Gr w w' :=
      hSt.out.mono fun e w' hh => by
        rcases hh.1 with q | q
        · exact absurd q.1 hcode
        · exact ⟨q.2, hh.2⟩
    have HS := Lib.hid hS
    have HE := Lib.hid (chkV_err (checkR_code hcode) hcode)
    clear hS hSt hcode
    generalize codeR l = cd at *
    go_enter Try.func11, Try.ntmps11
    go_wp2_with (go_at_call 20; (with_reducible refine HS.out.mono ?_); rintro e w3 ⟨rfl, hg3⟩)
    go_ret2
    exact ⟨ret_chk HE.out, hg3⟩
  · have hS : Calls Try.prog 20 #[.slice oa n cap] w fun e w' => ∃ o c m, Hid (m = (lastN l).toNat + 1) ∧ e = .returned (.tuple #[.slice o m c, .nilIface]) ∧ StatesAt w' o m c (stsP l m) ∧ Gr w w' :=
      hSt.out.mono fun e w' hh => by
        rcases hh.1 with ⟨-, o, c, q1, q2⟩ | q
        · exact ⟨o, c, _, Lib.hid rfl, q1, q2, hh.2⟩
        · exact absurd hcode q.1
    have HS := Lib.hid hS
    have HC := Lib.hid hcode
    clear hS hSt hcode
    go_enter Try.func11, Try.ntmps11
    go_wp2_with (go_at_call 20; (with_reducible refine HS.out.mono ?_); rintro e w3 ⟨oS, cS, mS, HmS, rfl, hS3, hg3⟩; have hcS := hS3.cap_le; have hcS2 := hS3.cap_max; unfold maxLen at hcS2; have HS3 := Lib.hid hS3; clear hS3)
    obtain ⟨bS, offS, hoS, hcellS⟩ := HS3.out.cells
    have HoS := Lib.hid fun q => (hoS q).1
    have HcS := Lib.hid hcellS
    clear hoS hcellS
    go_loopw [20] (fun s20 wr => ∃ (i : Nat), i ≤ n ∧ s20 = .int .i64 i ∧ Hid (∀ (j : Nat) (t : Tr), j < i → l[j]? = some t → chkAt l t = 0) ∧ Gr w3 wr) (fun s20 _ => n - (intOf s20).toNat)
    case atStart => exact ⟨0, Nat.zero_le _, rfl, Lib.hid fun j t q _ => absurd q (by omega), Gr.refl _⟩
    case round =>
      obtain ⟨i, hi, rfl, hall, hg⟩ := hrel
      by_cases hlt : i < n
      · have hy : l[i]? = some (l[i]'(by have := Hl.out; omega)) := List.getElem?_eq_getElem _
        generalize (l[i]'(by have := Hl.out; omega)) = t at hy
        obtain ⟨p, m, c, R0⟩ := Hc.out i t hy
        have R1 := R0.keep (hg3.trans hg)
        have hI := run_tripP cap Ho.out hlt
        have Hy := Lib.hid hy
        have hm8 : m ≤ 8 := by
          have h1 := (Hf.out.2 i t hy).1
          have h2 := R1.seen.len
          omega
        obtain ⟨k1, k2, k3, k4⟩ := code_zero HC.out
        have htl := List.mem_of_getElem? hy
        have hok := okT_nn (k1 t htl)
        have hsl := k3 t htl
        have hnl := num_le_last htl
        have hln := k4
        rw [Hl.out] at hln
        have Htl := Lib.hid htl
        have Hnl := Lib.hid hnl
        have hmS := HmS.out
        have hsm : t.snap < mS := by omega
        have hnm : t.num - 1 < mS := by omega
        have hnm2 : (t.num - 1).toNat < mS := by omega
        have hsm2 : t.snap.toNat < mS := by omega
        clear hmS
        have Z := (Bx.new wr zT.toArray 46 rfl).of (us := zT) (by simp)
        have Hstl := Lib.hid (stP_len (l := l) fun i t hi => (Hf.out.2 i t hi).1)
        clear hy R0 k1 k2 k3 k4 htl
        go_upto_region 7 with (first | (refine wpList_load_mid rfl 46 _ rfl _ _ rfl _ _ (R1).rng Try.underlying46 rfl (by kernel_rfl) ?_) | ((with_reducible refine wpList_store_box (ty := 46) (Z) ((trL t p m c)) ?_ ?_ ?_ ?_ ?_ ?_); (focus (exact rfl)); (focus (exact ⟨_, _, rfl, rfl, rfl⟩)); (focus (exact rfl)); (focus kernel_rfl); (focus kernel_rfl)))
        have B7 := Z.setAll (us := trL t p m c) rfl
        have hg7 : Gr wr ((wr.alloc (.cells zT.toArray 46)).setCells wr.heap.size 0 (trL t p m c)) := ((Gr.refl wr).alloc _).setCells (Nat.le_refl _) _ _
        have HS7 := Lib.hid (R1.seen.keep hg7)
        have hg37 := hg.trans hg7
        clear Z R1 hI hg hg7
        generalize (wr.alloc (.cells zT.toArray 46)).setCells wr.heap.size 0 (trL t p m c) = w7 at *
        generalize wr.heap.size = b7 at *
        (try simp only [Act.put])
        go_cut [48] (fun s48 wx => ∃ bb : Bool, s48 = .bool bb ∧ Hid (badB l t = bb) ∧ Gr w7 wx)
        case first =>
          have x0 := B7.cell 0 rfl
          have x1 := B7.cell 1 rfl
          have x2 := B7.cell 2 rfl
          have x3 := B7.cell 3 rfl
          have x4 := B7.cell 4 rfl
          -- the rows behind its snapshot
          obtain ⟨vs, -, -, ⟨o1, n1, c1, rfl, hR1⟩, hcl1⟩ := HcS.out t.snap.toNat _ (stsP_get (l := l) hsm2)
          have y1 := hg37.keep (hcl1 0 _ rfl)
          simp only [Nat.mul_one, Nat.add_zero] at y1
          have hI1 := fun w => run_rsI cS HoS.out (k := t.snap) hok.1 hsm w
          have hn1 : n1 ≤ 64 := by have h1 := hR1.len; have h2 := Hstl.out t.snap.toNat; omega
          have hF1 := fun (q : After w7) => fits20_any t p m c o1 n1 c1 _ q.W (HS7.out.keep q.gr) (hR1.keep (hg37.trans q.gr)) (by omega)
          clear hcl1 hR1
          cases hf1 : fitsT t (stP l t.snap.toNat)
          · have HB : Hid (badB l t = true) := Lib.hid (by unfold badB; rw [hf1]; rfl)
            rw [hf1] at hF1
            have HF1 := Lib.hid hF1
            clear hF1 hf1
            have X0 := After.cell x0
            have X1 := After.cell x1
            have X2 := After.cell x2
            have X3 := After.cell x3
            have X4 := After.cell x4
            have Y1 := After.cell y1
            clear x0 x1 x2 x3 x4 y1
            refine wp_region_after (by kernel_rfl) (by kernel_rfl) ?_
            repeat (go_big_quiet_step ((go_at_call 21; (with_reducible exact after_gr (HF1.out _)))))
            refine wpQuiet_nil ?_
            rintro _ ⟨⟨w1, hg1⟩, rfl⟩
            have hgq := hg1
            all_goals
              go_wp2_with fail
              go_meet
              exact ⟨true, rfl, HB, hgq⟩
          · by_cases hnum : 0 < t.num
            · have hnum2 : (0 : Int) < t.num := hnum
              obtain ⟨vs, -, -, ⟨o2, n2, c2, rfl, hR2⟩, hcl2⟩ := HcS.out (t.num - 1).toNat _ (stsP_get (l := l) hnm2)
              have y2 := hg37.keep (hcl2 0 _ rfl)
              simp only [Nat.mul_one, Nat.add_zero] at y2
              rw [show (t.num - 1).toNat = t.num.toNat - 1 by omega] at y2
              have hI2 := fun w => run_rsI cS HoS.out (k := t.num - 1) (by omega) hnm w
              have e1 : IntKind.i64.wrap (t.num - 1) = t.num - 1 := IntWalk.i64_in _ (by omega)
              have hn2 : n2 ≤ 64 := by have h1 := hR2.len; have h2 := Hstl.out (t.num - 1).toNat; omega
              have hF2 := fun (q : After w7) => fits20_any t p m c o2 n2 c2 _ q.W (HS7.out.keep q.gr) (hR2.keep (hg37.trans q.gr)) (by omega)
              clear hcl2 hR2
              cases hf2 : fitsT t (stP l (t.num - 1).toNat)
              all_goals
                have hBB : badB l t = (!fitsT t (stP l t.snap.toNat) || (decide (0 < t.num) && !fitsT t (stP l (t.num - 1).toNat))) := rfl
                rw [hf1, hf2, decide_eq_true hnum] at hBB
                have HB := Lib.hid hBB
                clear hBB
                rw [hf1] at hF1
                rw [hf2] at hF2
                have HF1 := Lib.hid hF1
                have HF2 := Lib.hid hF2
                clear hF1 hf1 hF2 hf2
                have X0 := After.cell x0
                have X1 := After.cell x1
                have X2 := After.cell x2
                have X3 := After.cell x3
                have X4 := After.cell x4
                have Y1 := After.cell y1
                have Y2 := After.cell y2
                clear x0 x1 x2 x3 x4 y1 y2
                refine wp_region_after (by kernel_rfl) (by kernel_rfl) ?_
                repeat (go_big_quiet_step ((first | (go_at_call 21; (with_reducible exact after_gr (HF1.out _))) | (go_at_call 21; (with_reducible exact after_gr (HF2.out _))))))
                refine wpQuiet_nil ?_
                rintro _ ⟨⟨w1, hg1⟩, rfl⟩
                have hgq := hg1
                all_goals
                  go_wp2_with fail
                  go_meet
                  exact ⟨_, rfl, HB, hgq⟩
            · have HB : Hid (badB l t = false) := Lib.hid (by unfold badB; rw [hf1, decide_eq_false hnum]; rfl)
              have hnum2 : decide (0 < t.num) = false := decide_eq_false hnum
              rw [hf1] at hF1
              have HF1 := Lib.hid hF1
              clear hF1 hf1 hnum
              have X0 := After.cell x0
              have X1 := After.cell x1
              have X2 := After.cell x2
              have X3 := After.cell x3
              have X4 := After.cell x4
              have Y1 := After.cell y1
              clear x0 x1 x2 x3 x4 y1
              refine wp_region_after (by kernel_rfl) (by kernel_rfl) ?_
              repeat (go_big_quiet_step ((go_at_call 21; (with_reducible exact after_gr (HF1.out _)))))
              refine wpQuiet_nil ?_
              rintro _ ⟨⟨w1, hg1⟩, rfl⟩
              have hgq := hg1
              all_goals
                go_wp2_with fail
                go_meet
                exact ⟨false, rfl, HB, hgq⟩
        case rest =>
          obtain ⟨bb, rfl, HB, hg8⟩ := hcut
          have hgw8 := hg37.trans hg8
          cases bb
          rotate_left
          · have h12 := chk_12 HC.out Htl.out Hnl.out HB.out
            have HE := Lib.hid (chkV_err ((checkR_at HC.out Hy.out hall.out (by rw [h12]; decide)).trans (by rw [h12])) (by decide))
            clear h12
            go_wp2_with fail
            go_ret2
            exact ⟨ret_chk HE.out, hg3.trans hgw8⟩
          · have B8 := B7.keep hg8
            have x0 := B8.cell 0 rfl
            have x2 := B8.cell 2 rfl
            clear B8 B7 hg37 hsm hnm
            go_wp2_with fail
            go_loopw [53] (fun s53 wx => ∃ (j : Nat), j ≤ n ∧ s53 = .int .i64 j ∧ Hid (∀ (k : Nat) (o : Tr), k < j → l[k]? = some o → ¬ (t.snap < o.num ∧ o.fin ≤ t.beg)) ∧ Gr wc wx) (fun s53 _ => n - (intOf s53).toNat)
            case atStart => exact ⟨0, Nat.zero_le _, rfl, Lib.hid fun j t q _ => absurd q (by omega), Gr.refl _⟩
            case round =>
              obtain ⟨j, hj, rfl, hall2, hg9⟩ := hrel
              have x0 := hg9.keep x0
              have x2 := hg9.keep x2
              by_cases hltj : j < n
              · have hy : l[j]? = some (l[j]'(by have := Hl.out; omega)) := List.getElem?_eq_getElem _
                generalize (l[j]'(by have := Hl.out; omega)) = o at hy
                obtain ⟨p2, m2, c2, R0⟩ := Hc.out j o hy
                have R1 := R0.keep (hg3.trans (hgw8.trans hg9))
                have hI := run_tripP cap Ho.out hltj
                have Hyo := Lib.hid hy
                have Z := (Bx.new wr zT.toArray 46 rfl).of (us := zT) (by simp)
                clear hy R0
                go_upto_region 12 with (first | (refine wpList_load_mid rfl 46 _ rfl _ _ rfl _ _ (R1).rng Try.underlying46 rfl (by kernel_rfl) ?_) | ((with_reducible refine wpList_store_box (ty := 46) (Z) ((trL o p2 m2 c2)) ?_ ?_ ?_ ?_ ?_ ?_); (focus (exact rfl)); (focus (exact ⟨_, _, rfl, rfl, rfl⟩)); (focus (exact rfl)); (focus kernel_rfl); (focus kernel_rfl)))
                have B9 := Z.setAll (us := trL o p2 m2 c2) rfl
                have hg10 : Gr wr ((wr.alloc (.cells zT.toArray 46)).setCells wr.heap.size 0 (trL o p2 m2 c2)) := ((Gr.refl wr).alloc _).setCells (Nat.le_refl _) _ _
                have x0 := hg10.keep x0
                have x2 := hg10.keep x2
                have hg910 := hg9.trans hg10
                clear Z R1 hI hg10
                generalize (wr.alloc (.cells zT.toArray 46)).setCells wr.heap.size 0 (trL o p2 m2 c2) = w9 at *
                generalize wr.heap.size = b9 at *
                have z1 := B9.cell 1 rfl
                have z3 := B9.cell 3 rfl
                by_cases hbad : t.snap < o.num ∧ o.fin ≤ t.beg
                · have h13 := chk_13 HC.out Htl.out Hnl.out HB.out (List.mem_of_getElem? Hyo.out) hbad.1 hbad.2
                  have HE := Lib.hid (chkV_err ((checkR_at HC.out Hy.out hall.out (by rw [h13]; decide)).trans (by rw [h13])) (by decide))
                  obtain ⟨q1, q2⟩ := hbad
                  have q3 : (0 : Int) < o.num := by omega
                  clear h13
                  go_wp2_with fail
                  go_ret2
                  exact ⟨ret_chk HE.out, hg3.trans (hgw8.trans hg910)⟩
                · have Hbad := Lib.hid hbad
                  (try simp only [Act.put])
                  go_cut [73] (fun s73 wx => s73 = .bool false ∧ wx = w9)
                  case first =>
                    have hq : o.num ≤ 0 ∨ 0 < o.num ∧ t.beg < o.fin ∨ 0 < o.num ∧ o.fin ≤ t.beg ∧ o.num ≤ t.snap := by omega
                    clear hbad
                    rcases hq with q1 | ⟨q1, q2⟩ | ⟨q1, q2, q3⟩
                    all_goals
                      go_wp2_with fail
                      go_meet
                      exact ⟨by first | rfl | (congr 1; exact decide_eq_false (by omega)), rfl⟩
                  case rest =>
                    obtain ⟨rfl, rfl⟩ := hcut
                    clear hbad
                    go_wp2_with fail
                    go_roundw
                    case rel => exact ⟨j + 1, by omega, by go_num, Lib.hid fun k o' hk ho' => by
                      rcases Nat.lt_or_ge k j with z | z
                      · exact hall2.out k o' z ho'
                      · obtain rfl : k = j := by omega
                        rw [Hyo.out] at ho'
                        cases ho'
                        exact Hbad.out, hg910⟩
                    case measure => simp [intOf]; omega
              · have h0 := chk_0 HC.out Htl.out Hnl.out HB.out (all_get fun k o hk h => hall2.out k o (by rw [Hl.out] at hk; omega) h)
                have H0 := Lib.hid h0
                clear h0 hall2
                go_wp2_with fail
                go_roundw
                case rel => exact ⟨i + 1, by omega, by go_num, Lib.hid fun k o' hk ho' => by
                  rcases Nat.lt_or_ge k i with z | z
                  · exact hall.out k o' z ho'
                  · obtain rfl : k = i := by omega
                    rw [Hy.out] at ho'
                    cases ho'
                    exact H0.out, hgw8.trans hg9⟩
                case measure => simp [intOf]; omega
      · obtain rfl : i = n := by omega
        have HE := Lib.hid (chkV_none (checkR_none HC.out fun j x hj hx => hall.out j x (by rw [Hl.out] at hj; exact hj) hx))
        clear hall
        go_wp2_with fail
        go_ret2
        exact ⟨ret_chk HE.out, hg3.trans hg⟩
end Go.Proofs.Ytopomocbjlikjaa
