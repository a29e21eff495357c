import Derived.Test.YtopomocbjlikjaaFw20z
namespace Go.Proofs.Ytopomocbjlikjaa
set_option linter.unusedVariables false
set_option linter.unusedSimpArgs false
open Go.BigFrame Go.RowKit Go.WideShapes

/-! The document's Last (serial). -/
theorem all_get {l : List Tr} {P : Tr → Prop} (h : ∀ (j : Nat) (t : Tr), j < l.length → l[j]? = some t → P t) : ∀ t ∈ l, P t := fun t ht => by
  obtain ⟨j, hj, rfl⟩ := List.mem_iff_getElem.1 ht
  exact h j _ hj (List.getElem?_eq_getElem hj)
theorem code_arg {l : List Tr} {i : Nat} {t : Tr} (h : l[i]? = some t) (hf : okT t = false) : codeR l = 1 := by
  unfold codeR
  rw [if_pos ⟨t, List.mem_of_getElem? h, hf⟩]
theorem code_there {l : List Tr} (h1 : ∀ t ∈ l, okT t = true) {i : Nat} {t : Tr} (h : l[i]? = some t) (h0 : 0 < t.num) (hf : 1 < countN l t.num) : codeR l = 7 := by
  unfold codeR
  rw [if_neg (fun ⟨t, a, b⟩ => by rw [h1 t a] at b; cases b), if_pos ⟨t, List.mem_of_getElem? h, h0, hf⟩]
theorem code_range {l : List Tr} (h1 : ∀ t ∈ l, okT t = true) (h2 : ∀ t ∈ l, 0 < t.num → countN l t.num ≤ 1) (h3 : (l.length : Int) < lastN l ∨ (∃ n : Int, 1 ≤ n ∧ n ≤ lastN l ∧ countN l n = 0) ∨ ∃ t ∈ l, lastN l < t.snap) : codeR l = 2 := by
  unfold codeR
  rw [if_neg (fun ⟨t, a, b⟩ => by rw [h1 t a] at b; cases b), if_neg (fun ⟨t, a, b, c⟩ => by have := h2 t a b; omega)]
  split
  · rfl
  · rename_i q1
    split
    · rfl
    · rename_i q2
      split
      · rfl
      · rename_i q3
        rcases h3 with q | q | q
        · exact absurd q q1
        · exact absurd q q2
        · exact absurd q q3
theorem code_none {l : List Tr} (h1 : ∀ t ∈ l, okT t = true) (h2 : ∀ t ∈ l, 0 < t.num → countN l t.num ≤ 1) (h3 : lastN l ≤ l.length) (h4 : ∀ n : Int, 1 ≤ n → n ≤ lastN l → countN l n ≠ 0) (h5 : ∀ t ∈ l, t.snap ≤ lastN l) : codeR l = 0 := by
  unfold codeR
  rw [if_neg (fun ⟨t, a, b⟩ => by rw [h1 t a] at b; cases b), if_neg (fun ⟨t, a, b, c⟩ => by have := h2 t a b; omega), if_neg (by omega), if_neg (fun ⟨n, a, b, c⟩ => h4 n a b c), if_neg (fun ⟨t, a, b⟩ => by have := h5 t a; omega)]
noncomputable def lastV (l : List Tr) : Int := if codeR l = 0 then lastN l else 0
theorem lastV_no {l : List Tr} {c : Int} (h : codeR l = c) (hc : c ≠ 0) : lastV l = 0 := by unfold lastV; rw [if_neg (by rw [h]; exact hc)]
theorem lastV_yes {l : List Tr} (h : codeR l = 0) : lastV l = lastN l := by unfold lastV; rw [if_pos h]
theorem lastN_take {l : List Tr} {i : Nat} {t : Tr} (h : l[i]? = some t) : lastN (l.take (i + 1)) = max (lastN (l.take i)) t.num := by
  obtain ⟨h1, h2⟩ := List.getElem?_eq_some_iff.1 h
  rw [List.take_succ_eq_append_getElem h1, h2]
  unfold lastN
  rw [List.foldl_append]; rfl
theorem ret_code {l : List Tr} {a b : Int} (h1 : lastV l = a) (h2 : codeR l = b) : Ending.returned (.tuple #[.int .i64 a, .int .i64 b]) = .returned (.tuple #[.int .i64 (lastV l), .int .i64 (codeR l)]) := by rw [h1, h2]
set_option maxRecDepth 100000 in
set_option maxHeartbeats 20000000 in
theorem last_any (oa : Option Addr) (n cap : Nat) (l : List Tr) (w : World) (h : TripsAt w oa n cap l) (hn : n ≤ 1000) :
    Calls Try.prog 14 #[.slice oa n cap] w fun e w' => e = .returned (.tuple #[.int .i64 (lastV l), .int .i64 (codeR l)]) ∧ Gr w w' := by
  have Hl := Lib.hid h.len
  have hcl := h.cap_le
  have hcm := h.cap_max
  unfold maxLen at hcm
  have H := Lib.hid h
  obtain ⟨b, off, ho, hc⟩ := h.get
  have Ho := Lib.hid ho
  have Hc := Lib.hid hc
  clear ho hc h
  go_enter Try.func14, Try.ntmps14
  go_wp2_with fail
  go_loopw [4, 5] (fun s4 s5 wr => ∃ (i : Nat), i ≤ n ∧ s5 = .int .i64 i ∧ s4 = .int .i64 (lastN (l.take i)) ∧ Hid (∀ (j : Nat) (t : Tr), j < i → l[j]? = some t → okT t = true) ∧ Gr w wr) (fun _ s5 _ => n - (intOf s5).toNat)
  case atStart => exact ⟨0, Nat.zero_le _, rfl, rfl, Lib.hid fun j t q _ => absurd q (by omega), Gr.refl _⟩
  case round =>
    obtain ⟨i, hi, rfl, rfl, hall, hg⟩ := hrel
    by_cases hlt : i < n
    · have hy : l[i]? = some (l[i]'(by have := Hl.out; omega)) := List.getElem?_eq_getElem _
      generalize (l[i]'(by have := Hl.out; omega)) = t at hy
      obtain ⟨p, m, c, R0⟩ := Hc.out i t hy
      have R1 := R0.keep hg
      have hI := run_trip cap Ho.out hlt
      have hR := Lib.hid (refRightT_any t p m c wr R1.seen)
      have A3 := Lib.hid (R0.cell 3 rfl)
      have hs := Lib.hid (lastN_take hy)
      generalize hq : lastN (l.take i) = q at *
      have Hy := Lib.hid hy
      have HQ := Lib.hid hq
      clear hy R0 hq
      cases hok : okT t
      · have HE := Lib.hid (code_arg Hy.out hok)
        rw [hok] at hR
        go_wp2_with (first | (refine wpList_load_mid rfl 28 _ rfl _ _ rfl _ _ (R1).rng Try.underlying28 rfl (by kernel_rfl) ?_) | (go_at_call 7; (with_reducible refine (hR.out).mono ?_); rintro e w3 ⟨rfl, hg3⟩))
        go_ret2
        exact ⟨ret_code (lastV_no HE.out (by decide)) HE.out, hg.trans hg3⟩
      · have HO := Lib.hid hok
        rw [hok] at hR
        clear hok
        go_wp2_with (first | (refine wpList_load_mid rfl 28 _ rfl _ _ rfl _ _ (R1).rng Try.underlying28 rfl (by kernel_rfl) ?_) | (go_at_call 7; (with_reducible refine (hR.out).mono ?_); rintro e w3 ⟨rfl, hg3⟩; have a3 := (hg.trans hg3).keep A3.out))
        all_goals
          go_roundw
          case rel =>
            refine ⟨i + 1, by omega, by go_num, ?_, Lib.hid fun j t' hj ht' => ?_, hg.trans hg3⟩
            · rw [hs.out]; first | rfl | go_num
            · rcases Nat.lt_or_ge j i with z | z
              · exact hall.out j t' z ht'
              · obtain rfl : j = i := by omega
                rw [Hy.out] at ht'
                cases ht'
                exact HO.out
          case measure => simp [intOf]; omega
    · obtain rfl : i = n := by omega
      have HA : Hid (∀ t ∈ l, okT t = true) := Lib.hid (all_get fun j t hj => hall.out j t (by rw [Hl.out] at hj; exact hj))
      rw [List.take_of_length_le (by rw [Hl.out]; exact Nat.le_refl _)]
      generalize hq : lastN l = q
      have HQ := Lib.hid hq
      clear hall hq
      go_wp2_with fail
      go_loopw [6] (fun s6 wx => ∃ (j : Nat), j ≤ i ∧ s6 = .int .i64 j ∧ Hid (∀ (k : Nat) (t : Tr), k < j → l[k]? = some t → 0 < t.num → countN l t.num ≤ 1) ∧ Gr w wx) (fun s6 _ => i - (intOf s6).toNat)
      case atStart => exact ⟨0, Nat.zero_le _, rfl, Lib.hid fun j t q _ => absurd q (by omega), hg⟩
      case round =>
        obtain ⟨j, hj, rfl, hall, hg2⟩ := hrel
        by_cases hltj : j < i
        · have hy : l[j]? = some (l[j]'(by have := Hl.out; omega)) := List.getElem?_eq_getElem _
          generalize (l[j]'(by have := Hl.out; omega)) = t at hy
          obtain ⟨p, m, c, R0⟩ := Hc.out j t hy
          have a3 := hg2.keep (R0.cell 3 rfl)
          have hI := run_trip cap Ho.out hltj
          have hN := Lib.hid (number_any oa i cap l t.num wr (H.out.keep hg2))
          have Hy := Lib.hid hy
          clear hy R0
          by_cases h0 : 0 < t.num
          · have H0 := Lib.hid h0
            by_cases h1 : 1 < countN l t.num
            · have HE := Lib.hid (code_there HA.out Hy.out h0 h1)
              have h1z : (1 : Int) < (countN l t.num : Int) := by omega
              clear h1
              go_wp2_with (first | (go_at_call 24; (with_reducible refine (hN.out).mono ?_); rintro e w3 ⟨rfl, rfl⟩))
              go_ret2
              exact ⟨ret_code (lastV_no HE.out (by decide)) HE.out, hg2⟩
            · have h1z : ¬ (1 : Int) < (countN l t.num : Int) := by omega
              have H1 := Lib.hid h1
              clear h1
              go_wp2_with (first | (go_at_call 24; (with_reducible refine (hN.out).mono ?_); rintro e w3 ⟨rfl, rfl⟩))
              go_roundw
              case rel => exact ⟨j + 1, by omega, by go_num, Lib.hid fun k t' hk ht' h0' => by
                rcases Nat.lt_or_ge k j with z | z
                · exact hall.out k t' z ht' h0'
                · obtain rfl : k = j := by omega
                  rw [Hy.out] at ht'
                  cases ht'
                  have := H1.out
                  omega, hg2⟩
              case measure => simp [intOf]; omega
          · go_wp2_with fail
            go_roundw
            case rel => exact ⟨j + 1, by omega, by go_num, Lib.hid fun k t' hk ht' h0' => by
              rcases Nat.lt_or_ge k j with z | z
              · exact hall.out k t' z ht' h0'
              · obtain rfl : k = j := by omega
                rw [Hy.out] at ht'
                cases ht'
                exact absurd h0' h0, hg2⟩
            case measure => simp [intOf]; omega
        · obtain rfl : j = i := by omega
          have HB : Hid (∀ t ∈ l, 0 < t.num → countN l t.num ≤ 1) := Lib.hid (all_get fun k t hk => hall.out k t (by rw [Hl.out] at hk; exact hk))
          clear hall
          by_cases h3 : (j : Int) < q
          · have HE := Lib.hid (code_range HA.out HB.out (.inl (by rw [Hl.out, HQ.out]; exact h3)))
            go_wp2_with fail
            go_ret2
            exact ⟨ret_code (lastV_no HE.out (by decide)) HE.out, hg2⟩
          · have h3q : q ≤ (j : Int) := by omega
            clear h3
            go_wp2_with fail
            go_loopw [7] (fun s7 wx => ∃ (k : Nat), 1 ≤ k ∧ (k : Int) ≤ (j : Int) + 1 ∧ s7 = .int .i64 k ∧ Hid (∀ n : Int, 1 ≤ n → n < k → countN l n ≠ 0) ∧ Gr w wx) (fun s7 _ => (q + 1 - intOf s7).toNat)
            case atStart => exact ⟨1, Nat.le_refl _, by omega, rfl, Lib.hid fun n h1 h2 => absurd h2 (by omega), hg2⟩
            case round =>
              obtain ⟨k, hk1, hkj, rfl, hall, hg2⟩ := hrel
              by_cases hltk : (k : Int) ≤ q
              · have hN := Lib.hid (number_any oa j cap l k _ (H.out.keep hg2))
                by_cases h4 : countN l k = 0
                · have HE := Lib.hid (code_range HA.out HB.out (.inr (.inl ⟨k, by omega, by rw [HQ.out]; exact hltk, h4⟩)))
                  rw [h4] at hN
                  clear h4
                  go_wp2_with (first | (go_at_call 24; (with_reducible refine (hN.out).mono ?_); rintro e w3 ⟨rfl, rfl⟩))
                  go_ret2
                  exact ⟨ret_code (lastV_no HE.out (by decide)) HE.out, hg2⟩
                · have H4 := Lib.hid h4
                  have e4 : ((countN l k : Int) == 0) = false := by rw [beq_eq_false_iff_ne]; omega
                  clear h4
                  go_wp2_with (first | (go_at_call 24; (with_reducible refine (hN.out).mono ?_); rintro e w3 ⟨rfl, rfl⟩))
                  go_roundw
                  case rel => exact ⟨k + 1, by omega, by omega, by go_num, Lib.hid fun n h1 h2 => by
                    rcases Int.lt_or_le n k with z | z
                    · exact hall.out n h1 z
                    · obtain rfl : n = k := by omega
                      exact H4.out, hg2⟩
                  case measure => simp [intOf]; omega
              · have HD : Hid (∀ n : Int, 1 ≤ n → n ≤ lastN l → countN l n ≠ 0) := Lib.hid fun n h1 h2 => hall.out n h1 (by rw [HQ.out] at h2; omega)
                clear hall
                go_wp2_with fail
                go_loopw [8] (fun s8 wx => ∃ (i : Nat), i ≤ j ∧ s8 = .int .i64 i ∧ Hid (∀ (k : Nat) (t : Tr), k < i → l[k]? = some t → t.snap ≤ q) ∧ Gr w wx) (fun s8 _ => j - (intOf s8).toNat)
                case atStart => exact ⟨0, Nat.zero_le _, rfl, Lib.hid fun j t q _ => absurd q (by omega), hg2⟩
                case round =>
                  obtain ⟨i, hi8, rfl, hall, hg2⟩ := hrel
                  by_cases hlti : i < j
                  · have hy : l[i]? = some (l[i]'(by have := Hl.out; omega)) := List.getElem?_eq_getElem _
                    generalize (l[i]'(by have := Hl.out; omega)) = t at hy
                    obtain ⟨p, m, c, R0⟩ := Hc.out i t hy
                    have a2 := hg2.keep (R0.cell 2 rfl)
                    have hI := run_trip cap Ho.out hlti
                    have Hy := Lib.hid hy
                    clear hy R0
                    by_cases h5 : q < t.snap
                    · have HE := Lib.hid (code_range HA.out HB.out (.inr (.inr ⟨t, List.mem_of_getElem? Hy.out, by rw [HQ.out]; exact h5⟩)))
                      go_wp2_with fail
                      go_ret2
                      exact ⟨ret_code (lastV_no HE.out (by decide)) HE.out, hg2⟩
                    · go_wp2_with fail
                      go_roundw
                      case rel => exact ⟨i + 1, by omega, by go_num, Lib.hid fun k' t' hk ht' => by
                        rcases Nat.lt_or_ge k' i with z | z
                        · exact hall.out k' t' z ht'
                        · obtain rfl : k' = i := by omega
                          rw [Hy.out] at ht'
                          cases ht'
                          omega, hg2⟩
                      case measure => simp [intOf]; omega
                  · obtain rfl : i = j := by omega
                    have HE := Lib.hid (code_none HA.out HB.out (by rw [Hl.out, HQ.out]; exact h3q) HD.out (all_get fun k t hk h => by rw [HQ.out]; exact hall.out k t (by rw [Hl.out] at hk; exact hk) h))
                    clear hall
                    go_wp2_with fail
                    go_ret2
                    exact ⟨ret_code ((lastV_yes HE.out).trans HQ.out) HE.out, hg2⟩
end Go.Proofs.Ytopomocbjlikjaa
