import Derived.Test.YtopomocbjlikjaaCk20z
import Derived.Test.YtopomocbjlikjaaAw20z
import Derived.Test.YtopomocbjlikjaaAl20z
namespace Go.Proofs.Ytopomocbjlikjaa
set_option linter.unusedVariables false
set_option linter.unusedSimpArgs false
open Go.BigFrame Go.RowKit Go.WideShapes

/-! The law of late trips (serial). -/
abbrev errOf (c : Int) : Value := if c = 0 then .nilIface else errV c
def lateB (a b : Tr) : Bool := decide (0 < a.num) && decide (a.fin ≤ b.beg) && decide (b.snap < a.num)
/-- has one been seen? (pairs ahead of i, j) -/
def lateUp (l : List Tr) (i j : Nat) : Prop := ∃ (a b : Tr) (p q : Nat), l[p]? = some a ∧ l[q]? = some b ∧ (p < i ∨ p = i ∧ q < j) ∧ lateB a b = true
theorem late_no (l : List Tr) : ¬ lateUp l 0 0 := by
  rintro ⟨a, b, p, q, -, -, h, -⟩
  omega
theorem late_step {l : List Tr} {i j : Nat} {a b : Tr} (ha : l[i]? = some a) (hb : l[j]? = some b) (v : Bool) (h : v = true → lateUp l i j) : (v || lateB a b) = true → lateUp l i (j + 1) := fun hv => by
  rcases Bool.or_eq_true_iff.1 hv with h1 | h1
  · obtain ⟨x, y, p, q, h2, h3, h4, h5⟩ := h h1
    exact ⟨x, y, p, q, h2, h3, by omega, h5⟩
  · exact ⟨a, b, i, j, ha, hb, .inr ⟨rfl, by omega⟩, h1⟩
theorem late_row {l : List Tr} {i n : Nat} {v : Bool} (h : v = true → lateUp l i n) : v = true → lateUp l (i + 1) 0 := fun hv => by
  obtain ⟨x, y, p, q, h2, h3, h4, h5⟩ := h hv
  exact ⟨x, y, p, q, h2, h3, .inl (by omega), h5⟩
theorem late_of {l : List Tr} {i j : Nat} (h : lateUp l i j) : ∃ a ∈ l, ∃ b ∈ l, 0 < a.num ∧ a.fin ≤ b.beg ∧ b.snap < a.num := by
  obtain ⟨a, b, p, q, h2, h3, -, h5⟩ := h
  unfold lateB at h5
  simp only [Bool.and_eq_true, decide_eq_true_eq] at h5
  exact ⟨a, List.mem_of_getElem? h2, b, List.mem_of_getElem? h3, h5.1.1, h5.1.2, h5.2⟩
theorem late_end {l : List Tr} {v : Bool} {n : Nat} (h : v = true → lateUp l n 0) : codeR l ≠ 0 ∨ v = false ∨ (checkR l).2 ≠ 0 := by
  by_cases hc : codeR l = 0
  · cases v
    · exact .inr (.inl rfl)
    · exact .inr (.inr (late_wrong hc (late_of (h rfl))))
  · exact .inl hc
set_option maxRecDepth 100000 in
set_option maxHeartbeats 20000000 in
theorem late20 (oa : Option Addr) (n cap : Nat) (l : List Tr) (w : World) (h : TripsAt w oa n cap l) :
    Calls Try.prog 4 #[.slice oa n cap] w fun e w' => e = .returned (.bool true) ∧ Gr w w' := by
  have hFE := Lib.hid (few20_any oa n cap l w h)
  have H := Lib.hid h
  have hcl := h.cap_le
  have hcm := h.cap_max
  unfold maxLen at hcm
  obtain ⟨b, off, ho, hc⟩ := h.get
  have Ho := Lib.hid ho
  have Hc := Lib.hid hc
  have Hl := Lib.hid h.len
  clear ho hc h
  go_enter Try.func4, Try.ntmps4
  go_wp2_with fail
  refine hFE.out.mono ?_
  rintro e w1 ⟨⟨b1, rfl, hb1⟩, hg1⟩
  cases b1
  · go_wp2_with fail
    refine (awake20_any _).mono ?_
    rintro e w2 ⟨rfl, hg2⟩
    go_wp2_with fail
    go_ret
    exact ⟨rfl, hg1.trans hg2⟩
  have Hf := Lib.hid (hb1 rfl)
  clear hb1 hFE
  have hn : n ≤ 8 := by have h1 := Hf.out.1; have h2 := Hl.out; omega
  have hAl := Lib.hid (all20_any oa n cap l w1 (H.out.keep hg1) Hf.out)
  have hC : ∀ w2 o2 c2, TripsAt w2 o2 n c2 l → Calls Try.prog 11 #[.slice o2 n c2] w2 fun e w' => e = .returned (.tuple #[.int .i64 (checkR l).1, errOf (checkR l).2]) ∧ Gr w2 w' := fun w2 o2 c2 hT => check_any o2 n c2 l w2 hT Hf.out
  have hLa := Lib.hid fun w2 (hq : Gr w1 w2) => last_any oa n cap l w2 (H.out.keep (hg1.trans hq)) (by omega)
  have HE := Lib.hid fun (v : Bool) (k : Nat) (h : v = true → lateUp l k 0) => late_end h
  have HC := Lib.hid hC
  clear hC
  generalize checkR l = r at *
  obtain ⟨ri, rc⟩ := r
  dsimp only at HC HE
  generalize hcd : codeR l = cd at hLa HE
  generalize hlv : lastV l = lv at hLa
  clear hcd hlv
  go_upto_region 6 with (first | (go_at_call 12; (with_reducible refine hAl.out.mono ?_); rintro e w2 ⟨o2, c2, rfl, hT2, hg2⟩; (have HT2 := Lib.hid hT2); clear hT2) | (go_at_call 11; (with_reducible refine (HC.out _ _ _ HT2.out).mono ?_); rintro e w3 ⟨rfl, hg3⟩; (have hgw3 := hg2.trans hg3)) | (go_at_call 14; (with_reducible refine (hLa.out _ hgw3).mono ?_); rintro e w4 ⟨rfl, hg4⟩; (have hgw4 := hg1.trans (hgw3.trans hg4))))
  have H0 : Hid (false = true → lateUp l 0 0) := Lib.hid fun q => by cases q
  have HER0 : Hid (rc ≠ 0 → errOf rc = errV rc) := Lib.hid fun h => if_neg h
  generalize errOf rc = er at *
  go_wp2_with fail
  go_loopw [7, 29] (fun s7 s29 wr => ∃ (i : Nat) (v : Bool), i ≤ n ∧ s29 = .int .i64 i ∧ s7 = .bool v ∧ Hid (v = true → lateUp l i 0) ∧ Gr w wr) (fun _ s29 _ => n - (intOf s29).toNat)
  case atStart => exact ⟨0, false, Nat.zero_le _, rfl, rfl, H0, hgw4⟩
  case round =>
    obtain ⟨i, v, hi, rfl, rfl, hL, hg⟩ := hrel
    by_cases hlt : i < n
    · have hy : l[i]? = some (l[i]'(by have := Hl.out; omega)) := List.getElem?_eq_getElem _
      generalize (l[i]'(by have := Hl.out; omega)) = t at hy
      obtain ⟨p, m, c, R0⟩ := Hc.out i t hy
      have R1 := R0.keep hg
      have hI := run_trip cap Ho.out hlt
      have Hy := Lib.hid hy
      have Z := (Bx.new wr zT.toArray 28 rfl).of (us := zT) (by simp)
      clear hy R0
      go_upto_region 9 with (first | (refine wpList_load_mid rfl 28 _ rfl _ _ rfl _ _ (R1).rng Try.underlying28 rfl (by kernel_rfl) ?_) | ((with_reducible refine wpList_store_box (ty := 28) (Z) ((trL t p m c)) ?_ ?_ ?_ ?_ ?_ ?_); (focus (exact rfl)); (focus (exact ⟨_, _, rfl, rfl, rfl⟩)); (focus (exact rfl)); (focus kernel_rfl); (focus kernel_rfl)))
      have B7 := Z.setAll (us := trL t p m c) rfl
      have hg7 : Gr wr ((wr.alloc (.cells zT.toArray 28)).setCells wr.heap.size 0 (trL t p m c)) := ((Gr.refl wr).alloc _).setCells (Nat.le_refl _) _ _
      have hgw7 := hg.trans hg7
      clear Z R1 hI hg hg7
      generalize (wr.alloc (.cells zT.toArray 28)).setCells wr.heap.size 0 (trL t p m c) = w7 at *
      generalize wr.heap.size = b7 at *
      (try simp only [Act.put])
      go_wp2_with fail
      go_loopw [7, 35] (fun s7 s35 wx => ∃ (j : Nat) (v : Bool), j ≤ n ∧ s35 = .int .i64 j ∧ s7 = .bool v ∧ Hid (v = true → lateUp l i j) ∧ Gr w7 wx) (fun _ s35 _ => n - (intOf s35).toNat)
      case atStart => exact ⟨0, v, Nat.zero_le _, rfl, rfl, hL, Gr.refl _⟩
      case round =>
        obtain ⟨j, v, hj, rfl, rfl, hL, hg⟩ := hrel
        by_cases hltj : j < n
        · have hy : l[j]? = some (l[j]'(by have := Hl.out; omega)) := List.getElem?_eq_getElem _
          generalize (l[j]'(by have := Hl.out; omega)) = o at hy
          obtain ⟨p2, m2, c2, R0⟩ := Hc.out j o hy
          have R1 := R0.keep (hgw7.trans hg)
          have hI := run_trip cap Ho.out hltj
          have HS := Lib.hid (late_step Hy.out hy v hL.out)
          have Z := (Bx.new wr zT.toArray 28 rfl).of (us := zT) (by simp)
          clear hy R0
          go_upto_region 12 with (first | (refine wpList_load_mid rfl 28 _ rfl _ _ rfl _ _ (R1).rng Try.underlying28 rfl (by kernel_rfl) ?_) | ((with_reducible refine wpList_store_box (ty := 28) (Z) ((trL o p2 m2 c2)) ?_ ?_ ?_ ?_ ?_ ?_); (focus (exact rfl)); (focus (exact ⟨_, _, rfl, rfl, rfl⟩)); (focus (exact rfl)); (focus kernel_rfl); (focus kernel_rfl)))
          have B9 := Z.setAll (us := trL o p2 m2 c2) rfl
          have hg9 : Gr wr ((wr.alloc (.cells zT.toArray 28)).setCells wr.heap.size 0 (trL o p2 m2 c2)) := ((Gr.refl wr).alloc _).setCells (Nat.le_refl _) _ _
          have B8 := B7.keep (hg.trans hg9)
          have hgw9 := hg.trans hg9
          clear Z R1 hI hg hg9
          generalize (wr.alloc (.cells zT.toArray 28)).setCells wr.heap.size 0 (trL o p2 m2 c2) = w9 at *
          generalize wr.heap.size = b9 at *
          (try simp only [Act.put])
          have y1 := B8.cell 1 rfl
          have y3 := B8.cell 3 rfl
          have z0 := B9.cell 0 rfl
          have z2 := B9.cell 2 rfl
          clear B8 B9
          cases v
          · by_cases q1 : 0 < t.num
            · by_cases q2 : t.fin ≤ o.beg
              · by_cases q3 : o.snap < t.num
                · have e : lateB t o = true := by unfold lateB; rw [decide_eq_true q1, decide_eq_true q2, decide_eq_true q3]; rfl
                  have HSb : Hid (true = true → lateUp l i (j + 1)) := Lib.hid (by have h := HS.out; rw [e] at h; exact h)
                  clear HS hL e
                  go_wp2_with fail
                  go_roundw
                  case rel => exact ⟨j + 1, true, by omega, by go_num, by first | rfl | (congr 1; simp [*]), HSb, hgw9⟩
                  case measure => simp [intOf]; omega
                · have e : lateB t o = false := by unfold lateB; rw [decide_eq_true q1, decide_eq_true q2, decide_eq_false q3]; rfl
                  have HSb : Hid (false = true → lateUp l i (j + 1)) := Lib.hid (by have h := HS.out; rw [e] at h; exact h)
                  clear HS hL e
                  go_wp2_with fail
                  go_roundw
                  case rel => exact ⟨j + 1, false, by omega, by go_num, by first | rfl | (congr 1; simp [*]), HSb, hgw9⟩
                  case measure => simp [intOf]; omega
              · have e : lateB t o = false := by unfold lateB; rw [decide_eq_true q1, decide_eq_false q2]; rfl
                have HSb : Hid (false = true → lateUp l i (j + 1)) := Lib.hid (by have h := HS.out; rw [e] at h; exact h)
                clear HS hL e
                go_wp2_with fail
                go_roundw
                case rel => exact ⟨j + 1, false, by omega, by go_num, by first | rfl | (congr 1; simp [*]), HSb, hgw9⟩
                case measure => simp [intOf]; omega
            · have e : lateB t o = false := by unfold lateB; rw [decide_eq_false q1]; rfl
              have HSb : Hid (false = true → lateUp l i (j + 1)) := Lib.hid (by have h := HS.out; rw [e] at h; exact h)
              clear HS hL e
              go_wp2_with fail
              go_roundw
              case rel => exact ⟨j + 1, false, by omega, by go_num, by first | rfl | (congr 1; simp [*]), HSb, hgw9⟩
              case measure => simp [intOf]; omega
          · have HSb : Hid (true = true → lateUp l i (j + 1)) := Lib.hid (by have h := HS.out; rw [Bool.true_or] at h; exact h)
            clear HS hL
            go_wp2_with fail
            go_roundw
            case rel => exact ⟨j + 1, true, by omega, by go_num, rfl, HSb, hgw9⟩
            case measure => simp [intOf]; omega
        · obtain rfl : j = n := by omega
          have HL := Lib.hid (late_row hL.out)
          go_wp2_with fail
          go_roundw
          case rel => exact ⟨i + 1, v, by omega, by go_num, rfl, HL, hgw7.trans hg⟩
          case measure => simp [intOf]; omega
    · obtain rfl : i = n := by omega
      have hE := HE.out v i hL.out
      have hE2 : cd ≠ 0 ∨ cd = 0 ∧ v = false ∨ cd = 0 ∧ v = true ∧ rc ≠ 0 := by
        by_cases q : cd = 0
        · cases v
          · exact .inr (.inl ⟨q, rfl⟩)
          · rcases hE with h | h | h
            · exact absurd q h
            · cases h
            · exact .inr (.inr ⟨q, rfl, h⟩)
        · exact .inl q
      clear hE HE hL
      rcases hE2 with q | ⟨rfl, rfl⟩ | ⟨rfl, rfl, q⟩
      · have hcb : (cd == 0) = false := by rw [beq_eq_false_iff_ne]; exact q
        have hcn : (cd != 0) = true := by simpa using q
        clear q
        go_wp2_with (go_at_call 6; (with_reducible refine (awake20_any _).mono ?_); rintro e w6 ⟨rfl, hg6⟩)
        go_ret
        exact ⟨rfl, hg.trans hg6⟩
      · go_wp2_with (go_at_call 6; (with_reducible refine (awake20_any _).mono ?_); rintro e w6 ⟨rfl, hg6⟩)
        go_ret
        exact ⟨rfl, hg.trans hg6⟩
      · have he := HER0.out q
        subst he
        clear q
        go_wp2_with (go_at_call 6; (with_reducible refine (awake20_any _).mono ?_); rintro e w6 ⟨rfl, hg6⟩)
        go_ret
        exact ⟨rfl, hg.trans hg6⟩
end Go.Proofs.Ytopomocbjlikjaa
