import Derived.Test.YtidfelbaegaphaaDoorUpAz
namespace Go.Proofs.YtidfelbaegaphaaDoor
set_option linter.unusedVariables false
set_option linter.unusedSimpArgs false
open Go.BigFrame Go.RowKit Go.WideShapes

theorem min3001 (a : Nat) : (if (3001 : Int) < (a : Int) then (3001 : Int) else (a : Int)) = ((min a 3001 : Nat) : Int) := by
  split <;> omega
/-- an answer that says at most that there are few -/
def FewSays7 (n : Nat) (l : List Ry) (e : Ending) : Prop := ∃ b : Bool, e = .returned (.bool b) ∧ (b = true → n ≤ 40 ∧ ∀ (i : Nat) (y : Ry), l[i]? = some y → y.x.r.rows.length ≤ 100)

set_option maxRecDepth 100000 in
set_option maxHeartbeats 4000000 in
theorem few7_any (oa : Option Addr) (n cap : Nat) (l : List Ry) (w : World) (h : RecsAt w oa n cap l) :
    Calls Tryd.prog 6 #[.slice oa n cap] w fun e w' => FewSays7 n l e ∧ Dr w w' := by
  have Hl := Lib.hid h.len
  have hcl := h.cap_le
  have hcm := h.cap_max
  unfold maxLen at hcm
  obtain ⟨b, off, ho, hc⟩ := h.get
  have Ho := Lib.hid ho
  have Hc := Lib.hid hc
  clear h ho hc
  go_enter Tryd.func6, Tryd.ntmps6
  go_wp2_with fail
  go_loopw [3, 4, 5] (fun s3 s4 s5 wr => ∃ k c m : Nat, k ≤ n ∧ k ≤ 41 ∧ c ≤ k * 101 ∧ m ≤ k * 700000 ∧ s5 = .int .i64 k ∧ s3 = .int .i64 c ∧ s4 = .int .i64 m ∧ Hid (∀ (i : Nat) (y : Ry), i < k → l[i]? = some y → min y.x.r.rows.length 101 ≤ c) ∧ Dr w wr) (fun _ _ s5 _ => n - (intOf s5).toNat)
  case atStart => exact ⟨0, 0, 0, Nat.zero_le _, Nat.zero_le _, Nat.zero_le _, Nat.zero_le _, rfl, rfl, rfl, Lib.hid fun i y hi _ => by omega, Dr.refl _⟩
  case round =>
    obtain ⟨k, c, m, hk, hk41, hck, hmk, rfl, rfl, rfl, hall, d, rfl⟩ := hrel
    by_cases hlt : k < n ∧ k ≤ 40
    · obtain ⟨hlt, hk40⟩ := hlt
      have hy : l[k]? = some (l[k]'(by have := Hl.out; omega)) := List.getElem?_eq_getElem _
      generalize (l[k]'(by have := Hl.out; omega)) = y at hy
      obtain ⟨o1, n1, c1, o2, n2, c2, R⟩ := Hc.out k y hy
      have hI := run_rec cap Ho.out hlt
      have Hn1 := Lib.hid R.rows.len
      have a1 : w.cell? ⟨b, off + k * 15 + 1, none⟩ = some (.string y.x.r.low) := R.cell 1 rfl
      have a2 : w.cell? ⟨b, off + k * 15 + 2, none⟩ = some (.string y.x.r.high) := R.cell 2 rfl
      have a5 : w.cell? ⟨b, off + k * 15 + 5, none⟩ = some (.slice o1 n1 c1) := R.cell 5 rfl
      have a7 : w.cell? ⟨b, off + k * 15 + 7, none⟩ = some (.string y.x.r.key) := R.cell 7 rfl
      have a8 : w.cell? ⟨b, off + k * 15 + 8, none⟩ = some (.string y.x.r.val) := R.cell 8 rfl
      have hR1 := R.rows
      obtain ⟨b2, off2, ho2, hc2⟩ := hR1.cells
      have Hc2 := Lib.hid hc2
      have Ho2 := Lib.hid (fun q => (ho2 q).1)
      have H2 := Lib.hid hR1
      have hn2 := hR1.cap_le
      have hm2 := hR1.cap_max
      unfold maxLen at hm2
      clear hc2 ho2 hR1
      have Hy := Lib.hid hy
      have hb1 : n1 ≤ c1 := hn2
      clear hy R
      go_upto_region 5 with fail
      go_cut [4] (fun s4 wx => ∃ m2 : Nat, s4 = .int .i64 m2 ∧ m2 ≤ m + 12004 ∧ Dr w wx)
      case first =>
        go_big_quiet (fail)
        simp only [min3001]
        go_wp2_with fail
        go_meet
        refine ⟨m + (min y.x.r.key.size 3001 + min y.x.r.val.size 3001 + min y.x.r.low.size 3001 + min y.x.r.high.size 3001), ?_, by omega, by repeat (first | with_reducible exact Dr.refl _ | with_reducible refine Dr.step ?_ _ | with_reducible refine Dr.drew ?_ | (with_reducible refine Dr.trans ?_ (by assumption)))⟩
        go_num
      case rest =>
        obtain ⟨m2, rfl, hm3, d2, rfl⟩ := hcut
        clear a1 a2 a7 a8
        go_wp2_with fail
        go_loopw [3, 4, 6] (fun s3 s4 s6 wr => ∃ q m4 : Nat, q ≤ n1 ∧ q ≤ 101 ∧ m4 ≤ m2 + q * 6002 ∧ s6 = .int .i64 q ∧ s3 = .int .i64 (c + q : Nat) ∧ s4 = .int .i64 m4 ∧ Dr w wr) (fun _ _ s6 _ => n1 - (intOf s6).toNat)
        case atStart => exact ⟨0, m2, Nat.zero_le _, Nat.zero_le _, by omega, rfl, rfl, rfl, by repeat (first | with_reducible exact Dr.refl _ | with_reducible refine Dr.step ?_ _ | with_reducible refine Dr.drew ?_ | (with_reducible refine Dr.trans ?_ (by assumption)))⟩
        case round =>
          obtain ⟨q, m4, hq, hq101, hm4, rfl, rfl, rfl, d4, rfl⟩ := hrel
          by_cases hlq : q < n1 ∧ q ≤ 100
          · obtain ⟨hlq, hq100⟩ := hlq
            have hI2 := run_row c1 Ho2.out hlq
            have e1 := (Hc2.out q hlq).1
            have e2 := (Hc2.out q hlq).2
            go_upto_region 9 with fail
            go_cut [4] (fun s4 wx => ∃ m5 : Nat, s4 = .int .i64 m5 ∧ m5 ≤ m4 + 6002 ∧ Dr w wx)
            case first =>
              go_big_quiet (fail)
              simp only [min3001]
              go_wp2_with fail
              go_meet
              refine ⟨m4 + (min (kAt y.x.r.rows q).size 3001 + min (vAt y.x.r.rows q).size 3001), ?_, by omega, by repeat (first | with_reducible exact Dr.refl _ | with_reducible refine Dr.step ?_ _ | with_reducible refine Dr.drew ?_ | (with_reducible refine Dr.trans ?_ (by assumption)))⟩
              go_num
            case rest =>
              obtain ⟨m5, rfl, hm5, d5, rfl⟩ := hcut
              go_wp2_with fail
              go_roundw
              case rel => exact ⟨q + 1, m5, by omega, by omega, by omega, by go_num, by go_num, rfl, by repeat (first | with_reducible exact Dr.refl _ | with_reducible refine Dr.step ?_ _ | with_reducible refine Dr.drew ?_ | (with_reducible refine Dr.trans ?_ (by assumption)))⟩
              case measure => simp [intOf]; omega
          · have hq2 : min n1 101 ≤ q := by omega
            go_wp2_with fail
            all_goals
              go_roundw
              case rel => exact ⟨k + 1, c + q, m4, by omega, by omega, by omega, by omega, by go_num, rfl, rfl, Lib.hid fun i y' hi hy' => by
                rcases Nat.lt_or_ge i k with z | z
                · have := hall.out i y' z hy'; omega
                · obtain rfl : i = k := by omega
                  rw [Hy.out] at hy'
                  cases hy'
                  rw [Hn1.out]; omega, by repeat (first | with_reducible exact Dr.refl _ | with_reducible refine Dr.step ?_ _ | with_reducible refine Dr.drew ?_ | (with_reducible refine Dr.trans ?_ (by assumption)))⟩
              case measure => simp [intOf]; omega
    · go_wp2_with fail
      all_goals
        go_ret
        refine ⟨⟨_, rfl, fun q => ?_⟩, by repeat (first | with_reducible exact Dr.refl _ | with_reducible refine Dr.step ?_ _ | with_reducible refine Dr.drew ?_ | (with_reducible refine Dr.trans ?_ (by assumption)))⟩
        refine ⟨by first | omega | (simp at q) | (simp at q; omega), fun i y hy => ?_⟩
        have h1 := (List.getElem?_eq_some_iff.1 hy).1
        rw [Hl.out] at h1
        have h2 := hall.out i y (by first | omega | (simp at q) | (simp at q; omega)) hy
        first | omega | (simp at q) | (simp at q; omega)
end Go.Proofs.YtidfelbaegaphaaDoor
