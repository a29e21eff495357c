import Derived.Test.YtkngjnkecmjakaaDoorHe
namespace Go.Proofs.YtkngjnkecmjakaaDoor
set_option linter.unusedVariables false
set_option linter.unusedSimpArgs false
open Go.BigFrame Go.RowKit Go.WideShapes

/-- an answer that says at most that there are few -/
def FewE (n : Nat) (l : List Ev) (e : Ending) : Prop := ∃ b : Bool, e = .returned (.bool b) ∧ (b = true → (n ≤ 6 ∨ (10 < n ∧ n ≤ 40)) ∧ ∀ i, i < n → (evAt l i).key.size ≤ 100 ∧ (evAt l i).cval.size ≤ 100)

set_option maxRecDepth 100000 in
set_option maxHeartbeats 1000000 in
theorem few19_any (oa : Option Addr) (n cap : Nat) (l : List Ev) (w : World) (h : EvsAt w oa n cap l) :
    Calls Tryd.prog 5 #[.slice oa n cap] w fun e w' => FewE n l e ∧ Dr w w' := by
  have Hz := Lib.hid h.sizes
  obtain ⟨b1, off1, ho1, hc1⟩ := h.cells
  have Hc1 := Lib.hid hc1
  have Ho1 := Lib.hid (fun q => (ho1 q).1)
  have H1 := Lib.hid h
  have hn1 := h.cap_le
  have hm1 := h.cap_max
  unfold maxLen at hm1
  clear hc1 ho1 h
  go_enter Tryd.func5, Tryd.ntmps5
  go_wp2
  go_loopw [3] (fun v wr => ∃ k : Nat, k ≤ n ∧ k ≤ 41 ∧ v = .int .i64 k ∧ Hid (∀ i, i < k → (evAt l i).key.size ≤ 100 ∧ (evAt l i).cval.size ≤ 100) ∧ Dr w wr) (fun v _ => n - (intOf v).toNat)
  case atStart => exact ⟨0, Nat.zero_le _, Nat.zero_le _, rfl, Lib.hid fun i hi => by omega, Dr.refl _⟩
  case round =>
    obtain ⟨k, hk, hk2, rfl, hp, d, rfl⟩ := hrel
    by_cases hlt : k < n ∧ k ≤ 40
    · obtain ⟨hlt, hk3⟩ := hlt
      obtain ⟨a0, a1, a2, a3, a4, a5, a6, a7⟩ := Hc1.out k hlt
      have hz := Hz.out k hlt
      unfold maxLen at hz
      have hI := run_ev cap Ho1.out hlt
      by_cases h1 : 100 < (evAt l k).key.size
      · have h1' : decide (100 < ((evAt l k).key.size : Int)) = true := by simp; omega
        go_wp2_with fail
        go_ret
        exact ⟨⟨_, rfl, fun q => by cases q⟩, by repeat (first | with_reducible exact Dr.refl _ | with_reducible refine Dr.step ?_ _ | with_reducible refine Dr.drew ?_ | (with_reducible refine Dr.trans ?_ (by assumption)))⟩
      · have h1' : decide (100 < ((evAt l k).key.size : Int)) = false := by simp; omega
        by_cases h2 : 100 < (evAt l k).cval.size
        · have h2' : decide (100 < ((evAt l k).cval.size : Int)) = true := by simp; omega
          go_wp2_with fail
          go_ret
          exact ⟨⟨_, rfl, fun q => by cases q⟩, by repeat (first | with_reducible exact Dr.refl _ | with_reducible refine Dr.step ?_ _ | with_reducible refine Dr.drew ?_ | (with_reducible refine Dr.trans ?_ (by assumption)))⟩
        · have h2' : decide (100 < ((evAt l k).cval.size : Int)) = false := by simp; omega
          go_wp2_with fail
          go_roundw
          case rel => exact ⟨k + 1, by omega, by omega, by go_num, Lib.hid fun i hi => by
            rcases Nat.lt_or_ge i k with q | q
            · exact hp.out i q
            · obtain rfl : i = k := by omega
              exact ⟨by omega, by omega⟩, by repeat (first | with_reducible exact Dr.refl _ | with_reducible refine Dr.step ?_ _ | with_reducible refine Dr.drew ?_ | (with_reducible refine Dr.trans ?_ (by assumption)))⟩
          case measure => simp [intOf]; omega
    · go_wp2_with fail
      all_goals
        go_ret
        refine ⟨⟨_, rfl, ?_⟩, by repeat (first | with_reducible exact Dr.refl _ | with_reducible refine Dr.step ?_ _ | with_reducible refine Dr.drew ?_ | (with_reducible refine Dr.trans ?_ (by assumption)))⟩
        intro q
        have hn : (n : Int) ≤ 6 ∨ (10 < (n : Int) ∧ (n : Int) ≤ 40) := by first | omega | (simp at q; omega) | (simp at q)
        exact ⟨by omega, fun i hi => hp.out i (by omega)⟩
end Go.Proofs.YtkngjnkecmjakaaDoor
