import Derived.Test.YtkngjnkecmjakaaDoorPt2
namespace Go.Proofs.YtkngjnkecmjakaaDoor
set_option linter.unusedVariables false
set_option linter.unusedSimpArgs false
open Go.BigFrame Go.RowKit Go.WideShapes

/-- an answer that says at most that there are few -/
def FewSays (n : Nat) (e : Ending) : Prop := ∃ b : Bool, e = .returned (.bool b) ∧ (b = true → n ≤ 100)

set_option maxRecDepth 100000 in
set_option maxHeartbeats 1000000 in
theorem few_any (oa : Option Addr) (n cap : Nat) (l : List Rw) (w : World) (h : RowsAt w oa n cap l) :
    Calls Tryd.prog 6 #[.slice oa n cap] w fun e w' => FewSays n e ∧ Dr w w' := by
  obtain ⟨b1, off1, ho1, hc1⟩ := h.cells
  have Hc1 := Lib.hid hc1
  have Ho1 := Lib.hid (fun q => (ho1 q).1)
  have H1 := Lib.hid h
  have hn1 := h.cap_le
  have hm1 := h.cap_max
  unfold maxLen at hm1
  clear hc1 ho1 h
  go_enter Tryd.func6, Tryd.ntmps6
  go_wp2
  go_loopw [3, 4] (fun s i wr => ∃ k m : Nat, k ≤ n ∧ k ≤ 101 ∧ m ≤ k * 4002 ∧ i = .int .i64 k ∧ s = .int .i64 m ∧ Dr w wr) (fun _ i _ => n - (intOf i).toNat)
  case atStart => exact ⟨0, 0, Nat.zero_le _, Nat.zero_le _, Nat.zero_le _, rfl, rfl, Dr.refl _⟩
  case round =>
    obtain ⟨k, m, hk, hk2, hm, rfl, rfl, d, rfl⟩ := hrel
    by_cases hlt : k < n ∧ k ≤ 100
    · obtain ⟨hlt, hk3⟩ := hlt
      have a1 := (Hc1.out k hlt).1
      have a2 := (Hc1.out k hlt).2
      have hI := run_row cap Ho1.out hlt
      go_wp2_with fail
      go_big_quiet (fail)
      go_wp2_with fail
      go_roundw
      case rel =>
        refine ⟨k + 1, m + (min (kAt l k).size 2001 + min (vAt l k).size 2001), by omega, by omega, by omega, by go_num, ?_, by repeat (first | with_reducible exact Dr.refl _ | with_reducible refine Dr.step ?_ _ | with_reducible refine Dr.drew ?_ | (with_reducible refine Dr.trans ?_ (by assumption)))⟩
        go_num
      case measure => simp [intOf]; omega
    · go_wp2_with fail
      all_goals
        go_ret
        refine ⟨⟨_, rfl, ?_⟩, by repeat (first | with_reducible exact Dr.refl _ | with_reducible refine Dr.step ?_ _ | with_reducible refine Dr.drew ?_ | (with_reducible refine Dr.trans ?_ (by assumption)))⟩
        intro q
        first | omega | (simp at q) | (simp at q; omega)
end Go.Proofs.YtkngjnkecmjakaaDoor
