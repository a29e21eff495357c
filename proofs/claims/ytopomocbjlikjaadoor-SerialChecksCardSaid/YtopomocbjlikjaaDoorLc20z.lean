import Derived.Test.YtopomocbjlikjaaDoorCd20z
import Derived.Test.YtopomocbjlikjaaDoorAw20z
import Derived.Test.YtopomocbjlikjaaDoorAl20z
import Derived.Test.YtopomocbjlikjaaDoorErrz
namespace Go.Proofs.YtopomocbjlikjaaDoor
set_option linter.unusedVariables false
set_option linter.unusedSimpArgs false
open Go.BigFrame Go.RowKit Go.WideShapes

/-! The law of checks (serial). -/
abbrev errOf (c : Int) : Value := if c = 0 then .nilIface else errV c
theorem codeOf20 (n : Int) (w : World) (hg : w.cell? ⟨0, 0, none⟩ = some handleV) : Calls Tryd.prog 13 #[errOf n] w fun e w' => e = .returned (.int .i64 n) ∧ Gr w w' := by
  by_cases h : n = 0
  · subst h; exact code_nil w
  · rw [show errOf n = errV n from if_neg h]; exact code_any n w hg
set_option maxRecDepth 100000 in
set_option maxHeartbeats 20000000 in
theorem checks20 (oa : Option Addr) (n cap : Nat) (l : List Tr) (w : World) (h : TripsAt w oa n cap l) (hh : w.cell? ⟨0, 0, none⟩ = some handleV) :
    Calls Tryd.prog 4 #[.slice oa n cap] w fun e w' => e = .returned (.bool true) ∧ Gr w w' := by
  have hFE := Lib.hid (few20_any oa n cap l w h)
  have H := Lib.hid h
  have Hh := Lib.hid hh
  have hcl := h.cap_le
  have hcm := h.cap_max
  unfold maxLen at hcm
  clear h hh
  go_enter Tryd.func4, Tryd.ntmps4
  go_wp2_with fail
  refine hFE.out.mono ?_
  rintro e w1 ⟨⟨b1, rfl, hb1⟩, hg1⟩
  cases b1
  · go_wp2_with fail
    refine (awake20_any _).mono ?_
    rintro e w2 ⟨rfl, hg2⟩
    go_wp2_with fail
    go_ret
    exact ⟨rfl, hg1.trans hg2⟩
  have Hf := Lib.hid (hb1 rfl)
  clear hb1 hFE
  have hAl := Lib.hid (all20_any oa n cap l w1 (H.out.keep hg1) Hf.out)
  have hC : ∀ w2 o2 c2, TripsAt w2 o2 n c2 l → Calls Tryd.prog 16 #[.slice o2 n c2] w2 fun e w' => e = .returned (.tuple #[.int .i64 (checkR l).1, errOf (checkR l).2]) ∧ Gr w2 w' := fun w2 o2 c2 hT => check_any o2 n c2 l w2 hT Hf.out
  have hD : ∀ w2, Gr w1 w2 → Calls Tryd.prog 17 #[.slice oa n cap] w2 fun e w' => e = .returned (.tuple #[.int .i64 (checkR l).1, .int .i64 (checkR l).2]) ∧ Gr w2 w' := fun w2 hq => refCheck_any oa n cap l w2 (H.out.keep (hg1.trans hq)) Hf.out
  have HC := Lib.hid hC
  have HD := Lib.hid hD
  clear hC hD
  generalize checkR l = r at *
  obtain ⟨ri, rc⟩ := r
  dsimp only at HC HD
  have hCode := Lib.hid fun w2 (hq : Gr w1 w2) => codeOf20 rc w2 (hq.keep (hg1.keep Hh.out))
  have hErr : (rc = 0 ∧ errOf rc = .nilIface) ∨ (rc ≠ 0 ∧ errOf rc = errV rc) := by
    by_cases h0 : rc = 0
    · exact .inl ⟨h0, if_pos h0⟩
    · exact .inr ⟨h0, if_neg h0⟩
  rcases hErr with ⟨h0, he⟩ | ⟨h0, he⟩
  all_goals
    rw [he] at HC hCode
    clear he
    first
    | (subst h0)
    | (have hb0 : (rc == 0) = false := by rw [beq_eq_false_iff_ne]; exact h0)
    go_wp2_with (first | (go_at_call 11; (with_reducible refine hAl.out.mono ?_); rintro e w2 ⟨o2, c2, rfl, hT2, hg2⟩; (have HT2 := Lib.hid hT2); clear hT2) | (go_at_call 16; (with_reducible refine (HC.out _ _ _ HT2.out).mono ?_); rintro e w3 ⟨rfl, hg3⟩; (have hgw3 := hg2.trans hg3)) | (go_at_call 17; (with_reducible refine (HD.out _ hgw3).mono ?_); rintro e w4 ⟨rfl, hg4⟩; (have hgw4 := hgw3.trans hg4)) | (go_at_call 13; (with_reducible refine (hCode.out _ hgw4).mono ?_); rintro e w5 ⟨rfl, hg5⟩; (have hgw5 := hgw4.trans hg5)) | (go_at_call 6; (with_reducible refine (awake20_any _).mono ?_); rintro e w6 ⟨rfl, hg6⟩))
    go_ret
    exact ⟨rfl, hg1.trans (hgw5.trans hg6)⟩
end Go.Proofs.YtopomocbjlikjaaDoor
