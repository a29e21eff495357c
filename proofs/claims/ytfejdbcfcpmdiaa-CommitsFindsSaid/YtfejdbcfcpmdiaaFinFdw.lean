/- 'rowlocklaw16.CommitsFinds' returns true for all arguments, and leaves them as they were. Conditions: none beyond the given row's. -/
import Derived.Test.YtfejdbcfcpmdiaaLawFdw
import Derived.Test.YtfejdbcfcpmdiaaOpen
import Derived.Test.YtfejdbcfcpmdiaaOpenW
namespace Go.Proofs.Ytfejdbcfcpmdiaa.commitsFinds
open Go.ChangeShapes Go.WideShapes Go.ChangeAt Go.RowKit
open Go.ChangeMaps (open_string shut_string)

set_option maxRecDepth 100000 in
set_option maxHeartbeats 2000000 in
theorem lifted (os : Os) (started : os.Started) (H : Type) (enc : TypeId × Value → H) :
    ReturnsInHanded {} Try.checked os 3 .any (Rows.commitsFindsSpec.pre6 enc Try.prog Try.f3 Rows.commitsFindsRow.domain false) (Rows.commitsFindsSpec.post enc Try.prog Try.f3 false true false false) := by
  refine returnsInHanded_of_change (C := Try.checked) own started (by kernel_rfl) Try.func3
    (ChangeSpec.witness6 (enc := enc) (C := Try.checked) false ⟨#[], #[.slice none 0 0, .slice none 0 0, .slice none 0 0, .string ByteArray.empty], []⟩ 8 (by kernel_rfl) (by kernel_rfl) (by kernel_rfl) (by kernel_rfl)) ?_
  intro W base args ds gs before hval0 hW hcnd _
  have hval : ∀ (j : Nat) t v, Try.f3.params[j]? = some t → args[j]? = some v → Value.okWide Try.prog W .any base t v := hval0
  have hW2 := hW
  obtain ⟨p, q, hA0, hV, -, -, -⟩ := hW2
  have hA : DataW.TrodAll enc Try.prog W 0 (fun _ => true) true Try.f3.params.toList args.toList ds p := hA0
  rw [Try.params3] at hA hval
  obtain ⟨v0, vs0, d0, ds0, p0, q0, hargs, rfl, rfl, h0, r0⟩ := trodAll_cons hA
  obtain ⟨v1, vs1, d1, ds1, p1, q1, rfl, rfl, rfl, h1, r1⟩ := trodAll_cons r0
  obtain ⟨v2, vs2, d2, ds2, p2, q2, rfl, rfl, rfl, h2, r2⟩ := trodAll_cons r1
  obtain ⟨v3, vs3, d3, ds3, p3, q3, rfl, rfl, rfl, h3, r3⟩ := trodAll_cons r2
  obtain ⟨rfl, rfl, rfl⟩ := trodAll_nil r3
  obtain rfl : args = #[v0, v1, v2, v3] := by cases args; simp_all
  obtain ⟨rfl, -⟩ := trodVars_none hV
  refine law_post rfl (by kernel_rfl) rfl hW rfl ?_
  obtain ⟨oa0, n0, cap0, l0, rfl, wl0⟩ := open_rows (hval 0 22 v0 rfl rfl) h0
  obtain ⟨oa1, n1, cap1, l1, rfl, wl1⟩ := open_writes (hval 1 23 v1 rfl rfl) h1
  obtain ⟨oa2, n2, cap2, l2, rfl, wl2⟩ := open_writes (hval 2 23 v2 rfl rfl) h2
  obtain ⟨a3, rfl, -, -, w3⟩ := open_string Try.underlying9 (hval 3 9 v3 rfl rfl) h3
  exact finds_main oa0 n0 cap0 l0 oa1 n1 cap1 l1 oa2 n2 cap2 l2 a3 W wl0 wl1 wl2 w3

theorem proved : Rows.CommitsFindsSaid :=
  OpenClaim.holds_of_wide 3 Try.f3 rfl rfl rfl rfl rfl rfl rfl ⟨rfl, rfl, rfl, rfl, rfl⟩ rfl rfl rfl rfl rfl (by kernel_rfl) Try.func3 (by kernel_rfl)
    (of_decide_eq_true (by kernel_rfl)) (by unfold Func.isWrapper; first | (rw [if_pos (by decide +kernel)]; kernel_rfl) | (rw [if_neg (by decide +kernel)]; exact ⟨rfl, rfl⟩))
    (fun os started H enc _ => lifted os started H enc)
end Go.Proofs.Ytfejdbcfcpmdiaa.commitsFinds
