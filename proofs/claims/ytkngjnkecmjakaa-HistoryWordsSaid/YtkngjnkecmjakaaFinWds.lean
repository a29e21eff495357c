/- 'rowlocklaw19.HistoryWords' returns true for all arguments, and leaves them as they were. Conditions: none beyond the given row's. -/
import Derived.Test.YtkngjnkecmjakaaLawWds
import Derived.Test.YtkngjnkecmjakaaOpenE
namespace Go.Proofs.Ytkngjnkecmjakaa.historyWords
open Go.ChangeShapes Go.WideShapes Go.ChangeAt Go.RowKit
open Go.ChangeMaps (open_string shut_string)

set_option maxRecDepth 100000 in
set_option maxHeartbeats 2000000 in
theorem lifted (os : Os) (started : os.Started) (H : Type) (enc : TypeId × Value → H) :
    ReturnsInHanded {} Try.checked os 4 .any (Rows.historyWordsSpec.pre6 enc Try.prog Try.f4 Rows.historyWordsRow.domain false) (Rows.historyWordsSpec.post enc Try.prog Try.f4 false true false false) := by
  refine returnsInHanded_of_change (C := Try.checked) own started (by kernel_rfl) Try.func4
    (ChangeSpec.witness6 (enc := enc) (C := Try.checked) false ⟨#[], #[.agg #[.int .i64 0, .int .i64 0, .string ByteArray.empty, .string ByteArray.empty, .string ByteArray.empty, .int .i64 0, .int .i64 0, .int .i64 0], .agg #[.int .i64 0, .int .i64 0, .string ByteArray.empty, .string ByteArray.empty, .string ByteArray.empty, .int .i64 0, .int .i64 0, .int .i64 0], .slice none 0 0, .slice none 0 0, .string ByteArray.empty], []⟩ 8 (by kernel_rfl) (by kernel_rfl) (by kernel_rfl) (by kernel_rfl)) ?_
  intro W base args ds gs before hval0 hW hcnd _
  have hval : ∀ (j : Nat) t v, Try.f4.params[j]? = some t → args[j]? = some v → Value.okWide Try.prog W .any base t v := hval0
  have hW2 := hW
  obtain ⟨p, q, hA0, hV, -, -, -⟩ := hW2
  have hA : DataW.TrodAll enc Try.prog W 0 (fun _ => true) true Try.f4.params.toList args.toList ds p := hA0
  rw [Try.params4] at hA hval
  obtain ⟨v0, vs0, d0, ds0, p0, q0, hargs, rfl, rfl, h0, r0⟩ := trodAll_cons hA
  obtain ⟨v1, vs1, d1, ds1, p1, q1, rfl, rfl, rfl, h1, r1⟩ := trodAll_cons r0
  obtain ⟨v2, vs2, d2, ds2, p2, q2, rfl, rfl, rfl, h2, r2⟩ := trodAll_cons r1
  obtain ⟨v3, vs3, d3, ds3, p3, q3, rfl, rfl, rfl, h3, r3⟩ := trodAll_cons r2
  obtain ⟨v4, vs4, d4, ds4, p4, q4, rfl, rfl, rfl, h4, r4⟩ := trodAll_cons r3
  obtain ⟨rfl, rfl, rfl⟩ := trodAll_nil r4
  obtain rfl : args = #[v0, v1, v2, v3, v4] := by cases args; simp_all
  obtain ⟨rfl, -⟩ := trodVars_none hV
  refine law_post rfl (by kernel_rfl) rfl hW rfl ?_
  obtain ⟨e0, rfl, wk0, wv0, wt0⟩ := open_event (hval 0 40 v0 rfl rfl) h0
  obtain ⟨e1, rfl, wk1, wv1, wt1⟩ := open_event (hval 1 40 v1 rfl rfl) h1
  obtain ⟨oa2, n2, cap2, l2, rfl, wl2⟩ := open_rows (hval 2 23 v2 rfl rfl) h2
  obtain ⟨oa3, n3, cap3, l3, rfl, wl3⟩ := open_events (hval 3 22 v3 rfl rfl) h3
  obtain ⟨a4, rfl, -, -, w4⟩ := open_string Try.underlying9 (hval 4 9 v4 rfl rfl) h4
  exact wds_walk e0 e1 oa2 n2 cap2 l2 oa3 n3 cap3 l3 a4 W ⟨wk0, wv0, wt0⟩ ⟨wk1, wv1, wt1⟩ wl2 wl3 w4

theorem proved : Rows.HistoryWordsSaid :=
  OpenClaim.holds_of_wide 4 Try.f4 rfl rfl rfl rfl rfl rfl rfl ⟨rfl, rfl, rfl, rfl, rfl⟩ rfl rfl rfl rfl rfl (by kernel_rfl) Try.func4 (by kernel_rfl)
    (of_decide_eq_true (by kernel_rfl)) (by unfold Func.isWrapper; first | (rw [if_pos (by decide +kernel)]; kernel_rfl) | (rw [if_neg (by decide +kernel)]; exact ⟨rfl, rfl⟩))
    (fun os started H enc _ => lifted os started H enc)
end Go.Proofs.Ytkngjnkecmjakaa.historyWords
