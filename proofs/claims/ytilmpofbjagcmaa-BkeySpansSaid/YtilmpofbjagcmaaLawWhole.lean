import Derived.Test.YtilmpofbjagcmaaMeet
import Derived.Lib.SmallJoins
namespace Go.Proofs.Ytilmpofbjagcmaa
set_option linter.unusedVariables false
open Go.BigFrame Go.RowKit Go.ChangeShapes Go.WideShapes Go.ChangeAt Go.Joins
open Go.ChangeMaps (open_string shut_string)

theorem cells_span : Try.prog.cellsOf 36 = 3 := by kernel_rfl
/-- a span that came in -/
theorem open_span {H : Type} {enc : TypeId × Value → H} {W : World} {base : Nat} {v : Value} {d : DataW H} {p : List MemPlace} {spare : Nat → Bool} {held : Bool} {base2 : Nat}
    (hv : Value.okWide Try.prog W .any base 36 v) (h : DataW.Trod enc Try.prog W base2 spare held 36 v d p) :
    ∃ (l g : ByteArray) (u : Bool), v = .agg #[.string l, .string g, .bool u] ∧ l.size ≤ maxLen ∧ g.size ≤ maxLen := by
  obtain ⟨c0, c1, c2, y0, y1, y2, n, rfl, -, -, h0, h1, h2⟩ := open_agg3 Try.underlying36 (by kernel_rfl) cells_span hv h
  obtain ⟨l, e0, -, w0⟩ := DataW.trod_string Try.underlying9 h0
  obtain ⟨g, e1, -, w1⟩ := DataW.trod_string Try.underlying9 h1
  obtain ⟨u, e2, -⟩ := DataW.trod_bool Try.underlying4 h2
  simp only [List.cons.injEq, and_true] at e0 e1 e2
  subst e0 e1 e2
  exact ⟨l, g, u, rfl, w0, w1⟩

theorem cells3_at (w : World) (n : Nat) (hn : n = w.heap.size) (a b c : ByteArray) : ∀ i, i < 3 → (w.alloc (.cells #[.string a, .string b, .string c] 9)).cell? ⟨n, i, none⟩ = some (.string (sAt [a, b, c] i)) := by
  intro i hi
  rw [World.cell?_alloc_at (hn := hn)]
  match i, hi with
  | 0, _ => rfl
  | 1, _ => rfl
  | 2, _ => rfl
theorem cmp_empty (l : ByteArray) : Str.cmp (Tx ByteArray.empty) (Tx l) ≤ 0 := by
  have : ¬ 0 < Str.cmp (Tx ByteArray.empty) (Tx l) := by
    rw [Str.cmp_pos_iff, show Tx ByteArray.empty = [] from rfl]; cases Tx l <;> simp [Str.before]
  omega
theorem low_empty (l : ByteArray) : LowIs l ByteArray.empty l := .inr ⟨cmp_empty l, rfl⟩
theorem empty_ok : ByteArray.empty.size ≤ maxLen := Nat.zero_le _

set_option maxRecDepth 100000 in
set_option maxHeartbeats 1000000 in
theorem whole_t (l g k : ByteArray) (w : World) (hl : l.size ≤ maxLen) (hg : g.size ≤ maxLen) (hk : k.size ≤ maxLen) (hf : fewB [l, g, k] = true) :
    Calls Try.prog 9 #[.agg #[.string l, .string g, .bool true], .string k] w fun e w' => e = .returned (.bool true) ∧ Gr w w' := by
  have hfew := few_any (w.heap.size + 1) 3 [l, g, k] rfl (by omega)
  rw [hf] at hfew
  have Hfew := Lib.hid hfew
  clear hfew hf
  have hM := fun w => meet_any l g ByteArray.empty ByteArray.empty true true w hl hg empty_ok empty_ok
  rw [meet_tt l g _ _ l (low_empty l)] at hM
  have HM := Lib.hid hM
  clear hM
  have hin : inB ByteArray.empty ByteArray.empty true k = true := by simp [inB, cmp_empty]
  have HI := Lib.hid (fun w => in_any ByteArray.empty ByteArray.empty true k w empty_ok empty_ok hk)
  rw [hin] at HI
  clear hin
  go_enter Try.func9, Try.ntmps9
  go_wp2_with fail
  refine (Hfew.out _ (cells3_at _ _ (by simp) _ _ _)).mono ?_
  rintro e w' ⟨rfl, rfl⟩
  go_wp2_with fail
  refine (HM.out _).mono ?_
  rintro e w1 ⟨rfl, hg1⟩
  have hc := hg1.cells
  have hz0 : w.heap.size < w1.heap.size := by have := hg1.le; simp at this; omega
  go_wp2_with fail
  refine (HI.out _).mono ?_
  rintro e w' ⟨rfl, d, rfl⟩
  go_wp2_with (first | (go_at_call 13; (with_reducible refine (awake_any _).mono ?_); rintro e w' ⟨rfl, d, rfl⟩) | (go_at_call 15; (with_reducible refine (compare_any _ _ _ (by assumption) (by assumption)).mono ?_); rintro e w' ⟨rfl, d, rfl⟩))
  all_goals
    go_ret
    refine ⟨ret_bool ?_, by repeat (first | with_reducible exact Gr.refl _ | with_reducible refine Gr.drewN ?_ _ | with_reducible refine Gr.drew ?_ | with_reducible refine Gr.alloc ?_ _ | with_reducible refine Gr.setCell ?_ ?_ _ | (with_reducible refine Gr.trans ?_ (by assumption)) | omega | (dsimp only; omega))⟩
    first | rfl | (simp; omega) | (exfalso; omega)
set_option maxRecDepth 100000 in
set_option maxHeartbeats 1000000 in
theorem whole_yes (l g k : ByteArray) (w : World) (hl : l.size ≤ maxLen) (hg : g.size ≤ maxLen) (hk : k.size ≤ maxLen) (hf : fewB [l, g, k] = true) (h : Str.cmp (Tx l) (Tx g) < 0) :
    Calls Try.prog 9 #[.agg #[.string l, .string g, .bool false], .string k] w fun e w' => e = .returned (.bool true) ∧ Gr w w' := by
  have hfew := few_any (w.heap.size + 1) 3 [l, g, k] rfl (by omega)
  rw [hf] at hfew
  have Hfew := Lib.hid hfew
  clear hfew hf
  have hM := fun w => meet_any l g ByteArray.empty ByteArray.empty false true w hl hg empty_ok empty_ok
  rw [(meet_ft l g ByteArray.empty ByteArray.empty l g (low_empty l) rfl).2 h] at hM
  have HM := Lib.hid hM
  clear hM
  have hin : inB ByteArray.empty ByteArray.empty true k = true := by simp [inB, cmp_empty]
  have HI := Lib.hid (fun w => in_any ByteArray.empty ByteArray.empty true k w empty_ok empty_ok hk)
  rw [hin] at HI
  clear hin
  go_enter Try.func9, Try.ntmps9
  go_wp2_with fail
  refine (Hfew.out _ (cells3_at _ _ (by simp) _ _ _)).mono ?_
  rintro e w' ⟨rfl, rfl⟩
  go_wp2_with fail
  refine (HM.out _).mono ?_
  rintro e w1 ⟨rfl, hg1⟩
  have hc := hg1.cells
  have hz0 : w.heap.size < w1.heap.size := by have := hg1.le; simp at this; omega
  go_wp2_with fail
  refine (HI.out _).mono ?_
  rintro e w' ⟨rfl, d, rfl⟩
  go_wp2_with (first | (go_at_call 13; (with_reducible refine (awake_any _).mono ?_); rintro e w' ⟨rfl, d, rfl⟩) | (go_at_call 15; (with_reducible refine (compare_any _ _ _ (by assumption) (by assumption)).mono ?_); rintro e w' ⟨rfl, d, rfl⟩))
  all_goals
    go_ret
    refine ⟨ret_bool ?_, by repeat (first | with_reducible exact Gr.refl _ | with_reducible refine Gr.drewN ?_ _ | with_reducible refine Gr.drew ?_ | with_reducible refine Gr.alloc ?_ _ | with_reducible refine Gr.setCell ?_ ?_ _ | (with_reducible refine Gr.trans ?_ (by assumption)) | omega | (dsimp only; omega))⟩
    first | rfl | (simp; omega) | (exfalso; omega)
set_option maxRecDepth 100000 in
set_option maxHeartbeats 1000000 in
theorem whole_no (l g k : ByteArray) (w : World) (hl : l.size ≤ maxLen) (hg : g.size ≤ maxLen) (hk : k.size ≤ maxLen) (hf : fewB [l, g, k] = true) (h : 0 ≤ Str.cmp (Tx l) (Tx g)) :
    Calls Try.prog 9 #[.agg #[.string l, .string g, .bool false], .string k] w fun e w' => e = .returned (.bool true) ∧ Gr w w' := by
  have hfew := few_any (w.heap.size + 1) 3 [l, g, k] rfl (by omega)
  rw [hf] at hfew
  have Hfew := Lib.hid hfew
  clear hfew hf
  have hM := fun w => meet_any l g ByteArray.empty ByteArray.empty false true w hl hg empty_ok empty_ok
  rw [(meet_ft l g ByteArray.empty ByteArray.empty l g (low_empty l) rfl).1 h] at hM
  have HM := Lib.hid hM
  clear hM
  have hin : inB ByteArray.empty ByteArray.empty true k = true := by simp [inB, cmp_empty]
  have HI := Lib.hid (fun w => in_any ByteArray.empty ByteArray.empty true k w empty_ok empty_ok hk)
  rw [hin] at HI
  clear hin
  go_enter Try.func9, Try.ntmps9
  go_wp2_with fail
  refine (Hfew.out _ (cells3_at _ _ (by simp) _ _ _)).mono ?_
  rintro e w' ⟨rfl, rfl⟩
  go_wp2_with fail
  refine (HM.out _).mono ?_
  rintro e w1 ⟨rfl, hg1⟩
  have hc := hg1.cells
  have hz0 : w.heap.size < w1.heap.size := by have := hg1.le; simp at this; omega
  go_wp2_with fail
  refine (HI.out _).mono ?_
  rintro e w' ⟨rfl, d, rfl⟩
  go_wp2_with (first | (go_at_call 13; (with_reducible refine (awake_any _).mono ?_); rintro e w' ⟨rfl, d, rfl⟩) | (go_at_call 15; (with_reducible refine (compare_any _ _ _ (by assumption) (by assumption)).mono ?_); rintro e w' ⟨rfl, d, rfl⟩))
  all_goals
    go_ret
    refine ⟨ret_bool ?_, by repeat (first | with_reducible exact Gr.refl _ | with_reducible refine Gr.drewN ?_ _ | with_reducible refine Gr.drew ?_ | with_reducible refine Gr.alloc ?_ _ | with_reducible refine Gr.setCell ?_ ?_ _ | (with_reducible refine Gr.trans ?_ (by assumption)) | omega | (dsimp only; omega))⟩
    first | rfl | (simp; omega) | (exfalso; omega)

theorem whole_out (l g k : ByteArray) (u : Bool) (w : World) (hf : fewB [l, g, k] = false) :
    Calls Try.prog 9 #[.agg #[.string l, .string g, .bool u], .string k] w fun e w' => e = .returned (.bool true) ∧ Gr w w' := by
  have hfew := few_any (w.heap.size + 1) 3 [l, g, k] rfl (by omega)
  rw [hf] at hfew
  have Hfew := Lib.hid hfew
  clear hfew hf
  go_enter Try.func9, Try.ntmps9
  go_wp2_with fail
  refine (Hfew.out _ (cells3_at _ _ (by simp) _ _ _)).mono ?_
  rintro e w' ⟨rfl, rfl⟩
  go_wp2_with (go_at_call 13; (with_reducible refine (awake_any _).mono ?_); rintro e w' ⟨rfl, d, rfl⟩)
  go_ret
  exact ⟨rfl, by repeat (first | with_reducible exact Gr.refl _ | with_reducible refine Gr.drewN ?_ _ | with_reducible refine Gr.drew ?_ | with_reducible refine Gr.alloc ?_ _ | with_reducible refine Gr.setCell ?_ ?_ _ | (with_reducible refine Gr.trans ?_ (by assumption)) | omega | (dsimp only; omega))⟩

theorem whole_walk (l g : ByteArray) (u : Bool) (k : ByteArray) (w : World) (hl : l.size ≤ maxLen) (hg : g.size ≤ maxLen) (hk : k.size ≤ maxLen) :
    Calls Try.prog 9 #[.agg #[.string l, .string g, .bool u], .string k] w fun e w' => e = .returned (.bool true) ∧ Gr w w' := by
  cases hf : fewB [l, g, k]
  · exact whole_out l g k u w hf
  · cases u
    · by_cases h : Str.cmp (Tx l) (Tx g) < 0
      · exact whole_yes l g k w hl hg hk hf h
      · exact whole_no l g k w hl hg hk hf (by omega)
    · exact whole_t l g k w hl hg hk hf
end Go.Proofs.Ytilmpofbjagcmaa
