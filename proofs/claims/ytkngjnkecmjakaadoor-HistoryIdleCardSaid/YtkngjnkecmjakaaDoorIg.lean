import Derived.Test.YtkngjnkecmjakaaDoorOi
import Derived.Test.YtkngjnkecmjakaaDoorHe
namespace Go.Proofs.YtkngjnkecmjakaaDoor
set_option linter.unusedVariables false
set_option linter.unusedSimpArgs false
open Go.BigFrame Go.RowKit Go.WideShapes

def natAt (l : List Nat) (i : Nat) : Nat := l.getD i 0
theorem natAt_lt {l : List Nat} {i : Nat} (h : i < l.length) : natAt l i = l[i] := by
  unfold natAt; rw [List.getD_eq_getElem?_getD, List.getElem?_eq_getElem h]; rfl
/-- the slice holds these numbers -/
structure IntsAt (w : World) (oa : Option Addr) (n cap : Nat) (l : List Nat) : Prop where
  len : l.length = n
  cap_le : n ≤ cap
  cap_max : cap ≤ maxLen
  none : oa = none → cap = 0
  cells : ∃ b off, (0 < n → oa = some ⟨b, off, Option.none⟩ ∧ b < w.heap.size) ∧ ∀ i, i < n → w.cell? ⟨b, off + i, Option.none⟩ = some (.int .i64 (natAt l i : Nat))
theorem IntsAt.keep {w w' : World} {oa : Option Addr} {n cap : Nat} {l : List Nat} (h : IntsAt w oa n cap l) (hg : Gr w w') : IntsAt w' oa n cap l := by
  obtain ⟨h1, h2, h3, h4, b, off, h5, h6⟩ := h
  exact ⟨h1, h2, h3, h4, b, off, fun q => ⟨(h5 q).1, Nat.lt_of_lt_of_le (h5 q).2 hg.le⟩, fun i hi => hg.keep (h6 i hi)⟩
theorem ints_of_own {w : World} {base : Nat} {v : Value} {l : List Nat} (h : w.ownsRow base 3 1 v l.length (intsV l)) : ∃ oa cap, v = .slice oa l.length cap ∧ IntsAt w oa l.length cap l := by
  have hh := h
  rcases h.2 with ⟨e, hn⟩ | ⟨g, cap, cur, e, hb, hcur, hc1, hc2, rest⟩
  · refine ⟨none, 0, by rw [hn]; exact e, rfl, by omega, by unfold maxLen; omega, fun _ => rfl, 0, 0, fun q => by omega, fun i hi => by omega⟩
  · subst e
    refine ⟨_, cap, rfl, rfl, hc1, hc2, by simp, g, 0, fun _ => ⟨rfl, ?_⟩, fun i hi => ?_⟩
    · rcases Nat.lt_or_ge g w.heap.size with r | r
      · exact r
      · rw [Array.getElem?_eq_none r] at hcur; cases hcur
    · rw [Nat.zero_add, hh.cellAt i (by omega)]
      simp [intsV, hi, natAt]
theorem run_int {oa : Option Addr} {n b off : Nat} (cap : Nat) (ho : 0 < n → oa = some ⟨b, off, none⟩) {k : Nat} (hk : k < n) (w : World) :
    (Instr.indexAt 27 (.slice oa n cap) (.int .i64 (k : Int))).run Tryd.prog w = .ok (.pointer (some ⟨b, off + k, none⟩)) w := by
  rw [ho (by omega)]
  go_simp

theorem run_take (oa : Option Addr) (n cap k : Nat) (h : k ≤ cap) (w : World) :
    (Instr.sliceAt 27 (.slice oa n cap) none (some (.int .i64 (k : Int))) none).run Tryd.prog w = .ok (.slice oa k cap) w := by
  have e : (if cap = 0 then oa else Option.map (fun x => x.add 0) oa) = oa := by
    split
    · rfl
    · cases oa with
      | none => rfl
      | some a => simp [Addr.add]
  have hc : Tryd.prog.cellsOf 3 = 1 := by kernel_rfl
  go_simp
theorem IntsAt.take {w : World} {oa : Option Addr} {n cap : Nat} {l : List Nat} (h : IntsAt w oa n cap l) {k : Nat} (hk : k ≤ n) : IntsAt w oa k cap (l.take k) := by
  obtain ⟨h1, h2, h3, h4, b, off, h5, h6⟩ := h
  refine ⟨by rw [List.length_take]; omega, by omega, h3, h4, b, off, fun q => h5 (by omega), fun i hi => ?_⟩
  unfold natAt at h6 ⊢
  rw [h6 i (by omega), List.getD_eq_getElem?_getD, List.getD_eq_getElem?_getD, List.getElem?_take_of_lt hi]

set_option maxRecDepth 100000 in
set_option maxHeartbeats 1000000 in
theorem in_any (oa : Option Addr) (n cap : Nat) (l : List Nat) (x : Nat) (w : World) (h : IntsAt w oa n cap l) :
    Calls Tryd.prog 35 #[.slice oa n cap, .int .i64 x] w fun e w' => e = .returned (.bool (decide (x ∈ l))) ∧ Dr w w' := by
  obtain ⟨b1, off1, ho1, hc1⟩ := h.cells
  have Hc1 := Lib.hid hc1
  have Ho1 := Lib.hid (fun q => (ho1 q).1)
  have H1 := Lib.hid h
  have hn1 := h.cap_le
  have hm1 := h.cap_max
  unfold maxLen at hm1
  clear hc1 ho1 h
  go_enter Tryd.func35, Tryd.ntmps35
  go_wp2_with fail
  go_loopw [5] (fun v wr => ∃ k : Nat, k ≤ n ∧ v = .int .i64 k ∧ Hid (∀ j, j < k → natAt l j ≠ x) ∧ Dr w wr) (fun v _ => n - (intOf v).toNat)
  case atStart => exact ⟨0, Nat.zero_le _, rfl, Lib.hid fun j hj => by omega, Dr.refl _⟩
  case round =>
    obtain ⟨k, hk, rfl, hp, d, rfl⟩ := hrel
    by_cases hlt : k < n
    · have a0 := Hc1.out k hlt
      have hI := run_int cap Ho1.out hlt
      by_cases hx : natAt l k = x
      · have hq : (((natAt l k : Nat) : Int) == (x : Int)) = true := by rw [hx]; simp
        have e : decide (x ∈ l) = true := by
          rw [decide_eq_true_iff, ← hx, natAt_lt (by rw [H1.out.len]; exact hlt)]
          exact List.getElem_mem _
        have E := Lib.hid e
        clear e hx
        go_wp2_with fail
        go_ret
        exact ⟨by rw [E.out]; rfl, by repeat (first | with_reducible exact Dr.refl _ | with_reducible refine Dr.step ?_ _ | with_reducible refine Dr.drew ?_ | (with_reducible refine Dr.trans ?_ (by assumption)))⟩
      · have hq : (((natAt l k : Nat) : Int) == (x : Int)) = false := by
          rw [beq_eq_false_iff_ne]; intro q; exact hx (by omega)
        have Hx := Lib.hid hx
        clear hx
        go_wp2_with fail
        go_roundw
        case rel => exact ⟨k + 1, by omega, by go_num, Lib.hid fun j hj => by
          rcases Nat.lt_or_ge j k with q | q
          · exact hp.out j q
          · obtain rfl : j = k := by omega
            exact Hx.out, by repeat (first | with_reducible exact Dr.refl _ | with_reducible refine Dr.step ?_ _ | with_reducible refine Dr.drew ?_ | (with_reducible refine Dr.trans ?_ (by assumption)))⟩
        case measure => simp [intOf]; omega
    · obtain rfl : k = n := by omega
      have e : decide (x ∈ l) = false := by
        rw [decide_eq_false_iff_not]
        intro q
        obtain ⟨j, hj, hx⟩ := List.getElem_of_mem q
        have := hp.out j (by rw [H1.out.len] at hj; exact hj)
        rw [natAt_lt hj] at this
        exact this hx
      have E := Lib.hid e
      clear e
      go_wp2_with fail
      go_ret
      exact ⟨by rw [E.out]; rfl, by repeat (first | with_reducible exact Dr.refl _ | with_reducible refine Dr.step ?_ _ | with_reducible refine Dr.drew ?_ | (with_reducible refine Dr.trans ?_ (by assumption)))⟩
end Go.Proofs.YtkngjnkecmjakaaDoor
