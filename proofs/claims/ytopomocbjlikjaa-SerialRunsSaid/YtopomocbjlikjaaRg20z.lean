import Derived.Test.YtopomocbjlikjaaMt20z
import Derived.Test.YtopomocbjlikjaaRwz
namespace Go.Proofs.Ytopomocbjlikjaa
set_option linter.unusedVariables false
set_option linter.unusedSimpArgs false
open Go.BigFrame Go.RowKit Go.WideShapes

/-! The document's numbers (serial). -/
theorem cells_tripD : Try.prog.cellsOf 28 = 5 := by kernel_rfl
theorem cells_seenD : Try.prog.cellsOf 30 = 10 := by kernel_rfl
theorem run_trip {oa : Option Addr} {n b off : Nat} (cap : Nat) (ho : 0 < n → oa = some ⟨b, off, none⟩) {k : Nat} (hk : k < n) (w : World) :
    (Instr.indexAt 22 (.slice oa n cap) (.int .i64 (k : Int))).run Try.prog w = .ok (.pointer (some ⟨b, off + k * 5, none⟩)) w := by
  rw [ho (by omega)]
  go_simp
theorem run_seen {oa : Option Addr} {n b off : Nat} (cap : Nat) (ho : 0 < n → oa = some ⟨b, off, none⟩) {k : Nat} (hk : k < n) (w : World) :
    (Instr.indexAt 26 (.slice oa n cap) (.int .i64 (k : Int))).run Try.prog w = .ok (.pointer (some ⟨b, off + k * 10, none⟩)) w := by
  rw [ho (by omega)]
  go_simp
theorem cells_tripP : Try.prog.cellsOf 46 = 5 := by kernel_rfl
theorem cells_seenP : Try.prog.cellsOf 50 = 10 := by kernel_rfl
theorem run_tripP {oa : Option Addr} {n b off : Nat} (cap : Nat) (ho : 0 < n → oa = some ⟨b, off, none⟩) {k : Nat} (hk : k < n) (w : World) :
    (Instr.indexAt 42 (.slice oa n cap) (.int .i64 (k : Int))).run Try.prog w = .ok (.pointer (some ⟨b, off + k * 5, none⟩)) w := by
  rw [ho (by omega)]
  go_simp
theorem run_seenP {oa : Option Addr} {n b off : Nat} (cap : Nat) (ho : 0 < n → oa = some ⟨b, off, none⟩) {k : Nat} (hk : k < n) (w : World) :
    (Instr.indexAt 44 (.slice oa n cap) (.int .i64 (k : Int))).run Try.prog w = .ok (.pointer (some ⟨b, off + k * 10, none⟩)) w := by
  rw [ho (by omega)]
  go_simp
theorem count_take {l : List Tr} {i : Nat} {t : Tr} (h : l[i]? = some t) (k : Int) : countN (l.take (i + 1)) k = countN (l.take i) k + (if t.num = k then 1 else 0) := by
  have hi := (List.getElem?_eq_some_iff.1 h)
  obtain ⟨h1, h2⟩ := hi
  rw [List.take_succ_eq_append_getElem h1, count_app, h2]
  unfold countN
  rw [List.filter_cons]
  split
  · rename_i e; rw [if_pos (by simpa using e)]; rfl
  · rename_i e; rw [if_neg (by simpa using e)]; rfl
set_option maxRecDepth 100000 in
set_option maxHeartbeats 2000000 in
theorem number_any (oa : Option Addr) (n cap : Nat) (l : List Tr) (k : Int) (w : World) (h : TripsAt w oa n cap l) :
    Calls Try.prog 24 #[.slice oa n cap, .int .i64 k] w fun e w' => e = .returned (.int .i64 (countN l k)) ∧ w' = w := by
  have Hl := Lib.hid h.len
  have hcl := h.cap_le
  have hcm := h.cap_max
  unfold maxLen at hcm
  obtain ⟨b, off, ho, hc⟩ := h.get
  have Ho := Lib.hid ho
  have Hc := Lib.hid hc
  clear ho hc h
  go_enter Try.func24, Try.ntmps24
  go_wp2_with fail
  go_loopw [5, 6] (fun s5 s6 wr => ∃ (i : Nat) (q : Nat), i ≤ n ∧ q ≤ i ∧ s5 = .int .i64 q ∧ s6 = .int .i64 i ∧ Hid (countN (l.take i) k = q) ∧ w = wr) (fun _ s6 _ => n - (intOf s6).toNat)
  case atStart => exact ⟨0, 0, Nat.zero_le _, Nat.le_refl _, rfl, rfl, Lib.hid rfl, rfl⟩
  case round =>
    obtain ⟨i, q, hi, hqi, rfl, rfl, hq, rfl⟩ := hrel
    by_cases hlt : i < n
    · have hy : l[i]? = some (l[i]'(by have := Hl.out; omega)) := List.getElem?_eq_getElem _
      generalize (l[i]'(by have := Hl.out; omega)) = t at hy
      obtain ⟨p, m, c, R⟩ := Hc.out i t hy
      have a3 := R.cell 3 rfl
      have hI := run_trip cap Ho.out hlt
      have hs := count_take hy k
      rw [hq.out] at hs
      by_cases e : t.num = k
      · rw [if_pos e] at hs
        have he : (t.num == k) = true := by rw [beq_iff_eq]; exact e
        have Hs := Lib.hid hs
        clear hs e hy R hq
        go_wp2_with fail
        go_roundw
        case rel => exact ⟨i + 1, q + 1, by omega, by omega, by go_num, by go_num, Hs, trivial⟩
        case measure => simp [intOf]; omega
      · rw [if_neg e] at hs
        have he : (t.num == k) = false := by rw [beq_eq_false_iff_ne]; exact e
        have Hs := Lib.hid hs
        clear hs e hy R hq
        go_wp2_with fail
        go_roundw
        case rel => exact ⟨i + 1, q, by omega, by omega, by trivial, by go_num, Hs, trivial⟩
        case measure => simp [intOf]; omega
    · obtain rfl : i = n := by omega
      have hq2 := hq.out
      rw [List.take_of_length_le (by rw [Hl.out]; exact Nat.le_refl _)] at hq2
      have HQ := Lib.hid hq2
      clear hq2 hq
      go_wp2_with fail
      go_ret
      rw [HQ.out]
      exact ⟨rfl, rfl⟩
end Go.Proofs.Ytopomocbjlikjaa
