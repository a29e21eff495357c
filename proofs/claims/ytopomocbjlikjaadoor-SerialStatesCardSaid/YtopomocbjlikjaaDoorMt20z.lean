import Derived.Test.YtopomocbjlikjaaDoorPl20z
import Derived.Test.YtopomocbjlikjaaDoorGsz
import Derived.Test.YtopomocbjlikjaaDoorRwz
namespace Go.Proofs.YtopomocbjlikjaaDoor
set_option linter.unusedVariables false
set_option linter.unusedSimpArgs false

/-! Trips in memory (serial): ten cells for what is seen, five for a trip, the same for the program's and the document's. -/
structure SnSz (s : Sn) : Prop where
  key : s.key.size ≤ maxLen
  val : s.val.size ≤ maxLen
  low : s.low.size ≤ maxLen
  high : s.high.size ≤ maxLen
/-- (a number is a map's key: it must be one of 64 bits) -/
structure TrSz (t : Tr) : Prop where
  num : (Lit.int .i64 t.num).wf = true
  snap : (Lit.int .i64 t.snap).wf = true
abbrev snL (s : Sn) (o : Option Addr) (n c : Nat) : List Value := [.int .i64 s.kind, .string s.key, .string s.val, .bool s.there, .string s.low, .string s.high, .bool s.unb, .int .i64 s.limit, .bool s.rev, .slice o n c]
abbrev trL (t : Tr) (o : Option Addr) (n c : Nat) : List Value := [.int .i64 t.beg, .int .i64 t.fin, .int .i64 t.snap, .int .i64 t.num, .slice o n c]
theorem RowsAt.exS {w w' : World} {oa : Option Addr} {n cap : Nat} {l : List Rw} (h : RowsAt w oa n cap l) (hg : Ex w w') : RowsAt w' oa n cap l := by
  obtain ⟨h1, h2, h3, h4, ⟨b, off, h5, h6⟩, h7⟩ := h
  exact ⟨h1, h2, h3, h4, ⟨b, off, fun q => ⟨(h5 q).1, Nat.lt_of_lt_of_le (h5 q).2 hg.size⟩, fun i hi => ⟨hg.cell _ _ _ (h6 i hi).1, hg.cell _ _ _ (h6 i hi).2⟩⟩, h7⟩
def SnE : EP Sn := fun w s vs => ∃ o n c, vs = snL s o n c ∧ RowsAt w o n c s.rows ∧ SnSz s
theorem SnE_mono : Mono SnE := fun w w' s vs hg ⟨o, n, c, e, h1, h2⟩ => ⟨o, n, c, e, h1.exS hg, h2⟩
abbrev SeenAt (w : World) (oa : Option Addr) (n cap : Nat) (l : List Sn) : Prop := SlE SnE 10 w oa n cap l
def TrE : EP Tr := fun w t vs => ∃ o n c, vs = trL t o n c ∧ SeenAt w o n c t.seen ∧ TrSz t
theorem TrE_mono : Mono TrE := fun w w' t vs hg ⟨o, n, c, e, h1, h2⟩ => ⟨o, n, c, e, h1.ex SnE_mono hg, h2⟩
abbrev TripsAt (w : World) (oa : Option Addr) (n cap : Nat) (l : List Tr) : Prop := SlE TrE 5 w oa n cap l
theorem SeenAt.keep {w w' : World} {oa : Option Addr} {n cap : Nat} {l : List Sn} (h : SeenAt w oa n cap l) (hg : Gr w w') : SeenAt w' oa n cap l := SlE.keep SnE_mono h hg
theorem TripsAt.keep {w w' : World} {oa : Option Addr} {n cap : Nat} {l : List Tr} (h : TripsAt w oa n cap l) (hg : Gr w w') : TripsAt w' oa n cap l := SlE.keep TrE_mono h hg
/-- what was seen, in memory -/
structure SnAt (w : World) (b o : Nat) (s : Sn) (p : Option Addr) (n c : Nat) : Prop where
  rng : w.rangeAt b o (snL s p n c)
  rows : RowsAt w p n c s.rows
  size : SnSz s
structure TrAt (w : World) (b o : Nat) (t : Tr) (p : Option Addr) (n c : Nat) : Prop where
  rng : w.rangeAt b o (trL t p n c)
  seen : SeenAt w p n c t.seen
  size : TrSz t
theorem SeenAt.get {w : World} {oa : Option Addr} {n cap : Nat} {l : List Sn} (h : SeenAt w oa n cap l) :
    ∃ b off, (0 < n → oa = some ⟨b, off, none⟩) ∧ ∀ (i : Nat) (s : Sn), l[i]? = some s → ∃ p m c, SnAt w b (off + i * 10) s p m c := by
  obtain ⟨b, off, h1, h2⟩ := h.cells
  refine ⟨b, off, fun q => (h1 q).1, fun i s hi => ?_⟩
  obtain ⟨vs, -, -, ⟨p, m, c, rfl, h3, h4⟩, h5⟩ := h2 i s hi
  exact ⟨p, m, c, h5, h3, h4⟩
theorem TripsAt.get {w : World} {oa : Option Addr} {n cap : Nat} {l : List Tr} (h : TripsAt w oa n cap l) :
    ∃ b off, (0 < n → oa = some ⟨b, off, none⟩) ∧ ∀ (i : Nat) (t : Tr), l[i]? = some t → ∃ p m c, TrAt w b (off + i * 5) t p m c := by
  obtain ⟨b, off, h1, h2⟩ := h.cells
  refine ⟨b, off, fun q => (h1 q).1, fun i t hi => ?_⟩
  obtain ⟨vs, -, -, ⟨p, m, c, rfl, h3, h4⟩, h5⟩ := h2 i t hi
  exact ⟨p, m, c, h5, h3, h4⟩
theorem SnAt.cell {w : World} {b o : Nat} {s : Sn} {p : Option Addr} {n c : Nat} (h : SnAt w b o s p n c) (j : Nat) {u : Value} (hu : (snL s p n c)[j]? = some u) : w.cell? ⟨b, o + j, none⟩ = some u := h.rng j u hu
theorem TrAt.cell {w : World} {b o : Nat} {t : Tr} {p : Option Addr} {n c : Nat} (h : TrAt w b o t p n c) (j : Nat) {u : Value} (hu : (trL t p n c)[j]? = some u) : w.cell? ⟨b, o + j, none⟩ = some u := h.rng j u hu
end Go.Proofs.YtopomocbjlikjaaDoor

namespace Go.Proofs.YtopomocbjlikjaaDoor
set_option linter.unusedVariables false
set_option linter.unusedSimpArgs false
open Go.BigFrame Go.RowKit Go.WideShapes

/-! The document's numbers (serial). -/
theorem cells_tripD : Tryd.prog.cellsOf 27 = 5 := by kernel_rfl
theorem cells_seenD : Tryd.prog.cellsOf 51 = 10 := by kernel_rfl
theorem run_trip {oa : Option Addr} {n b off : Nat} (cap : Nat) (ho : 0 < n → oa = some ⟨b, off, none⟩) {k : Nat} (hk : k < n) (w : World) :
    (Instr.indexAt 22 (.slice oa n cap) (.int .i64 (k : Int))).run Tryd.prog w = .ok (.pointer (some ⟨b, off + k * 5, none⟩)) w := by
  rw [ho (by omega)]
  go_simp
theorem run_seen {oa : Option Addr} {n b off : Nat} (cap : Nat) (ho : 0 < n → oa = some ⟨b, off, none⟩) {k : Nat} (hk : k < n) (w : World) :
    (Instr.indexAt 25 (.slice oa n cap) (.int .i64 (k : Int))).run Tryd.prog w = .ok (.pointer (some ⟨b, off + k * 10, none⟩)) w := by
  rw [ho (by omega)]
  go_simp
theorem cells_tripP : Tryd.prog.cellsOf 31 = 5 := by kernel_rfl
theorem cells_seenP : Tryd.prog.cellsOf 55 = 10 := by kernel_rfl
theorem run_tripP {oa : Option Addr} {n b off : Nat} (cap : Nat) (ho : 0 < n → oa = some ⟨b, off, none⟩) {k : Nat} (hk : k < n) (w : World) :
    (Instr.indexAt 39 (.slice oa n cap) (.int .i64 (k : Int))).run Tryd.prog w = .ok (.pointer (some ⟨b, off + k * 5, none⟩)) w := by
  rw [ho (by omega)]
  go_simp
theorem run_seenP {oa : Option Addr} {n b off : Nat} (cap : Nat) (ho : 0 < n → oa = some ⟨b, off, none⟩) {k : Nat} (hk : k < n) (w : World) :
    (Instr.indexAt 29 (.slice oa n cap) (.int .i64 (k : Int))).run Tryd.prog w = .ok (.pointer (some ⟨b, off + k * 10, none⟩)) w := by
  rw [ho (by omega)]
  go_simp
theorem count_take {l : List Tr} {i : Nat} {t : Tr} (h : l[i]? = some t) (k : Int) : countN (l.take (i + 1)) k = countN (l.take i) k + (if t.num = k then 1 else 0) := by
  have hi := (List.getElem?_eq_some_iff.1 h)
  obtain ⟨h1, h2⟩ := hi
  rw [List.take_succ_eq_append_getElem h1, count_app, h2]
  unfold countN
  rw [List.filter_cons]
  split
  · rename_i e; rw [if_pos (by simpa using e)]; rfl
  · rename_i e; rw [if_neg (by simpa using e)]; rfl
set_option maxRecDepth 100000 in
set_option maxHeartbeats 2000000 in
theorem number_any (oa : Option Addr) (n cap : Nat) (l : List Tr) (k : Int) (w : World) (h : TripsAt w oa n cap l) :
    Calls Tryd.prog 24 #[.slice oa n cap, .int .i64 k] w fun e w' => e = .returned (.int .i64 (countN l k)) ∧ w' = w := by
  have Hl := Lib.hid h.len
  have hcl := h.cap_le
  have hcm := h.cap_max
  unfold maxLen at hcm
  obtain ⟨b, off, ho, hc⟩ := h.get
  have Ho := Lib.hid ho
  have Hc := Lib.hid hc
  clear ho hc h
  go_enter Tryd.func24, Tryd.ntmps24
  go_wp2_with fail
  go_loopw [5, 6] (fun s5 s6 wr => ∃ (i : Nat) (q : Nat), i ≤ n ∧ q ≤ i ∧ s5 = .int .i64 q ∧ s6 = .int .i64 i ∧ Hid (countN (l.take i) k = q) ∧ w = wr) (fun _ s6 _ => n - (intOf s6).toNat)
  case atStart => exact ⟨0, 0, Nat.zero_le _, Nat.le_refl _, rfl, rfl, Lib.hid rfl, rfl⟩
  case round =>
    obtain ⟨i, q, hi, hqi, rfl, rfl, hq, rfl⟩ := hrel
    by_cases hlt : i < n
    · have hy : l[i]? = some (l[i]'(by have := Hl.out; omega)) := List.getElem?_eq_getElem _
      generalize (l[i]'(by have := Hl.out; omega)) = t at hy
      obtain ⟨p, m, c, R⟩ := Hc.out i t hy
      have a3 := R.cell 3 rfl
      have hI := run_trip cap Ho.out hlt
      have hs := count_take hy k
      rw [hq.out] at hs
      by_cases e : t.num = k
      · rw [if_pos e] at hs
        have he : (t.num == k) = true := by rw [beq_iff_eq]; exact e
        have Hs := Lib.hid hs
        clear hs e hy R hq
        go_wp2_with fail
        go_roundw
        case rel => exact ⟨i + 1, q + 1, by omega, by omega, by go_num, by go_num, Hs, trivial⟩
        case measure => simp [intOf]; omega
      · rw [if_neg e] at hs
        have he : (t.num == k) = false := by rw [beq_eq_false_iff_ne]; exact e
        have Hs := Lib.hid hs
        clear hs e hy R hq
        go_wp2_with fail
        go_roundw
        case rel => exact ⟨i + 1, q, by omega, by omega, by trivial, by go_num, Hs, trivial⟩
        case measure => simp [intOf]; omega
    · obtain rfl : i = n := by omega
      have hq2 := hq.out
      rw [List.take_of_length_le (by rw [Hl.out]; exact Nat.le_refl _)] at hq2
      have HQ := Lib.hid hq2
      clear hq2 hq
      go_wp2_with fail
      go_ret
      rw [HQ.out]
      exact ⟨rfl, rfl⟩
end Go.Proofs.YtopomocbjlikjaaDoor
