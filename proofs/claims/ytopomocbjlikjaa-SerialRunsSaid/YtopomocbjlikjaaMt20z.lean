import Derived.Test.YtopomocbjlikjaaPl20z
import Derived.Test.YtopomocbjlikjaaGsz
namespace Go.Proofs.Ytopomocbjlikjaa
set_option linter.unusedVariables false
set_option linter.unusedSimpArgs false

/-! Trips in memory (serial): ten cells for what is seen, five for a trip, the same for the program's and the document's. -/
structure SnSz (s : Sn) : Prop where
  key : s.key.size ≤ maxLen
  val : s.val.size ≤ maxLen
  low : s.low.size ≤ maxLen
  high : s.high.size ≤ maxLen
/-- (a number is a map's key: it must be one of 64 bits) -/
structure TrSz (t : Tr) : Prop where
  num : (Lit.int .i64 t.num).wf = true
  snap : (Lit.int .i64 t.snap).wf = true
abbrev snL (s : Sn) (o : Option Addr) (n c : Nat) : List Value := [.int .i64 s.kind, .string s.key, .string s.val, .bool s.there, .string s.low, .string s.high, .bool s.unb, .int .i64 s.limit, .bool s.rev, .slice o n c]
abbrev trL (t : Tr) (o : Option Addr) (n c : Nat) : List Value := [.int .i64 t.beg, .int .i64 t.fin, .int .i64 t.snap, .int .i64 t.num, .slice o n c]
theorem RowsAt.exS {w w' : World} {oa : Option Addr} {n cap : Nat} {l : List Rw} (h : RowsAt w oa n cap l) (hg : Ex w w') : RowsAt w' oa n cap l := by
  obtain ⟨h1, h2, h3, h4, ⟨b, off, h5, h6⟩, h7⟩ := h
  exact ⟨h1, h2, h3, h4, ⟨b, off, fun q => ⟨(h5 q).1, Nat.lt_of_lt_of_le (h5 q).2 hg.size⟩, fun i hi => ⟨hg.cell _ _ _ (h6 i hi).1, hg.cell _ _ _ (h6 i hi).2⟩⟩, h7⟩
def SnE : EP Sn := fun w s vs => ∃ o n c, vs = snL s o n c ∧ RowsAt w o n c s.rows ∧ SnSz s
theorem SnE_mono : Mono SnE := fun w w' s vs hg ⟨o, n, c, e, h1, h2⟩ => ⟨o, n, c, e, h1.exS hg, h2⟩
abbrev SeenAt (w : World) (oa : Option Addr) (n cap : Nat) (l : List Sn) : Prop := SlE SnE 10 w oa n cap l
def TrE : EP Tr := fun w t vs => ∃ o n c, vs = trL t o n c ∧ SeenAt w o n c t.seen ∧ TrSz t
theorem TrE_mono : Mono TrE := fun w w' t vs hg ⟨o, n, c, e, h1, h2⟩ => ⟨o, n, c, e, h1.ex SnE_mono hg, h2⟩
abbrev TripsAt (w : World) (oa : Option Addr) (n cap : Nat) (l : List Tr) : Prop := SlE TrE 5 w oa n cap l
theorem SeenAt.keep {w w' : World} {oa : Option Addr} {n cap : Nat} {l : List Sn} (h : SeenAt w oa n cap l) (hg : Gr w w') : SeenAt w' oa n cap l := SlE.keep SnE_mono h hg
theorem TripsAt.keep {w w' : World} {oa : Option Addr} {n cap : Nat} {l : List Tr} (h : TripsAt w oa n cap l) (hg : Gr w w') : TripsAt w' oa n cap l := SlE.keep TrE_mono h hg
/-- what was seen, in memory -/
structure SnAt (w : World) (b o : Nat) (s : Sn) (p : Option Addr) (n c : Nat) : Prop where
  rng : w.rangeAt b o (snL s p n c)
  rows : RowsAt w p n c s.rows
  size : SnSz s
structure TrAt (w : World) (b o : Nat) (t : Tr) (p : Option Addr) (n c : Nat) : Prop where
  rng : w.rangeAt b o (trL t p n c)
  seen : SeenAt w p n c t.seen
  size : TrSz t
theorem SeenAt.get {w : World} {oa : Option Addr} {n cap : Nat} {l : List Sn} (h : SeenAt w oa n cap l) :
    ∃ b off, (0 < n → oa = some ⟨b, off, none⟩) ∧ ∀ (i : Nat) (s : Sn), l[i]? = some s → ∃ p m c, SnAt w b (off + i * 10) s p m c := by
  obtain ⟨b, off, h1, h2⟩ := h.cells
  refine ⟨b, off, fun q => (h1 q).1, fun i s hi => ?_⟩
  obtain ⟨vs, -, -, ⟨p, m, c, rfl, h3, h4⟩, h5⟩ := h2 i s hi
  exact ⟨p, m, c, h5, h3, h4⟩
theorem TripsAt.get {w : World} {oa : Option Addr} {n cap : Nat} {l : List Tr} (h : TripsAt w oa n cap l) :
    ∃ b off, (0 < n → oa = some ⟨b, off, none⟩) ∧ ∀ (i : Nat) (t : Tr), l[i]? = some t → ∃ p m c, TrAt w b (off + i * 5) t p m c := by
  obtain ⟨b, off, h1, h2⟩ := h.cells
  refine ⟨b, off, fun q => (h1 q).1, fun i t hi => ?_⟩
  obtain ⟨vs, -, -, ⟨p, m, c, rfl, h3, h4⟩, h5⟩ := h2 i t hi
  exact ⟨p, m, c, h5, h3, h4⟩
theorem SnAt.cell {w : World} {b o : Nat} {s : Sn} {p : Option Addr} {n c : Nat} (h : SnAt w b o s p n c) (j : Nat) {u : Value} (hu : (snL s p n c)[j]? = some u) : w.cell? ⟨b, o + j, none⟩ = some u := h.rng j u hu
theorem TrAt.cell {w : World} {b o : Nat} {t : Tr} {p : Option Addr} {n c : Nat} (h : TrAt w b o t p n c) (j : Nat) {u : Value} (hu : (trL t p n c)[j]? = some u) : w.cell? ⟨b, o + j, none⟩ = some u := h.rng j u hu
end Go.Proofs.Ytopomocbjlikjaa
