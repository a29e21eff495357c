import Derived.Test.YtidfelbaegaphaaDoorUp1
import Derived.Test.YtidfelbaegaphaaDoorUp2
import Derived.Test.YtidfelbaegaphaaDoorUp3
import Derived.Test.YtidfelbaegaphaaDoorUp4
import Derived.Test.YtidfelbaegaphaaDoorUp5
namespace Go.Proofs.YtidfelbaegaphaaDoor
set_option linter.unusedVariables false
set_option linter.unusedSimpArgs false
open Go.BigFrame Go.RowKit Go.WideShapes

/-- what lies in blocks that stay lies there -/
theorem OwnAt.away {w w' : World} {base : Nat} {oa : Option Addr} {n cap : Nat} {l : List Rw} (h : OwnAt w base oa n cap l) (hf : ∀ g, Value.ownBlock (.slice oa n cap) = some g → w'.heap[g]? = w.heap[g]?) (hs : w.heap.size ≤ w'.heap.size) : OwnAt w' base oa n cap l := by
  obtain ⟨⟨ho1, ho2⟩, hr⟩ := h
  rcases ho2 with ⟨e, hn⟩ | ⟨g, cap', cur, e, hb, hcur, rest⟩
  · refine ⟨⟨ho1, .inl ⟨e, hn⟩⟩, hr.len, hr.cap_le, hr.cap_max, hr.none, ⟨0, 0, fun q => absurd q (by omega), fun i hi => absurd hi (by omega)⟩, hr.sizes⟩
  · have hk := hf g (by rw [e]; rfl)
    simp only [Value.slice.injEq] at e
    obtain ⟨rfl, -, rfl⟩ := e
    obtain ⟨b, off, h5, h6⟩ := hr.cells
    refine ⟨⟨ho1, .inr ⟨g, cap, cur, rfl, hb, hk.trans hcur, rest⟩⟩, hr.len, hr.cap_le, hr.cap_max, hr.none, ⟨b, off, fun q => ?_, fun i hi => ?_⟩, hr.sizes⟩
    · exact ⟨(h5 q).1, Nat.lt_of_lt_of_le (h5 q).2 hs⟩
    · have e1 := (h5 (by omega)).1
      obtain ⟨rfl, rfl⟩ : g = b ∧ 0 = off := by simpa using e1
      have hc : ∀ j, w'.cell? ⟨g, j, none⟩ = w.cell? ⟨g, j, none⟩ := fun j => World.cell?_of_block (w := w) (a := ⟨g, j, none⟩) hk
      rw [hc, hc]
      exact h6 i hi
theorem heap_setCells {g b : Nat} (hb : g ≠ b) (us : List Value) : ∀ (w : World) (i : Nat), (w.setCells b i us).heap[g]? = w.heap[g]? := by
  induction us with
  | nil => intro w i; rfl
  | cons u us ih => intro w i; exact (ih (w.setCell ⟨b, i, none⟩ u) (i + 1)).trans (by simp only [World.setCell, Array.getElem?_modify]; rw [if_neg (fun e => hb e.symm)])
theorem size_setCells {b : Nat} (us : List Value) : ∀ (w : World) (i : Nat), (w.setCells b i us).heap.size = w.heap.size := by
  induction us with
  | nil => intro w i; rfl
  | cons u us ih => intro w i; exact (ih (w.setCell ⟨b, i, none⟩ u) (i + 1)).trans (by simp [World.setCell])
theorem OwnAt.setOther {w : World} {base b : Nat} {oa : Option Addr} {n cap : Nat} {l : List Rw} (h : OwnAt w base oa n cap l) (hb : Value.ownBlock (.slice oa n cap) ≠ some b) (us : List Value) (i : Nat) : OwnAt (w.setCells b i us) base oa n cap l :=
  h.away (fun g hg => heap_setCells (fun e => hb (by rw [← e]; exact hg)) us w i) (by rw [size_setCells]; exact Nat.le_refl _)
theorem OwnAt.block {w : World} {base : Nat} {oa : Option Addr} {n cap : Nat} {l : List Rw} (h : OwnAt w base oa n cap l) {g : Nat} (hg : Value.ownBlock (.slice oa n cap) = some g) : base ≤ g := (h.own.lt g hg).1
/-- what up tells, and where the rows lie -/
def UpTells (base : Nat) (w : World) (oa : Option Addr) (n cap : Nat) (res : Option Vw) (e : Ending) (w' : World) : Prop :=
  match res with
  | some v2 => ∃ o n2 c, e = .returned (.tuple #[vwV v2 o n2 c, .bool true]) ∧ OwnAt w' base o n2 c v2.rows ∧ (∀ g, Value.ownBlock (.slice o n2 c) = some g → w.heap.size ≤ g ∨ Value.ownBlock (.slice oa n cap) = some g) ∧ Gr w w'
  | none => ∃ (a b : ByteArray) (u g : Bool) (r : Int) (o : Option Addr) (n c : Nat), e = .returned (.tuple #[.agg #[.string a, .string b, .bool u, .int .i64 r, .slice o n c, .bool g], .bool false]) ∧ Gr w w'
theorem UpTells.of {base : Nat} {w w' : World} {oa : Option Addr} {n cap : Nat} {res : Option Vw} {e : Ending} (hb : base ≤ w.heap.size) (h : UpPost w.heap.size w res e w') : UpTells base w oa n cap res e w' := by
  cases res with
  | none => exact h
  | some v2 =>
    obtain ⟨o, n2, c, h1, h2, h3⟩ := h
    exact ⟨o, n2, c, h1, h2.lower2 hb, fun g hg => .inl (h2.block hg), h3⟩
theorem up_any {base : Nat} (v : Vw) (x : Rx) (oa : Option Addr) (n cap : Nat) (oa2 : Option Addr) (n2 cap2 : Nat) (ob : Option Addr) (m cap3 : Nat) (w : World) (hO : OwnAt w base oa n cap v.rows) (hR2 : RowsAt w oa2 n2 cap2 x.r.rows) (hn : n ≤ 1000000) (hn2 : n2 ≤ 1000000) (hb : base ≤ w.heap.size) (hv : VwSz v) (hx : RxSz x) :
    Calls Tryd.prog 24 #[vwV v oa n cap, rxV x oa2 n2 cap2 ob m cap3] w (UpTells base w oa n cap (upP v x.r)) := by
  by_cases k2 : x.r.kind = 2
  · exact (up_put v x oa n cap oa2 n2 cap2 ob m cap3 w hO.rows hn (Nat.le_refl _) hv hx k2).mono fun _ _ h => UpTells.of hb h
  by_cases k3 : x.r.kind = 3
  · exact (up_del v x oa n cap oa2 n2 cap2 ob m cap3 w hO.rows hn (Nat.le_refl _) hv hx k3).mono fun _ _ h => UpTells.of hb h
  by_cases k4 : x.r.kind = 4
  · exact (up_split v x oa n cap oa2 n2 cap2 ob m cap3 w hO.rows hn (Nat.le_refl _) hv hx k4).mono fun _ _ h => UpTells.of hb h
  by_cases k6 : x.r.kind = 6
  · exact (up_merge v x oa n cap oa2 n2 cap2 ob m cap3 w hO.rows hR2 hn hn2 (Nat.le_refl _) hv hx k6).mono fun _ _ h => UpTells.of hb h
  by_cases k5 : x.r.kind = 5
  · refine (up_rem v x oa n cap oa2 n2 cap2 ob m cap3 w k5).mono fun e w' h => ?_
    unfold UpRem at h
    have hU : upP v x.r = if v.gone = false then some { v with gone := true } else none := by
      unfold upP; rw [if_neg (by omega), if_neg (by omega), if_neg (by omega), if_neg (by omega), if_pos k5]
    rw [hU]
    by_cases hg : v.gone = false
    · rw [if_pos hg] at h ⊢
      exact ⟨oa, n, cap, h.1, hO.keep h.2, fun g q => .inr q, h.2⟩
    · rw [if_neg hg] at h ⊢
      exact h
  · exact (up_other v x oa n cap oa2 n2 cap2 ob m cap3 w hn (Nat.le_refl _) hv hx (by omega)).mono fun _ _ h => UpTells.of hb h
end Go.Proofs.YtidfelbaegaphaaDoor
