import Derived.Test.YtidfelbaegaphaaDoorUpAz
import Derived.Test.YtidfelbaegaphaaDoorFp2z
import Derived.Test.YtidfelbaegaphaaDoorRfz
import Derived.Test.YtidfelbaegaphaaDoorSp7z
namespace Go.Proofs.YtidfelbaegaphaaDoor
set_option linter.unusedVariables false
set_option linter.unusedSimpArgs false
open Go.BigFrame Go.RowKit Go.WideShapes

/-- what the document's Fold tells -/
def RefTells (w : World) (res : Option Vw × Int) (e : Ending) (w' : World) : Prop :=
  match res.1 with
  | some v => ∃ o n c, e = .returned (.tuple #[vwV v o n c, .int .i64 0]) ∧ RowsAt w' o n c v.rows ∧ VwSz v ∧ Gr w w'
  | none => e = .returned (.tuple #[zV, .int .i64 res.2]) ∧ Gr w w'
/-- rows of the chain's own, or of memory that is younger than the view's box -/
def RowsO (w wr : World) (b7 : Nat) (o : Option Addr) (m c : Nat) (l : List Rw) : Prop := RowsAt w o m c l ∨ OwnAt wr (b7 + 1) o m c l
theorem RowsO.keep {w wr wx : World} {b7 : Nat} {o : Option Addr} {m c : Nat} {l : List Rw} (h : RowsO w wr b7 o m c l) (hg : Gr wr wx) : RowsO w wx b7 o m c l := h.imp id fun q => q.keep hg
theorem RowsO.set {w wr : World} {b7 : Nat} {o : Option Addr} {m c : Nat} {l : List Rw} (h : RowsO w wr b7 o m c l) {b : Nat} (hb : b ≤ b7) (j : Nat) (u : Value) : RowsO w (wr.setCell ⟨b, j, none⟩ u) b7 o m c l := h.imp id fun q => q.setLow (by omega)
theorem RowsO.rows {w wr : World} {b7 : Nat} {o : Option Addr} {m c : Nat} {l : List Rw} (h : RowsO w wr b7 o m c l) (hg : Gr w wr) : RowsAt wr o m c l := h.elim (fun q => q.keep hg) fun q => q.rows
theorem RowsO.sets {w wr : World} {b7 : Nat} {o : Option Addr} {m c : Nat} {l : List Rw} (h : RowsO w wr b7 o m c l) {b : Nat} (hb : b ≤ b7) (us : List Value) : RowsO w (wr.setCells b 0 us) b7 o m c l := h.imp id fun q => q.setLows (by omega) us 0
/-- the rounds: what stands in the view's box, while all is well -/
structure RefAt (w : World) (b7 : Nat) (l : List Ry) (yb : Ry) (i : Int) (wr : World) (v : Vw) (o : Option Addr) (m c : Nat) : Prop where
  at' : viewAtR l yb (i + 1).toNat = some v
  box : Bx wr b7 (vL v o m c)
  rows : RowsO w wr b7 o m c v.rows
  size : VwSz v
  few : v.rows.length ≤ 101 * (l.length - (i + 1).toNat)
/-- all of it: a round's state -/
def RefRd (w : World) (b7 : Nat) (l : List Ry) (yb : Ry) (res : Option Vw × Int) (i : Int) (ok : Bool) (wr : World) : Prop :=
  if ok = true then ∃ v o m c, RefAt w b7 l yb i wr v o m c else res = (none, 10)
theorem upR_sizes {v v' : Vw} {x : Rx} (hv : VwSz v) (hx : RxSz x) (h : upR v x.r = some v') : VwSz v' ∧ v'.rows.length ≤ v.rows.length + 1 + x.r.rows.length := by
  unfold upR at h
  split at h
  · split at h
    · cases h
      refine ⟨⟨hv.low, hv.high⟩, ?_⟩
      show (putL v.rows _).length ≤ _
      have hpl := place_le x.r.key v.rows
      unfold putL
      rw [List.length_append, List.length_append, List.length_take, List.length_drop, List.length_singleton]
      dsimp only
      split <;> omega
    · cases h
  · split at h
    · split at h
      · cases h
        refine ⟨⟨hv.low, hv.high⟩, ?_⟩
        have := (drop_sub v.rows x.r.key).length_le
        show (dropL v.rows _).length ≤ _
        omega
      · cases h
    · split at h
      · split at h
        · cases h
          refine ⟨⟨hv.low, hx.key⟩, ?_⟩
          have := List.length_filter_le (fun z : Rw => Str.before (Tx z.key) (Tx x.r.key)) v.rows
          show (v.rows.filter _).length ≤ _
          omega
        · cases h
      · split at h
        · split at h
          · cases h
            refine ⟨⟨hv.low, hx.high⟩, ?_⟩
            show (v.rows ++ x.r.rows).length ≤ _
            rw [List.length_append]; omega
          · cases h
        · split at h
          · cases h
            exact ⟨⟨hv.low, hv.high⟩, by show v.rows.length ≤ _; omega⟩
          · cases h
            exact ⟨hv, by omega⟩
theorem upR2 {v : Vw} {r : Rc} (h : r.kind = 2) : upR v r = (if fitsB ⟨r.key, r.val⟩ = true ∧ hasK v r.key = true then some { v with rows := putL v.rows ⟨r.key, r.val⟩ } else none) := by
  unfold upR; rw [if_pos h]
theorem upR3 {v : Vw} {r : Rc} (h : r.kind = 3) : upR v r = (if hasK v r.key = true then some { v with rows := dropL v.rows r.key } else none) := by
  unfold upR; rw [if_neg (by omega), if_pos h]
theorem upR4 {v : Vw} {r : Rc} (h : r.kind = 4) : upR v r = (if hasK v r.key = true ∧ r.key ≠ v.low then some { v with rows := aheadL r.key v.rows, high := r.key, unb := false, right := r.page } else none) := by
  unfold upR; rw [if_neg (by omega), if_neg (by omega), if_pos h]; rfl
theorem upR5 {v : Vw} {r : Rc} (h : r.kind = 5) : upR v r = some { v with gone := true } := by
  unfold upR; rw [if_neg (by omega), if_neg (by omega), if_neg (by omega), if_neg (by omega), if_pos h]
theorem upR6 {v : Vw} {r : Rc} (h : r.kind = 6) : upR v r = (if v.unb = false ∧ v.high = r.key ∧ soundR r.rows r.key r.high r.unb = true ∧ (r.unb = true ∨ Str.before (Tx r.key) (Tx r.high) = true) then some { v with rows := v.rows ++ r.rows, high := r.high, unb := r.unb, right := r.right } else none) := by
  unfold upR; rw [if_neg (by omega), if_neg (by omega), if_neg (by omega), if_pos h]
theorem rd_step {w wx : World} {b7 : Nat} {l : List Ry} {yb y : Ry} {res : Option Vw × Int} {i : Int} {v : Vw} (hat : viewAtR l yb (i + 1).toNat = some v) (hi : 0 ≤ i) (hy : l[i.toNat]? = some y) (hlen : i.toNat + 1 < l.length)
    (hfew : v.rows.length ≤ 101 * (l.length - (i + 1).toNat)) (hv : VwSz v) (hz : RxSz y.x) (hr : y.x.r.rows.length ≤ 100) (HFv : res = (match viewAtR l yb 0 with | some v => (some v, 0) | none => (none, 10) : Option Vw × Int))
    (ok : Bool) (hok : ok = true → ∃ v2 o m c, upR v y.x.r = some v2 ∧ Bx wx b7 (vL v2 o m c) ∧ RowsO w wx b7 o m c v2.rows) (hno : ok = false → upR v y.x.r = none) : RefRd w b7 l yb res (i - 1) ok wx := by
  have hst := viewAtR_step l yb (k := i.toNat) hy hlen
  rw [show i.toNat + 1 = (i + 1).toNat by omega, hat] at hst
  unfold RefRd
  cases ok
  · rw [if_neg (by decide), HFv, viewAtR_none l yb i.toNat (by rw [hst]; exact hno rfl)]
  · rw [if_pos rfl]
    obtain ⟨v2, o, m, c, h1, h2, h3⟩ := hok rfl
    obtain ⟨hs1, hs2⟩ := upR_sizes hv hz h1
    refine ⟨v2, o, m, c, ?_, h2, h3, hs1, ?_⟩
    · rw [show (i - 1 + 1).toNat = i.toNat by omega, hst]; exact h1
    · rw [show (i - 1 + 1).toNat = i.toNat by omega]
      rw [show (i + 1).toNat = i.toNat + 1 by omega] at hfew
      omega

end Go.Proofs.YtidfelbaegaphaaDoor
