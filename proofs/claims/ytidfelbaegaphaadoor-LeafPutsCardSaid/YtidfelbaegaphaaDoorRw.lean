import Derived.Test.YtidfelbaegaphaaDoorBk
import Derived.Laws.AppendOwnNone
namespace Go.Proofs.YtidfelbaegaphaaDoor
set_option linter.unusedVariables false
open Go.BigFrame Go.RowKit

/-- a row -/
structure Rw where
  key : ByteArray
  val : ByteArray
  deriving Inhabited, DecidableEq
def rAt (l : List Rw) (i : Nat) : Rw := l.getD i ⟨ByteArray.empty, ByteArray.empty⟩
def kAt (l : List Rw) (i : Nat) : ByteArray := (rAt l i).key
def vAt (l : List Rw) (i : Nat) : ByteArray := (rAt l i).val
theorem rAt_lt {l : List Rw} {i : Nat} (h : i < l.length) : rAt l i = l[i] := by
  unfold rAt; rw [List.getD_eq_getElem?_getD, List.getElem?_eq_getElem h]; rfl

/-- the slice '.slice oa n cap' holds these rows -/
structure RowsAt (w : World) (oa : Option Addr) (n cap : Nat) (l : List Rw) : Prop where
  len : l.length = n
  cap_le : n ≤ cap
  cap_max : cap ≤ maxLen
  none : oa = none → cap = 0
  cells : ∃ b off, (0 < n → oa = some ⟨b, off, Option.none⟩ ∧ b < w.heap.size) ∧ ∀ i, i < n → w.cell? ⟨b, off + i * 2, Option.none⟩ = some (.string (kAt l i)) ∧ w.cell? ⟨b, off + i * 2 + 1, Option.none⟩ = some (.string (vAt l i))
  sizes : ∀ i, i < n → (kAt l i).size ≤ maxLen ∧ (vAt l i).size ≤ maxLen

theorem cells_row : Tryd.prog.cellsOf 41 = 2 := by kernel_rfl
/-- the address of an element, however the slice is held -/
theorem run_row {oa : Option Addr} {n b off : Nat} (cap : Nat) (ho : 0 < n → oa = some ⟨b, off, none⟩) {k : Nat} (hk : k < n) (w : World) :
    (Instr.indexAt 26 (.slice oa n cap) (.int .i64 (k : Int))).run Tryd.prog w = .ok (.pointer (some ⟨b, off + k * 2, none⟩)) w := by
  rw [ho (by omega)]
  go_simp
theorem run_rowI {oa : Option Addr} {n b off : Nat} (cap : Nat) (ho : 0 < n → oa = some ⟨b, off, none⟩) {k : Int} (h0 : 0 ≤ k) (hk : k < n) (w : World) :
    (Instr.indexAt 26 (.slice oa n cap) (.int .i64 k)).run Tryd.prog w = .ok (.pointer (some ⟨b, off + k.toNat * 2, none⟩)) w := by
  obtain ⟨m, rfl⟩ := Int.eq_ofNat_of_zero_le h0
  exact run_row cap ho (by omega) w

/-- how many rows stand ahead of a key -/
def place (key : ByteArray) : List Rw → Nat
  | [] => 0
  | r :: l => if Str.cmp (Tx r.key) (Tx key) < 0 then place key l + 1 else 0
theorem place_le (key : ByteArray) (l : List Rw) : place key l ≤ l.length := by
  induction l with
  | nil => exact Nat.le_refl _
  | cons r l ih => simp only [place]; split <;> simp <;> omega
theorem place_step {key : ByteArray} {l : List Rw} {k : Nat} (hk : k < l.length) (hp : k ≤ place key l) (h : Str.cmp (Tx (kAt l k)) (Tx key) < 0) : k + 1 ≤ place key l := by
  induction l generalizing k with
  | nil => simp at hk
  | cons r l ih =>
    cases k with
    | zero => simp only [place]; rw [if_pos (by exact h)]; omega
    | succ k =>
      simp only [place] at hp ⊢
      split
      · rename_i q
        rw [if_pos q] at hp
        have := ih (k := k) (by simpa using hk) (by omega) (by exact h)
        omega
      · rename_i q; rw [if_neg q] at hp; omega
theorem place_stop {key : ByteArray} {l : List Rw} {k : Nat} (hk : k < l.length) (hp : k ≤ place key l) (h : ¬ Str.cmp (Tx (kAt l k)) (Tx key) < 0) : place key l = k := by
  induction l generalizing k with
  | nil => simp at hk
  | cons r l ih =>
    cases k with
    | zero => simp only [place]; rw [if_neg (by exact h)]
    | succ k =>
      simp only [place] at hp ⊢
      split
      · rename_i q
        rw [if_pos q] at hp
        rw [ih (k := k) (by simpa using hk) (by omega) (by exact h)]
      · rename_i q; rw [if_neg q] at hp; omega

set_option maxRecDepth 100000 in
set_option maxHeartbeats 400000 in
theorem place_any (oa : Option Addr) (n cap : Nat) (l : List Rw) (key : ByteArray) (w : World) (h : RowsAt w oa n cap l) (hk : key.size ≤ maxLen) :
    Calls Tryd.prog 53 #[.slice oa n cap, .string key] w fun e w' => e = .returned (.int .i64 (place key l)) ∧ Dr w w' := by
  obtain ⟨b, off, ho, hc⟩ := h.cells
  have Hc := Lib.hid hc
  have Ho := Lib.hid (fun q => (ho q).1)
  have H := Lib.hid h
  have hn := h.cap_le
  have hm := h.cap_max
  have hpl := place_le key l
  rw [h.len] at hpl
  unfold maxLen at hm
  clear hc ho h
  go_enter Tryd.func53, Tryd.ntmps53
  go_wp2
  go_loopw [5] (fun i wr => ∃ k : Nat, k ≤ n ∧ i = .int .i64 k ∧ k ≤ place key l ∧ Dr w wr) (fun i _ => n - (intOf i).toNat)
  case atStart => exact ⟨0, Nat.zero_le _, rfl, Nat.zero_le _, Dr.refl _⟩
  case round =>
    obtain ⟨k, hk, rfl, hp, d, rfl⟩ := hrel
    by_cases hlt : k < n
    · have hk1 := (Hc.out k hlt).1
      have hs1 := (H.out.sizes k hlt).1
      have hI := run_row cap Ho.out hlt
      go_wp2_with (go_at_call 42; (with_reducible refine (compare_any _ _ _ (by assumption) (by assumption)).mono ?_); rintro e w' ⟨rfl, d, rfl⟩)
      · go_roundw
        case rel => exact ⟨k + 1, by omega, by go_num, place_step (by have := H.out.len; omega) hp (by assumption), _, rfl⟩
        case measure => simp [intOf]; omega
      · have e := place_stop (key := key) (l := l) (by have := H.out.len; omega) hp (by omega)
        go_ret
        exact ⟨by rw [e]; rfl, _, rfl⟩
    · obtain rfl : k = n := by omega
      have e : place key l = k := by omega
      have He := Lib.hid e
      clear e
      go_wp2
      go_ret
      exact ⟨by rw [He.out]; rfl, _, rfl⟩
end Go.Proofs.YtidfelbaegaphaaDoor
