import Derived.Test.YtopomocbjlikjaaStrz
import Derived.Laws.AppendOwnNone
namespace Go.Proofs.Ytopomocbjlikjaa
set_option linter.unusedVariables false
open Go.BigFrame Go.RowKit

/-- a row -/
structure Rw where
  key : ByteArray
  val : ByteArray
  deriving Inhabited, DecidableEq
def rAt (l : List Rw) (i : Nat) : Rw := l.getD i ⟨ByteArray.empty, ByteArray.empty⟩
def kAt (l : List Rw) (i : Nat) : ByteArray := (rAt l i).key
def vAt (l : List Rw) (i : Nat) : ByteArray := (rAt l i).val
theorem rAt_lt {l : List Rw} {i : Nat} (h : i < l.length) : rAt l i = l[i] := by
  unfold rAt; rw [List.getD_eq_getElem?_getD, List.getElem?_eq_getElem h]; rfl

/-- the slice '.slice oa n cap' holds these rows -/
structure RowsAt (w : World) (oa : Option Addr) (n cap : Nat) (l : List Rw) : Prop where
  len : l.length = n
  cap_le : n ≤ cap
  cap_max : cap ≤ maxLen
  none : oa = none → cap = 0
  cells : ∃ b off, (0 < n → oa = some ⟨b, off, Option.none⟩ ∧ b < w.heap.size) ∧ ∀ i, i < n → w.cell? ⟨b, off + i * 2, Option.none⟩ = some (.string (kAt l i)) ∧ w.cell? ⟨b, off + i * 2 + 1, Option.none⟩ = some (.string (vAt l i))
  sizes : ∀ i, i < n → (kAt l i).size ≤ maxLen ∧ (vAt l i).size ≤ maxLen

theorem cells_row : Try.prog.cellsOf 35 = 2 := by kernel_rfl
/-- the address of an element, however the slice is held -/
theorem run_row {oa : Option Addr} {n b off : Nat} (cap : Nat) (ho : 0 < n → oa = some ⟨b, off, none⟩) {k : Nat} (hk : k < n) (w : World) :
    (Instr.indexAt 25 (.slice oa n cap) (.int .i64 (k : Int))).run Try.prog w = .ok (.pointer (some ⟨b, off + k * 2, none⟩)) w := by
  rw [ho (by omega)]
  go_simp
theorem run_rowI {oa : Option Addr} {n b off : Nat} (cap : Nat) (ho : 0 < n → oa = some ⟨b, off, none⟩) {k : Int} (h0 : 0 ≤ k) (hk : k < n) (w : World) :
    (Instr.indexAt 25 (.slice oa n cap) (.int .i64 k)).run Try.prog w = .ok (.pointer (some ⟨b, off + k.toNat * 2, none⟩)) w := by
  obtain ⟨m, rfl⟩ := Int.eq_ofNat_of_zero_le h0
  exact run_row cap ho (by omega) w

/-- how many rows stand ahead of a key -/
def place (key : ByteArray) : List Rw → Nat
  | [] => 0
  | r :: l => if Str.cmp (Tx r.key) (Tx key) < 0 then place key l + 1 else 0
theorem place_le (key : ByteArray) (l : List Rw) : place key l ≤ l.length := by
  induction l with
  | nil => exact Nat.le_refl _
  | cons r l ih => simp only [place]; split <;> simp <;> omega
theorem place_step {key : ByteArray} {l : List Rw} {k : Nat} (hk : k < l.length) (hp : k ≤ place key l) (h : Str.cmp (Tx (kAt l k)) (Tx key) < 0) : k + 1 ≤ place key l := by
  induction l generalizing k with
  | nil => simp at hk
  | cons r l ih =>
    cases k with
    | zero => simp only [place]; rw [if_pos (by exact h)]; omega
    | succ k =>
      simp only [place] at hp ⊢
      split
      · rename_i q
        rw [if_pos q] at hp
        have := ih (k := k) (by simpa using hk) (by omega) (by exact h)
        omega
      · rename_i q; rw [if_neg q] at hp; omega
theorem place_stop {key : ByteArray} {l : List Rw} {k : Nat} (hk : k < l.length) (hp : k ≤ place key l) (h : ¬ Str.cmp (Tx (kAt l k)) (Tx key) < 0) : place key l = k := by
  induction l generalizing k with
  | nil => simp at hk
  | cons r l ih =>
    cases k with
    | zero => simp only [place]; rw [if_neg (by exact h)]
    | succ k =>
      simp only [place] at hp ⊢
      split
      · rename_i q
        rw [if_pos q] at hp
        rw [ih (k := k) (by simpa using hk) (by omega) (by exact h)]
      · rename_i q; rw [if_neg q] at hp; omega

set_option maxRecDepth 100000 in
set_option maxHeartbeats 400000 in
theorem place_any (oa : Option Addr) (n cap : Nat) (l : List Rw) (key : ByteArray) (w : World) (h : RowsAt w oa n cap l) (hk : key.size ≤ maxLen) :
    Calls Try.prog 43 #[.slice oa n cap, .string key] w fun e w' => e = .returned (.int .i64 (place key l)) ∧ Dr w w' := by
  obtain ⟨b, off, ho, hc⟩ := h.cells
  have Hc := Lib.hid hc
  have Ho := Lib.hid (fun q => (ho q).1)
  have H := Lib.hid h
  have hn := h.cap_le
  have hm := h.cap_max
  have hpl := place_le key l
  rw [h.len] at hpl
  unfold maxLen at hm
  clear hc ho h
  go_enter Try.func43, Try.ntmps43
  go_wp2
  go_loopw [5] (fun i wr => ∃ k : Nat, k ≤ n ∧ i = .int .i64 k ∧ k ≤ place key l ∧ Dr w wr) (fun i _ => n - (intOf i).toNat)
  case atStart => exact ⟨0, Nat.zero_le _, rfl, Nat.zero_le _, Dr.refl _⟩
  case round =>
    obtain ⟨k, hk, rfl, hp, d, rfl⟩ := hrel
    by_cases hlt : k < n
    · have hk1 := (Hc.out k hlt).1
      have hs1 := (H.out.sizes k hlt).1
      have hI := run_row cap Ho.out hlt
      go_wp2_with (go_at_call 39; (with_reducible refine (compare_any _ _ _ (by assumption) (by assumption)).mono ?_); rintro e w' ⟨rfl, d, rfl⟩)
      · go_roundw
        case rel => exact ⟨k + 1, by omega, by go_num, place_step (by have := H.out.len; omega) hp (by assumption), _, rfl⟩
        case measure => simp [intOf]; omega
      · have e := place_stop (key := key) (l := l) (by have := H.out.len; omega) hp (by omega)
        go_ret
        exact ⟨by rw [e]; rfl, _, rfl⟩
    · obtain rfl : k = n := by omega
      have e : place key l = k := by omega
      have He := Lib.hid e
      clear e
      go_wp2
      go_ret
      exact ⟨by rw [He.out]; rfl, _, rfl⟩
end Go.Proofs.Ytopomocbjlikjaa

namespace Go.Proofs.Ytopomocbjlikjaa
set_option linter.unusedVariables false
open Go.BigFrame Go.RowKit

abbrev Rw.v (r : Rw) : Value := .agg #[.string r.key, .string r.val]
/-- may a row be? -/
def fitsB (r : Rw) : Bool := rightB r.key && decide (r.val.size ≤ 16)

set_option maxHeartbeats 400000 in
theorem fits_any (k v : ByteArray) (w : World) (h1 : k.size ≤ maxLen) (h2 : v.size ≤ maxLen) :
    Calls Try.prog 40 #[.agg #[.string k, .string v]] w fun e w' => e = .returned (.bool (fitsB ⟨k, v⟩)) ∧ Gr w w' := by
  unfold fitsB
  have h2' := h2
  unfold maxLen at h2'
  cases hr : rightB k
  all_goals
    go_enter Try.func40, Try.ntmps40
    go_wp2_with (go_at_call 38; (with_reducible refine (right_any _ _ (by assumption)).mono ?_); rintro e w' ⟨rfl, d, rfl⟩)
    go_ret
    refine ⟨ret_bool ?_, by repeat (first | with_reducible exact Gr.refl _ | with_reducible refine Gr.drewN ?_ _ | with_reducible refine Gr.drew ?_ | with_reducible refine Gr.alloc ?_ _ | with_reducible refine Gr.setCell ?_ ?_ _ | (with_reducible refine Gr.trans ?_ (by assumption)) | omega | (dsimp only; omega))⟩
    first | rfl | (rw [Bool.eq_iff_iff]; simp; omega)

/-- a new box of a row -/
abbrev boxW (w : World) (k v : ByteArray) : World := w.alloc (.cells #[.string k, .string v] 35)
theorem box_key (w : World) (k v : ByteArray) : (boxW w k v).cell? ⟨w.heap.size, 0, none⟩ = some (.string k) := World.cell?_alloc_new w _ _ 0
theorem box_val (w : World) (k v : ByteArray) : (boxW w k v).cell? ⟨w.heap.size, 1, none⟩ = some (.string v) := World.cell?_alloc_new w _ _ 1
theorem box_old {w : World} (k v : ByteArray) {b o : Nat} {x : Value} (h : w.cell? ⟨b, o, none⟩ = some x) : (boxW w k v).cell? ⟨b, o, none⟩ = some x := ((Gr.refl w).alloc _).keep h

/-- rows that may be: each may be, and each key stands ahead of the next one's -/
def RowsOk (l : List Rw) : Prop := ∀ i, i < l.length → fitsB (rAt l i) = true ∧ (0 < i → Str.cmp (Tx (kAt l (i - 1))) (Tx (kAt l i)) < 0)
instance (l : List Rw) : Decidable (RowsOk l) := by unfold RowsOk; infer_instance
def rowsOkB (l : List Rw) : Bool := decide (RowsOk l)
theorem rowsOkB_no {l : List Rw} {k : Nat} (hk : k < l.length) (h : fitsB (rAt l k) = false ∨ (0 < k ∧ 0 ≤ Str.cmp (Tx (kAt l (k - 1))) (Tx (kAt l k)))) : rowsOkB l = false := by
  unfold rowsOkB
  rw [decide_eq_false_iff_not]
  intro q
  obtain ⟨q1, q2⟩ := q k hk
  rcases h with h | ⟨h0, h⟩
  · rw [h] at q1; cases q1
  · have := q2 h0; omega

theorem rw_eta (l : List Rw) (k : Nat) : (⟨kAt l k, vAt l k⟩ : Rw) = rAt l k := rfl

set_option maxRecDepth 100000 in
set_option maxHeartbeats 1000000 in
theorem rowsRight_any (oa : Option Addr) (n cap : Nat) (l : List Rw) (w : World) (h : RowsAt w oa n cap l) :
    Calls Try.prog 30 #[.slice oa n cap] w fun e w' => e = .returned (.bool (rowsOkB l)) ∧ Gr w w' := by
  obtain ⟨b, off, ho, hc⟩ := h.cells
  have Hc := Lib.hid hc
  have Ho := Lib.hid (fun q => (ho q).1)
  have H := Lib.hid h
  have hn := h.cap_le
  have hm := h.cap_max
  unfold maxLen at hm
  clear hc ho h
  go_enter Try.func30, Try.ntmps30
  go_wp2
  go_loopw [7] (fun i wr => ∃ k : Nat, k ≤ n ∧ i = .int .i64 k ∧ Hid (∀ j, j < k → fitsB (rAt l j) = true ∧ (0 < j → Str.cmp (Tx (kAt l (j - 1))) (Tx (kAt l j)) < 0)) ∧ Gr w wr) (fun i _ => n - (intOf i).toNat)
  case atStart => exact ⟨0, Nat.zero_le _, rfl, Lib.hid fun j hj => by omega, Gr.refl _⟩
  case round =>
    obtain ⟨k, hk, rfl, hp, hg⟩ := hrel
    by_cases hlt : k < n
    · have hk1 := hg.keep (Hc.out k hlt).1
      have hk2 := hg.keep (Hc.out k hlt).2
      have hs1 := (H.out.sizes k hlt).1
      have hs2 := (H.out.sizes k hlt).2
      have hI := run_row cap Ho.out hlt
      have b0 := After.cell (box_key wr (kAt l k) (vAt l k))
      have b1 := After.cell (box_val wr (kAt l k) (vAt l k))
      have hF := fun w => fits_any (kAt l k) (vAt l k) w hs1 hs2
      rw [rw_eta] at hF
      by_cases hf : fitsB (rAt l k) = true
      · rw [hf] at hF
        have HF := Lib.hid hF
        have Hf := Lib.hid hf
        clear hF hf
        by_cases h0 : k = 0
        · have hk0 : decide (0 < k) = false := by simp; omega
          have H0 := Lib.hid h0
          clear h0
          go_wp2_with fail
          refine wp_region_after (by kernel_rfl) (by kernel_rfl) ?_
          repeat (go_big_quiet_step ((go_at_call 40; (with_reducible exact after_gr (HF.out _)))))
          refine wpQuiet_nil ?_
          rintro _ ⟨⟨w1, hg1⟩, rfl⟩
          go_wp2_with fail
          go_roundw
          case rel => exact ⟨k + 1, by omega, by go_num, Lib.hid fun j hj => by
            have h0 := H0.out
            obtain rfl : j = k := by omega
            exact ⟨Hf.out, fun q => absurd q (by omega)⟩, by repeat (first | with_reducible exact Gr.refl _ | with_reducible refine Gr.drewN ?_ _ | with_reducible refine Gr.drew ?_ | with_reducible refine Gr.alloc ?_ _ | with_reducible refine Gr.setCell ?_ ?_ _ | (with_reducible refine Gr.trans ?_ (by assumption)) | omega | (dsimp only; omega))⟩
          case measure => simp [intOf]; omega
        · have hk0 : decide (0 < k) = true := by simp; omega
          have hk3 := After.cell (box_old (kAt l k) (vAt l k) (hg.keep (Hc.out (k - 1) (by omega)).1))
          have hs3 := (H.out.sizes (k - 1) (by omega)).1
          have hI2 := fun w => run_rowI cap Ho.out (k := (k : Int) - 1) (by omega) (by omega) w
          have e1 : ((k : Int) - 1).toNat = k - 1 := by omega
          rw [e1] at hI2
          by_cases hc : Str.cmp (Tx (kAt l (k - 1))) (Tx (kAt l k)) < 0
          · have hc' : decide (0 ≤ Str.cmp (Tx (kAt l (k - 1))) (Tx (kAt l k))) = false := by simp; omega
            go_wp2_with fail
            refine wp_region_after (by kernel_rfl) (by kernel_rfl) ?_
            repeat (go_big_quiet_step ((first | (go_at_call 40; (with_reducible exact after_gr (HF.out _))) | (go_at_call 39; (with_reducible exact after_dr (compare_any _ _ _ (by assumption) (by assumption)))))))
            refine wpQuiet_nil ?_
            rintro _ ⟨⟨w1, hg1⟩, rfl⟩
            go_wp2_with fail
            go_roundw
            case rel => exact ⟨k + 1, by omega, by go_num, Lib.hid fun j hj => by
              rcases Nat.lt_or_ge j k with q | q
              · exact hp.out j q
              · obtain rfl : j = k := by omega
                exact ⟨Hf.out, fun _ => hc⟩, by repeat (first | with_reducible exact Gr.refl _ | with_reducible refine Gr.drewN ?_ _ | with_reducible refine Gr.drew ?_ | with_reducible refine Gr.alloc ?_ _ | with_reducible refine Gr.setCell ?_ ?_ _ | (with_reducible refine Gr.trans ?_ (by assumption)) | omega | (dsimp only; omega))⟩
            case measure => simp [intOf]; omega
          · have hc' : decide (0 ≤ Str.cmp (Tx (kAt l (k - 1))) (Tx (kAt l k))) = true := by simp; omega
            have e := Lib.hid (rowsOkB_no (by rw [H.out.len]; exact hlt) (.inr ⟨by omega, by omega⟩))
            go_wp2_with fail
            refine wp_region_after (by kernel_rfl) (by kernel_rfl) ?_
            repeat (go_big_quiet_step ((first | (go_at_call 40; (with_reducible exact after_gr (HF.out _))) | (go_at_call 39; (with_reducible exact after_dr (compare_any _ _ _ (by assumption) (by assumption)))))))
            refine wpQuiet_nil ?_
            rintro _ ⟨⟨w1, hg1⟩, rfl⟩
            go_wp2_with fail
            go_ret
            exact ⟨by rw [e.out]; rfl, by repeat (first | with_reducible exact Gr.refl _ | with_reducible refine Gr.drewN ?_ _ | with_reducible refine Gr.drew ?_ | with_reducible refine Gr.alloc ?_ _ | with_reducible refine Gr.setCell ?_ ?_ _ | (with_reducible refine Gr.trans ?_ (by assumption)) | omega | (dsimp only; omega))⟩
      · have hf' : fitsB (rAt l k) = false := by simpa using hf
        rw [hf'] at hF
        have HF := Lib.hid hF
        have e := Lib.hid (rowsOkB_no (by rw [H.out.len]; exact hlt) (.inl hf'))
        clear hF hf hf'
        go_wp2_with fail
        refine wp_region_after (by kernel_rfl) (by kernel_rfl) ?_
        repeat (go_big_quiet_step ((go_at_call 40; (with_reducible exact after_gr (HF.out _)))))
        refine wpQuiet_nil ?_
        rintro _ ⟨⟨w1, hg1⟩, rfl⟩
        go_wp2_with fail
        go_ret
        exact ⟨by rw [e.out]; rfl, by repeat (first | with_reducible exact Gr.refl _ | with_reducible refine Gr.drewN ?_ _ | with_reducible refine Gr.drew ?_ | with_reducible refine Gr.alloc ?_ _ | with_reducible refine Gr.setCell ?_ ?_ _ | (with_reducible refine Gr.trans ?_ (by assumption)) | omega | (dsimp only; omega))⟩
    · obtain rfl : k = n := by omega
      have e : rowsOkB l = true := by
        unfold rowsOkB
        rw [decide_eq_true_iff]
        intro j hj
        exact hp.out j (by rw [H.out.len] at hj; exact hj)
      have He := Lib.hid e
      clear e
      go_wp2
      go_ret
      exact ⟨by rw [He.out]; rfl, by repeat (first | with_reducible exact Gr.refl _ | with_reducible refine Gr.drewN ?_ _ | with_reducible refine Gr.drew ?_ | with_reducible refine Gr.alloc ?_ _ | with_reducible refine Gr.setCell ?_ ?_ _ | (with_reducible refine Gr.trans ?_ (by assumption)) | omega | (dsimp only; omega))⟩
end Go.Proofs.Ytopomocbjlikjaa

namespace Go.Proofs.Ytopomocbjlikjaa
set_option linter.unusedVariables false
open Go.BigFrame Go.RowKit Go.WideShapes

theorem neL {x y : ByteArray} (h : x ≠ y) : (x.toList == y.toList) = false := by
  rw [beq_eq_false_iff_ne, toList_tx, toList_tx]
  exact fun e => h (bytes_inj e)
theorem eqL {x y : ByteArray} (h : x = y) : (x.toList == y.toList) = true := by rw [h]; simp

/-- does a key stand among the rows, at its place? -/
def hasB (key : ByteArray) (l : List Rw) : Bool := decide (place key l < l.length ∧ kAt l (place key l) = key)

set_option maxRecDepth 100000 in
set_option maxHeartbeats 1000000 in
theorem find_any (oa : Option Addr) (n cap : Nat) (l : List Rw) (key : ByteArray) (w : World) (h : RowsAt w oa n cap l) (hk : key.size ≤ maxLen) :
    Calls Try.prog 34 #[.slice oa n cap, .string key] w fun e w' => e = .returned (.tuple #[.int .i64 (place key l), .bool (hasB key l)]) ∧ Dr w w' := by
  have hP := Lib.hid (place_any oa n cap l key w h hk)
  have hle := place_le key l
  rw [h.len] at hle
  have hB0 : hasB key l = decide (place key l < l.length ∧ kAt l (place key l) = key) := rfl
  have hB := Lib.hid hB0
  clear hB0
  obtain ⟨b1, off1, ho1, hc1⟩ := h.cells
  have Hc1 := Lib.hid hc1
  have Ho1 := Lib.hid (fun q => (ho1 q).1)
  have H1 := Lib.hid h
  have hn1 := h.cap_le
  have hm1 := h.cap_max
  unfold maxLen at hm1
  clear hc1 ho1 h
  generalize place key l = p at *
  by_cases hlt : p < n
  · have hk1 := (Hc1.out p hlt).1
    have hI := run_row cap Ho1.out hlt
    have hd : decide (p < n) = true := by simp; omega
    by_cases he : kAt l p = key
    · have hf := eqL he
      have e : hasB key l = true := by rw [hB.out, decide_eq_true_iff, H1.out.len]; exact ⟨hlt, he⟩
      have E := Lib.hid e
      clear he e
      go_enter Try.func34, Try.ntmps34
      go_wp2_with (go_at_call 43; refine hP.out.mono ?_; rintro e w' ⟨rfl, d, rfl⟩)
      go_big_quiet (fail)
      go_wp2
      go_ret2
      exact ⟨by rw [E.out]; rfl, by repeat (first | with_reducible exact Dr.refl _ | with_reducible refine Dr.step ?_ _ | with_reducible refine Dr.drew ?_ | (with_reducible refine Dr.trans ?_ (by assumption)))⟩
    · have hf := neL he
      have e : hasB key l = false := by rw [hB.out, decide_eq_false_iff_not]; exact fun q => he q.2
      have E := Lib.hid e
      clear he e
      go_enter Try.func34, Try.ntmps34
      go_wp2_with (go_at_call 43; refine hP.out.mono ?_; rintro e w' ⟨rfl, d, rfl⟩)
      go_big_quiet (fail)
      go_wp2
      go_ret2
      exact ⟨by rw [E.out]; rfl, by repeat (first | with_reducible exact Dr.refl _ | with_reducible refine Dr.step ?_ _ | with_reducible refine Dr.drew ?_ | (with_reducible refine Dr.trans ?_ (by assumption)))⟩
  · have hd : decide (p < n) = false := by simp; omega
    have e : hasB key l = false := by rw [hB.out, decide_eq_false_iff_not, H1.out.len]; exact fun q => hlt q.1
    have E := Lib.hid e
    clear e
    go_enter Try.func34, Try.ntmps34
    go_wp2_with (go_at_call 43; refine hP.out.mono ?_; rintro e w' ⟨rfl, d, rfl⟩)
    go_big_quiet (fail)
    go_wp2
    go_ret2
    exact ⟨by rw [E.out]; rfl, by repeat (first | with_reducible exact Dr.refl _ | with_reducible refine Dr.step ?_ _ | with_reducible refine Dr.drew ?_ | (with_reducible refine Dr.trans ?_ (by assumption)))⟩

theorem place_step' {key : ByteArray} {l : List Rw} {k : Nat} (hk : k < l.length) (hp : k ≤ place key l) (h : Str.before (Tx (kAt l k)) (Tx key) = true) : k + 1 ≤ place key l :=
  place_step hk hp (Str.cmp_neg_iff.2 h)
theorem place_stop' {key : ByteArray} {l : List Rw} {k : Nat} (hk : k < l.length) (hp : k ≤ place key l) (h : ¬ Str.before (Tx (kAt l k)) (Tx key) = true) : place key l = k :=
  place_stop hk hp (fun q => h (Str.cmp_neg_iff.1 q))

set_option maxRecDepth 100000 in
set_option maxHeartbeats 1000000 in
theorem refFind_any (oa : Option Addr) (n cap : Nat) (l : List Rw) (key : ByteArray) (w : World) (h : RowsAt w oa n cap l) (hk : key.size ≤ maxLen) :
    Calls Try.prog 8 #[.slice oa n cap, .string key] w fun e w' => e = .returned (.tuple #[.int .i64 (place key l), .bool (hasB key l)]) ∧ Dr w w' := by
  have hpl := place_le key l
  rw [h.len] at hpl
  obtain ⟨b1, off1, ho1, hc1⟩ := h.cells
  have Hc1 := Lib.hid hc1
  have Ho1 := Lib.hid (fun q => (ho1 q).1)
  have H1 := Lib.hid h
  have hn1 := h.cap_le
  have hm1 := h.cap_max
  unfold maxLen at hm1
  clear hc1 ho1 h
  go_enter Try.func8, Try.ntmps8
  go_wp2
  go_loopw [6] (fun i wr => ∃ k : Nat, k ≤ n ∧ i = .int .i64 k ∧ k ≤ place key l ∧ Dr w wr) (fun i _ => n - (intOf i).toNat)
  case atStart => exact ⟨0, Nat.zero_le _, rfl, Nat.zero_le _, Dr.refl _⟩
  case round =>
    obtain ⟨k, hk2, rfl, hp, d, rfl⟩ := hrel
    by_cases hlt : k < n
    · have hk1 := (Hc1.out k hlt).1
      have hs1 := (H1.out.sizes k hlt).1
      have hI := run_row cap Ho1.out hlt
      by_cases hb : Str.before (Tx (kAt l k)) (Tx key) = true
      · go_wp2_with (go_at_call 18; (with_reducible refine (before_any _ _ _ (by assumption) (by assumption)).mono ?_); rintro e w' ⟨rfl, d, rfl⟩)
        go_roundw
        case rel => exact ⟨k + 1, by omega, by go_num, place_step' (by have := H1.out.len; omega) hp hb, by repeat (first | with_reducible exact Dr.refl _ | with_reducible refine Dr.step ?_ _ | with_reducible refine Dr.drew ?_ | (with_reducible refine Dr.trans ?_ (by assumption)))⟩
        case measure => simp [intOf]; omega
      · have hb' : Str.before (Tx (kAt l k)) (Tx key) = false := by simpa using hb
        have e := place_stop' (key := key) (l := l) (by have := H1.out.len; omega) hp hb
        by_cases he : kAt l k = key
        · have hf := eqL he
          have e2 : hasB key l = true := by unfold hasB; rw [decide_eq_true_iff, e, H1.out.len]; exact ⟨hlt, he⟩
          have E := Lib.hid e
          have E2 := Lib.hid e2
          clear e e2 he hb
          go_wp2_with (go_at_call 18; (with_reducible refine (before_any _ _ _ (by assumption) (by assumption)).mono ?_); rintro e w' ⟨rfl, d, rfl⟩)
          go_big_quiet (fail)
          go_wp2
          go_ret2
          exact ⟨by rw [E.out, E2.out]; rfl, by repeat (first | with_reducible exact Dr.refl _ | with_reducible refine Dr.step ?_ _ | with_reducible refine Dr.drew ?_ | (with_reducible refine Dr.trans ?_ (by assumption)))⟩
        · have hf := neL he
          have e2 : hasB key l = false := by unfold hasB; rw [decide_eq_false_iff_not, e]; exact fun q => he q.2
          have E := Lib.hid e
          have E2 := Lib.hid e2
          clear e e2 he hb
          go_wp2_with (go_at_call 18; (with_reducible refine (before_any _ _ _ (by assumption) (by assumption)).mono ?_); rintro e w' ⟨rfl, d, rfl⟩)
          go_big_quiet (fail)
          go_wp2
          go_ret2
          exact ⟨by rw [E.out, E2.out]; rfl, by repeat (first | with_reducible exact Dr.refl _ | with_reducible refine Dr.step ?_ _ | with_reducible refine Dr.drew ?_ | (with_reducible refine Dr.trans ?_ (by assumption)))⟩
    · obtain rfl : k = n := by omega
      have e : place key l = k := by omega
      have e2 : hasB key l = false := by unfold hasB; rw [decide_eq_false_iff_not, e, H1.out.len]; exact fun q => hlt q.1
      have E := Lib.hid e
      have E2 := Lib.hid e2
      clear e e2
      go_wp2
      go_ret2
      exact ⟨by rw [E.out, E2.out]; rfl, by repeat (first | with_reducible exact Dr.refl _ | with_reducible refine Dr.step ?_ _ | with_reducible refine Dr.drew ?_ | (with_reducible refine Dr.trans ?_ (by assumption)))⟩

theorem rows_ext {a b : List Rw} (hl : a.length = b.length) (h : ∀ i, i < a.length → kAt a i = kAt b i ∧ vAt a i = vAt b i) : a = b := by
  apply List.ext_getElem hl
  intro i h1 h2
  have := h i h1
  unfold kAt vAt at this
  rw [rAt_lt h1, rAt_lt h2] at this
  cases ha : a[i]; cases hb : b[i]
  rw [ha, hb] at this
  simp only at this
  rw [this.1, this.2]

end Go.Proofs.Ytopomocbjlikjaa

namespace Go.Proofs.Ytopomocbjlikjaa
set_option linter.unusedVariables false
open Go.BigFrame Go.RowKit Go.WideShapes

set_option maxHeartbeats 400000 in
theorem refFits_any (k v : ByteArray) (w : World) (h1 : k.size ≤ maxLen) (h2 : v.size ≤ maxLen) :
    Calls Try.prog 16 #[.agg #[.string k, .string v]] w fun e w' => e = .returned (.bool (fitsB ⟨k, v⟩)) ∧ Gr w w' := by
  unfold fitsB
  have h2' := h2
  unfold maxLen at h2'
  cases hr : rightB k
  all_goals
    go_enter Try.func16, Try.ntmps16
    go_wp2_with (go_at_call 17; (with_reducible refine (refRight_any _ _ (by assumption)).mono ?_); rintro e w' ⟨rfl, d, rfl⟩)
    go_ret
    refine ⟨ret_bool ?_, by repeat (first | with_reducible exact Gr.refl _ | with_reducible refine Gr.drewN ?_ _ | with_reducible refine Gr.drew ?_ | with_reducible refine Gr.alloc ?_ _ | with_reducible refine Gr.setCell ?_ ?_ _ | (with_reducible refine Gr.trans ?_ (by assumption)) | omega | (dsimp only; omega))⟩
    first | rfl | (rw [Bool.eq_iff_iff]; simp; omega)


set_option maxRecDepth 100000 in
set_option maxHeartbeats 2000000 in
theorem rowsSame_any (oa oc : Option Addr) (n cap m cap2 : Nat) (a c : List Rw) (w : World) (h : RowsAt w oa n cap a) (k : RowsAt w oc m cap2 c) :
    Calls Try.prog 32 #[.slice oa n cap, .slice oc m cap2] w fun e w' => e = .returned (.bool (decide (a = c))) ∧ Dr w w' := by
  obtain ⟨b1, off1, ho1, hc1⟩ := h.cells
  have Hc1 := Lib.hid hc1
  have Ho1 := Lib.hid (fun q => (ho1 q).1)
  have H1 := Lib.hid h
  have hn1 := h.cap_le
  have hm1 := h.cap_max
  unfold maxLen at hm1
  clear hc1 ho1 h
  obtain ⟨b2, off2, ho2, hc2⟩ := k.cells
  have Hc2 := Lib.hid hc2
  have Ho2 := Lib.hid (fun q => (ho2 q).1)
  have H2 := Lib.hid k
  have hn2 := k.cap_le
  have hm2 := k.cap_max
  unfold maxLen at hm2
  clear hc2 ho2 k
  by_cases hnm : n = m
  · subst hnm
    go_enter Try.func32, Try.ntmps32
    go_wp2
    go_loopw [13] (fun i wr => ∃ k : Nat, k ≤ n ∧ i = .int .i64 k ∧ Hid (∀ j, j < k → kAt a j = kAt c j ∧ vAt a j = vAt c j) ∧ Dr w wr) (fun i _ => n - (intOf i).toNat)
    case atStart => exact ⟨0, Nat.zero_le _, rfl, Lib.hid fun j hj => by omega, Dr.refl _⟩
    case round =>
      obtain ⟨k, hk2, rfl, hp, d, rfl⟩ := hrel
      by_cases hlt : k < n
      · have g1 := (Hc1.out k hlt).1
        have g2 := (Hc1.out k hlt).2
        have g3 := (Hc2.out k hlt).1
        have g4 := (Hc2.out k hlt).2
        have hI1 := run_row cap Ho1.out hlt
        have hI2 := run_row cap2 Ho2.out hlt
        by_cases hkey : kAt a k = kAt c k
        · by_cases hval : vAt a k = vAt c k
          · have f1 := eqL hkey
            have f2 := eqL hval
            have HK := Lib.hid hkey
            have HV := Lib.hid hval
            clear hkey hval
            go_wp2
            go_big_quiet (fail)
            go_wp2
            go_roundw
            case rel => exact ⟨k + 1, by omega, by go_num, Lib.hid fun j hj => by
              rcases Nat.lt_or_ge j k with q | q
              · exact hp.out j q
              · obtain rfl : j = k := by omega
                exact ⟨HK.out, HV.out⟩, ⟨_, rfl⟩⟩
            case measure => simp [intOf]; omega
          · have f1 := eqL hkey
            have f2 := neL hval
            have e := Lib.hid (decide_eq_false (fun q : a = c => hval (by rw [q])))
            clear hkey hval
            go_wp2
            go_big_quiet (fail)
            go_wp2
            go_ret
            exact ⟨by rw [e.out]; rfl, by repeat (first | with_reducible exact Dr.refl _ | with_reducible refine Dr.step ?_ _ | with_reducible refine Dr.drew ?_ | (with_reducible refine Dr.trans ?_ (by assumption)))⟩
        · have f1 := neL hkey
          have e := Lib.hid (decide_eq_false (fun q : a = c => hkey (by rw [q])))
          clear hkey
          go_wp2
          go_big_quiet (fail)
          go_wp2
          go_ret
          exact ⟨by rw [e.out]; rfl, by repeat (first | with_reducible exact Dr.refl _ | with_reducible refine Dr.step ?_ _ | with_reducible refine Dr.drew ?_ | (with_reducible refine Dr.trans ?_ (by assumption)))⟩
      · obtain rfl : k = n := by omega
        have e := Lib.hid (decide_eq_true (rows_ext (by rw [H1.out.len, H2.out.len]) (fun j hj => hp.out j (by rw [H1.out.len] at hj; exact hj))))
        go_wp2
        go_ret
        exact ⟨by rw [e.out]; rfl, ⟨_, rfl⟩⟩
  · have e := Lib.hid (decide_eq_false (fun q : a = c => hnm (by rw [← H1.out.len, ← H2.out.len, q])))
    go_enter Try.func32, Try.ntmps32
    go_wp2
    go_ret
    exact ⟨by rw [e.out]; rfl, Dr.refl _⟩
end Go.Proofs.Ytopomocbjlikjaa

namespace Go.Proofs.Ytopomocbjlikjaa
set_option linter.unusedVariables false
open Go.BigFrame Go.RowKit Go.WideShapes

/-- the cells of rows -/
def flat : List Rw → List Value
  | [] => []
  | r :: l => .string r.key :: .string r.val :: flat l
theorem flat_append (a b : List Rw) : flat (a ++ b) = flat a ++ flat b := by
  induction a with
  | nil => rfl
  | cons r a ih => simp [flat, ih]
theorem flat_length (l : List Rw) : (flat l).length = l.length * 2 := by
  induction l with
  | nil => rfl
  | cons r l ih => simp [flat, ih]; omega
theorem flat_get (l : List Rw) (i : Nat) (h : i < l.length) : (flat l)[i * 2]? = some (.string (kAt l i)) ∧ (flat l)[i * 2 + 1]? = some (.string (vAt l i)) := by
  induction l generalizing i with
  | nil => simp at h
  | cons r l ih =>
    cases i with
    | zero => exact ⟨rfl, rfl⟩
    | succ i =>
      have := ih i (by simpa using h)
      rw [show (i + 1) * 2 = i * 2 + 1 + 1 by omega]
      exact this
theorem flat_one {l : List Rw} : ∀ u ∈ flat l, u.oneCell' = true := by
  induction l with
  | nil => intro u hu; cases hu
  | cons r l ih =>
    intro u hu
    simp only [flat, List.mem_cons] at hu
    rcases hu with rfl | rfl | hu
    · rfl
    · rfl
    · exact ih u hu
theorem flat_cell {w : World} {b off n : Nat} {l : List Rw} (hl : l.length = n) (hc : ∀ i, i < n → w.cell? ⟨b, off + i * 2, none⟩ = some (.string (kAt l i)) ∧ w.cell? ⟨b, off + i * 2 + 1, none⟩ = some (.string (vAt l i))) :
    ∀ j u, (flat l)[j]? = some u → w.cell? ((⟨b, off, none⟩ : Addr).add j) = some u := by
  intro j u hj
  have hjl : j < (flat l).length := by
    rcases Nat.lt_or_ge j (flat l).length with h | h
    · exact h
    · rw [List.getElem?_eq_none h] at hj; cases hj
  rw [flat_length, hl] at hjl
  have ha : (⟨b, off, none⟩ : Addr).add j = ⟨b, off + j, none⟩ := by unfold Addr.add; split <;> simp_all
  rw [ha]
  have hi : j / 2 < l.length := by omega
  have hg := flat_get l (j / 2) hi
  have hc' := hc (j / 2) (by omega)
  rcases Nat.mod_two_eq_zero_or_one j with h | h
  · have e : j / 2 * 2 = j := by omega
    rw [e] at hg hc'
    rw [hj] at hg
    rw [hc'.1]; exact hg.1.symm
  · have e : j / 2 * 2 + 1 = j := by omega
    have e2 : off + j / 2 * 2 + 1 = off + j := by omega
    rw [e] at hg
    rw [e2] at hc'
    rw [hj] at hg
    rw [hc'.2]; exact hg.2.symm

/-- the slice value is of the call's own, from block base on, and holds these rows -/
structure OwnAt (w : World) (base : Nat) (oa : Option Addr) (n cap : Nat) (l : List Rw) : Prop where
  own : w.ownsRow base 35 2 (.slice oa n cap) n (flat l)
  rows : RowsAt w oa n cap l

theorem ownAt_of {w : World} {base : Nat} {v : Value} {n : Nat} {l : List Rw} (hl : l.length = n) (h : w.ownsRow base 35 2 v n (flat l)) (hs : ∀ i, i < n → (kAt l i).size ≤ maxLen ∧ (vAt l i).size ≤ maxLen) :
    ∃ oa cap, v = .slice oa n cap ∧ OwnAt w base oa n cap l := by
  have h' := h
  obtain ⟨h1, h2⟩ := h
  rcases h2 with ⟨rfl, rfl⟩ | ⟨g, cap, cur, rfl, hb, hg, hnc, hm, hsz, ht⟩
  · exact ⟨none, 0, rfl, h', ⟨hl, Nat.le_refl _, Nat.zero_le _, fun _ => rfl, ⟨0, 0, fun q => absurd q (by omega), fun i hi => absurd hi (by omega)⟩, hs⟩⟩
  · refine ⟨some ⟨g, 0, none⟩, cap, rfl, h', ⟨hl, hnc, hm, fun q => (by cases q), ⟨g, 0, fun q => ⟨rfl, ?_⟩, fun i hi => ?_⟩, hs⟩⟩
    · rcases Nat.lt_or_ge g w.heap.size with q | q
      · exact q
      · rw [Array.getElem?_eq_none q] at hg; cases hg
    · have hcell : ∀ j, w.cell? ⟨g, j, none⟩ = cur[j]? := by intro j; unfold World.cell?; rw [hg]; simp
      have hf := flat_get l i (by omega)
      have hlt : i * 2 + 1 < n * 2 := by omega
      rw [← ht] at hf
      rw [Nat.zero_add, hcell, hcell]
      rw [List.getElem?_take_of_lt (by omega), List.getElem?_take_of_lt (by omega)] at hf
      simpa using hf

theorem row_info : (Try.prog.info? 35).map (fun i => (i.zero, i.size, i.bytes)) = some (some (.agg #[.string ⟨#[]⟩, .string ⟨#[]⟩]), 2, 32) := by kernel_rfl

theorem rAt_append_left {a b : List Rw} {i : Nat} (h : i < a.length) : rAt (a ++ b) i = rAt a i := by
  unfold rAt; rw [List.getD_eq_getElem?_getD, List.getD_eq_getElem?_getD, List.getElem?_append_left h]
theorem rAt_append_right {a b : List Rw} {i : Nat} (h : a.length ≤ i) : rAt (a ++ b) i = rAt b (i - a.length) := by
  unfold rAt; rw [List.getD_eq_getElem?_getD, List.getD_eq_getElem?_getD, List.getElem?_append_right h]
/-- no text of these is longer than may be -/
def Sized (l : List Rw) : Prop := ∀ i, i < l.length → (kAt l i).size ≤ maxLen ∧ (vAt l i).size ≤ maxLen
theorem Sized.append {a b : List Rw} (ha : Sized a) (hb : Sized b) : Sized (a ++ b) := by
  intro i hi
  unfold kAt vAt
  rcases Nat.lt_or_ge i a.length with h | h
  · rw [rAt_append_left h]; exact ha i h
  · rw [rAt_append_right h]; exact hb (i - a.length) (by simp at hi; omega)
theorem RowsAt.sized {w : World} {oa : Option Addr} {n cap : Nat} {l : List Rw} (h : RowsAt w oa n cap l) : Sized l := fun i hi => h.sizes i (by rw [← h.len]; exact hi)
theorem RowsAt.keep {w w' : World} {oa : Option Addr} {n cap : Nat} {l : List Rw} (h : RowsAt w oa n cap l) (hg : Gr w w') : RowsAt w' oa n cap l := by
  obtain ⟨h1, h2, h3, h4, ⟨b, off, h5, h6⟩, h7⟩ := h
  exact ⟨h1, h2, h3, h4, ⟨b, off, fun q => ⟨(h5 q).1, Nat.lt_of_lt_of_le (h5 q).2 hg.le⟩, fun i hi => ⟨hg.keep (h6 i hi).1, hg.keep (h6 i hi).2⟩⟩, h7⟩

/-- append(own, rows...): whatever the rows lie in -/
theorem wpList_append_rows {w : World} {ops : Array Oper} {rest : List Oper} {o : Oper} {a : Act} {Q : Exit → Act → World → Prop} (hgd : o.guard = none) (s x : Operand)
    (ho : o.op = .call { callee := .builtin .append, args := #[s, x], argTypes := #[25, 25] })
    {base : Nat} {oa : Option Addr} {n cap : Nat} {l : List Rw} (hs : a.eval s = .slice oa n cap) (hown : OwnAt w base oa n cap l)
    {ob : Option Addr} {m cap2 : Nat} {k : List Rw} (hx : a.eval x = .slice ob m cap2) (hrows : RowsAt w ob m cap2 k) (hsz : n + m ≤ 1099511627776) (hbase : base ≤ w.heap.size)
    (h : ∀ oc cap3 w', OwnAt w' base oc (n + m) cap3 (l ++ k) → w.grownBy w' (Value.ownBlock (.slice oa n cap)) → wpList Try.prog ops Q rest (a.put o.dst (.slice oc (n + m) cap3)) w') : wpList Try.prog ops Q (o :: rest) a w := by
  obtain ⟨i, hi, hz, hsi, hby⟩ := info_parts row_info
  obtain ⟨b, off, hb, hc⟩ := hrows.cells
  have hszd := hown.rows.sized.append hrows.sized
  have hll : (l ++ k).length = n + m := by rw [List.length_append, hown.rows.len, hrows.len]
  have main : ∀ ad, ob = some ad → (∀ j u, (flat k)[j]? = some u → w.cell? (ad.add j) = some u) → wpList Try.prog ops Q (o :: rest) a w := by
    rintro ad rfl hnews
    refine wpList_append_own w hgd s x 25 ho base 35 i _ 2 32 Try.underlying25 hi hz hsi hby rfl (by decide) _ n (flat l) hs hown.own ad m cap2 (flat k) hx (by rw [flat_length, hrows.len]) hnews flat_one
      (by unfold maxLen; omega) (by omega) hbase ?_
    intro v' w' hown' hg _
    rw [← flat_append] at hown'
    obtain ⟨oc, cap3, rfl, ho'⟩ := ownAt_of hll hown' (fun j hj => hszd j (by rw [hll]; exact hj))
    exact h oc cap3 w' ho' hg
  cases hob : ob with
  | none =>
    subst hob
    have hm : m = 0 := by
      have := hrows.none rfl
      have := hrows.cap_le
      omega
    have hcap2 := hrows.none rfl
    subst hm
    subst hcap2
    have hk : k = [] := List.length_eq_zero_iff.1 hrows.len
    subst hk
    refine wpList_append_own_none hgd s x 25 ho base 35 i 2 Try.underlying25 hi _ n (flat l) hs hown.own hx ?_
    have := h oa cap w (by simpa using hown) ⟨rfl, rfl, rfl, Nat.le_refl _, fun _ _ _ => rfl⟩
    simpa using this
  | some ad =>
    rcases Nat.eq_zero_or_pos m with hm | hm
    · have hk : k = [] := List.length_eq_zero_iff.1 (by rw [hrows.len, hm])
      exact main ad hob (fun j u hj => by rw [hk] at hj; simp [flat] at hj)
    · have e := (hb hm).1
      rw [hob] at e
      obtain rfl : ad = ⟨b, off, none⟩ := by simpa using e
      exact main _ hob (flat_cell hrows.len hc)
end Go.Proofs.Ytopomocbjlikjaa

namespace Go.Proofs.Ytopomocbjlikjaa
set_option linter.unusedVariables false
open Go.BigFrame Go.RowKit Go.WideShapes

structure Part where
  oa : Option Addr
  n : Nat
  cap : Nat
  l : List Rw
def pAt (ps : List Part) (i : Nat) : Part := ps.getD i ⟨none, 0, 0, []⟩
def upto (ps : List Part) (k : Nat) : List Rw := ((ps.take k).map Part.l).flatten
theorem upto_succ {ps : List Part} {k : Nat} (h : k < ps.length) : upto ps (k + 1) = upto ps k ++ (pAt ps k).l := by
  unfold upto pAt
  rw [List.take_succ_eq_append_getElem h, List.map_append, List.flatten_append, List.getD_eq_getElem?_getD, List.getElem?_eq_getElem h]
  simp
theorem upto_all (ps : List Part) : upto ps ps.length = (ps.map Part.l).flatten := by unfold upto; rw [List.take_length]
theorem upto_le (ps : List Part) (k : Nat) : (upto ps k).length ≤ (upto ps ps.length).length := by
  unfold upto
  rw [List.take_length]
  conv => rhs; rw [← List.take_append_drop k ps]
  rw [List.map_append, List.flatten_append, List.length_append]; omega
structure PartsAt (w : World) (bp : Nat) (ps : List Part) : Prop where
  cell : ∀ i, i < ps.length → w.cell? ⟨bp, i, Option.none⟩ = some (.slice (pAt ps i).oa (pAt ps i).n (pAt ps i).cap)
  rows : ∀ i, i < ps.length → RowsAt w (pAt ps i).oa (pAt ps i).n (pAt ps i).cap (pAt ps i).l

/-- a call hands back a new slice of these rows -/
def NewRows (w : World) (l : List Rw) (e : Ending) (w' : World) : Prop := ∃ oa cap, e = .returned (.slice oa l.length cap) ∧ OwnAt w' w.heap.size oa l.length cap l ∧ Gr w w'

theorem own_nil (w : World) (base : Nat) : OwnAt w base none 0 0 [] :=
  ⟨World.ownsRow_nil _ _ _ _, ⟨rfl, Nat.le_refl _, Nat.zero_le _, fun _ => rfl, ⟨0, 0, fun q => absurd q (by omega), fun i hi => absurd hi (by omega)⟩, fun i hi => absurd hi (by omega)⟩⟩

set_option maxRecDepth 100000 in
set_option maxHeartbeats 1000000 in
theorem list_any (bp n : Nat) (ps : List Part) (w : World) (hn : n = ps.length) (hn8 : n ≤ 8) (h : PartsAt w bp ps) (hsz : (upto ps ps.length).length ≤ 1099511627776) :
    Calls Try.prog 48 #[.slice (some ⟨bp, 0, none⟩) n n] w (NewRows w (upto ps ps.length)) := by
  have HN := Lib.hid hn
  have H := Lib.hid h
  have HS := Lib.hid hsz
  clear hn h hsz
  go_enter Try.func48, Try.ntmps48
  go_wp2
  go_loopw [3, 8] (fun out i wr => ∃ k : Nat, k ≤ n ∧ i = .int .i64 k ∧ Gr w wr ∧ ∃ oc m cap3, out = .slice oc m cap3 ∧ m = (upto ps k).length ∧ OwnAt wr w.heap.size oc m cap3 (upto ps k)) (fun _ i _ => n - (intOf i).toNat)
  case atStart => exact ⟨0, Nat.zero_le _, rfl, Gr.refl _, none, 0, 0, rfl, rfl, own_nil _ _⟩
  case round =>
    obtain ⟨k, hk, rfl, hg, oc, m, cap3, rfl, hm, hown⟩ := hrel
    have Hm := Lib.hid hm
    clear hm
    by_cases hlt : k < n
    · have hlen : k < ps.length := by have := HN.out; omega
      have hcell := hg.keep (H.out.cell k hlen)
      have hrows := (H.out.rows k hlen).keep hg
      have hs := upto_succ hlen
      have hle := upto_le ps (k + 1)
      have hsz : m + (pAt ps k).n ≤ 1099511627776 := by
        rw [hs, List.length_append, hrows.len, ← Hm.out] at hle
        have := HS.out; omega
      have hbase := hg.le
      have Hs := Lib.hid hs
      have Hr := Lib.hid hrows
      have Ho := Lib.hid hown
      clear hs hle hrows hown
      generalize pAt ps k = p at *
      go_wp2_with (at_builtin; refine wpList_append_rows rfl _ _ rfl rfl Ho.out rfl Hr.out hsz hbase ?_; intro oc' cap' w1 hown1 hg1)
      have HO1 := Lib.hid hown1
      have hgr : Gr w w1 := Below.grown hg hg1 hbase (fun q hq => (Ho.out.own.lt q hq).1)
      clear hown1 hg1
      go_wp2
      go_roundw
      case rel => exact ⟨k + 1, by omega, by go_num, hgr, _, _, _, rfl, by rw [Hs.out, List.length_append, ← Hm.out, Hr.out.len], by rw [Hs.out]; exact HO1.out⟩
      case measure => simp [intOf]; omega
    · have hkn : k = ps.length := by have := HN.out; omega
      have HK := Lib.hid hkn
      clear hkn
      go_wp2
      go_ret
      have e := HK.out
      subst e
      have e2 := Hm.out
      subst e2
      exact ⟨oc, cap3, rfl, hown, hg⟩
end Go.Proofs.Ytopomocbjlikjaa
