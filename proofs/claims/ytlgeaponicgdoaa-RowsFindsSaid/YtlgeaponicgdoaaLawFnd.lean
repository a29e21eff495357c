import Derived.Test.YtlgeaponicgdoaaFe2
import Derived.Test.YtlgeaponicgdoaaAw
import Derived.Test.YtlgeaponicgdoaaOw2
namespace Go.Proofs.Ytlgeaponicgdoaa
set_option linter.unusedVariables false
set_option linter.unusedSimpArgs false
open Go.BigFrame Go.RowKit Go.WideShapes

theorem key_max {k : ByteArray} (h : k.size ≤ 100) : k.size ≤ maxLen := by unfold maxLen; omega

/-- a row with a longer key -/
def longer (x : ByteArray) (r : Rw) : Rw := ⟨r.key ++ x, r.val⟩
/-- rows of which the first k have longer keys -/
def xs (x : ByteArray) (k : Nat) (l : List Rw) : List Rw := (l.take k).map (longer x) ++ l.drop k
/-- what is put behind each key -/
abbrev X : ByteArray := ⟨#[120]⟩
theorem xs_zero (x : ByteArray) (l : List Rw) : xs x 0 l = l := by simp [xs]
theorem xs_all (x : ByteArray) (l : List Rw) : xs x l.length l = l.map (longer x) := by simp [xs]
theorem xs_length (x : ByteArray) {k : Nat} {l : List Rw} (h : k ≤ l.length) : (xs x k l).length = l.length := by simp [xs]; omega
theorem xs_low {x : ByteArray} {k i : Nat} {l : List Rw} (h : i < k) (hk : k ≤ l.length) : rAt (xs x k l) i = longer x (rAt l i) := by
  rw [rAt_lt (by rw [xs_length x hk]; omega), rAt_lt (by omega)]
  unfold xs
  rw [List.getElem_append_left (by simp; omega)]
  simp
theorem xs_high {x : ByteArray} {k i : Nat} {l : List Rw} (h : k ≤ i) (hk : i < l.length) : rAt (xs x k l) i = rAt l i := by
  rw [rAt_lt (by rw [xs_length x (by omega)]; omega), rAt_lt (by omega)]
  unfold xs
  rw [List.getElem_append_right (by simp; omega)]
  simp
  congr 1
  omega
theorem ne_longer {x : ByteArray} {l : List Rw} (hx : 0 < x.size) (hl : 0 < l.length) : l ≠ l.map (longer x) := by
  cases l with
  | nil => simp at hl
  | cons r l =>
    intro e
    rw [List.map_cons, List.cons.injEq] at e
    have := congrArg (fun q : Rw => q.key.size) e.1
    simp only [longer, ByteArray.size_append] at this
    omega
theorem longer_next {w : World} {oa : Option Addr} {n cap b off : Nat} {x : ByteArray} {k : Nat} {l : List Rw} (h : RowsAt w oa n cap (xs x k l)) (hl : l.length = n) (hk : k < n) (ho : oa = some ⟨b, off, none⟩)
    (hs : ((kAt l k) ++ x).size ≤ maxLen) : RowsAt (w.setCell ⟨b, off + k * 2, none⟩ (.string (kAt l k ++ x))) oa n cap (xs x (k + 1) l) := by
  obtain ⟨h1, h2, h3, h4, ⟨b', off', h5, h6⟩, h7⟩ := h
  obtain ⟨e, hb⟩ := h5 (by omega)
  rw [ho] at e
  obtain ⟨rfl, rfl⟩ : b = b' ∧ off = off' := by simpa using e
  have hz : ∀ i, i < n → i ≠ k → rAt (xs x (k + 1) l) i = rAt (xs x k l) i := fun i hi hne => by
    rcases Nat.lt_or_ge i k with q | q
    · rw [xs_low (by omega) (by omega), xs_low q (by omega)]
    · rw [xs_high (by omega) (by omega), xs_high q (by omega)]
  have hz2 : rAt (xs x (k + 1) l) k = longer x (rAt l k) := xs_low (by omega) (by omega)
  have hz3 : rAt (xs x k l) k = rAt l k := xs_high (by omega) (by omega)
  refine ⟨by rw [xs_length x (by omega), hl], h2, h3, h4, ⟨b, off, fun q => ⟨ho, by unfold World.setCell; simpa using hb⟩, fun i hi => ?_⟩, fun i hi => ?_⟩
  · by_cases hne : i = k
    · subst hne
      unfold kAt vAt
      rw [hz2]
      refine ⟨World.cell?_setCell_same _ _ _ (h6 i hi).1, ?_⟩
      rw [World.cell?_setCell_other _ _ _ _ (by simp)]
      have := (h6 i hi).2
      unfold vAt at this
      rw [hz3] at this
      exact this
    · unfold kAt vAt
      rw [hz i hi hne, World.cell?_setCell_other _ _ _ _ (by simp only [ne_eq, Addr.mk.injEq, not_and]; omega), World.cell?_setCell_other _ _ _ _ (by simp only [ne_eq, Addr.mk.injEq, not_and]; omega)]
      exact h6 i hi
  · by_cases hne : i = k
    · subst hne
      unfold kAt vAt
      rw [hz2]
      have := (h7 i hi).2
      unfold vAt at this
      rw [hz3] at this
      exact ⟨hs, this⟩
    · unfold kAt vAt
      rw [hz i hi hne]
      exact h7 i hi

/-- a slice of the call's own is free to write to -/
def Free (w : World) (base : Nat) (oa : Option Addr) : Prop := ∀ b off, oa = some ⟨b, off, none⟩ → base ≤ b ∧ b < w.heap.size ∧ ∀ o, w.frozen? ⟨b, o, none⟩ = false
theorem own_free {w : World} {base base2 : Nat} {oa : Option Addr} {n cap : Nat} {l : List Rw} (h : OwnAt w base oa n cap l) (hb : base2 ≤ base) : Free w base2 oa := by
  rintro b off rfl
  rcases h.own.2 with ⟨e, hn⟩ | ⟨g, cap, cur, e, hg, hc, rest⟩
  · simp at e
  · simp only [Value.slice.injEq, Option.some.injEq, Addr.mk.injEq] at e
    obtain ⟨⟨rfl, rfl, -⟩, -, -⟩ := e
    refine ⟨Nat.le_trans hb hg, ?_, fun o => ?_⟩
    · rcases Nat.lt_or_ge b w.heap.size with q | q
      · exact q
      · rw [Array.getElem?_eq_none q] at hc; cases hc
    · unfold World.frozen?
      rw [hc]; simp
theorem Free.keep {w w' : World} {base : Nat} {oa : Option Addr} (h : Free w base oa) (hg : Gr w w') : Free w' base oa := fun b off e => by
  obtain ⟨h1, h2, h3⟩ := h b off e
  exact ⟨h1, Nat.lt_of_lt_of_le h2 hg.le, fun o => by rw [hg.frozen h2]; exact h3 o⟩
theorem Free.set {w : World} {base : Nat} {oa : Option Addr} (h : Free w base oa) (p : Addr) (u : Value) : Free (w.setCell p u) base oa := fun b off e => by
  obtain ⟨h1, h2, h3⟩ := h b off e
  exact ⟨h1, by unfold World.setCell; simpa using h2, fun o => (World.frozen?_setCell _ _ _ _).trans (h3 o)⟩

set_option maxRecDepth 100000 in
set_option maxHeartbeats 1000000 in
theorem finds_skip (oa : Option Addr) (n cap : Nat) (l : List Rw) (key : ByteArray) (w : World) (h : RowsAt w oa n cap l) (hk : key.size ≤ maxLen) (hs : 100 < key.size) :
    Calls Try.prog 6 #[.slice oa n cap, .string key] w fun e w' => e = .returned (.bool true) ∧ Gr w w' := by
  have hF := Lib.hid (few_any oa n cap l w h)
  clear h
  unfold maxLen at hk
  go_enter Try.func6, Try.ntmps6
  go_wp2_with fail
  refine hF.out.mono ?_
  rintro e w1 ⟨⟨b, rfl, hb⟩, d, rfl⟩
  cases b
  all_goals
    go_wp2_with fail
    refine (awake_any _).mono ?_
    rintro e w2 ⟨rfl, hg2⟩
    go_wp2_with fail
    go_ret
    exact ⟨rfl, by repeat (first | with_reducible exact Gr.refl _ | with_reducible refine Gr.drewN ?_ _ | with_reducible refine Gr.drew ?_ | with_reducible refine Gr.alloc ?_ _ | with_reducible refine Gr.setCell ?_ ?_ _ | (with_reducible refine Gr.trans ?_ (by assumption)) | omega | (dsimp only; omega))⟩

set_option maxRecDepth 100000 in
set_option maxHeartbeats 1000000 in
theorem finds_main (oa : Option Addr) (n cap : Nat) (l : List Rw) (key : ByteArray) (w : World) (h : RowsAt w oa n cap l) (hk : key.size ≤ 100) :
    Calls Try.prog 6 #[.slice oa n cap, .string key] w fun e w' => e = .returned (.bool true) ∧ Gr w w' := by
  have hF := Lib.hid (few_all oa n cap l w h)
  have H := Lib.hid h
  clear h
  go_enter Try.func6, Try.ntmps6
  go_wp2_with fail
  refine hF.out.mono ?_
  rintro e w1 ⟨⟨b, rfl, hb⟩, d, rfl⟩
  cases b
  · go_wp2_with fail
    refine (awake_any _).mono ?_
    rintro e w2 ⟨rfl, hg2⟩
    go_wp2_with fail
    go_ret
    exact ⟨rfl, by repeat (first | with_reducible exact Gr.refl _ | with_reducible refine Gr.drewN ?_ _ | with_reducible refine Gr.drew ?_ | with_reducible refine Gr.alloc ?_ _ | with_reducible refine Gr.setCell ?_ ?_ _ | (with_reducible refine Gr.trans ?_ (by assumption)) | omega | (dsimp only; omega))⟩
  · have hn := (hb rfl).1
    have Hz := Lib.hid (hb rfl).2
    clear hb
    have hg1 : Gr w (w.drewN d) := by repeat (first | with_reducible exact Gr.refl _ | with_reducible refine Gr.drewN ?_ _ | with_reducible refine Gr.drew ?_ | with_reducible refine Gr.alloc ?_ _ | with_reducible refine Gr.setCell ?_ ?_ _ | (with_reducible refine Gr.trans ?_ (by assumption)) | omega | (dsimp only; omega))
    generalize w.drewN d = w1 at *
    go_wp2_with fail
    refine (find_any oa n cap l key w1 (H.out.keep (by repeat (first | with_reducible exact Gr.refl _ | with_reducible refine Gr.drewN ?_ _ | with_reducible refine Gr.drew ?_ | with_reducible refine Gr.alloc ?_ _ | with_reducible refine Gr.setCell ?_ ?_ _ | (with_reducible refine Gr.trans ?_ (by assumption)) | omega | (dsimp only; omega)))) (key_max hk)).mono ?_
    rintro e w2 ⟨rfl, hg2⟩
    have hg2 := hg2.gr
    go_wp2_with fail
    refine (refFind_any oa n cap l key w2 (H.out.keep (by repeat (first | with_reducible exact Gr.refl _ | with_reducible refine Gr.drewN ?_ _ | with_reducible refine Gr.drew ?_ | with_reducible refine Gr.alloc ?_ _ | with_reducible refine Gr.setCell ?_ ?_ _ | (with_reducible refine Gr.trans ?_ (by assumption)) | omega | (dsimp only; omega)))) (key_max hk)).mono ?_
    rintro e w3 ⟨rfl, hg3⟩
    have hg3 := hg3.gr
    go_wp2_with fail
    refine (copy_any oa n cap l w3 (H.out.keep (by repeat (first | with_reducible exact Gr.refl _ | with_reducible refine Gr.drewN ?_ _ | with_reducible refine Gr.drew ?_ | with_reducible refine Gr.alloc ?_ _ | with_reducible refine Gr.setCell ?_ ?_ _ | (with_reducible refine Gr.trans ?_ (by assumption)) | omega | (dsimp only; omega)))) (by omega)).mono ?_
    rintro e w4 ⟨o1, m1, c1, rfl, hr1, hg4, base, hbase, ho1⟩
    obtain rfl : n = m1 := by rw [← hr1.len, H.out.len]
    have R1 := Lib.hid hr1
    clear hr1
    have hS := refSame_any o1 oa n c1 n cap l l w4 R1.out (H.out.keep (by repeat (first | with_reducible exact Gr.refl _ | with_reducible refine Gr.drewN ?_ _ | with_reducible refine Gr.drew ?_ | with_reducible refine Gr.alloc ?_ _ | with_reducible refine Gr.setCell ?_ ?_ _ | (with_reducible refine Gr.trans ?_ (by assumption)) | omega | (dsimp only; omega))))
    rw [decide_eq_true rfl] at hS
    have hS := Lib.hid hS
    go_wp2_with fail
    refine hS.out.mono ?_
    rintro e w5 ⟨rfl, hg5⟩
    have hg5 := hg5.gr
    have hgW : Gr w w5 := by repeat (first | with_reducible exact Gr.refl _ | with_reducible refine Gr.drewN ?_ _ | with_reducible refine Gr.drew ?_ | with_reducible refine Gr.alloc ?_ _ | with_reducible refine Gr.setCell ?_ ?_ _ | (with_reducible refine Gr.trans ?_ (by assumption)) | omega | (dsimp only; omega))
    go_wp2_with fail
    have HX0 := Lib.hid (show RowsAt w5 o1 n c1 (xs X 0 l) by rw [xs_zero]; exact R1.out.keep hg5)
    have HF0 := Lib.hid ((own_free ho1 hbase).keep hg5)
    have hll := H.out.len
    have hg35 : Gr w3 w5 := hg4.trans hg5
    have hg03 : Gr w w3 := by repeat (first | with_reducible exact Gr.refl _ | with_reducible refine Gr.drewN ?_ _ | with_reducible refine Gr.drew ?_ | with_reducible refine Gr.alloc ?_ _ | with_reducible refine Gr.setCell ?_ ?_ _ | (with_reducible refine Gr.trans ?_ (by assumption)) | omega | (dsimp only; omega))
    clear hgW
    clear R1 hS ho1
    go_loopw [40] (fun i wr => ∃ k : Nat, k ≤ n ∧ i = .int .i64 k ∧ Hid (RowsAt wr o1 n c1 (xs X k l)) ∧ Hid (Free wr w3.heap.size o1) ∧ Gr w3 wr) (fun i _ => n - (intOf i).toNat)
    case atStart => exact ⟨0, Nat.zero_le _, rfl, HX0, HF0, hg35⟩
    case round =>
      obtain ⟨k, hk1, rfl, hx, hfr, hg⟩ := hrel
      by_cases hlt : k < n
      · have hR := hx.out
        obtain ⟨b, off, hb, hc⟩ := hR.cells
        have a1 := (hc k hlt).1
        obtain ⟨hb1, hb2⟩ := hb (by omega)
        have hI := run_row c1 (fun _ : 0 < n => hb1) hlt
        unfold kAt at a1
        rw [xs_high (Nat.le_refl _) (by omega)] at a1
        obtain ⟨f1, f2, f3⟩ := hfr.out b off hb1
        have f4 := f3 (off + k * 2)
        have z1 := (Hz.out k hlt).1
        have z2 : (kAt l k ++ X).size ≤ maxLen := by rw [ByteArray.size_append, show X.size = 1 from rfl]; unfold maxLen; omega
        change (rAt l k).key.size ≤ 2000 at z1
        have hN := Lib.hid (longer_next hR hll hlt hb1 z2)
        have hFN := Lib.hid (hfr.out.set ⟨b, off + k * 2, none⟩ (.string (kAt l k ++ X)))
        clear hc hb f3 hR hx hfr z2
        go_wp2_with fail
        go_roundw
        case rel => exact ⟨k + 1, by omega, by go_num, hN, hFN, Gr.setCell hg f1 _⟩
        case measure => simp [intOf]; omega
      · obtain rfl : k = n := by omega
        rw [← H.out.len, xs_all, H.out.len] at hx
        have hg06 : Gr w wr := hg03.trans hg
        clear HX0 HF0 hfr hg hg35 hg03
        go_wp2_with fail
        refine (rowsRight_any oa k cap l wr (H.out.keep (by repeat (first | with_reducible exact Gr.refl _ | with_reducible refine Gr.drewN ?_ _ | with_reducible refine Gr.drew ?_ | with_reducible refine Gr.alloc ?_ _ | with_reducible refine Gr.setCell ?_ ?_ _ | (with_reducible refine Gr.trans ?_ (by assumption)) | omega | (dsimp only; omega))))).mono ?_
        rintro e w6 ⟨rfl, hg6⟩
        go_wp2_with fail
        refine (refRowsRight_any oa k cap l w6 (H.out.keep (by repeat (first | with_reducible exact Gr.refl _ | with_reducible refine Gr.drewN ?_ _ | with_reducible refine Gr.drew ?_ | with_reducible refine Gr.alloc ?_ _ | with_reducible refine Gr.setCell ?_ ?_ _ | (with_reducible refine Gr.trans ?_ (by assumption)) | omega | (dsimp only; omega))))).mono ?_
        rintro e w7 ⟨rfl, hg7⟩
        generalize rowsOkB l = ok at *
        have hg07 : Gr w w7 := by repeat (first | with_reducible exact Gr.refl _ | with_reducible refine Gr.drewN ?_ _ | with_reducible refine Gr.drew ?_ | with_reducible refine Gr.alloc ?_ _ | with_reducible refine Gr.setCell ?_ ?_ _ | (with_reducible refine Gr.trans ?_ (by assumption)) | omega | (dsimp only; omega))
        have HX7 := Lib.hid (hx.out.keep (hg6.trans hg7))
        clear hx hg6 hg06
        cases ok
        all_goals
          go_wp2_with fail
          refine (own_any oa k cap l w7 (H.out.keep (by repeat (first | with_reducible exact Gr.refl _ | with_reducible refine Gr.drewN ?_ _ | with_reducible refine Gr.drew ?_ | with_reducible refine Gr.alloc ?_ _ | with_reducible refine Gr.setCell ?_ ?_ _ | (with_reducible refine Gr.trans ?_ (by assumption)) | omega | (dsimp only; omega)))) (by omega)).mono ?_
          rintro e w8 ⟨o2, m2, c2, rfl, hr2, hg8, -⟩
          obtain rfl : k = m2 := by rw [← hr2.len, H.out.len]
          have hS2 := rowsSame_any oa o2 k cap k c2 l l w8 (H.out.keep (by repeat (first | with_reducible exact Gr.refl _ | with_reducible refine Gr.drewN ?_ _ | with_reducible refine Gr.drew ?_ | with_reducible refine Gr.alloc ?_ _ | with_reducible refine Gr.setCell ?_ ?_ _ | (with_reducible refine Gr.trans ?_ (by assumption)) | omega | (dsimp only; omega)))) hr2
          rw [decide_eq_true rfl] at hS2
          have hS2 := Lib.hid hS2
          clear hr2
          go_wp2_with fail
          refine hS2.out.mono ?_
          rintro e w9 ⟨rfl, hg9⟩
          have hg9 := hg9.gr
          have hg79 : Gr w7 w9 := hg8.trans hg9
          clear hS2
          rcases Nat.eq_zero_or_pos k with h0 | h0
          · subst h0
            go_wp2_with (go_at_call 13; refine (awake_any _).mono ?_; rintro e w11 ⟨rfl, hg11⟩)
            go_ret
            exact ⟨rfl, by repeat (first | with_reducible exact Gr.refl _ | with_reducible refine Gr.drewN ?_ _ | with_reducible refine Gr.drew ?_ | with_reducible refine Gr.alloc ?_ _ | with_reducible refine Gr.setCell ?_ ?_ _ | (with_reducible refine Gr.trans ?_ (by assumption)) | omega | (dsimp only; omega))⟩
          · have hS3 := rowsSame_any oa o1 k cap k c1 l _ w9 (H.out.keep (by repeat (first | with_reducible exact Gr.refl _ | with_reducible refine Gr.drewN ?_ _ | with_reducible refine Gr.drew ?_ | with_reducible refine Gr.alloc ?_ _ | with_reducible refine Gr.setCell ?_ ?_ _ | (with_reducible refine Gr.trans ?_ (by assumption)) | omega | (dsimp only; omega)))) (HX7.out.keep hg79)
            rw [decide_eq_false (ne_longer (x := X) (by decide) (by omega))] at hS3
            have hS3 := Lib.hid hS3
            go_wp2_with (first | (go_at_call 25; refine hS3.out.mono ?_; rintro e w10 ⟨rfl, hg10⟩; have hg10 := hg10.gr) | (go_at_call 13; refine (awake_any _).mono ?_; rintro e w11 ⟨rfl, hg11⟩))
            go_ret
            exact ⟨rfl, by repeat (first | with_reducible exact Gr.refl _ | with_reducible refine Gr.drewN ?_ _ | with_reducible refine Gr.drew ?_ | with_reducible refine Gr.alloc ?_ _ | with_reducible refine Gr.setCell ?_ ?_ _ | (with_reducible refine Gr.trans ?_ (by assumption)) | omega | (dsimp only; omega))⟩

theorem finds_walk (oa : Option Addr) (n cap : Nat) (l : List Rw) (key : ByteArray) (w : World) (h : RowsAt w oa n cap l) (hk : key.size ≤ maxLen) :
    Calls Try.prog 6 #[.slice oa n cap, .string key] w fun e w' => e = .returned (.bool true) ∧ Gr w w' := by
  by_cases h1 : key.size ≤ 100
  · exact finds_main oa n cap l key w h h1
  · exact finds_skip oa n cap l key w h hk (by omega)
end Go.Proofs.Ytlgeaponicgdoaa
