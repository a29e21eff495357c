import Derived.Test.YtidfelbaegaphaaDoorRw2
namespace Go.Proofs.YtidfelbaegaphaaDoor
set_option linter.unusedVariables false
open Go.BigFrame Go.RowKit Go.WideShapes

theorem neL {x y : ByteArray} (h : x ≠ y) : (x.toList == y.toList) = false := by
  rw [beq_eq_false_iff_ne, toList_tx, toList_tx]
  exact fun e => h (bytes_inj e)
theorem eqL {x y : ByteArray} (h : x = y) : (x.toList == y.toList) = true := by rw [h]; simp

/-- does a key stand among the rows, at its place? -/
def hasB (key : ByteArray) (l : List Rw) : Bool := decide (place key l < l.length ∧ kAt l (place key l) = key)

set_option maxRecDepth 100000 in
set_option maxHeartbeats 1000000 in
theorem find_any (oa : Option Addr) (n cap : Nat) (l : List Rw) (key : ByteArray) (w : World) (h : RowsAt w oa n cap l) (hk : key.size ≤ maxLen) :
    Calls Tryd.prog 34 #[.slice oa n cap, .string key] w fun e w' => e = .returned (.tuple #[.int .i64 (place key l), .bool (hasB key l)]) ∧ Dr w w' := by
  have hP := Lib.hid (place_any oa n cap l key w h hk)
  have hle := place_le key l
  rw [h.len] at hle
  have hB0 : hasB key l = decide (place key l < l.length ∧ kAt l (place key l) = key) := rfl
  have hB := Lib.hid hB0
  clear hB0
  obtain ⟨b1, off1, ho1, hc1⟩ := h.cells
  have Hc1 := Lib.hid hc1
  have Ho1 := Lib.hid (fun q => (ho1 q).1)
  have H1 := Lib.hid h
  have hn1 := h.cap_le
  have hm1 := h.cap_max
  unfold maxLen at hm1
  clear hc1 ho1 h
  generalize place key l = p at *
  by_cases hlt : p < n
  · have hk1 := (Hc1.out p hlt).1
    have hI := run_row cap Ho1.out hlt
    have hd : decide (p < n) = true := by simp; omega
    by_cases he : kAt l p = key
    · have hf := eqL he
      have e : hasB key l = true := by rw [hB.out, decide_eq_true_iff, H1.out.len]; exact ⟨hlt, he⟩
      have E := Lib.hid e
      clear he e
      go_enter Tryd.func34, Tryd.ntmps34
      go_wp2_with (go_at_call 53; refine hP.out.mono ?_; rintro e w' ⟨rfl, d, rfl⟩)
      go_big_quiet (fail)
      go_wp2
      go_ret2
      exact ⟨by rw [E.out]; rfl, by repeat (first | with_reducible exact Dr.refl _ | with_reducible refine Dr.step ?_ _ | with_reducible refine Dr.drew ?_ | (with_reducible refine Dr.trans ?_ (by assumption)))⟩
    · have hf := neL he
      have e : hasB key l = false := by rw [hB.out, decide_eq_false_iff_not]; exact fun q => he q.2
      have E := Lib.hid e
      clear he e
      go_enter Tryd.func34, Tryd.ntmps34
      go_wp2_with (go_at_call 53; refine hP.out.mono ?_; rintro e w' ⟨rfl, d, rfl⟩)
      go_big_quiet (fail)
      go_wp2
      go_ret2
      exact ⟨by rw [E.out]; rfl, by repeat (first | with_reducible exact Dr.refl _ | with_reducible refine Dr.step ?_ _ | with_reducible refine Dr.drew ?_ | (with_reducible refine Dr.trans ?_ (by assumption)))⟩
  · have hd : decide (p < n) = false := by simp; omega
    have e : hasB key l = false := by rw [hB.out, decide_eq_false_iff_not, H1.out.len]; exact fun q => hlt q.1
    have E := Lib.hid e
    clear e
    go_enter Tryd.func34, Tryd.ntmps34
    go_wp2_with (go_at_call 53; refine hP.out.mono ?_; rintro e w' ⟨rfl, d, rfl⟩)
    go_big_quiet (fail)
    go_wp2
    go_ret2
    exact ⟨by rw [E.out]; rfl, by repeat (first | with_reducible exact Dr.refl _ | with_reducible refine Dr.step ?_ _ | with_reducible refine Dr.drew ?_ | (with_reducible refine Dr.trans ?_ (by assumption)))⟩

theorem place_step' {key : ByteArray} {l : List Rw} {k : Nat} (hk : k < l.length) (hp : k ≤ place key l) (h : Str.before (Tx (kAt l k)) (Tx key) = true) : k + 1 ≤ place key l :=
  place_step hk hp (Str.cmp_neg_iff.2 h)
theorem place_stop' {key : ByteArray} {l : List Rw} {k : Nat} (hk : k < l.length) (hp : k ≤ place key l) (h : ¬ Str.before (Tx (kAt l k)) (Tx key) = true) : place key l = k :=
  place_stop hk hp (fun q => h (Str.cmp_neg_iff.1 q))

set_option maxRecDepth 100000 in
set_option maxHeartbeats 1000000 in
theorem refFind_any (oa : Option Addr) (n cap : Nat) (l : List Rw) (key : ByteArray) (w : World) (h : RowsAt w oa n cap l) (hk : key.size ≤ maxLen) :
    Calls Tryd.prog 47 #[.slice oa n cap, .string key] w fun e w' => e = .returned (.tuple #[.int .i64 (place key l), .bool (hasB key l)]) ∧ Dr w w' := by
  have hpl := place_le key l
  rw [h.len] at hpl
  obtain ⟨b1, off1, ho1, hc1⟩ := h.cells
  have Hc1 := Lib.hid hc1
  have Ho1 := Lib.hid (fun q => (ho1 q).1)
  have H1 := Lib.hid h
  have hn1 := h.cap_le
  have hm1 := h.cap_max
  unfold maxLen at hm1
  clear hc1 ho1 h
  go_enter Tryd.func47, Tryd.ntmps47
  go_wp2
  go_loopw [6] (fun i wr => ∃ k : Nat, k ≤ n ∧ i = .int .i64 k ∧ k ≤ place key l ∧ Dr w wr) (fun i _ => n - (intOf i).toNat)
  case atStart => exact ⟨0, Nat.zero_le _, rfl, Nat.zero_le _, Dr.refl _⟩
  case round =>
    obtain ⟨k, hk2, rfl, hp, d, rfl⟩ := hrel
    by_cases hlt : k < n
    · have hk1 := (Hc1.out k hlt).1
      have hs1 := (H1.out.sizes k hlt).1
      have hI := run_row cap Ho1.out hlt
      by_cases hb : Str.before (Tx (kAt l k)) (Tx key) = true
      · go_wp2_with (go_at_call 30; (with_reducible refine (before_any _ _ _ (by assumption) (by assumption)).mono ?_); rintro e w' ⟨rfl, d, rfl⟩)
        go_roundw
        case rel => exact ⟨k + 1, by omega, by go_num, place_step' (by have := H1.out.len; omega) hp hb, by repeat (first | with_reducible exact Dr.refl _ | with_reducible refine Dr.step ?_ _ | with_reducible refine Dr.drew ?_ | (with_reducible refine Dr.trans ?_ (by assumption)))⟩
        case measure => simp [intOf]; omega
      · have hb' : Str.before (Tx (kAt l k)) (Tx key) = false := by simpa using hb
        have e := place_stop' (key := key) (l := l) (by have := H1.out.len; omega) hp hb
        by_cases he : kAt l k = key
        · have hf := eqL he
          have e2 : hasB key l = true := by unfold hasB; rw [decide_eq_true_iff, e, H1.out.len]; exact ⟨hlt, he⟩
          have E := Lib.hid e
          have E2 := Lib.hid e2
          clear e e2 he hb
          go_wp2_with (go_at_call 30; (with_reducible refine (before_any _ _ _ (by assumption) (by assumption)).mono ?_); rintro e w' ⟨rfl, d, rfl⟩)
          go_big_quiet (fail)
          go_wp2
          go_ret2
          exact ⟨by rw [E.out, E2.out]; rfl, by repeat (first | with_reducible exact Dr.refl _ | with_reducible refine Dr.step ?_ _ | with_reducible refine Dr.drew ?_ | (with_reducible refine Dr.trans ?_ (by assumption)))⟩
        · have hf := neL he
          have e2 : hasB key l = false := by unfold hasB; rw [decide_eq_false_iff_not, e]; exact fun q => he q.2
          have E := Lib.hid e
          have E2 := Lib.hid e2
          clear e e2 he hb
          go_wp2_with (go_at_call 30; (with_reducible refine (before_any _ _ _ (by assumption) (by assumption)).mono ?_); rintro e w' ⟨rfl, d, rfl⟩)
          go_big_quiet (fail)
          go_wp2
          go_ret2
          exact ⟨by rw [E.out, E2.out]; rfl, by repeat (first | with_reducible exact Dr.refl _ | with_reducible refine Dr.step ?_ _ | with_reducible refine Dr.drew ?_ | (with_reducible refine Dr.trans ?_ (by assumption)))⟩
    · obtain rfl : k = n := by omega
      have e : place key l = k := by omega
      have e2 : hasB key l = false := by unfold hasB; rw [decide_eq_false_iff_not, e, H1.out.len]; exact fun q => hlt q.1
      have E := Lib.hid e
      have E2 := Lib.hid e2
      clear e e2
      go_wp2
      go_ret2
      exact ⟨by rw [E.out, E2.out]; rfl, by repeat (first | with_reducible exact Dr.refl _ | with_reducible refine Dr.step ?_ _ | with_reducible refine Dr.drew ?_ | (with_reducible refine Dr.trans ?_ (by assumption)))⟩

theorem rows_ext {a b : List Rw} (hl : a.length = b.length) (h : ∀ i, i < a.length → kAt a i = kAt b i ∧ vAt a i = vAt b i) : a = b := by
  apply List.ext_getElem hl
  intro i h1 h2
  have := h i h1
  unfold kAt vAt at this
  rw [rAt_lt h1, rAt_lt h2] at this
  cases ha : a[i]; cases hb : b[i]
  rw [ha, hb] at this
  simp only at this
  rw [this.1, this.2]

set_option maxRecDepth 100000 in
set_option maxHeartbeats 2000000 in
theorem refSame_any (oa oc : Option Addr) (n cap m cap2 : Nat) (a c : List Rw) (w : World) (h : RowsAt w oa n cap a) (k : RowsAt w oc m cap2 c) :
    Calls Tryd.prog 31 #[.slice oa n cap, .slice oc m cap2] w fun e w' => e = .returned (.bool (decide (a = c))) ∧ Dr w w' := by
  obtain ⟨b1, off1, ho1, hc1⟩ := h.cells
  have Hc1 := Lib.hid hc1
  have Ho1 := Lib.hid (fun q => (ho1 q).1)
  have H1 := Lib.hid h
  have hn1 := h.cap_le
  have hm1 := h.cap_max
  unfold maxLen at hm1
  clear hc1 ho1 h
  obtain ⟨b2, off2, ho2, hc2⟩ := k.cells
  have Hc2 := Lib.hid hc2
  have Ho2 := Lib.hid (fun q => (ho2 q).1)
  have H2 := Lib.hid k
  have hn2 := k.cap_le
  have hm2 := k.cap_max
  unfold maxLen at hm2
  clear hc2 ho2 k
  by_cases hnm : n = m
  · subst hnm
    go_enter Tryd.func31, Tryd.ntmps31
    go_wp2
    go_loopw [5] (fun i wr => ∃ k : Nat, k ≤ n ∧ i = .int .i64 k ∧ Hid (∀ j, j < k → kAt a j = kAt c j ∧ vAt a j = vAt c j) ∧ Dr w wr) (fun i _ => n - (intOf i).toNat)
    case atStart => exact ⟨0, Nat.zero_le _, rfl, Lib.hid fun j hj => by omega, Dr.refl _⟩
    case round =>
      obtain ⟨k, hk2, rfl, hp, d, rfl⟩ := hrel
      by_cases hlt : k < n
      · have g1 := (Hc1.out k hlt).1
        have g2 := (Hc1.out k hlt).2
        have g3 := (Hc2.out k hlt).1
        have g4 := (Hc2.out k hlt).2
        have hI1 := run_row cap Ho1.out hlt
        have hI2 := run_row cap2 Ho2.out hlt
        by_cases hkey : kAt a k = kAt c k
        · by_cases hval : vAt a k = vAt c k
          · have f1 := eqL hkey
            have f2 := eqL hval
            have HK := Lib.hid hkey
            have HV := Lib.hid hval
            clear hkey hval
            go_wp2
            go_big_quiet (fail)
            go_wp2
            go_roundw
            case rel => exact ⟨k + 1, by omega, by go_num, Lib.hid fun j hj => by
              rcases Nat.lt_or_ge j k with q | q
              · exact hp.out j q
              · obtain rfl : j = k := by omega
                exact ⟨HK.out, HV.out⟩, by repeat (first | with_reducible exact Dr.refl _ | with_reducible refine Dr.step ?_ _ | with_reducible refine Dr.drew ?_ | (with_reducible refine Dr.trans ?_ (by assumption)))⟩
            case measure => simp [intOf]; omega
          · have f1 := eqL hkey
            have f2 := neL hval
            have e := Lib.hid (decide_eq_false (fun q : a = c => hval (by rw [q])))
            clear hkey hval
            go_wp2
            go_big_quiet (fail)
            go_wp2
            go_ret
            exact ⟨by rw [e.out]; rfl, by repeat (first | with_reducible exact Dr.refl _ | with_reducible refine Dr.step ?_ _ | with_reducible refine Dr.drew ?_ | (with_reducible refine Dr.trans ?_ (by assumption)))⟩
        · have f1 := neL hkey
          have e := Lib.hid (decide_eq_false (fun q : a = c => hkey (by rw [q])))
          clear hkey
          go_wp2
          go_big_quiet (fail)
          go_wp2
          go_ret
          exact ⟨by rw [e.out]; rfl, by repeat (first | with_reducible exact Dr.refl _ | with_reducible refine Dr.step ?_ _ | with_reducible refine Dr.drew ?_ | (with_reducible refine Dr.trans ?_ (by assumption)))⟩
      · obtain rfl : k = n := by omega
        have e := Lib.hid (decide_eq_true (rows_ext (by rw [H1.out.len, H2.out.len]) (fun j hj => hp.out j (by rw [H1.out.len] at hj; exact hj))))
        go_wp2
        go_ret
        exact ⟨by rw [e.out]; rfl, by repeat (first | with_reducible exact Dr.refl _ | with_reducible refine Dr.step ?_ _ | with_reducible refine Dr.drew ?_ | (with_reducible refine Dr.trans ?_ (by assumption)))⟩
  · have e := Lib.hid (decide_eq_false (fun q : a = c => hnm (by rw [← H1.out.len, ← H2.out.len, q])))
    go_enter Tryd.func31, Tryd.ntmps31
    go_wp2
    go_ret
    exact ⟨by rw [e.out]; rfl, Dr.refl _⟩
end Go.Proofs.YtidfelbaegaphaaDoor
