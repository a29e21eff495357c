import Derived.Test.YtkngjnkecmjakaaDoorEo
import Derived.Test.YtkngjnkecmjakaaDoorF19
import Derived.Deep.RegionLaw
namespace Go.Proofs.YtkngjnkecmjakaaDoor
set_option linter.unusedVariables false
set_option linter.unusedSimpArgs false
open Go.BigFrame Go.RowKit Go.WideShapes

theorem step_ev_w {w : World} {ops : Array Oper} {o : Oper} {a : Act} {K : Act → World → Prop} {Q : Exit → Act → World → Prop} {E : Prop} (hw : Region.wanted o (yielded ops a.tmps) = true) (s x : Operand)
    (ho : o.op = .call { callee := .builtin .append, args := #[s, x], argTypes := #[22, 22] })
    (base : Nat) (hbase : base ≤ w.heap.size) {oa : Option Addr} {n cap : Nat} {l : List Ev} (hs : a.eval s = .slice oa n cap) (hown : OwnE w base oa n cap l)
    {ob : Option Addr} {m cap2 : Nat} {k : List Ev} (hx : a.eval x = .slice ob m cap2) (hrows : EvsAt w ob m cap2 k) (hsz : n + m ≤ 1099511627776)
    (h : ∀ oc cap3 w', OwnE w' base oc (n + m) cap3 (l ++ k) → w.grownBy w' (Value.ownBlock (.slice oa n cap)) → K (a.put o.dst (.slice oc (n + m) cap3)) w') : if Region.wanted o (yielded ops a.tmps) = true then Oper.wp Tryd.prog o a w K Q else E := by
  rw [if_pos hw]
  exact wp_ev s x ho base hbase hs hown hx hrows hsz h
/-- one event in a block that an append does not own -/
theorem ev_grown {w w' : World} {b g n cap : Nat} {e : Ev} (h : EvsAt w (some ⟨b, 0, none⟩) 1 1 [e]) (hg : w.grownBy w' (Value.ownBlock (.slice (some ⟨g, 0, none⟩) n cap))) (hne : b ≠ g) : EvsAt w' (some ⟨b, 0, none⟩) 1 1 [e] := by
  obtain ⟨h1, h2, h3, h4, ⟨b', off, h5, h6⟩, h7⟩ := h
  obtain ⟨h8, h9⟩ := h5 (by omega)
  obtain ⟨rfl, rfl⟩ : b = b' ∧ 0 = off := by simpa using h8
  refine ⟨h1, h2, h3, h4, ⟨b, 0, fun _ => ⟨rfl, Nat.lt_of_lt_of_le h9 hg.size⟩, fun i hi => ?_⟩, h7⟩
  obtain ⟨a0, a1, a2, a3, a4, a5, a6, a7⟩ := h6 i hi
  exact ⟨grown_cell hg a0 hne, grown_cell hg a1 hne, grown_cell hg a2 hne, grown_cell hg a3 hne, grown_cell hg a4 hne, grown_cell hg a5 hne, grown_cell hg a6 hne, grown_cell hg a7 hne⟩
/-- one event in a fresh block -/
theorem ev_fresh {b : Nat} (w : World) (e : Ev) (hb : b = w.heap.size) (hs : e.key.size ≤ maxLen ∧ e.cval.size ≤ maxLen ∧ e.val.size ≤ maxLen) : EvsAt (evW w e) (some ⟨b, 0, none⟩) 1 1 [e] := by
  subst hb
  obtain ⟨v0, v1, v2, v3, v4, v5, v6, v7⟩ := evbox w e
  exact ev_one (Nat.le_refl _) (by unfold maxLen; omega) v0 v1 v2 v3 v4 v5 v6 v7 hs

/-- few, told to the bit -/
def fewB (l : List Ev) : Bool := decide (∀ i, i < l.length → (evAt l i).key.size ≤ 100 ∧ (evAt l i).cval.size ≤ 100)
set_option maxRecDepth 100000 in
set_option maxHeartbeats 1000000 in
theorem few19_six (oa : Option Addr) (n cap : Nat) (l : List Ev) (w : World) (h : EvsAt w oa n cap l) (hn6 : n ≤ 6) :
    Calls Tryd.prog 5 #[.slice oa n cap] w fun e w' => e = .returned (.bool (fewB l)) ∧ Dr w w' := by
  have Hz := Lib.hid h.sizes
  have hlen := h.len
  obtain ⟨b1, off1, ho1, hc1⟩ := h.cells
  have Hc1 := Lib.hid hc1
  have Ho1 := Lib.hid (fun q => (ho1 q).1)
  have H1 := Lib.hid h
  have hn1 := h.cap_le
  have hm1 := h.cap_max
  unfold maxLen at hm1
  clear hc1 ho1 h
  generalize hB : fewB l = B
  have HB := Lib.hid hB
  clear hB
  go_enter Tryd.func5, Tryd.ntmps5
  go_wp2
  go_loopw [3] (fun v wr => ∃ k : Nat, k ≤ n ∧ v = .int .i64 k ∧ Hid (∀ i, i < k → (evAt l i).key.size ≤ 100 ∧ (evAt l i).cval.size ≤ 100) ∧ Dr w wr) (fun v _ => n - (intOf v).toNat)
  case atStart => exact ⟨0, Nat.zero_le _, rfl, Lib.hid fun i hi => by omega, Dr.refl _⟩
  case round =>
    obtain ⟨k, hk, rfl, hp, d, rfl⟩ := hrel
    by_cases hlt : k < n
    · obtain ⟨a0, a1, a2, a3, a4, a5, a6, a7⟩ := Hc1.out k hlt
      have hz := Hz.out k hlt
      unfold maxLen at hz
      have hI := run_ev cap Ho1.out hlt
      have h40 : decide ((k : Int) ≤ 40) = true := by simp; omega
      have hno : ¬ ((evAt l k).key.size ≤ 100 ∧ (evAt l k).cval.size ≤ 100) → B = false := fun q => by
        rw [← HB.out]
        unfold fewB
        rw [decide_eq_false_iff_not]
        exact fun s => q (s k (by omega))
      by_cases h1 : 100 < (evAt l k).key.size
      · have h1' : decide (100 < ((evAt l k).key.size : Int)) = true := by simp; omega
        have HN := Lib.hid (hno (by omega))
        clear hno
        go_wp2_with fail
        go_ret
        exact ⟨by rw [HN.out]; rfl, by repeat (first | with_reducible exact Dr.refl _ | with_reducible refine Dr.step ?_ _ | with_reducible refine Dr.drew ?_ | (with_reducible refine Dr.trans ?_ (by assumption)))⟩
      · have h1' : decide (100 < ((evAt l k).key.size : Int)) = false := by simp; omega
        by_cases h2 : 100 < (evAt l k).cval.size
        · have h2' : decide (100 < ((evAt l k).cval.size : Int)) = true := by simp; omega
          have HN := Lib.hid (hno (by omega))
          clear hno
          go_wp2_with fail
          go_ret
          exact ⟨by rw [HN.out]; rfl, by repeat (first | with_reducible exact Dr.refl _ | with_reducible refine Dr.step ?_ _ | with_reducible refine Dr.drew ?_ | (with_reducible refine Dr.trans ?_ (by assumption)))⟩
        · have h2' : decide (100 < ((evAt l k).cval.size : Int)) = false := by simp; omega
          clear hno
          go_wp2_with fail
          go_roundw
          case rel => exact ⟨k + 1, by omega, by go_num, Lib.hid fun i hi => by
            rcases Nat.lt_or_ge i k with q | q
            · exact hp.out i q
            · obtain rfl : i = k := by omega
              exact ⟨by omega, by omega⟩, by repeat (first | with_reducible exact Dr.refl _ | with_reducible refine Dr.step ?_ _ | with_reducible refine Dr.drew ?_ | (with_reducible refine Dr.trans ?_ (by assumption)))⟩
          case measure => simp [intOf]; omega
    · obtain rfl : k = n := by omega
      have hyes : B = true := by
        rw [← HB.out]
        unfold fewB
        rw [decide_eq_true_iff]
        exact fun i hi => hp.out i (by omega)
      have HY := Lib.hid hyes
      have h66 : decide ((k : Int) ≤ 6) = true := by simp; omega
      clear hyes
      go_wp2_with fail
      go_ret
      exact ⟨by rw [HY.out]; rfl, by repeat (first | with_reducible exact Dr.refl _ | with_reducible refine Dr.step ?_ _ | with_reducible refine Dr.drew ?_ | (with_reducible refine Dr.trans ?_ (by assumption)))⟩
end Go.Proofs.YtkngjnkecmjakaaDoor
