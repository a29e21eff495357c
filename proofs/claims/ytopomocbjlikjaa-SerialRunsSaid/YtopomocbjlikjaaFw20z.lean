import Derived.Test.YtopomocbjlikjaaRr20z
namespace Go.Proofs.Ytopomocbjlikjaa
set_option linter.unusedVariables false
set_option linter.unusedSimpArgs false
open Go.BigFrame Go.RowKit Go.WideShapes

/-! Are trips few? -/
structure FewS (s : Sn) (v : Nat := 100) : Prop where
  key : s.key.size ≤ 100
  val : s.val.size ≤ v
  low : s.low.size ≤ 100
  high : s.high.size ≤ 100
  rows : s.rows.length ≤ 20
def FewT (t : Tr) (v : Nat := 100) : Prop := t.seen.length ≤ 8 ∧ ∀ (i : Nat) (s : Sn), t.seen[i]? = some s → FewS s v
def FewL (l : List Tr) (v : Nat := 100) : Prop := l.length ≤ 8 ∧ ∀ (i : Nat) (t : Tr), l[i]? = some t → FewT t v
def FewSays20 (l : List Tr) (e : Ending) : Prop := ∃ b : Bool, e = .returned (.bool b) ∧ (b = true → FewL l)
theorem SnAt.keep {w w' : World} {b o : Nat} {s : Sn} {p : Option Addr} {n c : Nat} (h : SnAt w b o s p n c) (hg : Gr w w') : SnAt w' b o s p n c := ⟨hg.range h.rng, h.rows.keep hg, h.size⟩
theorem TrAt.keep {w w' : World} {b o : Nat} {t : Tr} {p : Option Addr} {n c : Nat} (h : TrAt w b o t p n c) (hg : Gr w w') : TrAt w' b o t p n c := ⟨hg.range h.rng, h.seen.keep hg, h.size⟩
set_option maxRecDepth 100000 in
set_option maxHeartbeats 20000000 in
theorem few20_any (oa : Option Addr) (n cap : Nat) (l : List Tr) (w : World) (h : TripsAt w oa n cap l) :
    Calls Try.prog 5 #[.slice oa n cap] w fun e w' => FewSays20 l e ∧ Gr w w' := by
  have Hl := Lib.hid h.len
  have hcl := h.cap_le
  have hcm := h.cap_max
  unfold maxLen at hcm
  obtain ⟨b, off, ho, hc⟩ := h.get
  have Ho := Lib.hid ho
  have Hc := Lib.hid hc
  clear ho hc h
  go_enter Try.func5, Try.ntmps5
  go_wp2_with fail
  go_loopw [3] (fun s3 wr => ∃ i : Nat, i ≤ n ∧ i ≤ 9 ∧ s3 = .int .i64 i ∧ Hid (∀ (j : Nat) (t : Tr), j < i → l[j]? = some t → FewT t) ∧ Gr w wr) (fun s3 _ => n - (intOf s3).toNat)
  case atStart => exact ⟨0, Nat.zero_le _, Nat.zero_le _, rfl, Lib.hid fun j t q _ => absurd q (by omega), Gr.refl _⟩
  case round =>
    obtain ⟨i, hi, hi9, rfl, hall, hg⟩ := hrel
    by_cases hlt : i < n ∧ i ≤ 8
    · obtain ⟨hlt, hi8⟩ := hlt
      have hi8z : (i : Int) ≤ 8 := by omega
      have hltz : (i : Int) < n := by omega
      have hy : l[i]? = some (l[i]'(by have := Hl.out; omega)) := List.getElem?_eq_getElem _
      generalize (l[i]'(by have := Hl.out; omega)) = t at hy
      obtain ⟨p, m, c, R⟩ := Hc.out i t hy
      have A4 := Lib.hid (R.cell 4 rfl)
      have a4 := hg.keep A4.out
      have hI := run_trip cap Ho.out hlt
      have hS := R.seen
      have Hm := Lib.hid hS.len
      have hml := hS.cap_le
      have hmm := hS.cap_max
      unfold maxLen at hmm
      obtain ⟨b2, off2, ho2, hc2⟩ := hS.get
      have Ho2 := Lib.hid ho2
      have Hc2 := Lib.hid hc2
      have Hy := Lib.hid hy
      clear ho2 hc2 hS hy R
      go_wp2_with fail
      go_loopw [4] (fun s4 wx => ∃ k : Nat, k ≤ m ∧ k ≤ 9 ∧ s4 = .int .i64 k ∧ Hid (∀ (j : Nat) (s : Sn), j < k → t.seen[j]? = some s → FewS s) ∧ Gr w wx) (fun s4 _ => m - (intOf s4).toNat)
      case atStart => exact ⟨0, Nat.zero_le _, Nat.zero_le _, rfl, Lib.hid fun j s q _ => absurd q (by omega), hg⟩
      case round =>
        obtain ⟨k, hk, hk9, rfl, hall2, hg2⟩ := hrel
        have a4 := hg2.keep A4.out
        by_cases hltk : k < m ∧ k ≤ 8
        · obtain ⟨hltk, hk8⟩ := hltk
          have hk8z : (k : Int) ≤ 8 := by omega
          have hs : t.seen[k]? = some (t.seen[k]'(by have := Hm.out; omega)) := List.getElem?_eq_getElem _
          generalize (t.seen[k]'(by have := Hm.out; omega)) = s at hs
          obtain ⟨p1, m1, c1, R0⟩ := Hc2.out k s hs
          have R1 := R0.keep hg2
          have hI2 := run_seen c Ho2.out hltk
          have hm1 := R1.rows.len
          have hm2 := R1.rows.cap_le
          have hm3 := R1.rows.cap_max
          unfold maxLen at hm3
          have HS := Lib.hid hs
          have Z := (Bx.new wr zS.toArray 30 rfl).of (us := zS) (by simp)
          clear hs R0
          go_upto_region 8 with (first | (refine wpList_load_mid rfl 30 _ rfl _ _ rfl _ _ (R1).rng Try.underlying30 rfl (by kernel_rfl) ?_) | ((with_reducible refine wpList_store_box (ty := 30) (Z) ((snL s p1 m1 c1)) ?_ ?_ ?_ ?_ ?_ ?_); (focus (exact rfl)); (focus (exact ⟨_, _, rfl, rfl, rfl⟩)); (focus (exact rfl)); (focus kernel_rfl); (focus kernel_rfl)))
          have B4 := Z.setAll (us := snL s p1 m1 c1) rfl
          have hg4 : Gr w ((wr.alloc (.cells zS.toArray 30)).setCells wr.heap.size 0 (snL s p1 m1 c1)) := hg2.trans (((Gr.refl wr).alloc _).setCells (Nat.le_refl _) _ _)
          clear Z R1 hI2 hg2
          generalize (wr.alloc (.cells zS.toArray 30)).setCells wr.heap.size 0 (snL s p1 m1 c1) = w4 at B4 hg4 ⊢
          generalize wr.heap.size = b4 at B4 ⊢
          have x1 := B4.cell 1 rfl
          have x2 := B4.cell 2 rfl
          have x4 := B4.cell 4 rfl
          have x5 := B4.cell 5 rfl
          have x9 := B4.cell 9 rfl
          clear B4
          have Hm1 := Lib.hid hm1
          clear hm1
          go_wp2_with fail
          all_goals (first | (go_ret; exact ⟨⟨false, rfl, fun q => (by cases q)⟩, hg4⟩) | skip)
          go_roundw
          case rel => exact ⟨k + 1, by omega, by omega, by go_num, Lib.hid fun j s' hj hs' => by
            rcases Nat.lt_or_ge j k with z | z
            · exact hall2.out j s' z hs'
            · obtain rfl : j = k := by omega
              rw [HS.out] at hs'
              cases hs'
              exact ⟨by omega, by omega, by omega, by omega, by rw [Hm1.out]; omega⟩, hg4⟩
          case measure => simp [intOf]; omega
        · have hq : m ≤ k ∨ k = 9 := by omega
          by_cases hm8 : m ≤ 8
          · have hFT : k = m := by omega
            have HFT := Lib.hid hFT
            clear hFT
            go_wp2_with fail
            all_goals
              go_roundw
              case rel => exact ⟨i + 1, by omega, by omega, by go_num, Lib.hid fun j t' hj ht' => by
                rcases Nat.lt_or_ge j i with z | z
                · exact hall.out j t' z ht'
                · obtain rfl : j = i := by omega
                  rw [Hy.out] at ht'
                  cases ht'
                  refine ⟨by rw [Hm.out]; omega, fun j s hs => hall2.out j s ?_ hs⟩
                  have h1 := (List.getElem?_eq_some_iff.1 hs).1
                  rw [Hm.out] at h1
                  have := HFT.out
                  omega, hg2⟩
              case measure => simp [intOf]; omega
          · go_wp2_with fail
            all_goals
              go_ret
              exact ⟨⟨false, rfl, fun q => (by cases q)⟩, hg2⟩
    · go_wp2_with fail
      all_goals
        go_ret
        refine ⟨⟨_, rfl, fun q => ?_⟩, hg⟩
        have hn8 : n ≤ 8 := by first | omega | (simp at q; omega) | (simp at q; done)
        refine ⟨by rw [Hl.out]; exact hn8, fun j t hj => hall.out j t ?_ hj⟩
        have h1 := (List.getElem?_eq_some_iff.1 hj).1
        rw [Hl.out] at h1
        omega
end Go.Proofs.Ytopomocbjlikjaa
