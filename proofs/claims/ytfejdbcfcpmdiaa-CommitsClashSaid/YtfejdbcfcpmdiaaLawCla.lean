import Derived.Test.YtfejdbcfcpmdiaaCl
namespace Go.Proofs.Ytfejdbcfcpmdiaa
set_option linter.unusedVariables false
set_option linter.unusedSimpArgs false
open Go.BigFrame Go.RowKit Go.WideShapes

theorem any_take {α : Type} (f : α → Bool) {l : List α} {k : Nat} (h : k < l.length) : (l.take (k + 1)).any f = ((l.take k).any f || f l[k]) := by
  rw [List.take_succ_eq_append_getElem h, List.any_append]; simp
/-- is there a span that has a write's key? -/
def inSome (l : List Wt) (s : Wt) : Bool := l.any (fun r => inW s r.key)
/-- is a write's key among the keys? -/
def among (K : List ByteArray) (r : Wt) : Bool := K.any (fun k => decide (k = r.key))
theorem clash_eq (K : List ByteArray) (S l : List Wt) : clash K S l = (S.any (inSome l) || l.any (among K)) := by
  rw [Bool.eq_iff_iff]
  unfold clash hits inSome among
  simp only [Bool.or_eq_true, List.any_eq_true]
  constructor
  · rintro ⟨r, hr, ⟨k, hk, h⟩ | ⟨s, hs, h⟩⟩
    · exact .inr ⟨r, hr, k, hk, h⟩
    · exact .inl ⟨s, hs, r, hr, h⟩
  · rintro (⟨s, hs, r, hr, h⟩ | ⟨r, hr, k, hk, h⟩)
    · exact ⟨r, hr, .inr ⟨s, hs, h⟩⟩
    · exact ⟨r, hr, .inl ⟨k, hk, h⟩⟩

theorem refIn_w (s : Wt) (key : ByteArray) (w : World) (h1 : s.key.size ≤ maxLen) (h2 : s.val.size ≤ maxLen) (h3 : key.size ≤ maxLen) :
    Calls Try.prog 18 #[.string s.key, .string s.val, .bool s.gone, .string key] w fun e w' => e = .returned (.bool (inW s key)) ∧ Dr w w' := by
  have h := refIn_any s.key s.val s.gone key w h1 h2 h3
  rw [← inB_eq] at h
  exact h

set_option maxRecDepth 100000 in
set_option maxHeartbeats 8000000 in
theorem clash_walk (ok : Option Addr) (nk ck : Nat) (K : List ByteArray) (os : Option Addr) (ns cs : Nat) (S : List Wt) (ow : Option Addr) (nw cw : Nat) (l : List Wt) (w : World) (hK : StrsAt w ok nk ck K) (hS : WritesAt w os ns cs S) (hW : WritesAt w ow nw cw l) :
    Calls Try.prog 4 #[.slice ok nk ck, .slice os ns cs, .slice ow nw cw] w fun e w' => e = .returned (.bool true) ∧ Gr w w' := by
  have hF := Lib.hid (few_w ow nw cw l w hW)
  obtain ⟨b1, off1, ho1, hc1⟩ := hK.cells
  have Hc1 := Lib.hid hc1
  have Ho1 := Lib.hid (fun q => (ho1 q).1)
  have H1 := Lib.hid hK
  have hn1 := hK.cap_le
  have hm1 := hK.cap_max
  unfold maxLen at hm1
  clear hc1 ho1 hK
  obtain ⟨b2, off2, ho2, hc2⟩ := hS.cells
  have Hc2 := Lib.hid hc2
  have Ho2 := Lib.hid (fun q => (ho2 q).1)
  have H2 := Lib.hid hS
  have hn2 := hS.cap_le
  have hm2 := hS.cap_max
  unfold maxLen at hm2
  clear hc2 ho2 hS
  obtain ⟨b3, off3, ho3, hc3⟩ := hW.cells
  have Hc3 := Lib.hid hc3
  have Ho3 := Lib.hid (fun q => (ho3 q).1)
  have H3 := Lib.hid hW
  have hn3 := hW.cap_le
  have hm3 := hW.cap_max
  unfold maxLen at hm3
  clear hc3 ho3 hW
  go_enter Try.func4, Try.ntmps4
  by_cases h1 : nk ≤ 20
  rotate_left
  · clear hF
    go_wp2_with fail
    refine (awake_any _).mono ?_
    rintro e w2 ⟨rfl, hg2⟩
    go_wp2_with fail
    go_ret
    exact ⟨rfl, by repeat (first | with_reducible exact Gr.refl _ | with_reducible refine Gr.drewN ?_ _ | with_reducible refine Gr.drew ?_ | with_reducible refine Gr.alloc ?_ _ | with_reducible refine Gr.setCell ?_ ?_ _ | (with_reducible refine Gr.trans ?_ (by assumption)) | omega | (dsimp only; omega))⟩
  by_cases h2 : ns ≤ 20
  rotate_left
  · clear hF
    go_wp2_with fail
    refine (awake_any _).mono ?_
    rintro e w2 ⟨rfl, hg2⟩
    go_wp2_with fail
    go_ret
    exact ⟨rfl, by repeat (first | with_reducible exact Gr.refl _ | with_reducible refine Gr.drewN ?_ _ | with_reducible refine Gr.drew ?_ | with_reducible refine Gr.alloc ?_ _ | with_reducible refine Gr.setCell ?_ ?_ _ | (with_reducible refine Gr.trans ?_ (by assumption)) | omega | (dsimp only; omega))⟩
  go_wp2_with fail
  refine hF.out.mono ?_
  rintro e w1 ⟨⟨b, rfl, hb⟩, d, rfl⟩
  have hg1 : Gr w (w.drewN d) := by repeat (first | with_reducible exact Gr.refl _ | with_reducible refine Gr.drewN ?_ _ | with_reducible refine Gr.drew ?_ | with_reducible refine Gr.alloc ?_ _ | with_reducible refine Gr.setCell ?_ ?_ _ | (with_reducible refine Gr.trans ?_ (by assumption)) | omega | (dsimp only; omega))
  generalize w.drewN d = w1 at *
  cases b
  · go_wp2_with fail
    refine (awake_any _).mono ?_
    rintro e w2 ⟨rfl, hg2⟩
    go_wp2_with fail
    go_ret
    exact ⟨rfl, by repeat (first | with_reducible exact Gr.refl _ | with_reducible refine Gr.drewN ?_ _ | with_reducible refine Gr.drew ?_ | with_reducible refine Gr.alloc ?_ _ | with_reducible refine Gr.setCell ?_ ?_ _ | (with_reducible refine Gr.trans ?_ (by assumption)) | omega | (dsimp only; omega))⟩
  have hn := hb rfl
  clear hb hF
  go_wp2_with fail
  go_loopw [34] (fun i wr => ∃ k : Nat, k ≤ nk ∧ i = .int .i64 k ∧ Gr w wr) (fun i _ => nk - (intOf i).toNat)
  case atStart => exact ⟨0, Nat.zero_le _, rfl, hg1⟩
  case round =>
    obtain ⟨k, hk, rfl, hg⟩ := hrel
    by_cases hlt : k < nk
    · have a1 := hg.keep (Hc1.out k hlt)
      have hI := run_st ck Ho1.out hlt
      have hz := H1.out.sizes k hlt
      unfold maxLen at hz
      by_cases hl : (sAt K k).size ≤ 100
      · go_wp2_with fail
        go_roundw
        case rel => exact ⟨k + 1, by omega, by go_num, by repeat (first | with_reducible exact Gr.refl _ | with_reducible refine Gr.drewN ?_ _ | with_reducible refine Gr.drew ?_ | with_reducible refine Gr.alloc ?_ _ | with_reducible refine Gr.setCell ?_ ?_ _ | (with_reducible refine Gr.trans ?_ (by assumption)) | omega | (dsimp only; omega))⟩
        case measure => simp [intOf]; omega
      · go_wp2_with fail
        refine (awake_any _).mono ?_
        rintro e w2 ⟨rfl, hg2⟩
        go_wp2_with fail
        go_ret
        exact ⟨rfl, hg.trans (by (repeat (first | with_reducible exact Gr.refl _ | with_reducible refine Gr.drewN ?_ _ | with_reducible refine Gr.drew ?_ | with_reducible refine Gr.alloc ?_ _ | with_reducible refine Gr.setCell ?_ ?_ _ | (with_reducible refine Gr.trans ?_ (by assumption)) | omega | (dsimp only; omega))))⟩
    · obtain rfl : k = nk := by omega
      clear hg1
      go_wp2_with fail
      go_loopw [9, 45] (fun v i wr => ∃ t : Nat, t ≤ ns ∧ i = .int .i64 t ∧ v = .bool ((S.take t).any (inSome l)) ∧ Gr w wr) (fun _ i _ => ns - (intOf i).toNat)
      case atStart => exact ⟨0, Nat.zero_le _, rfl, rfl, hg⟩
      case round =>
        clear hg
        obtain ⟨t, ht, rfl, rfl, hg⟩ := hrel
        by_cases htl : t < ns
        · have a1 := hg.keep (Hc2.out t htl).1
          have a2 := hg.keep (Hc2.out t htl).2.1
          have a3 := hg.keep (Hc2.out t htl).2.2
          have hI := run_sp cs Ho2.out htl
          have htS : t < S.length := by rw [H2.out.len]; exact htl
          have hz1 := (H2.out.sizes t htl).1
          have hz2 := (H2.out.sizes t htl).2
          have hz1' := hz1
          have hz2' := hz2
          unfold maxLen at hz1' hz2'
          by_cases hlow : (wAt S t).key.size ≤ 100
          · by_cases hhigh : (wAt S t).val.size ≤ 100
            · have hstep := any_take (inSome l) htS
              rw [← wAt_lt htS] at hstep
              have hfin : inSome l (wAt S t) = l.any (fun r => inW (wAt S t) r.key) := rfl
              generalize (S.take t).any (inSome l) = A at *
              have v0 : (wr.alloc (.cells #[.string (wAt S t).key, .string (wAt S t).val, .bool (wAt S t).gone] 42)).cell? ⟨wr.heap.size, 0, none⟩ = some (.string (wAt S t).key) := World.cell?_alloc_new wr _ _ 0
              have v1 : (wr.alloc (.cells #[.string (wAt S t).key, .string (wAt S t).val, .bool (wAt S t).gone] 42)).cell? ⟨wr.heap.size, 1, none⟩ = some (.string (wAt S t).val) := World.cell?_alloc_new wr _ _ 1
              have v2 : (wr.alloc (.cells #[.string (wAt S t).key, .string (wAt S t).val, .bool (wAt S t).gone] 42)).cell? ⟨wr.heap.size, 2, none⟩ = some (.bool (wAt S t).gone) := World.cell?_alloc_new wr _ _ 2
              go_wp2_with fail
              have hgb : Gr w (wr.alloc (.cells #[.string (wAt S t).key, .string (wAt S t).val, .bool (wAt S t).gone] 42)) := hg.alloc _
              generalize wr.alloc (.cells #[.string (wAt S t).key, .string (wAt S t).val, .bool (wAt S t).gone] 42) = wb at *
              generalize wr.heap.size = B at *
              clear a1 a2 a3 hI
              go_loopw [9, 62] (fun v i wj => ∃ j : Nat, j ≤ nw ∧ i = .int .i64 j ∧ v = .bool (A || (l.take j).any (fun r => inW (wAt S t) r.key)) ∧ Gr wb wj) (fun _ i _ => nw - (intOf i).toNat)
              case atStart => exact ⟨0, Nat.zero_le _, rfl, by simp, Gr.refl _⟩
              case round =>
                obtain ⟨j, hj, rfl, rfl, hgj⟩ := hrel
                have v0 := hgj.keep v0
                have v1 := hgj.keep v1
                have v2 := hgj.keep v2
                have hgwj := hgb.trans hgj
                by_cases hjl : j < nw
                · have a1 := hgwj.keep (Hc3.out j hjl).1
                  have a2 := hgwj.keep (Hc3.out j hjl).2.1
                  have a3 := hgwj.keep (Hc3.out j hjl).2.2
                  have hI := run_rwr cw Ho3.out hjl
                  have hjL : j < l.length := by rw [H3.out.len]; exact hjl
                  have hs := (H3.out.sizes j hjl).1
                  have hst := any_take (fun r => inW (wAt S t) r.key) hjL
                  rw [← wAt_lt hjL] at hst
                  have hN := Lib.hid (fun w => refIn_w (wAt S t) (wAt l j).key w hz1 hz2 hs)
                  have gx := (Gr.refl wr).alloc (.cells #[.string (wAt l j).key, .string (wAt l j).val, .bool (wAt l j).gone] 43)
                  have x0 := gx.keep v0
                  have x1 := gx.keep v1
                  have x2 := gx.keep v2
                  clear gx
                  have hst := Lib.hid (show (A || (l.take (j + 1)).any (fun r => inW (wAt S t) r.key)) = ((A || (l.take j).any (fun r => inW (wAt S t) r.key)) || inW (wAt S t) (wAt l j).key) by rw [hst, Bool.or_assoc])
                  generalize (A || (l.take j).any (fun r => inW (wAt S t) r.key)) = b at *
                  cases b
                  all_goals
                    go_wp2_with (go_at_call 18; refine (hN.out _).mono ?_; rintro e w7 ⟨rfl, hg7⟩; have hg7 := hg7.gr)
                    go_roundw
                    case rel => exact ⟨j + 1, by omega, by go_num, by rw [hst.out]; simp, hgj.trans (by (repeat (first | with_reducible exact Gr.refl _ | with_reducible refine Gr.drewN ?_ _ | with_reducible refine Gr.drew ?_ | with_reducible refine Gr.alloc ?_ _ | with_reducible refine Gr.setCell ?_ ?_ _ | (with_reducible refine Gr.trans ?_ (by assumption)) | omega | (dsimp only; omega))))⟩
                    case measure => simp [intOf]; omega
                · obtain rfl : j = nw := by omega
                  have e : (A || (l.take j).any (fun r => inW (wAt S t) r.key)) = (S.take (t + 1)).any (inSome l) := by
                    rw [← H3.out.len, List.take_length, hstep, hfin]
                  have E := Lib.hid e
                  clear e
                  go_wp2_with fail
                  go_roundw
                  case rel => exact ⟨t + 1, by omega, by go_num, by rw [E.out], hgwj⟩
                  case measure => simp [intOf]; omega
            · clear hz1 hz2
              go_wp2_with fail
              refine (awake_any _).mono ?_
              rintro e w2 ⟨rfl, hg2⟩
              go_wp2_with fail
              go_ret
              exact ⟨rfl, hg.trans (by (repeat (first | with_reducible exact Gr.refl _ | with_reducible refine Gr.drewN ?_ _ | with_reducible refine Gr.drew ?_ | with_reducible refine Gr.alloc ?_ _ | with_reducible refine Gr.setCell ?_ ?_ _ | (with_reducible refine Gr.trans ?_ (by assumption)) | omega | (dsimp only; omega))))⟩
          · clear hz1 hz2
            go_wp2_with fail
            refine (awake_any _).mono ?_
            rintro e w2 ⟨rfl, hg2⟩
            go_wp2_with fail
            go_ret
            exact ⟨rfl, hg.trans (by (repeat (first | with_reducible exact Gr.refl _ | with_reducible refine Gr.drewN ?_ _ | with_reducible refine Gr.drew ?_ | with_reducible refine Gr.alloc ?_ _ | with_reducible refine Gr.setCell ?_ ?_ _ | (with_reducible refine Gr.trans ?_ (by assumption)) | omega | (dsimp only; omega))))⟩
        · obtain rfl : t = ns := by omega
          have e : (S.take t).any (inSome l) = S.any (inSome l) := by rw [← H2.out.len, List.take_length]
          rw [e]
          clear e
          have hcl := clash_eq K S l
          have Hcl := Lib.hid hcl
          clear hcl
          generalize S.any (inSome l) = A at *
          go_wp2_with fail
          go_loopw [9, 82] (fun v i wr => ∃ p : Nat, p ≤ nw ∧ i = .int .i64 p ∧ v = .bool (A || (l.take p).any (among K)) ∧ Gr w wr) (fun _ i _ => nw - (intOf i).toNat)
          case atStart => exact ⟨0, Nat.zero_le _, rfl, by simp, hg⟩
          case round =>
            clear hg
            obtain ⟨p, hp, rfl, rfl, hg⟩ := hrel
            by_cases hpl : p < nw
            · have a1 := hg.keep (Hc3.out p hpl).1
              have a2 := hg.keep (Hc3.out p hpl).2.1
              have a3 := hg.keep (Hc3.out p hpl).2.2
              have hI := run_rwr cw Ho3.out hpl
              have hpL : p < l.length := by rw [H3.out.len]; exact hpl
              have hstep := any_take (among K) hpL
              rw [← wAt_lt hpL] at hstep
              have hfin : among K (wAt l p) = K.any (fun k' => decide (k' = (wAt l p).key)) := rfl
              have Hstep := Lib.hid (show (A || (l.take (p + 1)).any (among K)) = ((A || (l.take p).any (among K)) || K.any (fun k' => decide (k' = (wAt l p).key))) by rw [hstep, hfin, Bool.or_assoc])
              clear hstep hfin
              generalize (A || (l.take p).any (among K)) = D at *
              have v0 : (wr.alloc (.cells #[.string (wAt l p).key, .string (wAt l p).val, .bool (wAt l p).gone] 43)).cell? ⟨wr.heap.size, 0, none⟩ = some (.string (wAt l p).key) := World.cell?_alloc_new wr _ _ 0
              go_wp2_with fail
              have hgb : Gr w (wr.alloc (.cells #[.string (wAt l p).key, .string (wAt l p).val, .bool (wAt l p).gone] 43)) := hg.alloc _
              generalize wr.alloc (.cells #[.string (wAt l p).key, .string (wAt l p).val, .bool (wAt l p).gone] 43) = wb at *
              generalize wr.heap.size = B at *
              clear a1 a2 a3 hI
              go_loopw [9, 88] (fun v i wj => ∃ j : Nat, j ≤ k ∧ i = .int .i64 j ∧ v = .bool (D || (K.take j).any (fun k' => decide (k' = (wAt l p).key))) ∧ Gr wb wj) (fun _ i _ => k - (intOf i).toNat)
              case atStart => exact ⟨0, Nat.zero_le _, rfl, by simp, Gr.refl _⟩
              case round =>
                obtain ⟨j, hj, rfl, rfl, hgj⟩ := hrel
                have v0 := hgj.keep v0
                have hgwj := hgb.trans hgj
                by_cases hjl : j < k
                · have a1 := hgwj.keep (Hc1.out j hjl)
                  have hI := run_st ck Ho1.out hjl
                  have hjK : j < K.length := by rw [H1.out.len]; exact hjl
                  have hst := any_take (fun k' => decide (k' = (wAt l p).key)) hjK
                  rw [← sAt_lt hjK] at hst
                  have hst := Lib.hid (show (D || (K.take (j + 1)).any (fun k' => decide (k' = (wAt l p).key))) = ((D || (K.take j).any (fun k' => decide (k' = (wAt l p).key))) || decide (sAt K j = (wAt l p).key)) by rw [hst, Bool.or_assoc])
                  generalize (D || (K.take j).any (fun k' => decide (k' = (wAt l p).key))) = b at *
                  cases b
                  · by_cases he : sAt K j = (wAt l p).key
                    · have hf := eqL he
                      rw [decide_eq_true he] at hst
                      clear he
                      go_wp2_with fail
                      go_roundw
                      case rel => exact ⟨j + 1, by omega, by go_num, by rw [hst.out]; simp, hgj.trans (by (repeat (first | with_reducible exact Gr.refl _ | with_reducible refine Gr.drewN ?_ _ | with_reducible refine Gr.drew ?_ | with_reducible refine Gr.alloc ?_ _ | with_reducible refine Gr.setCell ?_ ?_ _ | (with_reducible refine Gr.trans ?_ (by assumption)) | omega | (dsimp only; omega))))⟩
                      case measure => simp [intOf]; omega
                    · have hf := neL he
                      rw [decide_eq_false he] at hst
                      clear he
                      go_wp2_with fail
                      go_roundw
                      case rel => exact ⟨j + 1, by omega, by go_num, by rw [hst.out]; simp, hgj.trans (by (repeat (first | with_reducible exact Gr.refl _ | with_reducible refine Gr.drewN ?_ _ | with_reducible refine Gr.drew ?_ | with_reducible refine Gr.alloc ?_ _ | with_reducible refine Gr.setCell ?_ ?_ _ | (with_reducible refine Gr.trans ?_ (by assumption)) | omega | (dsimp only; omega))))⟩
                      case measure => simp [intOf]; omega
                  · go_wp2_with fail
                    go_roundw
                    case rel => exact ⟨j + 1, by omega, by go_num, by rw [hst.out]; simp, hgj.trans (by (repeat (first | with_reducible exact Gr.refl _ | with_reducible refine Gr.drewN ?_ _ | with_reducible refine Gr.drew ?_ | with_reducible refine Gr.alloc ?_ _ | with_reducible refine Gr.setCell ?_ ?_ _ | (with_reducible refine Gr.trans ?_ (by assumption)) | omega | (dsimp only; omega))))⟩
                    case measure => simp [intOf]; omega
                · obtain rfl : j = k := by omega
                  have e : (D || (K.take j).any (fun k' => decide (k' = (wAt l p).key))) = (A || (l.take (p + 1)).any (among K)) := by
                    rw [Hstep.out, ← H1.out.len, List.take_length]
                  have E := Lib.hid e
                  clear e
                  go_wp2_with fail
                  go_roundw
                  case rel => exact ⟨p + 1, by omega, by go_num, by rw [E.out], hgwj⟩
                  case measure => simp [intOf]; omega
            · obtain rfl : p = nw := by omega
              have e : (A || (l.take p).any (among K)) = clash K S l := by rw [← H3.out.len, List.take_length]; exact Hcl.out.symm
              rw [e]
              clear e Hcl
              generalize hC : clash K S l = C at *
              have HC := Lib.hid hC
              clear hC
              go_wp2_with fail
              refine (given_n (H3.out.keep hg) (by omega)).mono ?_
              rintro e w5 ⟨o5, c5, rfl, ho5, hg5⟩
              have hL := ho5.rows
              have hgw5 := hg.trans hg5
              clear ho5
              have hX := clash_any ok os o5 k ck t cs p c5 K S l w5 (H1.out.keep hgw5) (H2.out.keep hgw5) hL
              rw [HC.out] at hX
              have hX := Lib.hid hX
              clear hL
              go_wp2_with fail
              refine hX.out.mono ?_
              rintro e w6 ⟨rfl, hg6⟩
              cases C
              all_goals
                go_wp2_with fail
                refine (awake_any _).mono ?_
                rintro e w7 ⟨rfl, hg7⟩
                go_wp2_with fail
                go_ret
                exact ⟨rfl, hgw5.trans (hg6.trans (by (repeat (first | with_reducible exact Gr.refl _ | with_reducible refine Gr.drewN ?_ _ | with_reducible refine Gr.drew ?_ | with_reducible refine Gr.alloc ?_ _ | with_reducible refine Gr.setCell ?_ ?_ _ | (with_reducible refine Gr.trans ?_ (by assumption)) | omega | (dsimp only; omega)))))⟩
end Go.Proofs.Ytfejdbcfcpmdiaa
