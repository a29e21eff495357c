import Derived.Test.YtfejdbcfcpmdiaaWa
namespace Go.Proofs.Ytfejdbcfcpmdiaa
set_option linter.unusedVariables false
set_option linter.unusedSimpArgs false
open Go.BigFrame Go.RowKit Go.WideShapes

def sAt (l : List ByteArray) (i : Nat) : ByteArray := l.getD i ByteArray.empty
theorem sAt_lt {l : List ByteArray} {i : Nat} (h : i < l.length) : sAt l i = l[i] := by
  unfold sAt; rw [List.getD_eq_getElem?_getD, List.getElem?_eq_getElem h]; rfl
/-- the slice '.slice oa n cap' holds these texts -/
structure StrsAt (w : World) (oa : Option Addr) (n cap : Nat) (l : List ByteArray) : Prop where
  len : l.length = n
  cap_le : n ≤ cap
  cap_max : cap ≤ maxLen
  none : oa = none → cap = 0
  cells : ∃ b off, (0 < n → oa = some ⟨b, off, Option.none⟩ ∧ b < w.heap.size) ∧ ∀ i, i < n → w.cell? ⟨b, off + i, Option.none⟩ = some (.string (sAt l i))
  sizes : ∀ i, i < n → (sAt l i).size ≤ maxLen
theorem StrsAt.keep {w w' : World} {oa : Option Addr} {n cap : Nat} {l : List ByteArray} (h : StrsAt w oa n cap l) (hg : Gr w w') : StrsAt w' oa n cap l := by
  obtain ⟨h1, h2, h3, h4, ⟨b, off, h5, h6⟩, h7⟩ := h
  exact ⟨h1, h2, h3, h4, ⟨b, off, fun q => ⟨(h5 q).1, Nat.lt_of_lt_of_le (h5 q).2 hg.le⟩, fun i hi => hg.keep (h6 i hi)⟩, h7⟩
theorem cells_strT : Try.prog.cellsOf 9 = 1 := by kernel_rfl
theorem cells_spanT : Try.prog.cellsOf 42 = 3 := by kernel_rfl
theorem run_st {oa : Option Addr} {n b off : Nat} (cap : Nat) (ho : 0 < n → oa = some ⟨b, off, none⟩) {k : Nat} (hk : k < n) (w : World) :
    (Instr.indexAt 39 (.slice oa n cap) (.int .i64 (k : Int))).run Try.prog w = .ok (.pointer (some ⟨b, off + k, none⟩)) w := by
  rw [ho (by omega)]
  go_simp
theorem run_sp {oa : Option Addr} {n b off : Nat} (cap : Nat) (ho : 0 < n → oa = some ⟨b, off, none⟩) {k : Nat} (hk : k < n) (w : World) :
    (Instr.indexAt 40 (.slice oa n cap) (.int .i64 (k : Int))).run Try.prog w = .ok (.pointer (some ⟨b, off + k * 3, none⟩)) w := by
  rw [ho (by omega)]
  go_simp

/-- is a key in a span? -/
def inW (s : Wt) (key : ByteArray) : Bool := inB s.key s.val s.gone key
/-- does a write clash with keys and spans? -/
def hits (K : List ByteArray) (S : List Wt) (r : Wt) : Bool := K.any (fun k => decide (k = r.key)) || S.any (fun s => inW s r.key)
def clash (K : List ByteArray) (S : List Wt) (l : List Wt) : Bool := l.any (hits K S)
theorem any_no {α : Type} {f : α → Bool} {l : List α} (h : ∀ i (hi : i < l.length), f l[i] = false) : l.any f = false := by
  rw [List.any_eq_false]
  intro x hx
  obtain ⟨i, hi, rfl⟩ := List.getElem_of_mem hx
  rw [h i hi]; decide
theorem any_yes {α : Type} {f : α → Bool} {l : List α} {i : Nat} (hi : i < l.length) (h : f l[i] = true) : l.any f = true :=
  List.any_eq_true.2 ⟨l[i], List.getElem_mem hi, h⟩

set_option maxRecDepth 100000 in
set_option maxHeartbeats 4000000 in
theorem clash_any (ok os ow : Option Addr) (nk ck ns cs nw cw : Nat) (K : List ByteArray) (S l : List Wt) (w : World) (hK : StrsAt w ok nk ck K) (hS : WritesAt w os ns cs S) (hW : WritesAt w ow nw cw l) :
    Calls Try.prog 19 #[.slice ok nk ck, .slice os ns cs, .slice ow nw cw] w fun e w' => e = .returned (.bool (clash K S l)) ∧ Gr w w' := by
  obtain ⟨b1, off1, ho1, hc1⟩ := hK.cells
  have Hc1 := Lib.hid hc1
  have Ho1 := Lib.hid (fun q => (ho1 q).1)
  have H1 := Lib.hid hK
  have hn1 := hK.cap_le
  have hm1 := hK.cap_max
  unfold maxLen at hm1
  clear hc1 ho1 hK
  obtain ⟨b2, off2, ho2, hc2⟩ := hS.cells
  have Hc2 := Lib.hid hc2
  have Ho2 := Lib.hid (fun q => (ho2 q).1)
  have H2 := Lib.hid hS
  have hn2 := hS.cap_le
  have hm2 := hS.cap_max
  unfold maxLen at hm2
  clear hc2 ho2 hS
  obtain ⟨b3, off3, ho3, hc3⟩ := hW.cells
  have Hc3 := Lib.hid hc3
  have Ho3 := Lib.hid (fun q => (ho3 q).1)
  have H3 := Lib.hid hW
  have hn3 := hW.cap_le
  have hm3 := hW.cap_max
  unfold maxLen at hm3
  clear hc3 ho3 hW
  go_enter Try.func19, Try.ntmps19
  go_wp2_with fail
  go_loopw [15] (fun i wr => ∃ k : Nat, k ≤ nw ∧ i = .int .i64 k ∧ Hid (∀ j, j < k → hits K S (wAt l j) = false) ∧ Gr w wr) (fun i _ => nw - (intOf i).toNat)
  case atStart => exact ⟨0, Nat.zero_le _, rfl, Lib.hid fun j hj => by omega, Gr.refl _⟩
  case round =>
    obtain ⟨k, hk, rfl, hp, hg⟩ := hrel
    by_cases hlt : k < nw
    · obtain ⟨a1, a2, a3⟩ := Hc3.out k hlt
      have a1 := hg.keep a1
      have a2 := hg.keep a2
      have a3 := hg.keep a3
      have hI := run_wr cw Ho3.out hlt
      have hs := (H3.out.sizes k hlt).1
      have hkl : k < l.length := by rw [H3.out.len]; exact hlt
      go_wp2_with fail
      have hx : (wr.alloc (.cells #[.string (wAt l k).key, .string (wAt l k).val, .bool (wAt l k).gone] 28)).cell? ⟨wr.heap.size, 0, none⟩ = some (.string (wAt l k).key) := (box3 wr (wAt l k).key (wAt l k).val (wAt l k).gone).1
      have hgb : Gr wr (wr.alloc (.cells #[.string (wAt l k).key, .string (wAt l k).val, .bool (wAt l k).gone] 28)) := (Gr.refl _).alloc _
      generalize wr.alloc (.cells #[.string (wAt l k).key, .string (wAt l k).val, .bool (wAt l k).gone] 28) = wb at *
      have hgwb : Gr w wb := hg.trans hgb
      generalize wr.heap.size = B at *
      clear a1 a2 a3 hI hgb
      go_loopw [21] (fun i wj => ∃ j : Nat, j ≤ nk ∧ i = .int .i64 j ∧ Hid (∀ q, q < j → sAt K q ≠ (wAt l k).key) ∧ Gr wb wj) (fun i _ => nk - (intOf i).toNat)
      case atStart => exact ⟨0, Nat.zero_le _, rfl, Lib.hid fun j hj => by omega, Gr.refl _⟩
      case round =>
        obtain ⟨j, hj, rfl, hq, hgj⟩ := hrel
        have hx := hgj.keep hx
        by_cases hjl : j < nk
        · have a1 := (hgwb.trans hgj).keep (Hc1.out j hjl)
          have hI := run_st ck Ho1.out hjl
          have hjK : j < K.length := by rw [H1.out.len]; exact hjl
          by_cases he : sAt K j = (wAt l k).key
          · have e : clash K S l = true := any_yes hkl (by
              unfold hits
              rw [← wAt_lt hkl, any_yes hjK (by rw [decide_eq_true_iff, ← sAt_lt hjK]; exact he)]; rfl)
            have E := Lib.hid e
            have hf := eqL he
            clear e he
            go_wp2_with fail
            go_ret
            exact ⟨by rw [E.out]; rfl, hgwb.trans (hgj.trans (by (repeat (first | with_reducible exact Gr.refl _ | with_reducible refine Gr.drewN ?_ _ | with_reducible refine Gr.drew ?_ | with_reducible refine Gr.alloc ?_ _ | with_reducible refine Gr.setCell ?_ ?_ _ | (with_reducible refine Gr.trans ?_ (by assumption)) | omega | (dsimp only; omega)))))⟩
          · have hf := neL he
            have He := Lib.hid he
            clear he
            go_wp2_with fail
            go_roundw
            case rel => exact ⟨j + 1, by omega, by go_num, Lib.hid fun q hq2 => by
              rcases Nat.lt_or_ge q j with r | r
              · exact hq.out q r
              · obtain rfl : q = j := by omega
                exact He.out, by repeat (first | with_reducible exact Gr.refl _ | with_reducible refine Gr.drewN ?_ _ | with_reducible refine Gr.drew ?_ | with_reducible refine Gr.alloc ?_ _ | with_reducible refine Gr.setCell ?_ ?_ _ | (with_reducible refine Gr.trans ?_ (by assumption)) | omega | (dsimp only; omega))⟩
            case measure => simp [intOf]; omega
        · obtain rfl : j = nk := by omega
          have hnK : K.any (fun k' => decide (k' = (wAt l k).key)) = false := any_no fun i hi => by
            rw [decide_eq_false_iff_not, ← sAt_lt hi]
            exact hq.out i (by rw [H1.out.len] at hi; exact hi)
          have HnK := Lib.hid hnK
          have hgwj := hgwb.trans hgj
          clear hq hnK hgj
          go_wp2_with fail
          go_loopw [32] (fun i wj => ∃ t : Nat, t ≤ ns ∧ i = .int .i64 t ∧ Hid (∀ q, q < t → inW (wAt S q) (wAt l k).key = false) ∧ Gr wr wj) (fun i _ => ns - (intOf i).toNat)
          case atStart => exact ⟨0, Nat.zero_le _, rfl, Lib.hid fun j hj => by omega, Gr.refl _⟩
          case round =>
            obtain ⟨t, ht, rfl, hq, hgt⟩ := hrel
            have hx := hgt.keep hx
            have hgwt := hgwj.trans hgt
            by_cases htl : t < ns
            · have a1 := hgwt.keep (Hc2.out t htl).1
              have a2 := hgwt.keep (Hc2.out t htl).2.1
              have a3 := hgwt.keep (Hc2.out t htl).2.2
              have hI := run_sp cs Ho2.out htl
              have htS : t < S.length := by rw [H2.out.len]; exact htl
              have hx2 := ((Gr.refl _).alloc (.cells #[.string (wAt S t).key, .string (wAt S t).val, .bool (wAt S t).gone] 42)).keep hx
              have hz1 := (H2.out.sizes t htl).1
              have hz2 := (H2.out.sizes t htl).2
              have hN := Lib.hid (fun w => in_any (wAt S t).key (wAt S t).val (wAt S t).gone (wAt l k).key w hz1 hz2 hs)
              cases he : inW (wAt S t) (wAt l k).key
              · rw [show inB (wAt S t).key (wAt S t).val (wAt S t).gone (wAt l k).key = false from he] at hN
                have He := Lib.hid he
                clear he
                go_wp2_with (go_at_call 41; refine (hN.out _).mono ?_; rintro e w7 ⟨rfl, hg7⟩; have hg7 := hg7.gr)
                go_roundw
                case rel => exact ⟨t + 1, by omega, by go_num, Lib.hid fun q hq2 => by
                  rcases Nat.lt_or_ge q t with r | r
                  · exact hq.out q r
                  · obtain rfl : q = t := by omega
                    exact He.out, hgt.trans (Gr.trans (by (repeat (first | with_reducible exact Gr.refl _ | with_reducible refine Gr.drewN ?_ _ | with_reducible refine Gr.drew ?_ | with_reducible refine Gr.alloc ?_ _ | with_reducible refine Gr.setCell ?_ ?_ _ | (with_reducible refine Gr.trans ?_ (by assumption)) | omega | (dsimp only; omega)))) hg7)⟩
                case measure => simp [intOf]; omega
              · have e : clash K S l = true := any_yes hkl (by
                  unfold hits
                  rw [← wAt_lt hkl, any_yes (l := S) htS (by rw [← wAt_lt htS]; exact he)]; simp)
                have E := Lib.hid e
                rw [show inB (wAt S t).key (wAt S t).val (wAt S t).gone (wAt l k).key = true from he] at hN
                clear he e
                go_wp2_with (go_at_call 41; refine (hN.out _).mono ?_; rintro e w7 ⟨rfl, hg7⟩; have hg7 := hg7.gr)
                go_ret
                exact ⟨by rw [E.out]; rfl, hgwt.trans (Gr.trans (by (repeat (first | with_reducible exact Gr.refl _ | with_reducible refine Gr.drewN ?_ _ | with_reducible refine Gr.drew ?_ | with_reducible refine Gr.alloc ?_ _ | with_reducible refine Gr.setCell ?_ ?_ _ | (with_reducible refine Gr.trans ?_ (by assumption)) | omega | (dsimp only; omega)))) hg7)⟩
            · obtain rfl : t = ns := by omega
              have hnS : S.any (fun s' => inW s' (wAt l k).key) = false := any_no fun i hi => by
                rw [← wAt_lt hi]
                exact hq.out i (by rw [H2.out.len] at hi; exact hi)
              have HnH : Hid (hits K S (wAt l k) = false) := Lib.hid (by unfold hits; rw [HnK.out, hnS]; rfl)
              clear hnS HnK hq
              go_wp2_with fail
              go_roundw
              case rel => exact ⟨k + 1, by omega, by go_num, Lib.hid fun q hq2 => by
                rcases Nat.lt_or_ge q k with r | r
                · exact hp.out q r
                · obtain rfl : q = k := by omega
                  exact HnH.out, hgwt⟩
              case measure => simp [intOf]; omega
    · obtain rfl : k = nw := by omega
      have e : clash K S l = false := any_no fun i hi => by
        rw [← wAt_lt hi]
        exact hp.out i (by rw [H3.out.len] at hi; exact hi)
      have E := Lib.hid e
      clear e
      go_wp2_with fail
      go_ret
      exact ⟨by rw [E.out]; rfl, hg⟩
end Go.Proofs.Ytfejdbcfcpmdiaa
