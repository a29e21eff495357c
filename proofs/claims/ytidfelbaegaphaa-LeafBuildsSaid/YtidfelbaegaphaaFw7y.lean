import Derived.Test.YtidfelbaegaphaaUpAy
import Derived.Test.YtidfelbaegaphaaGr7y
import Derived.Deep.RegionHeld3
import Derived.Test.YtidfelbaegaphaaSp7y
namespace Go.Proofs.Ytidfelbaegaphaa
set_option linter.unusedVariables false
set_option linter.unusedSimpArgs false
open Go.BigFrame Go.RowKit Go.WideShapes

theorem min3001 (a : Nat) : (if (3001 : Int) < (a : Int) then (3001 : Int) else (a : Int)) = ((min a 3001 : Nat) : Int) := by
  split <;> omega
/-- an answer that says at most that there are few -/
def FewSays7 (n : Nat) (l : List Ry) (e : Ending) : Prop := ∃ b : Bool, e = .returned (.bool b) ∧ (b = true → n ≤ 40 ∧ ∀ (i : Nat) (y : Ry), l[i]? = some y → y.x.r.rows.length ≤ 100)

set_option maxRecDepth 100000 in
set_option maxHeartbeats 4000000 in
theorem few7_any (oa : Option Addr) (n cap : Nat) (l : List Ry) (w : World) (h : RecsAt w oa n cap l) :
    Calls Try.prog 19 #[.slice oa n cap] w fun e w' => FewSays7 n l e ∧ Dr w w' := by
  have Hl := Lib.hid h.len
  have hcl := h.cap_le
  have hcm := h.cap_max
  unfold maxLen at hcm
  obtain ⟨b, off, ho, hc⟩ := h.get
  have Ho := Lib.hid ho
  have Hc := Lib.hid hc
  clear h ho hc
  go_enter Try.func19, Try.ntmps19
  go_wp2_with fail
  go_loopw [3, 4, 5] (fun s3 s4 s5 wr => ∃ k c m : Nat, k ≤ n ∧ k ≤ 41 ∧ c ≤ k * 101 ∧ m ≤ k * 700000 ∧ s5 = .int .i64 k ∧ s3 = .int .i64 c ∧ s4 = .int .i64 m ∧ Hid (∀ (i : Nat) (y : Ry), i < k → l[i]? = some y → min y.x.r.rows.length 101 ≤ c) ∧ Dr w wr) (fun _ _ s5 _ => n - (intOf s5).toNat)
  case atStart => exact ⟨0, 0, 0, Nat.zero_le _, Nat.zero_le _, Nat.zero_le _, Nat.zero_le _, rfl, rfl, rfl, Lib.hid fun i y hi _ => by omega, Dr.refl _⟩
  case round =>
    obtain ⟨k, c, m, hk, hk41, hck, hmk, rfl, rfl, rfl, hall, d, rfl⟩ := hrel
    by_cases hlt : k < n ∧ k ≤ 40
    · obtain ⟨hlt, hk40⟩ := hlt
      have hy : l[k]? = some (l[k]'(by have := Hl.out; omega)) := List.getElem?_eq_getElem _
      generalize (l[k]'(by have := Hl.out; omega)) = y at hy
      obtain ⟨o1, n1, c1, o2, n2, c2, R⟩ := Hc.out k y hy
      have hI := run_rec cap Ho.out hlt
      have Hn1 := Lib.hid R.rows.len
      have a1 : w.cell? ⟨b, off + k * 15 + 1, none⟩ = some (.string y.x.r.low) := R.cell 1 rfl
      have a2 : w.cell? ⟨b, off + k * 15 + 2, none⟩ = some (.string y.x.r.high) := R.cell 2 rfl
      have a5 : w.cell? ⟨b, off + k * 15 + 5, none⟩ = some (.slice o1 n1 c1) := R.cell 5 rfl
      have a7 : w.cell? ⟨b, off + k * 15 + 7, none⟩ = some (.string y.x.r.key) := R.cell 7 rfl
      have a8 : w.cell? ⟨b, off + k * 15 + 8, none⟩ = some (.string y.x.r.val) := R.cell 8 rfl
      have hR1 := R.rows
      obtain ⟨b2, off2, ho2, hc2⟩ := hR1.cells
      have Hc2 := Lib.hid hc2
      have Ho2 := Lib.hid (fun q => (ho2 q).1)
      have H2 := Lib.hid hR1
      have hn2 := hR1.cap_le
      have hm2 := hR1.cap_max
      unfold maxLen at hm2
      clear hc2 ho2 hR1
      have Hy := Lib.hid hy
      have hb1 : n1 ≤ c1 := hn2
      clear hy R
      go_upto_region 5 with fail
      go_cut [4] (fun s4 wx => ∃ m2 : Nat, s4 = .int .i64 m2 ∧ m2 ≤ m + 12004 ∧ Dr w wx)
      case first =>
        go_big_quiet (fail)
        simp only [min3001]
        go_wp2_with fail
        go_meet
        refine ⟨m + (min y.x.r.key.size 3001 + min y.x.r.val.size 3001 + min y.x.r.low.size 3001 + min y.x.r.high.size 3001), ?_, by omega, by repeat (first | with_reducible exact Dr.refl _ | with_reducible refine Dr.step ?_ _ | with_reducible refine Dr.drew ?_ | (with_reducible refine Dr.trans ?_ (by assumption)))⟩
        go_num
      case rest =>
        obtain ⟨m2, rfl, hm3, d2, rfl⟩ := hcut
        clear a1 a2 a7 a8
        go_wp2_with fail
        go_loopw [3, 4, 6] (fun s3 s4 s6 wr => ∃ q m4 : Nat, q ≤ n1 ∧ q ≤ 101 ∧ m4 ≤ m2 + q * 6002 ∧ s6 = .int .i64 q ∧ s3 = .int .i64 (c + q : Nat) ∧ s4 = .int .i64 m4 ∧ Dr w wr) (fun _ _ s6 _ => n1 - (intOf s6).toNat)
        case atStart => exact ⟨0, m2, Nat.zero_le _, Nat.zero_le _, by omega, rfl, rfl, rfl, by repeat (first | with_reducible exact Dr.refl _ | with_reducible refine Dr.step ?_ _ | with_reducible refine Dr.drew ?_ | (with_reducible refine Dr.trans ?_ (by assumption)))⟩
        case round =>
          obtain ⟨q, m4, hq, hq101, hm4, rfl, rfl, rfl, d4, rfl⟩ := hrel
          by_cases hlq : q < n1 ∧ q ≤ 100
          · obtain ⟨hlq, hq100⟩ := hlq
            have hI2 := run_row c1 Ho2.out hlq
            have e1 := (Hc2.out q hlq).1
            have e2 := (Hc2.out q hlq).2
            go_upto_region 9 with fail
            go_cut [4] (fun s4 wx => ∃ m5 : Nat, s4 = .int .i64 m5 ∧ m5 ≤ m4 + 6002 ∧ Dr w wx)
            case first =>
              go_big_quiet (fail)
              simp only [min3001]
              go_wp2_with fail
              go_meet
              refine ⟨m4 + (min (kAt y.x.r.rows q).size 3001 + min (vAt y.x.r.rows q).size 3001), ?_, by omega, by repeat (first | with_reducible exact Dr.refl _ | with_reducible refine Dr.step ?_ _ | with_reducible refine Dr.drew ?_ | (with_reducible refine Dr.trans ?_ (by assumption)))⟩
              go_num
            case rest =>
              obtain ⟨m5, rfl, hm5, d5, rfl⟩ := hcut
              go_wp2_with fail
              go_roundw
              case rel => exact ⟨q + 1, m5, by omega, by omega, by omega, by go_num, by go_num, rfl, by repeat (first | with_reducible exact Dr.refl _ | with_reducible refine Dr.step ?_ _ | with_reducible refine Dr.drew ?_ | (with_reducible refine Dr.trans ?_ (by assumption)))⟩
              case measure => simp [intOf]; omega
          · have hq2 : min n1 101 ≤ q := by omega
            go_wp2_with fail
            all_goals
              go_roundw
              case rel => exact ⟨k + 1, c + q, m4, by omega, by omega, by omega, by omega, by go_num, rfl, rfl, Lib.hid fun i y' hi hy' => by
                rcases Nat.lt_or_ge i k with z | z
                · have := hall.out i y' z hy'; omega
                · obtain rfl : i = k := by omega
                  rw [Hy.out] at hy'
                  cases hy'
                  rw [Hn1.out]; omega, by repeat (first | with_reducible exact Dr.refl _ | with_reducible refine Dr.step ?_ _ | with_reducible refine Dr.drew ?_ | (with_reducible refine Dr.trans ?_ (by assumption)))⟩
              case measure => simp [intOf]; omega
    · go_wp2_with fail
      all_goals
        go_ret
        refine ⟨⟨_, rfl, fun q => ?_⟩, by repeat (first | with_reducible exact Dr.refl _ | with_reducible refine Dr.step ?_ _ | with_reducible refine Dr.drew ?_ | (with_reducible refine Dr.trans ?_ (by assumption)))⟩
        refine ⟨by first | omega | (simp at q) | (simp at q; omega), fun i y hy => ?_⟩
        have h1 := (List.getElem?_eq_some_iff.1 hy).1
        rw [Hl.out] at h1
        have h2 := hall.out i y (by first | omega | (simp at q) | (simp at q; omega)) hy
        first | omega | (simp at q) | (simp at q; omega)
end Go.Proofs.Ytidfelbaegaphaa

namespace Go.Proofs.Ytidfelbaegaphaa
set_option linter.unusedVariables false
set_option linter.unusedSimpArgs false
open Go.BigFrame Go.RowKit Go.WideShapes

/-! A view as the program has it, and whether it is small. -/
set_option maxRecDepth 100000 in
set_option maxHeartbeats 20000000 in
theorem given_any (v : Vw) (oa : Option Addr) (n cap : Nat) (w : World) (h : RowsAt w oa n cap v.rows) (hn : n ≤ 1000000) :
    Calls Try.prog 6 #[vwV v oa n cap] w fun e w' => ∃ o c, e = .returned (vwV v o n c) ∧ RowsAt w' o n c v.rows ∧ Gr w w' := by
  have s1 := size_alloc1
  obtain ⟨W, hW⟩ : ∃ W, W = (w.alloc (.cells (vL v oa n cap).toArray 24)).alloc (.cells zL.toArray 27) := ⟨_, rfl⟩
  have B0 : Bx W w.heap.size (vL v oa n cap) := by rw [hW]; exact ((Bx.new w _ _ rfl).keep ((Gr.refl _).alloc _)).of (by simp)
  have Z0 : Bx W (w.heap.size + 1) zL := by rw [hW]; exact (Bx.new (w.alloc _) _ _ (by rw [s1])).of (by simp)
  have hg0 : Gr w W := by rw [hW]; exact ((Gr.refl _).alloc _).alloc _
  have hsz : W.heap.size = w.heap.size + 2 := by rw [hW, s1, s1]
  have HR := Lib.hid (h.keep hg0)
  go_enter Try.func6, Try.ntmps6
  go_upto_region 1 with fail
  rw [← hW]
  clear hW h s1
  have Hsz := Lib.hid hsz
  generalize hBX : w.heap.size = BX at *
  clear hsz
  have v0 := B0.cell 0 rfl
  have v1 := B0.cell 1 rfl
  have v2 := B0.cell 2 rfl
  have v3 := B0.cell 3 rfl
  have v4 := B0.cell 4 rfl
  have v5 := B0.cell 5 rfl
  go_region_held3 (fun W' => W'.cell? ⟨BX, 0, none⟩ = some (.string v.low) ∧ W'.cell? ⟨BX, 1, none⟩ = some (.string v.high) ∧ W'.cell? ⟨BX, 2, none⟩ = some (.bool v.unb) ∧ W'.cell? ⟨BX, 3, none⟩ = some (.int .i64 v.right) ∧ W'.cell? ⟨BX, 4, none⟩ = some (.slice oa n cap) ∧ W'.cell? ⟨BX, 5, none⟩ = some (.bool v.gone))
    ((go_split_ands; (repeat' apply And.intro) <;> first | with_reducible assumption | (with_reducible refine Gr.keep hg5 ?_; with_reducible assumption) | ((repeat (first | with_reducible refine drew1 ?_ | with_reducible refine alloc1 ?_ | with_reducible refine far1 ?_ (by omega))); first | with_reducible assumption | (with_reducible refine Gr.keep hg5 ?_; (repeat (first | with_reducible refine drew1 ?_ | with_reducible refine alloc1 ?_)); with_reducible assumption)))) ((refine step_rows (w0 := W) rfl _ _ rfl (by repeat (first | with_reducible exact Gr.refl _ | with_reducible refine Gr.drewN ?_ _ | with_reducible refine Gr.drew ?_ | with_reducible refine Gr.alloc ?_ _ | with_reducible refine Gr.setCell ?_ ?_ _ | (with_reducible refine Gr.trans ?_ (by assumption)) | omega | (dsimp only; omega))) rfl ((own_empty (w := W) (Gr.refl W)).keep (by repeat (first | with_reducible exact Gr.refl _ | with_reducible refine Gr.drewN ?_ _ | with_reducible refine Gr.drew ?_ | with_reducible refine Gr.alloc ?_ _ | with_reducible refine Gr.setCell ?_ ?_ _ | (with_reducible refine Gr.trans ?_ (by assumption)) | omega | (dsimp only; omega)))) rfl (HR.out.keep (by repeat (first | with_reducible exact Gr.refl _ | with_reducible refine Gr.drewN ?_ _ | with_reducible refine Gr.drew ?_ | with_reducible refine Gr.alloc ?_ _ | with_reducible refine Gr.setCell ?_ ?_ _ | (with_reducible refine Gr.trans ?_ (by assumption)) | omega | (dsimp only; omega)))) (by omega) ?_; intro oc c3 w5 ho1 hg5; simp only [Nat.zero_add, List.nil_append] at ho1; have HO := Lib.hid ho1; clear ho1; have Z1 := Z0.keep hg5; have q0 := (Z1).cell 0 rfl; have q1 := (Z1).cell 1 rfl; have q2 := (Z1).cell 2 rfl; have q3 := (Z1).cell 3 rfl; have q4 := (Z1).cell 4 rfl; have q5 := (Z1).cell 5 rfl; have p0 := (Z1).free 0 (by simp); have p1 := (Z1).free 1 (by simp); have p2 := (Z1).free 2 (by simp); have p3 := (Z1).free 3 (by simp); have p4 := (Z1).free 4 (by simp); have p5 := (Z1).free 5 (by simp)))
  all_goals
    go_wp2_with fail
    have hsz := Hsz.out
    have ZF := box6 Z1 (by simp) (.string v.low) (.string v.high) (.bool v.unb) (.int .i64 v.right) (.slice oc n c3) (.bool v.gone)
    have hlt : ∀ g, Value.ownBlock (.slice oc n c3) = some g → W.heap.size ≤ g := fun g hg => (HO.out.own.lt g hg).1
    have HO2 : OwnAt w5 W.heap.size oc n c3 v.rows := HO.out
    have hO := own6 (b := BX + 1) HO2 (fun q => by have := hlt _ q; omega) (.string v.low) (.string v.high) (.bool v.unb) (.int .i64 v.right) (.slice oc n c3) (.bool v.gone)
    have hgz := gr6 (hg0.trans hg5) (b := BX + 1) (by omega) (.string v.low) (.string v.high) (.bool v.unb) (.int .i64 v.right) (.slice oc n c3) (.bool v.gone)
    refine bodyPost_ret (ZF.ret1 rfl _ rfl Try.underlying27 rfl (by kernel_rfl)) rfl ?_
    exact ⟨oc, c3, rfl, hO.rows, hgz⟩
end Go.Proofs.Ytidfelbaegaphaa

namespace Go.Proofs.Ytidfelbaegaphaa
set_option linter.unusedVariables false
set_option linter.unusedSimpArgs false
open Go.BigFrame Go.RowKit Go.WideShapes

/-! A view as the program has it, and whether it is small. -/
abbrev fewRx (v : Vw) : Rx := ⟨⟨0, v.low, v.high, false, 0, v.rows, ⟨#[]⟩, ⟨#[]⟩, 0⟩, 0, 0, ⟨#[]⟩, 0, 0⟩
set_option maxRecDepth 100000 in
set_option maxHeartbeats 20000000 in
theorem fewV_any (v : Vw) (oa : Option Addr) (n cap : Nat) (w : World) (h : RowsAt w oa n cap v.rows) (hv : VwSz v) :
    Calls Try.prog 4 #[vwV v oa n cap] w fun e w' => (∃ b : Bool, e = .returned (.bool b) ∧ (b = true → n ≤ 100)) ∧ Gr w w' := by
  have hl := Lib.hid h.len
  have HR := Lib.hid h
  have HV := Lib.hid hv
  have B0 : Bx (w.alloc (.cells (vL v oa n cap).toArray 24)) w.heap.size (vL v oa n cap) := (Bx.new w _ _ rfl).of (by simp)
  have hg0 := (Gr.refl w).alloc (.cells (vL v oa n cap).toArray 24)
  clear h hv
  go_enter Try.func4, Try.ntmps4
  go_upto_region 1 with fail
  have HR := Lib.hid (HR.out.keep hg0)
  generalize w.alloc (.cells (vL v oa n cap).toArray 24) = W at *
  generalize w.heap.size = BX at *
  have v0 := B0.cell 0 rfl
  have v1 := B0.cell 1 rfl
  have v4 := B0.cell 4 rfl
  have hR := Lib.hid fun (w1 : World) (hq : Gr W w1) => show RecsAt (w1.alloc (.cells (xL (fewRx v) oa n cap none 0 0).toArray 35)) (some ⟨w1.heap.size, 0, none⟩) 1 1 [⟨fewRx v, []⟩] from
    SlE.one (vs := xL (fewRx v) oa n cap none 0 0) (by omega) (Nat.le_refl _) (by unfold maxLen; omega) rfl (by simp [Value.oneCell']) ⟨oa, n, cap, none, 0, 0, rfl, (HR.out.keep hq).keep ((Gr.refl _).alloc _), SlE.nil _ _ _, ⟨HV.out.low, HV.out.high, Nat.zero_le _, Nat.zero_le _, Nat.zero_le _⟩⟩ (fun j u hj => by
      have := (Bx.new w1 (xL (fewRx v) oa n cap none 0 0).toArray 35 rfl).cell j (by simpa using hj)
      simpa using this)
  have hF := Lib.hid fun (w1 : World) (hq : Gr W w1) => few7_any (some ⟨w1.heap.size, 0, none⟩) 1 1 [⟨fewRx v, []⟩] _ (hR.out w1 hq)
  clear hR
  go_wp2_with (go_at_call 19; (with_reducible refine (hF.out _ ?_).mono ?_); (focus ((repeat (first | with_reducible exact Gr.refl _ | with_reducible refine Gr.drewN ?_ _ | with_reducible refine Gr.drew ?_ | with_reducible refine Gr.alloc ?_ _ | with_reducible refine Gr.setCell ?_ ?_ _ | (with_reducible refine Gr.trans ?_ (by assumption)) | omega | (dsimp only; omega))); done)); rintro e w3 ⟨⟨b, rfl, hb⟩, d, rfl⟩)
  go_ret
  refine ⟨⟨b, rfl, fun q => ?_⟩, by repeat (first | with_reducible exact Gr.refl _ | with_reducible refine Gr.drewN ?_ _ | with_reducible refine Gr.drew ?_ | with_reducible refine Gr.alloc ?_ _ | with_reducible refine Gr.setCell ?_ ?_ _ | (with_reducible refine Gr.trans ?_ (by assumption)) | omega | (dsimp only; omega))⟩
  have := (hb q).2 0 ⟨fewRx v, []⟩ rfl
  rw [← hl.out]
  exact this
end Go.Proofs.Ytidfelbaegaphaa

namespace Go.Proofs.Ytidfelbaegaphaa
set_option linter.unusedVariables false
set_option linter.unusedSimpArgs false
open Go.BigFrame Go.RowKit Go.WideShapes

/-! Records in boxes, and what is built, as records. -/
/-- a record in a box of its own, and what it leads to -/
structure RB (w : World) (b : Nat) (y : Ry) (o : Option Addr) (n c : Nat) (o2 : Option Addr) (n2 c2 : Nat) : Prop where
  box : Bx w b (xL y.x o n c o2 n2 c2)
  rows : RowsAt w o n c y.x.r.rows
  ents : EntsAt w o2 n2 c2 y.ents
theorem RB.keep {w w' : World} {b : Nat} {y : Ry} {o : Option Addr} {n c : Nat} {o2 : Option Addr} {n2 c2 : Nat} (h : RB w b y o n c o2 n2 c2) (hg : Gr w w') : RB w' b y o n c o2 n2 c2 := ⟨h.box.keep hg, h.rows.keep hg, SlE.keep EnE_mono h.ents hg⟩
abbrev zY : Ry := ⟨⟨⟨0, ⟨#[]⟩, ⟨#[]⟩, false, 0, [], ⟨#[]⟩, ⟨#[]⟩, 0⟩, 0, 0, ⟨#[]⟩, 0, 0⟩, []⟩
theorem rows_nil (w : World) : RowsAt w none 0 0 [] := ⟨rfl, Nat.le_refl _, Nat.zero_le _, fun _ => rfl, ⟨0, 0, fun q => absurd q (by omega), fun i hi => absurd hi (by omega)⟩, fun i hi => absurd hi (by omega)⟩
/-- such a value -/
def Rv (w : World) (y : Ry) (o : Option Addr) (n c : Nat) (o2 : Option Addr) (n2 c2 : Nat) : Prop := RowsAt w o n c y.x.r.rows ∧ EntsAt w o2 n2 c2 y.ents
theorem rv_zero (w : World) : Rv w zY none 0 0 none 0 0 := ⟨rows_nil _, SlE.nil _ _ _⟩
theorem rv_none {w : World} {x : Rx} (h : x.r.rows = []) : Rv w ⟨x, []⟩ none 0 0 none 0 0 := ⟨by show RowsAt w none 0 0 x.r.rows; rw [h]; exact rows_nil _, SlE.nil _ _ _⟩
theorem rb_one {w : World} {y : Ry} {o : Option Addr} {n c : Nat} {o2 : Option Addr} {n2 c2 : Nat} (h : Rv w y o n c o2 n2 c2) :
    RB ((w.alloc (.cells zR.toArray 35)).setCells w.heap.size 0 (xL y.x o n c o2 n2 c2)) w.heap.size y o n c o2 n2 c2 ∧ Gr w ((w.alloc (.cells zR.toArray 35)).setCells w.heap.size 0 (xL y.x o n c o2 n2 c2)) := by
  have hg := ((Gr.refl w).alloc (.cells zR.toArray 35)).setCells (Nat.le_refl _) (xL y.x o n c o2 n2 c2) 0
  exact ⟨⟨((Bx.new w zR.toArray 35 rfl).of (us := zR) (by simp)).setAll rfl, h.1.keep hg, SlE.keep EnE_mono h.2 hg⟩, hg⟩
set_option maxHeartbeats 4000000 in
theorem rb_two {w : World} {y z : Ry} {o : Option Addr} {n c : Nat} {o2 : Option Addr} {n2 c2 : Nat} {p : Option Addr} {m d : Nat} {p2 : Option Addr} {m2 d2 : Nat} (h : Rv w y o n c o2 n2 c2) (k : Rv w z p m d p2 m2 d2) (W : World)
    (hW : W = (((w.alloc (.cells zR.toArray 35)).alloc (.cells zR.toArray 35)).setCells w.heap.size 0 (xL y.x o n c o2 n2 c2)).setCells (w.heap.size + 1) 0 (xL z.x p m d p2 m2 d2)) :
    RB W w.heap.size y o n c o2 n2 c2 ∧ RB W (w.heap.size + 1) z p m d p2 m2 d2 ∧ Gr w W := by
  have s1 := size_alloc1
  subst hW
  have A : Bx ((w.alloc (.cells zR.toArray 35)).alloc (.cells zR.toArray 35)) w.heap.size zR := ((Bx.new w _ _ rfl).keep ((Gr.refl _).alloc _)).of (by simp)
  have B : Bx ((w.alloc (.cells zR.toArray 35)).alloc (.cells zR.toArray 35)) (w.heap.size + 1) zR := (Bx.new (w.alloc _) _ _ (by rw [s1])).of (by simp)
  have hg := ((((Gr.refl w).alloc (.cells zR.toArray 35)).alloc (.cells zR.toArray 35)).setCells (Nat.le_refl _) (xL y.x o n c o2 n2 c2) 0).setCells (b := w.heap.size + 1) (by omega) (xL z.x p m d p2 m2 d2) 0
  have A1 := (A.setAll (us := xL y.x o n c o2 n2 c2) rfl).others (b' := w.heap.size + 1) (by omega) (xL z.x p m d p2 m2 d2)
  have B1 := (B.others (b' := w.heap.size) (by omega) (xL y.x o n c o2 n2 c2)).setAll (us := xL z.x p m d p2 m2 d2) rfl
  exact ⟨⟨A1, h.1.keep hg, SlE.keep EnE_mono h.2 hg⟩, ⟨B1, k.1.keep hg, SlE.keep EnE_mono k.2 hg⟩, hg⟩
set_option maxHeartbeats 4000000 in
theorem rb_three {w : World} {y z x : Ry} {o : Option Addr} {n c : Nat} {o2 : Option Addr} {n2 c2 : Nat} {p : Option Addr} {m d : Nat} {p2 : Option Addr} {m2 d2 : Nat} {q : Option Addr} {k e : Nat} {q2 : Option Addr} {k2 e2 : Nat} (h : Rv w y o n c o2 n2 c2) (i : Rv w z p m d p2 m2 d2) (j : Rv w x q k e q2 k2 e2) (W : World)
    (hW : W = (((((w.alloc (.cells zR.toArray 35)).alloc (.cells zR.toArray 35)).alloc (.cells zR.toArray 35)).setCells w.heap.size 0 (xL y.x o n c o2 n2 c2)).setCells (w.heap.size + 1) 0 (xL z.x p m d p2 m2 d2)).setCells (w.heap.size + 1 + 1) 0 (xL x.x q k e q2 k2 e2)) :
    RB W w.heap.size y o n c o2 n2 c2 ∧ RB W (w.heap.size + 1) z p m d p2 m2 d2 ∧ RB W (w.heap.size + 1 + 1) x q k e q2 k2 e2 ∧ Gr w W := by
  have s1 := size_alloc1
  subst hW
  have A : Bx (((w.alloc (.cells zR.toArray 35)).alloc (.cells zR.toArray 35)).alloc (.cells zR.toArray 35)) w.heap.size zR := (((Bx.new w _ _ rfl).keep ((Gr.refl _).alloc _)).keep ((Gr.refl _).alloc _)).of (by simp)
  have B : Bx (((w.alloc (.cells zR.toArray 35)).alloc (.cells zR.toArray 35)).alloc (.cells zR.toArray 35)) (w.heap.size + 1) zR := ((Bx.new (w.alloc _) _ _ (by rw [s1])).keep ((Gr.refl _).alloc _)).of (by simp)
  have C : Bx (((w.alloc (.cells zR.toArray 35)).alloc (.cells zR.toArray 35)).alloc (.cells zR.toArray 35)) (w.heap.size + 1 + 1) zR := (Bx.new ((w.alloc _).alloc _) _ _ (by rw [s1, s1])).of (by simp)
  have hg := (((((Gr.refl w).alloc (.cells zR.toArray 35)).alloc (.cells zR.toArray 35)).alloc (.cells zR.toArray 35)).setCells (Nat.le_refl _) (xL y.x o n c o2 n2 c2) 0).setCells (b := w.heap.size + 1) (by omega) (xL z.x p m d p2 m2 d2) 0
  have hg := hg.setCells (b := w.heap.size + 1 + 1) (by omega) (xL x.x q k e q2 k2 e2) 0
  have A1 := (A.setAll (us := xL y.x o n c o2 n2 c2) rfl).others (b' := w.heap.size + 1) (by omega) (xL z.x p m d p2 m2 d2)
  have A2 := A1.others (b' := w.heap.size + 1 + 1) (by omega) (xL x.x q k e q2 k2 e2)
  have B1 := (B.others (b' := w.heap.size) (by omega) (xL y.x o n c o2 n2 c2)).setAll (us := xL z.x p m d p2 m2 d2) rfl
  have B2 := B1.others (b' := w.heap.size + 1 + 1) (by omega) (xL x.x q k e q2 k2 e2)
  have C1 := (C.others (b' := w.heap.size) (by omega) (xL y.x o n c o2 n2 c2)).others (b' := w.heap.size + 1) (by omega) (xL z.x p m d p2 m2 d2)
  have C2 := C1.setAll (us := xL x.x q k e q2 k2 e2) rfl
  exact ⟨⟨A2, h.1.keep hg, SlE.keep EnE_mono h.2 hg⟩, ⟨B2, i.1.keep hg, SlE.keep EnE_mono i.2 hg⟩, ⟨C2, j.1.keep hg, SlE.keep EnE_mono j.2 hg⟩, hg⟩
/-! What is built. -/
def splitY (v : Vw) (page : Int) : Ry × Ry := match (hvV v).1 with | some key => (⟨sRc key page, []⟩, ⟨bRc (hvB v key), []⟩) | none => (zY, zY)
def growY (v : Vw) (left right : Int) : Ry × Ry × Ry := match (hvV v).1 with | some key => (⟨bRc (hvAr v key right), []⟩, ⟨bRc (hvB v key), []⟩, ⟨tRc v, [⟨v.low, left⟩, ⟨key, right⟩]⟩) | none => (zY, zY, zY)
def mergeY (v : Vw) : Ry := if v.gone = true then ⟨mRc v, []⟩ else zY
def errE (v : Vw) : Value := match (hvV v).1 with | some _ => .nilIface | none => errV (hvV v).2
def errM (v : Vw) : Value := if v.gone = true then .nilIface else errV 13
def Two (w : World) (y z : Ry) (r : Value) (e : Ending) (w' : World) : Prop := ∃ o n c o2 n2 c2 p m d p2 m2 d2, e = .returned (.tuple #[rxV y.x o n c o2 n2 c2, rxV z.x p m d p2 m2 d2, r]) ∧ Rv w' y o n c o2 n2 c2 ∧ Rv w' z p m d p2 m2 d2 ∧ Gr w w'
def Three (w : World) (y z x : Ry) (r : Value) (e : Ending) (w' : World) : Prop := ∃ o n c o2 n2 c2 p m d p2 m2 d2 q k i q2 k2 i2, e = .returned (.tuple #[rxV y.x o n c o2 n2 c2, rxV z.x p m d p2 m2 d2, rxV x.x q k i q2 k2 i2, r]) ∧ Rv w' y o n c o2 n2 c2 ∧ Rv w' z p m d p2 m2 d2 ∧ Rv w' x q k i q2 k2 i2 ∧ Gr w w'
def One (w : World) (y : Ry) (r : Value) (e : Ending) (w' : World) : Prop := ∃ o n c o2 n2 c2, e = .returned (.tuple #[rxV y.x o n c o2 n2 c2, r]) ∧ Rv w' y o n c o2 n2 c2 ∧ Gr w w'
theorem half_head {w : World} {oa : Option Addr} {n cap : Nat} {l : List Rw} (h : RowsAt w oa n cap l) : RowsAt w oa (n / 2) cap (l.take (l.length / 2)) := by
  rw [h.len]; exact h.head (k := n / 2) (by omega)
theorem half_tail {w : World} {oa : Option Addr} {n cap : Nat} {l : List Rw} (h : RowsAt w oa n cap l) : RowsAt w (tailA oa (n / 2) cap) (n - n / 2) (cap - n / 2) (l.drop (l.length / 2)) := by
  rw [h.len]; exact h.tail (k := n / 2) (by omega)
theorem split_u (v : Vw) (page : Int) (oa : Option Addr) (n cap : Nat) (w : World) (h : RowsAt w oa n cap v.rows) (hn : n ≤ 1000000) :
    Calls Try.prog 7 #[vwV v oa n cap, .int .i64 page] w (Two w (splitY v page).1 (splitY v page).2 (errE v)) := by
  refine (split_any v page oa n cap w h hn).mono fun e w' q => ?_
  unfold SplitTells at q
  unfold Two splitY errE
  cases hk : (hvV v).1 with
  | none =>
    rw [hk] at q
    obtain ⟨rfl, hg⟩ := q
    exact ⟨none, 0, 0, none, 0, 0, none, 0, 0, none, 0, 0, rfl, rv_zero _, rv_zero _, hg⟩
  | some key =>
    rw [hk] at q
    obtain ⟨o, m, c, rfl, hO, hg⟩ := q
    exact ⟨none, 0, 0, none, 0, 0, o, m, c, none, 0, 0, rfl, rv_none rfl, ⟨hO.rows, SlE.nil _ _ _⟩, hg⟩
theorem refSplit_u (v : Vw) (page : Int) (oa : Option Addr) (n cap : Nat) (w : World) (h : RowsAt w oa n cap v.rows) (hn : n ≤ 1000000) :
    Calls Try.prog 8 #[vwV v oa n cap, .int .i64 page] w (Two w (splitY v page).1 (splitY v page).2 (.bool (hvV v).1.isSome)) := by
  refine (refSplit_any v page oa n cap w h hn).mono fun e w' q => ?_
  obtain ⟨he, hg⟩ := q
  unfold refSplitV at he
  unfold Two splitY
  cases hk : (hvV v).1 with
  | none =>
    rw [hk] at he
    exact ⟨none, 0, 0, none, 0, 0, none, 0, 0, none, 0, 0, he, rv_zero _, rv_zero _, hg⟩
  | some key =>
    rw [hk] at he
    exact ⟨none, 0, 0, none, 0, 0, _, _, _, none, 0, 0, he, rv_none rfl, ⟨half_tail (h.keep hg), SlE.nil _ _ _⟩, hg⟩
theorem grow_u (v : Vw) (left right : Int) (oa : Option Addr) (n cap : Nat) (w : World) (h : RowsAt w oa n cap v.rows) (hn : n ≤ 1000000) (hv : VwSz v) :
    Calls Try.prog 9 #[vwV v oa n cap, .int .i64 left, .int .i64 right] w (Three w (growY v left right).1 (growY v left right).2.1 (growY v left right).2.2 (errE v)) := by
  refine (grow_any v left right oa n cap w h hn hv).mono fun e w' q => ?_
  unfold GrowTells at q
  unfold Three growY errE
  cases hk : (hvV v).1 with
  | none =>
    rw [hk] at q
    obtain ⟨rfl, hg⟩ := q
    exact ⟨none, 0, 0, none, 0, 0, none, 0, 0, none, 0, 0, none, 0, 0, none, 0, 0, rfl, rv_zero _, rv_zero _, rv_zero _, hg⟩
  | some key =>
    rw [hk] at q
    obtain ⟨o1, m1, c1, o2, m2, c2, eo, rfl, h1, h2, h3, hg⟩ := q
    exact ⟨o1, m1, c1, none, 0, 0, o2, m2, c2, none, 0, 0, none, 0, 0, eo, 2, 2, rfl, ⟨h1, SlE.nil _ _ _⟩, ⟨h2, SlE.nil _ _ _⟩, ⟨rows_nil _, h3⟩, hg⟩
theorem refGrow_u (v : Vw) (left right : Int) (oa : Option Addr) (n cap : Nat) (w : World) (h : RowsAt w oa n cap v.rows) (hn : n ≤ 1000000) (hv : VwSz v) :
    Calls Try.prog 10 #[vwV v oa n cap, .int .i64 left, .int .i64 right] w (Three w (growY v left right).1 (growY v left right).2.1 (growY v left right).2.2 (.bool (hvV v).1.isSome)) := by
  refine (refGrow_any v left right oa n cap w h hn hv).mono fun e w' q => ?_
  unfold RGrowTells at q
  unfold Three growY
  cases hk : (hvV v).1 with
  | none =>
    rw [hk] at q
    obtain ⟨rfl, hg⟩ := q
    exact ⟨none, 0, 0, none, 0, 0, none, 0, 0, none, 0, 0, none, 0, 0, none, 0, 0, rfl, rv_zero _, rv_zero _, rv_zero _, hg⟩
  | some key =>
    rw [hk] at q
    obtain ⟨eo, rfl, h3, hg⟩ := q
    exact ⟨_, _, _, none, 0, 0, _, _, _, none, 0, 0, none, 0, 0, eo, 2, 2, rfl, ⟨half_head (h.keep hg), SlE.nil _ _ _⟩, ⟨half_tail (h.keep hg), SlE.nil _ _ _⟩, ⟨rows_nil _, h3⟩, hg⟩
theorem merge_u (v : Vw) (oa : Option Addr) (n cap : Nat) (w : World) (h : RowsAt w oa n cap v.rows) (hn : n ≤ 1000000) :
    Calls Try.prog 11 #[vwV v oa n cap] w (One w (mergeY v) (errM v)) := by
  refine (merge7_any v oa n cap w h hn).mono fun e w' q => ?_
  unfold MergeTells at q
  unfold One mergeY errM
  by_cases hg : v.gone = true
  · rw [if_pos hg] at q
    obtain ⟨o, m, c, rfl, hO, hg2⟩ := q
    rw [if_pos hg, if_pos hg]
    exact ⟨o, m, c, none, 0, 0, rfl, ⟨hO.rows, SlE.nil _ _ _⟩, hg2⟩
  · rw [if_neg hg] at q
    obtain ⟨rfl, hg2⟩ := q
    rw [if_neg hg, if_neg hg]
    exact ⟨none, 0, 0, none, 0, 0, rfl, rv_zero _, hg2⟩
theorem refMerge_u (v : Vw) (oa : Option Addr) (n cap : Nat) (w : World) (h : RowsAt w oa n cap v.rows) :
    Calls Try.prog 12 #[vwV v oa n cap] w (One w (mergeY v) (.bool v.gone)) := by
  refine (refMerge_any v oa n cap w).mono fun e w' q => ?_
  obtain ⟨he, hg⟩ := q
  unfold refMergeV at he
  unfold One mergeY
  by_cases hq : v.gone = true
  · rw [if_pos hq] at he
    rw [if_pos hq, hq]
    exact ⟨oa, n, cap, none, 0, 0, he, ⟨h.keep hg, SlE.nil _ _ _⟩, hg⟩
  · rw [if_neg hq] at he
    rw [if_neg hq]
    cases hz : v.gone
    · exact ⟨none, 0, 0, none, 0, 0, he, rv_zero _, hg⟩
    · exact absurd hz hq
end Go.Proofs.Ytidfelbaegaphaa
