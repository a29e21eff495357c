import Derived.Test.YtkngjnkecmjakaaHrP
import Derived.Test.YtkngjnkecmjakaaRfO
import Derived.Test.YtkngjnkecmjakaaErr
import Derived.Test.YtkngjnkecmjakaaEo
namespace Go.Proofs.Ytkngjnkecmjakaa
set_option linter.unusedVariables false
set_option linter.unusedSimpArgs false
open Go.BigFrame Go.RowKit Go.WideShapes

set_option maxRecDepth 100000 in
theorem faultIs_any (n m : Int) (w : World) : Calls Try.prog 21 #[errV n, .int .i64 m] w fun e w' => e = .returned (.bool (n == m)) ∧ Gr w w' := by
  go_enter Try.func21, Try.ntmps21
  go_wp2_with fail
  refine (is_code n m _).mono ?_
  rintro e w1 ⟨rfl, rfl⟩
  go_wp2_with fail
  go_ret
  exact ⟨rfl, by repeat (first | with_reducible exact Gr.refl _ | with_reducible refine Gr.drewN ?_ _ | with_reducible refine Gr.drew ?_ | with_reducible refine Gr.alloc ?_ _ | with_reducible refine Gr.setCell ?_ ?_ _ | (with_reducible refine Gr.trans ?_ (by assumption)) | omega | (dsimp only; omega))⟩

theorem evown_at {w : World} {base : Nat} {oe : Option Addr} {n c : Nat} {l : List Ev} (h : OwnE w base oe n c l) (hn : 0 < n) : ∃ g, oe = some ⟨g, 0, none⟩ ∧ base ≤ g ∧ g < w.heap.size ∧ ∀ o, w.frozen? ⟨g, o, none⟩ = false := by
  rcases h.own.2 with ⟨e, hn0⟩ | ⟨g, cap, cur, e, hg, hc, rest⟩
  · omega
  · simp only [Value.slice.injEq] at e
    obtain ⟨rfl, -, -⟩ := e
    refine ⟨g, rfl, hg, ?_, fun o => ?_⟩
    · rcases Nat.lt_or_ge g w.heap.size with q | q
      · exact q
      · rw [Array.getElem?_eq_none q] at hc; cases hc
    · unfold World.frozen?
      rw [hc]; simp
abbrev clW (w : World) (c : Cl) : World := w.alloc (.cells #[.int .i64 c.kind, .string c.key, .string c.val] 37)
theorem clbox (w : World) (c : Cl) : (clW w c).cell? ⟨w.heap.size, 0, none⟩ = some (.int .i64 c.kind) ∧ (clW w c).cell? ⟨w.heap.size, 1, none⟩ = some (.string c.key) ∧ (clW w c).cell? ⟨w.heap.size, 2, none⟩ = some (.string c.val) :=
  ⟨World.cell?_alloc_new w _ _ 0, World.cell?_alloc_new w _ _ 1, World.cell?_alloc_new w _ _ 2⟩

set_option maxRecDepth 100000 in
set_option maxHeartbeats 4000000 in
theorem hro_walk (oc : Option Addr) (n cap : Nat) (cs : List Cl) (m : Nat) (hm8 : m < 256) (w : World) (hC : CallsAt w oc n cap cs) :
    Calls Try.prog 5 #[.slice oc n cap, .int .u8 (m : Int)] w fun e w' => e = .returned (.bool true) ∧ Gr w w' := by
  have Hz := Lib.hid hC.sizes
  obtain ⟨b1, off1, ho1, hc1⟩ := hC.cells
  have Hc1 := Lib.hid hc1
  have Ho1 := Lib.hid (fun q => (ho1 q).1)
  have H1 := Lib.hid hC
  have hn1 := hC.cap_le
  have hm1 := hC.cap_max
  unfold maxLen at hm1
  clear hc1 ho1 hC
  by_cases h6 : 6 < n
  · have h6' : decide (6 < (n : Int)) = true := by simp; omega
    go_enter Try.func5, Try.ntmps5
    go_wp2_with fail
    refine (awake19_any _).mono ?_
    rintro e w1 ⟨rfl, hg1⟩
    go_wp2_with fail
    go_ret
    exact ⟨rfl, by repeat (first | with_reducible exact Gr.refl _ | with_reducible refine Gr.drewN ?_ _ | with_reducible refine Gr.drew ?_ | with_reducible refine Gr.alloc ?_ _ | with_reducible refine Gr.setCell ?_ ?_ _ | (with_reducible refine Gr.trans ?_ (by assumption)) | omega | (dsimp only; omega))⟩
  have h6' : decide (6 < (n : Int)) = false := by simp; omega
  go_enter Try.func5, Try.ntmps5
  go_wp2_with fail
  go_loopw [5, 6, 26] (fun ve vr vi wr => ∃ (k : Nat) (oe : Option Addr) (ce : Nat) (orr : Option Addr) (nr cr : Nat), k ≤ n ∧ ve = .slice oe k ce ∧ Hid (OwnE wr w.heap.size oe k ce (evsSeq cs k)) ∧ vr = .slice orr nr cr ∧ Hid (OwnAt wr w.heap.size orr nr cr (rowsAfter cs k)) ∧ vi = .int .i64 k ∧ Hid (∀ i, i < k → mayB (clAt cs i).kind (clAt cs i).key (clAt cs i).val = true ∧ (clAt cs i).key.size ≤ 100 ∧ (clAt cs i).val.size ≤ 100) ∧ Gr w wr) (fun _ _ v _ => n - (intOf v).toNat)
  case atStart => exact ⟨0, none, 0, none, 0, 0, Nat.zero_le _, rfl, Lib.hid (evown_nil _ _), rfl, Lib.hid (own_nil _ _), rfl, Lib.hid fun i hi => by omega, Gr.refl _⟩
  case round =>
    obtain ⟨k, oe, ce, orr, nr, cr, hk, rfl, hOE, rfl, hRr, rfl, hmay, hg⟩ := hrel
    by_cases hlt : k < n
    · obtain ⟨a0, a1, a2⟩ := Hc1.out k hlt
      have a0 := hg.keep a0
      have a1 := hg.keep a1
      have a2 := hg.keep a2
      have hI := run_cl cap Ho1.out hlt
      obtain ⟨v0, v1, v2⟩ := clbox wr (clAt cs k)
      have hgx := (Gr.refl wr).alloc (.cells #[.int .i64 (clAt cs k).kind, .string (clAt cs k).key, .string (clAt cs k).val] 37)
      have hz := Hz.out k hlt
      unfold clW at v0 v1 v2
      by_cases hk1 : 100 < (clAt cs k).key.size
      · have hk1' : decide (100 < ((clAt cs k).key.size : Int)) = true := by simp; omega
        unfold maxLen at hz
        go_wp2_with fail
        refine (awake19_any _).mono ?_
        rintro e w1 ⟨rfl, hg1⟩
        go_wp2_with fail
        go_ret
        exact ⟨rfl, hg.trans (hgx.trans hg1)⟩
      have hk1' : decide (100 < ((clAt cs k).key.size : Int)) = false := by simp; omega
      by_cases hk2 : 100 < (clAt cs k).val.size
      · have hk2' : decide (100 < ((clAt cs k).val.size : Int)) = true := by simp; omega
        unfold maxLen at hz
        go_wp2_with fail
        refine (awake19_any _).mono ?_
        rintro e w1 ⟨rfl, hg1⟩
        go_wp2_with fail
        go_ret
        exact ⟨rfl, hg.trans (hgx.trans hg1)⟩
      have hk2' : decide (100 < ((clAt cs k).val.size : Int)) = false := by simp; omega
      have hM := fun w1 => refMay_any (clAt cs k).kind (clAt cs k).key (clAt cs k).val w1 hz.1 hz.2
      cases hm : mayB (clAt cs k).kind (clAt cs k).key (clAt cs k).val
      · rw [hm] at hM
        have HM := Lib.hid hM
        unfold maxLen at hz
        clear hM hm
        go_wp2_with fail
        refine (HM.out _).mono ?_
        rintro e w1 ⟨rfl, hg1⟩
        go_wp2_with fail
        refine (awake19_any _).mono ?_
        rintro e w2 ⟨rfl, hg2⟩
        go_wp2_with fail
        go_ret
        exact ⟨rfl, hg.trans (hgx.trans (hg1.trans hg2))⟩
      · rw [hm] at hM
        have HM := Lib.hid hM
        have hkd := may_kinds hm
        have Hm := Lib.hid hm
        have hrlen := rowsAfter_len cs k
        have hrl := hRr.out.rows.len
        have HAp := Lib.hid (fun w1 (hq : Gr wr w1) => refApply_own orr nr cr (rowsAfter cs k) (clAt cs k).kind (clAt cs k).key (clAt cs k).val w1 (Nat.le_trans hg.le hq.le) (hRr.out.keep hq) (by omega) hz.1 hz.2 hkd)
        have hz1 := hz
        have HRows := Lib.hid (show (applyL (clAt cs k).kind (clAt cs k).key (clAt cs k).val (rowsAfter cs k)).1 = rowsAfter cs (k + 1) from rfl)
        have htold := applyL_told (kind := (clAt cs k).kind) (key := (clAt cs k).key) (val := (clAt cs k).val) (rowsAfter_ok (cs := cs) (k := k) fun i hi => (hmay.out i hi).1)
        have HSeq := Lib.hid (show evSeq cs k = ⟨0, (clAt cs k).kind, (clAt cs k).key, (clAt cs k).val, (applyL (clAt cs k).kind (clAt cs k).key (clAt cs k).val (rowsAfter cs k)).2.1, (applyL (clAt cs k).kind (clAt cs k).key (clAt cs k).val (rowsAfter cs k)).2.2, 2 * (k : Int), 2 * (k : Int) + 1⟩ from rfl)
        generalize applyL (clAt cs k).kind (clAt cs k).key (clAt cs k).val (rowsAfter cs k) = r at *
        obtain ⟨rl2, rt, rc⟩ := r
        unfold maxLen at hz
        clear hM hm
        go_wp2_with fail
        refine (HM.out _).mono ?_
        rintro e w1 ⟨rfl, hg1⟩
        have v0 := hg1.keep v0
        have v1 := hg1.keep v1
        have v2 := hg1.keep v2
        have hg1 := hgx.trans hg1
        clear HM hgx a0 a1 a2
        generalize wr.heap.size = BX at *
        go_wp2_with fail
        refine (HAp.out _ hg1).mono ?_
        rintro e w2 ⟨o2, q2, c2, rfl, hr2, hg2⟩
        have v0 := hg2.keep v0
        have v1 := hg2.keep v1
        have v2 := hg2.keep v2
        have hOE2 := Lib.hid (hOE.out.keep (hg1.trans hg2))
        have hr2 := Lib.hid hr2
        have hgw := hg.trans (hg1.trans hg2)
        clear hg hg1 hg2 HAp hOE hRr
        have htold2 : rt.size ≤ maxLen := by have : rt.size ≤ 16 := htold; unfold maxLen; omega
        have hgb := hgw.alloc (.cells #[.int .i64 0, .int .i64 (clAt cs k).kind, .string (clAt cs k).key, .string (clAt cs k).val, .string rt, .int .i64 rc, .int .i64 (2 * (k : Int)), .int .i64 (2 * (k : Int) + 1)] 40)
        have hOEb := Lib.hid (hOE2.out.keep ((Gr.refl w2).alloc (.cells #[.int .i64 0, .int .i64 (clAt cs k).kind, .string (clAt cs k).key, .string (clAt cs k).val, .string rt, .int .i64 rc, .int .i64 (2 * (k : Int)), .int .i64 (2 * (k : Int) + 1)] 40)))
        go_wp2_with (at_builtin; refine wpList_ev rfl _ _ rfl w.heap.size hgb.le rfl hOEb.out rfl (ev_one (e := ⟨0, (clAt cs k).kind, (clAt cs k).key, (clAt cs k).val, rt, rc, 2 * (k : Int), 2 * (k : Int) + 1⟩) (b := w2.heap.size) (Nat.le_refl _) (by unfold maxLen; omega) (by simp [go_sem]) (by simp [go_sem]) (by simp [go_sem]) (by simp [go_sem]) (by simp [go_sem]) (by simp [go_sem]) (by simp [go_sem]) (by simp [go_sem]) ⟨hz1.1, hz1.2, htold2⟩) (by omega) ?_; intro oc3 c3 w3 ho3 hb3; have hg3 : Gr w w3 := evgrown_gr hb3 hOEb.out hgb (Nat.le_refl _); have hFr := evFr hOEb.out hb3; have ho3 := Lib.hid ho3; clear hb3)
        have hrn := Lib.hid (show OwnAt w3 w.heap.size o2 q2 c2 (rowsAfter cs (k + 1)) by rw [← HRows.out]; exact Fr.own (hr2.out.keep ((Gr.refl w2).alloc _)) hFr)
        rw [← HSeq.out, ← evsSeq_succ] at ho3
        have hmay2 := Lib.hid (show ∀ i, i < k + 1 → mayB (clAt cs i).kind (clAt cs i).key (clAt cs i).val = true ∧ (clAt cs i).key.size ≤ 100 ∧ (clAt cs i).val.size ≤ 100 from fun i hi => by
          rcases Nat.lt_or_ge i k with q | q
          · exact hmay.out i q
          · obtain rfl : i = k := by omega
            exact ⟨Hm.out, by omega, by omega⟩)
        go_roundw
        case rel => exact ⟨k + 1, oc3, c3, o2, q2, c2, by omega, rfl, ho3, rfl, hrn, by go_num, hmay2, hg3⟩
        case measure => simp [intOf]; omega
    · obtain rfl : k = n := by omega
      clear Hc1 Ho1
      have hOX := Lib.hid (evown_empty (w := wr) rfl (Nat.le_refl wr.heap.size))
      have hev := Lib.hid (hOE.out.rows.keep ((Gr.refl wr).alloc (.cells #[] 40)))
      go_wp2_with (at_builtin; refine wpList_ev rfl _ _ rfl wr.heap.size (Gr.le (by repeat (first | with_reducible exact Gr.refl _ | with_reducible refine Gr.drewN ?_ _ | with_reducible refine Gr.drew ?_ | with_reducible refine Gr.alloc ?_ _ | with_reducible refine Gr.setCell ?_ ?_ _ | (with_reducible refine Gr.trans ?_ (by assumption)) | omega | (dsimp only; omega)))) rfl hOX.out rfl hev.out (by omega) ?_; intro oE cE wE hoE hgE; rw [Nat.zero_add] at hoE; have hgE2 : Gr wr wE := evgrown_gr hgE hOX.out ((Gr.refl wr).alloc _) (Nat.le_refl _); have hOEn := Lib.hid hoE; clear hoE hgE)
      have hEv := hOEn.out.rows
      rw [List.nil_append] at hEv
      have hmb := fun i (hi : i < k) => (hmay.out i hi).1
      have hO1 := order_ok oE k cE (evsSeq cs k) none 0 0 [] wE hEv (rows_none _) (by omega) (by omega) (fun i hi => by rw [evsSeq_at hi]; exact evSeq_ok (hmb i hi)) (by decide)
      rw [rows_found hmb] at hO1
      have hO1 := Lib.hid hO1
      have hOE2 := Lib.hid (hOE.out.keep hgE2)
      have hRr2 := Lib.hid (hRr.out.keep hgE2)
      have hgw := hg.trans hgE2
      clear hOX hev hOEn hEv hOE hRr hg hgE2
      refine hO1.out.mono ?_
      rintro e w4 ⟨⟨ov, o1, q1, c1, rfl, hown, hOr⟩, hg4⟩
      obtain ⟨oi, ci, rfl, hI⟩ := ints_of_own hown
      rw [List.length_range] at hI
      have HI := Lib.hid hI
      have hS := refSame_any o1 orr q1 c1 nr cr _ _ w4 hOr.rows ((hRr2.out.keep hg4).rows)
      rw [decide_eq_true rfl] at hS
      have hS := Lib.hid hS
      have hOE4 := Lib.hid (hOE2.out.keep hg4)
      have hgw4 := hgw.trans hg4
      clear hown hOr hI hO1 hOE2 hRr2 hgw hg4
      simp only [List.length_range]
      go_wp2_with fail
      refine hS.out.mono ?_
      rintro e w5 ⟨rfl, hd5⟩
      have hg5 := hd5.gr
      have HI5 := Lib.hid (HI.out.keep hg5)
      have hOE5 := Lib.hid (hOE4.out.keep hg5)
      have hgw5 := hgw4.trans hg5
      clear HI hS hOE4 hgw4 hg5 hd5
      go_wp2_with fail
      go_loopw [93] (fun vi wr => ∃ j : Nat, j ≤ k ∧ vi = .int .i64 j ∧ Gr w5 wr) (fun v _ => k - (intOf v).toNat)
      case atStart => exact ⟨0, Nat.zero_le _, rfl, Gr.refl _⟩
      case round =>
        obtain ⟨j, hj, rfl, hg⟩ := hrel
        by_cases hjl : j < k
        · obtain ⟨b, off, hb, hc⟩ := HI5.out.cells
          have a0 := hg.keep (hc j hjl)
          rw [show natAt (List.range k) j = j by rw [natAt_lt (by simpa using hjl)]; simp] at a0
          have hIx := run_int ci (fun q => (hb q).1) hjl
          clear hb hc
          go_wp2_with fail
          go_roundw
          case rel => exact ⟨j + 1, by omega, by go_num, hg⟩
          case measure => simp [intOf]; omega
        · obtain rfl : j = k := by omega
          have hgw6 := hgw5.trans hg
          have hOE6 := Lib.hid (hOE5.out.keep hg)
          clear HI5 hOE5 hgw5 hg
          rcases Nat.eq_zero_or_pos j with hz0 | hpos
          · subst hz0
            go_wp2_with fail
            refine (awake19_any _).mono ?_
            rintro e w7 ⟨rfl, hg7⟩
            go_wp2_with fail
            go_ret
            exact ⟨rfl, hgw6.trans hg7⟩
          · obtain ⟨g, rfl, hgb, hgl, hfz⟩ := evown_at hOE6.out hpos
            have hkm0 : m % j < j := Nat.mod_lt _ hpos
            have hrem0 : (m : Int) % (j : Int) = ((m % j : Nat) : Int) := by simp
            generalize hkk : m % j = kk at *
            have hkm := hkm0
            have hrem := hrem0
            clear hkm0 hrem0 hkk
            obtain ⟨b, off, hb, hc⟩ := hOE6.out.rows.cells
            obtain ⟨hb1, hb2⟩ := hb hpos
            obtain ⟨rfl, rfl⟩ : g = b ∧ 0 = off := by simpa using hb1
            obtain ⟨-, -, -, -, a4, -, -, -⟩ := hc (kk) hkm
            rw [evsSeq_at hkm, Nat.zero_add] at a4
            have hIx := run_ev ce (fun _ : 0 < j => hb1) hkm
            rw [Nat.zero_add] at hIx
            have f4 := hfz (kk * 8 + 4)
            have hzv : (evSeq cs (kk)).val.size ≤ 16 := applyL_told (rowsAfter_ok (cs := cs) (k := kk) fun i hi => hmb i (by omega))
            have hXs : ((evSeq cs (kk)).val ++ (⟨#[120]⟩ : ByteArray)).size ≤ maxLen := by rw [ByteArray.size_append]; show _ + 1 ≤ _; unfold maxLen; omega
            have hev2 := evs_set hOE6.out.rows hkm hXs
            rw [evsSeq_at hkm, Nat.zero_add] at hev2
            have hne : (evSeq cs (kk)).val ++ (⟨#[120]⟩ : ByteArray) ≠ (evSeq cs (kk)).val := fun q => by
              have := congrArg ByteArray.size q
              rw [ByteArray.size_append] at this
              have h1 : (⟨#[120]⟩ : ByteArray).size = 1 := rfl
              omega
            have hO2 := order_ok (some ⟨g, 0, none⟩) j ce (evsBad cs j (kk) ((evSeq cs (kk)).val ++ (⟨#[120]⟩ : ByteArray))) none 0 0 [] _ hev2 (rows_none _) (by omega) (by omega) (evsBad_ok hkm hmb) (by decide)
            rw [rows_unfound hkm hmb hne] at hO2
            have hO2 := Lib.hid hO2
            have hgw7 : Gr w (wr.setCell ⟨g, kk * 8 + 4, none⟩ (.string ((evSeq cs (kk)).val ++ (⟨#[120]⟩ : ByteArray)))) := hgw6.setCell hgb _
            clear hb hc hev2 hne hXs hOE6 hmay hmb hfz
            generalize (evSeq cs (kk)).val = tv at *
            go_wp2_with fail
            refine hO2.out.mono ?_
            intro e w8 hP
            obtain ⟨rfl, hg8⟩ := hP
            go_wp2_with fail
            refine (faultIs_any 6 6 _).mono ?_
            rintro e w9 ⟨rfl, hg9⟩
            go_wp2_with fail
            refine (awake19_any _).mono ?_
            rintro e w10 ⟨rfl, hg10⟩
            go_wp2_with fail
            go_ret
            exact ⟨rfl, hgw7.trans (hg8.trans (hg9.trans hg10))⟩

theorem hro_law (oc : Option Addr) (n cap : Nat) (cs : List Cl) (a : Int) (w : World) (hC : CallsAt w oc n cap cs) (hw : (Lit.int .u8 a).wf = true) :
    Calls Try.prog 5 #[.slice oc n cap, .int .u8 a] w fun e w' => e = .returned (.bool true) ∧ Gr w w' := by
  have h : 0 ≤ a ∧ a < 256 := by
    have hw2 : 0 ≤ a ∧ a ≤ 255 := by simpa [Lit.wf, IntKind.min, IntKind.max, IntKind.signed, IntKind.bits] using hw
    omega
  obtain ⟨m, rfl⟩ : ∃ m : Nat, a = m := ⟨a.toNat, by omega⟩
  exact hro_walk oc n cap cs m (by omega) w hC
end Go.Proofs.Ytkngjnkecmjakaa
