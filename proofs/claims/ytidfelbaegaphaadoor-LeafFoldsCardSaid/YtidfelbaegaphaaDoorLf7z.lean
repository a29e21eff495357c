import Derived.Test.YtidfelbaegaphaaDoorFr7z
import Derived.Test.YtidfelbaegaphaaDoorRf7z
import Derived.Test.YtidfelbaegaphaaDoorSm7z
import Derived.Test.YtidfelbaegaphaaDoorSez
import Derived.Test.YtidfelbaegaphaaDoorUpAz
import Derived.Test.YtidfelbaegaphaaDoorFw7z
import Derived.Test.YtidfelbaegaphaaDoorSp9z
namespace Go.Proofs.YtidfelbaegaphaaDoor
set_option linter.unusedVariables false
set_option linter.unusedSimpArgs false
open Go.BigFrame Go.RowKit Go.WideShapes

/-! The law of folds. -/
abbrev zVw : Vw := ⟨⟨#[]⟩, ⟨#[]⟩, false, 0, [], false⟩
theorem rows_none (w : World) : RowsAt w none 0 0 [] := ⟨rfl, Nat.le_refl _, Nat.zero_le _, fun _ => rfl, ⟨0, 0, fun q => absurd q (by omega), fun i hi => absurd hi (by omega)⟩, fun i hi => absurd hi (by omega)⟩
/-- what Fold tells, with a view in any case -/
def FoldU (w : World) (v : Vw) (c : Int) (e : Ending) (w' : World) : Prop := ∃ o n cap, e = .returned (.tuple #[vwV v o n cap, errC c]) ∧ OwnAt w' w.heap.size o n cap v.rows ∧ Gr w w'
def RefU (w : World) (v : Vw) (c : Int) (e : Ending) (w' : World) : Prop := ∃ o n cap, e = .returned (.tuple #[vwV v o n cap, .int .i64 c]) ∧ RowsAt w' o n cap v.rows ∧ Gr w w'
theorem fold_u (oa : Option Addr) (n cap : Nat) (l : List Ry) (w : World) (h : RecsAt w oa n cap l) (hn : n ≤ 1000) (hrs : ∀ (i : Nat) (y : Ry), l[i]? = some y → y.x.r.rows.length ≤ 100) :
    Calls Tryd.prog 9 #[.slice oa n cap] w (FoldU w ((foldP (rcs l)).1.getD zVw) (foldP (rcs l)).2) := by
  refine (fold_any oa n cap l w h hn hrs).mono fun e w' q => ?_
  unfold FoldTells at q
  unfold FoldU
  rcases hf : foldP (rcs l) with ⟨ov, c⟩
  rw [hf] at q
  cases ov with
  | none =>
    obtain ⟨rfl, hg⟩ := q
    exact ⟨none, 0, 0, by rw [errC_pos (by rcases foldP_code hf with z | z <;> omega)]; rfl, own_nil _ _, hg⟩
  | some v =>
    obtain ⟨o, m, k, rfl, hO, -, hg⟩ := q
    obtain rfl := (fold_ok hf).2
    exact ⟨o, m, k, rfl, hO, hg⟩
theorem ref_u (oa : Option Addr) (n cap : Nat) (l : List Ry) (w : World) (h : RecsAt w oa n cap l) (hn : n ≤ 1000) (hrs : ∀ (i : Nat) (y : Ry), l[i]? = some y → y.x.r.rows.length ≤ 100) :
    Calls Tryd.prog 10 #[.slice oa n cap] w (RefU w ((foldP (rcs l)).1.getD zVw) (foldP (rcs l)).2) := by
  refine (refFold_any oa n cap l w h hn hrs).mono fun e w' q => ?_
  unfold RefTells at q
  unfold RefU
  rw [← fold_eq] at q
  rcases hf : foldP (rcs l) with ⟨ov, c⟩
  rw [hf] at q
  cases ov with
  | none =>
    obtain ⟨rfl, hg⟩ := q
    exact ⟨none, 0, 0, rfl, rows_none _, hg⟩
  | some v =>
    obtain ⟨o, m, k, rfl, hO, -, hg⟩ := q
    obtain rfl := (fold_ok hf).2
    exact ⟨o, m, k, rfl, hO, hg⟩
theorem fold_keys (c : List Rc) : ∀ x ∈ ((foldP c).1.getD zVw).rows, x.key.size ≤ 100 := by
  rcases hf : foldP c with ⟨ov, e⟩
  cases ov with
  | none => intro x hx; cases hx
  | some v =>
    have h := (fold_ok hf).1.ok
    intro x hx
    unfold rowsOkB at h
    have h := of_decide_eq_true h
    change x ∈ v.rows at hx
    obtain ⟨i, hi, rfl⟩ := List.mem_iff_getElem.1 hx
    have h := (h i hi).1
    rw [rAt_lt hi] at h
    exact fits_key h

set_option maxRecDepth 100000 in
set_option maxHeartbeats 20000000 in
theorem folds7 (oa : Option Addr) (n cap : Nat) (l : List Ry) (w : World) (h : RecsAt w oa n cap l) (hes : ∀ (i : Nat) (y : Ry), l[i]? = some y → y.ents.length * 24 ≤ 140737488355328) (hh : w.cell? ⟨0, 0, none⟩ = some handleV) :
    Calls Tryd.prog 3 #[.slice oa n cap] w fun e w' => e = .returned (.bool true) ∧ Gr w w' := by
  have Hes := Lib.hid hes
  have H := Lib.hid h
  have HW := Lib.hid hh
  have hFe := few7_any oa n cap l w h
  have hcl := h.cap_le
  have hcm := h.cap_max
  unfold maxLen at hcm
  have Hl := Lib.hid h.len
  clear h hes hh
  go_enter Tryd.func3, Tryd.ntmps3
  go_upto_region 1 with fail
  go_cut [12] (fun s12 wx => ∃ t : Bool, s12 = .bool t ∧ Gr w wx ∧ Hid (t = false → n ≤ 40 ∧ (∀ (i : Nat) (y : Ry), l[i]? = some y → y.x.r.rows.length ≤ 100)))
  case first =>
    have HFe := Lib.hid hFe
    clear hFe
    go_wp2_with ((go_at_call 6; (with_reducible refine HFe.out.mono ?_); rintro e w1 ⟨⟨b, rfl, hb⟩, d1, rfl⟩; have Hb := Lib.hid hb; clear hb; cases b))
    all_goals
      go_meet
      first
      | exact ⟨true, rfl, (Dr.gr ⟨d1, rfl⟩), Lib.hid fun q => by cases q⟩
      | exact ⟨_, rfl, (Dr.gr ⟨d1, rfl⟩), Lib.hid fun q => ⟨(Hb.out (by trivial)).1, (Hb.out (by trivial)).2⟩⟩
  case rest =>
    obtain ⟨t, rfl, hg1, Ht⟩ := hcut
    cases t
    rotate_left
    · go_wp2_with (go_at_call 7; (with_reducible refine (awake7_any _).mono ?_); rintro e w1 ⟨rfl, hg2⟩)
      go_ret
      exact ⟨rfl, hg1.trans hg2⟩
    obtain ⟨hn, hrs⟩ := Ht.out rfl
    have Hrs := Lib.hid hrs
    have HH := Lib.hid (H.out.keep hg1)
    have HWc := Lib.hid (hg1.keep HW.out)
    clear hrs Ht hFe H HW
    have hO := Lib.hid (own_recs oa n cap l wc HH.out (by omega) Hrs.out Hes.out)
    go_upto_region 4 with (go_at_call 8; (with_reducible refine hO.out.mono ?_); rintro e w3 ⟨o3, c3, rfl, hR3, hg3⟩)
    have HX := Lib.hid hR3
    have hgw := hg1.trans hg3
    have HH := Lib.hid (HH.out.keep hg3)
    have HWc := Lib.hid (hg3.keep HWc.out)
    have hKe := Lib.hid (fold_keys (rcs l))
    have hFo := fold_u o3 n c3 l w3 hR3 (by omega) Hrs.out
    have hRf := fun w1 (hq : Gr w3 w1) => ref_u oa n cap l w1 (HH.out.keep hq) (by omega) Hrs.out
    clear hR3 hO hg1 hg3
    generalize (foldP (rcs l)).1.getD zVw = v at *
    generalize (foldP (rcs l)).2 = cd at *
    unfold FoldU at hFo
    unfold RefU at hRf
    have hFo := Lib.hid hFo
    have hRf := Lib.hid hRf
    go_upto_region 5 with (first | (go_at_call 9; (with_reducible refine hFo.out.mono ?_); rintro e w4 ⟨o4, n4, c4, rfl, hO4, hg4⟩; have B0 := (Bx.new w4 zL.toArray 28 rfl).of (us := zL) (by simp)) | ((with_reducible refine wpList_store_box (ty := 28) (B0) ((vL v o4 n4 c4)) ?_ ?_ ?_ ?_ ?_ ?_); (focus (exact rfl)); (focus (exact ⟨_, _, rfl, rfl, rfl⟩)); (focus (exact rfl)); (focus kernel_rfl); (focus kernel_rfl)))
    have B4 := B0.setAll (us := vL v o4 n4 c4) rfl
    have hg5 := (hg4.alloc (.cells zL.toArray 28)).setCells hg4.le (vL v o4 n4 c4) 0
    have hlt : ∀ g, Value.ownBlock (.slice o4 n4 c4) = some g → g < w4.heap.size := fun g hg => (hO4.own.lt g hg).2
    have hob := Lib.hid fun (b off : Nat) (e : o4 = some ⟨b, off, none⟩) => (own_free hO4 (Nat.le_refl _) b off e).2.1
    have HO4 := Lib.hid ((hO4.keep ((Gr.refl w4).alloc (.cells zL.toArray 28))).setOther (b := w4.heap.size) (fun q => by have := hlt _ q; omega) (vL v o4 n4 c4) 0)
    have hb4 := hg4.le
    clear B0 hFo hO4 hg4 hlt
    generalize (w4.alloc (.cells zL.toArray 28)).setCells w4.heap.size 0 (vL v o4 n4 c4) = w5 at *
    generalize w4.heap.size = b4 at *
    go_upto_region 6 with (first | (go_at_call 10; (with_reducible refine (hRf.out _ hg5).mono ?_); rintro e w6 ⟨o6, n6, c6, rfl, hR6, hg6⟩; have B0 := (Bx.new w6 zL.toArray 33 rfl).of (us := zL) (by simp)) | ((with_reducible refine wpList_store_box (ty := 33) (B0) ((vL v o6 n6 c6)) ?_ ?_ ?_ ?_ ?_ ?_); (focus (exact rfl)); (focus (exact ⟨_, _, rfl, rfl, rfl⟩)); (focus (exact rfl)); (focus kernel_rfl); (focus kernel_rfl)))
    have B6 := B0.setAll (us := vL v o6 n6 c6) rfl
    have hg7 := (hg6.alloc (.cells zL.toArray 33)).setCells hg6.le (vL v o6 n6 c6) 0
    have HR6 := Lib.hid (hR6.keep (((Gr.refl w6).alloc (.cells zL.toArray 33)).setCells (Nat.le_refl _) (vL v o6 n6 c6) 0))
    have hb6 := hg6.le
    have hb45 := B4.lt (by simp)
    clear B0 hRf hR6 hg6
    generalize (w6.alloc (.cells zL.toArray 33)).setCells w6.heap.size 0 (vL v o6 n6 c6) = w7 at *
    generalize w6.heap.size = b6 at *
    have B4 := B4.keep hg7
    have HO4 := Lib.hid (HO4.out.keep hg7)
    have hg5 := hg5.trans hg7
    clear hg7
    go_cut [43] (fun s43 wx => s43 = .bool false ∧ Gr w7 wx)
    case first =>
      have HV := Lib.hid fun q : After w7 => view_law v o4 n4 c4 q.W
      have HS := Lib.hid fun q : After w7 => same7_any v o4 n4 c4 o6 n6 c6 q.W (HO4.out.rows.keep q.gr) (HR6.out.keep q.gr)
      have HCe := Lib.hid fun q : After w7 => code_law cd q.W ((hg5.trans q.gr).keep HWc.out)
      have v0 := After.cell (B4.cell 0 rfl)
      have v1 := After.cell (B4.cell 1 rfl)
      have v2 := After.cell (B4.cell 2 rfl)
      have v3 := After.cell (B4.cell 3 rfl)
      have v4 := After.cell (B4.cell 4 rfl)
      have v5 := After.cell (B4.cell 5 rfl)
      have z0 := After.cell (B6.cell 0 rfl)
      have z1 := After.cell (B6.cell 1 rfl)
      have z2 := After.cell (B6.cell 2 rfl)
      have z3 := After.cell (B6.cell 3 rfl)
      have z4 := After.cell (B6.cell 4 rfl)
      have z5 := After.cell (B6.cell 5 rfl)
      clear B4 B6 hob hg5 hgw
      by_cases hc : cd = 0
      · subst hc
        have HC := Lib.hid fun q : After w7 => show Calls Tryd.prog 13 #[.nilIface] q.W fun e w' => e = .returned (.int .i64 0) ∧ Gr q.W w' from HCe.out q
        rw [show errC 0 = Value.nilIface from rfl]
        clear HCe
        refine wp_region_after (by kernel_rfl) (by kernel_rfl) ?_
        repeat (go_big_quiet_step ((first | (go_at_call 12; (with_reducible exact after_gr (HV.out _))) | (go_at_call 11; (with_reducible exact after_gr (HS.out _))) | (go_at_call 13; (with_reducible exact after_gr (HC.out _))))))
        refine wpQuiet_nil ?_
        rintro _ ⟨⟨w1, hg1⟩, rfl⟩
        go_wp2_with fail
        go_meet
        exact ⟨rfl, hg1⟩
      · have hcd : (cd == 0) = false := by rw [beq_eq_false_iff_ne]; exact hc
        have HC := Lib.hid fun q : After w7 => show Calls Tryd.prog 13 #[errV cd] q.W fun e w' => e = .returned (.int .i64 cd) ∧ Gr q.W w' from errC_pos hc ▸ HCe.out q
        rw [errC_pos hc]
        have HCC := Lib.hid hc
        clear HCe hc
        refine wp_region_after (by kernel_rfl) (by kernel_rfl) ?_
        repeat (go_big_quiet_step ((first | (go_at_call 12; (with_reducible exact after_gr (HV.out _))) | (go_at_call 11; (with_reducible exact after_gr (HS.out _))) | (go_at_call 13; (with_reducible exact after_gr (HC.out _))))))
        refine wpQuiet_nil ?_
        rintro _ ⟨⟨w1, hg1⟩, rfl⟩
        go_wp2_with fail
        rw [← errC_pos HCC.out]
        go_meet
        exact ⟨rfl, hg1⟩
    case rest =>
      obtain ⟨rfl, hg8⟩ := hcut
      have hvs := B4.keep hg8 |>.cell 4 rfl
      have HO5 := HO4.out.keep hg8
      have HX0 : Hid (RowsAt wc o4 n4 c4 (xs X 0 v.rows)) := Lib.hid (by rw [xs_zero]; exact HO5.rows)
      have HF0 : Hid (Free wc w3.heap.size o4) := Lib.hid (own_free HO5 (Nat.le_refl _))
      have hll := HO5.rows.len
      have Hz := Lib.hid fun k (hk : k < n4) => show (kAt v.rows k).size ≤ 100 by
        unfold kAt
        rw [rAt_lt (by omega)]
        exact hKe.out _ (List.getElem_mem _)
      have hc4 := HO5.rows.cap_le
      have hm4 := HO5.rows.cap_max
      unfold maxLen at hm4
      have hg35 := hg5.trans hg8
      have Hll := Lib.hid hll
      clear HO5 HO4 HR6 B4 B6 hg5 hg8 hKe
      go_wp2_with fail
      go_loopw [47] (fun i wr => ∃ k : Nat, k ≤ n4 ∧ i = .int .i64 k ∧ Hid (RowsAt wr o4 n4 c4 (xs X k v.rows)) ∧ Hid (Free wr w3.heap.size o4) ∧ wr.cell? ⟨b4, 4, none⟩ = some (.slice o4 n4 c4) ∧ Gr w3 wr) (fun i _ => n4 - (intOf i).toNat)
      case atStart => exact ⟨0, Nat.zero_le _, rfl, HX0, HF0, hvs, hg35⟩
      case round =>
        obtain ⟨k, hk1, rfl, hx, hfr, hvs, hg⟩ := hrel
        by_cases hlt : k < n4
        · have hR := hx.out
          obtain ⟨b, off, hb, hc⟩ := hR.cells
          have a1 := (hc k hlt).1
          obtain ⟨hb1, hb2⟩ := hb (by omega)
          have hI := run_row c4 (fun _ : 0 < n4 => hb1) hlt
          unfold kAt at a1
          rw [xs_high (Nat.le_refl _) (by omega)] at a1
          obtain ⟨f1, f2, f3⟩ := hfr.out b off hb1
          have f4 := f3 (off + k * 2)
          have hbb := hob.out b off hb1
          have z1 := Hz.out k hlt
          have z2 : (kAt v.rows k ++ X).size ≤ maxLen := by rw [ByteArray.size_append, show X.size = 1 from rfl]; unfold maxLen; omega
          change (rAt v.rows k).key.size ≤ 100 at z1
          have hN := Lib.hid (longer_next hR hll hlt hb1 z2)
          have hFN := Lib.hid (hfr.out.set ⟨b, off + k * 2, none⟩ (.string (kAt v.rows k ++ X)))
          have hvN := far1 (b' := b) (j := off + k * 2) (u := .string (kAt v.rows k ++ X)) hvs (by omega)
          clear hc hb f3 hR hx hfr z2
          go_wp2_with fail
          go_roundw
          case rel => exact ⟨k + 1, by omega, by go_num, hN, hFN, hvN, Gr.setCell hg f1 _⟩
          case measure => simp [intOf]; omega
        · obtain rfl : k = n4 := by omega
          clear HX0 HF0 hfr hx hg35 hvs
          obtain ⟨b, off, ho, hc⟩ := HH.out.get
          obtain ⟨b3, off3, ho3, hc3⟩ := HX.out.get
          have Ho := Lib.hid ho
          have Hc := Lib.hid hc
          have Ho3 := Lib.hid ho3
          have Hc3 := Lib.hid hc3
          have hx3 := HX.out.cap_le
          clear ho hc ho3 hc3
          go_wp2_with fail
          go_loopw [62] (fun i wr => ∃ j : Nat, j ≤ n ∧ i = .int .i64 j ∧ Gr w3 wr) (fun i _ => n - (intOf i).toNat)
          case atStart => exact ⟨0, Nat.zero_le _, rfl, hg⟩
          case round =>
            obtain ⟨j, hj, rfl, hg⟩ := hrel
            by_cases hlt2 : j < n
            · have hy : l[j]? = some (l[j]'(by have := Hl.out; omega)) := List.getElem?_eq_getElem _
              generalize (l[j]'(by have := Hl.out; omega)) = y at hy
              obtain ⟨p1, q1, d1, p2, q2, d2, R⟩ := Hc.out j y hy
              obtain ⟨p3, q3, d3, p4, q4, d4, R3⟩ := Hc3.out j y hy
              have R := R.keep hg
              have R3 := R3.keep hg
              have hI := run_rec cap Ho.out hlt2
              have hI3 := run_rec c3 Ho3.out hlt2
              have HS := Lib.hid fun q : After wr => recSame_any y p3 q3 d3 p4 q4 d4 p1 q1 d1 p2 q2 d2 q.W (R3.rows.keep q.gr) (SlE.keep EnE_mono R3.ents q.gr) (R.rows.keep q.gr) (SlE.keep EnE_mono R.ents q.gr)
              have r0 := After.cell (show wr.cell? ⟨b, off + j * 15, none⟩ = some (.int .i64 y.x.r.kind) from R.cell 0 rfl)
              have s0 := After.cell (show wr.cell? ⟨b3, off3 + j * 15, none⟩ = some (.int .i64 y.x.r.kind) from R3.cell 0 rfl)
              have r1 := After.cell (R.cell 1 rfl)
              have s1 := After.cell (R3.cell 1 rfl)
              have r2 := After.cell (R.cell 2 rfl)
              have s2 := After.cell (R3.cell 2 rfl)
              have r3 := After.cell (R.cell 3 rfl)
              have s3 := After.cell (R3.cell 3 rfl)
              have r4 := After.cell (R.cell 4 rfl)
              have s4 := After.cell (R3.cell 4 rfl)
              have r5 := After.cell (R.cell 5 rfl)
              have s5 := After.cell (R3.cell 5 rfl)
              have r6 := After.cell (R.cell 6 rfl)
              have s6 := After.cell (R3.cell 6 rfl)
              have r7 := After.cell (R.cell 7 rfl)
              have s7 := After.cell (R3.cell 7 rfl)
              have r8 := After.cell (R.cell 8 rfl)
              have s8 := After.cell (R3.cell 8 rfl)
              have r9 := After.cell (R.cell 9 rfl)
              have s9 := After.cell (R3.cell 9 rfl)
              have r10 := After.cell (R.cell 10 rfl)
              have s10 := After.cell (R3.cell 10 rfl)
              have r11 := After.cell (R.cell 11 rfl)
              have s11 := After.cell (R3.cell 11 rfl)
              have r12 := After.cell (R.cell 12 rfl)
              have s12 := After.cell (R3.cell 12 rfl)
              have r13 := After.cell (R.cell 13 rfl)
              have s13 := After.cell (R3.cell 13 rfl)
              have r14 := After.cell (R.cell 14 rfl)
              have s14 := After.cell (R3.cell 14 rfl)
              clear R R3 hy
              go_wp2_with fail
              refine wp_region_after (by kernel_rfl) (by kernel_rfl) ?_
              repeat (go_big_quiet_step ((first | (go_at_call 14; (with_reducible exact after_gr (HS.out _))))))
              refine wpQuiet_nil ?_
              rintro _ ⟨⟨w1, hg1⟩, rfl⟩
              go_wp2_with fail
              go_roundw
              case rel => exact ⟨j + 1, by omega, by go_num, hg.trans hg1⟩
              case measure => simp [intOf]; omega
            · obtain rfl : j = n := by omega
              go_wp2_with (go_at_call 7; (with_reducible refine (awake7_any _).mono ?_); rintro e w9 ⟨rfl, hg9⟩)
              go_ret
              exact ⟨rfl, (hgw.trans hg).trans hg9⟩
end Go.Proofs.YtidfelbaegaphaaDoor
