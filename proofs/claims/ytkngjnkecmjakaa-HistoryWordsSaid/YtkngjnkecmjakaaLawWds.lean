import Derived.Deep.CutRange
import Derived.Test.YtkngjnkecmjakaaHrP
import Derived.Test.YtkngjnkecmjakaaF19
import Derived.Test.YtkngjnkecmjakaaFe2
import Derived.Test.YtkngjnkecmjakaaOfC
import Derived.Laws.StructEq
namespace Go.Proofs.Ytkngjnkecmjakaa
set_option linter.unusedVariables false
set_option linter.unusedSimpArgs false
open Go.BigFrame Go.RowKit Go.WideShapes

abbrev evc (e : Ev) : List Value := [.int .i64 e.thread, .int .i64 e.kind, .string e.key, .string e.cval, .string e.val, .int .i64 e.code, .int .i64 e.beg, .int .i64 e.fin]
theorem pair_at (w : World) (b : Nat) (x y : Ev) (hb : w.heap[b]? = some (.cells #[.int .i64 x.thread, .int .i64 x.kind, .string x.key, .string x.cval, .string x.val, .int .i64 x.code, .int .i64 x.beg, .int .i64 x.fin,
    .int .i64 y.thread, .int .i64 y.kind, .string y.key, .string y.cval, .string y.val, .int .i64 y.code, .int .i64 y.beg, .int .i64 y.fin] 40 (0, 0)))
    (hx : x.key.size ≤ maxLen ∧ x.cval.size ≤ maxLen ∧ x.val.size ≤ maxLen) (hy : y.key.size ≤ maxLen ∧ y.cval.size ≤ maxLen ∧ y.val.size ≤ maxLen) : EvsAt w (some ⟨b, 0, none⟩) 2 2 [x, y] := by
  refine ⟨rfl, by omega, by unfold maxLen; omega, by simp, ⟨b, 0, fun _ => ⟨rfl, ?_⟩, fun i hi => ?_⟩, fun i hi => ?_⟩
  · rcases Nat.lt_or_ge b w.heap.size with r | r
    · exact r
    · rw [Array.getElem?_eq_none r] at hb; cases hb
  · simp only [blk_cell hb]
    match i, hi with
    | 0, _ => exact ⟨rfl, rfl, rfl, rfl, rfl, rfl, rfl, rfl⟩
    | 1, _ => exact ⟨rfl, rfl, rfl, rfl, rfl, rfl, rfl, rfl⟩
  · match i, hi with
    | 0, _ => exact hx
    | 1, _ => exact hy
theorem ev_same (e : Ev) (w : World) : (binOp .neq 40 e.v e.v).run Try.prog w = .ok (.bool false) w := by
  go_simp
theorem rown_at {w : World} {base : Nat} {oa : Option Addr} {n c : Nat} {l : List Rw} (h : OwnAt w base oa n c l) (hn : 0 < n) : ∃ g, oa = some ⟨g, 0, none⟩ ∧ base ≤ g ∧ (∀ o, w.frozen? ⟨g, o, none⟩ = false) ∧ ∀ i, i < n → w.cell? ⟨g, i * 2 + 1, none⟩ = some (.string (vAt l i)) := by
  rcases h.own.2 with ⟨e, hn0⟩ | ⟨g, cap, cur, e, hg, hc, rest⟩
  · omega
  · simp only [Value.slice.injEq] at e
    obtain ⟨rfl, -, -⟩ := e
    refine ⟨g, rfl, hg, fun o => ?_, fun i hi => ?_⟩
    · unfold World.frozen?
      rw [hc]; simp
    · obtain ⟨b, off, hb, hcc⟩ := h.rows.cells
      obtain ⟨hb1, -⟩ := hb hn
      obtain ⟨rfl, rfl⟩ : g = b ∧ 0 = off := by simpa using hb1
      have := (hcc i hi).2
      rwa [Nat.zero_add] at this

theorem ofL_pre {key : ByteArray} {l : List Ev} (m : Nat) : ∃ t, ofL key (l.take m) ++ t = ofL key l := by
  refine ⟨ofL key (l.drop m), ?_⟩
  unfold ofL
  rw [← List.filter_append, List.take_append_drop]
theorem ofL_hit {key : ByteArray} {l F : List Ev} {m i : Nat} (hF : ofL key l = F) (hm : m < l.length) (hk : (evAt l m).key = key) (h : ofL key (l.take m) = F.take i) (hi : i < F.length) :
    evAt F i = evAt l m ∧ ofL key (l.take (m + 1)) = F.take (i + 1) := by
  have hn := ofL_next (key := key) hm
  rw [if_pos hk, h] at hn
  obtain ⟨t, ht⟩ := ofL_pre (key := key) (l := l) (m + 1)
  rw [hF, hn] at ht
  have hti : (F.take i).length = i := by rw [List.length_take]; omega
  have e : F[i] = evAt l m := by
    have : F[i]? = some (evAt l m) := by
      rw [← ht, List.append_assoc, List.getElem?_append_right (by omega), hti]
      simp
    rw [List.getElem?_eq_getElem hi] at this
    exact Option.some.inj this
  refine ⟨by rw [evAt_lt hi]; exact e, ?_⟩
  rw [hn, List.take_succ_eq_append_getElem hi, e]
theorem ofL_more {key : ByteArray} {l F : List Ev} {m : Nat} (hF : ofL key l = F) (hm : m < l.length) (h : ofL key (l.take m) = F) : (evAt l m).key ≠ key := fun hk => by
  have hn := ofL_next (key := key) hm
  rw [if_pos hk, h] at hn
  obtain ⟨t, ht⟩ := ofL_pre (key := key) (l := l) (m + 1)
  rw [hF, hn] at ht
  have := congrArg List.length ht
  simp at this
theorem ofL_skip {key : ByteArray} {l : List Ev} {m : Nat} {X : List Ev} (hm : m < l.length) (hk : (evAt l m).key ≠ key) (h : ofL key (l.take m) = X) : ofL key (l.take (m + 1)) = X := by
  rw [ofL_next hm, if_neg hk, List.append_nil, h]

/-- values of rows behind a call -/
theorem applyH_vals {kind : Int} {key val : ByteArray} {l : List Rw} (h : ∀ i, i < l.length → (vAt l i).size ≤ 2000) : ∀ i, i < (applyH kind key val l).1.length → (vAt (applyH kind key val l).1 i).size ≤ 2000 := by
  unfold applyH
  split
  · rename_i q
    have hok := apply_ok (kind := kind) (key := key) (val := val) q.1 q.2
    intro i hi
    have := row_fits hok hi
    unfold fitsB at this
    simp only [Bool.and_eq_true, decide_eq_true_iff] at this
    have h2 := this.2
    unfold vAt
    omega
  · exact h

set_option maxRecDepth 100000 in
set_option maxHeartbeats 8000000 in
theorem wds_walk (x y : Ev) (o : Option Addr) (n c : Nat) (rows : List Rw) (ol : Option Addr) (nl cl : Nat) (l : List Ev) (key : ByteArray) (w : World)
    (hx : x.key.size ≤ maxLen ∧ x.cval.size ≤ maxLen ∧ x.val.size ≤ maxLen) (hy : y.key.size ≤ maxLen ∧ y.cval.size ≤ maxLen ∧ y.val.size ≤ maxLen) (hR : RowsAt w o n c rows) (hE : EvsAt w ol nl cl l) (hkey : key.size ≤ maxLen) :
    Calls Try.prog 4 #[x.v, y.v, .slice o n c, .slice ol nl cl, .string key] w fun e w' => e = .returned (.bool true) ∧ Gr w w' := by
  have HE := Lib.hid hE
  have HR := Lib.hid hR
  have hlen := hE.len
  have hrlen := hR.len
  have hn1 := hE.cap_le
  have hm1 := hE.cap_max
  unfold maxLen at hm1
  have hFR := Lib.hid (fun w1 (hq : Gr w w1) => few_all o n c rows w1 (hR.keep hq))
  obtain ⟨p0, p1, p2, p3, p4, p5, p6, p7⟩ := evbox w x
  obtain ⟨q0, q1, q2, q3, q4, q5, q6, q7⟩ := evbox (evW w x) y
  have gx := (Gr.refl w).alloc (.cells #[.int .i64 x.thread, .int .i64 x.kind, .string x.key, .string x.cval, .string x.val, .int .i64 x.code, .int .i64 x.beg, .int .i64 x.fin] 40)
  have gy := (Gr.refl (evW w x)).alloc (.cells #[.int .i64 y.thread, .int .i64 y.kind, .string y.key, .string y.cval, .string y.val, .int .i64 y.code, .int .i64 y.beg, .int .i64 y.fin] 40)
  have p0 := (gy).keep p0
  have p1 := (gy).keep p1
  have p2 := (gy).keep p2
  have p3 := (gy).keep p3
  have p4 := (gy).keep p4
  have p5 := (gy).keep p5
  have p6 := (gy).keep p6
  have p7 := (gy).keep p7
  have hg0 := gx.trans gy
  have hsz : (evW w x).heap.size = w.heap.size + 1 := by unfold evW World.alloc; simp
  rw [hsz] at q0 q1 q2 q3 q4 q5 q6 q7
  unfold evW at *
  have hPair := Lib.hid (pair_at (((w.alloc (.cells #[.int .i64 x.thread, .int .i64 x.kind, .string x.key, .string x.cval, .string x.val, .int .i64 x.code, .int .i64 x.beg, .int .i64 x.fin] 40)).alloc (.cells #[.int .i64 y.thread, .int .i64 y.kind, .string y.key, .string y.cval, .string y.val, .int .i64 y.code, .int .i64 y.beg, .int .i64 y.fin] 40)).alloc
    (.cells #[.int .i64 x.thread, .int .i64 x.kind, .string x.key, .string x.cval, .string x.val, .int .i64 x.code, .int .i64 x.beg, .int .i64 x.fin, .int .i64 y.thread, .int .i64 y.kind, .string y.key, .string y.cval, .string y.val, .int .i64 y.code, .int .i64 y.beg, .int .i64 y.fin] 40)) (w.heap.size + 1 + 1) x y
    (by rw [← hsz]; exact heap_alloc2_new _ _ _) hx hy)
  go_enter Try.func4, Try.ntmps4
  go_wp2_with fail
  refine (few19_any _ 2 2 [x, y] _ hPair.out).mono ?_
  rintro e w1 ⟨⟨b1, rfl, hb1⟩, d1⟩
  have hgz := (((Gr.refl _).alloc (.cells #[.int .i64 x.thread, .int .i64 x.kind, .string x.key, .string x.cval, .string x.val, .int .i64 x.code, .int .i64 x.beg, .int .i64 x.fin, .int .i64 y.thread, .int .i64 y.kind, .string y.key, .string y.cval, .string y.val, .int .i64 y.code, .int .i64 y.beg, .int .i64 y.fin] 40)).trans d1.gr)
  have p0 := (hgz).keep p0
  have p1 := (hgz).keep p1
  have p2 := (hgz).keep p2
  have p3 := (hgz).keep p3
  have p4 := (hgz).keep p4
  have p5 := (hgz).keep p5
  have p6 := (hgz).keep p6
  have p7 := (hgz).keep p7
  have q0 := (hgz).keep q0
  have q1 := (hgz).keep q1
  have q2 := (hgz).keep q2
  have q3 := (hgz).keep q3
  have q4 := (hgz).keep q4
  have q5 := (hgz).keep q5
  have q6 := (hgz).keep q6
  have q7 := (hgz).keep q7
  have hg1 := hg0.trans hgz
  clear hgz hg0 gx gy d1 hPair hsz
  have hBl := hg1.le
  generalize hBX : w.heap.size = BX at *
  cases b1
  · go_wp2_with fail
    refine (awake19_any _).mono ?_
    rintro e w2 ⟨rfl, hg2⟩
    go_wp2_with fail
    go_ret
    exact ⟨rfl, hg1.trans hg2⟩
  have hxy := (hb1 rfl).2
  have hxk : x.key.size ≤ 100 := (hxy 0 (by omega)).1
  have hxv : x.cval.size ≤ 100 := (hxy 0 (by omega)).2
  clear hb1 hxy
  go_wp2_with fail
  refine (hFR.out _ hg1).mono ?_
  rintro e w2 ⟨⟨b2, rfl, hb2⟩, d2⟩
  have hg2 := hg1.trans d2.gr
  have p0 := (d2.gr).keep p0
  have p1 := (d2.gr).keep p1
  have p2 := (d2.gr).keep p2
  have p3 := (d2.gr).keep p3
  have p4 := (d2.gr).keep p4
  have p5 := (d2.gr).keep p5
  have p6 := (d2.gr).keep p6
  have p7 := (d2.gr).keep p7
  have q0 := (d2.gr).keep q0
  have q1 := (d2.gr).keep q1
  have q2 := (d2.gr).keep q2
  have q3 := (d2.gr).keep q3
  have q4 := (d2.gr).keep q4
  have q5 := (d2.gr).keep q5
  have q6 := (d2.gr).keep q6
  have q7 := (d2.gr).keep q7
  clear hg1 d2
  cases b2
  · go_wp2_with fail
    refine (awake19_any _).mono ?_
    rintro e w3 ⟨rfl, hg3⟩
    go_wp2_with fail
    go_ret
    exact ⟨rfl, hg2.trans hg3⟩
  obtain ⟨hn, hvals⟩ := hb2 rfl
  have Hvals := Lib.hid fun i hi => (hvals i hi).2
  clear hvals hb2
  by_cases h40 : 40 < nl
  · have h40' : decide (40 < (nl : Int)) = true := by simp; omega
    go_wp2_with fail
    refine (awake19_any _).mono ?_
    rintro e w3 ⟨rfl, hg3⟩
    go_wp2_with fail
    go_ret
    exact ⟨rfl, hg2.trans hg3⟩
  have h40' : decide (40 < (nl : Int)) = false := by simp; omega
  have H1 := fun w1 => evRight_any x w1 hx.1 hx.2.1
  have H2 := fun w1 => refEvRight_any x w1 hx.1 hx.2.1
  have H3 := fun w1 => ahead_any x y w1
  have H4 := fun w1 => refAhead_any x y w1
  have P := (⟨p0, p1, p2, p3, p4, p5, p6, p7⟩ : _ ∧ _ ∧ _ ∧ _ ∧ _ ∧ _ ∧ _ ∧ _)
  have p0 := After.cell p0
  have p1 := After.cell p1
  have p2 := After.cell p2
  have p3 := After.cell p3
  have p4 := After.cell p4
  have p5 := After.cell p5
  have p6 := After.cell p6
  have p7 := After.cell p7
  have q0 := After.cell q0
  have q1 := After.cell q1
  have q2 := After.cell q2
  have q3 := After.cell q3
  have q4 := After.cell q4
  have q5 := After.cell q5
  have q6 := After.cell q6
  have q7 := After.cell q7
  generalize evOk x = bx at *
  generalize aheadB x y = by' at *
  have hne1 : (bx != bx) = false := by simp
  have hne2 : (by' != by') = false := by simp
  have H1 := Lib.hid H1
  have H2 := Lib.hid H2
  have H3 := Lib.hid H3
  have H4 := Lib.hid H4
  go_wp2_with fail
  refine wp_region_after (by kernel_rfl) (by kernel_rfl) ?_
  repeat (go_big_quiet_step ((first | (go_at_call 12; (with_reducible exact after_gr (H1.out _))) | (go_at_call 13; (with_reducible exact after_gr (H2.out _))) | (go_at_call 14; (with_reducible exact after_gr (H3.out _))) | (go_at_call 15; (with_reducible exact after_gr (H4.out _))))))
  refine wpQuiet_nil ?_
  rintro wB ⟨⟨w1, hg1⟩, rfl⟩
  have hP := P
  obtain ⟨p0, p1, p2, p3, p4, p5, p6, p7⟩ := P
  clear H1 H2 H3 H4 hne1 hne2
  clear q0 q1 q2 q3 q4 q5 q6 q7
  have p0 := (hg1).keep p0
  have p1 := (hg1).keep p1
  have p2 := (hg1).keep p2
  have p3 := (hg1).keep p3
  have p4 := (hg1).keep p4
  have p5 := (hg1).keep p5
  have p6 := (hg1).keep p6
  have p7 := (hg1).keep p7
  have hg3 := hg2.trans hg1
  clear hg2 hg1 hP
  have hRE := Lib.hid (HR.out.keep (hg3.alloc (.cells #[] 47)))
  go_wp2_with (at_builtin; refine wpList_rows_g rfl _ _ rfl wB.heap.size (Gr.le (by repeat (first | with_reducible exact Gr.refl _ | with_reducible refine Gr.drewN ?_ _ | with_reducible refine Gr.drew ?_ | with_reducible refine Gr.alloc ?_ _ | with_reducible refine Gr.setCell ?_ ?_ _ | (with_reducible refine Gr.trans ?_ (by assumption)) | omega | (dsimp only; omega)))) rfl (own_empty_b rfl (Nat.le_refl _)) rfl hRE.out (by omega) ?_; intro oR cR wR hoR hgR; rw [Nat.zero_add] at hoR; have hgR2 : Gr wB wR := grown_gr hgR (own_empty_b rfl (Nat.le_refl _)) ((Gr.refl wB).alloc _) (Nat.le_refl _); have hORn := Lib.hid hoR; have p1 := hgR2.keep p1; have p2 := hgR2.keep p2; have p3 := hgR2.keep p3; clear hoR hgR)
  rw [List.nil_append] at hORn
  have hgR3 := hg3.trans hgR2
  have hvl := applyH_vals (kind := x.kind) (key := x.key) (val := x.cval) (l := rows) (fun i hi => Hvals.out i (by omega))
  have hal := applyH_length x.kind x.key x.cval rows
  have HApp := Lib.hid (show applyH x.kind x.key x.cval rows = if mayB x.kind x.key x.cval = true ∧ rowsOkB rows = true then applyL x.kind x.key x.cval rows else (rows, ⟨#[]⟩, 1) from rfl)
  refine (apply_any oR n cR rows x.kind x.key x.cval wR hORn.out.rows (by omega) hx.1 hx.2.1).mono ?_
  rintro e w5 ⟨o5, q5, c5, rfl, hO5, hg5⟩
  have hq5 := hO5.rows.len
  generalize applyH x.kind x.key x.cval rows = r at *
  obtain ⟨rl, rt, rc⟩ := r
  have p1 := hg5.keep p1
  have p2 := hg5.keep p2
  have p3 := hg5.keep p3
  have hg35 := hgR3.trans hg5
  have HO5 := Lib.hid hO5
  have Hvl := Lib.hid hvl
  have hM := fun w6 => refMay_any x.kind x.key x.cval w6 hx.1 hx.2.1
  have hRk := fun w6 (hq : Gr w w6) => refRowsRight_any o n c rows w6 (HR.out.keep hq)
  clear hRE hg3 hgR2 hO5 hvl p0 p4 p5 p6 p7 hR hE
  dsimp only
  go_upto_region 8 with fail
  go_cut [70] from 64 to 69 (fun s70 wx => s70 = .bool (mayB x.kind x.key x.cval && rowsOkB rows) ∧ Gr w5 wx)
  case first =>
    cases hmb : mayB x.kind x.key x.cval
    · rw [hmb] at hM
      have HM := Lib.hid hM
      have Hmb := Lib.hid hmb
      clear hM hmb hRk HApp
      go_wp2_with fail
      refine (HM.out _).mono ?_
      rintro e w6 ⟨rfl, hg6⟩
      go_wp2_with fail
      go_meet
      case rel => exact ⟨by rw [Hmb.out]; rfl, hg6⟩
    · rw [hmb] at hM
      have HM := Lib.hid hM
      have HRk := Lib.hid hRk
      have Hmb := Lib.hid hmb
      clear hM hmb hRk HApp
      go_wp2_with fail
      refine (HM.out _).mono ?_
      rintro e w6 ⟨rfl, hg6⟩
      go_wp2_with fail
      refine (HRk.out _ (hg35.trans hg6)).mono ?_
      rintro e w7 ⟨rfl, hg7⟩
      go_wp2_with fail
      go_meet
      case rel => exact ⟨by rw [Hmb.out]; rfl, hg6.trans hg7⟩
  case rest =>
    obtain ⟨rfl, hgc⟩ := hcut
    have hge := hg35.trans hgc
    have p1 := hgc.keep p1
    have p2 := hgc.keep p2
    have p3 := hgc.keep p3
    have HO6 := Lib.hid (HO5.out.keep hgc)
    have hgR6 := hg5.trans hgc
    clear hM hRk hg35 hgc HO5 hg5
    go_upto_if 70 with fail
    go_cut [15, 16, 17] from 70 to 78 (fun s15 s16 s17 wx => ∃ o6 q6 c6, s15 = .slice o6 q6 c6 ∧ s16 = .string rt ∧ s17 = .int .i64 rc ∧ Hid (RowsAt wx o6 q6 c6 rl) ∧ Gr wc wx)
    case first =>
      cases hb : (mayB x.kind x.key x.cval && rowsOkB rows)
      · have hrr := HApp.out
        rw [if_neg (by rintro ⟨r1, r2⟩; rw [r1, r2] at hb; cases hb)] at hrr
        have H1 := Lib.hid (Prod.mk.inj hrr).1
        have H2 := Lib.hid (Prod.mk.inj (Prod.mk.inj hrr).2).1
        have H3 := Lib.hid (Prod.mk.inj (Prod.mk.inj hrr).2).2
        clear hrr HApp
        go_wp2_with fail
        go_meet
        case rel => exact ⟨o, n, c, rfl, by rw [H2.out], by rw [H3.out], Lib.hid (by rw [H1.out]; exact HR.out.keep hge), Gr.refl _⟩
      · have hbb := hb
        rw [Bool.and_eq_true] at hbb
        have hrr := HApp.out
        rw [if_pos hbb] at hrr
        have HAp := Lib.hid (refApply_any o n c rows x.kind x.key x.cval wc (HR.out.keep hge) (by omega) hx.1 hx.2.1 (may_kinds hbb.1))
        rw [← hrr] at HAp
        clear hrr HApp hbb
        go_wp2_with fail
        refine HAp.out.mono ?_
        rintro e w6 ⟨o6, q6, c6, rfl, hr6, hg6⟩
        go_wp2_with fail
        go_meet
        case rel => exact ⟨o6, q6, c6, rfl, rfl, rfl, Lib.hid hr6, hg6⟩
    case rest =>
      obtain ⟨o6, q6, c6, rfl, rfl, rfl, hR6, hg7⟩ := hcut
      clear p1 p2 p3 HApp hx hy
      have HO7 := Lib.hid (HO6.out.keep hg7)
      have hS := refSame_any o5 o6 q5 c5 q6 c6 rl rl _ HO7.out.rows hR6.out
      rw [decide_eq_true rfl] at hS
      have hS := Lib.hid hS
      have hgR7 := hgR6.trans hg7
      clear hR6 hg7 HO6 hge hgR6
      have hbv1 : (rt.toList == rt.toList) = true := eqL rfl
      go_wp2_with fail
      refine hS.out.mono ?_
      rintro e w8 ⟨rfl, hd8⟩
      have HO8 := Lib.hid (HO7.out.keep hd8.gr)
      have hgR8 := hgR7.trans hd8.gr
      clear hS HO7 hgR7 hd8 hbv1
      go_wp2_with fail
      have hfr0 := Lib.hid (show ∀ g, o5 = some ⟨g, 0, none⟩ → 0 < q5 → (wR.heap.size ≤ g ∧ (∀ o, w8.frozen? ⟨g, o, none⟩ = false) ∧ ∀ i, i < q5 → w8.cell? ⟨g, i * 2 + 1, none⟩ = some (.string (vAt rl i))) from fun g hg hq => by
        obtain ⟨g', h1, h2, h3, h4⟩ := rown_at HO8.out hq
        rw [hg] at h1
        obtain rfl : g = g' := by simpa using h1
        exact ⟨h2, h3, h4⟩)
      go_loopw [95] (fun vi wr => ∃ j : Nat, j ≤ q5 ∧ vi = .int .i64 j ∧ Hid (∀ g, o5 = some ⟨g, 0, none⟩ → 0 < q5 → (wR.heap.size ≤ g ∧ (∀ o, wr.frozen? ⟨g, o, none⟩ = false) ∧ ∀ i, j ≤ i → i < q5 → wr.cell? ⟨g, i * 2 + 1, none⟩ = some (.string (vAt rl i)))) ∧ Gr wR wr) (fun v _ => q5 - (intOf v).toNat)
      case atStart => exact ⟨0, Nat.zero_le _, rfl, Lib.hid fun g h1 h2 => ⟨(hfr0.out g h1 h2).1, (hfr0.out g h1 h2).2.1, fun i _ hi => (hfr0.out g h1 h2).2.2 i hi⟩, hgR8⟩
      case round =>
        obtain ⟨j, hj, rfl, hfr, hg⟩ := hrel
        by_cases hjl : j < q5
        · obtain ⟨g, rfl, -, -, -⟩ := rown_at HO8.out (by omega)
          obtain ⟨hgb, hfz, hcl⟩ := hfr.out g rfl (by omega)
          have a1 := hcl j (Nat.le_refl _) hjl
          have f1 := hfz (j * 2 + 1)
          have hIx := run_row c5 (fun _ : 0 < q5 => (rfl : (some ⟨g, 0, none⟩ : Option Addr) = some ⟨g, 0, none⟩)) hjl
          rw [Nat.zero_add] at hIx
          have hvz := Hvl.out j (by show j < rl.length; omega)
          change (vAt rl j).size ≤ 2000 at hvz
          have hN := Lib.hid (show ∀ g', (some ⟨g, 0, none⟩ : Option Addr) = some ⟨g', 0, none⟩ → 0 < q5 → (wR.heap.size ≤ g' ∧ (∀ o, (wr.setCell ⟨g, j * 2 + 1, none⟩ (.string (vAt rl j ++ (⟨#[120]⟩ : ByteArray)))).frozen? ⟨g', o, none⟩ = false) ∧ ∀ i, j + 1 ≤ i → i < q5 → (wr.setCell ⟨g, j * 2 + 1, none⟩ (.string (vAt rl j ++ (⟨#[120]⟩ : ByteArray)))).cell? ⟨g', i * 2 + 1, none⟩ = some (.string (vAt rl i))) from fun g' e _ => by
            obtain rfl : g = g' := by simpa using e
            refine ⟨hgb, fun o => (World.frozen?_setCell _ _ _ _).trans (hfz o), fun i h1 h2 => ?_⟩
            rw [World.cell?_setCell_other _ _ _ _ (by simp only [ne_eq, Addr.mk.injEq, not_and]; omega)]
            exact hcl i (by omega) h2)
          have hgN : Gr wR (wr.setCell ⟨g, j * 2 + 1, none⟩ (.string (vAt rl j ++ (⟨#[120]⟩ : ByteArray)))) := hg.setCell hgb _
          clear hcl hfz hfr hfr0 hg HO8
          go_wp2_with fail
          go_roundw
          case rel => exact ⟨j + 1, by omega, by go_num, hN, hgN⟩
          case measure => simp [intOf]; omega
        · obtain rfl : j = q5 := by omega
          have hgX := hg
          clear hfr hfr0 HO8 hgR8 hg
          have hgw := hgR3.trans hgX
          have hOf := Lib.hid (of_any ol nl cl l key wr (HE.out.keep hgw) (by omega))
          go_wp2_with fail
          refine hOf.out.mono ?_
          rintro e w9 ⟨of', cf, rfl, hEf, hg9⟩
          have hgw9 := hgw.trans hg9
          have hgX9 := hgX.trans hg9
          have HEf := Lib.hid hEf
          have hFle := ofL_le key l
          generalize hF : ofL key l = F at *
          have HF := Lib.hid hF
          clear hOf hEf hF hgw hgX hg9
          obtain ⟨bf, off, hbf, hcf⟩ := HEf.out.cells
          have Hcf := Lib.hid hcf
          have Hbf := Lib.hid fun q => (hbf q).1
          obtain ⟨bl, ofl, hbl, hcl⟩ := HE.out.cells
          have Hcl := Lib.hid hcl
          have Hbl := Lib.hid fun q => (hbl q).1
          clear hcf hbf hcl hbl
          go_wp2_with fail
          go_loopw [19, 111] (fun vm vi wr => ∃ i m : Nat, i ≤ F.length ∧ m ≤ nl ∧ vm = .int .i64 m ∧ vi = .int .i64 i ∧ Hid (ofL key (l.take m) = F.take i) ∧ Gr w9 wr) (fun _ v _ => F.length - (intOf v).toNat)
          case atStart => exact ⟨0, 0, Nat.zero_le _, Nat.zero_le _, rfl, rfl, Lib.hid (by simp [ofL]), Gr.refl _⟩
          case round =>
            obtain ⟨i, m, hi, hm, rfl, rfl, hT, hg⟩ := hrel
            by_cases hil : i < F.length
            · have hgw := hgw9.trans hg
              obtain ⟨a0, a1, a2, a3, a4, a5, a6, a7⟩ := Hcf.out i hil
              have a0 := (hg).keep a0
              have a1 := (hg).keep a1
              have a2 := (hg).keep a2
              have a3 := (hg).keep a3
              have a4 := (hg).keep a4
              have a5 := (hg).keep a5
              have a6 := (hg).keep a6
              have a7 := (hg).keep a7
              have hIf := run_ev cf Hbf.out hil
              have hbx := evbox wr (evAt F i)
              have hgx := (Gr.refl wr).alloc (.cells #[.int .i64 (evAt F i).thread, .int .i64 (evAt F i).kind, .string (evAt F i).key, .string (evAt F i).cval, .string (evAt F i).val, .int .i64 (evAt F i).code, .int .i64 (evAt F i).beg, .int .i64 (evAt F i).fin] 40)
              unfold evW at hbx
              have Hbx := Lib.hid hbx
              clear hbx
              go_wp2_with fail
              have hgb := hg.trans hgx
              clear a0 a1 a2 a3 a4 a5 a6 a7 hIf hg hgx hgw
              generalize wr.heap.size = BY at *
              generalize wr.alloc (.cells #[.int .i64 (evAt F i).thread, .int .i64 (evAt F i).kind, .string (evAt F i).key, .string (evAt F i).cval, .string (evAt F i).val, .int .i64 (evAt F i).code, .int .i64 (evAt F i).beg, .int .i64 (evAt F i).fin] 40) = wb at *
              go_loopw [19] (fun vm wi => ∃ m' : Nat, m' ≤ nl ∧ vm = .int .i64 m' ∧ Hid (ofL key (l.take m') = F.take i) ∧ Gr wb wi) (fun v _ => nl - (intOf v).toNat)
              case atStart => exact ⟨m, hm, rfl, hT, Gr.refl _⟩
              case round =>
                obtain ⟨m', hm', rfl, hT', hgi⟩ := hrel
                by_cases hml : m' < nl
                · have hgl := hgw9.trans (hgb.trans hgi)
                  obtain ⟨a0, a1, a2, a3, a4, a5, a6, a7⟩ := Hcl.out m' hml
                  have a0 := (hgl).keep a0
                  have a1 := (hgl).keep a1
                  have a2 := (hgl).keep a2
                  have a3 := (hgl).keep a3
                  have a4 := (hgl).keep a4
                  have a5 := (hgl).keep a5
                  have a6 := (hgl).keep a6
                  have a7 := (hgl).keep a7
                  have hIl := run_ev cl Hbl.out hml
                  by_cases hk : (evAt l m').key = key
                  · obtain ⟨hev, hT2⟩ := ofL_hit HF.out (by omega) hk hT'.out hil
                    have hve := eqL hk
                    have HT2 := Lib.hid hT2
                    have hvv := Hbx.out
                    rw [hev] at hvv
                    obtain ⟨v0, v1, v2, v3, v4, v5, v6, v7⟩ := hvv
                    have v0 := (hgi).keep v0
                    have v1 := (hgi).keep v1
                    have v2 := (hgi).keep v2
                    have v3 := (hgi).keep v3
                    have v4 := (hgi).keep v4
                    have v5 := (hgi).keep v5
                    have v6 := (hgi).keep v6
                    have v7 := (hgi).keep v7
                    have hge : decide (nl ≤ m') = false := decide_eq_false (by omega)
                    have hgn := hgb.trans hgi
                    clear hev hT2 hk hT' hT Hbx hgl hgi
                    go_wp2_with fail
                    go_big_quiet (fail)
                    go_wp2_with fail
                    go_roundw
                    case rel => exact ⟨i + 1, m' + 1, by omega, by omega, by go_num, by go_num, HT2, hgn.drewN _⟩
                    case measure => simp [intOf]; omega
                  · have hve := neL hk
                    have HT2 := Lib.hid (ofL_skip (by omega) hk hT'.out)
                    clear hk hT'
                    go_wp2_with fail
                    go_roundw
                    case rel => exact ⟨m' + 1, by omega, by go_num, HT2, hgi⟩
                    case measure => simp [intOf]; omega
                · exfalso
                  have h := hT'.out
                  rw [List.take_of_length_le (by omega), HF.out] at h
                  have := congrArg List.length h
                  rw [List.length_take] at this
                  omega
            · obtain rfl : i = F.length := by omega
              have HT2 := hT.out
              rw [List.take_length] at HT2
              have HT2 := Lib.hid HT2
              clear hT
              have hgw := hgw9.trans hg
              have hgX := hgX9.trans hg
              clear hg hgw9 hgX9
              go_wp2_with fail
              go_loopw [19] (fun vm wi => ∃ m' : Nat, m' ≤ nl ∧ vm = .int .i64 m' ∧ Hid (ofL key (l.take m') = F) ∧ wi = wr) (fun v _ => nl - (intOf v).toNat)
              case atStart => exact ⟨m, hm, rfl, HT2, rfl⟩
              case round =>
                obtain ⟨m', hm', rfl, hT', rfl⟩ := hrel
                by_cases hml : m' < nl
                · have a2 := hgw.keep (Hcl.out m' hml).2.2.1
                  have hIl := run_ev cl Hbl.out hml
                  have hk := ofL_more HF.out (by omega) hT'.out
                  have hve := neL hk
                  have HT3 := Lib.hid (ofL_skip (by omega) hk hT'.out)
                  clear hk hT'
                  go_wp2_with fail
                  go_roundw
                  case rel => exact ⟨m' + 1, by omega, by go_num, HT3, trivial⟩
                  case measure => simp [intOf]; omega
                · have hS := refSame_any oR o n cR n c rows rows _ (hORn.out.rows.keep hgX) (HR.out.keep hgw)
                  rw [decide_eq_true rfl] at hS
                  have hS := Lib.hid hS
                  go_wp2_with fail
                  refine hS.out.mono ?_
                  rintro e w11 ⟨rfl, hd11⟩
                  go_wp2_with fail
                  refine (awake19_any _).mono ?_
                  rintro e w12 ⟨rfl, hg12⟩
                  go_wp2_with fail
                  go_ret
                  exact ⟨rfl, hgw.trans (hd11.gr.trans hg12)⟩
end Go.Proofs.Ytkngjnkecmjakaa
