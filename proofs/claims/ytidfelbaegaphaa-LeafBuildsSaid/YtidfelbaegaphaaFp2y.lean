import Derived.Test.YtidfelbaegaphaaUpAy
import Derived.StillTailTactics
namespace Go.Proofs.Ytidfelbaegaphaa
set_option linter.unusedVariables false
set_option linter.unusedSimpArgs false
open Go.BigFrame Go.RowKit Go.WideShapes

abbrev zV : Value := .agg #[.string ⟨#[]⟩, .string ⟨#[]⟩, .bool false, .int .i64 0, .slice none 0 0, .bool false]
/-- the rounds: what stands in the view's box -/
structure FoldAt (W : World) (b8 : Nat) (l : List Ry) (yb : Ry) (i : Int) (wr : World) (v : Vw) (o : Option Addr) (m c : Nat) : Prop where
  at' : viewAt l yb (i + 1).toNat = some v
  box : Bx wr b8 (vL v o m c)
  own : OwnAt wr W.heap.size o m c v.rows
  away : Value.ownBlock (.slice o m c) ≠ some b8
  size : VwSz v
  few : v.rows.length ≤ 101 * (l.length - (i + 1).toNat)
  gr : Gr W wr
/-- behind up -/
def FoldMid (W : World) (b8 : Nat) (v : Vw) (x : Rx) (s10 : Value) (wx : World) : Prop :=
  match upP v x.r with
  | some v2 => s10 = .bool true ∧ ∃ o m c, Bx wx b8 (vL v2 o m c) ∧ OwnAt wx W.heap.size o m c v2.rows ∧ Value.ownBlock (.slice o m c) ≠ some b8 ∧ Gr W wx
  | none => s10 = .bool false ∧ Gr W wx

abbrev chain6 (W3 : World) (b : Nat) (a0 a1 a2 a3 a4 a5 : Value) : World := (((((W3.setCell ⟨b, 0, none⟩ a0).setCell ⟨b, 1, none⟩ a1).setCell ⟨b, 2, none⟩ a2).setCell ⟨b, 3, none⟩ a3).setCell ⟨b, 4, none⟩ a4).setCell ⟨b, 5, none⟩ a5
theorem box6 {W3 : World} {b : Nat} {zs : List Value} (hz : Bx W3 b zs) (hl : zs.length = 6) (a0 a1 a2 a3 a4 a5 : Value) : Bx (chain6 W3 b a0 a1 a2 a3 a4 a5) b [a0, a1, a2, a3, a4, a5] :=
  show Bx (W3.setCells b 0 [a0, a1, a2, a3, a4, a5]) b _ from hz.setAll (by rw [hl]; rfl)
theorem gr6 {w W3 : World} {b : Nat} (hg : Gr w W3) (hb : w.heap.size ≤ b) (a0 a1 a2 a3 a4 a5 : Value) : Gr w (chain6 W3 b a0 a1 a2 a3 a4 a5) :=
  show Gr w (W3.setCells b 0 [a0, a1, a2, a3, a4, a5]) from hg.setCells hb _ _
theorem own6 {W3 : World} {b base : Nat} {o : Option Addr} {n c : Nat} {l : List Rw} (h : OwnAt W3 base o n c l) (hb : Value.ownBlock (.slice o n c) ≠ some b) (a0 a1 a2 a3 a4 a5 : Value) : OwnAt (chain6 W3 b a0 a1 a2 a3 a4 a5) base o n c l :=
  show OwnAt (W3.setCells b 0 [a0, a1, a2, a3, a4, a5]) base o n c l from h.setOther hb _ _

theorem fold_boxB {W w3 : World} {base3 : Nat} {o : Option Addr} {m c : Nat} {l : List Rw} (hO3 : OwnAt w3 base3 o m c l) (hgW : Gr W w3) (hb : W.heap.size ≤ base3) (T : TypeId) (us : List Value) :
    Bx (w3.alloc (.cells us.toArray T)) w3.heap.size us ∧ OwnAt (w3.alloc (.cells us.toArray T)) W.heap.size o m c l ∧ Value.ownBlock (.slice o m c) ≠ some w3.heap.size ∧ Gr W (w3.alloc (.cells us.toArray T)) ∧ W.heap.size ≤ w3.heap.size :=
  ⟨(Bx.new w3 us.toArray T rfl).of (by simp), (hO3.lower2 hb).keep ((Gr.refl _).alloc _), fun q => by have := (hO3.own.lt _ q).2; omega, hgW.alloc _, hgW.le⟩
theorem fold_boxA {W w3 : World} {base3 s : Nat} {zs : List Value} (B8 : Bx w3 s zs) (hl : zs.length = 6) {o : Option Addr} {m c : Nat} {l : List Rw} (hO3 : OwnAt w3 base3 o m c l) (hs : s < base3) (hgW : Gr W w3) (hWs : W.heap.size ≤ s) (a0 a1 a2 a3 a4 a5 : Value) :
    Bx (chain6 w3 s a0 a1 a2 a3 a4 a5) s [a0, a1, a2, a3, a4, a5] ∧ OwnAt (chain6 w3 s a0 a1 a2 a3 a4 a5) W.heap.size o m c l ∧ Value.ownBlock (.slice o m c) ≠ some s ∧ Gr W (chain6 w3 s a0 a1 a2 a3 a4 a5) ∧ W.heap.size ≤ s :=
  have hne : Value.ownBlock (.slice o m c) ≠ some s := fun q => by have := (hO3.own.lt _ q).1; omega
  ⟨box6 B8 hl _ _ _ _ _ _, own6 (hO3.lower2 (by omega)) hne _ _ _ _ _ _, hne, gr6 hgW hWs _ _ _ _ _ _, hWs⟩

set_option maxRecDepth 100000 in
set_option maxHeartbeats 4000000 in
theorem fold_any (oa : Option Addr) (n cap : Nat) (l : List Ry) (w : World) (h : RecsAt w oa n cap l) (hn : n ≤ 1000) (hrs : ∀ (i : Nat) (y : Ry), l[i]? = some y → y.x.r.rows.length ≤ 100) :
    Calls Try.prog 20 #[.slice oa n cap] w (FoldTells w (foldP (rcs l))) := by
  have HR := Lib.hid (@fold_bad l)
  have HR2 := Lib.hid (@fold_last l)
  have HR0 : Hid (n = 0 → foldP (rcs l) = (none, 10)) := Lib.hid fun q => by
    have : l = [] := List.length_eq_zero_iff.1 (by rw [h.len, q])
    rw [this]; exact fold_nil
  have Hl := Lib.hid h.len
  have Hrs := Lib.hid hrs
  have hcl := h.cap_le
  have hcm := h.cap_max
  unfold maxLen at hcm
  obtain ⟨b, off, ho, hc⟩ := h.get
  have Ho := Lib.hid ho
  have Hc := Lib.hid hc
  clear hrs h ho hc
  generalize foldP (rcs l) = res at *
  have B2 : Bx (w.alloc (.cells #[.string ⟨#[]⟩, .string ⟨#[]⟩, .bool false, .int .i64 0, .slice none 0 0, .bool false] 27)) w.heap.size zL := Bx.new w _ _ rfl
  have hg2 := (Gr.refl w).alloc (.cells #[.string ⟨#[]⟩, .string ⟨#[]⟩, .bool false, .int .i64 0, .slice none 0 0, .bool false] 27)
  go_enter Try.func20, Try.ntmps20
  go_upto_region 2 with fail
  generalize w.alloc (.cells #[.string ⟨#[]⟩, .string ⟨#[]⟩, .bool false, .int .i64 0, .slice none 0 0, .bool false] 27) = W at *
  have hzlt : w.heap.size < W.heap.size := B2.lt (by simp)
  go_loopw [13] (fun s13 wr => ∃ k : Nat, k ≤ n ∧ s13 = .int .i64 k ∧ Gr W wr ∧ Hid (∀ (i : Nat) (y : Ry), i < k → l[i]? = some y → 1 ≤ y.x.r.kind ∧ y.x.r.kind ≤ 6)) (fun s13 _ => n - (intOf s13).toNat)
  case atStart => exact ⟨0, Nat.zero_le _, rfl, Gr.refl _, Lib.hid fun i y hi _ => by omega⟩
  case round =>
    obtain ⟨k, hk, rfl, hg, hall⟩ := hrel
    by_cases hlt : k < n
    · have hy : l[k]? = some (l[k]'(by have := Hl.out; omega)) := List.getElem?_eq_getElem _
      generalize (l[k]'(by have := Hl.out; omega)) = y at hy
      obtain ⟨o1, n1, c1, o2, n2, c2, R⟩ := Hc.out k y hy
      have R1 := R.keep (hg2.trans hg)
      have hI := run_rec cap Ho.out hlt
      have Hy := Lib.hid hy
      clear hy R
      go_upto_region 3 with fail
      go_cut [5] (fun s5 wx => ∃ b5 : Nat, s5 = .pointer (some ⟨b5, 0, none⟩) ∧ Bx wx b5 (xL y.x o1 n1 c1 o2 n2 c2) ∧ Gr wr wx)
      case first =>
        go_wp2_with (first | (refine wpList_load_mid rfl 35 _ rfl _ _ rfl _ _ (R1).rng Try.underlying35 rfl (by kernel_rfl) ?_) | (refine wpList_store_mid rfl 35 _ _ rfl _ 0 _ rfl rfl (Bx.new _ _ _ rfl).may (by kernel_rfl) (by kernel_rfl) ?_))
        go_meet
        exact ⟨wr.heap.size, rfl, (Bx.new wr _ _ rfl).setAll rfl, ((Gr.refl _).alloc _).setCells (Nat.le_refl _) _ _⟩
      case rest =>
        obtain ⟨b5, rfl, hb5, hg5⟩ := hcut
        have x0 := hb5.cell 0 rfl
        have hgx := hg.trans hg5
        clear hI
        by_cases hbad : y.x.r.kind < 1 ∨ 6 < y.x.r.kind
        · have hno : res = (none, 9) := HR.out fun q => by have := q k y Hy.out; omega
          have Hno := Lib.hid hno
          have B3 := B2.keep hgx
          clear hno
          by_cases h1 : y.x.r.kind < 1
          · go_wp2_with (refine wpList_store_mid rfl 27 _ _ rfl _ 0 _ rfl rfl (B3).may (by kernel_rfl) (by kernel_rfl) ?_)
            refine bodyPost_ret ((B3.setAll (us := zL) rfl).ret2 rfl _ rfl rfl Try.underlying27 rfl (by kernel_rfl)) rfl ?_
            rw [Hno.out]
            exact ⟨rfl, (hg2.trans hgx).setCells (Nat.le_refl _) _ _⟩
          · have h6 : 6 < y.x.r.kind := by omega
            go_wp2_with (refine wpList_store_mid rfl 27 _ _ rfl _ 0 _ rfl rfl (B3).may (by kernel_rfl) (by kernel_rfl) ?_)
            refine bodyPost_ret ((B3.setAll (us := zL) rfl).ret2 rfl _ rfl rfl Try.underlying27 rfl (by kernel_rfl)) rfl ?_
            rw [Hno.out]
            exact ⟨rfl, (hg2.trans hgx).setCells (Nat.le_refl _) _ _⟩
        · have h1 : 1 ≤ y.x.r.kind := by omega
          have h6 : y.x.r.kind ≤ 6 := by omega
          go_wp2_with fail
          go_roundw
          case rel =>
            exact ⟨k + 1, by omega, by go_num, hgx, Lib.hid fun i y' hi hy' => by
              rcases Nat.lt_or_ge i k with q | q
              · exact hall.out i y' q hy'
              · obtain rfl : i = k := by omega
                rw [Hy.out] at hy'
                cases hy'
                exact ⟨h1, h6⟩⟩
          case measure => simp [intOf]; omega
    · obtain rfl : k = n := by omega
      have hK : Hid (kindsB l) := Lib.hid fun i y hi => hall.out i y (by have := (List.getElem?_eq_some_iff.1 hi).1; have := Hl.out; omega) hi
      have hgx := hg
      clear hall HR
      rcases Nat.eq_zero_or_pos k with h0 | hpos
      · have hno : res = (none, 10) := HR0.out h0
        have Hno := Lib.hid hno
        have B3 := B2.keep hg
        subst h0
        clear hno
        go_wp2_with (refine wpList_store_mid rfl 27 _ _ rfl _ 0 _ rfl rfl (B3).may (by kernel_rfl) (by kernel_rfl) ?_)
        refine bodyPost_ret ((B3.setAll (us := zL) rfl).ret2 rfl _ rfl rfl Try.underlying27 rfl (by kernel_rfl)) rfl ?_
        rw [Hno.out]
        exact ⟨rfl, (hg2.trans hg).setCells (Nat.le_refl _) _ _⟩
      · have hyb : l[k - 1]? = some (l[k - 1]'(by have := Hl.out; omega)) := List.getElem?_eq_getElem _
        generalize (l[k - 1]'(by have := Hl.out; omega)) = yb at hyb
        obtain ⟨o1, n1, c1, o2, n2, c2, R⟩ := Hc.out (k - 1) yb hyb
        have R1 := R.keep (hg2.trans hg)
        have hFl : Hid (res = (if yb.x.r.kind = 1 ∧ soundP yb.x.r.rows yb.x.r.low yb.x.r.high yb.x.r.unb = true then (match viewAt l yb 0 with | some v => (some v, 0) | none => (none, 10)) else (none, 10) : Option Vw × Int)) := Lib.hid (HR2.out hK.out (by rw [Hl.out]; exact hyb))
        have hI := fun w1 => run_recI cap Ho.out (k := (k : Int) - 1) (by omega) (by omega) w1
        have e1 : ((k : Int) - 1).toNat = k - 1 := by omega
        rw [e1] at hI
        have Hyb := Lib.hid hyb
        have a0 : wr.cell? ⟨b, off + (k - 1) * 15, none⟩ = some (.int .i64 yb.x.r.kind) := R1.cell 0 rfl
        clear hyb R e1
        by_cases hk1 : yb.x.r.kind = 1
        · have HK1 := Lib.hid hk1
          rw [hk1] at a0
          clear hk1
          go_upto_region 10 with fail
          go_cut [7] (fun s7 wx => ∃ b7 : Nat, s7 = .pointer (some ⟨b7, 0, none⟩) ∧ Bx wx b7 (xL yb.x o1 n1 c1 o2 n2 c2) ∧ Gr wr wx)
          case first =>
            go_wp2_with (first | (refine wpList_load_mid rfl 35 _ rfl _ _ rfl _ _ (R1).rng Try.underlying35 rfl (by kernel_rfl) ?_) | (refine wpList_store_mid rfl 35 _ _ rfl _ 0 _ rfl rfl (Bx.new _ _ _ rfl).may (by kernel_rfl) (by kernel_rfl) ?_))
            go_meet
            exact ⟨wr.heap.size, rfl, (Bx.new wr _ _ rfl).setAll rfl, ((Gr.refl _).alloc _).setCells (Nat.le_refl _) _ _⟩
          case rest =>
            obtain ⟨b7, rfl, hb7, hg7⟩ := hcut
            have hg8 := hg.trans hg7
            have R2 := R1.keep hg7
            have hRw := Lib.hid R2.rows
            have hlen1 := R2.rows.len
            have hr1 := Hrs.out _ _ Hyb.out
            rw [hlen1] at hr1
            have Hlen1 := Lib.hid hlen1
            have Hsz := Lib.hid R2.size
            have hb7l : b7 < wc.heap.size := hb7.lt (by simp)
            have y1 := hb7.cell 1 rfl
            have y2 := hb7.cell 2 rfl
            have y3 := hb7.cell 3 rfl
            have y4 := hb7.cell 4 rfl
            have y5 := hb7.cell 5 rfl
            clear a0 hI hlen1 R1 R2
            go_upto_region 11 with fail
            go_cut [8] (fun s8 wx => ∃ (b8 : Nat) (o : Option Addr) (m c : Nat), s8 = .pointer (some ⟨b8, 0, none⟩) ∧ Bx wx b8 [.string yb.x.r.low, .string yb.x.r.high, .bool yb.x.r.unb, .int .i64 yb.x.r.right, .slice o m c, .bool false] ∧ OwnAt wx W.heap.size o m c yb.x.r.rows ∧ Value.ownBlock (.slice o m c) ≠ some b8 ∧ Gr W wx ∧ W.heap.size ≤ b8)
            case first =>
              go_region_held3 (fun W' => W'.cell? ⟨b7, 1, none⟩ = some (.string yb.x.r.low) ∧ W'.cell? ⟨b7, 2, none⟩ = some (.string yb.x.r.high) ∧ W'.cell? ⟨b7, 3, none⟩ = some (.bool yb.x.r.unb) ∧ W'.cell? ⟨b7, 4, none⟩ = some (.int .i64 yb.x.r.right) ∧ W'.cell? ⟨b7, 5, none⟩ = some (.slice o1 n1 c1))
                ((go_split_ands; (repeat' apply And.intro) <;> first | with_reducible assumption | (with_reducible refine Gr.keep hg3 ?_; with_reducible assumption) | ((repeat (first | with_reducible refine drew1 ?_ | with_reducible refine alloc1 ?_ | with_reducible refine far1 ?_ (by omega))); first | with_reducible assumption | (with_reducible refine Gr.keep hg3 ?_; (repeat (first | with_reducible refine drew1 ?_ | with_reducible refine alloc1 ?_)); with_reducible assumption)))) (first | (go_at_call 23; (with_reducible refine (copy_any _ _ _ _ _ (hRw.out.keep ?_) ?_).mono ?_); (focus ((repeat (first | with_reducible exact Gr.refl _ | with_reducible refine Gr.drewN ?_ _ | with_reducible refine Gr.drew ?_ | with_reducible refine Gr.alloc ?_ _ | with_reducible refine Gr.setCell ?_ ?_ _ | (with_reducible refine Gr.trans ?_ (by assumption)) | omega | (dsimp only; omega))); done)); (focus (omega; done)); rintro e w3 ⟨o3, m3, c3, rfl, hr3, hg3, base3, hb3, hO3⟩; (have hg9 : Gr wc w3 := Gr.trans (by (repeat (first | with_reducible exact Gr.refl _ | with_reducible refine Gr.drewN ?_ _ | with_reducible refine Gr.drew ?_ | with_reducible refine Gr.alloc ?_ _ | with_reducible refine Gr.setCell ?_ ?_ _ | (with_reducible refine Gr.trans ?_ (by assumption)) | omega | (dsimp only; omega)))) hg3); have hb9 : wc.heap.size ≤ base3 := Nat.le_trans (Gr.le (by (repeat (first | with_reducible exact Gr.refl _ | with_reducible refine Gr.drewN ?_ _ | with_reducible refine Gr.drew ?_ | with_reducible refine Gr.alloc ?_ _ | with_reducible refine Gr.setCell ?_ ?_ _ | (with_reducible refine Gr.trans ?_ (by assumption)) | omega | (dsimp only; omega))))) hb3; have y1 := hg9.keep y1; have y2 := hg9.keep y2; have y3 := hg9.keep y3; have y4 := hg9.keep y4; have y5 := hg9.keep y5; (try (have B8 := ((Bx.new wc #[.string ⟨#[]⟩, .string ⟨#[]⟩, .bool false, .int .i64 0, .slice none 0 0, .bool false] 27 (b := wc.heap.size) rfl).keep (Gr.refl _).drew).keep hg3; have hs9 : wc.heap.size < base3 := Nat.lt_of_lt_of_le (by show _ < (wc.alloc _).heap.size; rw [size_alloc1]; omega) hb3; have q0 := (B8).cell 0 rfl; have q1 := (B8).cell 1 rfl; have q2 := (B8).cell 2 rfl; have q3 := (B8).cell 3 rfl; have q4 := (B8).cell 4 rfl; have q5 := (B8).cell 5 rfl; have p0 := (B8).free 0 (by simp); have p1 := (B8).free 1 (by simp); have p2 := (B8).free 2 (by simp); have p3 := (B8).free 3 (by simp); have p4 := (B8).free 4 (by simp); have p5 := (B8).free 5 (by simp)))))
              all_goals (go_wp2_with fail; go_meet; first | (with_reducible exact ⟨w3.heap.size, o3, m3, c3, rfl, fold_boxB hO3 (hg8.trans hg9) (Nat.le_trans hg8.le hb9) _ _⟩) | (with_reducible exact ⟨wc.heap.size, o3, m3, c3, rfl, fold_boxA B8 rfl hO3 hs9 (hg8.trans hg9) hg8.le _ _ _ _ _ _⟩))
            case rest =>
              obtain ⟨b8, o, m, c, rfl, B8, hO8, haw, hgW, hb8⟩ := hcut
              clear y1 y2 y3 y4 y5 hb7 hb7l hRw hr1
              obtain ⟨S0, hS0⟩ : ∃ S0 : Bool, S0 = soundP yb.x.r.rows yb.x.r.low yb.x.r.high yb.x.r.unb := ⟨_, rfl⟩
              have HS0 := Lib.hid hS0
              have hm := hO8.rows.len
              have hr1 := Hrs.out _ _ Hyb.out
              have hm2 : m ≤ 100 := by omega
              have hSo := fun w1 (hq : Gr wc w1) => sound_any yb.x.r.rows o m c yb.x.r.low yb.x.r.high yb.x.r.unb w1 (hO8.rows.keep hq) (by omega) Hsz.out.low Hsz.out.high
              rw [← hS0] at hSo
              have hSo := Lib.hid hSo
              have hSp := Lib.hid fun w1 => span_any ⟨yb.x.r.low, yb.x.r.high, yb.x.r.unb, yb.x.r.right, yb.x.r.rows, false⟩ o m c w1
              clear hS0 hm hr1
              have v0 := B8.cell 0 rfl
              have v1 := B8.cell 1 rfl
              have v2 := B8.cell 2 rfl
              have v3 := B8.cell 3 rfl
              have v4 := B8.cell 4 rfl
              have v5 := B8.cell 5 rfl
              go_upto_region 12 with fail
              go_cut [64] (fun s64 wx => s64 = .bool (!S0) ∧ Gr wc wx)
              case first =>
                go_region_held3 (fun W' => W'.cell? ⟨b8, 0, none⟩ = some (.string yb.x.r.low) ∧ W'.cell? ⟨b8, 1, none⟩ = some (.string yb.x.r.high) ∧ W'.cell? ⟨b8, 2, none⟩ = some (.bool yb.x.r.unb) ∧ W'.cell? ⟨b8, 3, none⟩ = some (.int .i64 yb.x.r.right) ∧ W'.cell? ⟨b8, 4, none⟩ = some (.slice o m c) ∧ W'.cell? ⟨b8, 5, none⟩ = some (.bool false))
                  (first | (go_split_ands; (repeat' apply And.intro) <;> first | with_reducible assumption | (with_reducible refine Gr.keep hg3 ?_; with_reducible assumption) | ((repeat (first | with_reducible refine drew1 ?_ | with_reducible refine alloc1 ?_ | with_reducible refine far1 ?_ (by omega))); first | with_reducible assumption | (with_reducible refine Gr.keep hg3 ?_; (repeat (first | with_reducible refine drew1 ?_ | with_reducible refine alloc1 ?_)); with_reducible assumption))) | (go_split_ands; (repeat' apply And.intro) <;> first | with_reducible assumption | (with_reducible refine Gr.keep hg4 ?_; with_reducible assumption) | ((repeat (first | with_reducible refine drew1 ?_ | with_reducible refine alloc1 ?_ | with_reducible refine far1 ?_ (by omega))); first | with_reducible assumption | (with_reducible refine Gr.keep hg4 ?_; (repeat (first | with_reducible refine drew1 ?_ | with_reducible refine alloc1 ?_)); with_reducible assumption)))) (first | (go_at_call 27; (with_reducible refine (hSp.out _).mono ?_); rintro e w3 ⟨rfl, hg3⟩) | (go_at_call 26; (with_reducible refine (hSo.out _ ?_).mono ?_); (focus ((repeat (first | with_reducible exact Gr.refl _ | with_reducible refine Gr.drewN ?_ _ | with_reducible refine Gr.drew ?_ | with_reducible refine Gr.alloc ?_ _ | with_reducible refine Gr.setCell ?_ ?_ _ | (with_reducible refine Gr.trans ?_ (by assumption)) | omega | (dsimp only; omega))); done)); rintro e w4 ⟨rfl, hg4⟩))
                all_goals (go_wp2_with fail; go_meet; with_reducible exact ⟨rfl, Gr.trans (by (repeat (first | with_reducible exact Gr.refl _ | with_reducible refine Gr.drewN ?_ _ | with_reducible refine Gr.drew ?_ | with_reducible refine Gr.alloc ?_ _ | with_reducible refine Gr.setCell ?_ ?_ _ | (with_reducible refine Gr.trans ?_ (by assumption)) | omega | (dsimp only; omega)))) hg4⟩)
              case rest =>
                obtain ⟨rfl, hgs⟩ := hcut
                have hgs2 := hgW.trans hgs
                clear v0 v1 v2 v3 v4 v5 hSo hSp
                cases S0
                · have hno : res = (none, 10) := by rw [hFl.out, if_neg (fun q => by rw [← HS0.out] at q; exact absurd q.2 (by decide))]
                  have Hno := Lib.hid hno
                  have B3 := B2.keep hgs2
                  clear hno
                  go_wp2_with (refine wpList_store_mid rfl 27 _ _ rfl _ 0 _ rfl rfl (B3).may (by kernel_rfl) (by kernel_rfl) ?_)
                  refine bodyPost_ret ((B3.setAll (us := zL) rfl).ret2 rfl _ rfl rfl Try.underlying27 rfl (by kernel_rfl)) rfl ?_
                  rw [Hno.out]
                  exact ⟨rfl, (hg2.trans hgs2).setCells (Nat.le_refl _) _ _⟩
                · have hFv : res = (match viewAt l yb 0 with | some v => (some v, 0) | none => (none, 10) : Option Vw × Int) := by rw [hFl.out, if_pos ⟨HK1.out, HS0.out.symm⟩]
                  have HFv := Lib.hid hFv
                  have hF0 : FoldAt W b8 l yb ((k : Int) - 1 - 1) wc (baseV yb.x.r) o m c := ⟨viewAt_end l yb (by rw [Hl.out]; omega), B8.keep hgs, hO8.keep hgs, haw, ⟨Hsz.out.low, Hsz.out.high⟩, by
                    have h1 := Hrs.out _ _ Hyb.out
                    have h2 := Hl.out
                    show yb.x.r.rows.length ≤ _
                    have h3 : 1 ≤ l.length - ((k : Int) - 1 - 1 + 1).toNat := by omega
                    omega, hgs2⟩
                  have HF0 := Lib.hid hF0
                  clear hFv hF0 hFl HR2 HR0 HS0 HK1 B8 hO8 hgW hgx hgs hg hg7 hg8
                  go_wp2_with fail
                  go_loopw [9] (fun s9 wr => ∃ (i : Int) (v : Vw) (o : Option Addr) (m c : Nat), s9 = .int .i64 i ∧ -1 ≤ i ∧ i ≤ (k : Int) - 1 - 1 ∧ Hid (FoldAt W b8 l yb i wr v o m c)) (fun s9 _ => (intOf s9 + 1).toNat)
                  case atStart => exact ⟨_, _, _, _, _, rfl, by omega, Int.le_refl _, HF0⟩
                  case round =>
                    obtain ⟨i, v, o, m, c, rfl, hi1, hi2, hF⟩ := hrel
                    by_cases hge : 0 ≤ i
                    · have hil : i.toNat + 1 < l.length := by have := Hl.out; omega
                      have hy : l[i.toNat]? = some (l[i.toNat]'(by omega)) := List.getElem?_eq_getElem _
                      generalize (l[i.toNat]'(by omega)) = y at hy
                      obtain ⟨o1, n1, c1, o2, n2, c2, R⟩ := Hc.out i.toNat y hy
                      have hbw : b < w.heap.size := cell_lt (R.cell 0 rfl)
                      have hbne : b ≠ b8 := by omega
                      have R1 := R.keep (hg2.trans hF.out.gr)
                      have hI := fun w1 => run_recI cap Ho.out hge (by omega) w1
                      have hn1 : n1 ≤ 100 := by have h1 := Hrs.out _ _ hy; have h2 := R1.rows.len; omega
                      have hml : m ≤ 1000000 := by have h1 := hF.out.few; have h2 := hF.out.own.rows.len; have h3 := Hl.out; omega
                      have hstep : viewAt l yb i.toNat = upP v y.x.r := by
                        rw [viewAt_step l yb hy hil]
                        have h1 := hF.out.at'
                        rw [show (i + 1).toNat = i.toNat + 1 by omega] at h1
                        rw [h1]; rfl
                      have Hstep := Lib.hid hstep
                      have Hy := Lib.hid hy
                      have hlt8 : b8 < wr.heap.size := hF.out.box.lt (by simp)
                      have hUp := fun w1 (hq : Gr wr w1) => up_any (base := W.heap.size) v y.x o m c o1 n1 c1 o2 n2 c2 w1 (hF.out.own.keep hq) (R1.rows.keep hq) hml (by omega) (hF.out.gr.trans hq).le hF.out.size R1.size
                      have B9 := hF.out.box
                      have hgr := hF.out.gr
                      have Haw := Lib.hid hF.out.away
                      have HRs := Lib.hid R1.size
                      have r0 : wr.cell? ⟨b, off + i.toNat * 15, none⟩ = some (.int .i64 y.x.r.kind) := R1.cell 0 rfl
                      have r1 : wr.cell? ⟨b, off + i.toNat * 15 + 1, none⟩ = some (.string y.x.r.low) := R1.cell 1 rfl
                      have r2 : wr.cell? ⟨b, off + i.toNat * 15 + 2, none⟩ = some (.string y.x.r.high) := R1.cell 2 rfl
                      have r3 : wr.cell? ⟨b, off + i.toNat * 15 + 3, none⟩ = some (.bool y.x.r.unb) := R1.cell 3 rfl
                      have r4 : wr.cell? ⟨b, off + i.toNat * 15 + 4, none⟩ = some (.int .i64 y.x.r.right) := R1.cell 4 rfl
                      have r5 : wr.cell? ⟨b, off + i.toNat * 15 + 5, none⟩ = some (.slice o1 n1 c1) := R1.cell 5 rfl
                      have r6 : wr.cell? ⟨b, off + i.toNat * 15 + 6, none⟩ = some (.slice o2 n2 c2) := R1.cell 6 rfl
                      have r7 : wr.cell? ⟨b, off + i.toNat * 15 + 7, none⟩ = some (.string y.x.r.key) := R1.cell 7 rfl
                      have r8 : wr.cell? ⟨b, off + i.toNat * 15 + 8, none⟩ = some (.string y.x.r.val) := R1.cell 8 rfl
                      have r9 : wr.cell? ⟨b, off + i.toNat * 15 + 9, none⟩ = some (.int .i64 y.x.r.page) := R1.cell 9 rfl
                      have r10 : wr.cell? ⟨b, off + i.toNat * 15 + 10, none⟩ = some (.int .i64 y.x.hpage) := R1.cell 10 rfl
                      have r11 : wr.cell? ⟨b, off + i.toNat * 15 + 11, none⟩ = some (.int .i64 y.x.hleft) := R1.cell 11 rfl
                      have r12 : wr.cell? ⟨b, off + i.toNat * 15 + 12, none⟩ = some (.string y.x.hkey) := R1.cell 12 rfl
                      have r13 : wr.cell? ⟨b, off + i.toNat * 15 + 13, none⟩ = some (.int .i64 y.x.slot) := R1.cell 13 rfl
                      have r14 : wr.cell? ⟨b, off + i.toNat * 15 + 14, none⟩ = some (.int .i64 y.x.gen) := R1.cell 14 rfl
                      have v0 := B9.cell 0 rfl
                      have v1 := B9.cell 1 rfl
                      have v2 := B9.cell 2 rfl
                      have v3 := B9.cell 3 rfl
                      have v4 := B9.cell 4 rfl
                      have v5 := B9.cell 5 rfl
                      clear hy hstep R R1
                      go_upto_region 18 with fail
                      go_cut [10] (fun s10 wx => FoldMid W b8 v y.x s10 wx)
                      case first =>
                        cases hres : upP v y.x.r with
                        | none =>
                          have hmk : Hid (∀ wx, Gr W wx → FoldMid W b8 v y.x (.bool false) wx) := Lib.hid fun wx hq => by unfold FoldMid; rw [hres]; exact ⟨rfl, hq⟩
                          rw [hres] at hUp
                          have hUp := Lib.hid hUp
                          clear hres
                          go_region_with (first | (go_at_call 28; (with_reducible refine (hUp.out _ ?_).mono ?_); (focus ((repeat (first | with_reducible exact Gr.refl _ | with_reducible refine Gr.drewN ?_ _ | with_reducible refine Gr.drew ?_ | with_reducible refine Gr.alloc ?_ _ | with_reducible refine Gr.setCell ?_ ?_ _ | (with_reducible refine Gr.trans ?_ (by assumption)) | omega | (dsimp only; omega))); done)); rintro e w3 ⟨a1, a2, u1, g1, p1, o3, m3, c3, rfl, hg3⟩; (have hg9 : Gr wr w3 := Gr.trans (by (repeat (first | with_reducible exact Gr.refl _ | with_reducible refine Gr.drewN ?_ _ | with_reducible refine Gr.drew ?_ | with_reducible refine Gr.alloc ?_ _ | with_reducible refine Gr.setCell ?_ ?_ _ | (with_reducible refine Gr.trans ?_ (by assumption)) | omega | (dsimp only; omega)))) hg3); have B10 := B9.keep hg9; have q0 := (B10).cell 0 rfl; have q1 := (B10).cell 1 rfl; have q2 := (B10).cell 2 rfl; have q3 := (B10).cell 3 rfl; have q4 := (B10).cell 4 rfl; have q5 := (B10).cell 5 rfl; have p0 := (B10).free 0 (by simp); have p1 := (B10).free 1 (by simp); have p2 := (B10).free 2 (by simp); have p3 := (B10).free 3 (by simp); have p4 := (B10).free 4 (by simp); have p5 := (B10).free 5 (by simp)))
                          all_goals (go_wp2_with fail; go_meet; with_reducible exact hmk.out _ (gr6 (hgr.trans hg9) hb8 _ _ _ _ _ _))
                        | some v2 =>
                          have hmk : Hid (∀ (w3 : World) (o3 : Option Addr) (m3 c3 : Nat), Bx w3 b8 (vL v o m c) → OwnAt w3 W.heap.size o3 m3 c3 v2.rows → Value.ownBlock (.slice o3 m3 c3) ≠ some b8 → Gr W w3 → FoldMid W b8 v y.x (.bool true) (chain6 w3 b8 (.string v2.low) (.string v2.high) (.bool v2.unb) (.int .i64 v2.right) (.slice o3 m3 c3) (.bool v2.gone))) := Lib.hid fun w3 o3 m3 c3 h1 h2 h3 h4 => by
                            unfold FoldMid; rw [hres]
                            exact ⟨rfl, o3, m3, c3, box6 h1 rfl _ _ _ _ _ _, own6 h2 h3 _ _ _ _ _ _, h3, gr6 h4 hb8 _ _ _ _ _ _⟩
                          rw [hres] at hUp
                          have hUp := Lib.hid hUp
                          clear hres
                          go_region_with (first | (go_at_call 28; (with_reducible refine (hUp.out _ ?_).mono ?_); (focus ((repeat (first | with_reducible exact Gr.refl _ | with_reducible refine Gr.drewN ?_ _ | with_reducible refine Gr.drew ?_ | with_reducible refine Gr.alloc ?_ _ | with_reducible refine Gr.setCell ?_ ?_ _ | (with_reducible refine Gr.trans ?_ (by assumption)) | omega | (dsimp only; omega))); done)); rintro e w3 ⟨o3, m3, c3, rfl, hO3, haw3, hg3⟩; (have hg9 : Gr wr w3 := Gr.trans (by (repeat (first | with_reducible exact Gr.refl _ | with_reducible refine Gr.drewN ?_ _ | with_reducible refine Gr.drew ?_ | with_reducible refine Gr.alloc ?_ _ | with_reducible refine Gr.setCell ?_ ?_ _ | (with_reducible refine Gr.trans ?_ (by assumption)) | omega | (dsimp only; omega)))) hg3); (have hne3 : Value.ownBlock (.slice o3 m3 c3) ≠ some b8 := fun q => (haw3 b8 q).elim (fun z => Nat.lt_irrefl _ (Nat.lt_of_lt_of_le hlt8 z)) Haw.out); have B10 := B9.keep hg9; have q0 := (B10).cell 0 rfl; have q1 := (B10).cell 1 rfl; have q2 := (B10).cell 2 rfl; have q3 := (B10).cell 3 rfl; have q4 := (B10).cell 4 rfl; have q5 := (B10).cell 5 rfl; have p0 := (B10).free 0 (by simp); have p1 := (B10).free 1 (by simp); have p2 := (B10).free 2 (by simp); have p3 := (B10).free 3 (by simp); have p4 := (B10).free 4 (by simp); have p5 := (B10).free 5 (by simp)))
                          all_goals (go_wp2_with fail; go_meet; with_reducible exact hmk.out w3 o3 m3 c3 B10 hO3 hne3 (hgr.trans hg9))
                      case rest =>
                        clear r0 r1 r2 r3 r4 r5 r6 r7 r8 r9 r10 r11 r12 r13 r14 v0 v1 v2 v3 v4 v5 hI hUp
                        have hM := hcut
                        unfold FoldMid at hM
                        cases hres : upP v y.x.r with
                        | none =>
                          rw [hres] at hM
                          obtain ⟨rfl, hgc⟩ := hM
                          have hno : res = (none, 10) := by
                            rw [HFv.out, viewAt_none l yb i.toNat (by rw [Hstep.out, hres])]
                          have Hno := Lib.hid hno
                          have B3 := B2.keep hgc
                          clear hno hres hcut
                          go_wp2_with (refine wpList_store_mid rfl 27 _ _ rfl _ 0 _ rfl rfl (B3).may (by kernel_rfl) (by kernel_rfl) ?_)
                          refine bodyPost_ret ((B3.setAll (us := zL) rfl).ret2 rfl _ rfl rfl Try.underlying27 rfl (by kernel_rfl)) rfl ?_
                          rw [Hno.out]
                          exact ⟨rfl, (hg2.trans hgc).setCells (Nat.le_refl _) _ _⟩
                        | some v2 =>
                          rw [hres] at hM
                          obtain ⟨rfl, o3, m3, c3, h1, h2, h3, h4⟩ := hM
                          obtain ⟨hs1, hs2⟩ := up_sizes hF.out.size HRs.out hres
                          have hF2 : FoldAt W b8 l yb (i - 1) wc v2 o3 m3 c3 := ⟨by rw [show (i - 1 + 1).toNat = i.toNat by omega, Hstep.out, hres], h1, h2, h3, hs1, by
                            have h5 := hF.out.few
                            have h6 := Hrs.out _ _ Hy.out
                            rw [show (i - 1 + 1).toNat = i.toNat by omega]
                            rw [show (i + 1).toNat = i.toNat + 1 by omega] at h5
                            omega, h4⟩
                          have HF2 := Lib.hid hF2
                          clear hF2 hres hcut h1 h2 h3 h4 hs1 hs2
                          go_wp2_with fail
                          go_roundw
                          case rel => exact ⟨_, _, _, _, _, rfl, by omega, by omega, HF2⟩
                          case measure => simp [intOf]; omega
                    · have hi0 : (i + 1).toNat = 0 := by omega
                      have hno : res = (some v, 0) := by
                        have h1 := hF.out.at'
                        rw [hi0] at h1
                        rw [HFv.out, h1]
                      have Hno := Lib.hid hno
                      have B3 := B2.keep hF.out.gr
                      have B9 := hF.out.box
                      clear hno hi0
                      go_wp2_with (first | (refine wpList_load_mid rfl 27 _ rfl _ 0 rfl _ _ (B9).rng Try.underlying27 rfl (by kernel_rfl) ?_) | (refine wpList_store_mid rfl 27 _ _ rfl _ 0 _ rfl rfl (B3).may (by kernel_rfl) (by kernel_rfl) ?_))
                      refine bodyPost_ret ((B3.setAll (us := vL v o m c) rfl).ret2 rfl _ rfl rfl Try.underlying27 rfl (by kernel_rfl)) rfl ?_
                      rw [Hno.out]
                      refine ⟨o, m, c, rfl, ?_, hF.out.size, (hg2.trans hF.out.gr).setCells (Nat.le_refl _) _ _⟩
                      exact (hF.out.own.setLows hzlt _ 0).lower2 (Nat.le_of_lt hzlt)
        · have hno : res = (none, 10) := by rw [hFl.out, if_neg (fun q => hk1 q.1)]
          have Hno := Lib.hid hno
          have B3 := B2.keep hg
          have hne : (yb.x.r.kind == 1) = false := by rw [beq_eq_false_iff_ne]; exact hk1
          have hne2 : (yb.x.r.kind != 1) = true := by rw [bne, hne]; rfl
          clear hno hk1
          go_wp2_with (refine wpList_store_mid rfl 27 _ _ rfl _ 0 _ rfl rfl (B3).may (by kernel_rfl) (by kernel_rfl) ?_)
          refine bodyPost_ret ((B3.setAll (us := zL) rfl).ret2 rfl _ rfl rfl Try.underlying27 rfl (by kernel_rfl)) rfl ?_
          rw [Hno.out]
          exact ⟨rfl, (hg2.trans hg).setCells (Nat.le_refl _) _ _⟩
end Go.Proofs.Ytidfelbaegaphaa
