import Derived.Deep.OwnRows
import Derived.Test.YtkngjnkecmjakaaDoorFd
namespace Go.Proofs.YtkngjnkecmjakaaDoor
set_option linter.unusedVariables false
set_option linter.unusedSimpArgs false
open Go.BigFrame Go.RowKit Go.WideShapes

/-- the search, at every depth -/
theorem search_any {w0 : World} {ol : Option Addr} {nl cl : Nat} {l : List Ev} (hE : EvsAt w0 ol nl cl l) (hnl : nl ≤ 100) : ∀ f, FindAt w0 ol nl cl l f := by
  intro f
  induction f with
  | zero =>
    intro w B U u ov order rv o q c now hS hO hg hu hcnt hq hol
    have hw : wholeB l u = true := by
      unfold wholeB
      rw [decide_eq_true_iff]
      intro i hi
      exact .inl (left_none u i (by rw [hu, ← hE.len]; exact hi) (by omega))
    have h := find_whole (f := 0) hE hS hO hg hu hw
    have e : findF l 0 u order now = some (order, now) := by show (if wholeB l u = true then some (order, now) else none) = _; rw [if_pos hw]
    rw [e]
    exact h
  | succ f ih =>
    intro w B U u ov order rv o q c now hS hO hg hu hcnt hq hol
    cases hw : wholeB l u
    · have h := find_step hE hnl ih hS hO hg hu hw hcnt hq hol
      have e : findF l (f + 1) u order now = tryFrom (candF l (findF l f) u order now) l.length 0 := by
        show (if wholeB l u = true then some (order, now) else tryFrom (candF l (findF l f) u order now) l.length 0) = _
        rw [hw]; rfl
      rw [e]
      exact h
    · have h := find_whole (f := f) hE hS hO hg hu hw
      have e : findF l (f + 1) u order now = some (order, now) := by
        show (if wholeB l u = true then some (order, now) else tryFrom (candF l (findF l f) u order now) l.length 0) = _
        rw [if_pos hw]
      rw [e]
      exact h


theorem bool_info : (Tryd.prog.info? 4).map (fun i => (i.zero, i.size, i.bytes)) = some (some (.bool false), 1, 1) := by kernel_rfl
theorem under_bool : Tryd.prog.underlying 49 = some (.slice 4) := by kernel_rfl

theorem made_bools (k : Nat) : madeCells #[Value.bool false] k = ((List.replicate k false).map Value.bool).toArray := by
  apply Array.ext
  · simp [madeCells]
  · intro i h1 h2
    simp [madeCells, Nat.mod_one]
theorem sr_new (w2 : World) (ol : Option Addr) (k cl : Nat) {base : Nat} (hb : base ≤ w2.heap.size) :
    Sr ((w2.alloc (.cells (madeCells #[Value.bool false] k) 4)).alloc (.cells #[.slice ol k cl, .slice (some ⟨w2.heap.size, 0, none⟩) k k, .slice none 0 0, .slice none 0 0] 51)) base (w2.heap.size + 1) w2.heap.size (.slice ol k cl) (List.replicate k false) (.slice none 0 0) [] (.slice none 0 0) := by
  refine ⟨by omega, hb, by omega, ?_, ?_, World.ownsRow_nil _ _ _ _, fun g hg => by simp [Value.ownBlock] at hg⟩
  · rw [List.length_replicate]
    exact heap_alloc2_new w2 _ _
  · rw [← made_bools]
    exact heap_alloc2_old w2 _ _

/-- what Order tells of events and rows that may be -/
def OrderPost (w : World) (res : Option (List Nat × List Rw)) (e : Ending) (w' : World) : Prop :=
  match res with
  | some r => (∃ ov o1 q1 c1, e = .returned (.tuple #[ov, .slice o1 q1 c1, .nilIface]) ∧ w'.ownsRow w.heap.size 3 1 ov r.1.length (intsV r.1) ∧ OwnAt w' w.heap.size o1 q1 c1 r.2) ∧ Gr w w'
  | none => e = .returned (.tuple #[.slice none 0 0, .slice none 0 0, errV 6]) ∧ Gr w w'

set_option maxRecDepth 100000 in
set_option maxHeartbeats 8000000 in
theorem order_ok (ol : Option Addr) (nl cl : Nat) (l : List Ev) (o : Option Addr) (n c : Nat) (rows : List Rw) (w : World) (hE : EvsAt w ol nl cl l) (hR : RowsAt w o n c rows) (hnl : nl ≤ 10) (hn : n ≤ 1000) (hok : ∀ i, i < nl → evOk (evAt l i) = true) (hrow : rowsOkB rows = true) :
    Calls Tryd.prog 8 #[.slice ol nl cl, .slice o n c] w (OrderPost w (findF l nl (List.replicate nl false) [] rows)) := by
  have hRR := Lib.hid (fun w1 (hg : Gr w w1) => rowsRight_any o n c rows w1 (hR.keep hg))
  rw [hrow] at hRR
  have hCp := Lib.hid (fun w1 (hg : Gr w w1) => copy_any o n c rows w1 (hR.keep hg) (by omega))
  have HE := Lib.hid hE
  have HR := Lib.hid hR
  have Hok := Lib.hid hok
  obtain ⟨b1, off1, ho1, hc1⟩ := hE.cells
  have Hc1 := Lib.hid hc1
  have Ho1 := Lib.hid (fun q => (ho1 q).1)
  have hn1 := hE.cap_le
  have hm1 := hE.cap_max
  have Hz := Lib.hid hE.sizes
  unfold maxLen at hm1
  clear hE hR hok hc1 ho1 hrow
  go_enter Tryd.func8, Tryd.ntmps8
  go_wp2_with fail
  go_loopw [12] (fun v wr => ∃ k : Nat, k ≤ nl ∧ v = .int .i64 k ∧ Gr w wr) (fun v _ => nl - (intOf v).toNat)
  case atStart => exact ⟨0, Nat.zero_le _, rfl, Gr.refl _⟩
  case round =>
    obtain ⟨k, hk, rfl, hg⟩ := hrel
    by_cases hlt : k < nl
    · obtain ⟨a0, a1, a2, a3, a4, a5, a6, a7⟩ := Hc1.out k hlt
      have a0 := hg.keep a0
      have a1 := hg.keep a1
      have a2 := hg.keep a2
      have a3 := hg.keep a3
      have a4 := hg.keep a4
      have a5 := hg.keep a5
      have a6 := hg.keep a6
      have a7 := hg.keep a7
      have hI := run_ev cl Ho1.out hlt
      have hV := fun w1 => evRight_any (evAt l k) w1 (Hz.out k hlt).1 (Hz.out k hlt).2.1
      rw [Hok.out k hlt] at hV
      have hV := Lib.hid hV
      go_wp2_with fail
      refine (hV.out _).mono ?_
      rintro e w2 ⟨rfl, hg2⟩
      have hgn := hg.trans (((Gr.refl wr).alloc _).trans hg2)
      clear hg2 hg
      go_wp2_with fail
      go_roundw
      case rel => exact ⟨k + 1, by omega, by go_num, hgn⟩
      case measure => simp [intOf]; omega
    · obtain rfl : k = nl := by omega
      clear Hc1 Ho1 Hz Hok
      go_wp2_with fail
      refine (hRR.out _ hg).mono ?_
      rintro e w2 ⟨rfl, hg2⟩
      have hg2 := hg.trans hg2
      clear hg hRR
      have hmk := run_make_row' (P := Tryd.prog) 49 4 (.bool false) 1 under_bool bool_info rfl .i64 .i64 k (by omega) (by omega)
      have S0 := sr_new w2 ol k cl hg2.le
      have S0 := Lib.hid S0
      have hN := Lib.hid (fun W => search_any HE.out (by omega : k ≤ 100) k W)
      go_wp2_with fail
      refine (hCp.out _ ((hg2.alloc _).alloc _)).mono ?_
      rintro e w3 ⟨o3, q3, c3, rfl, hr3, hg3, base3, hb3, hO3⟩
      have S3 := S0.out.keep hg3
      have hgn := ((hg2.alloc _).alloc _).trans hg3
      have hO4 := hO3.lower2 (Nat.le_trans ((hg2.alloc _).alloc _).le hb3)
      have hq3 := hr3.len
      have hq4 := HR.out.len
      go_wp2_with fail
      have hcnt : (List.replicate k false).count false ≤ k := by simp
      refine (hN.out w3 (w2.heap.size + 1) w2.heap.size (List.replicate k false) (.slice none 0 0) [] (.slice none 0 0) o3 q3 c3 rows S3 hO4 hgn (by simp) hcnt (by omega) (by simp; omega)).mono ?_
      intro e w4 hP
      cases hF : findF l k (List.replicate k false) [] rows with
      | none =>
        rw [hF] at hP
        obtain ⟨rfl, ⟨ov4, hS4⟩, hg4, hf4⟩ := hP
        go_wp2_with fail
        go_ret3
        rw [hF]
        exact ⟨rfl, hg4⟩
      | some r =>
        rw [hF] at hP
        obtain ⟨rfl, ⟨uu4, ov4, o5, q5, c5, hS4, hO5⟩, hg4, hf4⟩ := hP
        have hown := hS4.own
        obtain ⟨og, oc, rfl⟩ := own_slice hown
        have d2 : w4.cell? ⟨w2.heap.size + 1, 2, none⟩ = some (.slice og r.1.length oc) := by rw [blk_cell hS4.blk]; rfl
        have d3 : w4.cell? ⟨w2.heap.size + 1, 3, none⟩ = some (.slice o5 q5 c5) := by rw [blk_cell hS4.blk]; rfl
        have Hown := Lib.hid hown
        have HO5 := Lib.hid hO5
        clear hown hO5 hS4
        go_wp2_with fail
        go_region
        go_wp2_with fail
        go_ret3
        rw [hF]
        exact ⟨⟨_, o5, q5, c5, rfl, Hown.out, Fr.own HO5.out (Gr.fr ((Gr.refl _).drew))⟩, hg4.drew⟩
set_option maxRecDepth 100000 in
set_option maxHeartbeats 8000000 in
theorem order_bad (ol : Option Addr) (nl cl : Nat) (l : List Ev) (o : Option Addr) (n c : Nat) (rows : List Rw) (w : World) (hE : EvsAt w ol nl cl l) (hR : RowsAt w o n c rows) (hnl : nl ≤ 100) (hbad : (∃ i, i < nl ∧ evOk (evAt l i) = false) ∨ rowsOkB rows = false) :
    Calls Tryd.prog 8 #[.slice ol nl cl, .slice o n c] w (fun e w' => e = .returned (.tuple #[.slice none 0 0, .slice none 0 0, errV 1]) ∧ Gr w w') := by
  have hRR := fun w1 (hg : Gr w w1) => rowsRight_any o n c rows w1 (hR.keep hg)
  have HE := Lib.hid hE
  have HR := Lib.hid hR
  have Hbad := Lib.hid hbad
  obtain ⟨b1, off1, ho1, hc1⟩ := hE.cells
  have Hc1 := Lib.hid hc1
  have Ho1 := Lib.hid (fun q => (ho1 q).1)
  have hn1 := hE.cap_le
  have hm1 := hE.cap_max
  have Hz := Lib.hid hE.sizes
  unfold maxLen at hm1
  clear hE hR hbad hc1 ho1
  go_enter Tryd.func8, Tryd.ntmps8
  go_wp2_with fail
  go_loopw [12] (fun v wr => ∃ k : Nat, k ≤ nl ∧ v = .int .i64 k ∧ Gr w wr ∧ Hid (∀ i, i < k → evOk (evAt l i) = true)) (fun v _ => nl - (intOf v).toNat)
  case atStart => exact ⟨0, Nat.zero_le _, rfl, Gr.refl _, Lib.hid fun i hi => by omega⟩
  case round =>
    obtain ⟨k, hk, rfl, hg, hall⟩ := hrel
    by_cases hlt : k < nl
    · obtain ⟨a0, a1, a2, a3, a4, a5, a6, a7⟩ := Hc1.out k hlt
      have a0 := hg.keep a0
      have a1 := hg.keep a1
      have a2 := hg.keep a2
      have a3 := hg.keep a3
      have a4 := hg.keep a4
      have a5 := hg.keep a5
      have a6 := hg.keep a6
      have a7 := hg.keep a7
      have hI := run_ev cl Ho1.out hlt
      have hV := fun w1 => evRight_any (evAt l k) w1 (Hz.out k hlt).1 (Hz.out k hlt).2.1
      cases hok : evOk (evAt l k)
      · rw [hok] at hV
        have hV := Lib.hid hV
        go_wp2_with fail
        refine (hV.out _).mono ?_
        rintro e w2 ⟨rfl, hg2⟩
        have hgn := hg.trans (((Gr.refl wr).alloc _).trans hg2)
        clear hg2 hg
        go_wp2_with fail
        go_ret3
        exact ⟨rfl, hgn⟩
      · rw [hok] at hV
        have hV := Lib.hid hV
        have Hok := Lib.hid hok
        clear hok
        go_wp2_with fail
        refine (hV.out _).mono ?_
        rintro e w2 ⟨rfl, hg2⟩
        have hgn := hg.trans (((Gr.refl wr).alloc _).trans hg2)
        clear hg2 hg
        go_wp2_with fail
        go_roundw
        case rel => exact ⟨k + 1, by omega, by go_num, hgn, Lib.hid fun j hj => by
          rcases Nat.lt_or_ge j k with q | q
          · exact hall.out j q
          · obtain rfl : j = k := by omega
            exact Hok.out⟩
        case measure => simp [intOf]; omega
    · obtain rfl : k = nl := by omega
      have hrow : rowsOkB rows = false := by
        rcases Hbad.out with ⟨i, hi, he⟩ | h
        · rw [hall.out i hi] at he; cases he
        · exact h
      rw [hrow] at hRR
      clear Hc1 Ho1 Hz Hbad hrow
      go_wp2_with fail
      refine (hRR _ hg).mono ?_
      rintro e w2 ⟨rfl, hg2⟩
      have hg2 := hg.trans hg2
      clear hg hRR
      go_wp2_with fail
      go_ret3
      exact ⟨rfl, hg2⟩
end Go.Proofs.YtkngjnkecmjakaaDoor
