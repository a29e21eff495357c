import Derived.Test.YtkngjnkecmjakaaDoorEo
namespace Go.Proofs.YtkngjnkecmjakaaDoor
set_option linter.unusedVariables false
set_option linter.unusedSimpArgs false
open Go.BigFrame Go.RowKit Go.WideShapes

set_option maxRecDepth 100000 in
set_option maxHeartbeats 2000000 in
theorem refMay_any (kind : Int) (key val : ByteArray) (w : World) (hk : key.size ≤ maxLen) (hv : val.size ≤ maxLen) :
    Calls Tryd.prog 23 #[.agg #[.int .i64 kind, .string key, .string val]] w fun e w' => e = .returned (.bool (mayB kind key val)) ∧ Gr w w' := by
  unfold mayB
  have hv2 := hv
  unfold maxLen at hv2
  have hR := fun w => refRight_any key w hk
  have b0 := fun d : Nat => (show ((w.alloc (.cells #[.int .i64 kind, .string key, .string val] 36)).drewN d).cell? ⟨w.heap.size, 0, none⟩ = some (.int .i64 kind) from World.cell?_alloc_new w _ _ 0)
  have b2 := fun d : Nat => (show ((w.alloc (.cells #[.int .i64 kind, .string key, .string val] 36)).drewN d).cell? ⟨w.heap.size, 2, none⟩ = some (.string val) from World.cell?_alloc_new w _ _ 2)
  cases hr : rightB key
  all_goals
    rw [hr] at hR
    have HR := Lib.hid hR
    clear hR hr
    go_enter Tryd.func23, Tryd.ntmps23
    go_wp2_with (go_at_call 42; refine (HR.out _).mono ?_; rintro e w' ⟨rfl, d, rfl⟩)
    all_goals
      go_ret
      refine ⟨ret_bool ?_, by repeat (first | with_reducible exact Gr.refl _ | with_reducible refine Gr.drewN ?_ _ | with_reducible refine Gr.drew ?_ | with_reducible refine Gr.alloc ?_ _ | with_reducible refine Gr.setCell ?_ ?_ _ | (with_reducible refine Gr.trans ?_ (by assumption)) | omega | (dsimp only; omega))⟩
      first | rfl | (simp; omega) | (simp; done) | (rw [Bool.eq_iff_iff]; simp; omega)

set_option maxRecDepth 100000 in
set_option maxHeartbeats 1000000 in
theorem refEvRight_any (a : Ev) (w : World) (hk : a.key.size ≤ maxLen) (hv : a.cval.size ≤ maxLen) : Calls Tryd.prog 13 #[a.v] w fun e w' => e = .returned (.bool (evOk a)) ∧ Gr w w' := by
  have hM := fun w => refMay_any a.kind a.key a.cval w hk hv
  have b6 := (show (w.alloc (.cells #[.int .i64 a.thread, .int .i64 a.kind, .string a.key, .string a.cval, .string a.val, .int .i64 a.code, .int .i64 a.beg, .int .i64 a.fin] 38)).cell? ⟨w.heap.size, 6, none⟩ = some (.int .i64 a.beg) from World.cell?_alloc_new w _ _ 6)
  have b7 := (show (w.alloc (.cells #[.int .i64 a.thread, .int .i64 a.kind, .string a.key, .string a.cval, .string a.val, .int .i64 a.code, .int .i64 a.beg, .int .i64 a.fin] 38)).cell? ⟨w.heap.size, 7, none⟩ = some (.int .i64 a.fin) from World.cell?_alloc_new w _ _ 7)
  unfold evOk
  cases hm : mayB a.kind a.key a.cval
  all_goals
    rw [hm] at hM
    have HM := Lib.hid hM
    clear hM hm
    go_enter Tryd.func13, Tryd.ntmps13
    go_wp2_with fail
    refine (HM.out _).mono ?_
    rintro e w1 ⟨rfl, hg1⟩
    have b6 := hg1.keep b6
    have b7 := hg1.keep b7
    have hgw : Gr w w1 := ((Gr.refl w).alloc _).trans hg1
    clear hg1
    go_wp2_with fail
    all_goals
      go_ret
      refine ⟨ret_bool ?_, hgw⟩
      first | rfl | (simp; omega) | (simp; done) | (rw [Bool.eq_iff_iff]; simp; omega)

/-- what the document's Apply hands back -/
def ToldR (w : World) (r : List Rw × ByteArray × Int) (e : Ending) (w' : World) : Prop := ∃ o q c, e = .returned (.tuple #[.slice o q c, .string r.2.1, .int .i64 r.2.2]) ∧ RowsAt w' o q c r.1 ∧ Gr w w'

set_option maxRecDepth 100000 in
set_option maxHeartbeats 4000000 in
theorem refApply_any (oa : Option Addr) (n cap : Nat) (l : List Rw) (kind : Int) (key val : ByteArray) (w : World) (h : RowsAt w oa n cap l) (hn : n ≤ 1000000) (hk : key.size ≤ maxLen) (hv : val.size ≤ maxLen) (hkd : kind = 1 ∨ kind = 2 ∨ kind = 3 ∨ kind = 4 ∨ kind = 5) :
    Calls Tryd.prog 37 #[.slice oa n cap, .agg #[.int .i64 kind, .string key, .string val]] w (ToldR w (applyL kind key val l)) := by
  have hF := fun w1 (hg : Gr w w1) => refFind_any oa n cap l key w1 (h.keep hg) hk
  have H := Lib.hid h
  clear h
  have y0 : (callW w kind key val).cell? ⟨w.heap.size, 0, none⟩ = some (.int .i64 kind) := by simp [go_sem]
  have y1 : (callW w kind key val).cell? ⟨w.heap.size, 1, none⟩ = some (.string key) := by simp [go_sem]
  have y2 : (callW w kind key val).cell? ⟨w.heap.size, 2, none⟩ = some (.string val) := by simp [go_sem]
  have hg0 : Gr w (callW w kind key val) := (Gr.refl w).alloc _
  cases hh : hasB key l
  · rw [hh] at hF
    have HF := Lib.hid hF
    clear hF
    have Hh := Lib.hid hh
    rcases hkd with rfl | rfl | rfl | rfl | rfl
    all_goals
      go_enter Tryd.func37, Tryd.ntmps37
      go_wp2_with fail
      refine (HF.out _ hg0).mono ?_
      rintro e w1 ⟨rfl, hd⟩
      have hg1 := hd.gr
      have y0 := hg1.keep y0
      have y1 := hg1.keep y1
      have y2 := hg1.keep y2
      have hgn := hg0.trans hg1
      clear hg0 hg1 hd hh
      go_wp2_with (first
        | (go_at_call 53; refine (refDrop_any oa n cap l key _ (H.out.keep hgn) hn hk).mono ?_; rintro e w2 ⟨o2, q2, c2, rfl, hr2, hg2⟩)
        | (go_at_call 54; refine (refPut_any oa n cap l key val _ (H.out.keep hgn) hn hk hv).mono ?_; rintro e w2 ⟨o2, q2, c2, rfl, hr2, hg2⟩))
      go_ret3
      first
        | exact ⟨o2, q2, c2, (by simp [applyL, Hh.out, wasOf]), (by simpa [applyL, Hh.out, wasOf] using hr2), hgn.trans hg2⟩
        | exact ⟨oa, n, cap, (by simp [applyL, Hh.out, wasOf]), (by simpa [applyL, Hh.out, wasOf] using H.out.keep hgn), hgn⟩
  · rw [hh] at hF
    have HF := Lib.hid hF
    clear hF
    have Hh := Lib.hid hh
    have hlt := has_lt hh
    rw [H.out.len] at hlt
    have h2 := H.out
    obtain ⟨b1, off1, ho1, hc1⟩ := h2.cells
    have Hc1 := Lib.hid hc1
    have Ho1 := Lib.hid (fun q => (ho1 q).1)
    have H1 := Lib.hid h2
    have hn1 := h2.cap_le
    have hm1 := h2.cap_max
    unfold maxLen at hm1
    clear hc1 ho1 h2
    rcases hkd with rfl | rfl | rfl | rfl | rfl
    all_goals
      go_enter Tryd.func37, Tryd.ntmps37
      go_wp2_with fail
      refine (HF.out _ hg0).mono ?_
      rintro e w1 ⟨rfl, hd⟩
      have hg1 := hd.gr
      have y0 := hg1.keep y0
      have y1 := hg1.keep y1
      have y2 := hg1.keep y2
      have hgn := hg0.trans hg1
      have a1 := hgn.keep (Hc1.out _ hlt).1
      have a2 := hgn.keep (Hc1.out _ hlt).2
      have hI := run_row cap Ho1.out hlt
      clear hg0 hg1 hd hh
      go_wp2_with (first
        | (go_at_call 53; refine (refDrop_any oa n cap l key _ (H.out.keep hgn) hn hk).mono ?_; rintro e w2 ⟨o2, q2, c2, rfl, hr2, hg2⟩)
        | (go_at_call 54; refine (refPut_any oa n cap l key val _ (H.out.keep hgn) hn hk hv).mono ?_; rintro e w2 ⟨o2, q2, c2, rfl, hr2, hg2⟩))
      go_ret3
      first
        | exact ⟨o2, q2, c2, (by simp [applyL, Hh.out, wasOf]), (by simpa [applyL, Hh.out, wasOf] using hr2), hgn.trans hg2⟩
        | exact ⟨oa, n, cap, (by simp [applyL, Hh.out, wasOf]), (by simpa [applyL, Hh.out, wasOf] using H.out.keep hgn), hgn⟩
end Go.Proofs.YtkngjnkecmjakaaDoor
