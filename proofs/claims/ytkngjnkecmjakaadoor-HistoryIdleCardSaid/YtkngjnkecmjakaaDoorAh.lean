import Derived.Test.YtkngjnkecmjakaaDoorFs
import Derived.Test.YtkngjnkecmjakaaDoorPtO
namespace Go.Proofs.YtkngjnkecmjakaaDoor
set_option linter.unusedVariables false
set_option linter.unusedSimpArgs false
open Go.BigFrame Go.RowKit Go.WideShapes

/-- what Apply hands back: rows of its own, a text, a code -/
def Told3 (w : World) (r : List Rw × ByteArray × Int) (e : Ending) (w' : World) : Prop := ∃ o q c, e = .returned (.tuple #[.slice o q c, .string r.2.1, .int .i64 r.2.2]) ∧ OwnAt w' w.heap.size o q c r.1 ∧ Gr w w'

abbrev callW (w : World) (kind : Int) (key val : ByteArray) : World := w.alloc (.cells #[.int .i64 kind, .string key, .string val] 36)

set_option maxRecDepth 100000 in
set_option maxHeartbeats 4000000 in
theorem apply_bad (oa : Option Addr) (n cap : Nat) (l : List Rw) (kind : Int) (key val : ByteArray) (w : World) (h : RowsAt w oa n cap l) (hn : n ≤ 1000000) (hk : key.size ≤ maxLen) (hv : val.size ≤ maxLen) (hb : mayB kind key val = false ∨ (mayB kind key val = true ∧ rowsOkB l = false)) :
    Calls Tryd.prog 33 #[.slice oa n cap, .agg #[.int .i64 kind, .string key, .string val]] w (Told3 w (l, ⟨#[]⟩, 1)) := by
  have H := Lib.hid h
  have hM := fun w => may_any kind key val w hk hv
  have hR := fun w1 (hg : Gr w w1) => rowsRight_any oa n cap l w1 (H.out.keep hg)
  have z0 : ((w.alloc (.cells #[.slice oa n cap] 23)).alloc (.cells #[.int .i64 kind, .string key, .string val] 36)).cell? ⟨w.heap.size, 0, none⟩ = some (.slice oa n cap) := ((Gr.refl _).alloc _).keep (World.cell?_alloc_new w _ _ 0)
  have y0 : ((w.alloc (.cells #[.slice oa n cap] 23)).alloc (.cells #[.int .i64 kind, .string key, .string val] 36)).cell? ⟨w.heap.size + 1, 0, none⟩ = some (.int .i64 kind) := by simp [go_sem]
  have y1 : ((w.alloc (.cells #[.slice oa n cap] 23)).alloc (.cells #[.int .i64 kind, .string key, .string val] 36)).cell? ⟨w.heap.size + 1, 1, none⟩ = some (.string key) := by simp [go_sem]
  have y2 : ((w.alloc (.cells #[.slice oa n cap] 23)).alloc (.cells #[.int .i64 kind, .string key, .string val] 36)).cell? ⟨w.heap.size + 1, 2, none⟩ = some (.string val) := by simp [go_sem]
  have hg0 : Gr w ((w.alloc (.cells #[.slice oa n cap] 23)).alloc (.cells #[.int .i64 kind, .string key, .string val] 36)) := ((Gr.refl w).alloc _).alloc _
  clear h
  rcases hb with hb | ⟨hb, hb2⟩
  · rw [hb] at hM
    have HM := Lib.hid hM
    clear hM hR hb
    go_enter Tryd.func33, Tryd.ntmps33
    go_wp2_with fail
    refine (HM.out _).mono ?_
    rintro e w1 ⟨rfl, hg1⟩
    have z0 := hg1.keep z0
    have y0 := hg1.keep y0
    have y1 := hg1.keep y1
    have y2 := hg1.keep y2
    have hg01 := hg0.trans hg1
    clear hg1 HM hg0
    go_wp2_with fail
    refine (copy_any oa n cap l _ (H.out.keep hg01) hn).mono ?_
    rintro e w9 ⟨o9, q9, c9, rfl, hr9, hg9, base9, hb9, ho9⟩
    obtain rfl : n = q9 := by rw [← hr9.len, H.out.len]
    have HO := Lib.hid (ho9.lower2 (Nat.le_trans hg01.le hb9))
    have hgz := hg01.trans hg9
    clear hr9 ho9 hg9
    go_wp2_with fail
    go_ret3
    exact ⟨_, _, _, rfl, HO.out, hgz⟩
  · rw [hb] at hM
    rw [hb2] at hR
    have HM := Lib.hid hM
    have HR := Lib.hid hR
    clear hM hR hb hb2
    go_enter Tryd.func33, Tryd.ntmps33
    go_wp2_with fail
    refine (HM.out _).mono ?_
    rintro e w1 ⟨rfl, hg1⟩
    have z0 := hg1.keep z0
    have y0 := hg1.keep y0
    have y1 := hg1.keep y1
    have y2 := hg1.keep y2
    have hg01 := hg0.trans hg1
    clear hg1 HM hg0
    go_wp2_with fail
    refine (HR.out _ hg01).mono ?_
    rintro e w2 ⟨rfl, hg2⟩
    have z0 := hg2.keep z0
    have y0 := hg2.keep y0
    have y1 := hg2.keep y1
    have y2 := hg2.keep y2
    have hg02 := hg01.trans hg2
    clear hg2 HR hg01
    go_wp2_with fail
    refine (copy_any oa n cap l _ (H.out.keep hg02) hn).mono ?_
    rintro e w9 ⟨o9, q9, c9, rfl, hr9, hg9, base9, hb9, ho9⟩
    obtain rfl : n = q9 := by rw [← hr9.len, H.out.len]
    have HO := Lib.hid (ho9.lower2 (Nat.le_trans hg02.le hb9))
    have hgz := hg02.trans hg9
    clear hr9 ho9 hg9
    go_wp2_with fail
    go_ret3
    exact ⟨_, _, _, rfl, HO.out, hgz⟩

theorem has_lt {key : ByteArray} {l : List Rw} (h : hasB key l = true) : place key l < l.length := by
  unfold hasB at h
  rw [decide_eq_true_iff] at h
  exact h.1
theorem may_fits {kind : Int} {key val : ByteArray} (h : mayB kind key val = true) (h1 : kind ≠ 1) (h5 : kind ≠ 5) : fitsB ⟨key, val⟩ = true := by
  unfold mayB at h
  unfold fitsB
  simp only [Bool.and_eq_true, Bool.or_eq_true, decide_eq_true_eq] at h ⊢
  obtain ⟨⟨⟨-, -⟩, hr⟩, (q | q) | q⟩ := h
  · exact absurd q h1
  · exact absurd q h5
  · exact ⟨hr, q⟩
theorem may_kinds {kind : Int} {key val : ByteArray} (h : mayB kind key val = true) : kind = 1 ∨ kind = 2 ∨ kind = 3 ∨ kind = 4 ∨ kind = 5 := by
  unfold mayB at h
  simp only [Bool.and_eq_true, decide_eq_true_eq] at h
  omega

set_option maxRecDepth 100000 in
set_option maxHeartbeats 2000000 in
theorem put_clo (oa : Option Addr) (n cap : Nat) (l : List Rw) (key val : ByteArray) (b1 b2 : Nat) (w : World) (h : RowsAt w oa n cap l) (hn : n ≤ 1000000) (hk : key.size ≤ maxLen) (hv : val.size ≤ maxLen) (hf : fitsB ⟨key, val⟩ = true)
    (z0 : w.cell? ⟨b1, 0, none⟩ = some (.slice oa n cap)) (y1 : w.cell? ⟨b2, 1, none⟩ = some (.string key)) (y2 : w.cell? ⟨b2, 2, none⟩ = some (.string val)) :
    Calls Tryd.prog 49 #[.pointer (some ⟨b1, 0, none⟩), .pointer (some ⟨b2, 0, none⟩)] w fun e w' => ∃ o q c, e = .returned (.slice o q c) ∧ OwnAt w' w.heap.size o q c (putL l ⟨key, val⟩) ∧ Gr w w' := by
  have HP := Lib.hid (fun w1 (hg : Gr w w1) => put_own oa n cap l key val w1 (h.keep hg) hn hk hv hf)
  clear h
  go_enter Tryd.func49, Tryd.ntmps49
  go_wp2_with fail
  refine (HP.out _ (by repeat (first | with_reducible exact Gr.refl _ | with_reducible refine Gr.drewN ?_ _ | with_reducible refine Gr.drew ?_ | with_reducible refine Gr.alloc ?_ _ | with_reducible refine Gr.setCell ?_ ?_ _ | (with_reducible refine Gr.trans ?_ (by assumption)) | omega | (dsimp only; omega)))).mono ?_
  rintro e w5 ⟨o5, q5, c5, rfl, ho5, hg5⟩
  go_wp2_with fail
  go_ret
  exact ⟨_, _, _, rfl, ho5, hg5⟩

set_option maxRecDepth 100000 in
set_option maxHeartbeats 8000000 in
theorem apply_k1 (oa : Option Addr) (n cap : Nat) (l : List Rw) (key val : ByteArray) (w : World) (h : RowsAt w oa n cap l) (hn : n ≤ 1000000) (hk : key.size ≤ maxLen) (hv : val.size ≤ maxLen) (hb : mayB 1 key val = true) (hb2 : rowsOkB l = true) :
    Calls Tryd.prog 33 #[.slice oa n cap, .agg #[.int .i64 1, .string key, .string val]] w (Told3 w (applyL 1 key val l)) := by
  have H := Lib.hid h
  have hM := fun w => may_any 1 key val w hk hv
  have hR := fun w1 (hg : Gr w w1) => rowsRight_any oa n cap l w1 (H.out.keep hg)
  have z0 : ((w.alloc (.cells #[.slice oa n cap] 23)).alloc (.cells #[.int .i64 1, .string key, .string val] 36)).cell? ⟨w.heap.size, 0, none⟩ = some (.slice oa n cap) := ((Gr.refl _).alloc _).keep (World.cell?_alloc_new w _ _ 0)
  have y0 : ((w.alloc (.cells #[.slice oa n cap] 23)).alloc (.cells #[.int .i64 1, .string key, .string val] 36)).cell? ⟨w.heap.size + 1, 0, none⟩ = some (.int .i64 1) := by simp [go_sem]
  have y1 : ((w.alloc (.cells #[.slice oa n cap] 23)).alloc (.cells #[.int .i64 1, .string key, .string val] 36)).cell? ⟨w.heap.size + 1, 1, none⟩ = some (.string key) := by simp [go_sem]
  have y2 : ((w.alloc (.cells #[.slice oa n cap] 23)).alloc (.cells #[.int .i64 1, .string key, .string val] 36)).cell? ⟨w.heap.size + 1, 2, none⟩ = some (.string val) := by simp [go_sem]
  have hg0 : Gr w ((w.alloc (.cells #[.slice oa n cap] 23)).alloc (.cells #[.int .i64 1, .string key, .string val] 36)) := ((Gr.refl w).alloc _).alloc _
  have hfd := fun w1 (hg : Gr w w1) => find_any oa n cap l key w1 (H.out.keep hg) hk
  have hlt := has_lt (key := key) (l := l)
  rw [H.out.len] at hlt
  rw [hb] at hM
  rw [hb2] at hR
  have HM := Lib.hid hM
  have HR := Lib.hid hR
  have hcl := H.out.cap_le
  have hcm := H.out.cap_max
  unfold maxLen at hcm
  clear hM hR h hb2 hb
  cases hhas : hasB key l
  · rw [hhas] at hfd
    have HFd := Lib.hid hfd
    have hA : applyL 1 key val l = (l, ⟨#[]⟩, 6) := by unfold applyL wasOf; rw [hhas]; simp
    have HA := Lib.hid hA
    clear hfd hA hhas
    generalize place key l = pl at *
    go_enter Tryd.func33, Tryd.ntmps33
    go_wp2_with fail
    refine (HM.out _).mono ?_
    rintro e w1 ⟨rfl, hg1⟩
    have z0 := hg1.keep z0
    have y0 := hg1.keep y0
    have y1 := hg1.keep y1
    have y2 := hg1.keep y2
    have hg01 := hg0.trans hg1
    clear hg1 HM hg0
    go_wp2_with fail
    refine (HR.out _ hg01).mono ?_
    rintro e w2 ⟨rfl, hg2⟩
    have z0 := hg2.keep z0
    have y0 := hg2.keep y0
    have y1 := hg2.keep y1
    have y2 := hg2.keep y2
    have hg02 := hg01.trans hg2
    clear hg2 HR hg01
    go_wp2_with fail
    refine (HFd.out _ hg02).mono ?_
    rintro e w3 ⟨rfl, hg3⟩
    have z0 := hg3.gr.keep z0
    have y0 := hg3.gr.keep y0
    have y1 := hg3.gr.keep y1
    have y2 := hg3.gr.keep y2
    have hg03 := hg02.trans hg3.gr
    clear hg3 HFd hg02
    go_wp2_with fail
    refine (copy_any oa n cap l _ (H.out.keep hg03) hn).mono ?_
    rintro e w9 ⟨o9, q9, c9, rfl, hr9, hg9, base9, hb9, ho9⟩
    have HO := Lib.hid (ho9.lower2 (Nat.le_trans hg03.le hb9))
    have hgz := hg03.trans hg9
    clear hr9 ho9 hg9
    go_wp2_with fail
    go_ret3
    rw [HA.out]
    exact ⟨_, _, _, rfl, HO.out, hgz⟩
  · rw [hhas] at hfd
    have HFd := Lib.hid hfd
    have hA : applyL 1 key val l = (l, vAt l (place key l), 0) := by unfold applyL wasOf; rw [hhas]; simp
    have HA := Lib.hid hA
    have hlt := hlt hhas
    obtain ⟨bL, offL, hoL, hcL⟩ := H.out.cells
    have hI := run_row cap (fun q => (hoL q).1) hlt
    have x2 := (hcL (place key l) hlt).2
    clear hoL hcL
    clear hfd hA hhas
    generalize place key l = pl at *
    go_enter Tryd.func33, Tryd.ntmps33
    go_wp2_with fail
    refine (HM.out _).mono ?_
    rintro e w1 ⟨rfl, hg1⟩
    have z0 := hg1.keep z0
    have y0 := hg1.keep y0
    have y1 := hg1.keep y1
    have y2 := hg1.keep y2
    have hg01 := hg0.trans hg1
    clear hg1 HM hg0
    go_wp2_with fail
    refine (HR.out _ hg01).mono ?_
    rintro e w2 ⟨rfl, hg2⟩
    have z0 := hg2.keep z0
    have y0 := hg2.keep y0
    have y1 := hg2.keep y1
    have y2 := hg2.keep y2
    have hg02 := hg01.trans hg2
    clear hg2 HR hg01
    go_wp2_with fail
    refine (HFd.out _ hg02).mono ?_
    rintro e w3 ⟨rfl, hg3⟩
    have z0 := hg3.gr.keep z0
    have y0 := hg3.gr.keep y0
    have y1 := hg3.gr.keep y1
    have y2 := hg3.gr.keep y2
    have hg03 := hg02.trans hg3.gr
    have x2 := hg03.keep x2
    clear hg3 HFd hg02
    go_wp2_with fail
    refine (copy_any oa n cap l _ (H.out.keep hg03) hn).mono ?_
    rintro e w9 ⟨o9, q9, c9, rfl, hr9, hg9, base9, hb9, ho9⟩
    have HO := Lib.hid (ho9.lower2 (Nat.le_trans hg03.le hb9))
    have hgz := hg03.trans hg9
    clear hr9 ho9 hg9
    go_wp2_with fail
    go_ret3
    rw [HA.out]
    exact ⟨_, _, _, rfl, HO.out, hgz⟩

set_option maxRecDepth 100000 in
set_option maxHeartbeats 8000000 in
theorem apply_k2 (oa : Option Addr) (n cap : Nat) (l : List Rw) (key val : ByteArray) (w : World) (h : RowsAt w oa n cap l) (hn : n ≤ 1000000) (hk : key.size ≤ maxLen) (hv : val.size ≤ maxLen) (hb : mayB 2 key val = true) (hb2 : rowsOkB l = true) :
    Calls Tryd.prog 33 #[.slice oa n cap, .agg #[.int .i64 2, .string key, .string val]] w (Told3 w (applyL 2 key val l)) := by
  have H := Lib.hid h
  have hM := fun w => may_any 2 key val w hk hv
  have hR := fun w1 (hg : Gr w w1) => rowsRight_any oa n cap l w1 (H.out.keep hg)
  have z0 : ((w.alloc (.cells #[.slice oa n cap] 23)).alloc (.cells #[.int .i64 2, .string key, .string val] 36)).cell? ⟨w.heap.size, 0, none⟩ = some (.slice oa n cap) := ((Gr.refl _).alloc _).keep (World.cell?_alloc_new w _ _ 0)
  have y0 : ((w.alloc (.cells #[.slice oa n cap] 23)).alloc (.cells #[.int .i64 2, .string key, .string val] 36)).cell? ⟨w.heap.size + 1, 0, none⟩ = some (.int .i64 2) := by simp [go_sem]
  have y1 : ((w.alloc (.cells #[.slice oa n cap] 23)).alloc (.cells #[.int .i64 2, .string key, .string val] 36)).cell? ⟨w.heap.size + 1, 1, none⟩ = some (.string key) := by simp [go_sem]
  have y2 : ((w.alloc (.cells #[.slice oa n cap] 23)).alloc (.cells #[.int .i64 2, .string key, .string val] 36)).cell? ⟨w.heap.size + 1, 2, none⟩ = some (.string val) := by simp [go_sem]
  have hg0 : Gr w ((w.alloc (.cells #[.slice oa n cap] 23)).alloc (.cells #[.int .i64 2, .string key, .string val] 36)) := ((Gr.refl w).alloc _).alloc _
  have hfd := fun w1 (hg : Gr w w1) => find_any oa n cap l key w1 (H.out.keep hg) hk
  have hlt := has_lt (key := key) (l := l)
  rw [H.out.len] at hlt
  rw [hb] at hM
  rw [hb2] at hR
  have hf := Lib.hid (may_fits hb (by decide) (by decide))
  have HM := Lib.hid hM
  have HR := Lib.hid hR
  have hcl := H.out.cap_le
  have hcm := H.out.cap_max
  unfold maxLen at hcm
  clear hM hR h hb2 hb
  cases hhas : hasB key l
  · rw [hhas] at hfd
    have HFd := Lib.hid hfd
    have hA : applyL 2 key val l = (putL l ⟨key, val⟩, ⟨#[]⟩, 0) := by unfold applyL wasOf; rw [hhas]; simp
    have HA := Lib.hid hA
    clear hfd hA hhas
    generalize place key l = pl at *
    go_enter Tryd.func33, Tryd.ntmps33
    go_wp2_with fail
    refine (HM.out _).mono ?_
    rintro e w1 ⟨rfl, hg1⟩
    have z0 := hg1.keep z0
    have y0 := hg1.keep y0
    have y1 := hg1.keep y1
    have y2 := hg1.keep y2
    have hg01 := hg0.trans hg1
    clear hg1 HM hg0
    go_wp2_with fail
    refine (HR.out _ hg01).mono ?_
    rintro e w2 ⟨rfl, hg2⟩
    have z0 := hg2.keep z0
    have y0 := hg2.keep y0
    have y1 := hg2.keep y1
    have y2 := hg2.keep y2
    have hg02 := hg01.trans hg2
    clear hg2 HR hg01
    go_wp2_with fail
    refine (HFd.out _ hg02).mono ?_
    rintro e w3 ⟨rfl, hg3⟩
    have z0 := hg3.gr.keep z0
    have y0 := hg3.gr.keep y0
    have y1 := hg3.gr.keep y1
    have y2 := hg3.gr.keep y2
    have hg03 := hg02.trans hg3.gr
    clear hg3 HFd hg02
    go_wp2_with fail
    refine (put_clo oa n cap l key val _ _ _ (H.out.keep hg03) hn hk hv hf.out z0 y1 y2).mono ?_
    rintro e w9 ⟨o9, q9, c9, rfl, ho9, hg9⟩
    have HO := Lib.hid (ho9.lower2 hg03.le)
    have hgz := hg03.trans hg9
    clear ho9 hg9
    go_wp2_with fail
    go_ret3
    rw [HA.out]
    exact ⟨_, _, _, rfl, HO.out, hgz⟩
  · rw [hhas] at hfd
    have HFd := Lib.hid hfd
    have hA : applyL 2 key val l = (l, ⟨#[]⟩, 7) := by unfold applyL wasOf; rw [hhas]; simp
    have HA := Lib.hid hA
    have hlt := hlt hhas
    obtain ⟨bL, offL, hoL, hcL⟩ := H.out.cells
    have hI := run_row cap (fun q => (hoL q).1) hlt
    have x2 := (hcL (place key l) hlt).2
    clear hoL hcL
    clear hfd hA hhas
    generalize place key l = pl at *
    go_enter Tryd.func33, Tryd.ntmps33
    go_wp2_with fail
    refine (HM.out _).mono ?_
    rintro e w1 ⟨rfl, hg1⟩
    have z0 := hg1.keep z0
    have y0 := hg1.keep y0
    have y1 := hg1.keep y1
    have y2 := hg1.keep y2
    have hg01 := hg0.trans hg1
    clear hg1 HM hg0
    go_wp2_with fail
    refine (HR.out _ hg01).mono ?_
    rintro e w2 ⟨rfl, hg2⟩
    have z0 := hg2.keep z0
    have y0 := hg2.keep y0
    have y1 := hg2.keep y1
    have y2 := hg2.keep y2
    have hg02 := hg01.trans hg2
    clear hg2 HR hg01
    go_wp2_with fail
    refine (HFd.out _ hg02).mono ?_
    rintro e w3 ⟨rfl, hg3⟩
    have z0 := hg3.gr.keep z0
    have y0 := hg3.gr.keep y0
    have y1 := hg3.gr.keep y1
    have y2 := hg3.gr.keep y2
    have hg03 := hg02.trans hg3.gr
    have x2 := hg03.keep x2
    clear hg3 HFd hg02
    go_wp2_with fail
    refine (copy_any oa n cap l _ (H.out.keep hg03) hn).mono ?_
    rintro e w9 ⟨o9, q9, c9, rfl, hr9, hg9, base9, hb9, ho9⟩
    have HO := Lib.hid (ho9.lower2 (Nat.le_trans hg03.le hb9))
    have hgz := hg03.trans hg9
    clear hr9 ho9 hg9
    go_wp2_with fail
    go_ret3
    rw [HA.out]
    exact ⟨_, _, _, rfl, HO.out, hgz⟩

set_option maxRecDepth 100000 in
set_option maxHeartbeats 8000000 in
theorem apply_k3 (oa : Option Addr) (n cap : Nat) (l : List Rw) (key val : ByteArray) (w : World) (h : RowsAt w oa n cap l) (hn : n ≤ 1000000) (hk : key.size ≤ maxLen) (hv : val.size ≤ maxLen) (hb : mayB 3 key val = true) (hb2 : rowsOkB l = true) :
    Calls Tryd.prog 33 #[.slice oa n cap, .agg #[.int .i64 3, .string key, .string val]] w (Told3 w (applyL 3 key val l)) := by
  have H := Lib.hid h
  have hM := fun w => may_any 3 key val w hk hv
  have hR := fun w1 (hg : Gr w w1) => rowsRight_any oa n cap l w1 (H.out.keep hg)
  have z0 : ((w.alloc (.cells #[.slice oa n cap] 23)).alloc (.cells #[.int .i64 3, .string key, .string val] 36)).cell? ⟨w.heap.size, 0, none⟩ = some (.slice oa n cap) := ((Gr.refl _).alloc _).keep (World.cell?_alloc_new w _ _ 0)
  have y0 : ((w.alloc (.cells #[.slice oa n cap] 23)).alloc (.cells #[.int .i64 3, .string key, .string val] 36)).cell? ⟨w.heap.size + 1, 0, none⟩ = some (.int .i64 3) := by simp [go_sem]
  have y1 : ((w.alloc (.cells #[.slice oa n cap] 23)).alloc (.cells #[.int .i64 3, .string key, .string val] 36)).cell? ⟨w.heap.size + 1, 1, none⟩ = some (.string key) := by simp [go_sem]
  have y2 : ((w.alloc (.cells #[.slice oa n cap] 23)).alloc (.cells #[.int .i64 3, .string key, .string val] 36)).cell? ⟨w.heap.size + 1, 2, none⟩ = some (.string val) := by simp [go_sem]
  have hg0 : Gr w ((w.alloc (.cells #[.slice oa n cap] 23)).alloc (.cells #[.int .i64 3, .string key, .string val] 36)) := ((Gr.refl w).alloc _).alloc _
  have hfd := fun w1 (hg : Gr w w1) => find_any oa n cap l key w1 (H.out.keep hg) hk
  have hlt := has_lt (key := key) (l := l)
  rw [H.out.len] at hlt
  rw [hb] at hM
  rw [hb2] at hR
  have hf := Lib.hid (may_fits hb (by decide) (by decide))
  have HM := Lib.hid hM
  have HR := Lib.hid hR
  have hcl := H.out.cap_le
  have hcm := H.out.cap_max
  unfold maxLen at hcm
  clear hM hR h hb2 hb
  cases hhas : hasB key l
  · rw [hhas] at hfd
    have HFd := Lib.hid hfd
    have hA : applyL 3 key val l = (l, ⟨#[]⟩, 6) := by unfold applyL wasOf; rw [hhas]; simp
    have HA := Lib.hid hA
    clear hfd hA hhas
    generalize place key l = pl at *
    go_enter Tryd.func33, Tryd.ntmps33
    go_wp2_with fail
    refine (HM.out _).mono ?_
    rintro e w1 ⟨rfl, hg1⟩
    have z0 := hg1.keep z0
    have y0 := hg1.keep y0
    have y1 := hg1.keep y1
    have y2 := hg1.keep y2
    have hg01 := hg0.trans hg1
    clear hg1 HM hg0
    go_wp2_with fail
    refine (HR.out _ hg01).mono ?_
    rintro e w2 ⟨rfl, hg2⟩
    have z0 := hg2.keep z0
    have y0 := hg2.keep y0
    have y1 := hg2.keep y1
    have y2 := hg2.keep y2
    have hg02 := hg01.trans hg2
    clear hg2 HR hg01
    go_wp2_with fail
    refine (HFd.out _ hg02).mono ?_
    rintro e w3 ⟨rfl, hg3⟩
    have z0 := hg3.gr.keep z0
    have y0 := hg3.gr.keep y0
    have y1 := hg3.gr.keep y1
    have y2 := hg3.gr.keep y2
    have hg03 := hg02.trans hg3.gr
    clear hg3 HFd hg02
    go_wp2_with fail
    refine (copy_any oa n cap l _ (H.out.keep hg03) hn).mono ?_
    rintro e w9 ⟨o9, q9, c9, rfl, hr9, hg9, base9, hb9, ho9⟩
    have HO := Lib.hid (ho9.lower2 (Nat.le_trans hg03.le hb9))
    have hgz := hg03.trans hg9
    clear hr9 ho9 hg9
    go_wp2_with fail
    go_ret3
    rw [HA.out]
    exact ⟨_, _, _, rfl, HO.out, hgz⟩
  · rw [hhas] at hfd
    have HFd := Lib.hid hfd
    have hA : applyL 3 key val l = (putL l ⟨key, val⟩, vAt l (place key l), 0) := by unfold applyL wasOf; rw [hhas]; simp
    have HA := Lib.hid hA
    have hlt := hlt hhas
    obtain ⟨bL, offL, hoL, hcL⟩ := H.out.cells
    have hI := run_row cap (fun q => (hoL q).1) hlt
    have x2 := (hcL (place key l) hlt).2
    clear hoL hcL
    clear hfd hA hhas
    generalize place key l = pl at *
    go_enter Tryd.func33, Tryd.ntmps33
    go_wp2_with fail
    refine (HM.out _).mono ?_
    rintro e w1 ⟨rfl, hg1⟩
    have z0 := hg1.keep z0
    have y0 := hg1.keep y0
    have y1 := hg1.keep y1
    have y2 := hg1.keep y2
    have hg01 := hg0.trans hg1
    clear hg1 HM hg0
    go_wp2_with fail
    refine (HR.out _ hg01).mono ?_
    rintro e w2 ⟨rfl, hg2⟩
    have z0 := hg2.keep z0
    have y0 := hg2.keep y0
    have y1 := hg2.keep y1
    have y2 := hg2.keep y2
    have hg02 := hg01.trans hg2
    clear hg2 HR hg01
    go_wp2_with fail
    refine (HFd.out _ hg02).mono ?_
    rintro e w3 ⟨rfl, hg3⟩
    have z0 := hg3.gr.keep z0
    have y0 := hg3.gr.keep y0
    have y1 := hg3.gr.keep y1
    have y2 := hg3.gr.keep y2
    have hg03 := hg02.trans hg3.gr
    have x2 := hg03.keep x2
    clear hg3 HFd hg02
    go_wp2_with fail
    refine (put_clo oa n cap l key val _ _ _ (H.out.keep hg03) hn hk hv hf.out z0 y1 y2).mono ?_
    rintro e w9 ⟨o9, q9, c9, rfl, ho9, hg9⟩
    have HO := Lib.hid (ho9.lower2 hg03.le)
    have hgz := hg03.trans hg9
    clear ho9 hg9
    go_wp2_with fail
    go_ret3
    rw [HA.out]
    exact ⟨_, _, _, rfl, HO.out, hgz⟩

set_option maxRecDepth 100000 in
set_option maxHeartbeats 8000000 in
theorem apply_k4 (oa : Option Addr) (n cap : Nat) (l : List Rw) (key val : ByteArray) (w : World) (h : RowsAt w oa n cap l) (hn : n ≤ 1000000) (hk : key.size ≤ maxLen) (hv : val.size ≤ maxLen) (hb : mayB 4 key val = true) (hb2 : rowsOkB l = true) :
    Calls Tryd.prog 33 #[.slice oa n cap, .agg #[.int .i64 4, .string key, .string val]] w (Told3 w (applyL 4 key val l)) := by
  have H := Lib.hid h
  have hM := fun w => may_any 4 key val w hk hv
  have hR := fun w1 (hg : Gr w w1) => rowsRight_any oa n cap l w1 (H.out.keep hg)
  have z0 : ((w.alloc (.cells #[.slice oa n cap] 23)).alloc (.cells #[.int .i64 4, .string key, .string val] 36)).cell? ⟨w.heap.size, 0, none⟩ = some (.slice oa n cap) := ((Gr.refl _).alloc _).keep (World.cell?_alloc_new w _ _ 0)
  have y0 : ((w.alloc (.cells #[.slice oa n cap] 23)).alloc (.cells #[.int .i64 4, .string key, .string val] 36)).cell? ⟨w.heap.size + 1, 0, none⟩ = some (.int .i64 4) := by simp [go_sem]
  have y1 : ((w.alloc (.cells #[.slice oa n cap] 23)).alloc (.cells #[.int .i64 4, .string key, .string val] 36)).cell? ⟨w.heap.size + 1, 1, none⟩ = some (.string key) := by simp [go_sem]
  have y2 : ((w.alloc (.cells #[.slice oa n cap] 23)).alloc (.cells #[.int .i64 4, .string key, .string val] 36)).cell? ⟨w.heap.size + 1, 2, none⟩ = some (.string val) := by simp [go_sem]
  have hg0 : Gr w ((w.alloc (.cells #[.slice oa n cap] 23)).alloc (.cells #[.int .i64 4, .string key, .string val] 36)) := ((Gr.refl w).alloc _).alloc _
  have hfd := fun w1 (hg : Gr w w1) => find_any oa n cap l key w1 (H.out.keep hg) hk
  have hlt := has_lt (key := key) (l := l)
  rw [H.out.len] at hlt
  rw [hb] at hM
  rw [hb2] at hR
  have hf := Lib.hid (may_fits hb (by decide) (by decide))
  have HM := Lib.hid hM
  have HR := Lib.hid hR
  have hcl := H.out.cap_le
  have hcm := H.out.cap_max
  unfold maxLen at hcm
  clear hM hR h hb2 hb
  cases hhas : hasB key l
  · rw [hhas] at hfd
    have HFd := Lib.hid hfd
    have hA : applyL 4 key val l = (putL l ⟨key, val⟩, ⟨#[]⟩, 0) := by unfold applyL wasOf; rw [hhas]; simp
    have HA := Lib.hid hA
    clear hfd hA hhas
    generalize place key l = pl at *
    go_enter Tryd.func33, Tryd.ntmps33
    go_wp2_with fail
    refine (HM.out _).mono ?_
    rintro e w1 ⟨rfl, hg1⟩
    have z0 := hg1.keep z0
    have y0 := hg1.keep y0
    have y1 := hg1.keep y1
    have y2 := hg1.keep y2
    have hg01 := hg0.trans hg1
    clear hg1 HM hg0
    go_wp2_with fail
    refine (HR.out _ hg01).mono ?_
    rintro e w2 ⟨rfl, hg2⟩
    have z0 := hg2.keep z0
    have y0 := hg2.keep y0
    have y1 := hg2.keep y1
    have y2 := hg2.keep y2
    have hg02 := hg01.trans hg2
    clear hg2 HR hg01
    go_wp2_with fail
    refine (HFd.out _ hg02).mono ?_
    rintro e w3 ⟨rfl, hg3⟩
    have z0 := hg3.gr.keep z0
    have y0 := hg3.gr.keep y0
    have y1 := hg3.gr.keep y1
    have y2 := hg3.gr.keep y2
    have hg03 := hg02.trans hg3.gr
    clear hg3 HFd hg02
    go_wp2_with fail
    refine (put_clo oa n cap l key val _ _ _ (H.out.keep hg03) hn hk hv hf.out z0 y1 y2).mono ?_
    rintro e w9 ⟨o9, q9, c9, rfl, ho9, hg9⟩
    have HO := Lib.hid (ho9.lower2 hg03.le)
    have hgz := hg03.trans hg9
    clear ho9 hg9
    go_wp2_with fail
    go_ret3
    rw [HA.out]
    exact ⟨_, _, _, rfl, HO.out, hgz⟩
  · rw [hhas] at hfd
    have HFd := Lib.hid hfd
    have hA : applyL 4 key val l = (putL l ⟨key, val⟩, vAt l (place key l), 0) := by unfold applyL wasOf; rw [hhas]; simp
    have HA := Lib.hid hA
    have hlt := hlt hhas
    obtain ⟨bL, offL, hoL, hcL⟩ := H.out.cells
    have hI := run_row cap (fun q => (hoL q).1) hlt
    have x2 := (hcL (place key l) hlt).2
    clear hoL hcL
    clear hfd hA hhas
    generalize place key l = pl at *
    go_enter Tryd.func33, Tryd.ntmps33
    go_wp2_with fail
    refine (HM.out _).mono ?_
    rintro e w1 ⟨rfl, hg1⟩
    have z0 := hg1.keep z0
    have y0 := hg1.keep y0
    have y1 := hg1.keep y1
    have y2 := hg1.keep y2
    have hg01 := hg0.trans hg1
    clear hg1 HM hg0
    go_wp2_with fail
    refine (HR.out _ hg01).mono ?_
    rintro e w2 ⟨rfl, hg2⟩
    have z0 := hg2.keep z0
    have y0 := hg2.keep y0
    have y1 := hg2.keep y1
    have y2 := hg2.keep y2
    have hg02 := hg01.trans hg2
    clear hg2 HR hg01
    go_wp2_with fail
    refine (HFd.out _ hg02).mono ?_
    rintro e w3 ⟨rfl, hg3⟩
    have z0 := hg3.gr.keep z0
    have y0 := hg3.gr.keep y0
    have y1 := hg3.gr.keep y1
    have y2 := hg3.gr.keep y2
    have hg03 := hg02.trans hg3.gr
    have x2 := hg03.keep x2
    clear hg3 HFd hg02
    go_wp2_with fail
    refine (put_clo oa n cap l key val _ _ _ (H.out.keep hg03) hn hk hv hf.out z0 y1 y2).mono ?_
    rintro e w9 ⟨o9, q9, c9, rfl, ho9, hg9⟩
    have HO := Lib.hid (ho9.lower2 hg03.le)
    have hgz := hg03.trans hg9
    clear ho9 hg9
    go_wp2_with fail
    go_ret3
    rw [HA.out]
    exact ⟨_, _, _, rfl, HO.out, hgz⟩

set_option maxRecDepth 100000 in
set_option maxHeartbeats 8000000 in
theorem apply_k5 (oa : Option Addr) (n cap : Nat) (l : List Rw) (key val : ByteArray) (w : World) (h : RowsAt w oa n cap l) (hn : n ≤ 1000000) (hk : key.size ≤ maxLen) (hv : val.size ≤ maxLen) (hb : mayB 5 key val = true) (hb2 : rowsOkB l = true) :
    Calls Tryd.prog 33 #[.slice oa n cap, .agg #[.int .i64 5, .string key, .string val]] w (Told3 w (applyL 5 key val l)) := by
  have H := Lib.hid h
  have hM := fun w => may_any 5 key val w hk hv
  have hR := fun w1 (hg : Gr w w1) => rowsRight_any oa n cap l w1 (H.out.keep hg)
  have z0 : ((w.alloc (.cells #[.slice oa n cap] 23)).alloc (.cells #[.int .i64 5, .string key, .string val] 36)).cell? ⟨w.heap.size, 0, none⟩ = some (.slice oa n cap) := ((Gr.refl _).alloc _).keep (World.cell?_alloc_new w _ _ 0)
  have y0 : ((w.alloc (.cells #[.slice oa n cap] 23)).alloc (.cells #[.int .i64 5, .string key, .string val] 36)).cell? ⟨w.heap.size + 1, 0, none⟩ = some (.int .i64 5) := by simp [go_sem]
  have y1 : ((w.alloc (.cells #[.slice oa n cap] 23)).alloc (.cells #[.int .i64 5, .string key, .string val] 36)).cell? ⟨w.heap.size + 1, 1, none⟩ = some (.string key) := by simp [go_sem]
  have y2 : ((w.alloc (.cells #[.slice oa n cap] 23)).alloc (.cells #[.int .i64 5, .string key, .string val] 36)).cell? ⟨w.heap.size + 1, 2, none⟩ = some (.string val) := by simp [go_sem]
  have hg0 : Gr w ((w.alloc (.cells #[.slice oa n cap] 23)).alloc (.cells #[.int .i64 5, .string key, .string val] 36)) := ((Gr.refl w).alloc _).alloc _
  have hfd := fun w1 (hg : Gr w w1) => find_any oa n cap l key w1 (H.out.keep hg) hk
  have hlt := has_lt (key := key) (l := l)
  rw [H.out.len] at hlt
  rw [hb] at hM
  rw [hb2] at hR
  have HM := Lib.hid hM
  have HR := Lib.hid hR
  have hcl := H.out.cap_le
  have hcm := H.out.cap_max
  unfold maxLen at hcm
  clear hM hR h hb2 hb
  cases hhas : hasB key l
  · rw [hhas] at hfd
    have HFd := Lib.hid hfd
    have hA : applyL 5 key val l = (l, ⟨#[]⟩, 6) := by unfold applyL wasOf; rw [hhas]; simp
    have HA := Lib.hid hA
    clear hfd hA hhas
    generalize place key l = pl at *
    go_enter Tryd.func33, Tryd.ntmps33
    go_wp2_with fail
    refine (HM.out _).mono ?_
    rintro e w1 ⟨rfl, hg1⟩
    have z0 := hg1.keep z0
    have y0 := hg1.keep y0
    have y1 := hg1.keep y1
    have y2 := hg1.keep y2
    have hg01 := hg0.trans hg1
    clear hg1 HM hg0
    go_wp2_with fail
    refine (HR.out _ hg01).mono ?_
    rintro e w2 ⟨rfl, hg2⟩
    have z0 := hg2.keep z0
    have y0 := hg2.keep y0
    have y1 := hg2.keep y1
    have y2 := hg2.keep y2
    have hg02 := hg01.trans hg2
    clear hg2 HR hg01
    go_wp2_with fail
    refine (HFd.out _ hg02).mono ?_
    rintro e w3 ⟨rfl, hg3⟩
    have z0 := hg3.gr.keep z0
    have y0 := hg3.gr.keep y0
    have y1 := hg3.gr.keep y1
    have y2 := hg3.gr.keep y2
    have hg03 := hg02.trans hg3.gr
    clear hg3 HFd hg02
    go_wp2_with fail
    refine (copy_any oa n cap l _ (H.out.keep hg03) hn).mono ?_
    rintro e w9 ⟨o9, q9, c9, rfl, hr9, hg9, base9, hb9, ho9⟩
    have HO := Lib.hid (ho9.lower2 (Nat.le_trans hg03.le hb9))
    have hgz := hg03.trans hg9
    clear hr9 ho9 hg9
    go_wp2_with fail
    go_ret3
    rw [HA.out]
    exact ⟨_, _, _, rfl, HO.out, hgz⟩
  · rw [hhas] at hfd
    have HFd := Lib.hid hfd
    have hA : applyL 5 key val l = (dropL l key, vAt l (place key l), 0) := by unfold applyL wasOf; rw [hhas]; simp
    have HA := Lib.hid hA
    have hlt := hlt hhas
    obtain ⟨bL, offL, hoL, hcL⟩ := H.out.cells
    have hI := run_row cap (fun q => (hoL q).1) hlt
    have x2 := (hcL (place key l) hlt).2
    clear hoL hcL
    clear hfd hA hhas
    generalize place key l = pl at *
    go_enter Tryd.func33, Tryd.ntmps33
    go_wp2_with fail
    refine (HM.out _).mono ?_
    rintro e w1 ⟨rfl, hg1⟩
    have z0 := hg1.keep z0
    have y0 := hg1.keep y0
    have y1 := hg1.keep y1
    have y2 := hg1.keep y2
    have hg01 := hg0.trans hg1
    clear hg1 HM hg0
    go_wp2_with fail
    refine (HR.out _ hg01).mono ?_
    rintro e w2 ⟨rfl, hg2⟩
    have z0 := hg2.keep z0
    have y0 := hg2.keep y0
    have y1 := hg2.keep y1
    have y2 := hg2.keep y2
    have hg02 := hg01.trans hg2
    clear hg2 HR hg01
    go_wp2_with fail
    refine (HFd.out _ hg02).mono ?_
    rintro e w3 ⟨rfl, hg3⟩
    have z0 := hg3.gr.keep z0
    have y0 := hg3.gr.keep y0
    have y1 := hg3.gr.keep y1
    have y2 := hg3.gr.keep y2
    have hg03 := hg02.trans hg3.gr
    have x2 := hg03.keep x2
    clear hg3 HFd hg02
    go_wp2_with fail
    refine (drop_own oa n cap l key _ (H.out.keep hg03) hn hk).mono ?_
    rintro e w9 ⟨o9, q9, c9, rfl, ho9, hg9⟩
    have HO := Lib.hid (ho9.lower2 hg03.le)
    have hgz := hg03.trans hg9
    clear ho9 hg9
    go_wp2_with fail
    go_ret3
    rw [HA.out]
    exact ⟨_, _, _, rfl, HO.out, hgz⟩

theorem apply_any (oa : Option Addr) (n cap : Nat) (l : List Rw) (kind : Int) (key val : ByteArray) (w : World) (h : RowsAt w oa n cap l) (hn : n ≤ 1000000) (hk : key.size ≤ maxLen) (hv : val.size ≤ maxLen) :
    Calls Tryd.prog 33 #[.slice oa n cap, .agg #[.int .i64 kind, .string key, .string val]] w (Told3 w (applyH kind key val l)) := by
  unfold applyH
  cases hb : mayB kind key val
  · rw [if_neg (fun q => by cases q.1)]
    exact apply_bad oa n cap l kind key val w h hn hk hv (.inl hb)
  · cases hb2 : rowsOkB l
    · rw [if_neg (fun q => by cases q.2)]
      exact apply_bad oa n cap l kind key val w h hn hk hv (.inr ⟨hb, hb2⟩)
    · rw [if_pos ⟨rfl, rfl⟩]
      rcases may_kinds hb with rfl | rfl | rfl | rfl | rfl
      · exact apply_k1 oa n cap l key val w h hn hk hv hb hb2
      · exact apply_k2 oa n cap l key val w h hn hk hv hb hb2
      · exact apply_k3 oa n cap l key val w h hn hk hv hb hb2
      · exact apply_k4 oa n cap l key val w h hn hk hv hb hb2
      · exact apply_k5 oa n cap l key val w h hn hk hv hb hb2
end Go.Proofs.YtkngjnkecmjakaaDoor
