import Derived.Test.YtfejdbcfcpmdiaaDoorCtrz
import Derived.Test.YtfejdbcfcpmdiaaDoorBx2z
import Derived.Deep.DeepCutAuto
namespace Go.Proofs.YtfejdbcfcpmdiaaDoor
set_option linter.unusedVariables false
set_option linter.unusedSimpArgs false
open Go.BigFrame Go.RowKit Go.WideShapes

/-! Copy of the program's table: two loops over its maps. -/
def cpF (f : MF) (left : Int → Bool) : MF := fun k => if left k = true then none else f k
theorem cpF_start (f : MF) : cpF f (fun k => (f k).isSome) = fun _ => none := by
  funext k
  unfold cpF
  split
  · rfl
  · rename_i h
    cases hf : f k with
    | none => rfl
    | some v => simp [hf] at h
theorem cpF_put {f : MF} {left : Int → Bool} {k : Int} {v : Value} (h : f k = some v) : cpF f (fun x => left x && !decide (x = k)) = upd (cpF f left) k (some v) := by
  funext x
  by_cases e : x = k
  · subst e
    rw [upd_same]
    unfold cpF
    simp [h]
  · rw [upd_other e]
    unfold cpF
    simp [e]
theorem cpF_end {f : MF} {left : Int → Bool} (h : ∀ k, left k = false) : cpF f left = f := by
  funext k
  unfold cpF
  rw [h k]; rfl
theorem cpF_dom {f : MF} {left : Int → Bool} {k : Int} (h : (cpF f left k).isSome = true) : (f k).isSome = true := by
  unfold cpF at h
  split at h
  · cases h
  · exact h
section
variable {S : List Nat} {w : World} {t cm mk : Nat} {T : Ct}
/-- a copy of the table in blocks of its own -/
def CopyT (S : List Nat) (T : Ct) (w : World) (e : Ending) (w' : World) : Prop := ∃ t2 cm2 mk2, e = .returned (.pointer (some ⟨t2, 0, none⟩)) ∧ w.heap.size ≤ t2 ∧ w.heap.size ≤ cm2 ∧ w.heap.size ≤ mk2 ∧ TabV (t2 :: cm2 :: mk2 :: S) w' t2 cm2 mk2 T ∧ Gr w w'
set_option maxRecDepth 100000 in
set_option maxHeartbeats 4000000 in
theorem copy_v (hT : TabV S w t cm mk T) (hO : CtOk T) :
    Calls Tryd.prog 15 #[.pointer (some ⟨t, 0, none⟩)] w (CopyT S T w) := by
  have HT := Lib.hid hT
  have HO := Lib.hid hO
  have hmm := @run_makeMap Tryd.prog
  have HB := hT.box
  have hl2 := hO.cap
  have hl3 := hO.lim
  have tlt := hT.lt
  have clt := hT.lt2
  have mlt := hT.lt3
  obtain ⟨f, hf, hc⟩ := hT.m1
  have Hf := Lib.hid hf
  have Hc := Lib.hid hc
  have Z := (Bx.new w (tabL T cm mk).toArray 56 rfl).of (us := tabL T cm mk) (by simp)
  clear hT hO hf hc
  go_enter Tryd.func15, Tryd.ntmps15
  go_upto_region 4 with (first | ((with_reducible refine wpList_load_box (ty := 56) (HB) ?_ ?_ Tryd.underlying56 ?_ ?_ ?_); (focus (exact rfl)); (focus (exact ⟨_, rfl, rfl⟩)); (focus (exact rfl)); (focus kernel_rfl)) | ((with_reducible refine wpList_store_box (ty := 56) (Z) ((tabL T cm mk)) ?_ ?_ ?_ ?_ ?_ ?_); (focus (exact rfl)); (focus (exact ⟨_, _, rfl, rfl, rfl⟩)); (focus (exact rfl)); (focus kernel_rfl); (focus kernel_rfl)))
  go_upto_region 5 with fail
  have s1 := size_alloc1
  have Z0 : Bx (((w.alloc (.cells (tabL T (w.heap.size + 1) (w.heap.size + 1 + 1)).toArray 56)).alloc (.map #[] 0)).alloc (.map #[] 0)) w.heap.size (tabL T (w.heap.size + 1) (w.heap.size + 1 + 1)) :=
    (((Bx.new w _ _ rfl).keep ((Gr.refl _).alloc _)).keep ((Gr.refl _).alloc _)).of (by simp)
  have M1 : mapI (((w.alloc (.cells (tabL T (w.heap.size + 1) (w.heap.size + 1 + 1)).toArray 56)).alloc (.map #[] 0)).alloc (.map #[] 0)) (w.heap.size + 1) (fun _ => none) := by
    have h := (MapV.made (P := Tryd.prog) (K := 3) (w.alloc (.cells (tabL T (w.heap.size + 1) (w.heap.size + 1 + 1)).toArray 56))).keep ((Gr.refl _).alloc (.map #[] 0))
    rwa [s1] at h
  have M2 : mapI (((w.alloc (.cells (tabL T (w.heap.size + 1) (w.heap.size + 1 + 1)).toArray 56)).alloc (.map #[] 0)).alloc (.map #[] 0)) (w.heap.size + 1 + 1) (fun _ => none) := by
    have h := MapV.made (P := Tryd.prog) (K := 3) ((w.alloc (.cells (tabL T (w.heap.size + 1) (w.heap.size + 1 + 1)).toArray 56)).alloc (.map #[] 0))
    rwa [s1, s1] at h
  have hGW : Gr w (((w.alloc (.cells (tabL T (w.heap.size + 1) (w.heap.size + 1 + 1)).toArray 56)).alloc (.map #[] 0)).alloc (.map #[] 0)) := (((Gr.refl w).alloc _).alloc _).alloc _
  have hsW : (((w.alloc (.cells (tabL T (w.heap.size + 1) (w.heap.size + 1 + 1)).toArray 56)).alloc (.map #[] 0)).alloc (.map #[] 0)).heap.size = w.heap.size + 1 + 1 + 1 := by rw [s1, s1, s1]
  clear Z s1
  (show Code.wp _ _ _ _ (((w.alloc (.cells (tabL T (w.heap.size + 1) (w.heap.size + 1 + 1)).toArray 56)).alloc (.map #[] 0)).alloc (.map #[] 0)))
  generalize ((w.alloc (.cells (tabL T (w.heap.size + 1) (w.heap.size + 1 + 1)).toArray 56)).alloc (.map #[] 0)).alloc (.map #[] 0) = W at *
  generalize h20 : w.heap.size = t2 at *
  generalize h21 : t2 + 1 = cm2 at *
  generalize h22 : cm2 + 1 = mk2 at *
  have e0 := Lib.hid h20
  have l1 : t2 < cm2 := by omega
  have l2 : cm2 < mk2 := by omega
  have hsW2 : W.heap.size = mk2 + 1 := hsW
  have HsW := Lib.hid hsW2
  clear h20 h21 h22 hsW hsW2
  have c4 := (HB.keep hGW).cell 4 rfl
  have c5 := (HB.keep hGW).cell 5 rfl
  obtain ⟨w1, cnt0, hrg, hR0, hg1, hsz1⟩ := (Hf.out.keep hGW).range Tryd.underlying3 Tryd.underlying53
  have hG1 : Gr W w1 := (Mod.grown hg1 (S := []) (fun b e => by cases e)).ofNil
  have HR0 := Lib.hid hR0
  have HG1 := Lib.hid hG1
  have HM1 := Lib.hid (M1.keep hG1)
  have HM2 := Lib.hid (M2.keep hG1)
  have HZ := Lib.hid (Z0.keep hG1)
  have HGW := Lib.hid hGW
  have HBB := Lib.hid HB
  clear hR0 hG1 M1 M2 Z0 hGW hg1 HB
  obtain ⟨r, hr⟩ : ∃ r, r = W.heap.size := ⟨_, rfl⟩
  rw [← hr] at hrg HR0 hsz1 HsW
  have Hr := Lib.hid hr
  have lr : mk2 < r := by have := HsW.out; omega
  have Hsz1 := Lib.hid hsz1
  clear hr hsz1
  go_wp2_with fail
  (try go_frame)
  clear hrg
  go_loopw [4, 5] (fun s4 s5 wr => ∃ (left : Int → Bool) (cnt : Nat), Hid (RanV Tryd.prog 3 wr cm r f left cnt) ∧ Hid (mapI wr cm2 (cpF f left)) ∧ Hid (Mod [cm2, r] w1 wr)) (fun s4 s5 wr => wr.rangeLeft cm r)
  case atStart => exact ⟨_, cnt0, HR0, by rw [cpF_start]; exact HM1, Lib.hid (Mod.refl _ _)⟩
  case round =>
    obtain ⟨left, cnt, hR, hm2, hM⟩ := hrel
    have HZr := Lib.hid (hM.out.box (by simp only [List.mem_cons, List.not_mem_nil, or_false, not_or]; omega) HZ.out)
    rcases hR.out.next Tryd.underlying3 0 with ⟨-, hl0, hnx⟩ | ⟨k, v, w2, cnt2, hlk, hm, hwf, hnx, hR2, hlt, hg2, hen⟩
    · have hcE : cpF f left = f := cpF_end hl0
      have hcm := hm2.out
      rw [hcE] at hcm
      have HCM := Lib.hid hcm
      have hBt := hM.out.box (by simp only [List.mem_cons, List.not_mem_nil, or_false, not_or]; omega) ((HBB.out.keep HGW.out).keep HG1.out)
      have d5 := hBt.cell 5 rfl
      have hmk := ((HT.out.m2.keep HGW.out).keep HG1.out).mod hM.out (by simp only [List.mem_cons, List.not_mem_nil, or_false, not_or]; omega)
      have hmk2 := HM2.out.mod hM.out (by simp only [List.mem_cons, List.not_mem_nil, or_false, not_or]; omega)
      have hGr : Gr w wr := hM.out.gr (HGW.out.trans HG1.out) (fun b q => by
        have h1 := e0.out
        simp only [List.mem_cons, List.not_mem_nil, or_false] at q
        rcases q with rfl | rfl <;> omega)
      obtain ⟨w4, cnt4, hrg4, hR4, hg4, hsz4⟩ := hmk.range Tryd.underlying3 Tryd.underlying54
      have hG4 : Gr wr w4 := (Mod.grown hg4 (S := []) (fun b e => by cases e)).ofNil
      have HR4 := Lib.hid hR4
      have HGw4 := Lib.hid (hGr.trans hG4)
      have HZ4 := Lib.hid (HZr.out.keep hG4)
      have HCM4 := Lib.hid (HCM.out.keep hG4)
      have HMK4 := Lib.hid (hmk2.keep hG4)
      have hwr : r < wr.heap.size := hR.out.lt
      clear hcm hcE hBt hmk hmk2 hGr hR4 hG4 hl0 hg4 HCM
      obtain ⟨r2, hr2⟩ : ∃ r2, r2 = wr.heap.size := ⟨_, rfl⟩
      rw [← hr2] at hrg4 HR4 hsz4
      have lr2 : r < r2 := by omega
      have Hsz4 := Lib.hid hsz4
      clear hsz4 hwr
      obtain ⟨WO, rfl⟩ : ∃ W0, W0 = wr := ⟨wr, rfl⟩
      have Hr2 := Lib.hid hr2
      rw [hr2] at hrg4
      clear hr2
      have e2 := Hr2.out
      rw [← e2] at hrg4
      clear e2
      go_wp2_with fail
      (try go_frame)
      clear hrg4
      go_loopw [6, 7] (fun s6 s7 wx => ∃ (left2 : Int → Bool) (cnt2 : Nat), Hid (RanV Tryd.prog 3 wx mk r2 (marksF T.marks) left2 cnt2) ∧ Hid (mapI wx mk2 (cpF (marksF T.marks) left2)) ∧ Hid (Mod [mk2, r2] w4 wx)) (fun s6 s7 wx => wx.rangeLeft mk r2)
      case atStart => exact ⟨_, cnt4, HR4, by rw [cpF_start]; exact HMK4, Lib.hid (Mod.refl _ _)⟩
      case round =>
        clear hnx d5
        obtain ⟨left2, cnt2, hR2, hmm2, hMM⟩ := hrel
        have HZx := Lib.hid (hMM.out.box (by simp only [List.mem_cons, List.not_mem_nil, or_false, not_or]; omega) HZ4.out)
        rcases hR2.out.next Tryd.underlying3 0 with ⟨-, hl0, hnx⟩ | ⟨k, v, w2, cnt3, hlk, hm, hwf, hnx, hR3, hlt, hg2, hen⟩
        · have hcE := cpF_end (f := marksF T.marks) hl0
          have hmk := hmm2.out
          rw [hcE] at hmk
          have hGx : Gr w wr := hMM.out.gr HGw4.out (fun b q => by
            have h1 := e0.out
            simp only [List.mem_cons, List.not_mem_nil, or_false] at q
            rcases q with rfl | rfl <;> omega)
          have hV : TabV (t2 :: cm2 :: mk2 :: S) wr t2 cm2 mk2 T :=
            ⟨by omega, by omega, by omega, by simp, by simp, by simp, HZx.out, ⟨f, HCM4.out.mod hMM.out (by simp only [List.mem_cons, List.not_mem_nil, or_false, not_or]; omega), Hc.out.ex (hideL_new hGx fun b q => by
              have h1 := e0.out
              simp only [List.mem_cons] at q
              rcases q with rfl | rfl | rfl | q
              · exact .inr (by omega)
              · exact .inr (by omega)
              · exact .inr (by omega)
              · exact .inl q)⟩, hmk⟩
          have HV := Lib.hid hV
          have HGx := Lib.hid hGx
          clear hV hGx hmk hcE hl0
          go_wp2_with fail
          go_ret
          exact ⟨t2, cm2, mk2, rfl, by rw [e0.out]; exact Nat.le_refl _, by rw [e0.out]; omega, by rw [e0.out]; omega, HV.out, HGx.out⟩
        · have hM2 : Mod [r2] wr w2 := Mod.grown hg2 fun b e => by cases e; simp
          have z5 := (hM2.box (by simp only [List.mem_singleton]; omega) HZx.out).cell 5 rfl
          have hmm3 := hmm2.out.mod hM2 (by simp only [List.mem_singleton]; omega)
          have hbd := wf_bd hwf
          have Hcn := Lib.hid hR2.out.left_eq
          have h64 := HO.out.mk2
          obtain ⟨w3, hup, hm3, htn⟩ := hmm3.put Tryd.underlying3 (fun x hx => marksF_dom T.marks x (cpF_dom hx)) (by unfold maxLen; omega) Tryd.underlying54 hwf v
          have ht3 : Mod [mk2] w2 w3 := turned_mod htn (by simp)
          have hR5 := hR3.mod ht3 (by simp only [List.mem_singleton]; omega) (by simp only [List.mem_singleton]; omega)
          rw [← cpF_put hm] at hm3
          have HR5 := Lib.hid hR5
          have Hm3 := Lib.hid hm3
          have HM5 := Lib.hid ((hMM.out.trans (hM2.sub (by simp))).trans (ht3.sub (by simp)))
          have Hlt := Lib.hid hlt
          clear hR5 hm3 hlt hmm3 htn ht3 hM2 hR3 hlk hm
          go_wp2_with fail
          go_roundw
          case rel => exact ⟨_, cnt3, HR5, Hm3, HM5⟩
          case measure => rw [HR5.out.left_eq, Hcn.out]; exact Hlt.out
    · have hM2 : Mod [r] wr w2 := Mod.grown hg2 fun b e => by cases e; simp
      have z4 := (hM2.box (by simp only [List.mem_singleton]; omega) HZr.out).cell 4 rfl
      have hmm2 := hm2.out.mod hM2 (by simp only [List.mem_singleton]; omega)
      have hbd := wf_bd hwf
      have Hcn := Lib.hid hR.out.left_eq
      obtain ⟨w3, hup, hm3, htn⟩ := hmm2.put Tryd.underlying3 (fun x hx => Hc.out.dom HO.out.len x (cpF_dom hx)) (by unfold maxLen; omega) Tryd.underlying53 hwf v
      have ht3 : Mod [cm2] w2 w3 := turned_mod htn (by simp)
      have hR3 := hR2.mod ht3 (by simp only [List.mem_singleton]; omega) (by simp only [List.mem_singleton]; omega)
      rw [← cpF_put hm] at hm3
      have HR3 := Lib.hid hR3
      have Hm3 := Lib.hid hm3
      have HM3 := Lib.hid ((hM.out.trans (hM2.sub (by simp))).trans (ht3.sub (by simp)))
      have Hlt := Lib.hid hlt
      clear hR3 hm3 hlt hmm2 htn ht3 hM2 hR2 hlk hm
      go_wp2_with fail
      go_roundw
      case rel => exact ⟨_, cnt2, HR3, Hm3, HM3⟩
      case measure => rw [HR3.out.left_eq, Hcn.out]; exact Hlt.out
end
end Go.Proofs.YtfejdbcfcpmdiaaDoor
