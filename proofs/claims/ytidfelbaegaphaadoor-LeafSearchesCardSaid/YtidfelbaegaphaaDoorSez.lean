import Derived.Test.YtidfelbaegaphaaDoorFp2z
import Derived.Test.YtidfelbaegaphaaDoorSp7z
import Derived.Test.YtidfelbaegaphaaDoorAsz
namespace Go.Proofs.YtidfelbaegaphaaDoor
set_option linter.unusedVariables false
set_option linter.unusedSimpArgs false
open Go.BigFrame Go.RowKit Go.WideShapes

/-- a code as an error -/
def errC (c : Int) : Value := if c = 0 then .nilIface else errV c
theorem errC_pos {c : Int} (h : c ≠ 0) : errC c = errV c := if_neg h
theorem foldP_code {l : List Rc} {e : Int} (h : foldP l = (none, e)) : e = 9 ∨ e = 10 := by
  unfold foldP at h
  split at h
  · split at h
    · cases h; exact .inr rfl
    · split at h
      · split at h
        · cases h
        · cases h; exact .inr rfl
      · cases h; exact .inr rfl
  · cases h; exact .inl rfl

theorem hasB_lt {key : ByteArray} {l : List Rw} (h : hasB key l = true) : place key l < l.length := by
  unfold hasB at h; exact (decide_eq_true_iff.1 h).1

set_option maxRecDepth 100000 in
set_option maxHeartbeats 2000000 in
theorem search_leaf (oa : Option Addr) (n cap : Nat) (l : List Ry) (key : ByteArray) (w : World) (h : RecsAt w oa n cap l) (hn : n ≤ 1000) (hrs : ∀ (i : Nat) (y : Ry), l[i]? = some y → y.x.r.rows.length ≤ 100) (hk : key.size ≤ maxLen) :
    Calls Tryd.prog 15 #[.slice oa n cap, .string key] w fun e w' => e = .returned (.tuple #[.string (searchP (rcs l) key).1, .bool (searchP (rcs l) key).2.1, errC (searchP (rcs l) key).2.2]) ∧ Gr w w' := by
  have hF := Lib.hid (fold_any oa n cap l w h hn hrs)
  obtain ⟨R, hR⟩ : ∃ R, R = searchP (rcs l) key := ⟨_, rfl⟩
  have HS := Lib.hid hR
  rw [← hR]
  clear h hrs hR
  go_enter Tryd.func15, Tryd.ntmps15
  cases hf : foldP (rcs l) with
  | mk r code =>
  rw [hf] at hF
  cases r with
  | none =>
    have hc : errC code = errV code := errC_pos (by rcases foldP_code hf with q | q <;> omega)
    have Hc := Lib.hid hc
    have hE : R = (ByteArray.empty, false, code) := by rw [HS.out]; unfold searchP; rw [hf]
    have HE := Lib.hid hE
    clear hc hf hE
    go_wp2_with fail
    (with_reducible refine hF.out.mono ?_)
    rintro e w1 ⟨rfl, hg1⟩
    go_wp2_with fail
    go_ret3
    exact ⟨by rw [HE.out, Hc.out]; rfl, by repeat (first | with_reducible exact Gr.refl _ | with_reducible refine Gr.drewN ?_ _ | with_reducible refine Gr.drew ?_ | with_reducible refine Gr.alloc ?_ _ | with_reducible refine Gr.setCell ?_ ?_ _ | (with_reducible refine Gr.trans ?_ (by assumption)) | omega | (dsimp only; omega))⟩
  | some v =>
    have hc : code = 0 := (fold_ok hf).2
    subst hc
    have hE0 : R = (if v.gone = true then (ByteArray.empty, false, 13) else if hasK v key = false then (ByteArray.empty, false, 2) else if hasB key v.rows = true then (vAt v.rows (place key v.rows), true, 0) else (ByteArray.empty, false, 0)) := by rw [HS.out]; unfold searchP; rw [hf]
    have HE0 := Lib.hid hE0
    clear hf hE0
    go_wp2_with fail
    (with_reducible refine hF.out.mono ?_)
    rintro e w1 ⟨o, m, c, rfl, hO, hv, hg1⟩
    have B8 : Bx (w1.alloc (.cells #[.string v.low, .string v.high, .bool v.unb, .int .i64 v.right, .slice o m c, .bool v.gone] 28)) w1.heap.size (vL v o m c) := Bx.new w1 _ _ rfl
    have hg8 : Gr w (w1.alloc (.cells #[.string v.low, .string v.high, .bool v.unb, .int .i64 v.right, .slice o m c, .bool v.gone] 28)) := hg1.alloc _
    have hR8 := Lib.hid (hO.rows.keep ((Gr.refl w1).alloc (.cells #[.string v.low, .string v.high, .bool v.unb, .int .i64 v.right, .slice o m c, .bool v.gone] 28)))
    go_upto_region 2 with fail
    generalize w1.alloc (.cells #[.string v.low, .string v.high, .bool v.unb, .int .i64 v.right, .slice o m c, .bool v.gone] 28) = W at *
    generalize w1.heap.size = b8 at *
    have v5 := B8.cell 5 rfl
    have hH := fun w3 => has_any v o m c key w3 hv hk
    obtain ⟨low, high, unb, right, rows, gone⟩ := v
    dsimp only at *
    cases gone
    · cases hh : hasK ⟨low, high, unb, right, rows, false⟩ key
      · rw [hh] at hH
        have hH := Lib.hid hH
        have HE : Hid (R = (ByteArray.empty, false, 2)) := Lib.hid (by rw [HE0.out, hh]; rfl)
        clear hO hF hR8 hh
        go_wp2_with (first | (refine wpList_load_mid rfl 28 _ rfl _ 0 rfl _ _ (B8).rng Tryd.underlying28 rfl (by kernel_rfl) ?_) | (go_at_call 33; (with_reducible refine (hH.out _).mono ?_); rintro e w3 ⟨rfl, hg3⟩))
        go_ret3
        exact ⟨by rw [HE.out]; rfl, hg8.trans hg3⟩
      · rw [hh] at hH
        have hH := Lib.hid hH
        have hFi := Lib.hid fun w3 (hq : Gr W w3) => find_any o m c rows key w3 (hR8.out.keep hq) hk
        cases hb : hasB key rows
        · rw [hb] at hFi
          have HE : Hid (R = (ByteArray.empty, false, 0)) := Lib.hid (by rw [HE0.out, hh, hb]; rfl)
          clear hO hF hR8 hh hb
          go_wp2_with (first | (refine wpList_load_mid rfl 28 _ rfl _ 0 rfl _ _ (B8).rng Tryd.underlying28 rfl (by kernel_rfl) ?_) | (go_at_call 33; (with_reducible refine (hH.out _).mono ?_); rintro e w3 ⟨rfl, hg3⟩; have v4 := (B8.keep hg3).cell 4 rfl) | (go_at_call 34; (with_reducible refine (hFi.out _ hg3).mono ?_); rintro e w4 ⟨rfl, d, rfl⟩))
          go_ret3
          exact ⟨by rw [HE.out]; rfl, (hg8.trans hg3).drewN _⟩
        · rw [hb] at hFi
          have hpl := hasB_lt hb
          have HE : Hid (R = (vAt rows (place key rows), true, 0)) := Lib.hid (by rw [HE0.out, hh, hb]; rfl)
          rw [hR8.out.len] at hpl
          obtain ⟨bb, off, ho, hc⟩ := hR8.out.cells
          have Ho := Lib.hid (fun q => (ho q).1)
          have hp1 := Lib.hid (hc _ hpl).2
          have hI := run_row c Ho.out hpl
          have hcm := hR8.out.cap_le
          have hcx := hR8.out.cap_max
          unfold maxLen at hcx
          generalize place key rows = pl at *
          clear hO hF hR8 ho hc hb hh
          go_wp2_with (first | (refine wpList_load_mid rfl 28 _ rfl _ 0 rfl _ _ (B8).rng Tryd.underlying28 rfl (by kernel_rfl) ?_) | (go_at_call 33; (with_reducible refine (hH.out _).mono ?_); rintro e w3 ⟨rfl, hg3⟩; have v4 := (B8.keep hg3).cell 4 rfl; have p1 := hg3.keep hp1.out) | (go_at_call 34; (with_reducible refine (hFi.out _ hg3).mono ?_); rintro e w4 ⟨rfl, d, rfl⟩))
          go_ret3
          exact ⟨by rw [HE.out]; rfl, (hg8.trans hg3).drewN _⟩
    · have HE : Hid (R = (ByteArray.empty, false, 13)) := Lib.hid (by rw [HE0.out]; rfl)
      clear hO hF hR8 hH
      go_wp2_with fail
      go_ret3
      exact ⟨by rw [HE.out]; rfl, hg8⟩
end Go.Proofs.YtidfelbaegaphaaDoor

namespace Go.Proofs.YtidfelbaegaphaaDoor
set_option linter.unusedVariables false
set_option linter.unusedSimpArgs false
open Go.BigFrame Go.RowKit Go.WideShapes

/-! What the laws of folds and searches call besides. -/
set_option maxRecDepth 100000 in
set_option maxHeartbeats 1000000 in
theorem view_law (v : Vw) (oa : Option Addr) (n cap : Nat) (w : World) :
    Calls Tryd.prog 12 #[vwV v oa n cap] w fun e w' => e = .returned (vwV v oa n cap) ∧ Gr w w' := by
  have s1 := size_alloc1
  have B0 : Bx ((w.alloc (.cells (vL v oa n cap).toArray 28)).alloc (.cells zL.toArray 33)) w.heap.size (vL v oa n cap) := ((Bx.new w _ _ rfl).keep ((Gr.refl _).alloc _)).of (by simp)
  have Z0 : Bx ((w.alloc (.cells (vL v oa n cap).toArray 28)).alloc (.cells zL.toArray 33)) (w.heap.size + 1) zL := (Bx.new (w.alloc _) _ _ (by rw [s1])).of (by simp)
  have hg0 : Gr w ((w.alloc (.cells (vL v oa n cap).toArray 28)).alloc (.cells zL.toArray 33)) := ((Gr.refl _).alloc _).alloc _
  have hsz : ((w.alloc (.cells (vL v oa n cap).toArray 28)).alloc (.cells zL.toArray 33)).heap.size = w.heap.size + 2 := by rw [s1, s1]
  go_enter Tryd.func12, Tryd.ntmps12
  go_upto_region 1 with fail
  generalize (w.alloc (.cells (vL v oa n cap).toArray 28)).alloc (.cells zL.toArray 33) = W at *
  generalize hBX : w.heap.size = BX at *
  have v0 := B0.cell 0 rfl
  have v1 := B0.cell 1 rfl
  have v2 := B0.cell 2 rfl
  have v3 := B0.cell 3 rfl
  have v4 := B0.cell 4 rfl
  have v5 := B0.cell 5 rfl
  go_wp2_with ((with_reducible refine wpList_store_box (ty := 33) (Z0) ((vL v oa n cap)) ?_ ?_ ?_ ?_ ?_ ?_); (focus (exact rfl)); (focus (exact ⟨_, _, rfl, rfl, rfl⟩)); (focus (exact rfl)); (focus kernel_rfl); (focus kernel_rfl))
  refine bodyPost_ret ((Z0.setAll (us := vL v oa n cap) rfl).ret1 rfl _ rfl Tryd.underlying33 rfl (by kernel_rfl)) rfl ?_
  exact ⟨rfl, hg0.setCells (by omega) _ _⟩
theorem code_law (c : Int) (w : World) (hg : w.cell? ⟨0, 0, none⟩ = some handleV) : Calls Tryd.prog 13 #[errC c] w fun e w' => e = .returned (.int .i64 c) ∧ Gr w w' := by
  by_cases hc : c = 0
  · subst hc
    exact code_nil w
  · rw [errC_pos hc]
    exact code_any c w hg
end Go.Proofs.YtidfelbaegaphaaDoor
