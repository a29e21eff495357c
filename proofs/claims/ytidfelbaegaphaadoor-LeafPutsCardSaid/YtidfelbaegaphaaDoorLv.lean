import Derived.Test.YtidfelbaegaphaaDoorLf2
import Derived.Test.YtidfelbaegaphaaDoorCjO
import Derived.Test.YtidfelbaegaphaaDoorTk
import Derived.Test.YtidfelbaegaphaaDoorAp
namespace Go.Proofs.YtidfelbaegaphaaDoor
set_option linter.unusedVariables false
set_option linter.unusedSimpArgs false
open Go.BigFrame Go.RowKit Go.WideShapes

/-! A leaf's views and records as values. -/
/-- a view as a value -/
abbrev vwV (v : Vw) (oa : Option Addr) (n cap : Nat) : Value := .agg #[.string v.low, .string v.high, .bool v.unb, .int .i64 v.right, .slice oa n cap, .bool v.gone]
/-- the view's texts are texts -/
structure VwSz (v : Vw) : Prop where
  low : v.low.size ≤ maxLen
  high : v.high.size ≤ maxLen
/-- a whole record: what a leaf looks at, and the rest -/
structure Rx where
  r : Rc
  hpage : Int
  hleft : Int
  hkey : ByteArray
  slot : Int
  gen : Int
/-- a record as a value: its rows, its entries -/
abbrev rxV (x : Rx) (oa : Option Addr) (n cap : Nat) (ob : Option Addr) (m cap2 : Nat) : Value :=
  .agg #[.int .i64 x.r.kind, .string x.r.low, .string x.r.high, .bool x.r.unb, .int .i64 x.r.right, .slice oa n cap, .slice ob m cap2, .string x.r.key, .string x.r.val, .int .i64 x.r.page, .int .i64 x.hpage, .int .i64 x.hleft, .string x.hkey, .int .i64 x.slot, .int .i64 x.gen]
structure RxSz (x : Rx) : Prop where
  low : x.r.low.size ≤ maxLen
  high : x.r.high.size ≤ maxLen
  key : x.r.key.size ≤ maxLen
  val : x.r.val.size ≤ maxLen
  hkey : x.hkey.size ≤ maxLen

theorem notEmpty {s : ByteArray} (h : s ≠ ByteArray.empty) : s.toList.isEmpty = false := by
  cases hs : s.toList with
  | nil => exact absurd (tx_inj (show Tx s = Tx ByteArray.empty by rw [← toList_tx, hs]; rfl)) h
  | cons a l => rfl
set_option maxRecDepth 100000 in
theorem has_any (v : Vw) (oa : Option Addr) (n cap : Nat) (key : ByteArray) (w : World) (hv : VwSz v) (hk : key.size ≤ maxLen) :
    Calls Tryd.prog 33 #[vwV v oa n cap, .string key] w fun e w' => e = .returned (.bool (hasK v key)) ∧ Gr w w' := by
  obtain ⟨h1, h2⟩ := hv
  have hI := Lib.hid (fun w1 => in_any v.low v.high v.unb key w1 h1 h2 hk)
  unfold hasK
  go_enter Tryd.func33, Tryd.ntmps33
  go_wp2_with fail
  refine (hI.out _).mono ?_
  rintro e w1 ⟨rfl, hd⟩
  go_wp2_with fail
  go_ret
  exact ⟨rfl, Gr.trans (by repeat (first | with_reducible exact Gr.refl _ | with_reducible refine Gr.drewN ?_ _ | with_reducible refine Gr.drew ?_ | with_reducible refine Gr.alloc ?_ _ | with_reducible refine Gr.setCell ?_ ?_ _ | (with_reducible refine Gr.trans ?_ (by assumption)) | omega | (dsimp only; omega))) hd.gr⟩
set_option maxRecDepth 100000 in
theorem refHas_any (v : Vw) (oa : Option Addr) (n cap : Nat) (key : ByteArray) (w : World) (hv : VwSz v) (hk : key.size ≤ maxLen) :
    Calls Tryd.prog 26 #[vwV v oa n cap, .string key] w fun e w' => e = .returned (.bool (hasK v key)) ∧ Gr w w' := by
  obtain ⟨h1, h2⟩ := hv
  have hI := fun w1 => refIn_any v.low v.high v.unb key w1 h1 h2 hk
  rw [← inB_eq] at hI
  have hI := Lib.hid hI
  unfold hasK
  go_enter Tryd.func26, Tryd.ntmps26
  go_wp2_with fail
  refine (hI.out _).mono ?_
  rintro e w1 ⟨rfl, hd⟩
  go_wp2_with fail
  go_ret
  exact ⟨rfl, Gr.trans (by repeat (first | with_reducible exact Gr.refl _ | with_reducible refine Gr.drewN ?_ _ | with_reducible refine Gr.drew ?_ | with_reducible refine Gr.alloc ?_ _ | with_reducible refine Gr.setCell ?_ ?_ _ | (with_reducible refine Gr.trans ?_ (by assumption)) | omega | (dsimp only; omega))) hd.gr⟩
set_option maxRecDepth 100000 in
set_option maxHeartbeats 1000000 in
theorem sound_any (l : List Rw) (oa : Option Addr) (n cap : Nat) (low high : ByteArray) (unb : Bool) (w : World) (h : RowsAt w oa n cap l) (hn : n ≤ 1000000) (h1 : low.size ≤ maxLen) (h2 : high.size ≤ maxLen) :
    Calls Tryd.prog 22 #[.slice oa n cap, .agg #[.string low, .string high, .bool unb]] w fun e w' => e = .returned (.bool (soundP l low high unb)) ∧ Gr w w' := by
  have hlen := h.len
  have hc := h.cap_le
  have hm := h.cap_max
  unfold maxLen at hm
  have hRk := fun w1 (hg : Gr w w1) => rowsRight_any oa n cap l w1 (h.keep hg)
  have hT := Lib.hid (fun w1 (hg : Gr w w1) => take_any oa n cap l low high unb 0 false w1 (h.keep hg) hn h1 h2)
  have hS : soundP l low high unb = if (unb = true ∧ high ≠ ByteArray.empty) ∨ rowsOkB l = false then false else decide ((takeR low high unb 0 false l).length = l.length) := rfl
  generalize soundP l low high unb = B at *
  generalize takeR low high unb 0 false l = T at *
  have b0 := (show (w.alloc (.cells #[.string low, .string high, .bool unb] 64)).cell? ⟨w.heap.size, 0, none⟩ = some (.string low) from World.cell?_alloc_new w _ _ 0)
  have b1 := (show (w.alloc (.cells #[.string low, .string high, .bool unb] 64)).cell? ⟨w.heap.size, 1, none⟩ = some (.string high) from World.cell?_alloc_new w _ _ 1)
  have b2 := (show (w.alloc (.cells #[.string low, .string high, .bool unb] 64)).cell? ⟨w.heap.size, 2, none⟩ = some (.bool unb) from World.cell?_alloc_new w _ _ 2)
  have hg0 := (Gr.refl w).alloc (.cells #[.string low, .string high, .bool unb] 64)
  by_cases hb : unb = true ∧ high ≠ ByteArray.empty
  · obtain ⟨rfl, hh⟩ := hb
    rw [if_pos (.inl ⟨rfl, hh⟩)] at hS
    subst hS
    have hne := notEmpty hh
    go_enter Tryd.func22, Tryd.ntmps22
    go_wp2_with fail
    go_ret
    exact ⟨rfl, hg0⟩
  · have hcase : unb = false ∨ (unb = true ∧ high = ⟨#[]⟩) := by
      cases unb
      · exact .inl rfl
      · right
        refine ⟨rfl, ?_⟩
        apply Classical.byContradiction
        intro q
        exact hb ⟨rfl, q⟩
    cases hr : rowsOkB l
    · rw [if_pos (.inr hr)] at hS
      subst hS
      rw [hr] at hRk
      have hRk := Lib.hid hRk
      clear hr hb
      rcases hcase with rfl | ⟨rfl, rfl⟩
      all_goals
        go_enter Tryd.func22, Tryd.ntmps22
        go_wp2_with fail
        refine (hRk.out _ hg0).mono ?_
        rintro e w1 ⟨rfl, hg1⟩
        go_wp2_with fail
        go_ret
        exact ⟨rfl, hg0.trans hg1⟩
    · rw [if_neg (fun q => q.elim hb (fun r => by rw [hr] at r; cases r))] at hS
      rw [hr] at hRk
      have hRk := Lib.hid hRk
      have HS := Lib.hid hS
      clear hr hb hS
      rcases hcase with rfl | ⟨rfl, rfl⟩
      all_goals
        go_enter Tryd.func22, Tryd.ntmps22
        go_wp2_with fail
        refine (hRk.out _ hg0).mono ?_
        rintro e w1 ⟨rfl, hg1⟩
        have b0 := hg1.keep b0
        have b1 := hg1.keep b1
        have b2 := hg1.keep b2
        have hg1 := hg0.trans hg1
        go_wp2_with fail
        refine (hT.out _ hg1).mono ?_
        rintro e w2 ⟨o2, n2, c2, rfl, hr2, hg2, -⟩
        obtain rfl : T.length = n2 := hr2.len
        have hq : ((T.length : Int) == (n : Int)) = B := by
          rw [HS.out, hlen, Bool.eq_iff_iff]; simp; omega
        clear hr2
        go_wp2_with fail
        go_ret
        exact ⟨by rw [← hq]; rfl, hg1.trans hg2⟩
/-- a view's box -/
abbrev vwW (w : World) (v : Vw) (oa : Option Addr) (n cap : Nat) : World := w.alloc (.cells #[.string v.low, .string v.high, .bool v.unb, .int .i64 v.right, .slice oa n cap, .bool v.gone] 28)
theorem vwbox (w : World) (v : Vw) (oa : Option Addr) (n cap : Nat) : (vwW w v oa n cap).cell? ⟨w.heap.size, 0, none⟩ = some (.string v.low) ∧ (vwW w v oa n cap).cell? ⟨w.heap.size, 1, none⟩ = some (.string v.high) ∧ (vwW w v oa n cap).cell? ⟨w.heap.size, 2, none⟩ = some (.bool v.unb) ∧ (vwW w v oa n cap).cell? ⟨w.heap.size, 3, none⟩ = some (.int .i64 v.right) ∧ (vwW w v oa n cap).cell? ⟨w.heap.size, 4, none⟩ = some (.slice oa n cap) ∧ (vwW w v oa n cap).cell? ⟨w.heap.size, 5, none⟩ = some (.bool v.gone) :=
  ⟨World.cell?_alloc_new w _ _ 0, World.cell?_alloc_new w _ _ 1, World.cell?_alloc_new w _ _ 2, World.cell?_alloc_new w _ _ 3, World.cell?_alloc_new w _ _ 4, World.cell?_alloc_new w _ _ 5⟩
set_option maxRecDepth 100000 in
set_option maxHeartbeats 1000000 in
theorem span_any (v : Vw) (oa : Option Addr) (n cap : Nat) (w : World) :
    Calls Tryd.prog 23 #[vwV v oa n cap] w fun e w' => e = .returned (.agg #[.string v.low, .string v.high, .bool v.unb]) ∧ Gr w w' := by
  go_enter Tryd.func23, Tryd.ntmps23
  go_wp2_with fail
  refine bodyPost_ret (v := .agg #[.string v.low, .string v.high, .bool v.unb]) (by simp [results]; go_simp) rfl ?_
  exact ⟨rfl, by repeat (first | with_reducible exact Gr.refl _ | with_reducible refine Gr.drewN ?_ _ | with_reducible refine Gr.drew ?_ | with_reducible refine Gr.alloc ?_ _ | with_reducible refine Gr.setCell ?_ ?_ _ | (with_reducible refine Gr.trans ?_ (by assumption)) | omega | (dsimp only; omega))⟩
end Go.Proofs.YtidfelbaegaphaaDoor
