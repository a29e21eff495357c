import Derived.Test.YtidfelbaegaphaaDoorRc
namespace Go.Proofs.YtidfelbaegaphaaDoor
set_option linter.unusedVariables false
set_option linter.unusedSimpArgs false
open Go.BigFrame Go.RowKit Go.WideShapes

theorem entT : SlT Tryd.prog 43 79 2 24 := ⟨Tryd.underlying43, by
  obtain ⟨i, hi, hz, hsi, hby⟩ := info_parts (show (Tryd.prog.info? 79).map (fun i => (i.zero, i.size, i.bytes)) = some (some (.agg #[.string ⟨#[]⟩, .int .i64 0]), 2, 24) by kernel_rfl)
  exact ⟨i, _, hi, hz, hsi, hby, rfl⟩, by decide⟩
abbrev zR : List Value := [.int .i64 0, .string ⟨#[]⟩, .string ⟨#[]⟩, .bool false, .int .i64 0, .slice none 0 0, .slice none 0 0, .string ⟨#[]⟩, .string ⟨#[]⟩, .int .i64 0, .int .i64 0, .int .i64 0, .string ⟨#[]⟩, .int .i64 0, .int .i64 0]
/-- a record in memory of the call's own -/
def CloneTells (w : World) (y : Ry) (e : Ending) (w' : World) : Prop :=
  ∃ o1 n1 c1 o2 n2 c2, e = .returned (rxV y.x o1 n1 c1 o2 n2 c2) ∧ OwnAt w' w.heap.size o1 n1 c1 y.x.r.rows ∧ OwnS EnE 2 79 w' w.heap.size o2 n2 c2 y.ents ∧ Gr w w'
theorem OwnS.setLow {α : Type} {E : EP α} (hE : Mono E) {k : Nat} {T : TypeId} {w : World} {base b i : Nat} {u : Value} {oa : Option Addr} {n cap : Nat} {l : List α} (h : OwnS E k T w base oa n cap l) (hb : b < base) (hEw : ∀ x vs, E (hideB w (Value.ownBlock (.slice oa n cap))) x vs → E (hideB (w.setCell ⟨b, i, none⟩ u) (Value.ownBlock (.slice oa n cap))) x vs) : OwnS E k T (w.setCell ⟨b, i, none⟩ u) base oa n cap l := by
  obtain ⟨hl, vss, h1, h2, ⟨h3, h4⟩, h5⟩ := h
  refine ⟨hl, vss, h1, h2, ⟨h3, ?_⟩, fun j x vs hj hv => hEw _ _ (h5 j x vs hj hv)⟩
  rcases h4 with e | ⟨g, cp, cur, e, hg, hcur, rest⟩
  · exact .inl e
  · refine .inr ⟨g, cp, cur, e, hg, ?_, rest⟩
    simp only [World.setCell, Array.getElem?_modify]
    rw [if_neg (by omega)]; exact hcur
theorem ents_setLow {w : World} {base b i : Nat} {u : Value} {oa : Option Addr} {n cap : Nat} {l : List En} (h : OwnS EnE 2 79 w base oa n cap l) (hb : b < base) : OwnS EnE 2 79 (w.setCell ⟨b, i, none⟩ u) base oa n cap l :=
  h.setLow EnE_mono hb (fun _ _ q => q)
theorem ents_setLows {base b : Nat} {oa : Option Addr} {n cap : Nat} {l : List En} (hb : b < base) (us : List Value) : ∀ {w : World} (i : Nat), OwnS EnE 2 79 w base oa n cap l → OwnS EnE 2 79 (w.setCells b i us) base oa n cap l := by
  induction us with
  | nil => intro w i h; exact h
  | cons u us ih => intro w i h; exact ih (i + 1) (ents_setLow h hb)

set_option maxRecDepth 100000 in
set_option maxHeartbeats 2000000 in
theorem clone_any (y : Ry) (o1 : Option Addr) (n1 c1 : Nat) (o2 : Option Addr) (n2 c2 : Nat) (w : World) (hR : RowsAt w o1 n1 c1 y.x.r.rows) (hE : EntsAt w o2 n2 c2 y.ents) (hn1 : n1 ≤ 1000000) (hn2 : n2 * 24 ≤ 140737488355328) :
    Calls Tryd.prog 20 #[rxV y.x o1 n1 c1 o2 n2 c2] w (CloneTells w y) := by
  have s1 := size_alloc1
  have B0 : Bx ((w.alloc (.cells (xL y.x o1 n1 c1 o2 n2 c2).toArray 49)).alloc (.cells zR.toArray 49)) w.heap.size (xL y.x o1 n1 c1 o2 n2 c2) := ((Bx.new w _ _ rfl).keep ((Gr.refl _).alloc _)).of (by simp)
  have Z0 : Bx ((w.alloc (.cells (xL y.x o1 n1 c1 o2 n2 c2).toArray 49)).alloc (.cells zR.toArray 49)) (w.heap.size + 1) zR := (Bx.new (w.alloc _) _ _ (by rw [s1])).of (by simp)
  have hg0 : Gr w ((w.alloc (.cells (xL y.x o1 n1 c1 o2 n2 c2).toArray 49)).alloc (.cells zR.toArray 49)) := ((Gr.refl _).alloc _).alloc _
  have hsz : ((w.alloc (.cells (xL y.x o1 n1 c1 o2 n2 c2).toArray 49)).alloc (.cells zR.toArray 49)).heap.size = w.heap.size + 2 := by rw [s1, s1]
  go_enter Tryd.func20, Tryd.ntmps20
  go_upto_region 1 with fail
  generalize (w.alloc (.cells (xL y.x o1 n1 c1 o2 n2 c2).toArray 49)).alloc (.cells zR.toArray 49) = W at *
  have Hsz := Lib.hid hsz
  clear hsz s1
  generalize hBX : w.heap.size = BX at *
  have hRW := Lib.hid fun w1 (hq : Gr W w1) => hR.keep (hg0.trans hq)
  have hEW := Lib.hid fun w1 (hq : Gr w w1) => SlE.keep EnE_mono hE hq
  have hcn := hE.cap_le
  clear hR hE
  go_cut [] (fun wx => ∃ (a1 : Option Addr) (m1 d1 : Nat), Bx wx BX (xL y.x a1 m1 d1 o2 n2 c2) ∧ Bx wx (BX + 1) zR ∧ OwnAt wx W.heap.size a1 m1 d1 y.x.r.rows ∧ Gr w wx ∧ EntsAt wx o2 n2 c2 y.ents ∧ W.heap.size ≤ wx.heap.size)
  case first =>
    have x5 := alloc1 (ob := .cells #[] 41) (B0.cell 5 rfl)
    go_wp2_with (at_builtin; refine wpList_rows (w0 := W) rfl _ _ rfl ((Gr.refl W).alloc _) rfl (own_empty (Gr.refl W)) rfl (hRW.out _ ((Gr.refl W).alloc _)) (by omega) ?_; intro oc k3 w1 ho1 hg1; have x5 := (B0.keep hg1).cell 5 rfl; have f5 := (B0.keep hg1).free 5 (by simp))
    go_meet
    have hgf := (hg0.trans hg1).setCell (p := ⟨BX, 5, none⟩) (by show w.heap.size ≤ BX; omega) (.slice oc n1 k3)
    exact ⟨oc, n1, k3, (B0.keep hg1).set 5 _, (Z0.keep hg1).other (by omega) _, by simpa using ho1.setLow (b := BX) (i := 5) (by have := Hsz.out; omega), hgf, hEW.out _ hgf, by unfold World.setCell; simpa using hg1.le⟩
  case rest =>
    obtain ⟨a1, m1, d1, B1, Z1, hO1, hg1, hE1, hle1⟩ := hcut
    have HE1 := Lib.hid hE1
    clear hE1 hRW hEW B0 Z0
    go_upto_region 2 with fail
    go_cut [] (fun wx => ∃ (a2 : Option Addr) (m2 d2 : Nat), Bx wx BX (xL y.x a1 m1 d1 a2 m2 d2) ∧ Bx wx (BX + 1) zR ∧ OwnAt wx W.heap.size a1 m1 d1 y.x.r.rows ∧ OwnS EnE 2 79 wx W.heap.size a2 m2 d2 y.ents ∧ Gr w wx)
    case first =>
      have x6 := alloc1 (ob := .cells #[] 79) (B1.cell 6 rfl)
      have hfr : OwnS EnE 2 79 (wc.alloc (.cells #[] 79)) wc.heap.size (some ⟨wc.heap.size, 0, none⟩) 0 0 [] := OwnS.fresh EnE 2 _ rfl (Nat.le_refl _)
      have hsrc : SlE EnE 2 (hideB (wc.alloc (.cells #[] 79)) (Value.ownBlock (.slice (some ⟨wc.heap.size, 0, none⟩) 0 0))) o2 n2 c2 y.ents := HE1.out.ex EnE_mono (ex_hide ((Gr.refl _).alloc _).ex (fun g hg => by cases hg; exact Nat.le_refl _))
      have Hfr := Lib.hid hfr
      have Hsrc := Lib.hid hsrc
      clear hfr hsrc
      go_wp2_with (at_builtin; refine wpList_app EnE_mono entT rfl _ _ rfl (base := wc.heap.size) ((Gr.refl wc).alloc _).le rfl Hfr.out rfl Hsrc.out (by unfold maxLen; omega) (by omega) ?_; intro oc k3 w2 ho2 hb2; (have hg2 : Gr wc w2 := Hfr.out.gr hb2 ((Gr.refl _).alloc _) (Nat.le_refl _)); have x6 := (B1.keep hg2).cell 6 rfl; have f6 := (B1.keep hg2).free 6 (by simp))
      go_meet
      have hgf := (hg1.trans hg2).setCell (p := ⟨BX, 6, none⟩) (by show w.heap.size ≤ BX; omega) (.slice oc n2 k3)
      have hsz := Hsz.out
      have ho3 : OwnS EnE 2 79 w2 W.heap.size oc n2 k3 y.ents := by simpa using ho2.lower hle1
      exact ⟨oc, n2, k3, (B1.keep hg2).set 6 _, (Z1.keep hg2).other (by omega) _, (hO1.keep hg2).setLow (b := BX) (i := 6) (by omega), ents_setLow ho3 (by omega), hgf⟩
    case rest =>
      obtain ⟨a2, m2, d2, B2, Z2, hO2, hS2, hg2⟩ := hcut
      have hsz := Hsz.out
      have HO2 := Lib.hid hO2
      have HS2 := Lib.hid hS2
      clear hO2 hS2
      go_wp2_with (first | (refine wpList_load_mid rfl 49 _ rfl _ 0 rfl _ _ (B2).rng Tryd.underlying49 rfl (by kernel_rfl) ?_) | (refine wpList_store_mid rfl 49 _ _ rfl _ 0 _ rfl rfl (Z2).may (by kernel_rfl) (by kernel_rfl) ?_))
      refine bodyPost_ret ((Z2.setAll (us := xL y.x a1 m1 d1 a2 m2 d2) rfl).ret1 rfl _ rfl Tryd.underlying49 rfl (by kernel_rfl)) rfl ?_
      refine ⟨a1, m1, d1, a2, m2, d2, rfl, (HO2.out.setLows (by omega) _ 0).lower2 (by omega), (ents_setLows (by omega) _ 0 HS2.out).lower (by omega), ?_⟩
      exact hg2.setCells (by omega) _ _
end Go.Proofs.YtidfelbaegaphaaDoor
