import Derived.Test.YtidfelbaegaphaaRfy
import Derived.Deep.RegionHeld
import Derived.Deep.MidRow
namespace Go.Proofs.Ytidfelbaegaphaa
set_option linter.unusedVariables false
set_option linter.unusedSimpArgs false
open Go.BigFrame Go.RowKit Go.WideShapes

/-! What makes a leaf grow, by the document. -/
theorem Bx.ret5 {P : Program} {w : World} {b c d : Nat} {vs us ts : List Value} (h : Bx w b vs) (k : Bx w c us) (m : Bx w d ts) {fn : Func} {p q r u : Tmp} {ty : TypeId} (hr : fn.results = #[.cell p ty, .cell q ty, .cell r ty, .tmp u]) (tmps : Array Value) (hp : tmps.getD p undef = .pointer (some ⟨b, 0, none⟩)) (hq : tmps.getD q undef = .pointer (some ⟨c, 0, none⟩)) (hs : tmps.getD r undef = .pointer (some ⟨d, 0, none⟩)) {y : Value} (hy : tmps.getD u undef = y)
    {e : TypeDesc} (hu : P.underlying ty = some e) (hd : e.isRow = true) (hi : (P.info? ty).map (·.size) = some vs.length) (hj : (P.info? ty).map (·.size) = some us.length) (hl : (P.info? ty).map (·.size) = some ts.length) : (results fn tmps).run P w = .ok (.tuple #[.agg vs.toArray, .agg us.toArray, .agg ts.toArray, y]) w := by
  have hp' : tmps[p]?.getD undef = .pointer (some ⟨b, 0, none⟩) := by simpa using hp
  have hq' : tmps[q]?.getD undef = .pointer (some ⟨c, 0, none⟩) := by simpa using hq
  have hs' : tmps[r]?.getD undef = .pointer (some ⟨d, 0, none⟩) := by simpa using hs
  have hy' : tmps[u]?.getD undef = y := by simpa using hy
  simp [results, hr, hp', hq', hs', hy', asAddr, run_loadVar_mid w b 0 ty vs e h.rng hu hd hi, run_loadVar_mid w c 0 ty us e k.rng hu hd hj, run_loadVar_mid w d 0 ty ts e m.rng hu hd hl]
theorem RowsAt.keys {w : World} {oa : Option Addr} {n cap : Nat} {l : List Rw} (h : RowsAt w oa n cap l) : ∀ x ∈ l, x.key.size ≤ maxLen := fun x hx => by
  obtain ⟨i, hi, rfl⟩ := List.mem_iff_getElem.1 hx
  have := (h.sizes i (by rw [← h.len]; exact hi)).1
  unfold kAt at this
  rw [rAt_lt hi] at this
  exact this
/-- two new entries -/
theorem ents_two {w : World} {b : Nat} {x y : En} (B : Bx w b [.string x.key, .int .i64 x.page, .string y.key, .int .i64 y.page]) (hx : x.key.size ≤ maxLen) (hy : y.key.size ≤ maxLen) : EntsAt w (some ⟨b, 0, none⟩) 2 2 [x, y] := by
  refine ⟨rfl, Nat.le_refl _, by unfold maxLen; omega, fun q => (by cases q), b, 0, fun _ => ⟨rfl, B.lt (by simp)⟩, fun i z hi => ?_⟩
  rcases i with _ | _ | i
  · obtain rfl : x = z := by simpa using hi
    exact ⟨[.string x.key, .int .i64 x.page], rfl, by simp [Value.oneCell'], ⟨rfl, hx⟩, fun j u hj => B.cell _ (by
      rcases j with _ | _ | j <;> simp at hj ⊢ <;> exact hj)⟩
  · obtain rfl : y = z := by simpa using hi
    exact ⟨[.string y.key, .int .i64 y.page], rfl, by simp [Value.oneCell'], ⟨rfl, hy⟩, fun j u hj => B.cell _ (by
      rcases j with _ | _ | j <;> simp at hj ⊢ <;> exact hj)⟩
  · simp at hi
theorem step_wanted {ops : Array Oper} {o : Oper} {a : Act} {A B : Prop} (h : Region.wanted o (yielded ops a.tmps) = true) (k : A) : if Region.wanted o (yielded ops a.tmps) = true then A else B := by
  rw [if_pos h]; exact k
abbrev hvAr (v : Vw) (key : ByteArray) (right : Int) : Vw := ⟨v.low, key, false, right, v.rows.take (v.rows.length / 2), false⟩
/-- what becomes the root -/
abbrev tRc (v : Vw) : Rx := ⟨⟨7, v.low, v.high, v.unb, v.right, [], ⟨#[]⟩, ⟨#[]⟩, 0⟩, 0, 0, ⟨#[]⟩, 0, 0⟩
def RGrowTells (w : World) (v : Vw) (left right : Int) (oa : Option Addr) (n cap : Nat) (e : Ending) (w' : World) : Prop :=
  match (hvV v).1 with
  | some key => ∃ eo, e = .returned (.tuple #[rxV (bRc (hvAr v key right)) oa (n / 2) cap none 0 0, rxV (bRc (hvB v key)) (tailA oa (n / 2) cap) (n - n / 2) (cap - n / 2) none 0 0, rxV (tRc v) none 0 0 eo 2 2, .bool true]) ∧ EntsAt w' eo 2 2 [⟨v.low, left⟩, ⟨key, right⟩] ∧ Gr w w'
  | none => e = .returned (.tuple #[zRV, zRV, zRV, .bool false]) ∧ Gr w w'
set_option maxRecDepth 100000 in
set_option maxHeartbeats 20000000 in
theorem refGrow_none (v : Vw) (left right : Int) (oa : Option Addr) (n cap : Nat) (w : World) (h : RowsAt w oa n cap v.rows) (hn : n ≤ 1000000) (hk : (hvV v).1 = none) :
    Calls Try.prog 10 #[vwV v oa n cap, .int .i64 left, .int .i64 right] w fun e w' => e = .returned (.tuple #[zRV, zRV, zRV, .bool false]) ∧ Gr w w' := by
  have s1 := size_alloc1
  obtain ⟨W, hW⟩ : ∃ W, W = (((w.alloc (.cells (vL v oa n cap).toArray 24)).alloc (.cells zR.toArray 35)).alloc (.cells zR.toArray 35)).alloc (.cells zR.toArray 35) := ⟨_, rfl⟩
  have B0 : Bx W w.heap.size (vL v oa n cap) := by rw [hW]; exact ((((Bx.new w _ _ rfl).keep ((Gr.refl _).alloc _)).keep ((Gr.refl _).alloc _)).keep ((Gr.refl _).alloc _)).of (by simp)
  have X0 : Bx W (w.heap.size + 1) zR := by rw [hW]; exact (((Bx.new (w.alloc _) _ _ (by rw [s1])).keep ((Gr.refl _).alloc _)).keep ((Gr.refl _).alloc _)).of (by simp)
  have Y0 : Bx W (w.heap.size + 2) zR := by rw [hW]; exact ((Bx.new ((w.alloc _).alloc _) _ _ (by rw [s1, s1])).keep ((Gr.refl _).alloc _)).of (by simp)
  have Z0 : Bx W (w.heap.size + 3) zR := by rw [hW]; exact (Bx.new (((w.alloc _).alloc _).alloc _) _ _ (by rw [s1, s1, s1])).of (by simp)
  have hg0 : Gr w W := by rw [hW]; exact (((((Gr.refl _).alloc _).alloc _).alloc _).alloc _)
  have hsz : W.heap.size = w.heap.size + 4 := by rw [hW, s1, s1, s1, s1]
  have hH := refHalve_any oa n cap v.rows W (h.keep hg0) hn
  go_enter Try.func10, Try.ntmps10
  go_upto_region 1 with fail
  rw [← hW]
  clear hW h
  have Hsz := Lib.hid hsz
  generalize hBX : w.heap.size = BX at *
  have v5 := B0.cell 5 rfl
  have v4 := B0.cell 4 rfl
  have hE : v.gone = true ∨ v.gone = false ∧ (hvK v.rows).1 = none := by
    unfold hvV at hk
    cases hq : v.gone
    · rw [hq, if_neg (by decide)] at hk
      exact .inr ⟨rfl, hk⟩
    · exact .inl rfl
  clear hk s1
  obtain ⟨ok, a1, a2, a3, hok, hC⟩ : ∃ (ok : Bool) (a1 a2 a3 : Value), (v.gone = true ∨ v.gone = false ∧ ok = false) ∧ Calls Try.prog 22 #[.slice oa n cap] W fun e w' => e = .returned (.tuple #[a1, a2, a3, .bool ok]) ∧ Gr W w' := by
    cases hkk : (hvK v.rows).1 with
    | none => rw [hkk] at hH; exact ⟨false, _, _, _, hE.imp id fun q => ⟨q.1, rfl⟩, hH⟩
    | some key => rw [hkk] at hH; exact ⟨true, _, _, _, .inl (hE.elim id fun q => by rw [hkk] at q; cases q.2), hH⟩
  have HC := Lib.hid hC
  clear hC hH hE
  go_upto_region 2 with (go_at_call 22; (with_reducible refine HC.out.mono ?_); rintro e w3 ⟨rfl, hg3⟩)
  have N0 := (Bx.new w3 zR.toArray 35 rfl).of (us := zR) (by simp)
  have hg4 : Gr W ((w3.alloc (.cells zR.toArray 35)).setCells w3.heap.size 0 zR) := (hg3.alloc _).setCells hg3.le _ _
  go_upto_region 3 with ((with_reducible refine wpList_store_box (ty := 35) (N0) (zR) ?_ ?_ ?_ ?_ ?_ ?_); (focus (exact rfl)); (focus (exact ⟨_, _, rfl, rfl, rfl⟩)); (focus (exact rfl)); (focus kernel_rfl); (focus kernel_rfl))
  have N1 := N0.setAll (us := zR) rfl
  have hg5 := hg3.le
  clear N0
  generalize (w3.alloc (.cells zR.toArray 35)).setCells w3.heap.size 0 zR = w4 at *
  generalize w3.heap.size = b4 at *
  have v5 := hg4.keep v5
  have X1 := X0.keep hg4
  have Y1 := Y0.keep hg4
  have Z1 := Z0.keep hg4
  have hgw := hg0.trans hg4
  have hsz := Hsz.out
  have hgw := hgw.drew
  have QX : Bx w4.drew (BX + 1) zR := X1.keep ((Gr.refl w4).drew)
  have QY : Bx w4.drew (BX + 1 + 1) zR := Y1.keep ((Gr.refl w4).drew)
  have QZ : Bx w4.drew (BX + 1 + 1 + 1) zR := Z1.keep ((Gr.refl w4).drew)
  have hu := Try.underlying35
  have hi : (Try.prog.info? 35).map (·.size) = some 15 := by kernel_rfl
  have l1 : zR.toArray.all (·.oneCell') = true := by simp [Value.oneCell']
  have hN := N1.rng
  clear B0 X0 Y0 Z0 X1 Y1 Z1 N1 v4 hg0 hg3 hg4
  have HG := Lib.hid hok
  clear hok
  rcases HG.out with hgone | ⟨hgone, hok⟩
  · rw [hgone] at v5
    clear hgone
    go_wp2_with fail
    refine wp_region_held_drew (S := fun w' => w'.rangeAt b4 0 zR) (by kernel_rfl) (World.rangeAt_drew .. |>.2 hN) (fun hHeld => ?_)
    refine' wpAnyH_take (i := 0) (oi := { dst := some 33, op := .load 35 (.tmp 14), type := _, pos := _, after := _, guard := none }) (v := _) rfl (by kernel_rfl) (by kernel_rfl) (by kernel_rfl) (fun _ _ _ h => h) (yieldsIf_load_mid (by rfl) _ _ rfl _ _ rfl _ _ (fun w h => h) hu rfl hi) hHeld ?_
    simp only [Act.put, List.setIfInBounds_toArray, List.set_cons_zero, List.set_cons_succ]
    refine' wpAnyH_take (i := 1) (oi := { dst := some 34, op := .load 35 (.tmp 14), type := _, pos := _, after := _, guard := none }) (v := _) rfl (by kernel_rfl) (by kernel_rfl) (by kernel_rfl) (fun _ _ _ h => h) (yieldsIf_load_mid (by rfl) _ _ rfl _ _ rfl _ _ (fun w h => h) hu rfl hi) hHeld ?_
    simp only [Act.put, List.setIfInBounds_toArray, List.set_cons_zero, List.set_cons_succ]
    refine' wpAnyH_take (i := 2) (oi := { dst := some 35, op := .load 35 (.tmp 14), type := _, pos := _, after := _, guard := none }) (v := _) rfl (by kernel_rfl) (by kernel_rfl) (by kernel_rfl) (fun _ _ _ h => h) (yieldsIf_load_mid (by rfl) _ _ rfl _ _ rfl _ _ (fun w h => h) hu rfl hi) hHeld ?_
    simp only [Act.put, List.setIfInBounds_toArray, List.set_cons_zero, List.set_cons_succ]
    refine wpAnyH_ready (rs := [3]) (by kernel_rfl) (by simp) ?_
    refine AllReadyH.cons (o := { dst := none, op := .store 35 (.tmp 6) (.tmp 33), type := _, pos := _, after := _, guard := none }) rfl (fun K hK => ?_) AllReadyH.nil
    refine step_wanted (by rfl) ?_
    refine wp_store_mid _ _ _ rfl _ _ zR.toArray rfl rfl QX.may hi l1 ?_
    simp only [Act.put, List.setIfInBounds_toArray, List.set_cons_zero, List.set_cons_succ, List.toList_toArray]
    refine hK.out _ _ (World.rangeAt_setCells_apart hHeld _ _ _ (.inl (by omega))) (fun hHeld => ?_)
    clear hK K
    have QX := QX.setAll (us := zR) rfl
    have QY := QY.others (b' := BX + 1) (by omega) zR
    have QZ := QZ.others (b' := BX + 1) (by omega) zR
    have hgw := hgw.setCells (b := BX + 1) (by omega) zR 0
    generalize (World.drew w4).setCells (BX + 1) 0 zR = wa at hHeld hgw QX QY QZ ⊢
    refine wpAnyH_ready (rs := [4]) (by kernel_rfl) (by simp) ?_
    refine AllReadyH.cons (o := { dst := none, op := .store 35 (.tmp 7) (.tmp 34), type := _, pos := _, after := _, guard := none }) rfl (fun K hK => ?_) AllReadyH.nil
    refine step_wanted (by rfl) ?_
    refine wp_store_mid _ _ _ rfl _ _ zR.toArray rfl rfl QY.may hi l1 ?_
    simp only [Act.put, List.setIfInBounds_toArray, List.set_cons_zero, List.set_cons_succ, List.toList_toArray]
    refine hK.out _ _ (World.rangeAt_setCells_apart hHeld _ _ _ (.inl (by omega))) (fun hHeld => ?_)
    clear hK K
    have QX := QX.others (b' := BX + 1 + 1) (by omega) zR
    have QY := QY.setAll (us := zR) rfl
    have QZ := QZ.others (b' := BX + 1 + 1) (by omega) zR
    have hgw := hgw.setCells (b := BX + 1 + 1) (by omega) zR 0
    generalize (wa).setCells (BX + 1 + 1) 0 zR = wb at hHeld hgw QX QY QZ ⊢
    refine wpAnyH_ready (rs := [5]) (by kernel_rfl) (by simp) ?_
    refine AllReadyH.cons (o := { dst := none, op := .store 35 (.tmp 8) (.tmp 35), type := _, pos := _, after := _, guard := none }) rfl (fun K hK => ?_) AllReadyH.nil
    refine step_wanted (by rfl) ?_
    refine wp_store_mid _ _ _ rfl _ _ zR.toArray rfl rfl QZ.may hi l1 ?_
    simp only [Act.put, List.setIfInBounds_toArray, List.set_cons_zero, List.set_cons_succ, List.toList_toArray]
    refine hK.out _ _ (World.rangeAt_setCells_apart hHeld _ _ _ (.inl (by omega))) (fun hHeld => ?_)
    clear hK K
    have QX := QX.others (b' := BX + 1 + 1 + 1) (by omega) zR
    have QY := QY.others (b' := BX + 1 + 1 + 1) (by omega) zR
    have QZ := QZ.setAll (us := zR) rfl
    have hgw := hgw.setCells (b := BX + 1 + 1 + 1) (by omega) zR 0
    generalize (wb).setCells (BX + 1 + 1 + 1) 0 zR = wd at hHeld hgw QX QY QZ ⊢
    refine wpAnyH_ready (rs := [6]) (by kernel_rfl) (by simp) ?_
    refine AllReadyH.cons rfl (fun K hK => ?_) AllReadyH.nil
    go_simp
    refine hK.out _ _ hHeld (fun hHeld => ?_)
    clear hK K
    refine wpAnyH_done (by kernel_rfl) ?_ _
    go_wp2_with fail
    refine bodyPost_ret (Bx.ret5 (y := .bool false) QX QY QZ rfl _ rfl rfl rfl rfl Try.underlying35 rfl (by kernel_rfl) (by kernel_rfl) (by kernel_rfl)) rfl ?_
    exact ⟨rfl, hgw⟩
  · subst hok
    rw [hgone] at v5
    clear hgone
    go_wp2_with fail
    refine wp_region_held_drew (S := fun w' => w'.rangeAt b4 0 zR) (by kernel_rfl) (World.rangeAt_drew .. |>.2 hN) (fun hHeld => ?_)
    refine' wpAnyH_take (i := 0) (oi := { dst := some 33, op := .load 35 (.tmp 14), type := _, pos := _, after := _, guard := none }) (v := _) rfl (by kernel_rfl) (by kernel_rfl) (by kernel_rfl) (fun _ _ _ h => h) (yieldsIf_load_mid (by rfl) _ _ rfl _ _ rfl _ _ (fun w h => h) hu rfl hi) hHeld ?_
    simp only [Act.put, List.setIfInBounds_toArray, List.set_cons_zero, List.set_cons_succ]
    refine' wpAnyH_take (i := 1) (oi := { dst := some 34, op := .load 35 (.tmp 14), type := _, pos := _, after := _, guard := none }) (v := _) rfl (by kernel_rfl) (by kernel_rfl) (by kernel_rfl) (fun _ _ _ h => h) (yieldsIf_load_mid (by rfl) _ _ rfl _ _ rfl _ _ (fun w h => h) hu rfl hi) hHeld ?_
    simp only [Act.put, List.setIfInBounds_toArray, List.set_cons_zero, List.set_cons_succ]
    refine' wpAnyH_take (i := 2) (oi := { dst := some 35, op := .load 35 (.tmp 14), type := _, pos := _, after := _, guard := none }) (v := _) rfl (by kernel_rfl) (by kernel_rfl) (by kernel_rfl) (fun _ _ _ h => h) (yieldsIf_load_mid (by rfl) _ _ rfl _ _ rfl _ _ (fun w h => h) hu rfl hi) hHeld ?_
    simp only [Act.put, List.setIfInBounds_toArray, List.set_cons_zero, List.set_cons_succ]
    refine wpAnyH_ready (rs := [3]) (by kernel_rfl) (by simp) ?_
    refine AllReadyH.cons (o := { dst := none, op := .store 35 (.tmp 6) (.tmp 33), type := _, pos := _, after := _, guard := none }) rfl (fun K hK => ?_) AllReadyH.nil
    refine step_wanted (by rfl) ?_
    refine wp_store_mid _ _ _ rfl _ _ zR.toArray rfl rfl QX.may hi l1 ?_
    simp only [Act.put, List.setIfInBounds_toArray, List.set_cons_zero, List.set_cons_succ, List.toList_toArray]
    refine hK.out _ _ (World.rangeAt_setCells_apart hHeld _ _ _ (.inl (by omega))) (fun hHeld => ?_)
    clear hK K
    have QX := QX.setAll (us := zR) rfl
    have QY := QY.others (b' := BX + 1) (by omega) zR
    have QZ := QZ.others (b' := BX + 1) (by omega) zR
    have hgw := hgw.setCells (b := BX + 1) (by omega) zR 0
    generalize (World.drew w4).setCells (BX + 1) 0 zR = wa at hHeld hgw QX QY QZ ⊢
    refine wpAnyH_ready (rs := [4]) (by kernel_rfl) (by simp) ?_
    refine AllReadyH.cons (o := { dst := none, op := .store 35 (.tmp 7) (.tmp 34), type := _, pos := _, after := _, guard := none }) rfl (fun K hK => ?_) AllReadyH.nil
    refine step_wanted (by rfl) ?_
    refine wp_store_mid _ _ _ rfl _ _ zR.toArray rfl rfl QY.may hi l1 ?_
    simp only [Act.put, List.setIfInBounds_toArray, List.set_cons_zero, List.set_cons_succ, List.toList_toArray]
    refine hK.out _ _ (World.rangeAt_setCells_apart hHeld _ _ _ (.inl (by omega))) (fun hHeld => ?_)
    clear hK K
    have QX := QX.others (b' := BX + 1 + 1) (by omega) zR
    have QY := QY.setAll (us := zR) rfl
    have QZ := QZ.others (b' := BX + 1 + 1) (by omega) zR
    have hgw := hgw.setCells (b := BX + 1 + 1) (by omega) zR 0
    generalize (wa).setCells (BX + 1 + 1) 0 zR = wb at hHeld hgw QX QY QZ ⊢
    refine wpAnyH_ready (rs := [5]) (by kernel_rfl) (by simp) ?_
    refine AllReadyH.cons (o := { dst := none, op := .store 35 (.tmp 8) (.tmp 35), type := _, pos := _, after := _, guard := none }) rfl (fun K hK => ?_) AllReadyH.nil
    refine step_wanted (by rfl) ?_
    refine wp_store_mid _ _ _ rfl _ _ zR.toArray rfl rfl QZ.may hi l1 ?_
    simp only [Act.put, List.setIfInBounds_toArray, List.set_cons_zero, List.set_cons_succ, List.toList_toArray]
    refine hK.out _ _ (World.rangeAt_setCells_apart hHeld _ _ _ (.inl (by omega))) (fun hHeld => ?_)
    clear hK K
    have QX := QX.others (b' := BX + 1 + 1 + 1) (by omega) zR
    have QY := QY.others (b' := BX + 1 + 1 + 1) (by omega) zR
    have QZ := QZ.setAll (us := zR) rfl
    have hgw := hgw.setCells (b := BX + 1 + 1 + 1) (by omega) zR 0
    generalize (wb).setCells (BX + 1 + 1 + 1) 0 zR = wd at hHeld hgw QX QY QZ ⊢
    refine wpAnyH_ready (rs := [6]) (by kernel_rfl) (by simp) ?_
    refine AllReadyH.cons rfl (fun K hK => ?_) AllReadyH.nil
    go_simp
    refine hK.out _ _ hHeld (fun hHeld => ?_)
    clear hK K
    refine wpAnyH_done (by kernel_rfl) ?_ _
    go_wp2_with fail
    refine bodyPost_ret (Bx.ret5 (y := .bool false) QX QY QZ rfl _ rfl rfl rfl rfl Try.underlying35 rfl (by kernel_rfl) (by kernel_rfl) (by kernel_rfl)) rfl ?_
    exact ⟨rfl, hgw⟩
set_option maxRecDepth 100000 in
set_option maxHeartbeats 20000000 in
theorem refGrow_some (v : Vw) (left right : Int) (oa : Option Addr) (n cap : Nat) (w : World) (h : RowsAt w oa n cap v.rows) (hn : n ≤ 1000000) (hv : VwSz v) (key : ByteArray) (hk : (hvV v).1 = some key) :
    Calls Try.prog 10 #[vwV v oa n cap, .int .i64 left, .int .i64 right] w fun e w' => ∃ eo, e = .returned (.tuple #[rxV (bRc (hvAr v key right)) oa (n / 2) cap none 0 0, rxV (bRc (hvB v key)) (tailA oa (n / 2) cap) (n - n / 2) (cap - n / 2) none 0 0, rxV (tRc v) none 0 0 eo 2 2, .bool true]) ∧ EntsAt w' eo 2 2 [⟨v.low, left⟩, ⟨key, right⟩] ∧ Gr w w' := by
  have s1 := size_alloc1
  obtain ⟨W, hW⟩ : ∃ W, W = (((w.alloc (.cells (vL v oa n cap).toArray 24)).alloc (.cells zR.toArray 35)).alloc (.cells zR.toArray 35)).alloc (.cells zR.toArray 35) := ⟨_, rfl⟩
  have B0 : Bx W w.heap.size (vL v oa n cap) := by rw [hW]; exact ((((Bx.new w _ _ rfl).keep ((Gr.refl _).alloc _)).keep ((Gr.refl _).alloc _)).keep ((Gr.refl _).alloc _)).of (by simp)
  have X0 : Bx W (w.heap.size + 1) zR := by rw [hW]; exact (((Bx.new (w.alloc _) _ _ (by rw [s1])).keep ((Gr.refl _).alloc _)).keep ((Gr.refl _).alloc _)).of (by simp)
  have Y0 : Bx W (w.heap.size + 2) zR := by rw [hW]; exact ((Bx.new ((w.alloc _).alloc _) _ _ (by rw [s1, s1])).keep ((Gr.refl _).alloc _)).of (by simp)
  have Z0 : Bx W (w.heap.size + 3) zR := by rw [hW]; exact (Bx.new (((w.alloc _).alloc _).alloc _) _ _ (by rw [s1, s1, s1])).of (by simp)
  have hg0 : Gr w W := by rw [hW]; exact (((((Gr.refl _).alloc _).alloc _).alloc _).alloc _)
  have hsz : W.heap.size = w.heap.size + 4 := by rw [hW, s1, s1, s1, s1]
  have hH := refHalve_any oa n cap v.rows W (h.keep hg0) hn
  have hE : v.gone = false ∧ (hvK v.rows).1 = some key := by
    unfold hvV at hk
    cases hq : v.gone
    · rw [hq, if_neg (by decide)] at hk
      exact ⟨rfl, hk⟩
    · rw [hq, if_pos rfl] at hk; cases hk
  obtain ⟨hgone, hk2⟩ := hE
  have hks := hvK_size hk2 h.keys
  rw [hk2] at hH
  have HH := Lib.hid hH
  have hls := hv.low
  have HG := Lib.hid hgone
  clear hH hk hk2 hgone
  go_enter Try.func10, Try.ntmps10
  go_upto_region 1 with fail
  rw [← hW]
  clear hW h
  have Hsz := Lib.hid hsz
  generalize hBX : w.heap.size = BX at *
  have v0 := B0.cell 0 rfl
  have v1 := B0.cell 1 rfl
  have v2 := B0.cell 2 rfl
  have v3 := B0.cell 3 rfl
  have v4 := B0.cell 4 rfl
  have v5 := B0.cell 5 rfl
  rw [HG.out] at v5
  have hB1 := Lib.hid fun w1 => refBase_any (hvAr v key right) oa (n / 2) cap w1
  have hB2 := Lib.hid fun w1 => refBase_any (hvB v key) (tailA oa (n / 2) cap) (n - n / 2) (cap - n / 2) w1
  generalize hot : tailA oa (n / 2) cap = ot at *
  generalize hnt : n - n / 2 = nt at *
  generalize hct : cap - n / 2 = ct at *
  generalize hnh : n / 2 = nh at *
  go_upto_region 2 with (go_at_call 22; (with_reducible refine HH.out.mono ?_); rintro e w3 ⟨rfl, hg3⟩)
  have N0 := (Bx.new w3 zR.toArray 35 rfl).of (us := zR) (by simp)
  have hg4 : Gr W ((w3.alloc (.cells zR.toArray 35)).setCells w3.heap.size 0 zR) := (hg3.alloc _).setCells hg3.le _ _
  go_upto_region 3 with ((with_reducible refine wpList_store_box (ty := 35) (N0) (zR) ?_ ?_ ?_ ?_ ?_ ?_); (focus (exact rfl)); (focus (exact ⟨_, _, rfl, rfl, rfl⟩)); (focus (exact rfl)); (focus kernel_rfl); (focus kernel_rfl))
  have hg5 := hg3.le
  clear N0 HH
  generalize (w3.alloc (.cells zR.toArray 35)).setCells w3.heap.size 0 zR = w4 at *
  generalize w3.heap.size = b4 at *
  have v0 := hg4.keep v0
  have v1 := hg4.keep v1
  have v2 := hg4.keep v2
  have v3 := hg4.keep v3
  have v5 := hg4.keep v5
  go_upto_region 6 with (first | (go_at_call 16; (with_reducible refine (hB1.out _).mono ?_); rintro e w5 ⟨rfl, hg5⟩; have N0 := (Bx.new w5 zR.toArray 35 rfl).of (us := zR) (by simp)) | ((with_reducible refine wpList_store_box (ty := 35) (N0) ((xL (bRc (hvAr v key right)) oa nh cap none 0 0)) ?_ ?_ ?_ ?_ ?_ ?_); (focus (exact rfl)); (focus (exact ⟨_, _, rfl, rfl, rfl⟩)); (focus (exact rfl)); (focus kernel_rfl); (focus kernel_rfl)))
  have A := N0.setAll (us := xL (bRc (hvAr v key right)) oa nh cap none 0 0) rfl
  have hg6 := hg4.trans ((hg5.alloc (.cells zR.toArray 35)).setCells hg5.le (xL (bRc (hvAr v key right)) oa nh cap none 0 0) 0)
  have hb15 := (hg4.trans hg5).le
  clear N0 hB1
  generalize (w5.alloc (.cells zR.toArray 35)).setCells w5.heap.size 0 (xL (bRc (hvAr v key right)) oa nh cap none 0 0) = w6 at *
  generalize w5.heap.size = b15 at *
  have v0 := B0.keep hg6 |>.cell 0 rfl
  have v1 := B0.keep hg6 |>.cell 1 rfl
  have v2 := B0.keep hg6 |>.cell 2 rfl
  have v3 := B0.keep hg6 |>.cell 3 rfl
  go_upto_region 7 with (first | (go_at_call 16; (with_reducible refine (hB2.out _).mono ?_); rintro e w7 ⟨rfl, hg7⟩; have N0 := (Bx.new w7 zR.toArray 35 rfl).of (us := zR) (by simp)) | ((with_reducible refine wpList_store_box (ty := 35) (N0) ((xL (bRc (hvB v key)) ot nt ct none 0 0)) ?_ ?_ ?_ ?_ ?_ ?_); (focus (exact rfl)); (focus (exact ⟨_, _, rfl, rfl, rfl⟩)); (focus (exact rfl)); (focus kernel_rfl); (focus kernel_rfl)))
  have C := N0.setAll (us := xL (bRc (hvB v key)) ot nt ct none 0 0) rfl
  have hg8 := (hg7.alloc (.cells zR.toArray 35)).setCells hg7.le (xL (bRc (hvB v key)) ot nt ct none 0 0) 0
  have hb16 := (hg6.trans hg7).le
  clear N0 hB2
  generalize (w7.alloc (.cells zR.toArray 35)).setCells w7.heap.size 0 (xL (bRc (hvB v key)) ot nt ct none 0 0) = w8 at *
  generalize w7.heap.size = b16 at *
  have A := A.keep hg8
  have hg8 := hg6.trans hg8
  have v0 := B0.keep hg8 |>.cell 0 rfl
  have v1 := B0.keep hg8 |>.cell 1 rfl
  have v2 := B0.keep hg8 |>.cell 2 rfl
  have v3 := B0.keep hg8 |>.cell 3 rfl
  have E0 : Bx (w8.alloc (.cells #[.string v.low, .int .i64 left, .string key, .int .i64 right] 69)) w8.heap.size [.string v.low, .int .i64 left, .string key, .int .i64 right] := (Bx.new w8 _ _ rfl).of (by simp)
  have N0 : Bx ((w8.alloc (.cells #[.string v.low, .int .i64 left, .string key, .int .i64 right] 69)).alloc (.cells zR.toArray 35)) (w8.heap.size + 1) zR := (Bx.new (w8.alloc _) zR.toArray 35 (by rw [s1])).of (by simp)
  have hgE : Gr (w8.alloc (.cells #[.string v.low, .int .i64 left, .string key, .int .i64 right] 69)) (((w8.alloc (.cells #[.string v.low, .int .i64 left, .string key, .int .i64 right] 69)).alloc (.cells zR.toArray 35)).setCells (w8.heap.size + 1) 0 (xL (tRc v) none 0 0 (some ⟨w8.heap.size, 0, none⟩) 2 2)) := ((Gr.refl _).alloc _).setCells (by rw [s1]; omega) _ _
  have hgF : Gr w8 (((w8.alloc (.cells #[.string v.low, .int .i64 left, .string key, .int .i64 right] 69)).alloc (.cells zR.toArray 35)).setCells (w8.heap.size + 1) 0 (xL (tRc v) none 0 0 (some ⟨w8.heap.size, 0, none⟩) 2 2)) := (((Gr.refl _).alloc _).alloc _).setCells (by omega) _ _
  go_upto_region 8 with ((with_reducible refine wpList_store_box (ty := 35) (N0) ((xL (tRc v) none 0 0 (some ⟨w8.heap.size, 0, none⟩) 2 2)) ?_ ?_ ?_ ?_ ?_ ?_); (focus (exact rfl)); (focus (exact ⟨_, _, rfl, rfl, rfl⟩)); (focus (exact rfl)); (focus kernel_rfl); (focus kernel_rfl))
  have T := N0.setAll (us := xL (tRc v) none 0 0 (some ⟨w8.heap.size, 0, none⟩) 2 2) rfl
  have E1 := E0.keep hgE
  have hb17 := hg8.le
  clear N0 E0 hgE s1
  generalize ((w8.alloc (.cells #[.string v.low, .int .i64 left, .string key, .int .i64 right] 69)).alloc (.cells zR.toArray 35)).setCells (w8.heap.size + 1) 0 (xL (tRc v) none 0 0 (some ⟨w8.heap.size, 0, none⟩) 2 2) = w9 at *
  generalize w8.heap.size = b8 at *
  have A := A.keep hgF
  have C := C.keep hgF
  have hg9 := hg8.trans hgF
  have hg9 := hg9.drew
  have X1 : Bx w9.drew (BX + 1) zR := X0.keep hg9
  have Y1 : Bx w9.drew (BX + 1 + 1) zR := Y0.keep hg9
  have Z1 : Bx w9.drew (BX + 1 + 1 + 1) zR := Z0.keep hg9
  have E1 := E1.keep ((Gr.refl w9).drew)
  have hgw := hg0.trans hg9
  have hsz := Hsz.out
  have hu := Try.underlying35
  have hi : (Try.prog.info? 35).map (·.size) = some 15 := by kernel_rfl
  have hA := A.rng
  have hC := C.rng
  have hT := T.rng
  have l1 : (xL (bRc (hvAr v key right)) oa nh cap none 0 0).toArray.all (·.oneCell') = true := by simp [Value.oneCell']
  have l2 : (xL (bRc (hvB v key)) ot nt ct none 0 0).toArray.all (·.oneCell') = true := by simp [Value.oneCell']
  have l3 : (xL (tRc v) none 0 0 (some ⟨b8, 0, none⟩) 2 2).toArray.all (·.oneCell') = true := by simp [Value.oneCell']
  refine wp_region_held_drew (S := fun w' => w'.rangeAt b15 0 (xL (bRc (hvAr v key right)) oa nh cap none 0 0) ∧ w'.rangeAt b16 0 (xL (bRc (hvB v key)) ot nt ct none 0 0) ∧ w'.rangeAt (b8 + 1) 0 (xL (tRc v) none 0 0 (some ⟨b8, 0, none⟩) 2 2)) (by kernel_rfl) ?_ (fun hHeld => ?_)
  · exact ⟨World.rangeAt_drew .. |>.2 hA, World.rangeAt_drew .. |>.2 hC, World.rangeAt_drew .. |>.2 hT⟩
  refine' wpAnyH_take (i := 0) (oi := { dst := some 70, op := .load 35 (.tmp 15), type := _, pos := _, after := _, guard := none }) (v := _) rfl (by kernel_rfl) (by kernel_rfl) (by kernel_rfl) (fun _ _ _ h => h) (yieldsIf_load_mid (by rfl) _ _ rfl _ _ rfl _ _ (fun w h => h.1) hu rfl hi) hHeld ?_
  simp only [Act.put, List.setIfInBounds_toArray, List.set_cons_zero, List.set_cons_succ, List.toList_toArray]
  refine' wpAnyH_take (i := 1) (oi := { dst := some 71, op := .load 35 (.tmp 16), type := _, pos := _, after := _, guard := none }) (v := _) rfl (by kernel_rfl) (by kernel_rfl) (by kernel_rfl) (fun _ _ _ h => h) (yieldsIf_load_mid (by rfl) _ _ rfl _ _ rfl _ _ (fun w h => h.2.1) hu rfl hi) hHeld ?_
  simp only [Act.put, List.setIfInBounds_toArray, List.set_cons_zero, List.set_cons_succ, List.toList_toArray]
  refine' wpAnyH_take (i := 2) (oi := { dst := some 72, op := .load 35 (.tmp 17), type := _, pos := _, after := _, guard := none }) (v := _) rfl (by kernel_rfl) (by kernel_rfl) (by kernel_rfl) (fun _ _ _ h => h) (yieldsIf_load_mid (by rfl) _ _ rfl _ _ rfl _ _ (fun w h => h.2.2) hu rfl hi) hHeld ?_
  simp only [Act.put, List.setIfInBounds_toArray, List.set_cons_zero, List.set_cons_succ, List.toList_toArray]
  have QX := X1
  have QY := Y1
  have QZ := Z1
  have QE := E1
  refine wpAnyH_ready (rs := [3]) (by kernel_rfl) (by simp) ?_
  refine AllReadyH.cons (o := { dst := none, op := .store 35 (.tmp 6) (.tmp 70), type := _, pos := _, after := _, guard := none }) rfl (fun K hK => ?_) AllReadyH.nil
  refine step_wanted (by rfl) ?_
  refine wp_store_mid _ _ _ rfl _ _ (xL (bRc (hvAr v key right)) oa nh cap none 0 0).toArray rfl rfl QX.may hi l1 ?_
  simp only [Act.put, List.setIfInBounds_toArray, List.set_cons_zero, List.set_cons_succ, List.toList_toArray]
  refine hK.out _ _ ⟨World.rangeAt_setCells_apart hHeld.1 _ _ _ (.inl (by omega)), World.rangeAt_setCells_apart hHeld.2.1 _ _ _ (.inl (by omega)), World.rangeAt_setCells_apart hHeld.2.2 _ _ _ (.inl (by omega))⟩ (fun hHeld => ?_)
  clear hK K
  have QX := QX.setAll (us := xL (bRc (hvAr v key right)) oa nh cap none 0 0) rfl
  have QY := QY.others (b' := BX + 1) (by omega) (xL (bRc (hvAr v key right)) oa nh cap none 0 0)
  have QZ := QZ.others (b' := BX + 1) (by omega) (xL (bRc (hvAr v key right)) oa nh cap none 0 0)
  have QE := QE.others (b' := BX + 1) (by omega) (xL (bRc (hvAr v key right)) oa nh cap none 0 0)
  have hgw := hgw.setCells (b := BX + 1) (by omega) (xL (bRc (hvAr v key right)) oa nh cap none 0 0) 0
  generalize (World.drew w9).setCells (BX + 1) 0 (xL (bRc (hvAr v key right)) oa nh cap none 0 0) = wa at hHeld hgw QX QY QZ QE ⊢
  refine wpAnyH_ready (rs := [4]) (by kernel_rfl) (by simp) ?_
  refine AllReadyH.cons (o := { dst := none, op := .store 35 (.tmp 7) (.tmp 71), type := _, pos := _, after := _, guard := none }) rfl (fun K hK => ?_) AllReadyH.nil
  refine step_wanted (by rfl) ?_
  refine wp_store_mid _ _ _ rfl _ _ (xL (bRc (hvB v key)) ot nt ct none 0 0).toArray rfl rfl QY.may hi l2 ?_
  simp only [Act.put, List.setIfInBounds_toArray, List.set_cons_zero, List.set_cons_succ, List.toList_toArray]
  refine hK.out _ _ ⟨World.rangeAt_setCells_apart hHeld.1 _ _ _ (.inl (by omega)), World.rangeAt_setCells_apart hHeld.2.1 _ _ _ (.inl (by omega)), World.rangeAt_setCells_apart hHeld.2.2 _ _ _ (.inl (by omega))⟩ (fun hHeld => ?_)
  clear hK K
  have QX := QX.others (b' := BX + 1 + 1) (by omega) (xL (bRc (hvB v key)) ot nt ct none 0 0)
  have QY := QY.setAll (us := xL (bRc (hvB v key)) ot nt ct none 0 0) rfl
  have QZ := QZ.others (b' := BX + 1 + 1) (by omega) (xL (bRc (hvB v key)) ot nt ct none 0 0)
  have QE := QE.others (b' := BX + 1 + 1) (by omega) (xL (bRc (hvB v key)) ot nt ct none 0 0)
  have hgw := hgw.setCells (b := BX + 1 + 1) (by omega) (xL (bRc (hvB v key)) ot nt ct none 0 0) 0
  generalize (wa).setCells (BX + 1 + 1) 0 (xL (bRc (hvB v key)) ot nt ct none 0 0) = wb at hHeld hgw QX QY QZ QE ⊢
  refine wpAnyH_ready (rs := [5]) (by kernel_rfl) (by simp) ?_
  refine AllReadyH.cons (o := { dst := none, op := .store 35 (.tmp 8) (.tmp 72), type := _, pos := _, after := _, guard := none }) rfl (fun K hK => ?_) AllReadyH.nil
  refine step_wanted (by rfl) ?_
  refine wp_store_mid _ _ _ rfl _ _ (xL (tRc v) none 0 0 (some ⟨b8, 0, none⟩) 2 2).toArray rfl rfl QZ.may hi l3 ?_
  simp only [Act.put, List.setIfInBounds_toArray, List.set_cons_zero, List.set_cons_succ, List.toList_toArray]
  refine hK.out _ _ ⟨World.rangeAt_setCells_apart hHeld.1 _ _ _ (.inl (by omega)), World.rangeAt_setCells_apart hHeld.2.1 _ _ _ (.inl (by omega)), World.rangeAt_setCells_apart hHeld.2.2 _ _ _ (.inl (by omega))⟩ (fun hHeld => ?_)
  clear hK K
  have QX := QX.others (b' := BX + 1 + 1 + 1) (by omega) (xL (tRc v) none 0 0 (some ⟨b8, 0, none⟩) 2 2)
  have QY := QY.others (b' := BX + 1 + 1 + 1) (by omega) (xL (tRc v) none 0 0 (some ⟨b8, 0, none⟩) 2 2)
  have QZ := QZ.setAll (us := xL (tRc v) none 0 0 (some ⟨b8, 0, none⟩) 2 2) rfl
  have QE := QE.others (b' := BX + 1 + 1 + 1) (by omega) (xL (tRc v) none 0 0 (some ⟨b8, 0, none⟩) 2 2)
  have hgw := hgw.setCells (b := BX + 1 + 1 + 1) (by omega) (xL (tRc v) none 0 0 (some ⟨b8, 0, none⟩) 2 2) 0
  generalize (wb).setCells (BX + 1 + 1 + 1) 0 (xL (tRc v) none 0 0 (some ⟨b8, 0, none⟩) 2 2) = wd at hHeld hgw QX QY QZ QE ⊢
  refine wpAnyH_ready (rs := [6]) (by kernel_rfl) (by simp) ?_
  refine AllReadyH.cons rfl (fun K hK => ?_) AllReadyH.nil
  go_simp
  refine hK.out _ _ hHeld (fun hHeld => ?_)
  clear hK K
  refine wpAnyH_done (by kernel_rfl) ?_ _
  go_wp2_with fail
  refine bodyPost_ret (Bx.ret5 (y := .bool true) QX QY QZ rfl _ rfl rfl rfl rfl Try.underlying35 rfl (by kernel_rfl) (by kernel_rfl) (by kernel_rfl)) rfl ?_
  subst hot hnt hct hnh
  exact ⟨some ⟨b8, 0, none⟩, rfl, ents_two QE hls hks, hgw⟩
theorem refGrow_any (v : Vw) (left right : Int) (oa : Option Addr) (n cap : Nat) (w : World) (h : RowsAt w oa n cap v.rows) (hn : n ≤ 1000000) (hv : VwSz v) :
    Calls Try.prog 10 #[vwV v oa n cap, .int .i64 left, .int .i64 right] w (RGrowTells w v left right oa n cap) := by
  unfold RGrowTells
  cases hk : (hvV v).1 with
  | none => exact (refGrow_none v left right oa n cap w h hn hk).mono fun e w' q => q
  | some key => exact (refGrow_some v left right oa n cap w h hn hv key hk).mono fun e w' q => q
end Go.Proofs.Ytidfelbaegaphaa

namespace Go.Proofs.Ytidfelbaegaphaa
set_option linter.unusedVariables false
set_option linter.unusedSimpArgs false
open Go.BigFrame Go.RowKit Go.WideShapes

/-! What makes a leaf grow. -/
def GrowTells (w : World) (v : Vw) (left right : Int) (e : Ending) (w' : World) : Prop :=
  match (hvV v).1 with
  | some key => ∃ o1 m1 c1 o2 m2 c2 eo, e = .returned (.tuple #[rxV (bRc (hvAr v key right)) o1 m1 c1 none 0 0, rxV (bRc (hvB v key)) o2 m2 c2 none 0 0, rxV (tRc v) none 0 0 eo 2 2, .nilIface]) ∧ RowsAt w' o1 m1 c1 (v.rows.take (v.rows.length / 2)) ∧ RowsAt w' o2 m2 c2 (v.rows.drop (v.rows.length / 2)) ∧ EntsAt w' eo 2 2 [⟨v.low, left⟩, ⟨key, right⟩] ∧ Gr w w'
  | none => e = .returned (.tuple #[zRV, zRV, zRV, errV (hvV v).2]) ∧ Gr w w'
theorem hvV_size {v : Vw} {key : ByteArray} {w : World} {oa : Option Addr} {n cap : Nat} (h : RowsAt w oa n cap v.rows) (hk : (hvV v).1 = some key) : key.size ≤ maxLen := by
  unfold hvV at hk
  split at hk
  · cases hk
  · exact hvK_size hk h.keys
set_option maxRecDepth 100000 in
set_option maxHeartbeats 20000000 in
theorem grow_none (v : Vw) (left right : Int) (oa : Option Addr) (n cap : Nat) (w : World) (h : RowsAt w oa n cap v.rows) (hn : n ≤ 1000000) (hk : (hvV v).1 = none) :
    Calls Try.prog 9 #[vwV v oa n cap, .int .i64 left, .int .i64 right] w fun e w' => e = .returned (.tuple #[zRV, zRV, zRV, errV (hvV v).2]) ∧ Gr w w' := by
  have s1 := size_alloc1
  obtain ⟨W, hW⟩ : ∃ W, W = (((w.alloc (.cells (vL v oa n cap).toArray 27)).alloc (.cells zR.toArray 35)).alloc (.cells zR.toArray 35)).alloc (.cells zR.toArray 35) := ⟨_, rfl⟩
  have B0 : Bx W w.heap.size (vL v oa n cap) := by rw [hW]; exact ((((Bx.new w _ _ rfl).keep ((Gr.refl _).alloc _)).keep ((Gr.refl _).alloc _)).keep ((Gr.refl _).alloc _)).of (by simp)
  have X0 : Bx W (w.heap.size + 1) zR := by rw [hW]; exact (((Bx.new (w.alloc _) _ _ (by rw [s1])).keep ((Gr.refl _).alloc _)).keep ((Gr.refl _).alloc _)).of (by simp)
  have Y0 : Bx W (w.heap.size + 2) zR := by rw [hW]; exact ((Bx.new ((w.alloc _).alloc _) _ _ (by rw [s1, s1])).keep ((Gr.refl _).alloc _)).of (by simp)
  have Z0 : Bx W (w.heap.size + 3) zR := by rw [hW]; exact (Bx.new (((w.alloc _).alloc _).alloc _) _ _ (by rw [s1, s1, s1])).of (by simp)
  have hg0 : Gr w W := by rw [hW]; exact (((((Gr.refl _).alloc _).alloc _).alloc _).alloc _)
  have hsz : W.heap.size = w.heap.size + 4 := by rw [hW, s1, s1, s1, s1]
  have hH := halves_any v oa n cap W (h.keep hg0) hn
  unfold HalvesTells at hH
  rw [hk] at hH
  have HH := Lib.hid hH
  have hev : ∃ c : TypeId × Value, errV (hvV v).2 = .iface c.1 c.2 := ⟨(_, _), rfl⟩
  generalize errV (hvV v).2 = ev at *
  clear hH
  go_enter Try.func9, Try.ntmps9
  go_upto_region 1 with fail
  rw [← hW]
  clear hW h
  have Hsz := Lib.hid hsz
  generalize hBX : w.heap.size = BX at *
  have hsz := Hsz.out
  obtain ⟨⟨c1, c2⟩, rfl⟩ := hev
  go_wp2_with (first | ((with_reducible refine wpList_load_box (ty := 27) (B0) ?_ ?_ Try.underlying27 ?_ ?_ ?_); (focus (exact rfl)); (focus (exact ⟨_, rfl, rfl⟩)); (focus (exact rfl)); (focus kernel_rfl)) | (go_at_call 21; (with_reducible refine HH.out.mono ?_); rintro e w3 ⟨rfl, hg3⟩; have A8 : Bx ((w3.alloc (.cells zL.toArray 27)).alloc (.cells zL.toArray 27)) w3.heap.size zL := ((Bx.new w3 _ _ rfl).keep ((Gr.refl _).alloc _)).of (by simp); have A9 : Bx ((w3.alloc (.cells zL.toArray 27)).alloc (.cells zL.toArray 27)) (w3.heap.size + 1) zL := (Bx.new (w3.alloc _) _ _ (by rw [s1])).of (by simp); have hg4 : Gr W (((w3.alloc (.cells zL.toArray 27)).alloc (.cells zL.toArray 27)).setCells w3.heap.size 0 zL |>.setCells (w3.heap.size + 1) 0 zL) := (((hg3.alloc _).alloc _).setCells hg3.le _ _).setCells (by have := hg3.le; omega) _ _; have X1 := X0.keep hg4; have Y1 := Y0.keep hg4; have Z1 := Z0.keep hg4) | ((with_reducible refine wpList_store_box (ty := 27) (A8) (zL) ?_ ?_ ?_ ?_ ?_ ?_); (focus (exact rfl)); (focus (exact ⟨_, _, rfl, rfl, rfl⟩)); (focus (exact rfl)); (focus kernel_rfl); (focus kernel_rfl)) | ((with_reducible refine wpList_store_box (ty := 27) ((A9.others (by omega) _)) (zL) ?_ ?_ ?_ ?_ ?_ ?_); (focus (exact rfl)); (focus (exact ⟨_, _, rfl, rfl, rfl⟩)); (focus (exact rfl)); (focus kernel_rfl); (focus kernel_rfl)) | ((with_reducible refine wpList_store_box (ty := 35) (X1) (zR) ?_ ?_ ?_ ?_ ?_ ?_); (focus (exact rfl)); (focus (exact ⟨_, _, rfl, rfl, rfl⟩)); (focus (exact rfl)); (focus kernel_rfl); (focus kernel_rfl)) | ((with_reducible refine wpList_store_box (ty := 35) ((Y1.others (b' := BX + 1) (by omega) zR)) (zR) ?_ ?_ ?_ ?_ ?_ ?_); (focus (exact rfl)); (focus (exact ⟨_, _, rfl, rfl, rfl⟩)); (focus (exact rfl)); (focus kernel_rfl); (focus kernel_rfl)) | ((with_reducible refine wpList_store_box (ty := 35) (((Z1.others (b' := BX + 1) (by omega) zR).others (b' := BX + 2) (by omega) zR)) (zR) ?_ ?_ ?_ ?_ ?_ ?_); (focus (exact rfl)); (focus (exact ⟨_, _, rfl, rfl, rfl⟩)); (focus (exact rfl)); (focus kernel_rfl); (focus kernel_rfl)))
  have XF := ((X1.setAll (us := zR) rfl).others (b' := BX + 2) (by omega) zR).others (b' := BX + 3) (by omega) zR
  have YF := ((Y1.others (b' := BX + 1) (by omega) zR).setAll (us := zR) rfl).others (b' := BX + 3) (by omega) zR
  have ZF := ((Z1.others (b' := BX + 1) (by omega) zR).others (b' := BX + 2) (by omega) zR).setAll (us := zR) rfl
  have hgF := (((hg0.trans hg4).setCells (b := BX + 1) (by omega) zR 0).setCells (b := BX + 2) (by omega) zR 0).setCells (b := BX + 3) (by omega) zR 0
  refine bodyPost_ret (Bx.ret5 XF YF ZF rfl _ rfl rfl rfl rfl Try.underlying35 rfl (by kernel_rfl) (by kernel_rfl) (by kernel_rfl)) rfl ?_
  exact ⟨rfl, hgF⟩
set_option maxRecDepth 100000 in
set_option maxHeartbeats 20000000 in
theorem grow_some (v : Vw) (left right : Int) (oa : Option Addr) (n cap : Nat) (w : World) (h : RowsAt w oa n cap v.rows) (hn : n ≤ 1000000) (hv : VwSz v) (key : ByteArray) (hk : (hvV v).1 = some key) :
    Calls Try.prog 9 #[vwV v oa n cap, .int .i64 left, .int .i64 right] w fun e w' => ∃ o1 m1 c1 o2 m2 c2 eo, e = .returned (.tuple #[rxV (bRc (hvAr v key right)) o1 m1 c1 none 0 0, rxV (bRc (hvB v key)) o2 m2 c2 none 0 0, rxV (tRc v) none 0 0 eo 2 2, .nilIface]) ∧ RowsAt w' o1 m1 c1 (v.rows.take (v.rows.length / 2)) ∧ RowsAt w' o2 m2 c2 (v.rows.drop (v.rows.length / 2)) ∧ EntsAt w' eo 2 2 [⟨v.low, left⟩, ⟨key, right⟩] ∧ Gr w w' := by
  have s1 := size_alloc1
  obtain ⟨W, hW⟩ : ∃ W, W = (((w.alloc (.cells (vL v oa n cap).toArray 27)).alloc (.cells zR.toArray 35)).alloc (.cells zR.toArray 35)).alloc (.cells zR.toArray 35) := ⟨_, rfl⟩
  have B0 : Bx W w.heap.size (vL v oa n cap) := by rw [hW]; exact ((((Bx.new w _ _ rfl).keep ((Gr.refl _).alloc _)).keep ((Gr.refl _).alloc _)).keep ((Gr.refl _).alloc _)).of (by simp)
  have X0 : Bx W (w.heap.size + 1) zR := by rw [hW]; exact (((Bx.new (w.alloc _) _ _ (by rw [s1])).keep ((Gr.refl _).alloc _)).keep ((Gr.refl _).alloc _)).of (by simp)
  have Y0 : Bx W (w.heap.size + 1 + 1) zR := by rw [hW]; exact ((Bx.new ((w.alloc _).alloc _) _ _ (by rw [s1, s1])).keep ((Gr.refl _).alloc _)).of (by simp)
  have Z0 : Bx W (w.heap.size + 1 + 1 + 1) zR := by rw [hW]; exact (Bx.new (((w.alloc _).alloc _).alloc _) _ _ (by rw [s1, s1, s1])).of (by simp)
  have hg0 : Gr w W := by rw [hW]; exact (((((Gr.refl _).alloc _).alloc _).alloc _).alloc _)
  have hsz : W.heap.size = w.heap.size + 4 := by rw [hW, s1, s1, s1, s1]
  have hH := halves_any v oa n cap W (h.keep hg0) hn
  unfold HalvesTells at hH
  rw [hk] at hH
  have HH := Lib.hid hH
  have hks := hvV_size h hk
  have hls := hv.low
  have Hlen := Lib.hid h.len
  clear hH hk
  go_enter Try.func9, Try.ntmps9
  go_upto_region 1 with fail
  rw [← hW]
  clear hW h
  have Hsz := Lib.hid hsz
  generalize hBX : w.heap.size = BX at *
  have hsz := Hsz.out
  go_upto_region 2 with (first | ((with_reducible refine wpList_load_box (ty := 27) (B0) ?_ ?_ Try.underlying27 ?_ ?_ ?_); (focus (exact rfl)); (focus (exact ⟨_, rfl, rfl⟩)); (focus (exact rfl)); (focus kernel_rfl)) | (go_at_call 21; (with_reducible refine HH.out.mono ?_); rintro e w3 ⟨o1, m1, c1, o2, m2, c2, rfl, hO1, hO2, hg3⟩; have A8 : Bx ((w3.alloc (.cells zL.toArray 27)).alloc (.cells zL.toArray 27)) w3.heap.size zL := ((Bx.new w3 _ _ rfl).keep ((Gr.refl _).alloc _)).of (by simp); have A9 : Bx ((w3.alloc (.cells zL.toArray 27)).alloc (.cells zL.toArray 27)) (w3.heap.size + 1) zL := (Bx.new (w3.alloc _) _ _ (by rw [s1])).of (by simp)) | ((with_reducible refine wpList_store_box (ty := 27) (A8) ((vL (hvA v key) o1 m1 c1)) ?_ ?_ ?_ ?_ ?_ ?_); (focus (exact rfl)); (focus (exact ⟨_, _, rfl, rfl, rfl⟩)); (focus (exact rfl)); (focus kernel_rfl); (focus kernel_rfl)) | ((with_reducible refine wpList_store_box (ty := 27) ((A9.others (b' := w3.heap.size) (by omega) (vL (hvA v key) o1 m1 c1))) ((vL (hvB v key) o2 m2 c2)) ?_ ?_ ?_ ?_ ?_ ?_); (focus (exact rfl)); (focus (exact ⟨_, _, rfl, rfl, rfl⟩)); (focus (exact rfl)); (focus kernel_rfl); (focus kernel_rfl)))
  have hlt1 : ∀ g, Value.ownBlock (.slice o1 m1 c1) = some g → g < w3.heap.size := fun g hg => (hO1.own.lt g hg).2
  have hlt2 : ∀ g, Value.ownBlock (.slice o2 m2 c2) = some g → g < w3.heap.size := fun g hg => (hO2.own.lt g hg).2
  have A := (A8.setAll (us := vL (hvA v key) o1 m1 c1) rfl).others (b' := w3.heap.size + 1) (by omega) (vL (hvB v key) o2 m2 c2)
  have C := (A9.others (b' := w3.heap.size) (by omega) (vL (hvA v key) o1 m1 c1)).setAll (us := vL (hvB v key) o2 m2 c2) rfl
  have hg4 := (((hg3.alloc (.cells zL.toArray 27)).alloc (.cells zL.toArray 27)).setCells hg3.le (vL (hvA v key) o1 m1 c1) 0).setCells (b := w3.heap.size + 1) (by have := hg3.le; omega) (vL (hvB v key) o2 m2 c2) 0
  have hO1 := ((hO1.keep (((Gr.refl w3).alloc (.cells zL.toArray 27)).alloc (.cells zL.toArray 27))).setOther (b := w3.heap.size) (fun q => by have := hlt1 _ q; omega) (vL (hvA v key) o1 m1 c1) 0).setOther (b := w3.heap.size + 1) (fun q => by have := hlt1 _ q; omega) (vL (hvB v key) o2 m2 c2) 0
  have hO2 := ((hO2.keep (((Gr.refl w3).alloc (.cells zL.toArray 27)).alloc (.cells zL.toArray 27))).setOther (b := w3.heap.size) (fun q => by have := hlt2 _ q; omega) (vL (hvA v key) o1 m1 c1) 0).setOther (b := w3.heap.size + 1) (fun q => by have := hlt2 _ q; omega) (vL (hvB v key) o2 m2 c2) 0
  have hb11 := hg3.le
  clear A8 A9 HH hg3 s1
  generalize (((w3.alloc (.cells zL.toArray 27)).alloc (.cells zL.toArray 27)).setCells w3.heap.size 0 (vL (hvA v key) o1 m1 c1)).setCells (w3.heap.size + 1) 0 (vL (hvB v key) o2 m2 c2) = w4 at A C hg4 hO1 hO2 ⊢
  generalize w3.heap.size = b11 at *
  have a3 := A.cell 3 rfl
  have f3 := A.free 3 (by simp)
  go_upto_region 5 with fail
  have A : Bx (w4.setCell ⟨b11, 3, none⟩ (.int .i64 right)) b11 (vL (hvAr v key right) o1 m1 c1) := A.set 3 (.int .i64 right)
  have C := C.other (b' := b11) (j := 3) (by omega) (.int .i64 right)
  have hg5 := hg4.setCell (p := ⟨b11, 3, none⟩) hb11 (.int .i64 right)
  have hR1 : RowsAt (w4.setCell ⟨b11, 3, none⟩ (.int .i64 right)) o1 m1 c1 (v.rows.take (v.rows.length / 2)) := (hO1.setOther (b := b11) (fun q => by have := hlt1 _ q; omega) [.int .i64 right] 3).rows
  have hR2 : RowsAt (w4.setCell ⟨b11, 3, none⟩ (.int .i64 right)) o2 m2 c2 (v.rows.drop (v.rows.length / 2)) := (hO2.setOther (b := b11) (fun q => by have := hlt2 _ q; omega) [.int .i64 right] 3).rows
  clear a3 f3 hO1 hO2 hg4 hlt1 hlt2
  generalize w4.setCell ⟨b11, 3, none⟩ (.int .i64 right) = w5 at A C hg5 hR1 hR2 ⊢
  have B1 := B0.keep hg5
  have v0 := B1.cell 0 rfl
  have v1 := B1.cell 1 rfl
  have v2 := B1.cell 2 rfl
  have v3 := B1.cell 3 rfl
  have s1 := size_alloc1
  have E0 : Bx (w5.alloc (.cells #[.string v.low, .int .i64 left, .string key, .int .i64 right] 69)) w5.heap.size [.string v.low, .int .i64 left, .string key, .int .i64 right] := (Bx.new w5 _ _ rfl).of (by simp)
  have N0 : Bx ((w5.alloc (.cells #[.string v.low, .int .i64 left, .string key, .int .i64 right] 69)).alloc (.cells zR.toArray 35)) (w5.heap.size + 1) zR := (Bx.new (w5.alloc _) zR.toArray 35 (by rw [s1])).of (by simp)
  have hgE : Gr (w5.alloc (.cells #[.string v.low, .int .i64 left, .string key, .int .i64 right] 69)) (((w5.alloc (.cells #[.string v.low, .int .i64 left, .string key, .int .i64 right] 69)).alloc (.cells zR.toArray 35)).setCells (w5.heap.size + 1) 0 (xL (tRc v) none 0 0 (some ⟨w5.heap.size, 0, none⟩) 2 2)) := ((Gr.refl _).alloc _).setCells (by rw [s1]; omega) _ _
  have hgF : Gr w5 (((w5.alloc (.cells #[.string v.low, .int .i64 left, .string key, .int .i64 right] 69)).alloc (.cells zR.toArray 35)).setCells (w5.heap.size + 1) 0 (xL (tRc v) none 0 0 (some ⟨w5.heap.size, 0, none⟩) 2 2)) := (((Gr.refl _).alloc _).alloc _).setCells (by omega) _ _
  go_upto_region 6 with ((with_reducible refine wpList_store_box (ty := 35) (N0) ((xL (tRc v) none 0 0 (some ⟨w5.heap.size, 0, none⟩) 2 2)) ?_ ?_ ?_ ?_ ?_ ?_); (focus (exact rfl)); (focus (exact ⟨_, _, rfl, rfl, rfl⟩)); (focus (exact rfl)); (focus kernel_rfl); (focus kernel_rfl))
  have T := N0.setAll (us := xL (tRc v) none 0 0 (some ⟨w5.heap.size, 0, none⟩) 2 2) rfl
  have E1 := E0.keep hgE
  have hb8 := hg5.le
  clear N0 E0 hgE s1 v0 v1 v2 v3 B1
  generalize ((w5.alloc (.cells #[.string v.low, .int .i64 left, .string key, .int .i64 right] 69)).alloc (.cells zR.toArray 35)).setCells (w5.heap.size + 1) 0 (xL (tRc v) none 0 0 (some ⟨w5.heap.size, 0, none⟩) 2 2) = w6 at T E1 hgF ⊢
  generalize w5.heap.size = b8 at *
  have hgD := hgF.drew
  have hR1 := hR1.keep hgD
  have hR2 := hR2.keep hgD
  have hA : w6.drew.rangeAt b11 0 (vL (hvAr v key right) o1 m1 c1) := (A.keep hgD).rng
  have hC : w6.drew.rangeAt (b11 + 1) 0 (vL (hvB v key) o2 m2 c2) := (C.keep hgD).rng
  have hT : w6.drew.rangeAt (b8 + 1) 0 (xL (tRc v) none 0 0 (some ⟨b8, 0, none⟩) 2 2) := (T.keep ((Gr.refl w6).drew)).rng
  have QE := E1.keep ((Gr.refl w6).drew)
  have hg9 := hg5.trans hgD
  have hle := hg9.le
  rw [hsz] at hle
  have hm1 := hR1.len
  have hm2 := hR2.len
  rw [List.length_take, Hlen.out] at hm1
  rw [List.length_drop, Hlen.out] at hm2
  have hBA := Lib.hid (base_any (hvAr v key right) o1 m1 c1 w6.drew hR1 (by omega))
  have hBB := Lib.hid fun w1 (hq : Gr w6.drew w1) => base_any (hvB v key) o2 m2 c2 w1 (hR2.keep hq) (by omega)
  have hu := Try.underlying35
  have hi : (Try.prog.info? 35).map (·.size) = some 15 := by kernel_rfl
  have hu2 := Try.underlying27
  have hi2 : (Try.prog.info? 27).map (·.size) = some 6 := by kernel_rfl
  clear hm1 hm2 hR1 hR2 A C T E1 hgF hgD hg5 B0
  refine wp_region_held_drew (S := fun w' => w'.rangeAt b11 0 (vL (hvAr v key right) o1 m1 c1) ∧ w'.rangeAt (b11 + 1) 0 (vL (hvB v key) o2 m2 c2) ∧ w'.rangeAt (b8 + 1) 0 (xL (tRc v) none 0 0 (some ⟨b8, 0, none⟩) 2 2)) (by kernel_rfl) ⟨hA, hC, hT⟩ (fun hHeld => ?_)
  refine' wpAnyH_take (i := 0) (oi := { dst := some 47, op := .load 27 (.tmp 11), type := _, pos := _, after := _, guard := none }) (v := _) rfl (by kernel_rfl) (by kernel_rfl) (by kernel_rfl) (fun _ _ _ h => h) (yieldsIf_load_mid (by rfl) _ _ rfl _ _ rfl _ _ (fun w h => h.1) hu2 rfl hi2) hHeld ?_
  simp only [Act.put, List.setIfInBounds_toArray, List.set_cons_zero, List.set_cons_succ]
  refine' wpAnyH_take (i := 2) (oi := { dst := some 49, op := .load 27 (.tmp 12), type := _, pos := _, after := _, guard := none }) (v := _) rfl (by kernel_rfl) (by kernel_rfl) (by kernel_rfl) (fun _ _ _ h => h) (yieldsIf_load_mid (by rfl) _ _ rfl _ _ rfl _ _ (fun w h => h.2.1) hu2 rfl hi2) hHeld ?_
  simp only [Act.put, List.setIfInBounds_toArray, List.set_cons_zero, List.set_cons_succ]
  refine' wpAnyH_take (i := 4) (oi := { dst := some 51, op := .load 35 (.tmp 14), type := _, pos := _, after := _, guard := none }) (v := _) rfl (by kernel_rfl) (by kernel_rfl) (by kernel_rfl) (fun _ _ _ h => h) (yieldsIf_load_mid (by rfl) _ _ rfl _ _ rfl _ _ (fun w h => h.2.2) hu rfl hi) hHeld ?_
  simp only [Act.put, List.setIfInBounds_toArray, List.set_cons_zero, List.set_cons_succ]
  refine wpAnyH_ready (rs := [1]) (by kernel_rfl) (by simp) ?_
  refine AllReadyH.cons (o := { dst := some 48, op := .call { callee := .value (.func 15), args := #[.tmp 47], argTypes := #[27] }, type := _, pos := _, after := _, guard := none }) rfl (fun K hK => ?_) AllReadyH.nil
  go_simp
  (go_at_call 15; (with_reducible refine (hBA.out).mono ?_); rintro e w7 ⟨o5, m5, c5, rfl, hO5, hg7⟩)
  go_wp2_with fail
  refine hK.out _ _ ⟨hg7.range hHeld.1, hg7.range hHeld.2.1, hg7.range hHeld.2.2⟩ (fun hHeld => ?_)
  clear hK K hBA
  refine wpAnyH_ready (rs := [3]) (by kernel_rfl) (by simp) ?_
  refine AllReadyH.cons (o := { dst := some 50, op := .call { callee := .value (.func 15), args := #[.tmp 49], argTypes := #[27] }, type := _, pos := _, after := _, guard := none }) rfl (fun K hK => ?_) AllReadyH.nil
  go_simp
  (go_at_call 15; (with_reducible refine (hBB.out _ hg7).mono ?_); rintro e w8 ⟨o6, m6, c6, rfl, hO6, hg8⟩)
  go_wp2_with fail
  refine hK.out _ _ ⟨hg8.range hHeld.1, hg8.range hHeld.2.1, hg8.range hHeld.2.2⟩ (fun hHeld => ?_)
  clear hK K hBB
  have hO5 := hO5.keep hg8
  have hg78 := hg7.trans hg8
  have QE := QE.keep hg78
  have hg9 := hg9.trans hg78
  have QX := X0.keep hg9
  have QY := Y0.keep hg9
  have QZ := Z0.keep hg9
  have hgw := hg0.trans hg9
  have hle7 := hg7.le
  have hb5 : ∀ g, Value.ownBlock (.slice o5 m5 c5) = some g → BX + 4 ≤ g := fun g hg => Nat.le_trans hle (hO5.own.lt g hg).1
  have hb6 : ∀ g, Value.ownBlock (.slice o6 m6 c6) = some g → BX + 4 ≤ g := fun g hg => Nat.le_trans hle (Nat.le_trans hle7 (hO6.own.lt g hg).1)
  have hbE : BX + 4 ≤ b8 := by rw [← hsz]; exact hb8
  have l1 : (xL (bRc (hvAr v key right)) o5 m5 c5 none 0 0).toArray.all (·.oneCell') = true := by simp [Value.oneCell']
  have l2 : (xL (bRc (hvB v key)) o6 m6 c6 none 0 0).toArray.all (·.oneCell') = true := by simp [Value.oneCell']
  have l3 : (xL (tRc v) none 0 0 (some ⟨b8, 0, none⟩) 2 2).toArray.all (·.oneCell') = true := by simp [Value.oneCell']
  refine wpAnyH_ready (rs := [5]) (by kernel_rfl) (by simp) ?_
  refine AllReadyH.cons (o := { dst := none, op := .store 35 (.tmp 6) (.tmp 48), type := _, pos := _, after := _, guard := none }) rfl (fun K hK => ?_) AllReadyH.nil
  refine step_wanted (by rfl) ?_
  refine wp_store_mid _ _ _ rfl _ _ (xL (bRc (hvAr v key right)) o5 m5 c5 none 0 0).toArray rfl rfl QX.may hi l1 ?_
  simp only [Act.put, List.setIfInBounds_toArray, List.set_cons_zero, List.set_cons_succ, List.toList_toArray]
  refine hK.out _ _ ⟨World.rangeAt_setCells_apart hHeld.1 _ _ _ (.inl (by omega)), World.rangeAt_setCells_apart hHeld.2.1 _ _ _ (.inl (by omega)), World.rangeAt_setCells_apart hHeld.2.2 _ _ _ (.inl (by omega))⟩ (fun hHeld => ?_)
  clear hK K
  have QX := QX.setAll (us := xL (bRc (hvAr v key right)) o5 m5 c5 none 0 0) rfl
  have QY := QY.others (b' := BX + 1) (by omega) (xL (bRc (hvAr v key right)) o5 m5 c5 none 0 0)
  have QZ := QZ.others (b' := BX + 1) (by omega) (xL (bRc (hvAr v key right)) o5 m5 c5 none 0 0)
  have QE := QE.others (b' := BX + 1) (by omega) (xL (bRc (hvAr v key right)) o5 m5 c5 none 0 0)
  have hO5 := hO5.setOther (b := BX + 1) (fun q => by have := hb5 _ q; omega) (xL (bRc (hvAr v key right)) o5 m5 c5 none 0 0) 0
  have hO6 := hO6.setOther (b := BX + 1) (fun q => by have := hb6 _ q; omega) (xL (bRc (hvAr v key right)) o5 m5 c5 none 0 0) 0
  have hgw := hgw.setCells (b := BX + 1) (by omega) (xL (bRc (hvAr v key right)) o5 m5 c5 none 0 0) 0
  generalize (w8).setCells (BX + 1) 0 (xL (bRc (hvAr v key right)) o5 m5 c5 none 0 0) = wa at hHeld hgw QX QY QZ QE hO5 hO6 ⊢
  refine wpAnyH_ready (rs := [6]) (by kernel_rfl) (by simp) ?_
  refine AllReadyH.cons (o := { dst := none, op := .store 35 (.tmp 7) (.tmp 50), type := _, pos := _, after := _, guard := none }) rfl (fun K hK => ?_) AllReadyH.nil
  refine step_wanted (by rfl) ?_
  refine wp_store_mid _ _ _ rfl _ _ (xL (bRc (hvB v key)) o6 m6 c6 none 0 0).toArray rfl rfl QY.may hi l2 ?_
  simp only [Act.put, List.setIfInBounds_toArray, List.set_cons_zero, List.set_cons_succ, List.toList_toArray]
  refine hK.out _ _ ⟨World.rangeAt_setCells_apart hHeld.1 _ _ _ (.inl (by omega)), World.rangeAt_setCells_apart hHeld.2.1 _ _ _ (.inl (by omega)), World.rangeAt_setCells_apart hHeld.2.2 _ _ _ (.inl (by omega))⟩ (fun hHeld => ?_)
  clear hK K
  have QX := QX.others (b' := BX + 1 + 1) (by omega) (xL (bRc (hvB v key)) o6 m6 c6 none 0 0)
  have QY := QY.setAll (us := xL (bRc (hvB v key)) o6 m6 c6 none 0 0) rfl
  have QZ := QZ.others (b' := BX + 1 + 1) (by omega) (xL (bRc (hvB v key)) o6 m6 c6 none 0 0)
  have QE := QE.others (b' := BX + 1 + 1) (by omega) (xL (bRc (hvB v key)) o6 m6 c6 none 0 0)
  have hO5 := hO5.setOther (b := BX + 1 + 1) (fun q => by have := hb5 _ q; omega) (xL (bRc (hvB v key)) o6 m6 c6 none 0 0) 0
  have hO6 := hO6.setOther (b := BX + 1 + 1) (fun q => by have := hb6 _ q; omega) (xL (bRc (hvB v key)) o6 m6 c6 none 0 0) 0
  have hgw := hgw.setCells (b := BX + 1 + 1) (by omega) (xL (bRc (hvB v key)) o6 m6 c6 none 0 0) 0
  generalize (wa).setCells (BX + 1 + 1) 0 (xL (bRc (hvB v key)) o6 m6 c6 none 0 0) = wb at hHeld hgw QX QY QZ QE hO5 hO6 ⊢
  refine wpAnyH_ready (rs := [7]) (by kernel_rfl) (by simp) ?_
  refine AllReadyH.cons (o := { dst := none, op := .store 35 (.tmp 8) (.tmp 51), type := _, pos := _, after := _, guard := none }) rfl (fun K hK => ?_) AllReadyH.nil
  refine step_wanted (by rfl) ?_
  refine wp_store_mid _ _ _ rfl _ _ (xL (tRc v) none 0 0 (some ⟨b8, 0, none⟩) 2 2).toArray rfl rfl QZ.may hi l3 ?_
  simp only [Act.put, List.setIfInBounds_toArray, List.set_cons_zero, List.set_cons_succ, List.toList_toArray]
  refine hK.out _ _ ⟨World.rangeAt_setCells_apart hHeld.1 _ _ _ (.inl (by omega)), World.rangeAt_setCells_apart hHeld.2.1 _ _ _ (.inl (by omega)), World.rangeAt_setCells_apart hHeld.2.2 _ _ _ (.inl (by omega))⟩ (fun hHeld => ?_)
  clear hK K
  have QX := QX.others (b' := BX + 1 + 1 + 1) (by omega) (xL (tRc v) none 0 0 (some ⟨b8, 0, none⟩) 2 2)
  have QY := QY.others (b' := BX + 1 + 1 + 1) (by omega) (xL (tRc v) none 0 0 (some ⟨b8, 0, none⟩) 2 2)
  have QZ := QZ.setAll (us := xL (tRc v) none 0 0 (some ⟨b8, 0, none⟩) 2 2) rfl
  have QE := QE.others (b' := BX + 1 + 1 + 1) (by omega) (xL (tRc v) none 0 0 (some ⟨b8, 0, none⟩) 2 2)
  have hO5 := hO5.setOther (b := BX + 1 + 1 + 1) (fun q => by have := hb5 _ q; omega) (xL (tRc v) none 0 0 (some ⟨b8, 0, none⟩) 2 2) 0
  have hO6 := hO6.setOther (b := BX + 1 + 1 + 1) (fun q => by have := hb6 _ q; omega) (xL (tRc v) none 0 0 (some ⟨b8, 0, none⟩) 2 2) 0
  have hgw := hgw.setCells (b := BX + 1 + 1 + 1) (by omega) (xL (tRc v) none 0 0 (some ⟨b8, 0, none⟩) 2 2) 0
  generalize (wb).setCells (BX + 1 + 1 + 1) 0 (xL (tRc v) none 0 0 (some ⟨b8, 0, none⟩) 2 2) = wd at hHeld hgw QX QY QZ QE hO5 hO6 ⊢
  refine wpAnyH_ready (rs := [8]) (by kernel_rfl) (by simp) ?_
  refine AllReadyH.cons rfl (fun K hK => ?_) AllReadyH.nil
  go_simp
  refine hK.out _ _ hHeld (fun hHeld => ?_)
  clear hK K
  refine wpAnyH_done (by kernel_rfl) ?_ _
  go_wp2_with fail
  refine bodyPost_ret (Bx.ret5 (y := .nilIface) QX QY QZ rfl _ rfl rfl rfl rfl Try.underlying35 rfl (by kernel_rfl) (by kernel_rfl) (by kernel_rfl)) rfl ?_
  exact ⟨o5, m5, c5, o6, m6, c6, some ⟨b8, 0, none⟩, rfl, hO5.rows, hO6.rows, ents_two QE hls hks, hgw⟩
theorem grow_any (v : Vw) (left right : Int) (oa : Option Addr) (n cap : Nat) (w : World) (h : RowsAt w oa n cap v.rows) (hn : n ≤ 1000000) (hv : VwSz v) :
    Calls Try.prog 9 #[vwV v oa n cap, .int .i64 left, .int .i64 right] w (GrowTells w v left right) := by
  unfold GrowTells
  cases hk : (hvV v).1 with
  | none => exact (grow_none v left right oa n cap w h hn hk).mono fun e w' q => q
  | some key => exact (grow_some v left right oa n cap w h hn hv key hk).mono fun e w' q => q
end Go.Proofs.Ytidfelbaegaphaa
