import Derived.Test.YtkngjnkecmjakaaDoorOo
import Derived.Test.YtkngjnkecmjakaaDoorAk
import Derived.Test.YtkngjnkecmjakaaDoorF19
namespace Go.Proofs.YtkngjnkecmjakaaDoor
set_option linter.unusedVariables false
set_option linter.unusedSimpArgs false
open Go.BigFrame Go.RowKit Go.WideShapes

/-- append(own, any numbers) -/
theorem wp_is {w : World} {o : Oper} {a : Act} {K : Act → World → Prop} {Q : Exit → Act → World → Prop} (s x : Operand)
    (ho : o.op = .call { callee := .builtin .append, args := #[s, x], argTypes := #[27, 27] })
    (base : Nat) (hbase : base ≤ w.heap.size) {oa : Option Addr} {n cap : Nat} {l : List Nat} (hs : a.eval s = .slice oa n cap) (hown : w.ownsRow base 3 1 (.slice oa n cap) n (intsV l))
    {ob : Option Addr} {m cap2 : Nat} {k : List Nat} (hx : a.eval x = .slice ob m cap2) (hk : IntsAt w ob m cap2 k) (hsz : n + m ≤ 1099511627776)
    (h : ∀ v' w', w'.ownsRow base 3 1 v' (n + m) (intsV (l ++ k)) → w.grownBy w' (Value.ownBlock (.slice oa n cap)) → K (a.put o.dst v') w') : Oper.wp Tryd.prog o a w K Q := by
  obtain ⟨i, hi, hz, hsi, hby⟩ := info_parts int_info
  obtain ⟨b, off, hb, hc⟩ := hk.cells
  have hkl : (intsV k).length = m := by rw [intsV, List.length_map, hk.len]
  have main : ∀ ad, ob = some ad → (∀ j u, (intsV k)[j]? = some u → w.cell? (ad.add j) = some u) → Oper.wp Tryd.prog o a w K Q := by
    rintro ad rfl hnews
    refine wp_append_own w s x 27 ho base 3 i _ 1 8 Tryd.underlying27 hi hz hsi hby rfl (by decide) _ n (intsV l) hs hown ad m cap2 (intsV k) hx (by rw [hkl, Nat.mul_one]) hnews (by intro u hu; obtain ⟨q, -, rfl⟩ := List.mem_map.1 hu; rfl)
      (by unfold maxLen; omega) (by omega) hbase ?_
    intro v' w' hown' hg _
    rw [show intsV l ++ intsV k = intsV (l ++ k) by simp [intsV]] at hown'
    exact h v' w' hown' hg
  cases hob : ob with
  | none =>
    subst hob
    have hcap2 := hk.none rfl
    have hm : m = 0 := by have := hk.cap_le; omega
    subst hm
    subst hcap2
    have hk0 : k = [] := List.length_eq_zero_iff.1 hk.len
    subst hk0
    have hrun := run_append_owned_none (P := Tryd.prog) (w := w) base 27 o.type 3 i 1 Tryd.underlying27 hi _ n (intsV l) hown
    have := h (.slice oa n cap) w (by simpa using hown) ⟨rfl, rfl, rfl, Nat.le_refl _, fun _ _ _ => rfl⟩
    unfold Oper.wp
    have t : K (a.put o.dst (.slice oa n cap)) w := by simpa using this
    simp [execOp, ho, resolve, invoke, builtin, hs, hx, hrun, Result.andThen]
    exact t
  | some ad =>
    rcases Nat.eq_zero_or_pos m with hm | hm
    · have hk0 : k = [] := List.length_eq_zero_iff.1 (by rw [hk.len, hm])
      exact main ad hob (fun j u hj => by rw [hk0] at hj; simp [intsV] at hj)
    · have e := (hb hm).1
      rw [hob] at e
      obtain rfl : ad = ⟨b, off, none⟩ := by simpa using e
      refine main _ hob fun j u hj => ?_
      have hj2 : j < m := by
        rcases Nat.lt_or_ge j (intsV k).length with q | q
        · omega
        · rw [List.getElem?_eq_none q] at hj; cases hj
      have ha : (⟨b, off, none⟩ : Addr).add j = ⟨b, off + j, none⟩ := by unfold Addr.add; split <;> simp_all
      rw [ha, hc j hj2, ← hj]
      rw [intsV, List.getElem?_map, List.getElem?_eq_getElem (by rw [hk.len]; exact hj2)]
      rw [natAt_lt (by rw [hk.len]; exact hj2)]
      rfl
theorem wpList_is {w : World} {ops : Array Oper} {rest : List Oper} {o : Oper} {a : Act} {Q : Exit → Act → World → Prop} (hgd : o.guard = none) (s x : Operand)
    (ho : o.op = .call { callee := .builtin .append, args := #[s, x], argTypes := #[27, 27] })
    (base : Nat) (hbase : base ≤ w.heap.size) {oa : Option Addr} {n cap : Nat} {l : List Nat} (hs : a.eval s = .slice oa n cap) (hown : w.ownsRow base 3 1 (.slice oa n cap) n (intsV l))
    {ob : Option Addr} {m cap2 : Nat} {k : List Nat} (hx : a.eval x = .slice ob m cap2) (hk : IntsAt w ob m cap2 k) (hsz : n + m ≤ 1099511627776)
    (h : ∀ v' w', w'.ownsRow base 3 1 v' (n + m) (intsV (l ++ k)) → w.grownBy w' (Value.ownBlock (.slice oa n cap)) → wpList Tryd.prog ops Q rest (a.put o.dst v') w') : wpList Tryd.prog ops Q (o :: rest) a w :=
  wpList_plain hgd fun _ hK => wp_is s x ho base hbase hs hown hx hk hsz fun v' w' h1 h2 => hK _ _ (h v' w' h1 h2)
theorem is_empty {w : World} {b base : Nat} (hb : b = w.heap.size) (h : base ≤ b) : (w.alloc (.cells #[] 3)).ownsRow base 3 1 (.slice (some ⟨b, 0, none⟩) 0 0) 0 (intsV []) := by
  subst hb
  exact ⟨rfl, .inr ⟨w.heap.size, 0, #[], rfl, h, (by show (w.heap.push (.cells #[] 3))[w.heap.size]? = _; simp), Nat.le_refl _, Nat.zero_le _, rfl, rfl⟩⟩
theorem is_gr {w0 w w' : World} {base : Nat} {v : Value} {n : Nat} {l : List Nat} (hg : w.grownBy w' (Value.ownBlock v)) (hown : w.ownsRow base 3 1 v n (intsV l)) (hw : Gr w0 w) (hb : w0.heap.size ≤ base) : Gr w0 w' :=
  Below.grown hw hg hw.le (fun q hq => Nat.le_trans hb (hown.lt q hq).1)
theorem is_keep {w w' : World} {base n : Nat} {v : Value} {l : List Nat} (h : w.ownsRow base 3 1 v n (intsV l)) (hg : Gr w w') : w'.ownsRow base 3 1 v n (intsV l) := by
  refine ⟨h.1, ?_⟩
  rcases h.2 with ⟨e, hn⟩ | ⟨g, cap, cur, e, hb, hcur, rest⟩
  · exact .inl ⟨e, hn⟩
  · exact .inr ⟨g, cap, cur, e, hb, blk_keep hg hcur, rest⟩
theorem int_one {w : World} {b cap : Nat} {k : Nat} (hc : 1 ≤ cap) (hm : cap ≤ maxLen) (h0 : w.cell? ⟨b, 0, none⟩ = some (.int .i64 (k : Int))) : IntsAt w (some ⟨b, 0, none⟩) 1 cap [k] := by
  have hb : b < w.heap.size := by
    rcases Nat.lt_or_ge b w.heap.size with q | q
    · exact q
    · unfold World.cell? at h0
      rw [show w.heap[b]? = none from Array.getElem?_eq_none q] at h0
      simp at h0
  refine ⟨rfl, hc, hm, fun q => (by cases q), ⟨b, 0, fun _ => ⟨rfl, hb⟩, fun i hi => ?_⟩⟩
  obtain rfl : i = 0 := by omega
  exact h0

/-- what the document's search tells -/
def OrdPost (w : World) (res : Option (List Nat)) (e : Ending) (w' : World) : Prop :=
  match res with
  | some r => ∃ oi ni ci, e = .returned (.tuple #[.slice oi ni ci, .bool true]) ∧ IntsAt w' oi ni ci r ∧ Gr w w'
  | none => e = .returned (.tuple #[.slice none 0 0, .bool false]) ∧ Gr w w'
def OrdAt (w0 : World) (ol : Option Addr) (nl cl : Nat) (l : List Ev) (o : Option Addr) (n c : Nat) (rows : List Rw) (f : Nat) : Prop :=
  ∀ (w : World) (od : Option Addr) (nd cd : Nat) (done : List Nat) (u : List Bool), Gr w0 w → IntsAt w od nd cd done → u.length = nl → (∀ i, i < nl → (usedAt u i = true ↔ i ∈ done)) → u.count false ≤ f → nd + f ≤ 1000 → (∃ now, goodGo l [] done rows = some now) →
    Calls Tryd.prog 20 #[.slice ol nl cl, .slice od nd cd, .slice o n c] w (OrdPost w (orderF l rows f done))

set_option maxRecDepth 100000 in
set_option maxHeartbeats 8000000 in
theorem refOrder_step {w0 : World} {ol : Option Addr} {nl cl : Nat} {l : List Ev} {o : Option Addr} {n c : Nat} {rows : List Rw} (hE : EvsAt w0 ol nl cl l) (hR : RowsAt w0 o n c rows) (hn : n ≤ 1000) (hnl : nl ≤ 100) (hok : ∀ i, i < nl → evOk (evAt l i) = true) {f : Nat} (ih : ∀ f', f = f' + 1 → OrdAt w0 ol nl cl l o n c rows f') : OrdAt w0 ol nl cl l o n c rows f := by
  intro w od nd cd done u hg hI hu hlink hcnt hnd hnow
  have hG1 := good_any ol nl cl l od nd cd done o n c rows true w (hE.keep hg) hI (hR.keep hg) hn (by omega) hok
  have hlen := hE.len
  cases hw : goodF l done rows true with
  | some r =>
    rw [hw] at hG1
    have hG1 := Lib.hid hG1
    have hres : orderF l rows f done = some done := by
      cases f <;> (unfold orderF; rw [hw]; rfl)
    have Hres := Lib.hid hres
    have HI := Lib.hid hI
    clear hI hres hw ih
    go_enter Tryd.func20, Tryd.ntmps20
    go_wp2_with fail
    refine hG1.out.mono ?_
    rintro e w1 ⟨o1, q1, c1, rfl, hr1, hg1⟩
    go_wp2_with fail
    go_ret2
    rw [Hres.out]
    exact ⟨od, nd, cd, rfl, HI.out.keep hg1, hg1⟩
  | none =>
    cases f with
    | zero =>
      exfalso
      obtain ⟨now, hnow⟩ := hnow
      unfold goodF at hw
      rw [hnow] at hw
      have e : allIn l done = true := by
        unfold allIn
        rw [decide_eq_true_iff]
        intro i hi
        exact .inl ((hlink i (by omega)).1 (left_none u i (by omega) (by omega)))
      rw [e] at hw
      simp at hw
    | succ f =>
      have IH := Lib.hid (ih f rfl)
      rw [hw] at hG1
      have hG1 := Lib.hid hG1
      generalize hC : (fun i => if (goodF l (done ++ [i]) rows false).isSome = true then orderF l rows f (done ++ [i]) else none) = C
      have hres : orderF l rows (f + 1) done = tryFrom C l.length 0 := by
        unfold orderF
        rw [hw, ← hC]; rfl
      have Hres := Lib.hid hres
      have HC := Lib.hid hC
      have HI := Lib.hid hI
      have HE := Lib.hid hE
      have HR := Lib.hid hR
      have Hlink := Lib.hid hlink
      have Hok := Lib.hid hok
      have Hnow := Lib.hid hnow
      have hdl := hI.len
      have hm1 := hE.cap_max
      have hn1 := hE.cap_le
      unfold maxLen at hm1
      clear hI hres hw ih hE hR hC hlink hok hnow
      go_enter Tryd.func20, Tryd.ntmps20
      go_wp2_with fail
      refine hG1.out.mono ?_
      rintro e w1 ⟨rfl, hg1⟩
      clear hG1
      go_wp2_with fail
      go_loopw [10] (fun v wr => ∃ k : Nat, k ≤ nl ∧ v = .int .i64 k ∧ Hid (tryFrom C l.length 0 = tryFrom C (l.length - k) k) ∧ Gr w wr) (fun v _ => nl - (intOf v).toNat)
      case atStart => exact ⟨0, Nat.zero_le _, rfl, Lib.hid rfl, hg1⟩
      case round =>
        obtain ⟨k, hk, rfl, hT, hgr⟩ := hrel
        by_cases hlt : k < nl
        · have hT1 : tryFrom C l.length 0 = tryFrom C ((l.length - (k + 1)) + 1) k := by rw [hT.out]; congr 1; omega
          have HT1 := Lib.hid hT1
          have hOX := Lib.hid (is_empty (w := wr) rfl (Nat.le_refl wr.heap.size))
          have hin := Lib.hid (HI.out.keep (hgr.alloc (.cells #[] 3)))
          clear hT1 hT
          go_wp2_with (first | (at_builtin; refine wpList_is rfl _ _ rfl wr.heap.size (Gr.le (by repeat (first | with_reducible exact Gr.refl _ | with_reducible refine Gr.drewN ?_ _ | with_reducible refine Gr.drew ?_ | with_reducible refine Gr.alloc ?_ _ | with_reducible refine Gr.setCell ?_ ?_ _ | (with_reducible refine Gr.trans ?_ (by assumption)) | omega | (dsimp only; omega)))) rfl hOX.out rfl hin.out (by omega) ?_; intro vE wE hoE hgE; rw [Nat.zero_add, List.nil_append] at hoE; obtain ⟨oE, cE, rfl⟩ := own_slice hoE; have hgE2 : Gr wr wE := is_gr hgE hOX.out ((Gr.refl wr).alloc _) (Nat.le_refl _); have hOEn := Lib.hid (is_keep hoE ((Gr.refl wE).alloc (.cells #[.int .i64 (k : Int)] 3))); have hone := Lib.hid (int_one (w := wE.alloc (.cells #[.int .i64 (k : Int)] 3)) (b := wE.heap.size) (cap := 1) (k := k) (Nat.le_refl _) (by unfold maxLen; omega) (World.cell?_alloc_new wE _ _ 0)); clear hoE hgE) | (at_builtin; refine wpList_is rfl _ _ rfl wr.heap.size (Nat.le_trans hgE2.le (Gr.le (by repeat (first | with_reducible exact Gr.refl _ | with_reducible refine Gr.drewN ?_ _ | with_reducible refine Gr.drew ?_ | with_reducible refine Gr.alloc ?_ _ | with_reducible refine Gr.setCell ?_ ?_ _ | (with_reducible refine Gr.trans ?_ (by assumption)) | omega | (dsimp only; omega))))) rfl hOEn.out rfl hone.out (by omega) ?_; intro vF wF hoF hgF; obtain ⟨oF, cF, rfl⟩ := own_slice hoF; have hgF2 : Gr wr wF := is_gr hgF hOEn.out (hgE2.alloc _) (Nat.le_refl _); have hOFn := Lib.hid hoF; clear hoF hgF))
          have hl2 : (done ++ [k]).length = nd + 1 := by rw [List.length_append, hdl]; rfl
          have hIF : IntsAt wF oF (nd + 1) cF (done ++ [k]) := by
            have h := hOFn.out
            rw [← hl2] at h
            obtain ⟨oa, cap, e, hI⟩ := ints_of_own h
            simp only [Value.slice.injEq] at e
            obtain ⟨rfl, -, rfl⟩ := e
            rwa [hl2] at hI
          have HIF := Lib.hid hIF
          have hgw := hgr.trans hgF2
          have hCk : C k = if (goodF l (done ++ [k]) rows false).isSome = true then orderF l rows f (done ++ [k]) else none := by rw [← HC.out]
          have hG2 := good_any ol nl cl l oF (nd + 1) cF (done ++ [k]) o n c rows false wF (HE.out.keep (hg.trans hgw)) hIF (HR.out.keep (hg.trans hgw)) hn (by omega) Hok.out
          clear hOX hin hgE2 hOEn hone hOFn hgF2 hIF
          cases hgd : goodF l (done ++ [k]) rows false with
          | none =>
            rw [hgd] at hG2 hCk
            have hG2 := Lib.hid hG2
            have hTn := Lib.hid (HT1.out.trans (tryFrom_none (show C k = none from hCk)))
            clear hgd hCk
            go_wp2_with fail
            refine hG2.out.mono ?_
            rintro e w2 ⟨rfl, hg2⟩
            go_wp2_with fail
            go_roundw
            case rel => exact ⟨k + 1, by omega, by go_num, hTn, hgw.trans hg2⟩
            case measure => simp [intOf]; omega
          | some now2 =>
            rw [hgd] at hG2 hCk
            have hG2 := Lib.hid hG2
            have hCk2 : C k = orderF l rows f (done ++ [k]) := hCk
            have HCk := Lib.hid hCk2
            obtain ⟨now, hnow⟩ := Hnow.out
            rw [goodF_next hnow] at hgd
            have hgok : goodOk l done k = true := by
              rcases Bool.eq_false_or_eq_true (goodOk l done k) with r | r
              · exact r
              · rw [r] at hgd; cases hgd
            rw [hgok, if_pos rfl] at hgd
            have hnow2 : goodGo l [] (done ++ [k]) rows = some now2 := by
              rw [goodGo_append, hnow]
              show goodGo l ([] ++ done) [k] now = some now2
              rw [List.nil_append, goodGo_one, if_pos hgok, hgd]
            have hkd : k ∉ done := by
              unfold goodOk at hgok
              simp only [Bool.and_eq_true, Bool.not_eq_true', decide_eq_false_iff_not] at hgok
              exact hgok.1.2
            have huk : usedAt u k = false := by
              rcases Bool.eq_false_or_eq_true (usedAt u k) with r | r
              · exact absurd ((Hlink.out k hlt).1 r) hkd
              · exact r
            have hls := left_set u k (by omega) huk
            have hlink2 : ∀ i, i < nl → (usedAt (u.set k true) i = true ↔ i ∈ done ++ [k]) := fun i hi => by
              rw [used_set (by omega)]
              simp only [Bool.or_eq_true, decide_eq_true_iff, List.mem_append, List.mem_singleton]
              rw [Hlink.out i hi]
              exact ⟨fun q => q.symm, fun q => q.symm⟩
            have HRc := Lib.hid (fun w2 (hq : Gr wF w2) => IH.out w2 oF (nd + 1) cF (done ++ [k]) (u.set k true) (hg.trans (hgw.trans hq)) (HIF.out.keep hq) (by rw [List.length_set]; exact hu) hlink2 (by omega) (by omega) ⟨now2, hnow2⟩)
            clear hgd hnow hgok hnow2 hkd huk hls hlink2 hCk hCk2
            go_wp2_with fail
            refine hG2.out.mono ?_
            rintro e w2 ⟨o2, q2, c2, rfl, hr2, hg2⟩
            have HR2 := Lib.hid (HRc.out w2 hg2)
            clear hr2 HRc hG2
            cases hor : orderF l rows f (done ++ [k]) with
            | none =>
              rw [hor] at HR2
              have hTn := Lib.hid (HT1.out.trans (tryFrom_none (HCk.out.trans hor)))
              clear hor
              go_wp2_with fail
              refine HR2.out.mono ?_
              rintro e w3 ⟨rfl, hg3⟩
              go_wp2_with fail
              go_roundw
              case rel => exact ⟨k + 1, by omega, by go_num, hTn, hgw.trans (hg2.trans hg3)⟩
              case measure => simp [intOf]; omega
            | some r =>
              rw [hor] at HR2
              have hTs := Lib.hid (HT1.out.trans (tryFrom_some (HCk.out.trans hor)))
              clear hor
              go_wp2_with fail
              refine HR2.out.mono ?_
              rintro e w3 ⟨o3, q3, c3, rfl, hI3, hg3⟩
              have HI3 := Lib.hid hI3
              clear hI3
              go_wp2_with fail
              go_ret2
              rw [Hres.out, hTs.out]
              exact ⟨o3, q3, c3, rfl, HI3.out, hgw.trans (hg2.trans hg3)⟩
        · obtain rfl : k = nl := by omega
          have hfin : tryFrom C l.length 0 = none := by rw [hT.out, show l.length - k = 0 by omega]; rfl
          have Hfin := Lib.hid hfin
          clear hfin hT
          go_wp2_with fail
          go_ret2
          rw [Hres.out, Hfin.out]
          exact ⟨rfl, hgr⟩
theorem refOrder_any {w0 : World} {ol : Option Addr} {nl cl : Nat} {l : List Ev} {o : Option Addr} {n c : Nat} {rows : List Rw} (hE : EvsAt w0 ol nl cl l) (hR : RowsAt w0 o n c rows) (hn : n ≤ 1000) (hnl : nl ≤ 100) (hok : ∀ i, i < nl → evOk (evAt l i) = true) : ∀ f, OrdAt w0 ol nl cl l o n c rows f := by
  intro f
  induction f with
  | zero => exact refOrder_step hE hR hn hnl hok (fun f' q => by cases q)
  | succ f ih => exact refOrder_step hE hR hn hnl hok (fun f' q => by obtain rfl : f = f' := by omega
                                                                      exact ih)
end Go.Proofs.YtkngjnkecmjakaaDoor
