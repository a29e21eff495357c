import Derived.Test.YtkngjnkecmjakaaDoorSf
namespace Go.Proofs.YtkngjnkecmjakaaDoor
set_option linter.unusedVariables false
set_option linter.unusedSimpArgs false
open Go.BigFrame Go.RowKit Go.WideShapes

theorem left_set : ∀ (u : List Bool) (i : Nat), i < u.length → usedAt u i = false → (u.set i true).count false + 1 = u.count false
  | [], i, h, _ => by simp at h
  | b :: u, 0, _, h => by
    have hb : b = false := h
    subst hb
    simp
  | b :: u, i + 1, h, hu => by
    have ih := left_set u i (by simpa using h) hu
    rw [List.set_cons_succ, List.count_cons, List.count_cons]
    omega
theorem left_none : ∀ (u : List Bool) (i : Nat), i < u.length → u.count false = 0 → usedAt u i = true
  | [], i, h, _ => by simp at h
  | b :: u, 0, _, h => by
    cases b
    · simp at h
    · rfl
  | b :: u, i + 1, h, hu => by
    rw [List.count_cons] at hu
    exact left_none u i (by simpa using h) (by omega)
theorem applyH_length (kind : Int) (key val : ByteArray) (l : List Rw) : (applyH kind key val l).1.length ≤ l.length + 1 := by
  have hd : (dropL l key).length ≤ l.length := by
    unfold dropL; split
    · rw [List.length_append, List.length_take, List.length_drop]; omega
    · omega
  have hp : (putL l ⟨key, val⟩).length ≤ l.length + 1 := by
    have := place_le key l
    unfold putL; simp only [List.length_append, List.length_take, List.length_drop, List.length_singleton]; split <;> omega
  unfold applyH applyL
  split
  · split
    · exact Nat.le_succ _
    · split
      · exact Nat.le_succ _
      · split
        · exact Nat.le_succ _
        · split
          · exact Nat.le_succ_of_le hd
          · exact hp
  · exact Nat.le_succ _

theorem wpList_i1 {w : World} {ops : Array Oper} {rest : List Oper} {o : Oper} {a : Act} {Q : Exit → Act → World → Prop} (hgd : o.guard = none) (s x : Operand)
    (ho : o.op = .call { callee := .builtin .append, args := #[s, x], argTypes := #[27, 27] })
    (base : Nat) (hbase : base ≤ w.heap.size) {v : Value} {n : Nat} {l : List Nat} (hs : a.eval s = v) (hown : w.ownsRow base 3 1 v n (intsV l))
    {b cap2 : Nat} {k : Nat} (hx : a.eval x = .slice (some ⟨b, 0, none⟩) 1 cap2) (hc : w.cell? ⟨b, 0, none⟩ = some (.int .i64 (k : Int))) (hsz : n + 1 ≤ 1099511627776)
    (h : ∀ v' w', w'.ownsRow base 3 1 v' (n + 1) (intsV (l ++ [k])) → w.grownBy w' (Value.ownBlock v) → wpList Tryd.prog ops Q rest (a.put o.dst v') w') : wpList Tryd.prog ops Q (o :: rest) a w :=
  wpList_plain hgd fun _ hK => wp_i1 s x ho base hbase hs hown hx hc hsz fun v' w' h1 h2 => hK _ _ (h v' w' h1 h2)
theorem own_slice {w : World} {base n : Nat} {v : Value} {xs : List Value} (h : w.ownsRow base 3 1 v n xs) : ∃ og oc, v = .slice og n oc := by
  rcases h.2 with ⟨e, hn⟩ | ⟨g, cap, cur, e, rest⟩
  · exact ⟨none, 0, by rw [e, hn]⟩
  · exact ⟨_, _, e⟩
theorem own_trunc {w : World} {base n : Nat} {v : Value} {l : List Nat} {k : Nat} (h : w.ownsRow base 3 1 v (n + 1) (intsV (l ++ [k]))) (hl : l.length = n) :
    ∃ g cap, v = .slice (some ⟨g, 0, none⟩) (n + 1) cap ∧ n + 1 ≤ cap ∧ cap ≤ maxLen ∧ w.ownsRow base 3 1 (.slice (some ⟨g, 0, none⟩) n cap) n (intsV l) := by
  obtain ⟨h1, h2⟩ := h
  rcases h2 with ⟨e, hn⟩ | ⟨g, cap, cur, e, hb, hcur, hnc, hm, hsz, ht⟩
  · omega
  · refine ⟨g, cap, e, hnc, hm, by simp [intsV, hl], .inr ⟨g, cap, cur, rfl, hb, hcur, by omega, hm, hsz, ?_⟩⟩
    have := congrArg (List.take n) ht
    rw [List.take_take] at this
    rw [Nat.mul_one] at this ⊢
    rw [Nat.min_eq_left (by omega)] at this
    rw [this]
    simp [intsV, ← hl]
theorem run_cut (oa : Option Addr) (n cap k : Nat) (h : k ≤ cap) (w : World) :
    (Instr.sliceAt 27 (.slice oa n cap) none (some (.int .i64 (k : Int))) none).run Tryd.prog w = .ok (.slice oa k cap) w := by
  have e : (if cap = 0 then oa else Option.map (fun x => x.add 0) oa) = oa := by
    split
    · rfl
    · cases oa with
      | none => rfl
      | some a => simp [Addr.add]
  have hc : Tryd.prog.cellsOf 3 = 1 := by kernel_rfl
  go_simp
theorem set_back : ∀ (u : List Bool) (i : Nat), usedAt u i = false → i < u.length → (u.set i true).set i false = u
  | [], i, _, h => by simp at h
  | b :: u, 0, h, _ => by
    have hb : b = false := h
    subst hb; rfl
  | b :: u, i + 1, h, hl => by
    rw [List.set_cons_succ, List.set_cons_succ, set_back u i h (by simpa using hl)]
theorem tryFrom_none {β : Type} {c : Nat → Option β} {m k : Nat} (h : c k = none) : tryFrom c (m + 1) k = tryFrom c m (k + 1) := by
  show (match c k with | some r => some r | none => tryFrom c m (k + 1)) = _
  rw [h]
theorem tryFrom_some {β : Type} {c : Nat → Option β} {m k : Nat} {r : β} (h : c k = some r) : tryFrom c (m + 1) k = some r := by
  show (match c k with | some r => some r | none => tryFrom c m (k + 1)) = _
  rw [h]

/-- what a search tells -/
def FindPost (w0 w : World) (B U : Nat) (lv : Value) (u : List Bool) (order : List Nat) (rv : Value) (res : Option (List Nat × List Rw)) (e : Ending) (w' : World) : Prop :=
  match res with
  | some r => e = .returned (.bool true) ∧ (∃ u' ov' o1 q1 c1, Sr w' w0.heap.size B U lv u' ov' r.1 (.slice o1 q1 c1) ∧ OwnAt w' w0.heap.size o1 q1 c1 r.2) ∧ Gr w0 w' ∧ Fr w w'
  | none => e = .returned (.bool false) ∧ (∃ ov', Sr w' w0.heap.size B U lv u ov' order rv) ∧ Gr w0 w' ∧ Fr w w'

/-- the search at a depth, for all searches -/
def FindAt (w0 : World) (ol : Option Addr) (nl cl : Nat) (l : List Ev) (f : Nat) : Prop :=
  ∀ (w : World) (B U : Nat) (u : List Bool) (ov : Value) (order : List Nat) (rv : Value) (o : Option Addr) (q c : Nat) (now : List Rw), Sr w w0.heap.size B U (.slice ol nl cl) u ov order rv → OwnAt w w0.heap.size o q c now → Gr w0 w → u.length = nl → u.count false ≤ f →
    q + f ≤ 2000 → order.length + f ≤ 2000 → Calls Tryd.prog 18 #[.pointer (some ⟨B, 0, none⟩), .slice o q c] w (FindPost w0 w B U (.slice ol nl cl) u order rv (findF l f u order now))

set_option maxRecDepth 100000 in
set_option maxHeartbeats 8000000 in
theorem find_whole {w0 : World} {ol : Option Addr} {nl cl : Nat} {l : List Ev} (hE : EvsAt w0 ol nl cl l) {f : Nat} {w : World} {B U : Nat} {u : List Bool} {ov : Value} {order : List Nat} {rv : Value} {o : Option Addr} {q c : Nat} {now : List Rw} (hS : Sr w w0.heap.size B U (.slice ol nl cl) u ov order rv)
    (hO : OwnAt w w0.heap.size o q c now) (hg : Gr w0 w) (hu : u.length = nl) (hw : wholeB l u = true) :
    Calls Tryd.prog 18 #[.pointer (some ⟨B, 0, none⟩), .slice o q c] w (FindPost w0 w B U (.slice ol nl cl) u order rv (some (order, now))) := by
  have hW := whole_any hS (hE.keep hg) hu
  rw [hw] at hW
  have hW := Lib.hid hW
  have HS := Lib.hid hS
  have HO := Lib.hid hO
  clear hS hO
  go_enter Tryd.func18, Tryd.ntmps18
  go_wp2_with fail
  go_step3
  go_wp2_with fail
  refine hW.out.mono ?_
  rintro e w1 ⟨rfl, hg1⟩
  have S1 := HS.out.keep hg1
  have c3 : w1.cell? ⟨B, 3, none⟩ = some rv := by rw [blk_cell S1.blk]; rfl
  have f3 := blk_free S1.blk 3
  have S1 := Lib.hid S1
  go_wp2_with fail
  rw [Exit.noGoto_ret]
  go_ret
  exact ⟨rfl, ⟨u, ov, o, q, c, S1.out.setRows _, Fr.own (HO.out.keep hg1) (S1.out.frSet 3 _)⟩, (hg.trans hg1).setCell S1.out.hB _, (Gr.fr hg1).trans (S1.out.frSet 3 _)⟩

set_option maxRecDepth 100000 in
set_option maxHeartbeats 16000000 in
theorem find_step {w0 : World} {ol : Option Addr} {nl cl : Nat} {l : List Ev} (hE : EvsAt w0 ol nl cl l) (hnl : nl ≤ 100) {f : Nat} (ih : FindAt w0 ol nl cl l f) {w : World} {B U : Nat} {u : List Bool} {ov : Value} {order : List Nat} {rv : Value} {o : Option Addr} {q c : Nat} {now : List Rw} (hS : Sr w w0.heap.size B U (.slice ol nl cl) u ov order rv)
    (hO : OwnAt w w0.heap.size o q c now) (hg : Gr w0 w) (hu : u.length = nl) (hw : wholeB l u = false) (hcnt : u.count false ≤ f + 1) (hq : q + (f + 1) ≤ 2000) (hol : order.length + (f + 1) ≤ 2000) :
    Calls Tryd.prog 18 #[.pointer (some ⟨B, 0, none⟩), .slice o q c] w (FindPost w0 w B U (.slice ol nl cl) u order rv (tryFrom (candF l (findF l f) u order now) l.length 0)) := by
  have hW := whole_any hS (hE.keep hg) hu
  rw [hw] at hW
  have hW := Lib.hid hW
  have HS := Lib.hid hS
  have HO := Lib.hid hO
  have HE := Lib.hid hE
  have IH := Lib.hid ih
  obtain ⟨b1, off1, ho1, hc1⟩ := hE.cells
  have Hc1 := Lib.hid hc1
  have Ho1 := Lib.hid (fun q => (ho1 q).1)
  have hn1 := hE.cap_le
  have hm1 := hE.cap_max
  have hlen := hE.len
  have Hz := Lib.hid hE.sizes
  unfold maxLen at hm1
  clear hS hO hE ih hc1 ho1
  generalize hC : candF l (findF l f) u order now = C
  have HC := Lib.hid hC
  clear hC
  go_enter Tryd.func18, Tryd.ntmps18
  go_wp2_with fail
  go_step3
  go_wp2_with fail
  refine hW.out.mono ?_
  rintro e w1 ⟨rfl, hg1⟩
  have S1 := HS.out.keep hg1
  have c0 : w1.cell? ⟨B, 0, none⟩ = some (.slice ol nl cl) := by rw [blk_cell S1.blk]; rfl
  have S1 := Lib.hid S1
  have O1 := Lib.hid (HO.out.keep hg1)
  have F1 := Gr.fr hg1
  have G1 := hg.trans hg1
  clear HS HO hg hg1 hW
  go_wp2_with fail
  go_step3
  go_wp2_with fail
  go_loopw [22] (fun v wr => ∃ k : Nat, k ≤ nl ∧ v = .int .i64 k ∧ Hid (tryFrom C l.length 0 = tryFrom C (l.length - k) k) ∧ (∃ ovk, Hid (Sr wr w0.heap.size B U (.slice ol nl cl) u ovk order rv)) ∧ Hid (OwnAt wr w0.heap.size o q c now) ∧ Gr w0 wr ∧ Fr w wr) (fun v _ => nl - (intOf v).toNat)
  case atStart => exact ⟨0, Nat.zero_le _, rfl, Lib.hid rfl, ⟨ov, S1⟩, O1, G1, F1⟩
  case round =>
    clear S1 O1 G1 F1 c0
    obtain ⟨k, hk, rfl, hT, ⟨ovk, hS⟩, hO, hg, hF⟩ := hrel
    obtain ⟨og, oc, rfl⟩ := own_slice hS.out.own
    by_cases hlt : k < nl
    · obtain ⟨a0, a1, a2, a3, a4, a5, a6, a7⟩ := Hc1.out k hlt
      have a0 := hg.keep a0
      have a1 := hg.keep a1
      have a2 := hg.keep a2
      have a3 := hg.keep a3
      have a4 := hg.keep a4
      have a5 := hg.keep a5
      have a6 := hg.keep a6
      have a7 := hg.keep a7
      have hI := run_ev cl Ho1.out hlt
      have hT1 : tryFrom C l.length 0 = tryFrom C ((l.length - (k + 1)) + 1) k := by rw [hT.out]; congr 1; omega
      have HT1 := Lib.hid hT1
      clear hT1
      have gx := (Gr.refl wr).alloc (.cells #[.int .i64 (evAt l k).thread, .int .i64 (evAt l k).kind, .string (evAt l k).key, .string (evAt l k).cval, .string (evAt l k).val, .int .i64 (evAt l k).code, .int .i64 (evAt l k).beg, .int .i64 (evAt l k).fin] 38)
      have hbox := evbox wr (evAt l k)
      have hfree := fun w2 (hq : Gr (evW wr (evAt l k)) w2) => free_any (hS.out.keep (gx.trans hq)) (HE.out.keep (hg.trans (gx.trans hq))) hu k hlt
      have hs1 := (Hz.out k hlt).1
      have hs2 := (Hz.out k hlt).2.1
      cases hfr : freeB l u k
      · have hCk : C k = none := by rw [← HC.out]; unfold candF; rw [hfr]; rfl
        rw [hfr] at hfree
        have HF := Lib.hid hfree
        have hTn := Lib.hid (HT1.out.trans (tryFrom_none hCk))
        clear hfree hfr hCk
        go_wp2_with fail
        refine (HF.out _ (Gr.refl _)).mono ?_
        rintro e w2 ⟨rfl, hg2⟩
        have hg12 := gx.trans hg2
        have hS2 := Lib.hid (hS.out.keep hg12)
        have hO2 := Lib.hid (hO.out.keep hg12)
        have hG2 := hg.trans hg12
        have hF2 := hF.trans (Gr.fr hg12)
        clear HF hg2 hg12 hS hO hg hF gx
        go_wp2_with fail
        go_roundw
        case rel => exact ⟨k + 1, by omega, by go_num, hTn, ⟨_, hS2⟩, hO2, hG2, hF2⟩
        case measure => simp [intOf]; omega
      · rw [hfr] at hfree
        have HF := Lib.hid hfree
        have hCk : C k = (match stepE now (evAt l k) with | some next => findF l f (u.set k true) (order ++ [k]) next | none => none) := by rw [← HC.out]; unfold candF; rw [hfr]; rfl
        have HCk := Lib.hid hCk
        have hus : usedAt u k = false := by
          unfold freeB at hfr
          simp only [Bool.and_eq_true, Bool.not_eq_true'] at hfr
          exact hfr.1
        clear hfree hfr hCk
        have hId := fun w => idle_any (evAt l k) w
        rw [show (decide (0 ≤ (evAt l k).fin) && (decide ((evAt l k).code = 3) || decide ((evAt l k).code = 5))) = idleB (evAt l k) from rfl] at hId
        go_wp2_with fail
        refine (HF.out _ (Gr.refl _)).mono ?_
        rintro e w2 ⟨rfl, hg2⟩
        obtain ⟨v0, v1, v2, v3, v4, v5, v6, v7⟩ := hbox
        have v0 := hg2.keep v0
        have v1 := hg2.keep v1
        have v2 := hg2.keep v2
        have v3 := hg2.keep v3
        have v4 := hg2.keep v4
        have v5 := hg2.keep v5
        have v6 := hg2.keep v6
        have v7 := hg2.keep v7
        have hg12 := gx.trans hg2
        have hS2 := Lib.hid (hS.out.keep hg12)
        have hO2 := Lib.hid (hO.out.keep hg12)
        have hG2 := hg.trans hg12
        have hF2 := hF.trans (Gr.fr hg12)
        clear HF hg2 hg12 hS hO hg hF gx a0 a1 a2 a3 a4 a5 a6 a7
        generalize wr.heap.size = BX at *
        cases hid0 : idleB (evAt l k)
        · rw [hid0] at hId
          have HId := Lib.hid hId
          clear hId
          have hAp := Lib.hid (fun w2 (hr : OwnAt w2 w0.heap.size o q c now) => apply_any o q c now (evAt l k).kind (evAt l k).key (evAt l k).cval w2 hr.rows (by omega) hs1 hs2)
          have hal := applyH_length (evAt l k).kind (evAt l k).key (evAt l k).cval now
          have hnl2 := hO2.out.rows.len
          have hst0 : stepE now (evAt l k) = if 0 ≤ (evAt l k).fin ∧ ((applyH (evAt l k).kind (evAt l k).key (evAt l k).cval now).2.1 ≠ (evAt l k).val ∨ (applyH (evAt l k).kind (evAt l k).key (evAt l k).cval now).2.2 ≠ (evAt l k).code) then none else some (applyH (evAt l k).kind (evAt l k).key (evAt l k).cval now).1 := by unfold stepE; rw [hid0]; rfl
          clear hid0
          generalize applyH (evAt l k).kind (evAt l k).key (evAt l k).cval now = r at *
          obtain ⟨rl, rt, rc⟩ := r
          go_wp2_with fail
          refine (HId.out _).mono ?_
          rintro e w2b ⟨rfl, hgi⟩
          have v0 := hgi.keep v0
          have v1 := hgi.keep v1
          have v2 := hgi.keep v2
          have v3 := hgi.keep v3
          have v4 := hgi.keep v4
          have v5 := hgi.keep v5
          have v6 := hgi.keep v6
          have v7 := hgi.keep v7
          have hSi := Lib.hid (hS2.out.keep hgi)
          have hOi := Lib.hid (hO2.out.keep hgi)
          have hGi := hG2.trans hgi
          have hFi := hF2.trans (Gr.fr hgi)
          clear hS2 hO2 hG2 hF2 hgi HId
          go_wp2_with fail
          refine (hAp.out _ hOi.out).mono ?_
          rintro e w3 ⟨o5, q5, c5, rfl, ho5, hg3⟩
          have hq5 := ho5.rows.len
          have v4 := hg3.keep v4
          have v5 := hg3.keep v5
          have v7 := hg3.keep v7
          have hS3 := hSi.out.keep hg3
          have c1 : w3.cell? ⟨B, 1, none⟩ = some (.slice (some ⟨U, 0, none⟩) u.length u.length) := by rw [blk_cell hS3.blk]; rfl
          have c2 : w3.cell? ⟨B, 2, none⟩ = some (.slice og order.length oc) := by rw [blk_cell hS3.blk]; rfl
          have uk := usedAt_cell hS3.ublk (i := k) (by omega)
          have fk := blk_free hS3.ublk k
          have hIu := run_bl (oa := some ⟨U, 0, none⟩) (n := nl) (b := U) (off := 0) nl (fun _ => rfl) hlt
          rw [Nat.zero_add] at hIu
          rw [hu] at c1
          have hS3 := Lib.hid hS3
          have hN3 := Lib.hid (ho5.lower2 hGi.le)
          have hO3 := Lib.hid (hOi.out.keep hg3)
          have hG3 := hGi.trans hg3
          have hF3 := hFi.trans (Gr.fr hg3)
          clear hSi hOi hGi hFi hg3 hAp ho5
          have hrl : rl.length ≤ now.length + 1 := hal
          have hq5' : q5 ≤ q + 1 := by have h1 : rl.length = q5 := hq5; omega
          by_cases hfin : (evAt l k).fin < 0
          · have HCk2 := Lib.hid (show C k = findF l f (u.set k true) (order ++ [k]) rl by rw [HCk.out, hst0, if_neg (fun hh => by have := hh.1; omega)])
            clear hst0
            have hSm := Lib.hid (hS3.out.mark k true)
            have hFm := hF3.trans (hS3.out.frMark k (.bool true))
            have hGm : Gr w0 (w3.setCell ⟨U, k, none⟩ (.bool true)) := hG3.setCell hS3.out.hU _
            have hOm := Lib.hid (Fr.own hN3.out (hS3.out.frMark k (.bool true)))
            have hQm := Lib.hid (Fr.own hO3.out (hS3.out.frMark k (.bool true)))
            have c2m : (w3.setCell ⟨U, k, none⟩ (.bool true)).cell? ⟨B, 2, none⟩ = some (.slice og order.length oc) := by rw [blk_cell hSm.out.blk]; rfl
            have hsz3 : (w3.setCell ⟨U, k, none⟩ (.bool true)).heap.size = w3.heap.size := by unfold World.setCell; simp
            have hcb : ((w3.setCell ⟨U, k, none⟩ (.bool true)).alloc (.cells #[.int .i64 (k : Int)] 3)).cell? ⟨w3.heap.size, 0, none⟩ = some (.int .i64 (k : Int)) := by
              rw [← hsz3]
              exact World.cell?_alloc_new _ _ _ 0
            go_wp2_with (at_builtin; refine wpList_i1 rfl _ _ rfl w0.heap.size (hGm.alloc _).le rfl ((hSm.out.keep ((Gr.refl _).alloc _)).own) (b := w3.heap.size) rfl hcb (by omega) ?_; intro v' wb how hgrow; obtain ⟨og2, oc2, rfl⟩ := own_slice how; have cB2 : wb.cell? ⟨B, 2, none⟩ = some (.slice og order.length oc) := (by rw [blk_cell (((hSm.out.keep ((Gr.refl _).alloc _)).growB hgrow).1.trans (hSm.out.keep ((Gr.refl _).alloc _)).blk)]; rfl); have fB2 := blk_free (((hSm.out.keep ((Gr.refl _).alloc _)).growB hgrow).1.trans (hSm.out.keep ((Gr.refl _).alloc _)).blk) 2)
            have hSa := hSm.out.keep ((Gr.refl _).alloc (.cells #[.int .i64 (k : Int)] 3))
            have hgb := hSa.growB hgrow
            have hSc := Lib.hid (hSa.setOrder (w2 := wb) (order' := order ++ [k]) hgb.1 hgb.2 (by rw [List.length_append]; exact how))
            have hFa := (hFm.trans (Gr.fr ((Gr.refl _).alloc (.cells #[.int .i64 (k : Int)] 3)))).trans (hSa.frGrow hgrow)
            have hFs : Fr wb (wb.setCell ⟨B, 2, none⟩ (.slice og2 (order.length + 1) oc2)) := Fr.set (hgb.1.trans hSa.blk) (by decide)
            have hFc := hFa.trans hFs
            have hOc := Lib.hid (Fr.own (Fr.own (Fr.own hOm.out (Gr.fr ((Gr.refl _).alloc (.cells #[.int .i64 (k : Int)] 3)))) (hSa.frGrow hgrow)) hFs)
            have hQc := Lib.hid (Fr.own (Fr.own (Fr.own hQm.out (Gr.fr ((Gr.refl _).alloc (.cells #[.int .i64 (k : Int)] 3)))) (hSa.frGrow hgrow)) hFs)
            have hGc : Gr w0 (wb.setCell ⟨B, 2, none⟩ (.slice og2 (order.length + 1) oc2)) := (hSa.gr rfl (hGm.alloc _) hgrow).setCell hSa.hB _
            have hcn := left_set u k (by omega) hus
            have hI23 := IH.out _ B U (u.set k true) _ (order ++ [k]) rv o5 q5 c5 rl hSc.out hOc.out hGc (by rw [List.length_set]; exact hu) (by omega) (by omega) (by rw [List.length_append]; show order.length + 1 + f ≤ 2000; omega)
            have hHU := hSa.hU
            clear hSa hgb hFa hFs hSm hFm hGm hOm hQm hS3 hO3 hN3 hG3 hF3 how hgrow cB2 fB2 c1 c2 c2m uk fk hcb hsz3
            generalize wb.setCell ⟨B, 2, none⟩ (.slice og2 (order.length + 1) oc2) = wc at *
            cases hres : findF l f (u.set k true) (order ++ [k]) rl with
            | some r =>
              rw [hres] at hI23
              have hT2 := Lib.hid (HT1.out.trans (tryFrom_some (HCk2.out.trans hres)))
              have hI23 := Lib.hid hI23
              clear hres
              refine hI23.out.mono ?_
              rintro e w5 ⟨rfl, ⟨u', ov', o1, q1, c1, hS5, hO5⟩, hG5, hF5⟩
              have hS5 := Lib.hid hS5
              have hO5 := Lib.hid hO5
              go_wp2_with fail
              rw [Exit.noGoto_ret]
              go_ret
              rw [hT2.out]
              exact ⟨rfl, ⟨u', ov', o1, q1, c1, hS5.out, hO5.out⟩, hG5, hFc.trans hF5⟩
            | none =>
              rw [hres] at hI23
              have hT2 := Lib.hid (HT1.out.trans (tryFrom_none (HCk2.out.trans hres)))
              have hI23 := Lib.hid hI23
              clear hres
              refine hI23.out.mono ?_
              rintro e w5 ⟨rfl, ⟨ov', hS5⟩, hG5, hF5⟩
              have hQ5 := Lib.hid (Fr.own hQc.out hF5)
              have hF05 := hFc.trans hF5
              obtain ⟨g5, cap5, rfl, hc5, hm5, ho5⟩ := own_trunc (n := order.length) (by have := hS5.own; rwa [List.length_append] at this) rfl
              have hlu : (u.set k true).length = nl := by rw [List.length_set]; exact hu
              have c1 : w5.cell? ⟨B, 1, none⟩ = some (.slice (some ⟨U, 0, none⟩) nl nl) := by rw [blk_cell hS5.blk, hlu]; rfl
              have c2 : w5.cell? ⟨B, 2, none⟩ = some (.slice (some ⟨g5, 0, none⟩) (order.length + 1) cap5) := by rw [blk_cell hS5.blk]; rfl
              have uk := usedAt_cell hS5.ublk (i := k) (by rw [hlu]; exact hlt)
              have fk := blk_free hS5.ublk k
              have hS6 := hS5.mark k false
              rw [set_back u k hus (by omega)] at hS6
              have c26 : (w5.setCell ⟨U, k, none⟩ (.bool false)).cell? ⟨B, 2, none⟩ = some (.slice (some ⟨g5, 0, none⟩) (order.length + 1) cap5) := by rw [blk_cell hS6.blk]; rfl
              have f26 := blk_free hS6.blk 2
              have hF6 := hF05.trans (hS5.frMark k (.bool false))
              have hQ6 := Lib.hid (Fr.own hQ5.out (hS5.frMark k (.bool false)))
              have hG6 : Gr w0 (w5.setCell ⟨U, k, none⟩ (.bool false)) := hG5.setCell hS5.hU _
              have ho6 := own_set (i := k) (x := .bool false) ho5 hS5.ublk (by decide)
              have hS6 := Lib.hid hS6
              unfold maxLen at hm5
              clear hS5 ho5 hF05 hG5 hQ5 hI23
              go_wp2_with fail
              have hcut := run_cut (some ⟨g5, 0, none⟩) (order.length + 1) cap5 order.length (by omega)
              clear uk fk c1 c2
              generalize w5.setCell ⟨U, k, none⟩ (.bool false) = w6 at *
              go_region
              have hS7 := Lib.hid ((hS6.out.setOrder (w2 := w6) (order' := order) rfl rfl ho6).keep ((Gr.refl _).drew))
              have hF7 := (hF6.trans (hS6.out.frSet 2 (.slice (some ⟨g5, 0, none⟩) order.length cap5))).trans (Gr.fr ((Gr.refl _).drew))
              have hQ7 := Lib.hid (Fr.own (Fr.own hQ6.out (hS6.out.frSet 2 (.slice (some ⟨g5, 0, none⟩) order.length cap5))) (Gr.fr ((Gr.refl _).drew)))
              have hG7 : Gr w0 (w6.setCell ⟨B, 2, none⟩ (.slice (some ⟨g5, 0, none⟩) order.length cap5)).drew := (hG6.setCell hS6.out.hB _).drew
              clear hS6 hF6 hQ6 hG6 ho6 f26 c26 hcut
              go_wp2_with fail
              go_roundw
              case rel => exact ⟨k + 1, by omega, by go_num, hT2, ⟨_, hS7⟩, hQ7, hG7, hF7⟩
              case measure => simp [intOf]; omega
          · by_cases hval : rt = (evAt l k).val
            · have hve := eqL hval
              by_cases hcode : rc = (evAt l k).code
              · have HCk2 := Lib.hid (show C k = findF l f (u.set k true) (order ++ [k]) rl by rw [HCk.out, hst0, if_neg (fun hh => by rcases hh.2 with t | t; exact t hval; exact t hcode)])
                clear hst0
                have hSm := Lib.hid (hS3.out.mark k true)
                have hFm := hF3.trans (hS3.out.frMark k (.bool true))
                have hGm : Gr w0 (w3.setCell ⟨U, k, none⟩ (.bool true)) := hG3.setCell hS3.out.hU _
                have hOm := Lib.hid (Fr.own hN3.out (hS3.out.frMark k (.bool true)))
                have hQm := Lib.hid (Fr.own hO3.out (hS3.out.frMark k (.bool true)))
                have c2m : (w3.setCell ⟨U, k, none⟩ (.bool true)).cell? ⟨B, 2, none⟩ = some (.slice og order.length oc) := by rw [blk_cell hSm.out.blk]; rfl
                have hsz3 : (w3.setCell ⟨U, k, none⟩ (.bool true)).heap.size = w3.heap.size := by unfold World.setCell; simp
                have hcb : ((w3.setCell ⟨U, k, none⟩ (.bool true)).alloc (.cells #[.int .i64 (k : Int)] 3)).cell? ⟨w3.heap.size, 0, none⟩ = some (.int .i64 (k : Int)) := by
                  rw [← hsz3]
                  exact World.cell?_alloc_new _ _ _ 0
                go_wp2_with (at_builtin; refine wpList_i1 rfl _ _ rfl w0.heap.size (hGm.alloc _).le rfl ((hSm.out.keep ((Gr.refl _).alloc _)).own) (b := w3.heap.size) rfl hcb (by omega) ?_; intro v' wb how hgrow; obtain ⟨og2, oc2, rfl⟩ := own_slice how; have cB2 : wb.cell? ⟨B, 2, none⟩ = some (.slice og order.length oc) := (by rw [blk_cell (((hSm.out.keep ((Gr.refl _).alloc _)).growB hgrow).1.trans (hSm.out.keep ((Gr.refl _).alloc _)).blk)]; rfl); have fB2 := blk_free (((hSm.out.keep ((Gr.refl _).alloc _)).growB hgrow).1.trans (hSm.out.keep ((Gr.refl _).alloc _)).blk) 2)
                have hSa := hSm.out.keep ((Gr.refl _).alloc (.cells #[.int .i64 (k : Int)] 3))
                have hgb := hSa.growB hgrow
                have hSc := Lib.hid (hSa.setOrder (w2 := wb) (order' := order ++ [k]) hgb.1 hgb.2 (by rw [List.length_append]; exact how))
                have hFa := (hFm.trans (Gr.fr ((Gr.refl _).alloc (.cells #[.int .i64 (k : Int)] 3)))).trans (hSa.frGrow hgrow)
                have hFs : Fr wb (wb.setCell ⟨B, 2, none⟩ (.slice og2 (order.length + 1) oc2)) := Fr.set (hgb.1.trans hSa.blk) (by decide)
                have hFc := hFa.trans hFs
                have hOc := Lib.hid (Fr.own (Fr.own (Fr.own hOm.out (Gr.fr ((Gr.refl _).alloc (.cells #[.int .i64 (k : Int)] 3)))) (hSa.frGrow hgrow)) hFs)
                have hQc := Lib.hid (Fr.own (Fr.own (Fr.own hQm.out (Gr.fr ((Gr.refl _).alloc (.cells #[.int .i64 (k : Int)] 3)))) (hSa.frGrow hgrow)) hFs)
                have hGc : Gr w0 (wb.setCell ⟨B, 2, none⟩ (.slice og2 (order.length + 1) oc2)) := (hSa.gr rfl (hGm.alloc _) hgrow).setCell hSa.hB _
                have hcn := left_set u k (by omega) hus
                have hI23 := IH.out _ B U (u.set k true) _ (order ++ [k]) rv o5 q5 c5 rl hSc.out hOc.out hGc (by rw [List.length_set]; exact hu) (by omega) (by omega) (by rw [List.length_append]; show order.length + 1 + f ≤ 2000; omega)
                have hHU := hSa.hU
                clear hSa hgb hFa hFs hSm hFm hGm hOm hQm hS3 hO3 hN3 hG3 hF3 how hgrow cB2 fB2 c1 c2 c2m uk fk hcb hsz3
                generalize wb.setCell ⟨B, 2, none⟩ (.slice og2 (order.length + 1) oc2) = wc at *
                cases hres : findF l f (u.set k true) (order ++ [k]) rl with
                | some r =>
                  rw [hres] at hI23
                  have hT2 := Lib.hid (HT1.out.trans (tryFrom_some (HCk2.out.trans hres)))
                  have hI23 := Lib.hid hI23
                  clear hres
                  refine hI23.out.mono ?_
                  rintro e w5 ⟨rfl, ⟨u', ov', o1, q1, c1, hS5, hO5⟩, hG5, hF5⟩
                  have hS5 := Lib.hid hS5
                  have hO5 := Lib.hid hO5
                  go_wp2_with fail
                  rw [Exit.noGoto_ret]
                  go_ret
                  rw [hT2.out]
                  exact ⟨rfl, ⟨u', ov', o1, q1, c1, hS5.out, hO5.out⟩, hG5, hFc.trans hF5⟩
                | none =>
                  rw [hres] at hI23
                  have hT2 := Lib.hid (HT1.out.trans (tryFrom_none (HCk2.out.trans hres)))
                  have hI23 := Lib.hid hI23
                  clear hres
                  refine hI23.out.mono ?_
                  rintro e w5 ⟨rfl, ⟨ov', hS5⟩, hG5, hF5⟩
                  have hQ5 := Lib.hid (Fr.own hQc.out hF5)
                  have hF05 := hFc.trans hF5
                  obtain ⟨g5, cap5, rfl, hc5, hm5, ho5⟩ := own_trunc (n := order.length) (by have := hS5.own; rwa [List.length_append] at this) rfl
                  have hlu : (u.set k true).length = nl := by rw [List.length_set]; exact hu
                  have c1 : w5.cell? ⟨B, 1, none⟩ = some (.slice (some ⟨U, 0, none⟩) nl nl) := by rw [blk_cell hS5.blk, hlu]; rfl
                  have c2 : w5.cell? ⟨B, 2, none⟩ = some (.slice (some ⟨g5, 0, none⟩) (order.length + 1) cap5) := by rw [blk_cell hS5.blk]; rfl
                  have uk := usedAt_cell hS5.ublk (i := k) (by rw [hlu]; exact hlt)
                  have fk := blk_free hS5.ublk k
                  have hS6 := hS5.mark k false
                  rw [set_back u k hus (by omega)] at hS6
                  have c26 : (w5.setCell ⟨U, k, none⟩ (.bool false)).cell? ⟨B, 2, none⟩ = some (.slice (some ⟨g5, 0, none⟩) (order.length + 1) cap5) := by rw [blk_cell hS6.blk]; rfl
                  have f26 := blk_free hS6.blk 2
                  have hF6 := hF05.trans (hS5.frMark k (.bool false))
                  have hQ6 := Lib.hid (Fr.own hQ5.out (hS5.frMark k (.bool false)))
                  have hG6 : Gr w0 (w5.setCell ⟨U, k, none⟩ (.bool false)) := hG5.setCell hS5.hU _
                  have ho6 := own_set (i := k) (x := .bool false) ho5 hS5.ublk (by decide)
                  have hS6 := Lib.hid hS6
                  unfold maxLen at hm5
                  clear hS5 ho5 hF05 hG5 hQ5 hI23
                  go_wp2_with fail
                  have hcut := run_cut (some ⟨g5, 0, none⟩) (order.length + 1) cap5 order.length (by omega)
                  clear uk fk c1 c2
                  generalize w5.setCell ⟨U, k, none⟩ (.bool false) = w6 at *
                  go_region
                  have hS7 := Lib.hid ((hS6.out.setOrder (w2 := w6) (order' := order) rfl rfl ho6).keep ((Gr.refl _).drew))
                  have hF7 := (hF6.trans (hS6.out.frSet 2 (.slice (some ⟨g5, 0, none⟩) order.length cap5))).trans (Gr.fr ((Gr.refl _).drew))
                  have hQ7 := Lib.hid (Fr.own (Fr.own hQ6.out (hS6.out.frSet 2 (.slice (some ⟨g5, 0, none⟩) order.length cap5))) (Gr.fr ((Gr.refl _).drew)))
                  have hG7 : Gr w0 (w6.setCell ⟨B, 2, none⟩ (.slice (some ⟨g5, 0, none⟩) order.length cap5)).drew := (hG6.setCell hS6.out.hB _).drew
                  clear hS6 hF6 hQ6 hG6 ho6 f26 c26 hcut
                  go_wp2_with fail
                  go_roundw
                  case rel => exact ⟨k + 1, by omega, by go_num, hT2, ⟨_, hS7⟩, hQ7, hG7, hF7⟩
                  case measure => simp [intOf]; omega
              · have HCk2 := Lib.hid (show C k = none by rw [HCk.out, hst0, if_pos ⟨by omega, .inr hcode⟩])
                have hTn := Lib.hid (HT1.out.trans (tryFrom_none HCk2.out))
                clear hst0
                go_wp2_with fail
                go_roundw
                case rel => exact ⟨k + 1, by omega, by go_num, hTn, ⟨_, hS3⟩, hO3, hG3, hF3⟩
                case measure => simp [intOf]; omega
            · have hve := neL hval
              have HCk2 := Lib.hid (show C k = none by rw [HCk.out, hst0, if_pos ⟨by omega, .inl hval⟩])
              have hTn := Lib.hid (HT1.out.trans (tryFrom_none HCk2.out))
              clear hst0
              go_wp2_with fail
              go_roundw
              case rel => exact ⟨k + 1, by omega, by go_num, hTn, ⟨_, hS3⟩, hO3, hG3, hF3⟩
              case measure => simp [intOf]; omega
        · rw [hid0] at hId
          have HId := Lib.hid hId
          have hst : stepE now (evAt l k) = some now := by unfold stepE; rw [hid0]; rfl
          have HCk2 := Lib.hid (show C k = findF l f (u.set k true) (order ++ [k]) now by rw [HCk.out, hst])
          clear hId hid0 hst
          go_wp2_with fail
          refine (HId.out _).mono ?_
          rintro e w3 ⟨rfl, hg3⟩
          have hS3 := hS2.out.keep hg3
          have c1 : w3.cell? ⟨B, 1, none⟩ = some (.slice (some ⟨U, 0, none⟩) u.length u.length) := by rw [blk_cell hS3.blk]; rfl
          have c2 : w3.cell? ⟨B, 2, none⟩ = some (.slice og order.length oc) := by rw [blk_cell hS3.blk]; rfl
          have uk := usedAt_cell hS3.ublk (i := k) (by omega)
          have fk := blk_free hS3.ublk k
          have hIu := run_bl (oa := some ⟨U, 0, none⟩) (n := nl) (b := U) (off := 0) nl (fun _ => rfl) hlt
          rw [Nat.zero_add] at hIu
          rw [hu] at c1
          have hS3 := Lib.hid hS3
          have hO3 := Lib.hid (hO2.out.keep hg3)
          have hG3 := hG2.trans hg3
          have hF3 := hF2.trans (Gr.fr hg3)
          have hN3 := hO3
          clear hS2 hO2 hG2 hF2 hg3 HId
          have hSm := Lib.hid (hS3.out.mark k true)
          have hFm := hF3.trans (hS3.out.frMark k (.bool true))
          have hGm : Gr w0 (w3.setCell ⟨U, k, none⟩ (.bool true)) := hG3.setCell hS3.out.hU _
          have hOm := Lib.hid (Fr.own hN3.out (hS3.out.frMark k (.bool true)))
          have hQm := Lib.hid (Fr.own hO3.out (hS3.out.frMark k (.bool true)))
          have c2m : (w3.setCell ⟨U, k, none⟩ (.bool true)).cell? ⟨B, 2, none⟩ = some (.slice og order.length oc) := by rw [blk_cell hSm.out.blk]; rfl
          have hsz3 : (w3.setCell ⟨U, k, none⟩ (.bool true)).heap.size = w3.heap.size := by unfold World.setCell; simp
          have hcb : ((w3.setCell ⟨U, k, none⟩ (.bool true)).alloc (.cells #[.int .i64 (k : Int)] 3)).cell? ⟨w3.heap.size, 0, none⟩ = some (.int .i64 (k : Int)) := by
            rw [← hsz3]
            exact World.cell?_alloc_new _ _ _ 0
          go_wp2_with (at_builtin; refine wpList_i1 rfl _ _ rfl w0.heap.size (hGm.alloc _).le rfl ((hSm.out.keep ((Gr.refl _).alloc _)).own) (b := w3.heap.size) rfl hcb (by omega) ?_; intro v' wb how hgrow; obtain ⟨og2, oc2, rfl⟩ := own_slice how; have cB2 : wb.cell? ⟨B, 2, none⟩ = some (.slice og order.length oc) := (by rw [blk_cell (((hSm.out.keep ((Gr.refl _).alloc _)).growB hgrow).1.trans (hSm.out.keep ((Gr.refl _).alloc _)).blk)]; rfl); have fB2 := blk_free (((hSm.out.keep ((Gr.refl _).alloc _)).growB hgrow).1.trans (hSm.out.keep ((Gr.refl _).alloc _)).blk) 2)
          have hSa := hSm.out.keep ((Gr.refl _).alloc (.cells #[.int .i64 (k : Int)] 3))
          have hgb := hSa.growB hgrow
          have hSc := Lib.hid (hSa.setOrder (w2 := wb) (order' := order ++ [k]) hgb.1 hgb.2 (by rw [List.length_append]; exact how))
          have hFa := (hFm.trans (Gr.fr ((Gr.refl _).alloc (.cells #[.int .i64 (k : Int)] 3)))).trans (hSa.frGrow hgrow)
          have hFs : Fr wb (wb.setCell ⟨B, 2, none⟩ (.slice og2 (order.length + 1) oc2)) := Fr.set (hgb.1.trans hSa.blk) (by decide)
          have hFc := hFa.trans hFs
          have hOc := Lib.hid (Fr.own (Fr.own (Fr.own hOm.out (Gr.fr ((Gr.refl _).alloc (.cells #[.int .i64 (k : Int)] 3)))) (hSa.frGrow hgrow)) hFs)
          have hQc := Lib.hid (Fr.own (Fr.own (Fr.own hQm.out (Gr.fr ((Gr.refl _).alloc (.cells #[.int .i64 (k : Int)] 3)))) (hSa.frGrow hgrow)) hFs)
          have hGc : Gr w0 (wb.setCell ⟨B, 2, none⟩ (.slice og2 (order.length + 1) oc2)) := (hSa.gr rfl (hGm.alloc _) hgrow).setCell hSa.hB _
          have hcn := left_set u k (by omega) hus
          have hI23 := IH.out _ B U (u.set k true) _ (order ++ [k]) rv o q c now hSc.out hOc.out hGc (by rw [List.length_set]; exact hu) (by omega) (by omega) (by rw [List.length_append]; show order.length + 1 + f ≤ 2000; omega)
          have hHU := hSa.hU
          clear hSa hgb hFa hFs hSm hFm hGm hOm hQm hS3 hO3 hN3 hG3 hF3 how hgrow cB2 fB2 c1 c2 c2m uk fk hcb hsz3
          generalize wb.setCell ⟨B, 2, none⟩ (.slice og2 (order.length + 1) oc2) = wc at *
          cases hres : findF l f (u.set k true) (order ++ [k]) now with
          | some r =>
            rw [hres] at hI23
            have hT2 := Lib.hid (HT1.out.trans (tryFrom_some (HCk2.out.trans hres)))
            have hI23 := Lib.hid hI23
            clear hres
            refine hI23.out.mono ?_
            rintro e w5 ⟨rfl, ⟨u', ov', o1, q1, c1, hS5, hO5⟩, hG5, hF5⟩
            have hS5 := Lib.hid hS5
            have hO5 := Lib.hid hO5
            go_wp2_with fail
            rw [Exit.noGoto_ret]
            go_ret
            rw [hT2.out]
            exact ⟨rfl, ⟨u', ov', o1, q1, c1, hS5.out, hO5.out⟩, hG5, hFc.trans hF5⟩
          | none =>
            rw [hres] at hI23
            have hT2 := Lib.hid (HT1.out.trans (tryFrom_none (HCk2.out.trans hres)))
            have hI23 := Lib.hid hI23
            clear hres
            refine hI23.out.mono ?_
            rintro e w5 ⟨rfl, ⟨ov', hS5⟩, hG5, hF5⟩
            have hQ5 := Lib.hid (Fr.own hQc.out hF5)
            have hF05 := hFc.trans hF5
            obtain ⟨g5, cap5, rfl, hc5, hm5, ho5⟩ := own_trunc (n := order.length) (by have := hS5.own; rwa [List.length_append] at this) rfl
            have hlu : (u.set k true).length = nl := by rw [List.length_set]; exact hu
            have c1 : w5.cell? ⟨B, 1, none⟩ = some (.slice (some ⟨U, 0, none⟩) nl nl) := by rw [blk_cell hS5.blk, hlu]; rfl
            have c2 : w5.cell? ⟨B, 2, none⟩ = some (.slice (some ⟨g5, 0, none⟩) (order.length + 1) cap5) := by rw [blk_cell hS5.blk]; rfl
            have uk := usedAt_cell hS5.ublk (i := k) (by rw [hlu]; exact hlt)
            have fk := blk_free hS5.ublk k
            have hS6 := hS5.mark k false
            rw [set_back u k hus (by omega)] at hS6
            have c26 : (w5.setCell ⟨U, k, none⟩ (.bool false)).cell? ⟨B, 2, none⟩ = some (.slice (some ⟨g5, 0, none⟩) (order.length + 1) cap5) := by rw [blk_cell hS6.blk]; rfl
            have f26 := blk_free hS6.blk 2
            have hF6 := hF05.trans (hS5.frMark k (.bool false))
            have hQ6 := Lib.hid (Fr.own hQ5.out (hS5.frMark k (.bool false)))
            have hG6 : Gr w0 (w5.setCell ⟨U, k, none⟩ (.bool false)) := hG5.setCell hS5.hU _
            have ho6 := own_set (i := k) (x := .bool false) ho5 hS5.ublk (by decide)
            have hS6 := Lib.hid hS6
            unfold maxLen at hm5
            clear hS5 ho5 hF05 hG5 hQ5 hI23
            go_wp2_with fail
            have hcut := run_cut (some ⟨g5, 0, none⟩) (order.length + 1) cap5 order.length (by omega)
            clear uk fk c1 c2
            generalize w5.setCell ⟨U, k, none⟩ (.bool false) = w6 at *
            go_region
            have hS7 := Lib.hid ((hS6.out.setOrder (w2 := w6) (order' := order) rfl rfl ho6).keep ((Gr.refl _).drew))
            have hF7 := (hF6.trans (hS6.out.frSet 2 (.slice (some ⟨g5, 0, none⟩) order.length cap5))).trans (Gr.fr ((Gr.refl _).drew))
            have hQ7 := Lib.hid (Fr.own (Fr.own hQ6.out (hS6.out.frSet 2 (.slice (some ⟨g5, 0, none⟩) order.length cap5))) (Gr.fr ((Gr.refl _).drew)))
            have hG7 : Gr w0 (w6.setCell ⟨B, 2, none⟩ (.slice (some ⟨g5, 0, none⟩) order.length cap5)).drew := (hG6.setCell hS6.out.hB _).drew
            clear hS6 hF6 hQ6 hG6 ho6 f26 c26 hcut
            go_wp2_with fail
            go_roundw
            case rel => exact ⟨k + 1, by omega, by go_num, hT2, ⟨_, hS7⟩, hQ7, hG7, hF7⟩
            case measure => simp [intOf]; omega
    · obtain rfl : k = nl := by omega
      have hfin : tryFrom C l.length 0 = none := by rw [hT.out, show l.length - k = 0 by omega]; rfl
      have Hfin := Lib.hid hfin
      clear hfin
      go_wp2_with fail
      rw [Exit.noGoto_ret]
      go_ret
      rw [Hfin.out]
      exact ⟨rfl, ⟨_, hS.out⟩, hg, hF⟩
end Go.Proofs.YtkngjnkecmjakaaDoor
