import Derived.Test.YtkngjnkecmjakaaDoorHq
import Derived.Test.YtkngjnkecmjakaaDoorGd
import Derived.Test.YtkngjnkecmjakaaDoorIg
namespace Go.Proofs.YtkngjnkecmjakaaDoor
set_option linter.unusedVariables false
set_option linter.unusedSimpArgs false
open Go.BigFrame Go.RowKit Go.WideShapes

theorem good_step {l : List Ev} {o : List Nat} {k : Nat} (hk : k < o.length) (rows : List Rw) : goodGo l (o.take k) (o.drop k) rows =
    if goodOk l (o.take k) (natAt o k) = true then (match stepG rows (evAt l (natAt o k)) with | some next => goodGo l (o.take (k + 1)) (o.drop (k + 1)) next | none => none) else none := by
  rw [List.drop_eq_getElem_cons hk, natAt_lt hk, List.take_succ_eq_append_getElem hk]
  conv => lhs; unfold goodGo
  split
  · cases stepG rows (evAt l o[k]) <;> rfl
  · rfl
theorem good_bad {l : List Ev} {o : List Nat} {k : Nat} (hk : k < o.length) {rows : List Rw} (h : goodOk l (o.take k) (natAt o k) = false) : goodGo l (o.take k) (o.drop k) rows = none := by
  rw [good_step hk, h]; rfl
theorem applyL_length {kind : Int} {key val : ByteArray} {l : List Rw} : (applyL kind key val l).1.length ≤ l.length + 1 := by
  have hd : (dropL l key).length ≤ l.length := by
    unfold dropL
    split
    · rw [List.length_append, List.length_take, List.length_drop]; have := place_le key l; omega
    · exact Nat.le_refl _
  have hp : (putL l ⟨key, val⟩).length ≤ l.length + 1 := by
    unfold putL
    rw [List.length_append, List.length_append, List.length_take, List.length_drop]
    have := place_le key l
    simp only [List.length_cons, List.length_nil]
    split <;> omega
  unfold applyL
  split
  · simp
  · split
    · simp
    · split
      · simp
      · split
        · simp; omega
        · exact hp
theorem ok_kinds {e : Ev} (h : evOk e = true) : e.kind = 1 ∨ e.kind = 2 ∨ e.kind = 3 ∨ e.kind = 4 ∨ e.kind = 5 := by
  unfold evOk at h
  simp only [Bool.and_eq_true] at h
  exact may_kinds h.1.1

/-- what Good tells -/
def GoodPost (w : World) (res : Option (List Rw)) (e : Ending) (w' : World) : Prop :=
  match res with
  | some r => ∃ o q c, e = .returned (.tuple #[.slice o q c, .bool true]) ∧ RowsAt w' o q c r ∧ Gr w w'
  | none => e = .returned (.tuple #[.slice none 0 0, .bool false]) ∧ Gr w w'

set_option maxRecDepth 100000 in
set_option maxHeartbeats 8000000 in
theorem good_any (ol : Option Addr) (nl cl : Nat) (l : List Ev) (oi : Option Addr) (ni ci : Nat) (order : List Nat) (o : Option Addr) (n c : Nat) (rows : List Rw) (wh : Bool) (w : World)
    (hE : EvsAt w ol nl cl l) (hI : IntsAt w oi ni ci order) (hR : RowsAt w o n c rows) (hn : n ≤ 1000) (hni : ni ≤ 1000) (hk : ∀ i, i < nl → evOk (evAt l i) = true) :
    Calls Tryd.prog 21 #[.slice ol nl cl, .slice oi ni ci, .slice o n c, .bool wh] w (GoodPost w (goodF l order rows wh)) := by
  have HR := Lib.hid hR
  have hol := hI.len
  have hel := hE.len
  have hrl := hR.len
  have Hk := Lib.hid hk
  have Hz := Lib.hid hE.sizes
  clear hR hk
  obtain ⟨b1, off1, ho1, hc1⟩ := hE.cells
  have Hc1 := Lib.hid hc1
  have Ho1 := Lib.hid (fun q => (ho1 q).1)
  have H1 := Lib.hid hE
  have hn1 := hE.cap_le
  have hm1 := hE.cap_max
  unfold maxLen at hm1
  clear hc1 ho1 hE
  obtain ⟨b2, off2, ho2, hc2⟩ := hI.cells
  have Hc2 := Lib.hid hc2
  have Ho2 := Lib.hid (fun q => (ho2 q).1)
  have H2 := Lib.hid hI
  have hn2 := hI.cap_le
  have hm2 := hI.cap_max
  unfold maxLen at hm2
  clear hc2 ho2 hI
  generalize hG : goodF l order rows wh = G
  have HG := Lib.hid hG
  clear hG
  go_enter Tryd.func21, Tryd.ntmps21
  go_wp2_with fail
  go_loopw [2, 10] (fun rv v wr => ∃ k o' q c' rl, k ≤ ni ∧ v = .int .i64 (k : Nat) ∧ rv = .slice o' q c' ∧ Hid (RowsAt wr o' q c' rl) ∧ rl.length ≤ n + k ∧ Hid (goodGo l [] order rows = goodGo l (order.take k) (order.drop k) rl) ∧ Gr w wr) (fun _ v _ => ni - (intOf v).toNat)
  case atStart => exact ⟨0, o, n, c, rows, Nat.zero_le _, rfl, rfl, HR, by omega, Lib.hid rfl, Gr.refl _⟩
  case round =>
    obtain ⟨k, o', q, c', rl, hk, rfl, rfl, hRr, hrl2, hT, hg⟩ := hrel
    by_cases hlt : k < ni
    · have i0 := hg.keep (Hc2.out k hlt)
      have hI := run_int ci Ho2.out hlt
      have hneg : decide (((natAt order k : Nat) : Int) < 0) = false := decide_eq_false (by omega)
      have hcut := run_take oi ni ci k (by omega)
      have hin := fun (x : Nat) (w1 : World) (hq : Gr w w1) => in_any oi k ci (order.take k) x w1 (((H2.out.keep hq)).take (by omega))
      have hnone : goodOk l (order.take k) (natAt order k) = false → G = none := by
        intro q
        rw [← HG.out]
        unfold goodF
        rw [hT.out, good_bad (by omega) q]
      by_cases hx : natAt order k < nl
      · have hge : decide (nl ≤ natAt order k) = false := decide_eq_false (by omega)
        by_cases hmem : natAt order k ∈ order.take k
        · have hfin := hnone (by unfold goodOk; rw [decide_eq_true hmem]; simp)
          have Hfin := Lib.hid hfin
          have hinx := fun w1 (hq : Gr w w1) => hin (natAt order k) w1 hq
          rw [decide_eq_true hmem] at hinx
          have HN := Lib.hid hinx
          clear hfin hin hinx hnone
          go_wp2_with fail
          go_big_quiet ((go_at_call 35; (first | (with_reducible exact quiet_dr1 (HN.out _ (hg.drewN _))) | (with_reducible exact quiet_dr0 (HN.out _ (hg.drewN _))))))
          go_wp2_with fail
          go_ret2
          rw [Hfin.out]
          exact ⟨rfl, hg.drewN _⟩
        · have hinx := fun w1 (hq : Gr w w1) => hin (natAt order k) w1 hq
          rw [decide_eq_false hmem] at hinx
          have HN := Lib.hid hinx
          have Hin := Lib.hid hin
          have Hnone := Lib.hid hnone
          have Hmem := Lib.hid hmem
          clear hin hinx hnone hmem
          go_wp2_with fail
          go_big_quiet ((go_at_call 35; (first | (with_reducible exact quiet_dr1 (HN.out _ (hg.drewN _))) | (with_reducible exact quiet_dr0 (HN.out _ (hg.drewN _))))))
          have hg1 := hg.drewN nq
          have hRr := hRr.out.keep ((Gr.refl wr).drewN nq)
          have hRr := Lib.hid hRr
          clear i0
          generalize wr.drewN nq = w2 at *
          clear hg
          have hg := hg1
          clear hg1
          have i0 := hg.keep (Hc2.out k hlt)
          obtain ⟨a0, a1, a2, a3, a4, a5, a6, a7⟩ := Hc1.out (natAt order k) hx
          have a0 := (hg).keep a0
          have a1 := (hg).keep a1
          have a2 := (hg).keep a2
          have a3 := (hg).keep a3
          have a4 := (hg).keep a4
          have a5 := (hg).keep a5
          have a6 := (hg).keep a6
          have a7 := (hg).keep a7
          have hIe := run_ev cl Ho1.out hx
          obtain ⟨v0, v1, v2, v3, v4, v5, v6, v7⟩ := evbox w2 (evAt l (natAt order k))
          have hgx := (Gr.refl w2).alloc (.cells #[.int .i64 (evAt l (natAt order k)).thread, .int .i64 (evAt l (natAt order k)).kind, .string (evAt l (natAt order k)).key, .string (evAt l (natAt order k)).cval, .string (evAt l (natAt order k)).val, .int .i64 (evAt l (natAt order k)).code, .int .i64 (evAt l (natAt order k)).beg, .int .i64 (evAt l (natAt order k)).fin] 38)
          have HE2 := hgx
          clear hcut
          have hgw := hg.trans hgx
          have hRr := Lib.hid (hRr.out.keep hgx)
          go_wp2_with fail
          clear i0 a0 a1 a2 a3 a4 a5 a6 a7 hg hgx HE2 hI
          unfold evW at v0 v1 v2 v3 v4 v5 v6 v7
          generalize w2.heap.size = BX at *
          generalize w2.alloc (.cells #[.int .i64 (evAt l (natAt order k)).thread, .int .i64 (evAt l (natAt order k)).kind, .string (evAt l (natAt order k)).key, .string (evAt l (natAt order k)).cval, .string (evAt l (natAt order k)).val, .int .i64 (evAt l (natAt order k)).code, .int .i64 (evAt l (natAt order k)).beg, .int .i64 (evAt l (natAt order k)).fin] 38) = w3 at *
          go_loopw [12] (fun v wi => ∃ j : Nat, j ≤ nl ∧ v = .int .i64 j ∧ Hid (∀ i, i < j → i ∉ order.take k → i ≠ natAt order k → aheadB (evAt l i) (evAt l (natAt order k)) = false) ∧ Gr w3 wi) (fun v _ => nl - (intOf v).toNat)
          case atStart => exact ⟨0, Nat.zero_le _, rfl, Lib.hid fun j hj => by omega, Gr.refl _⟩
          case round =>
            obtain ⟨j, hj, rfl, hp, hgi⟩ := hrel
            have hg := hgw.trans hgi
            by_cases hjl : j < nl
            · have i0 := After.cell (hg.keep (Hc2.out k hlt))
              have hI := run_int ci Ho2.out hlt
              have hcut := run_take oi ni ci k (by omega)
              obtain ⟨a0, a1, a2, a3, a4, a5, a6, a7⟩ := Hc1.out j hjl
              have a0 := (hg).keep a0
              have a1 := (hg).keep a1
              have a2 := (hg).keep a2
              have a3 := (hg).keep a3
              have a4 := (hg).keep a4
              have a5 := (hg).keep a5
              have a6 := (hg).keep a6
              have a7 := (hg).keep a7
              have a0 := After.cell a0
              have a1 := After.cell a1
              have a2 := After.cell a2
              have a3 := After.cell a3
              have a4 := After.cell a4
              have a5 := After.cell a5
              have a6 := After.cell a6
              have a7 := After.cell a7
              have v0 := (hgi).keep v0
              have v1 := (hgi).keep v1
              have v2 := (hgi).keep v2
              have v3 := (hgi).keep v3
              have v4 := (hgi).keep v4
              have v5 := (hgi).keep v5
              have v6 := (hgi).keep v6
              have v7 := (hgi).keep v7
              have v0 := After.cell v0
              have v1 := After.cell v1
              have v2 := After.cell v2
              have v3 := After.cell v3
              have v4 := After.cell v4
              have v5 := After.cell v5
              have v6 := After.cell v6
              have v7 := After.cell v7
              have hIe2 := run_ev cl Ho1.out hjl
              have hA0 := fun w => refAhead_any (evAt l j) (evAt l (natAt order k)) w
              have hin := fun (p : After wr) => Hin.out j p.W (hg.trans p.gr)
              have Hnx : (j ∈ order.take k ∨ j = natAt order k ∨ aheadB (evAt l j) (evAt l (natAt order k)) = false) → Hid (∀ i, i < j + 1 → i ∉ order.take k → i ≠ natAt order k → aheadB (evAt l i) (evAt l (natAt order k)) = false) := fun hor => Lib.hid fun i hi h1 h2 => by
                rcases Nat.lt_or_ge i j with q | q
                · exact hp.out i q h1 h2
                · obtain rfl : i = j := by omega
                  rcases hor with r | r | r
                  · exact absurd r h1
                  · exact absurd r h2
                  · exact r
              by_cases hm : j ∈ order.take k
              · have hnx := Hnx (.inl hm)
                rw [decide_eq_true hm] at hin
                have HIn := Lib.hid hin
                clear hin Hnx hA0 hm
                go_wp2_with fail
                refine wp_region_after (by kernel_rfl) (by kernel_rfl) ?_
                repeat (go_big_quiet_step ((go_at_call 35; (with_reducible exact after_dr (HIn.out _)))))
                refine wpQuiet_nil ?_
                rintro _ ⟨⟨w1, hg1⟩, rfl⟩
                go_wp2_with fail
                go_roundw
                case rel => exact ⟨j + 1, by omega, by go_num, hnx, hgi.trans hg1⟩
                case measure => simp [intOf]; omega
              · rw [decide_eq_false hm] at hin
                have HIn := Lib.hid hin
                have Hm := Lib.hid hm
                clear hin hm
                by_cases hjx : j = natAt order k
                · have hne : ((j : Int) != ((natAt order k : Nat) : Int)) = false := by rw [hjx]; simp
                  have hnx := Hnx (.inr (.inl hjx))
                  clear Hnx hA0 hjx
                  go_wp2_with fail
                  refine wp_region_after (by kernel_rfl) (by kernel_rfl) ?_
                  repeat (go_big_quiet_step ((go_at_call 35; (with_reducible exact after_dr (HIn.out _)))))
                  refine wpQuiet_nil ?_
                  rintro _ ⟨⟨w1, hg1⟩, rfl⟩
                  go_wp2_with fail
                  go_roundw
                  case rel => exact ⟨j + 1, by omega, by go_num, hnx, hgi.trans hg1⟩
                  case measure => simp [intOf]; omega
                · have hne : ((j : Int) != ((natAt order k : Nat) : Int)) = true := by simp; omega
                  have Hjx := Lib.hid hjx
                  clear hjx
                  cases hah : aheadB (evAt l j) (evAt l (natAt order k))
                  · have hnx := Hnx (.inr (.inr hah))
                    rw [hah] at hA0
                    have HA := Lib.hid hA0
                    clear Hnx hA0 hah
                    go_wp2_with fail
                    refine wp_region_after (by kernel_rfl) (by kernel_rfl) ?_
                    repeat (go_big_quiet_step ((first | (go_at_call 35; (with_reducible exact after_dr (HIn.out _))) | (go_at_call 36; (with_reducible exact after_gr (HA.out _))))))
                    refine wpQuiet_nil ?_
                    rintro _ ⟨⟨w1, hg1⟩, rfl⟩
                    go_wp2_with fail
                    go_roundw
                    case rel => exact ⟨j + 1, by omega, by go_num, hnx, hgi.trans hg1⟩
                    case measure => simp [intOf]; omega
                  · have hfin := Hnone.out (by
                      unfold goodOk
                      rw [Bool.and_eq_false_iff]
                      right
                      rw [decide_eq_false_iff_not]
                      intro q
                      rw [q j (by omega) Hm.out Hjx.out] at hah
                      cases hah)
                    have Hfin := Lib.hid hfin
                    rw [hah] at hA0
                    have HA := Lib.hid hA0
                    clear Hnx hA0 hah hfin
                    go_wp2_with fail
                    refine wp_region_after (by kernel_rfl) (by kernel_rfl) ?_
                    repeat (go_big_quiet_step ((first | (go_at_call 35; (with_reducible exact after_dr (HIn.out _))) | (go_at_call 36; (with_reducible exact after_gr (HA.out _))))))
                    refine wpQuiet_nil ?_
                    rintro _ ⟨⟨w1, hg1⟩, rfl⟩
                    go_wp2_with fail
                    go_ret2
                    rw [Hfin.out]
                    exact ⟨rfl, hg.trans hg1⟩
            · obtain rfl : j = nl := by omega
              have hok : goodOk l (order.take k) (natAt order k) = true := by
                unfold goodOk
                rw [Bool.and_eq_true, Bool.and_eq_true, decide_eq_true_iff, decide_eq_true_iff, decide_eq_false Hmem.out]
                exact ⟨⟨by omega, rfl⟩, fun i hi h1 h2 => hp.out i (by omega) h1 h2⟩
              have hT2 := hT.out
              rw [good_step (by omega), hok, if_pos rfl] at hT2
              have v0 := (hgi).keep v0
              have v1 := (hgi).keep v1
              have v2 := (hgi).keep v2
              have v3 := (hgi).keep v3
              have v4 := (hgi).keep v4
              have v5 := (hgi).keep v5
              have v6 := (hgi).keep v6
              have v7 := (hgi).keep v7
              have hRr := Lib.hid (hRr.out.keep hgi)
              have hkd := ok_kinds (Hk.out _ hx)
              have hz := Hz.out _ hx
              have hst : stepG rl (evAt l (natAt order k)) = if idleB (evAt l (natAt order k)) = true then some rl else if 0 ≤ (evAt l (natAt order k)).fin ∧ ((applyL (evAt l (natAt order k)).kind (evAt l (natAt order k)).key (evAt l (natAt order k)).cval rl).2.1 ≠ (evAt l (natAt order k)).val ∨ (applyL (evAt l (natAt order k)).kind (evAt l (natAt order k)).key (evAt l (natAt order k)).cval rl).2.2 ≠ (evAt l (natAt order k)).code) then none else some (applyL (evAt l (natAt order k)).kind (evAt l (natAt order k)).key (evAt l (natAt order k)).cval rl).1 := rfl
              have hal := applyL_length (kind := (evAt l (natAt order k)).kind) (key := (evAt l (natAt order k)).key) (val := (evAt l (natAt order k)).cval) (l := rl)
              have hql := hRr.out.len
              have hAp := fun w1 (hq : Gr wr w1) => refApply_any o' q c' rl (evAt l (natAt order k)).kind (evAt l (natAt order k)).key (evAt l (natAt order k)).cval w1 (hRr.out.keep hq) (by omega) hz.1 hz.2.1 hkd
              generalize applyL (evAt l (natAt order k)).kind (evAt l (natAt order k)).key (evAt l (natAt order k)).cval rl = r at *
              obtain ⟨rl2, rt, rc⟩ := r
              unfold idleB at hst
              have HAp := Lib.hid hAp
              clear hAp hp Hin Hnone hgi hgw HN hok hT
              have idle : (some rl : Option (List Rw)) = stepG rl (evAt l (natAt order k)) → Hid (goodGo l [] order rows = goodGo l (order.take (k + 1)) (order.drop (k + 1)) rl) := fun q => Lib.hid (by rw [hT2, ← q])
              have nextT : (some rl2 : Option (List Rw)) = stepG rl (evAt l (natAt order k)) → Hid (goodGo l [] order rows = goodGo l (order.take (k + 1)) (order.drop (k + 1)) rl2) := fun q => Lib.hid (by rw [hT2, ← q])
              have noneT : none = stepG rl (evAt l (natAt order k)) → G = none := fun q => by
                rw [← HG.out]
                unfold goodF
                rw [hT2, ← q]
              by_cases hf : 0 ≤ (evAt l (natAt order k)).fin
              · by_cases hi : (evAt l (natAt order k)).code = 3 ∨ (evAt l (natAt order k)).code = 5
                · have hidl : (decide (0 ≤ (evAt l (natAt order k)).fin) && (decide ((evAt l (natAt order k)).code = 3) || decide ((evAt l (natAt order k)).code = 5))) = true := by simp [hf, hi]
                  rw [if_pos hidl] at hst
                  have hId := idle hst.symm
                  have hf' : decide (0 ≤ (evAt l (natAt order k)).fin) = true := decide_eq_true hf
                  clear idle nextT noneT hst hT2 hidl
                  rcases hi with hi | hi
                  all_goals
                    rw [hi] at v5
                    go_wp2_with fail
                    go_roundw
                    case rel => exact ⟨k + 1, _, _, _, rl, by omega, by go_num, rfl, hRr, by omega, hId, hg⟩
                    case measure => simp [intOf]; omega
                · have h3 : ((evAt l (natAt order k)).code == 3) = false := by simp; omega
                  have h5 : ((evAt l (natAt order k)).code == 5) = false := by simp; omega
                  have hidl : (decide (0 ≤ (evAt l (natAt order k)).fin) && (decide ((evAt l (natAt order k)).code = 3) || decide ((evAt l (natAt order k)).code = 5))) = false := by
                    rw [decide_eq_false (fun q => hi (.inl q)), decide_eq_false (fun q => hi (.inr q))]; simp
                  rw [hidl, if_neg (by decide)] at hst
                  have hf' : decide (0 ≤ (evAt l (natAt order k)).fin) = true := decide_eq_true hf
                  by_cases hval : rt = (evAt l (natAt order k)).val
                  · have hve := eqL hval
                    by_cases hcode : rc = (evAt l (natAt order k)).code
                    · have hce : (rc == (evAt l (natAt order k)).code) = true := by rw [hcode]; simp
                      rw [if_neg (by rintro ⟨-, q | q⟩; exact q hval; exact q hcode)] at hst
                      have hNx := nextT hst.symm
                      clear idle nextT noneT hst hT2 hidl hval hcode hi hf
                      go_wp2_with fail
                      refine (HAp.out _ (Gr.refl _)).mono ?_
                      rintro e w4 ⟨o4, q4, c4, rfl, hr4, hg4⟩
                      have v0 := (hg4).keep v0
                      have v1 := (hg4).keep v1
                      have v2 := (hg4).keep v2
                      have v3 := (hg4).keep v3
                      have v4 := (hg4).keep v4
                      have v5 := (hg4).keep v5
                      have v6 := (hg4).keep v6
                      have v7 := (hg4).keep v7
                      have hr4 := Lib.hid hr4
                      have hgn := hg.trans hg4
                      have hq4 := hr4.out.len
                      clear HAp hg hg4 hRr
                      go_wp2_with fail
                      go_roundw
                      case rel => exact ⟨k + 1, _, _, _, rl2, by omega, by go_num, rfl, hr4, by (first | omega | (simp only [] at *; omega)), hNx, hgn⟩
                      case measure => simp [intOf]; omega
                    · have hce : (rc == (evAt l (natAt order k)).code) = false := by simp; exact hcode
                      rw [if_pos ⟨hf, .inr hcode⟩] at hst
                      have hNo := Lib.hid (noneT hst.symm)
                      clear idle nextT noneT hst hT2 hidl hval hcode hi hf
                      go_wp2_with fail
                      refine (HAp.out _ (Gr.refl _)).mono ?_
                      rintro e w4 ⟨o4, q4, c4, rfl, hr4, hg4⟩
                      have v0 := (hg4).keep v0
                      have v1 := (hg4).keep v1
                      have v2 := (hg4).keep v2
                      have v3 := (hg4).keep v3
                      have v4 := (hg4).keep v4
                      have v5 := (hg4).keep v5
                      have v6 := (hg4).keep v6
                      have v7 := (hg4).keep v7
                      have hr4 := Lib.hid hr4
                      have hgn := hg.trans hg4
                      have hq4 := hr4.out.len
                      clear HAp hg hg4 hRr
                      go_wp2_with fail
                      go_ret2
                      rw [hNo.out]
                      exact ⟨rfl, hgn⟩
                  · have hve := neL hval
                    rw [if_pos ⟨hf, .inl hval⟩] at hst
                    have hNo := Lib.hid (noneT hst.symm)
                    clear idle nextT noneT hst hT2 hidl hval hi hf
                    go_wp2_with fail
                    refine (HAp.out _ (Gr.refl _)).mono ?_
                    rintro e w4 ⟨o4, q4, c4, rfl, hr4, hg4⟩
                    have v0 := (hg4).keep v0
                    have v1 := (hg4).keep v1
                    have v2 := (hg4).keep v2
                    have v3 := (hg4).keep v3
                    have v4 := (hg4).keep v4
                    have v5 := (hg4).keep v5
                    have v6 := (hg4).keep v6
                    have v7 := (hg4).keep v7
                    have hr4 := Lib.hid hr4
                    have hgn := hg.trans hg4
                    have hq4 := hr4.out.len
                    clear HAp hg hg4 hRr
                    go_wp2_with fail
                    go_ret2
                    rw [hNo.out]
                    exact ⟨rfl, hgn⟩
              · have hidl : (decide (0 ≤ (evAt l (natAt order k)).fin) && (decide ((evAt l (natAt order k)).code = 3) || decide ((evAt l (natAt order k)).code = 5))) = false := by
                  rw [decide_eq_false hf]; rfl
                rw [hidl, if_neg (by decide), if_neg (fun q => hf q.1)] at hst
                have hNx := nextT hst.symm
                have hf' : decide (0 ≤ (evAt l (natAt order k)).fin) = false := decide_eq_false hf
                clear idle nextT noneT hst hT2 hidl hf
                go_wp2_with fail
                refine (HAp.out _ (Gr.refl _)).mono ?_
                rintro e w4 ⟨o4, q4, c4, rfl, hr4, hg4⟩
                have v0 := (hg4).keep v0
                have v1 := (hg4).keep v1
                have v2 := (hg4).keep v2
                have v3 := (hg4).keep v3
                have v4 := (hg4).keep v4
                have v5 := (hg4).keep v5
                have v6 := (hg4).keep v6
                have v7 := (hg4).keep v7
                have hr4 := Lib.hid hr4
                have hgn := hg.trans hg4
                have hq4 := hr4.out.len
                clear HAp hg hg4 hRr
                go_wp2_with fail
                go_roundw
                case rel => exact ⟨k + 1, _, _, _, rl2, by omega, by go_num, rfl, hr4, by (first | omega | (simp only [] at *; omega)), hNx, hgn⟩
                case measure => simp [intOf]; omega
      · have hfin := hnone (by unfold goodOk; rw [decide_eq_false (show ¬ natAt order k < l.length by omega)]; rfl)
        have Hfin := Lib.hid hfin
        have hge : decide (nl ≤ natAt order k) = true := decide_eq_true (by omega)
        clear hfin hin hnone
        go_wp2_with fail
        go_big_quiet (fail)
        go_wp2_with fail
        go_ret2
        rw [Hfin.out]
        exact ⟨rfl, hg.drewN _⟩
    · obtain rfl : k = ni := by omega
      have hT2 := hT.out
      rw [List.take_of_length_le (by omega), List.drop_of_length_le (by omega)] at hT2
      have hT3 : goodGo l [] order rows = some rl := hT2
      have HT3 := Lib.hid hT3
      clear hT hT2 hT3
      go_wp2_with fail
      rename_i KQ1 KQ2
      have hgw := hg
      clear hg
      go_loopw [16] (fun v wj => ∃ j : Nat, j ≤ nl ∧ v = .int .i64 j ∧ Hid (∀ i, i < j → wh = true → i ∈ order ∨ (evAt l i).fin < 0) ∧ Gr wr wj) (fun v _ => nl - (intOf v).toNat)
      case atStart => exact ⟨0, Nat.zero_le _, rfl, Lib.hid fun j hj => by omega, Gr.refl _⟩
      case round =>
        obtain ⟨j, hj, rfl, hp, hgi⟩ := hrel
        have hg := hgw.trans hgi
        by_cases hjl : j < nl
        · obtain ⟨a0, a1, a2, a3, a4, a5, a6, a7⟩ := Hc1.out j hjl
          have a0 := (hg).keep a0
          have a1 := (hg).keep a1
          have a2 := (hg).keep a2
          have a3 := (hg).keep a3
          have a4 := (hg).keep a4
          have a5 := (hg).keep a5
          have a6 := (hg).keep a6
          have a7 := (hg).keep a7
          have hIe := run_ev cl Ho1.out hjl
          have Hnx : (wh = true → j ∈ order ∨ (evAt l j).fin < 0) → Hid (∀ i, i < j + 1 → wh = true → i ∈ order ∨ (evAt l i).fin < 0) := fun hor => Lib.hid fun i hi h1 => by
            rcases Nat.lt_or_ge i j with q | q
            · exact hp.out i q h1
            · obtain rfl : i = j := by omega
              exact hor h1
          cases wh
          · have hnx := Hnx (fun q => by cases q)
            clear Hnx hp
            go_wp2_with fail
            go_roundw
            case rel => exact ⟨j + 1, by omega, by go_num, (by simpa using hnx), hgi⟩
            case measure => simp [intOf]; omega
          · by_cases hf : 0 ≤ (evAt l j).fin
            · have hf' : decide (0 ≤ (evAt l j).fin) = true := decide_eq_true hf
              have hin := in_any oi k ci order j wr (H2.out.keep hg)
              by_cases hm : j ∈ order
              · have hnx := Hnx (fun _ => .inl hm)
                rw [decide_eq_true hm] at hin
                have HIn := Lib.hid hin
                clear Hnx hp hin hm hf
                go_wp2_with fail
                refine HIn.out.mono ?_
                rintro e w4 ⟨rfl, hd⟩
                have hgn := hgi.trans hd.gr
                clear HIn hd
                go_wp2_with fail
                go_roundw
                case rel => exact ⟨j + 1, by omega, by go_num, (by simpa using hnx), hgn⟩
                case measure => simp [intOf]; omega
              · have hno : G = none := by
                  rw [← HG.out]
                  unfold goodF
                  rw [HT3.out]
                  have e : allIn l order = false := by
                    unfold allIn
                    rw [decide_eq_false_iff_not]
                    intro q
                    rcases q j (by omega) with r | r
                    · exact hm r
                    · omega
                  rw [e]; rfl
                have Hno := Lib.hid hno
                rw [decide_eq_false hm] at hin
                have HIn := Lib.hid hin
                clear Hnx hp hin hm hf hno
                go_wp2_with fail
                refine HIn.out.mono ?_
                rintro e w4 ⟨rfl, hd⟩
                have hgn := hg.trans hd.gr
                clear HIn hd
                go_wp2_with fail
                go_ret2
                rw [Hno.out]
                exact ⟨rfl, hgn⟩
            · have hf' : decide (0 ≤ (evAt l j).fin) = false := decide_eq_false hf
              have hnx := Hnx (fun _ => .inr (by omega))
              clear Hnx hp hf
              go_wp2_with fail
              go_roundw
              case rel => exact ⟨j + 1, by omega, by go_num, (by simpa using hnx), hgi⟩
              case measure => simp [intOf]; omega
        · obtain rfl : j = nl := by omega
          have hyes : G = some rl := by
            rw [← HG.out]
            unfold goodF
            rw [HT3.out]
            by_cases hw : wh = true
            · have e : allIn l order = true := by
                unfold allIn
                rw [decide_eq_true_iff]
                intro i hi
                exact hp.out i (by omega) hw
              rw [e]; simp
            · simp [hw]
          have Hyes := Lib.hid hyes
          have hRr := Lib.hid (hRr.out.keep hgi)
          clear hp hyes
          go_wp2_with fail
          go_ret2
          rw [Hyes.out]
          exact ⟨_, _, _, rfl, hRr.out, hg⟩
end Go.Proofs.YtkngjnkecmjakaaDoor
