import Derived.Test.YtopomocbjlikjaaOvz
import Derived.Test.YtopomocbjlikjaaPtOz
namespace Go.Proofs.Ytopomocbjlikjaa
set_option linter.unusedVariables false
set_option linter.unusedSimpArgs false
open Go.BigFrame Go.RowKit Go.WideShapes

set_option maxRecDepth 100000 in
set_option maxHeartbeats 8000000 in
theorem over_own (oa : Option Addr) (n cap : Nat) (l : List Rw) (bp np : Nat) (L : List Pw) (w : World) (h : RowsAt w oa n cap l) (hP : PartsC w bp np L) (hn : n ≤ 100) (hnp : np ≤ 4) :
    Calls Try.prog 35 #[.slice oa n cap, .slice (some ⟨bp, 0, none⟩) np np] w fun e w' => ∃ o q c, e = .returned (.slice o q c) ∧ OwnAt w' w.heap.size o q c (overs l L np) ∧ Gr w w' := by
  have H := Lib.hid h
  have HP := Lib.hid hP
  clear h hP
  go_enter Try.func35, Try.ntmps35
  go_wp2_with fail
  refine (copy_any oa n cap l w H.out (by omega)).mono ?_
  rintro e w1 ⟨o1, m1, c1, rfl, -, hg1, base1, hbase1, hr1⟩
  have R1 := Lib.hid (hr1.lower2 hbase1)
  clear hr1 hbase1
  have hll := H.out.len
  have hLl := HP.out.len
  have hsm : ∀ i, i < L.length → (pwAt L i).l.length ≤ 40 := fun i hi => by
    rw [(HP.out.cells i (by omega)).2.len]; exact HP.out.small i (by omega)
  have Hsm := Lib.hid hsm
  clear hsm
  go_wp2_with fail
  go_loopw [5, 17] (fun s i wr => ∃ (k : Nat) (o : Option Addr) (q c : Nat), k ≤ np ∧ i = .int .i64 k ∧ s = .slice o q c ∧ Hid (OwnAt wr w.heap.size o q c (overs l L k)) ∧ Gr w wr) (fun _ i _ => np - (intOf i).toNat)
  case atStart => exact ⟨0, o1, m1, c1, Nat.zero_le _, rfl, rfl, R1, hg1⟩
  case round =>
    obtain ⟨k, o, q, c, hk, rfl, rfl, hR, hg⟩ := hrel
    by_cases hlt : k < np
    · obtain ⟨a1, hW0⟩ := HP.out.cells k hlt
      have a1 := hg.keep a1
      have hkl : k < L.length := by omega
      have Hnext := Lib.hid (overs_next (l := l) hkl)
      have hol := overs_length (l := l) Hsm.out k (by omega)
      have hpl := Hsm.out k hkl
      have hnsm := HP.out.small k hlt
      have hW := hW0.keep hg
      clear hW0
      generalize (pwAt L k).oa = po at *
      generalize (pwAt L k).n = m at *
      generalize (pwAt L k).cap = pc at *
      generalize (pwAt L k).l = p at *
      generalize overs l L k = X at *
      obtain ⟨b2, off2, ho2, hc2⟩ := hW.cells
      have Hc2 := Lib.hid hc2
      have Ho2 := Lib.hid (fun q => (ho2 q).1)
      have H2 := Lib.hid hW
      have hn2 := hW.cap_le
      have hm2 := hW.cap_max
      unfold maxLen at hm2
      clear hc2 ho2 hW
      go_wp2_with fail
      go_loopw [5, 23] (fun s i wj => ∃ (j : Nat) (o : Option Addr) (q c : Nat), j ≤ m ∧ i = .int .i64 j ∧ s = .slice o q c ∧ Hid (OwnAt wj w.heap.size o q c (overL X (p.take j))) ∧ Gr wr wj) (fun _ i _ => m - (intOf i).toNat)
      case atStart => exact ⟨0, o, q, c, Nat.zero_le _, rfl, rfl, hR, Gr.refl _⟩
      case round =>
        obtain ⟨j, o, q, c, hj, rfl, rfl, hRj, hgj⟩ := hrel
        by_cases hjl : j < m
        · obtain ⟨b1, b2', b3⟩ := Hc2.out j hjl
          have b1 := hgj.keep b1
          have b2' := hgj.keep b2'
          have b3 := hgj.keep b3
          have hI := run_wr pc Ho2.out hjl
          have hjp : j < p.length := by rw [H2.out.len]; exact hjl
          have hs1 := (H2.out.sizes j hjl).1
          have hs2 := (H2.out.sizes j hjl).2
          have hst := overL_take (l := X) hjp
          have hql : q ≤ 2000 := by
            have h1 := hRj.out.rows.len
            have h2 := overL_length X (p.take j)
            rw [List.length_take] at h2
            omega
          cases hgone : (wAt p j).gone
          · rw [hgone] at b3
            cases hf : fitsB ⟨(wAt p j).key, (wAt p j).val⟩
            · have e : stepL (overL X (p.take j)) (wAt p j) = overL X (p.take j) := by unfold stepL; rw [hgone, hf]; rfl
              rw [e] at hst
              have Hst := Lib.hid hst
              have HPb := Lib.hid (fun w2 => put_bad o q c (wAt p j).key (wAt p j).val w2 hs1 hs2 hf)
              clear hst e hf hgone
              go_wp2_with fail
              with_reducible refine (HPb.out _).mono ?_
              rintro e w5 ⟨rfl, hg5⟩
              have hg05 := ((Gr.refl wr).alloc _).trans hg5
              have hg15 := hgj.trans hg05
              have hRn := Lib.hid (hRj.out.keep hg05)
              clear hg5 HPb hg05
              go_wp2_with fail
              go_roundw
              case rel => exact ⟨j + 1, o, q, c, by omega, by go_num, rfl, Lib.hid (by rw [Hst.out]; exact hRn.out), hg15⟩
              case measure => simp [intOf]; omega
            · have e : stepL (overL X (p.take j)) (wAt p j) = putL (overL X (p.take j)) ⟨(wAt p j).key, (wAt p j).val⟩ := by unfold stepL; rw [hgone, hf]; rfl
              rw [e] at hst
              have Hst := Lib.hid hst
              have HPb := Lib.hid (fun w2 (hq : Gr wr w2) => put_own o q c _ (wAt p j).key (wAt p j).val w2 (hRj.out.rows.keep hq) (by omega) hs1 hs2 hf)
              clear hst e hf hgone
              go_wp2_with fail
              with_reducible refine (HPb.out _ ((Gr.refl wr).alloc _)).mono ?_
              rintro e w5 ⟨o5, m5, c5, rfl, hr5, hg5⟩
              have hg05 := ((Gr.refl wr).alloc _).trans hg5
              have hg15 := hgj.trans hg05
              have hRn := Lib.hid (hr5.lower2 (Nat.le_trans (hg.trans hgj).le (((Gr.refl _).alloc _).le)))
              clear hg5 HPb hg05 hr5
              go_wp2_with fail
              go_roundw
              case rel => exact ⟨j + 1, o5, m5, c5, by omega, by go_num, rfl, Lib.hid (by rw [Hst.out]; exact hRn.out), hg15⟩
              case measure => simp [intOf]; omega
          · rw [hgone] at b3
            have e : stepL (overL X (p.take j)) (wAt p j) = dropL (overL X (p.take j)) (wAt p j).key := by unfold stepL; rw [hgone]; rfl
            rw [e] at hst
            have Hst := Lib.hid hst
            have HD := Lib.hid (fun w2 (hq : Gr wr w2) => drop_own o q c _ (wAt p j).key w2 (hRj.out.rows.keep hq) (by omega) hs1)
            clear hst e hgone
            go_wp2_with fail
            with_reducible refine (HD.out _ ((Gr.refl wr).alloc _)).mono ?_
            rintro e w5 ⟨o5, m5, c5, rfl, hr5, hg5⟩
            have hg05 := ((Gr.refl wr).alloc _).trans hg5
            have hg15 := hgj.trans hg05
            have hRn := Lib.hid (hr5.lower2 (Nat.le_trans (hg.trans hgj).le (((Gr.refl _).alloc _).le)))
            clear hg5 HD hg05 hr5
            go_wp2_with fail
            go_roundw
            case rel => exact ⟨j + 1, o5, m5, c5, by omega, by go_num, rfl, Lib.hid (by rw [Hst.out]; exact hRn.out), hg15⟩
            case measure => simp [intOf]; omega
        · obtain rfl : j = m := by omega
          rw [show p.take j = p from List.take_of_length_le (by rw [H2.out.len]; exact Nat.le_refl _)] at hRj
          have hgn := hg.trans hgj
          go_wp2_with fail
          go_roundw
          case rel => exact ⟨k + 1, o, q, c, by omega, by go_num, rfl, Lib.hid (by rw [Hnext.out]; exact hRj.out), hgn⟩
          case measure => simp [intOf]; omega
    · obtain rfl : k = np := by omega
      go_wp2_with fail
      go_ret
      exact ⟨o, q, c, rfl, hR.out, hg⟩
end Go.Proofs.Ytopomocbjlikjaa
