import Derived.Test.YtfejdbcfcpmdiaaDoorCxz
import Derived.Test.YtfejdbcfcpmdiaaDoorOpenDz
import Derived.Test.YtfejdbcfcpmdiaaDoorDoorz
import Derived.Laws.StructEq
namespace Go.Proofs.YtfejdbcfcpmdiaaDoor
set_option linter.unusedVariables false
set_option linter.unusedSimpArgs false
open Go.BigFrame Go.RowKit Go.WideShapes

/-! The laws' own functions: few, fews, same. -/
def FewB (l : List Wt) (e : Ending) : Prop := ∃ b : Bool, e = .returned (.bool b) ∧ (b = true → FewWs l)
theorem fewWs_of {l : List Wt} (h1 : l.length ≤ 40) (h2 : ∀ j, j < l.length → (wAt l j).key.size ≤ 1000 ∧ (wAt l j).val.size ≤ 1000) : FewWs l :=
  ⟨h1, fun x hx => by
    obtain ⟨j, hj, rfl⟩ := List.mem_iff_getElem.1 hx
    have := h2 j hj
    rwa [wAt_lt hj] at this⟩
set_option maxRecDepth 100000 in
set_option maxHeartbeats 1000000 in
theorem few_ws (oa : Option Addr) (n cap : Nat) (l : List Wt) (w : World) (h : WritesAt w oa n cap l) :
    Calls Tryd.prog 16 #[.slice oa n cap] w fun e w' => FewB l e ∧ Dr w w' := by
  obtain ⟨b1, off1, ho1, hc1⟩ := h.cells
  have Hc1 := Lib.hid hc1
  have Ho1 := Lib.hid (fun q => (ho1 q).1)
  have H1 := Lib.hid h
  have hn1 := h.cap_le
  have hm1 := h.cap_max
  unfold maxLen at hm1
  clear hc1 ho1 h
  go_enter Tryd.func16, Tryd.ntmps16
  go_wp2
  go_loopw [3, 4] (fun s i wr => ∃ k m : Nat, k ≤ n ∧ k ≤ 41 ∧ m ≤ k * 2002 ∧ i = .int .i64 k ∧ s = .int .i64 m ∧ Hid (m ≤ 1000 → ∀ j, j < k → (wAt l j).key.size ≤ 1000 ∧ (wAt l j).val.size ≤ 1000) ∧ Dr w wr) (fun _ i _ => n - (intOf i).toNat)
  case atStart => exact ⟨0, 0, Nat.zero_le _, Nat.zero_le _, Nat.zero_le _, rfl, rfl, Lib.hid (fun _ j hj => by omega), Dr.refl _⟩
  case round =>
    obtain ⟨k, m, hk, hk2, hm, rfl, rfl, hs, d, rfl⟩ := hrel
    by_cases hlt : k < n ∧ k ≤ 40
    · obtain ⟨hlt, hk3⟩ := hlt
      obtain ⟨a1, a2, -⟩ := Hc1.out k hlt
      have hI := run_rwr cap Ho1.out hlt
      go_wp2_with fail
      go_big_quiet (fail)
      go_wp2_with fail
      go_roundw
      case rel =>
        refine ⟨k + 1, m + (min (wAt l k).key.size 1001 + min (wAt l k).val.size 1001), by omega, by omega, by omega, by go_num, ?_, Lib.hid (fun q j hj => ?_), by repeat (first | with_reducible exact Dr.refl _ | with_reducible refine Dr.step ?_ _ | with_reducible refine Dr.drew ?_ | (with_reducible refine Dr.trans ?_ (by assumption)))⟩
        · go_num
        · by_cases e : j = k
          · subst e; omega
          · exact hs.out (by omega) j (by omega)
      case measure => simp [intOf]; omega
    · by_cases hk40 : k ≤ 40
      · obtain rfl : k = n := by omega
        have hd1 : decide (k ≤ 40) = true := by simpa using hk40
        go_wp2_with fail
        go_ret
        exact ⟨⟨_, rfl, fun q => fewWs_of (by rw [H1.out.len]; exact hk40) fun j hj => hs.out (by simp only [decide_eq_true_eq] at q; omega) j (by rw [H1.out.len] at hj; exact hj)⟩, by repeat (first | with_reducible exact Dr.refl _ | with_reducible refine Dr.step ?_ _ | with_reducible refine Dr.drew ?_ | (with_reducible refine Dr.trans ?_ (by assumption)))⟩
      · have hd1 : decide (k ≤ 40) = false := by simpa using hk40
        have hd3 : decide (n ≤ 40) = false := by simp; omega
        by_cases hkn : k < n
        · have hd4 : decide (k < n) = true := by simpa using hkn
          go_wp2_with fail
          go_ret
          exact ⟨⟨false, rfl, fun q => by cases q⟩, by repeat (first | with_reducible exact Dr.refl _ | with_reducible refine Dr.step ?_ _ | with_reducible refine Dr.drew ?_ | (with_reducible refine Dr.trans ?_ (by assumption)))⟩
        · have hd4 : decide (k < n) = false := by simpa using hkn
          go_wp2_with fail
          go_ret
          exact ⟨⟨false, rfl, fun q => by cases q⟩, by repeat (first | with_reducible exact Dr.refl _ | with_reducible refine Dr.step ?_ _ | with_reducible refine Dr.drew ?_ | (with_reducible refine Dr.trans ?_ (by assumption)))⟩
theorem run_do {oa : Option Addr} {n b off : Nat} (cap : Nat) (ho : 0 < n → oa = some ⟨b, off, none⟩) {k : Nat} (hk : k < n) (w : World) :
    (Instr.indexAt 22 (.slice oa n cap) (.int .i64 (k : Int))).run Tryd.prog w = .ok (.pointer (some ⟨b, off + k * 5, none⟩)) w := by
  rw [ho (by omega)]
  go_simp
abbrev zDo : List Value := [.int .i64 0, .int .i64 0, .int .i64 0, .bool false, .slice none 0 0]
def FewDs (l : List Ds) : Prop := l.length ≤ 60 ∧ ∀ d ∈ l, FewWs d.l
def FewsB (l : List Ds) (e : Ending) : Prop := ∃ b : Bool, e = .returned (.bool b) ∧ (b = true → FewDs l)
set_option maxRecDepth 100000 in
set_option maxHeartbeats 1000000 in
theorem fews_v (oa : Option Addr) (n cap : Nat) (l : List Ds) (w : World) (h : DosAt w oa n cap l) :
    Calls Tryd.prog 6 #[.slice oa n cap] w fun e w' => FewsB l e ∧ Gr w w' := by
  have hcl := h.cap_le
  have hcm := h.cap_max
  unfold maxLen at hcm
  obtain ⟨b, off, ho, hc⟩ := h.get
  have Ho := Lib.hid ho
  have Hc := Lib.hid hc
  have Hl := Lib.hid h.len
  clear ho hc h
  go_enter Tryd.func6, Tryd.ntmps6
  go_wp2_with fail
  go_loopw [7] (fun s7 wr => ∃ (k : Nat), k ≤ n ∧ s7 = .int .i64 k ∧ Hid (∀ (j : Nat) (d : Ds), j < k → l[j]? = some d → FewWs d.l) ∧ Gr w wr) (fun s7 _ => n - (intOf s7).toNat)
  case atStart => exact ⟨0, Nat.zero_le _, rfl, Lib.hid (fun j d hj => by omega), Gr.refl _⟩
  case round =>
    obtain ⟨k, hk, rfl, hF, hg⟩ := hrel
    by_cases hlt : k < n
    · have hy : l[k]? = some (l[k]'(by have := Hl.out; omega)) := List.getElem?_eq_getElem _
      generalize (l[k]'(by have := Hl.out; omega)) = d at hy
      obtain ⟨p1, m1, c1, D0⟩ := Hc.out k d hy
      have D1 := D0.keep hg
      have hI := run_do cap Ho.out hlt
      have Hy := Lib.hid hy
      have Z := (Bx.new wr zDo.toArray 36 rfl).of (us := zDo) (by simp)
      clear hy D0
      go_upto_region 4 with (first | (refine wpList_load_mid rfl 36 _ rfl _ _ rfl _ _ (D1).rng Tryd.underlying36 rfl (by kernel_rfl) ?_) | ((with_reducible refine wpList_store_box (ty := 36) (Z) ((doL d p1 m1 c1)) ?_ ?_ ?_ ?_ ?_ ?_); (focus (exact rfl)); (focus (exact ⟨_, _, rfl, rfl, rfl⟩)); (focus (exact rfl)); (focus kernel_rfl); (focus kernel_rfl)))
      have B4 := Z.setAll (us := doL d p1 m1 c1) rfl
      have hg4 : Gr wr ((wr.alloc (.cells zDo.toArray 36)).setCells wr.heap.size 0 (doL d p1 m1 c1)) := ((Gr.refl wr).alloc _).setCells (Nat.le_refl _) _ _
      have HW := Lib.hid (few_ws p1 m1 c1 d.l _ (D1.ws.keep hg4))
      clear Z D1 hI
      generalize (wr.alloc (.cells zDo.toArray 36)).setCells wr.heap.size 0 (doL d p1 m1 c1) = w4 at *
      generalize wr.heap.size = b4 at *
      (try simp only [Act.put])
      have d4 := B4.cell 4 rfl
      have hgw := hg.trans hg4
      clear B4 hg hg4
      go_wp2_with fail
      refine HW.out.mono ?_
      rintro e w5 ⟨⟨b, rfl, hb⟩, hd5⟩
      have Hgw := Lib.hid (hgw.trans hd5.gr)
      have Hb := Lib.hid hb
      clear hb hd5 hgw d4
      cases b
      · go_wp2_with fail
        go_ret
        exact ⟨⟨false, rfl, fun q => by cases q⟩, Hgw.out⟩
      · go_wp2_with fail
        go_roundw
        case rel => exact ⟨k + 1, by omega, by go_num, Lib.hid (fun j d' hj hd' => by
          by_cases e : j = k
          · subst e; rw [Hy.out] at hd'; obtain rfl := Option.some.inj hd'; first | exact Hb.out rfl | exact Hb.out trivial
          · exact hF.out j d' (by omega) hd'), Hgw.out⟩
        case measure => simp [intOf]; omega
    · obtain rfl : k = n := by omega
      go_wp2_with fail
      go_ret
      exact ⟨⟨_, rfl, fun q => ⟨by rw [Hl.out]; simp only [decide_eq_true_eq] at q; omega, fun d hd => by
        obtain ⟨j, hj, rfl⟩ := List.mem_iff_getElem.1 hd
        exact hF.out j _ (by rw [← Hl.out]; exact hj) (List.getElem?_eq_getElem hj)⟩⟩, hg⟩
set_option maxRecDepth 100000 in
set_option maxHeartbeats 1000000 in
theorem sameW_any (oa : Option Addr) (n cap : Nat) (ob : Option Addr) (m cap2 : Nat) (l : List Wt) (w : World) (h : WritesAt w oa n cap l) (h2 : WritesAt w ob m cap2 l) :
    Calls Tryd.prog 23 #[.slice oa n cap, .slice ob m cap2] w fun e w' => e = .returned (.bool true) ∧ Dr w w' := by
  obtain rfl : n = m := by rw [← h.len, ← h2.len]
  obtain ⟨b1, off1, ho1, hc1⟩ := h.cells
  have Hc1 := Lib.hid hc1
  have Ho1 := Lib.hid (fun q => (ho1 q).1)
  have H1 := Lib.hid h
  have hn1 := h.cap_le
  have hm1 := h.cap_max
  unfold maxLen at hm1
  clear hc1 ho1 h
  obtain ⟨b2, off2, ho2, hc2⟩ := h2.cells
  have Hc2 := Lib.hid hc2
  have Ho2 := Lib.hid (fun q => (ho2 q).1)
  have H2 := Lib.hid h2
  have hn2 := h2.cap_le
  have hm2 := h2.cap_max
  unfold maxLen at hm2
  clear hc2 ho2 h2
  have hnn : ((n : Int) != (n : Int)) = false := by simp
  go_enter Tryd.func23, Tryd.ntmps23
  go_wp2_with fail
  go_loopw [13] (fun s13 wr => ∃ k : Nat, k ≤ n ∧ s13 = .int .i64 k ∧ Dr w wr) (fun s13 _ => n - (intOf s13).toNat)
  case atStart => exact ⟨0, Nat.zero_le _, rfl, Dr.refl _⟩
  case round =>
    obtain ⟨k, hk, rfl, d, rfl⟩ := hrel
    by_cases hlt : k < n
    · obtain ⟨a1, a2, a3⟩ := Hc1.out k hlt
      obtain ⟨e1, e2, e3⟩ := Hc2.out k hlt
      have hI := run_wr cap Ho1.out hlt
      have hI2 := run_rwr cap2 Ho2.out hlt
      generalize wAt l k = x at *
      go_wp2_with fail
      go_big_quiet (fail)
      go_wp2_with fail
      go_roundw
      case rel => exact ⟨k + 1, by omega, by go_num, by repeat (first | with_reducible exact Dr.refl _ | with_reducible refine Dr.step ?_ _ | with_reducible refine Dr.drew ?_ | (with_reducible refine Dr.trans ?_ (by assumption)))⟩
      case measure => simp [intOf]; omega
    · obtain rfl : k = n := by omega
      go_wp2_with fail
      go_ret
      exact ⟨rfl, by repeat (first | with_reducible exact Dr.refl _ | with_reducible refine Dr.step ?_ _ | with_reducible refine Dr.drew ?_ | (with_reducible refine Dr.trans ?_ (by assumption)))⟩
end Go.Proofs.YtfejdbcfcpmdiaaDoor
