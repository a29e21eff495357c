import Derived.Test.YtkngjnkecmjakaaEo
namespace Go.Proofs.Ytkngjnkecmjakaa
set_option linter.unusedVariables false
set_option linter.unusedSimpArgs false
open Go.BigFrame Go.RowKit Go.WideShapes

/-- the events of a key -/
def ofL (key : ByteArray) (l : List Ev) : List Ev := l.filter fun e => decide (e.key = key)
theorem ofL_next {key : ByteArray} {l : List Ev} {k : Nat} (hk : k < l.length) : ofL key (l.take (k + 1)) = ofL key (l.take k) ++ (if (evAt l k).key = key then [evAt l k] else []) := by
  unfold ofL
  rw [List.take_succ_eq_append_getElem hk, List.filter_append, ← evAt_lt hk]
  congr 1
  by_cases h : (evAt l k).key = key
  · simp [h]
  · simp [h]
theorem ofL_le (key : ByteArray) (l : List Ev) : (ofL key l).length ≤ l.length := List.length_filter_le _ _

set_option maxRecDepth 100000 in
set_option maxHeartbeats 2000000 in
theorem of_any (oa : Option Addr) (n cap : Nat) (l : List Ev) (key : ByteArray) (w : World) (h : EvsAt w oa n cap l) (hn : n ≤ 1000000) :
    Calls Try.prog 20 #[.slice oa n cap, .string key] w fun e w' => ∃ o c, e = .returned (.slice o (ofL key l).length c) ∧ EvsAt w' o (ofL key l).length c (ofL key l) ∧ Gr w w' := by
  have Hz := Lib.hid h.sizes
  have hlen := h.len
  obtain ⟨b1, off1, ho1, hc1⟩ := h.cells
  have Hc1 := Lib.hid hc1
  have Ho1 := Lib.hid (fun q => (ho1 q).1)
  have H1 := Lib.hid h
  have hn1 := h.cap_le
  have hm1 := h.cap_max
  unfold maxLen at hm1
  clear hc1 ho1 h
  go_enter Try.func20, Try.ntmps20
  go_wp2_with fail
  go_loopw [5, 10] (fun ve vi wr => ∃ (k m : Nat) (o : Option Addr) (c : Nat), k ≤ n ∧ m ≤ k ∧ (ofL key (l.take k)).length = m ∧ ve = .slice o m c ∧ Hid (OwnE wr w.heap.size o m c (ofL key (l.take k))) ∧ vi = .int .i64 k ∧ Gr w wr) (fun _ v _ => n - (intOf v).toNat)
  case atStart => exact ⟨0, 0, none, 0, Nat.zero_le _, Nat.zero_le _, rfl, rfl, Lib.hid (evown_nil _ _), rfl, Gr.refl _⟩
  case round =>
    obtain ⟨k, m, o, c, hk, hmk, hml, rfl, hO, rfl, hg⟩ := hrel
    by_cases hlt : k < n
    · obtain ⟨a0, a1, a2, a3, a4, a5, a6, a7⟩ := Hc1.out k hlt
      have a0 := (hg).keep a0
      have a1 := (hg).keep a1
      have a2 := (hg).keep a2
      have a3 := (hg).keep a3
      have a4 := (hg).keep a4
      have a5 := (hg).keep a5
      have a6 := (hg).keep a6
      have a7 := (hg).keep a7
      have hI := run_ev cap Ho1.out hlt
      have hbx := evbox wr (evAt l k)
      have hgx := (Gr.refl wr).alloc (.cells #[.int .i64 (evAt l k).thread, .int .i64 (evAt l k).kind, .string (evAt l k).key, .string (evAt l k).cval, .string (evAt l k).val, .int .i64 (evAt l k).code, .int .i64 (evAt l k).beg, .int .i64 (evAt l k).fin] 40)
      unfold evW at hbx
      obtain ⟨v0, v1, v2, v3, v4, v5, v6, v7⟩ := hbx
      have hN := ofL_next (key := key) (l := l) (k := k) (by omega)
      have hz := Hz.out k hlt
      by_cases he : (evAt l k).key = key
      · have hf := eqL he
        rw [if_pos he] at hN
        have HN := Lib.hid hN
        have hml2 : (ofL key (l.take (k + 1))).length = m + 1 := by rw [hN, List.length_append, hml]; rfl
        clear hN he
        have hOx := Lib.hid (hO.out.keep (hgx.alloc (.cells #[.int .i64 (evAt l k).thread, .int .i64 (evAt l k).kind, .string (evAt l k).key, .string (evAt l k).cval, .string (evAt l k).val, .int .i64 (evAt l k).code, .int .i64 (evAt l k).beg, .int .i64 (evAt l k).fin] 40)))
        have hgy := hg.trans (hgx.alloc (.cells #[.int .i64 (evAt l k).thread, .int .i64 (evAt l k).kind, .string (evAt l k).key, .string (evAt l k).cval, .string (evAt l k).val, .int .i64 (evAt l k).code, .int .i64 (evAt l k).beg, .int .i64 (evAt l k).fin] 40))
        go_wp2_with (at_builtin; refine wpList_ev rfl _ _ rfl w.heap.size hgy.le rfl hOx.out rfl (ev_one (e := evAt l k) (b := wr.heap.size + 1) (Nat.le_refl _) (by unfold maxLen; omega) (by simp [go_sem]) (by simp [go_sem]) (by simp [go_sem]) (by simp [go_sem]) (by simp [go_sem]) (by simp [go_sem]) (by simp [go_sem]) (by simp [go_sem]) hz) (by omega) ?_; intro oc c3 w3 ho3 hb3; have hg3 : Gr w w3 := evgrown_gr hb3 hOx.out hgy (Nat.le_refl _); have ho3 := Lib.hid ho3; clear hb3)
        rw [← HN.out] at ho3
        go_roundw
        case rel => exact ⟨k + 1, m + 1, _, _, by omega, by omega, hml2, rfl, ho3, by go_num, hg3⟩
        case measure => simp [intOf]; omega
      · have hf := neL he
        rw [if_neg he, List.append_nil] at hN
        have HN := Lib.hid hN
        have hml2 : (ofL key (l.take (k + 1))).length = m := by rw [hN, hml]
        have hO2 := Lib.hid (hO.out.keep hgx)
        rw [← hN] at hO2
        clear hN he
        go_wp2_with fail
        go_roundw
        case rel => exact ⟨k + 1, m, _, _, by omega, by omega, hml2, rfl, hO2, by go_num, hg.trans hgx⟩
        case measure => simp [intOf]; omega
    · obtain rfl : k = n := by omega
      have hall : l.take k = l := List.take_of_length_le (by omega)
      rw [hall] at hml hO
      clear hall
      go_wp2_with fail
      go_ret
      rw [hml]
      exact ⟨o, c, rfl, hO.out.rows, hg⟩
end Go.Proofs.Ytkngjnkecmjakaa
