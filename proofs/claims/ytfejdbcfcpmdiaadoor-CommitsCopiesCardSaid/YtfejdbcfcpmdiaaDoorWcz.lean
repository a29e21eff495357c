import Derived.Test.YtfejdbcfcpmdiaaDoorWrz
namespace Go.Proofs.YtfejdbcfcpmdiaaDoor
set_option linter.unusedVariables false
set_option linter.unusedSimpArgs false
open Go.BigFrame Go.RowKit Go.WideShapes

/-- an answer that says at most that there are few -/
def FewW (n : Nat) (e : Ending) : Prop := ∃ b : Bool, e = .returned (.bool b) ∧ (b = true → n ≤ 40)

set_option maxRecDepth 100000 in
set_option maxHeartbeats 1000000 in
theorem few_w (oa : Option Addr) (n cap : Nat) (l : List Wt) (w : World) (h : WritesAt w oa n cap l) :
    Calls Tryd.prog 16 #[.slice oa n cap] w fun e w' => FewW n e ∧ Dr w w' := by
  obtain ⟨b1, off1, ho1, hc1⟩ := h.cells
  have Hc1 := Lib.hid hc1
  have Ho1 := Lib.hid (fun q => (ho1 q).1)
  have H1 := Lib.hid h
  have hn1 := h.cap_le
  have hm1 := h.cap_max
  unfold maxLen at hm1
  clear hc1 ho1 h
  go_enter Tryd.func16, Tryd.ntmps16
  go_wp2
  go_loopw [3, 4] (fun s i wr => ∃ k m : Nat, k ≤ n ∧ k ≤ 41 ∧ m ≤ k * 2002 ∧ i = .int .i64 k ∧ s = .int .i64 m ∧ Dr w wr) (fun _ i _ => n - (intOf i).toNat)
  case atStart => exact ⟨0, 0, Nat.zero_le _, Nat.zero_le _, Nat.zero_le _, rfl, rfl, Dr.refl _⟩
  case round =>
    obtain ⟨k, m, hk, hk2, hm, rfl, rfl, d, rfl⟩ := hrel
    by_cases hlt : k < n ∧ k ≤ 40
    · obtain ⟨hlt, hk3⟩ := hlt
      obtain ⟨a1, a2, -⟩ := Hc1.out k hlt
      have hI := run_rwr cap Ho1.out hlt
      go_wp2_with fail
      go_big_quiet (fail)
      go_wp2_with fail
      go_roundw
      case rel =>
        refine ⟨k + 1, m + (min (wAt l k).key.size 1001 + min (wAt l k).val.size 1001), by omega, by omega, by omega, by go_num, ?_, by repeat (first | with_reducible exact Dr.refl _ | with_reducible refine Dr.step ?_ _ | with_reducible refine Dr.drew ?_ | (with_reducible refine Dr.trans ?_ (by assumption)))⟩
        go_num
      case measure => simp [intOf]; omega
    · go_wp2_with fail
      all_goals
        go_ret
        refine ⟨⟨_, rfl, ?_⟩, by repeat (first | with_reducible exact Dr.refl _ | with_reducible refine Dr.step ?_ _ | with_reducible refine Dr.drew ?_ | (with_reducible refine Dr.trans ?_ (by assumption)))⟩
        intro q
        first | omega | (simp at q) | (simp at q; omega)

/-- a call hands back a slice of its own with these writes -/
def NewW (w : World) (l : List Wt) (e : Ending) (w' : World) : Prop := ∃ oa cap, e = .returned (.slice oa l.length cap) ∧ OwnW w' w.heap.size oa l.length cap l ∧ Gr w w'

set_option maxRecDepth 100000 in
set_option maxHeartbeats 2000000 in
theorem given_any (oa : Option Addr) (n cap : Nat) (l : List Wt) (w : World) (h : WritesAt w oa n cap l) (hn : n ≤ 1000000) :
    Calls Tryd.prog 19 #[.slice oa n cap] w (NewW w l) := by
  obtain ⟨b1, off1, ho1, hc1⟩ := h.cells
  have Hc1 := Lib.hid hc1
  have Ho1 := Lib.hid (fun q => (ho1 q).1)
  have H1 := Lib.hid h
  have hn1 := h.cap_le
  have hm1 := h.cap_max
  unfold maxLen at hm1
  clear hc1 ho1 h
  go_enter Tryd.func19, Tryd.ntmps19
  go_wp2_with fail
  go_loopw [3, 8] (fun s i wr => ∃ (k : Nat) (oc : Option Addr) (c : Nat), k ≤ n ∧ i = .int .i64 k ∧ s = .slice oc k c ∧ Hid (OwnW wr w.heap.size oc k c (l.take k)) ∧ Gr w wr) (fun _ i _ => n - (intOf i).toNat)
  case atStart => exact ⟨0, none, 0, Nat.zero_le _, rfl, rfl, Lib.hid (ownW_nil _ _), Gr.refl _⟩
  case round =>
    obtain ⟨k, oc, c, hk, rfl, rfl, how, hg⟩ := hrel
    by_cases hlt : k < n
    · obtain ⟨a1, a2, a3⟩ := Hc1.out k hlt
      have a1 := hg.keep a1
      have a2 := hg.keep a2
      have a3 := hg.keep a3
      have hI := run_rwr cap Ho1.out hlt
      have hT : l.take k ++ [wAt l k] = l.take (k + 1) := by
        rw [List.take_succ_eq_append_getElem (by rw [H1.out.len]; exact hlt), wAt_lt (by rw [H1.out.len]; exact hlt)]
      have hs1 := (H1.out.sizes k hlt).1
      have hs2 := (H1.out.sizes k hlt).2
      have hgl := hg.le
      go_wp2_with (at_builtin; refine wpList_ws rfl _ _ rfl w.heap.size (by simp; omega) rfl (how.out.keep (((Gr.refl _).alloc _).alloc _)) rfl (write_one (b := wr.heap.size + 1) (g := (wAt l k).gone) (Nat.le_refl _) (by unfold maxLen; omega) (by simp [go_sem]) (by simp [go_sem]) (by simp [go_sem]) hs1 hs2) (by omega) ?_; intro oc2 c2 w2 ho2 hg2)
      rw [show ([⟨(wAt l k).key, (wAt l k).val, (wAt l k).gone⟩] : List Wt) = [wAt l k] from rfl, hT] at ho2
      have hgn : Gr w w2 := wgrown_gr hg2 (how.out.keep (((Gr.refl _).alloc _).alloc _)) ((hg.alloc _).alloc _) (Nat.le_refl _)
      go_roundw
      case rel => exact ⟨k + 1, oc2, c2, by omega, by go_num, rfl, Lib.hid ho2, hgn⟩
      case measure => simp [intOf]; omega
    · obtain rfl : k = n := by omega
      rw [← H1.out.len, List.take_length] at how
      go_wp2_with fail
      go_ret
      exact ⟨oc, c, by rw [H1.out.len]; rfl, by simpa [H1.out.len] using how.out, hg⟩
end Go.Proofs.YtfejdbcfcpmdiaaDoor
