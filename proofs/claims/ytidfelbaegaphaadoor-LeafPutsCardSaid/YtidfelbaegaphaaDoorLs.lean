import Derived.Test.YtidfelbaegaphaaDoorAp
namespace Go.Proofs.YtidfelbaegaphaaDoor
set_option linter.unusedVariables false
open Go.BigFrame Go.RowKit Go.WideShapes

structure Part where
  oa : Option Addr
  n : Nat
  cap : Nat
  l : List Rw
def pAt (ps : List Part) (i : Nat) : Part := ps.getD i ⟨none, 0, 0, []⟩
def upto (ps : List Part) (k : Nat) : List Rw := ((ps.take k).map Part.l).flatten
theorem upto_succ {ps : List Part} {k : Nat} (h : k < ps.length) : upto ps (k + 1) = upto ps k ++ (pAt ps k).l := by
  unfold upto pAt
  rw [List.take_succ_eq_append_getElem h, List.map_append, List.flatten_append, List.getD_eq_getElem?_getD, List.getElem?_eq_getElem h]
  simp
theorem upto_all (ps : List Part) : upto ps ps.length = (ps.map Part.l).flatten := by unfold upto; rw [List.take_length]
theorem upto_le (ps : List Part) (k : Nat) : (upto ps k).length ≤ (upto ps ps.length).length := by
  unfold upto
  rw [List.take_length]
  conv => rhs; rw [← List.take_append_drop k ps]
  rw [List.map_append, List.flatten_append, List.length_append]; omega
structure PartsAt (w : World) (bp : Nat) (ps : List Part) : Prop where
  cell : ∀ i, i < ps.length → w.cell? ⟨bp, i, Option.none⟩ = some (.slice (pAt ps i).oa (pAt ps i).n (pAt ps i).cap)
  rows : ∀ i, i < ps.length → RowsAt w (pAt ps i).oa (pAt ps i).n (pAt ps i).cap (pAt ps i).l

/-- a call hands back a new slice of these rows -/
def NewRows (w : World) (l : List Rw) (e : Ending) (w' : World) : Prop := ∃ oa cap, e = .returned (.slice oa l.length cap) ∧ OwnAt w' w.heap.size oa l.length cap l ∧ Gr w w'

theorem own_nil (w : World) (base : Nat) : OwnAt w base none 0 0 [] :=
  ⟨World.ownsRow_nil _ _ _ _, ⟨rfl, Nat.le_refl _, Nat.zero_le _, fun _ => rfl, ⟨0, 0, fun q => absurd q (by omega), fun i hi => absurd hi (by omega)⟩, fun i hi => absurd hi (by omega)⟩⟩

set_option maxRecDepth 100000 in
set_option maxHeartbeats 1000000 in
theorem list_any (bp n : Nat) (ps : List Part) (w : World) (hn : n = ps.length) (hn8 : n ≤ 8) (h : PartsAt w bp ps) (hsz : (upto ps ps.length).length ≤ 1099511627776) :
    Calls Tryd.prog 37 #[.slice (some ⟨bp, 0, none⟩) n n] w (NewRows w (upto ps ps.length)) := by
  have HN := Lib.hid hn
  have H := Lib.hid h
  have HS := Lib.hid hsz
  clear hn h hsz
  go_enter Tryd.func37, Tryd.ntmps37
  go_wp2
  go_loopw [3, 8] (fun out i wr => ∃ k : Nat, k ≤ n ∧ i = .int .i64 k ∧ Gr w wr ∧ ∃ oc m cap3, out = .slice oc m cap3 ∧ m = (upto ps k).length ∧ OwnAt wr w.heap.size oc m cap3 (upto ps k)) (fun _ i _ => n - (intOf i).toNat)
  case atStart => exact ⟨0, Nat.zero_le _, rfl, Gr.refl _, none, 0, 0, rfl, rfl, own_nil _ _⟩
  case round =>
    obtain ⟨k, hk, rfl, hg, oc, m, cap3, rfl, hm, hown⟩ := hrel
    have Hm := Lib.hid hm
    clear hm
    by_cases hlt : k < n
    · have hlen : k < ps.length := by have := HN.out; omega
      have hcell := hg.keep (H.out.cell k hlen)
      have hrows := (H.out.rows k hlen).keep hg
      have hs := upto_succ hlen
      have hle := upto_le ps (k + 1)
      have hsz : m + (pAt ps k).n ≤ 1099511627776 := by
        rw [hs, List.length_append, hrows.len, ← Hm.out] at hle
        have := HS.out; omega
      have hbase := hg.le
      have Hs := Lib.hid hs
      have Hr := Lib.hid hrows
      have Ho := Lib.hid hown
      clear hs hle hrows hown
      generalize pAt ps k = p at *
      go_wp2_with (at_builtin; refine wpList_append_rows rfl _ _ rfl rfl Ho.out rfl Hr.out hsz hbase ?_; intro oc' cap' w1 hown1 hg1)
      have HO1 := Lib.hid hown1
      have hgr : Gr w w1 := Below.grown hg hg1 hbase (fun q hq => (Ho.out.own.lt q hq).1)
      clear hown1 hg1
      go_wp2
      go_roundw
      case rel => exact ⟨k + 1, by omega, by go_num, hgr, _, _, _, rfl, by rw [Hs.out, List.length_append, ← Hm.out, Hr.out.len], by rw [Hs.out]; exact HO1.out⟩
      case measure => simp [intOf]; omega
    · have hkn : k = ps.length := by have := HN.out; omega
      have HK := Lib.hid hkn
      clear hkn
      go_wp2
      go_ret
      have e := HK.out
      subst e
      have e2 := Hm.out
      subst e2
      exact ⟨oc, cap3, rfl, hown, hg⟩
end Go.Proofs.YtidfelbaegaphaaDoor
