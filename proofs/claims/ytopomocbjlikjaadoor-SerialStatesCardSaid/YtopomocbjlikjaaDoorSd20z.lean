import Derived.Test.YtopomocbjlikjaaDoorWn20z
import Derived.Test.YtopomocbjlikjaaDoorLa20z
namespace Go.Proofs.YtopomocbjlikjaaDoor
set_option linter.unusedVariables false
set_option linter.unusedSimpArgs false
open Go.BigFrame Go.RowKit Go.WideShapes

/-! The document's State (serial). -/
theorem oneR_take {l : List Tr} {i : Nat} {t : Tr} (h : l[i]? = some t) (n : Int) (r : List Rw) : oneR (l.take (i + 1)) n r = if t.num = n then wrL t.seen (oneR (l.take i) n r) else oneR (l.take i) n r := by
  obtain ⟨h1, h2⟩ := List.getElem?_eq_some_iff.1 h
  rw [List.take_succ_eq_append_getElem h1, h2]
  unfold oneR
  rw [List.foldl_append]; rfl
theorem oneR_len {n : Int} : ∀ (l : List Tr) (r : List Rw), (∀ t ∈ l, t.seen.length ≤ 8) → (oneR l n r).length ≤ r.length + 8 * l.length
  | [], r, _ => Nat.le_refl _
  | t :: l, r, h => by
    show (oneR l n (if t.num = n then wrL t.seen r else r)).length ≤ _
    have h1 := oneR_len l (if t.num = n then wrL t.seen r else r) (fun x hx => h x (by simp [hx])) (n := n)
    have h2 := wrL_len t.seen r
    have h3 := h t (by simp)
    rw [List.length_cons]
    by_cases e : t.num = n
    · rw [if_pos e] at h1 ⊢; omega
    · rw [if_neg e] at h1 ⊢; omega
theorem stR_len {l : List Tr} (hf : ∀ t ∈ l, t.seen.length ≤ 8) (hl : l.length ≤ 8) : ∀ k, (stR l k).length ≤ 64 * k
  | 0 => Nat.le_refl _
  | k + 1 => by
    have h1 := stR_len hf hl k
    have h2 := oneR_len (n := (k : Int) + 1) l (stR l k) hf
    show (oneR l ((k : Int) + 1) (stR l k)).length ≤ _
    omega
theorem FewL.seen {l : List Tr} (hf : FewL l) : ∀ t ∈ l, t.seen.length ≤ 8 := fun t ht => by
  obtain ⟨i, hi, rfl⟩ := List.mem_iff_getElem.1 ht
  exact (hf.2 i _ (List.getElem?_eq_getElem hi)).1
set_option maxRecDepth 100000 in
set_option maxHeartbeats 20000000 in
theorem state_any (oa : Option Addr) (n cap : Nat) (l : List Tr) (x : Int) (kk : Nat) (w : World) (h : TripsAt w oa n cap l) (hf : FewL l) (hx : x = (kk : Int)) (hk : kk ≤ 8) :
    Calls Tryd.prog 15 #[.slice oa n cap, .int .i64 x] w fun e w' => ∃ o q c, e = .returned (.slice o q c) ∧ RowsAt w' o q c (stR l kk) ∧ Gr w w' := by
  subst hx
  have Hl := Lib.hid h.len
  have Hf := Lib.hid hf
  have hn : n ≤ 8 := by have h1 := hf.1; have h2 := h.len; omega
  have hcl := h.cap_le
  have hcm := h.cap_max
  unfold maxLen at hcm
  obtain ⟨b, off, ho, hc⟩ := h.get
  have Ho := Lib.hid ho
  have Hc := Lib.hid hc
  clear ho hc h hf
  have HN := Lib.hid (show RowsAt w none 0 0 (stR l 0) from ⟨rfl, Nat.le_refl _, Nat.zero_le _, fun _ => rfl, ⟨0, 0, fun q => absurd q (by omega), fun i hi => absurd hi (by omega)⟩, fun i hi => absurd hi (by omega)⟩)
  go_enter Tryd.func15, Tryd.ntmps15
  go_wp2_with fail
  go_loopw [5, 6] (fun s5 s6 wr => ∃ (k : Nat) (o : Option Addr) (q c : Nat), k ≤ kk ∧ s6 = .int .i64 ((k : Int) + 1) ∧ s5 = .slice o q c ∧ Hid (RowsAt wr o q c (stR l k)) ∧ Gr w wr) (fun _ s6 _ => kk + 1 - (intOf s6).toNat)
  case atStart => exact ⟨0, none, 0, 0, Nat.zero_le _, rfl, rfl, HN, Gr.refl _⟩
  case round =>
    obtain ⟨k, o, q, c, hk2, rfl, rfl, hR, hg⟩ := hrel
    by_cases hlt : k < kk
    · have hltz : (k : Int) + 1 ≤ (kk : Int) := by omega
      have hR0 : Hid (RowsAt wr o q c (oneR (l.take 0) ((k : Int) + 1) (stR l k))) := Lib.hid hR.out
      have Hq := Lib.hid (stR_len Hf.out.seen Hf.out.1 k)
      clear hR
      go_wp2_with fail
      go_loopw [5, 7] (fun s5 s7 wx => ∃ (i : Nat) (o : Option Addr) (q c : Nat), i ≤ n ∧ s7 = .int .i64 i ∧ s5 = .slice o q c ∧ Hid (RowsAt wx o q c (oneR (l.take i) ((k : Int) + 1) (stR l k))) ∧ Gr w wx) (fun _ s7 _ => n - (intOf s7).toNat)
      case atStart => exact ⟨0, o, q, c, Nat.zero_le _, rfl, rfl, hR0, hg⟩
      case round =>
        obtain ⟨i, o, q, c, hi, rfl, rfl, hR, hg⟩ := hrel
        by_cases hlti : i < n
        · have hy : l[i]? = some (l[i]'(by have := Hl.out; omega)) := List.getElem?_eq_getElem _
          generalize (l[i]'(by have := Hl.out; omega)) = t at hy
          obtain ⟨p, m, c1, R0⟩ := Hc.out i t hy
          have a3 := hg.keep (R0.cell 3 rfl)
          have a4 := hg.keep (R0.cell 4 rfl)
          have hI := run_trip cap Ho.out hlti
          have HT := Lib.hid (oneR_take hy ((k : Int) + 1) (stR l k))
          have hq : q ≤ 600 := by
            have e1 := hR.out.len
            have e2 := oneR_len (n := (k : Int) + 1) (l.take i) (stR l k) (fun t ht => Hf.out.seen t (List.mem_of_mem_take ht))
            have e3 := Hq.out
            have e4 : (l.take i).length ≤ 8 := by rw [List.length_take]; have := Hl.out; omega
            omega
          have hm8 : m ≤ 8 := by
            have h1 := (Hf.out.2 i t hy).1
            have h2 := R0.seen.len
            omega
          have hW := Lib.hid (written_any p m c1 t.seen o q c _ wr (R0.seen.keep hg) hR.out (by omega))
          clear hy R0
          by_cases he : t.num = (k : Int) + 1
          · have hE := HT.out
            rw [if_pos he] at hE
            have HE := Lib.hid hE
            rw [he] at a3
            clear hE he HT hR
            go_wp2_with (go_at_call 26; (with_reducible refine hW.out.mono ?_); rintro e w5 ⟨o5, q5, c5, rfl, hr5, hg5⟩; have Hr5 := Lib.hid hr5; clear hr5)
            go_roundw
            case rel => exact ⟨i + 1, o5, q5, c5, by omega, by go_num, rfl, Lib.hid (by rw [HE.out]; exact Hr5.out), hg.trans hg5⟩
            case measure => simp [intOf]; omega
          · have hE := HT.out
            rw [if_neg he] at hE
            have HE := Lib.hid hE
            have he2 : (t.num == (k : Int) + 1) = false := by rw [beq_eq_false_iff_ne]; exact he
            clear hE he HT hW
            go_wp2_with fail
            go_roundw
            case rel => exact ⟨i + 1, o, q, c, by omega, by go_num, rfl, Lib.hid (by rw [HE.out]; exact hR.out), hg⟩
            case measure => simp [intOf]; omega
        · obtain rfl : i = n := by omega
          rw [List.take_of_length_le (by rw [Hl.out]; exact Nat.le_refl _)] at hR
          go_wp2_with fail
          go_roundw
          case rel => exact ⟨k + 1, o, q, c, by omega, by go_num, rfl, hR, hg⟩
          case measure => simp [intOf]; omega
    · obtain rfl : k = kk := by omega
      have hltz : ¬ (k : Int) + 1 ≤ (k : Int) := by omega
      go_wp2_with fail
      go_ret
      exact ⟨o, q, c, rfl, hR.out, hg⟩
end Go.Proofs.YtopomocbjlikjaaDoor
