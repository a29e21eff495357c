import Derived.Test.YtopomocbjlikjaaLa20z
import Derived.Test.YtopomocbjlikjaaMs20z
import Derived.Test.YtopomocbjlikjaaLo20z
import Derived.Deep.RegionHeld3
import Derived.StillTailTactics
namespace Go.Proofs.Ytopomocbjlikjaa
set_option linter.unusedVariables false
set_option linter.unusedSimpArgs false
open Go.BigFrame Go.RowKit Go.WideShapes

/-! The states (serial.States). -/
def StatesSay (l : List Tr) (e : Ending) (w' : World) : Prop :=
  (codeR l = 0 ∧ ∃ o c, e = .returned (.tuple #[.slice o ((lastN l).toNat + 1) c, .nilIface]) ∧ StatesAt w' o ((lastN l).toNat + 1) c (stsP l ((lastN l).toNat + 1))) ∨ (codeR l ≠ 0 ∧ e = .returned (.tuple #[.slice none 0 0, errV (codeR l)]))
theorem say_err {l : List Tr} {c : Int} (h : codeR l = c) (hc : c ≠ 0) (w' : World) : StatesSay l (.returned (.tuple #[.slice none 0 0, errV c])) w' := .inr ⟨by rw [h]; exact hc, by rw [h]⟩
/-- elements beside the slice's own block -/
theorem OwnS.beside {α : Type} {E : EP α} {k : Nat} {T : TypeId} {w : World} {base : Nat} {oa : Option Addr} {n cap : Nat} {l : List α} (h : OwnS E k T w base oa n cap l) : SlE (fun _ x vs => E (hideB w (Value.ownBlock (.slice oa n cap))) x vs) k w oa n cap l := by
  obtain ⟨hl, vss, h1, h2, h3, h5⟩ := h
  exact OwnS.sl (E := fun _ x vs => E (hideB w (Value.ownBlock (.slice oa n cap))) x vs) (fun _ _ _ _ _ q => q) (T := T) (base := base) ⟨hl, vss, h1, h2, h3, h5⟩
theorem cells_rs : Try.prog.cellsOf 25 = 1 := by kernel_rfl
theorem run_rs {oa : Option Addr} {n b off : Nat} (cap : Nat) (ho : 0 < n → oa = some ⟨b, off, none⟩) {k : Nat} (hk : k < n) (w : World) :
    (Instr.indexAt 64 (.slice oa n cap) (.int .i64 (k : Int))).run Try.prog w = .ok (.pointer (some ⟨b, off + k, none⟩)) w := by
  rw [ho (by omega)]
  go_simp
theorem run_rsI {oa : Option Addr} {n b off : Nat} (cap : Nat) (ho : 0 < n → oa = some ⟨b, off, none⟩) {k : Int} (h0 : 0 ≤ k) (hk : k < n) (w : World) :
    (Instr.indexAt 64 (.slice oa n cap) (.int .i64 k)).run Try.prog w = .ok (.pointer (some ⟨b, off + k.toNat, none⟩)) w := by
  obtain ⟨m, rfl⟩ := Int.eq_ofNat_of_zero_le h0
  exact run_rs cap ho (by omega) w
theorem stP_len {l : List Tr} (hf : ∀ (i : Nat) (t : Tr), l[i]? = some t → t.seen.length ≤ 8) : ∀ k, (stP l k).length ≤ 8 * k
  | 0 => Nat.le_refl _
  | k + 1 => by
    have ih := stP_len hf k
    show (match byN l ((k : Int) + 1) with | some t => wrL t.seen (stP l k) | none => []).length ≤ _
    cases hb : byN l ((k : Int) + 1) with
    | none => simp
    | some t =>
      have hm : t ∈ l := List.mem_of_find?_eq_some hb
      obtain ⟨i, hi, e⟩ := List.mem_iff_getElem.1 hm
      have h1 := hf i t (by rw [List.getElem?_eq_getElem hi, e])
      have h2 := wrL_len t.seen (stP l k)
      dsimp only
      omega
theorem stP_next {l : List Tr} {k : Nat} {t : Tr} (h : byN l ((k : Int) + 1) = some t) : stP l (k + 1) = wrL t.seen (stP l k) := by
  show (match byN l ((k : Int) + 1) with | some t => wrL t.seen (stP l k) | none => []) = _
  rw [h]
theorem wf_small {k : Nat} (h : k ≤ 8) : (Lit.int .i64 (k : Int)).wf = true := by
  have : ∀ j : Fin 9, (Lit.int .i64 ((j.val : Nat) : Int)).wf = true := by decide
  exact this ⟨k, by omega⟩
theorem lastN_nn (l : List Tr) : 0 ≤ lastN l := by
  have gen : ∀ (l : List Tr) (a : Int), 0 ≤ a → 0 ≤ l.foldl (fun a t => max a t.num) a := by
    intro l
    induction l with
    | nil => intro a h; exact h
    | cons t l ih => intro a h; exact ih _ (by show 0 ≤ max a t.num; omega)
  exact gen l 0 (by omega)
theorem rows_nil20 (w : World) : RowsAt w none 0 0 ([] : List Rw) := ⟨rfl, Nat.le_refl _, Nat.zero_le _, fun _ => rfl, ⟨0, 0, fun q => absurd q (by omega), fun i hi => absurd hi (by omega)⟩, fun i hi => absurd hi (by omega)⟩
/-- new rows in a block of one, beside an older block -/
theorem rs_one {w3 : World} {o : Option Addr} {n c : Nat} {x : List Rw} {T : TypeId} {r : Option Nat} (h : RowsAt (hideB w3 r) o n c x) (hr : ∀ g, r = some g → g < w3.heap.size) :
    SlE RsE 1 (hideB (w3.alloc (.cells #[.slice o n c] T)) r) (some ⟨w3.heap.size, 0, none⟩) 1 1 [x] := by
  have hm := hideB_gr (r := r) ((Gr.refl w3).alloc (.cells #[.slice o n c] T))
  refine SlE.one (vs := [.slice o n c]) (by decide) (Nat.le_refl _) (by unfold maxLen; omega) rfl (by simp [Value.oneCell']) ⟨o, n, c, rfl, h.exS hm⟩ fun j u hj => ?_
  refine hideB_cell.2 ⟨fun e => by have := hr _ e; omega, ?_⟩
  have := World.cell?_alloc_new w3 #[.slice o n c] T j
  rw [Nat.zero_add, this]
  simpa using hj
/-- what a look-up gives, with what is known of it -/
theorem look_all {w0 : World} {l : List Tr} {i : Nat} {f : List (Int × Value)} (h : MapOf w0 l i f) (k : Int) : ∃ (vs : List Value) (ok : Bool), (lk f k).getD (.agg zT.toArray) = .agg vs.toArray ∧ (lk f k).isSome = ok ∧ vs.length = zT.length ∧ (Try.prog.info? 46).map (·.size) = some vs.length ∧ vs.all (·.oneCell') = true ∧
    (ok = false → countN (l.take i) k = 0) ∧ (ok = true → 0 < countN (l.take i) k) := by
  have hi : (Try.prog.info? 46).map (·.size) = some 5 := by kernel_rfl
  cases hl : lk f k with
  | none => exact ⟨zT, false, rfl, rfl, rfl, hi, rfl, fun _ => h.no k hl, fun q => (by cases q)⟩
  | some v =>
    obtain ⟨j, t, p, m, c, h1, h2, h3, rfl, h5⟩ := h.yes k v hl
    refine ⟨trL t p m c, true, rfl, rfl, rfl, hi, rfl, fun q => (by cases q), fun _ => ?_⟩
    rw [← h3]
    exact count_pos h1 h2
set_option maxRecDepth 100000 in
set_option maxHeartbeats 40000000 in
theorem states_any (oa : Option Addr) (n cap : Nat) (l : List Tr) (w : World) (h : TripsAt w oa n cap l) {v : Nat} (hf : FewL l v) :
    Calls Try.prog 20 #[.slice oa n cap] w fun e w' => StatesSay l e w' ∧ Gr w w' := by
  have Hl := Lib.hid h.len
  have Hf := Lib.hid hf
  have hn : n ≤ 8 := by have h1 := hf.1; have h2 := h.len; omega
  have hcl := h.cap_le
  have hcm := h.cap_max
  unfold maxLen at hcm
  have H := Lib.hid h
  obtain ⟨b, off, ho, hc⟩ := h.get
  have Ho := Lib.hid ho
  have Hc := Lib.hid hc
  clear ho hc h hf
  have hmm := @run_makeMap Try.prog
  go_enter Try.func20, Try.ntmps20
  go_upto_region 4 with fail
  clear hmm
  have hg1 : Gr w (w.alloc (.map #[] 0)) := (Gr.refl w).alloc _
  have HM := Lib.hid (MapIs.made w)
  generalize w.alloc (.map #[] 0) = W1 at *
  generalize hbm : w.heap.size = bm at *
  have Hbm := Lib.hid hbm
  clear hbm
  -- all are right
  go_loopw [21] (fun s21 wr => ∃ (i : Nat), i ≤ n ∧ s21 = .int .i64 i ∧ Hid (∀ (j : Nat) (t : Tr), j < i → l[j]? = some t → okT t = true) ∧ Gr W1 wr) (fun s21 _ => n - (intOf s21).toNat)
  case atStart => exact ⟨0, Nat.zero_le _, rfl, Lib.hid fun j t q _ => absurd q (by omega), Gr.refl _⟩
  case round =>
    obtain ⟨i, hi, rfl, hall, hg⟩ := hrel
    by_cases hlt : i < n
    · have hy : l[i]? = some (l[i]'(by have := Hl.out; omega)) := List.getElem?_eq_getElem _
      generalize (l[i]'(by have := Hl.out; omega)) = t at hy
      obtain ⟨p, m, c, R0⟩ := Hc.out i t hy
      have R1 := R0.keep (hg1.trans hg)
      have hI := run_tripP cap Ho.out hlt
      have Hy := Lib.hid hy
      have Z := (Bx.new wr zT.toArray 46 rfl).of (us := zT) (by simp)
      clear hy R0
      go_upto_region 6 with (first | (refine wpList_load_mid rfl 46 _ rfl _ _ rfl _ _ (R1).rng Try.underlying46 rfl (by kernel_rfl) ?_) | ((with_reducible refine wpList_store_box (ty := 46) (Z) ((trL t p m c)) ?_ ?_ ?_ ?_ ?_ ?_); (focus (exact rfl)); (focus (exact ⟨_, _, rfl, rfl, rfl⟩)); (focus (exact rfl)); (focus kernel_rfl); (focus kernel_rfl)))
      have B7 := Z.setAll (us := trL t p m c) rfl
      have hg7 : Gr wr ((wr.alloc (.cells zT.toArray 46)).setCells wr.heap.size 0 (trL t p m c)) := ((Gr.refl wr).alloc _).setCells (Nat.le_refl _) _ _
      have hS7 := Lib.hid (R1.seen.keep hg7)
      clear Z R1 hI
      generalize (wr.alloc (.cells zT.toArray 46)).setCells wr.heap.size 0 (trL t p m c) = w7 at *
      generalize wr.heap.size = b7 at *
      have hR := Lib.hid (right20_any t p m c w7 hS7.out)
      cases hok : okT t
      · have HE := Lib.hid (code_arg Hy.out hok)
        rw [hok] at hR
        clear hok
        go_wp2_with (first | ((with_reducible refine wpList_load_box (ty := 46) (B7) ?_ ?_ Try.underlying46 ?_ ?_ ?_); (focus (exact rfl)); (focus (exact ⟨_, rfl, rfl⟩)); (focus (exact rfl)); (focus kernel_rfl)) | (go_at_call 15; (with_reducible refine (hR.out).mono ?_); rintro e w3 ⟨rfl, hg3⟩))
        go_ret2
        exact ⟨say_err HE.out (by decide) _, hg1.trans (hg.trans (hg7.trans hg3))⟩
      · have HO := Lib.hid hok
        rw [hok] at hR
        clear hok
        go_wp2_with (first | ((with_reducible refine wpList_load_box (ty := 46) (B7) ?_ ?_ Try.underlying46 ?_ ?_ ?_); (focus (exact rfl)); (focus (exact ⟨_, rfl, rfl⟩)); (focus (exact rfl)); (focus kernel_rfl)) | (go_at_call 15; (with_reducible refine (hR.out).mono ?_); rintro e w3 ⟨rfl, hg3⟩))
        go_roundw
        case rel => exact ⟨i + 1, by omega, by go_num, Lib.hid fun j t' hj ht' => by
          rcases Nat.lt_or_ge j i with z | z
          · exact hall.out j t' z ht'
          · obtain rfl : j = i := by omega
            rw [Hy.out] at ht'
            cases ht'
            exact HO.out, hg.trans (hg7.trans hg3)⟩
        case measure => simp [intOf]; omega
    · have hin : i = n := by omega
      have HA : Hid (∀ t ∈ l, okT t = true) := Lib.hid (all_get fun j t hj => hall.out j t (by rw [Hl.out] at hj; omega))
      have HM := Lib.hid (HM.out.keep hg)
      have hgw := hg1.trans hg
      clear hall hin
      go_wp2_with fail
      -- by number
      go_loopw [5, 32] (fun s5 s32 wx => ∃ (i : Nat) (f : List (Int × Value)), i ≤ n ∧ s32 = .int .i64 i ∧ s5 = .int .i64 (lastN (l.take i)) ∧ Hid (MapIs wx bm i f) ∧ Hid (MapOf w l i f) ∧ Hid (∀ k : Int, 0 < k → countN (l.take i) k ≤ 1) ∧ Gr w wx) (fun _ s32 _ => n - (intOf s32).toNat)
      case atStart => exact ⟨0, [], Nat.zero_le _, rfl, rfl, HM, Lib.hid (MapOf.nil _ _), Lib.hid fun k _ => Nat.zero_le _, hgw⟩
      case round =>
        obtain ⟨i, f, hi, rfl, rfl, hM, hF, hC, hg⟩ := hrel
        by_cases hlt : i < n
        · have hy : l[i]? = some (l[i]'(by have := Hl.out; omega)) := List.getElem?_eq_getElem _
          generalize (l[i]'(by have := Hl.out; omega)) = t at hy
          obtain ⟨p, m, c, R0⟩ := Hc.out i t hy
          have R1 := R0.keep hg
          have hI := run_tripP cap Ho.out hlt
          have Hy := Lib.hid hy
          have HS0 := Lib.hid R0.seen
          have Hwf := Lib.hid R0.size.num
          have HT := Lib.hid (lastN_take hy)
          have hbl := hM.out.lt
          have Z := (Bx.new wr zT.toArray 46 rfl).of (us := zT) (by simp)
          clear hy R0
          go_upto_region 12 with (first | (refine wpList_load_mid rfl 46 _ rfl _ _ rfl _ _ (R1).rng Try.underlying46 rfl (by kernel_rfl) ?_) | ((with_reducible refine wpList_store_box (ty := 46) (Z) ((trL t p m c)) ?_ ?_ ?_ ?_ ?_ ?_); (focus (exact rfl)); (focus (exact ⟨_, _, rfl, rfl, rfl⟩)); (focus (exact rfl)); (focus kernel_rfl); (focus kernel_rfl)))
          have B9 := Z.setAll (us := trL t p m c) rfl
          have hg9 : Gr wr ((wr.alloc (.cells zT.toArray 46)).setCells wr.heap.size 0 (trL t p m c)) := ((Gr.refl wr).alloc _).setCells (Nat.le_refl _) _ _
          have hM9 := hM.out.keep hg9
          have hgw9 := hg.trans hg9
          clear Z R1 hI hM hg hg9
          generalize (wr.alloc (.cells zT.toArray 46)).setCells wr.heap.size 0 (trL t p m c) = w9 at *
          generalize wr.heap.size = b9 at *
          have v3 := B9.cell 3 rfl
          have hL := hM9.look Hwf.out
          obtain ⟨vs, ok, e1, e2, hlen, hinfo, hone, hno, hyes⟩ := look_all hF.out t.num
          rw [e1, e2] at hL
          have HM9 := Lib.hid hM9
          have Hno := Lib.hid hno
          have Hyes := Lib.hid hyes
          have Z10 := (Bx.new w9 zT.toArray 46 rfl).of (us := zT) (by simp)
          clear e1 e2 hno hyes hM9
          go_upto_region 13 with ((with_reducible refine wpList_store_box (ty := 46) Z10 vs ?_ ?_ ?_ ?_ ?_ ?_); (focus (exact rfl)); (focus (exact ⟨_, _, rfl, rfl, rfl⟩)); (focus (exact hlen)); (focus (exact hinfo)); (focus (exact hone)))
          have hg10 : Gr w9 ((w9.alloc (.cells zT.toArray 46)).setCells w9.heap.size 0 vs) := ((Gr.refl w9).alloc _).setCells (Nat.le_refl _) _ _
          have B9 := B9.keep hg10
          have v3 := hg10.keep v3
          have HM10 := Lib.hid (HM9.out.keep hg10)
          have hgw10 := hgw9.trans hg10
          clear Z10 hlen hinfo hone hL hg10 HM9
          generalize (w9.alloc (.cells zT.toArray 46)).setCells w9.heap.size 0 vs = w10 at *
          generalize w9.heap.size = b10 at *
          by_cases hdup : ok = true ∧ 0 < t.num
          · obtain ⟨rfl, h0⟩ := hdup
            have HE := Lib.hid (code_there HA.out Hy.out h0 (count_dup Hy.out (Hyes.out rfl)))
            go_wp2_with fail
            go_ret2
            exact ⟨say_err HE.out (by decide) _, hgw10⟩
          · have hCn : ∀ k : Int, 0 < k → countN (l.take (i + 1)) k ≤ 1 := fun k hk => by
              rw [count_take Hy.out]
              have h1 := hC.out k hk
              by_cases e : t.num = k
              · rw [if_pos e]
                have hf : ok = false := by
                  cases ok
                  · rfl
                  · exact absurd ⟨rfl, by omega⟩ hdup
                have := Hno.out hf
                rw [e] at this
                omega
              · rw [if_neg e]; omega
            have HCn := Lib.hid hCn
            obtain ⟨w11, hU, hM11, hb11⟩ := HM10.out.put (k := t.num) (by unfold maxLen; omega) Hwf.out (.agg (trL t p m c).toArray)
            have B11 := bx_block (hb11.block b9 (B9.lt (by simp)) (fun e => by simp at e; omega)) B9
            have y3 := B11.cell 3 rfl
            have hgw11 : Gr w w11 := Below.grown hgw10 hb11 hgw10.le (fun k e => by simp at e; subst e; rw [Hbm.out]; exact Nat.le_refl _)
            have HM11 := Lib.hid hM11
            have HF11 := Lib.hid (hF.out.next Hy.out HS0.out)
            have hd : ok = false ∨ ok = true ∧ ¬ 0 < t.num := by
              cases ok
              · exact .inl rfl
              · exact .inr ⟨rfl, fun q => hdup ⟨rfl, q⟩⟩
            clear hCn hM11 hb11 B11 hdup
            go_cut [48] (fun s48 wx => s48 = .bool false ∧ wx = w10)
            case first =>
              rcases hd with rfl | ⟨rfl, h0⟩
              all_goals
                go_wp2_with fail
                go_meet
                exact ⟨rfl, rfl⟩
            case rest =>
              obtain ⟨rfl, rfl⟩ := hcut
              clear hd
              go_wp2_with ((with_reducible refine wpList_load_box (ty := 46) (B9) ?_ ?_ Try.underlying46 ?_ ?_ ?_); (focus (exact rfl)); (focus (exact ⟨_, rfl, rfl⟩)); (focus (exact rfl)); (focus kernel_rfl))
              all_goals
                go_roundw
                case rel => exact ⟨i + 1, _, by omega, by go_num, by rw [HT.out]; first | rfl | go_num, HM11, HF11, HCn, hgw11⟩
                case measure => simp [intOf]; omega
        · have hin : i = n := by omega
          have e0 : l.take i = l := List.take_of_length_le (by rw [Hl.out]; omega)
          rw [e0] at hC ⊢
          have HB : Hid (∀ t ∈ l, 0 < t.num → countN l t.num ≤ 1) := Lib.hid fun t _ q => hC.out _ q
          have HC1 := Lib.hid fun k (hk : 0 < k) => hC.out k hk
          have HNo := Lib.hid fun k (hk : lk f k = none) => show countN l k = 0 by have := hF.out.no k hk; rwa [e0] at this
          generalize hq : lastN l = q
          have HQ := Lib.hid hq
          have HQn := Lib.hid fun (h0 : n = 0) => show lastN l = 0 by
            have : l = [] := List.length_eq_zero_iff.1 (by rw [Hl.out]; exact h0)
            rw [this]; rfl
          have Hin := Lib.hid hin
          clear hC hq e0 hin
          go_wp2_with fail
          -- none is out of range
          go_loopw [61] (fun s61 wx => ∃ (j : Nat), j ≤ n ∧ s61 = .int .i64 j ∧ Hid (∀ (k : Nat) (t : Tr), k < j → l[k]? = some t → t.snap ≤ q) ∧ Hid (j = 0 ∨ q ≤ (n : Int)) ∧ Gr wr wx) (fun s61 _ => n - (intOf s61).toNat)
          case atStart => exact ⟨0, Nat.zero_le _, rfl, Lib.hid fun j t q _ => absurd q (by omega), Lib.hid (.inl rfl), Gr.refl _⟩
          case round =>
            obtain ⟨j, hj, rfl, hall, hjq, hg3⟩ := hrel
            by_cases hltj : j < n
            · have hy : l[j]? = some (l[j]'(by have := Hl.out; omega)) := List.getElem?_eq_getElem _
              generalize (l[j]'(by have := Hl.out; omega)) = t at hy
              obtain ⟨p, m, c, R0⟩ := Hc.out j t hy
              have R1 := R0.keep (hg.trans hg3)
              have hI := run_tripP cap Ho.out hltj
              have Hy := Lib.hid hy
              have Z := (Bx.new wr zT.toArray 46 rfl).of (us := zT) (by simp)
              clear hy R0
              go_upto_region 21 with (first | (refine wpList_load_mid rfl 46 _ rfl _ _ rfl _ _ (R1).rng Try.underlying46 rfl (by kernel_rfl) ?_) | ((with_reducible refine wpList_store_box (ty := 46) (Z) ((trL t p m c)) ?_ ?_ ?_ ?_ ?_ ?_); (focus (exact rfl)); (focus (exact ⟨_, _, rfl, rfl, rfl⟩)); (focus (exact rfl)); (focus kernel_rfl); (focus kernel_rfl)))
              have B13 := Z.setAll (us := trL t p m c) rfl
              have hg13 : Gr wr ((wr.alloc (.cells zT.toArray 46)).setCells wr.heap.size 0 (trL t p m c)) := ((Gr.refl wr).alloc _).setCells (Nat.le_refl _) _ _
              clear Z R1 hI
              generalize (wr.alloc (.cells zT.toArray 46)).setCells wr.heap.size 0 (trL t p m c) = w13 at *
              generalize wr.heap.size = b13 at *
              have v2 := B13.cell 2 rfl
              have hg13' := hg3.trans hg13
              by_cases h5 : q < t.snap
              · have HE := Lib.hid (code_range HA.out HB.out (.inr (.inr ⟨t, List.mem_of_getElem? Hy.out, by rw [HQ.out]; exact h5⟩)))
                go_wp2_with fail
                go_ret2
                exact ⟨say_err HE.out (by decide) _, hg.trans hg13'⟩
              · by_cases h6 : (n : Int) < q
                · have HE := Lib.hid (code_range HA.out HB.out (.inl (by rw [Hl.out, HQ.out]; exact h6)))
                  go_wp2_with fail
                  go_ret2
                  exact ⟨say_err HE.out (by decide) _, hg.trans hg13'⟩
                · have h5' : t.snap ≤ q := by omega
                  have h6' : q ≤ (n : Int) := by omega
                  clear h5 h6
                  go_wp2_with fail
                  go_roundw
                  case rel => exact ⟨j + 1, by omega, by go_num, Lib.hid fun k' t' hk ht' => by
                    rcases Nat.lt_or_ge k' j with z | z
                    · exact hall.out k' t' z ht'
                    · obtain rfl : k' = j := by omega
                      rw [Hy.out] at ht'
                      cases ht'
                      omega, Lib.hid (.inr (by omega)), hg13'⟩
                  case measure => simp [intOf]; omega
            · have HD : Hid (∀ t ∈ l, t.snap ≤ lastN l) := Lib.hid (all_get fun k t hk h => by rw [HQ.out]; exact hall.out k t (by rw [Hl.out] at hk; omega) h)
              have hqn : q ≤ (n : Int) := by
                rcases hjq.out with h0 | h0
                · have h1 := HQn.out (by omega)
                  rw [HQ.out] at h1
                  omega
                · exact h0
              have HM3 := Lib.hid (hM.out.keep hg3)
              have hgw3 := hg.trans hg3
              clear hall hjq hM
              have Hq0 := Lib.hid (show 0 ≤ q by rw [← HQ.out]; exact lastN_nn l)
              have HO1 : Hid (OwnS RsE 1 25 (wr.alloc (.cells #[.slice none 0 0] 25)) wr.heap.size (some ⟨wr.heap.size, 0, none⟩) 1 1 (stsP l 1)) := Lib.hid (OwnS.one (vs := [.slice none 0 0]) (Nat.le_refl _) (by decide) rfl (by simp [Value.oneCell']) ⟨none, 0, 0, rfl, rows_nil20 _⟩)
              have hg4 : Gr wr (wr.alloc (.cells #[.slice none 0 0] 25)) := (Gr.refl wr).alloc _
              go_wp2_with fail
              generalize wr.alloc (.cells #[.slice none 0 0] 25) = W4 at *
              generalize hbs : wr.heap.size = bs at *
              have Hbs := Lib.hid hbs
              clear hbs
              obtain ⟨W0, rfl⟩ : ∃ W0, W0 = wr := ⟨wr, rfl⟩
              go_loopw [14, 15] (fun s14 s15 wx => ∃ (k : Nat) (o : Option Addr) (c : Nat), 1 ≤ k ∧ Hid ((k : Int) ≤ q + 1) ∧ s15 = .int .i64 k ∧ s14 = .slice o k c ∧ Hid (OwnS RsE 1 25 wx bs o k c (stsP l k)) ∧ Hid (∀ n : Int, 1 ≤ n → n < k → countN l n ≠ 0) ∧ Gr W0 wx) (fun _ s15 _ => (q + 1 - intOf s15).toNat)
              case atStart => exact ⟨1, _, 1, Nat.le_refl _, Lib.hid (by have := Hq0.out; omega), rfl, rfl, HO1, Lib.hid fun n h1 h2 => absurd h2 (by omega), hg4⟩
              case round =>
                obtain ⟨k, o, c, hk1, Hkq, rfl, rfl, hO, hcnt, hg4⟩ := hrel
                have hkq := Hkq.out
                by_cases hltk : (k : Int) ≤ q
                · have hk8 : k ≤ 8 := by omega
                  have hM4 := HM3.out.keep hg4
                  have hL := hM4.look (wf_small hk8)
                  have hgw4 := hgw3.trans hg4
                  cases hlk : lk f k with
                  | none =>
                    have HE := Lib.hid (code_range HA.out HB.out (.inr (.inl ⟨k, by omega, by rw [HQ.out]; exact hltk, HNo.out _ hlk⟩)))
                    rw [hlk] at hL
                    simp only [Option.getD_none, Option.isSome_none] at hL
                    have Z := (Bx.new wr zT.toArray 46 rfl).of (us := zT) (by simp)
                    clear hM4 hkq
                    go_wp2_with ((with_reducible refine wpList_store_box (ty := 46) (Z) (zT) ?_ ?_ ?_ ?_ ?_ ?_); (focus (exact rfl)); (focus (exact ⟨_, _, rfl, rfl, rfl⟩)); (focus (exact rfl)); (focus kernel_rfl); (focus kernel_rfl))
                    go_ret2
                    exact ⟨say_err HE.out (by decide) _, (hgw4.alloc _).setCells hgw4.le _ _⟩
                  | some v =>
                    obtain ⟨j, t, p, m, c2, hj, hy, hnum, rfl, hs0⟩ := hF.out.yes k v hlk
                    have hck : countN l k = 1 := by
                      have h1 := count_pos hj hy
                      have h2 := count_le_take l i t.num
                      rw [hnum] at h1 h2
                      have h3 := HC1.out k (by omega)
                      omega
                    have hbn := byN_of hck hy hnum
                    have hE : stP l k = wrL t.seen (stP l (k - 1)) := by
                      have e1 : k = (k - 1) + 1 := by omega
                      have e2 : (k : Int) = ((k - 1 : Nat) : Int) + 1 := by omega
                      rw [e2] at hbn
                      have := stP_next hbn
                      rw [← e1] at this
                      exact this
                    have HE := Lib.hid hE
                    have HCK := Lib.hid hck
                    rw [hlk] at hL
                    simp only [Option.getD_some, Option.isSome_some] at hL
                    have Z := (Bx.new wr zT.toArray 46 rfl).of (us := zT) (by simp)
                    have hs4 := hs0.keep hgw4
                    have hm8 : m ≤ 8 := by
                      have h1 := (Hf.out.2 j t hy).1
                      have h2 := hs0.len
                      omega
                    have Hln := Lib.hid (stP_len (fun i t hi => (Hf.out.2 i t hi).1) (k - 1))
                    clear hM4 hE hck hbn hy hj hnum hlk hs0
                    go_upto_region 29 with ((with_reducible refine wpList_store_box (ty := 46) (Z) ((trL t p m c2)) ?_ ?_ ?_ ?_ ?_ ?_); (focus (exact rfl)); (focus (exact ⟨_, _, rfl, rfl, rfl⟩)); (focus (exact rfl)); (focus kernel_rfl); (focus kernel_rfl))
                    have B16 := Z.setAll (us := trL t p m c2) rfl
                    have hg16 : Gr wr ((wr.alloc (.cells zT.toArray 46)).setCells wr.heap.size 0 (trL t p m c2)) := ((Gr.refl wr).alloc _).setCells (Nat.le_refl _) _ _
                    have HO16 := Lib.hid (hO.out.keep RsE_mono hg16)
                    have hlt16 := Lib.hid fun g e => Nat.lt_of_lt_of_le (hO.out.lt g e).2 hg16.le
                    have HS16 := Lib.hid (hs4.keep hg16)
                    have hg416 := hg4.trans hg16
                    clear Z hL hO hs4 hg16
                    generalize (wr.alloc (.cells zT.toArray 46)).setCells wr.heap.size 0 (trL t p m c2) = w16 at *
                    generalize wr.heap.size = b16 at *
                    have x0 := B16.cell 0 rfl
                    have x1 := B16.cell 1 rfl
                    have x2 := B16.cell 2 rfl
                    have x3 := B16.cell 3 rfl
                    have x4 := B16.cell 4 rfl
                    have SB := HO16.out.beside
                    have hcc := SB.cap_le
                    have hcm2 := SB.cap_max
                    unfold maxLen at hcm2
                    obtain ⟨b2, off2, ho2, hc2⟩ := SB.cells
                    obtain ⟨vs, -, -, ⟨o2, n2, c3, rfl, hR2⟩, hcl2⟩ := hc2 (k - 1) _ (stsP_get (l := l) (show k - 1 < k by omega))
                    have y0 := hcl2 0 _ rfl
                    simp only [Nat.mul_one, Nat.add_zero] at y0
                    have hI := fun w => run_rsI c (fun q => (ho2 q).1) (k := (k : Int) - 1) (by omega) (by omega) w
                    rw [show ((k : Int) - 1).toNat = k - 1 by omega] at hI
                    have e1 : IntKind.i64.wrap ((k : Int) - 1) = (k : Int) - 1 := IntWalk.i64_in _ (by omega)
                    have HLf := Lib.hid fun (w1 : World) (hq : Gr w16 w1) => left_own (Value.ownBlock (.slice o k c)) t p m c2 o2 n2 c3 (stP l (k - 1)) w1 (HS16.out.keep hq) (hR2.exS (hideB_gr hq _)) (fun g e => Nat.lt_of_lt_of_le (hlt16.out g e) hq.le) (by have h1 := hR2.len; have h2 := Hln.out; omega)
                    clear SB hc2 ho2 hR2 hcl2 B16
                    rw [← HE.out] at HLf
                    go_upto_region 31 with fail
                    have Hbs16 := Lib.hid (show bs ≤ w16.heap.size by have := hg416.le; rw [Hbs.out] at this; exact this)
                    (first | go_region_law (first
                      | (go_simp; go_at_call 29; (with_reducible refine Calls.mono (HLf.out _ ?_) ?_); (focus ((repeat (first | with_reducible exact Gr.refl _ | with_reducible refine Gr.drewN ?_ _ | with_reducible refine Gr.drew ?_ | with_reducible refine Gr.alloc ?_ _ | with_reducible refine Gr.setCell ?_ ?_ _ | (with_reducible refine Gr.trans ?_ (by assumption)) | omega | (dsimp only; omega))); done)); rintro e w5 ⟨o5, q5, c5, rfl, hr5, hg5⟩; (have hg9 : Gr w16 w5 := Gr.trans (by (repeat (first | with_reducible exact Gr.refl _ | with_reducible refine Gr.drewN ?_ _ | with_reducible refine Gr.drew ?_ | with_reducible refine Gr.alloc ?_ _ | with_reducible refine Gr.setCell ?_ ?_ _ | (with_reducible refine Gr.trans ?_ (by assumption)) | omega | (dsimp only; omega)))) hg5); have HO5 := Lib.hid (HO16.out.keep RsE_mono (hg9.trans ((Gr.refl _).alloc (.cells #[.slice o5 q5 c5] 25)))); have Hsrc := Lib.hid (rs_one (T := 25) hr5 (fun g e => Nat.lt_of_lt_of_le (hlt16.out g e) hg9.le)); have hA5 := hg9.alloc (.cells #[.slice o5 q5 c5] 25); clear hr5)
                      | (refine step_app RsE_mono rsT rfl _ _ rfl (base := bs) (Nat.le_trans Hbs16.out hA5.le) rfl HO5.out rfl Hsrc.out (by unfold maxLen; omega) (by omega) ?_; intro oc k3 w6 ho6 hb6; (have hg6 : Gr W0 w6 := HO5.out.gr hb6 (hg416.trans hA5) (by rw [Hbs.out]; exact Nat.le_refl _)); have HO6 := Lib.hid ho6; clear ho6 hb6)) | fail)
                    all_goals
                      go_wp2_with fail
                      go_roundw
                      case rel => exact ⟨k + 1, oc, k3, by omega, Lib.hid (by omega), by go_num, rfl, Lib.hid (by rw [stsP_succ]; exact HO6.out), Lib.hid fun n h1 h2 => by
                        rcases Int.lt_or_le n k with z | z
                        · exact hcnt.out n h1 z
                        · obtain rfl : n = k := by omega
                          rw [HCK.out]; decide, hg6⟩
                      case measure => simp [intOf]; omega
                · have hkk : (k : Int) = q + 1 := by omega
                  have HE := Lib.hid (code_none HA.out HB.out (by rw [Hl.out, HQ.out]; exact hqn) (fun n h1 h2 => hcnt.out n h1 (by rw [HQ.out] at h2; omega)) HD.out)
                  have hkn : (lastN l).toNat + 1 = k := by rw [HQ.out]; omega
                  have Hkn := Lib.hid hkn
                  have HS := Lib.hid (hO.out.sl RsE_mono)
                  have hgw4 := hgw3.trans hg4
                  clear hkk hkn hkq
                  go_wp2_with fail
                  go_ret2
                  refine ⟨.inl ⟨HE.out, o, c, ?_, ?_⟩, hgw4⟩
                  · first | (rw [Hkn.out]; rfl) | rw [Hkn.out]
                  · rw [Hkn.out]; exact HS.out
end Go.Proofs.Ytopomocbjlikjaa
