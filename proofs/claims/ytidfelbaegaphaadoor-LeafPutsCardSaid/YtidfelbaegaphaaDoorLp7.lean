import Derived.Test.YtidfelbaegaphaaDoorAk7
import Derived.Test.YtidfelbaegaphaaDoorSe
import Derived.Test.YtidfelbaegaphaaDoorOw8
import Derived.Test.YtidfelbaegaphaaDoorFw7
import Derived.Test.YtidfelbaegaphaaDoorAs
import Derived.Deep.RegionLaw
namespace Go.Proofs.YtidfelbaegaphaaDoor
set_option linter.unusedVariables false
set_option linter.unusedSimpArgs false
open Go.BigFrame Go.RowKit Go.WideShapes

/-- the records that the law puts on a chain -/
abbrev pY (k v : ByteArray) : Ry := ⟨⟨⟨2, ⟨#[]⟩, ⟨#[]⟩, false, 0, [], k, v, 0⟩, 0, 0, ⟨#[]⟩, 0, 0⟩, []⟩
abbrev dY (k : ByteArray) : Ry := ⟨⟨⟨3, ⟨#[]⟩, ⟨#[]⟩, false, 0, [], k, ⟨#[]⟩, 0⟩, 0, 0, ⟨#[]⟩, 0, 0⟩, []⟩
theorem own_one {w : World} {b base : Nat} (hb : b = w.heap.size) (hbase : base ≤ b) (y : Ry) (cs : Array Value) (T : TypeId) (hcs : cs.toList = xL y.x none 0 0 none 0 0) (hr : y.x.r.rows = []) (he : y.ents = []) (hz : RxSz y.x) :
    OwnS RyE 15 T (w.alloc (.cells cs T)) base (some ⟨b, 0, none⟩) 1 1 [y] := by
  subst hb
  refine ⟨rfl, [xL y.x none 0 0 none 0 0], rfl, fun vs h => ?_, ⟨by simp, .inr ⟨w.heap.size, 1, cs, rfl, hbase, (by show (w.heap.push (.cells cs T))[w.heap.size]? = _; simp), Nat.le_refl _, by unfold maxLen; omega, ?_, ?_⟩⟩, fun i x vs hi hv => ?_⟩
  · rw [List.mem_singleton] at h
    subst h
    exact ⟨rfl, xL_one y.x none 0 0 none 0 0⟩
  · have : cs.toList.length = 15 := by rw [hcs]; rfl
    simpa using this
  · rw [hcs]; rfl
  · have hi0 : i = 0 := by have := (List.getElem?_eq_some_iff.1 hi).1; simp at this; exact this
    subst hi0
    obtain rfl : y = x := by simpa using hi
    obtain rfl : xL y.x none 0 0 none 0 0 = vs := by simpa using hv
    exact ⟨none, 0, 0, none, 0, 0, rfl, by rw [hr]; exact ⟨rfl, Nat.le_refl _, Nat.zero_le _, fun _ => rfl, ⟨0, 0, fun q => absurd q (by omega), fun i hi => absurd hi (by omega)⟩, fun i hi => absurd hi (by omega)⟩, by rw [he]; exact SlE.nil _ _ _, hz⟩

theorem step_appX {P : Program} {α : Type} {E : EP α} {k : Nat} {T S : TypeId} (hE : Mono E) {bytes : Nat} (hT : SlT P S T k bytes) {w : World} {base : Nat} {oa : Option Addr} {n cap : Nat} {l : List α} (hown : OwnS E k T w base oa n cap l)
    {ob : Option Addr} {m cap2 : Nat} {src : List α} (hsrc : SlE E k (hideB w (Value.ownBlock (.slice oa n cap))) ob m cap2 src) (hbase : base ≤ w.heap.size) (h63 : n + m ≤ maxLen) (hby : (n + m) * bytes ≤ 140737488355328)
    {ops : Array Oper} {o : Oper} {a : Act} {K : Act → World → Prop} {Q : Exit → Act → World → Prop} {Z : Prop}
    (ho : o.guard = none ∧ ∃ s x, o.op = .call { callee := .builtin .append, args := #[s, x], argTypes := #[S, S] } ∧ a.eval s = .slice oa n cap ∧ a.eval x = .slice ob m cap2)
    (h : ∀ oc cap3 w', OwnS E k T w' base oc (n + m) cap3 (l ++ src) → w.grownBy w' (Value.ownBlock (.slice oa n cap)) → K (a.put o.dst (.slice oc (n + m) cap3)) w') : if Region.wanted o (yielded ops a.tmps) = true then Oper.wp P o a w K Q else Z := by
  obtain ⟨h1, s, x, h2, h3, h4⟩ := ho
  exact step_app hE hT h1 s x h2 hbase h3 hown h4 hsrc h63 hby h
theorem search_as (oa : Option Addr) (n cap : Nat) (l : List Ry) (key : ByteArray) (w : World) (h : RecsAt w oa n cap l) (hn : n ≤ 1000) (hrs : ∀ (i : Nat) (y : Ry), l[i]? = some y → y.x.r.rows.length ≤ 100) (hk : key.size ≤ maxLen) (r : ByteArray × Bool × Int) (hr : searchP (rcs l) key = r) :
    Calls Tryd.prog 15 #[.slice oa n cap, .string key] w fun e w' => e = .returned (.tuple #[.string r.1, .bool r.2.1, errC r.2.2]) ∧ Gr w w' := by
  rw [← hr]
  exact search_leaf oa n cap l key w h hn hrs hk
theorem few_cons {y : Ry} {l : List Ry} (hy : y.x.r.rows = []) (h : ∀ (i : Nat) (y : Ry), l[i]? = some y → y.x.r.rows.length ≤ 100) : ∀ (i : Nat) (z : Ry), (y :: l)[i]? = some z → z.x.r.rows.length ≤ 100
  | 0, z, hz => by
    obtain rfl : y = z := by simpa using hz
    rw [hy]; exact Nat.zero_le _
  | i + 1, z, hz => h i z (by simpa using hz)
theorem code_errC (c : Int) (w : World) (hg : w.cell? ⟨0, 0, none⟩ = some handleV) : Calls Tryd.prog 13 #[errC c] w fun e w' => e = .returned (.int .i64 c) ∧ Gr w w' := by
  by_cases hc : c = 0
  · subst hc
    exact code_nil w
  · rw [errC_pos hc]
    exact code_any c w hg
set_option maxRecDepth 100000 in
set_option maxHeartbeats 4000000 in
theorem puts7 (oa : Option Addr) (n cap : Nat) (l : List Ry) (k v other : ByteArray) (w : World) (h : RecsAt w oa n cap l) (hes : ∀ (i : Nat) (y : Ry), l[i]? = some y → y.ents.length * 24 ≤ 140737488355328) (hk : k.size ≤ maxLen) (hv : v.size ≤ maxLen) (ho : other.size ≤ maxLen) (hh : w.cell? ⟨0, 0, none⟩ = some handleV) :
    Calls Tryd.prog 5 #[.slice oa n cap, .agg #[.string k, .string v], .string other] w fun e w' => e = .returned (.bool true) ∧ Gr w w' := by
  have Hes := Lib.hid hes
  have hk' := hk
  have hv' := hv
  have ho' := ho
  unfold maxLen at hk' hv' ho'
  have hB0 : Bx (w.alloc (.cells #[.string k, .string v] 41)) w.heap.size [.string k, .string v] := (Bx.new w _ _ rfl).of (by simp)
  have hg0 := (Gr.refl w).alloc (.cells #[.string k, .string v] 41)
  have hR0 := h.keep hg0
  have hh0 := hg0.keep hh
  clear h hes hh
  go_enter Tryd.func5, Tryd.ntmps5
  go_upto_region 1 with fail
  generalize w.alloc (.cells #[.string k, .string v] 41) = W at *
  have hbx := hB0.lt (by simp)
  generalize w.heap.size = b4 at *
  have H := Lib.hid hR0
  have HW := Lib.hid hh0
  have b0 := hB0.cell 0 rfl
  have b1 := hB0.cell 1 rfl
  have hFe := few7_any oa n cap l W hR0
  clear hR0 hh0
  go_cut [46] (fun s46 wx => ∃ t : Bool, s46 = .bool t ∧ Gr W wx ∧ Hid (t = false → n ≤ 40 ∧ (∀ (i : Nat) (y : Ry), l[i]? = some y → y.x.r.rows.length ≤ 100) ∧ k.size ≤ 100 ∧ v.size ≤ 100 ∧ other.size ≤ 100))
  case first =>
    have HFe := Lib.hid hFe
    clear hFe
    go_wp2_with ((go_at_call 6; (with_reducible refine HFe.out.mono ?_); rintro e w1 ⟨⟨b, rfl, hb⟩, d1, rfl⟩; have Hb := Lib.hid hb; clear hb; cases b))
    all_goals
      go_meet
      first
      | exact ⟨true, rfl, (Dr.gr ⟨d1, rfl⟩), Lib.hid fun q => by cases q⟩
      | exact ⟨_, rfl, (Dr.gr ⟨d1, rfl⟩), Lib.hid fun q => by
          simp only [Bool.or_eq_false_iff, decide_eq_false_iff_not] at q
          obtain ⟨⟨q1, q2⟩, q3⟩ := q
          exact ⟨(Hb.out (by trivial)).1, (Hb.out (by trivial)).2, by omega, by omega, by omega⟩⟩
  case rest =>
    obtain ⟨t, rfl, hg1, Ht⟩ := hcut
    cases t
    rotate_left
    · go_wp2_with (go_at_call 7; (with_reducible refine (awake7_any _).mono ?_); rintro e w1 ⟨rfl, hg2⟩)
      go_ret
      exact ⟨rfl, hg0.trans (hg1.trans hg2)⟩
    obtain ⟨hn, hrs, hk1, hv1, ho1⟩ := Ht.out rfl
    have Hrs := Lib.hid hrs
    have b0 := hg1.keep b0
    have b1 := hg1.keep b1
    have hbl := Nat.lt_of_lt_of_le hbx hg1.le
    have hgw := hg0.trans hg1
    have HH := Lib.hid (H.out.keep hg1)
    have HWc := Lib.hid (hg1.keep HW.out)
    clear hrs Ht hFe H HW hB0 hg0
    obtain ⟨R, hR⟩ : ∃ R, R = searchP (rcs l) k := ⟨_, rfl⟩
    have HR := Lib.hid hR
    clear hR
    go_upto_region 3 with fail
    go_cut [9] (fun s9 wx => s9 = errC R.2.2 ∧ Gr wc wx)
    case first =>
      have hO := Lib.hid fun w1 (hq : Gr wc w1) => own_recs oa n cap l w1 (HH.out.keep hq) (by omega) Hrs.out Hes.out
      go_region_held3 (fun W' => W'.cell? ⟨b4, 0, none⟩ = some (.string k))
        (first | (go_split_ands; (repeat' apply And.intro) <;> first | with_reducible assumption | (with_reducible refine Gr.keep hg3 ?_; with_reducible assumption) | ((repeat (first | with_reducible refine drew1 ?_ | with_reducible refine alloc1 ?_ | with_reducible refine far1 ?_ (by omega))); first | with_reducible assumption | (with_reducible refine Gr.keep hg3 ?_; (repeat (first | with_reducible refine drew1 ?_ | with_reducible refine alloc1 ?_)); with_reducible assumption))) | (go_split_ands; (repeat' apply And.intro) <;> first | with_reducible assumption | (with_reducible refine Gr.keep hg4 ?_; with_reducible assumption) | ((repeat (first | with_reducible refine drew1 ?_ | with_reducible refine alloc1 ?_ | with_reducible refine far1 ?_ (by omega))); first | with_reducible assumption | (with_reducible refine Gr.keep hg4 ?_; (repeat (first | with_reducible refine drew1 ?_ | with_reducible refine alloc1 ?_)); with_reducible assumption)))) (first | (go_at_call 8; (with_reducible refine (hO.out _ ?_).mono ?_); (focus ((repeat (first | with_reducible exact Gr.refl _ | with_reducible refine Gr.drewN ?_ _ | with_reducible refine Gr.drew ?_ | with_reducible refine Gr.alloc ?_ _ | with_reducible refine Gr.setCell ?_ ?_ _ | (with_reducible refine Gr.trans ?_ (by assumption)) | omega | (dsimp only; omega))); done)); rintro e w3 ⟨o3, c3, rfl, hR3, hg3⟩; (have hg9 : Gr wc w3 := Gr.trans (by (repeat (first | with_reducible exact Gr.refl _ | with_reducible refine Gr.drewN ?_ _ | with_reducible refine Gr.drew ?_ | with_reducible refine Gr.alloc ?_ _ | with_reducible refine Gr.setCell ?_ ?_ _ | (with_reducible refine Gr.trans ?_ (by assumption)) | omega | (dsimp only; omega)))) hg3); have HR3 := Lib.hid hR3; clear hR3) | (go_at_call 15; (with_reducible refine (search_leaf _ _ _ _ _ _ (HR3.out.keep ?_) ?_ Hrs.out hk).mono ?_); (focus ((repeat (first | with_reducible exact Gr.refl _ | with_reducible refine Gr.drewN ?_ _ | with_reducible refine Gr.drew ?_ | with_reducible refine Gr.alloc ?_ _ | with_reducible refine Gr.setCell ?_ ?_ _ | (with_reducible refine Gr.trans ?_ (by assumption)) | omega | (dsimp only; omega))); done)); (focus (omega; done)); rintro e w4 ⟨rfl, hg4⟩; rw [← HR.out]; (have hg8 : Gr wc w4 := Gr.trans (by (repeat (first | with_reducible exact Gr.refl _ | with_reducible refine Gr.drewN ?_ _ | with_reducible refine Gr.drew ?_ | with_reducible refine Gr.alloc ?_ _ | with_reducible refine Gr.setCell ?_ ?_ _ | (with_reducible refine Gr.trans ?_ (by assumption)) | omega | (dsimp only; omega)))) hg4)))
      all_goals (go_wp2_with fail; go_meet; with_reducible exact ⟨rfl, hg8⟩)
    case rest =>
      obtain ⟨rfl, hg5⟩ := hcut
      have b0 := hg5.keep b0
      have b1 := hg5.keep b1
      have hbl := Nat.lt_of_lt_of_le hbl hg5.le
      have hgw := hgw.trans hg5
      have HH := Lib.hid (HH.out.keep hg5)
      have HWc := Lib.hid (hg5.keep HWc.out)
      by_cases hc : R.2.2 = 0
      rotate_left
      · rw [errC_pos hc]
        go_wp2_with (go_at_call 7; (with_reducible refine (awake7_any _).mono ?_); rintro e w1 ⟨rfl, hg2⟩)
        go_ret
        exact ⟨rfl, hgw.trans hg2⟩
      rw [show errC R.2.2 = .nilIface from if_pos hc]
      have HC := Lib.hid hc
      clear hc
      have hFi := fun w1 => refFits_any k v w1 hk hv
      cases hf : fitsB ⟨k, v⟩
      · rw [hf] at hFi
        have hFi := Lib.hid hFi
        clear hf
        go_wp2_with (first | (go_at_call 17; (with_reducible refine (hFi.out _).mono ?_); rintro e w1 ⟨rfl, hg1⟩) | (go_at_call 7; (with_reducible refine (awake7_any _).mono ?_); rintro e w2 ⟨rfl, hg2⟩))
        go_ret
        exact ⟨rfl, (hgw.trans hg1).trans hg2⟩
      rw [hf] at hFi
      have HF := Lib.hid hf
      have hFi := Lib.hid hFi
      clear hf
      go_upto_region 6 with (go_at_call 17; (with_reducible refine (hFi.out _).mono ?_); rintro e w1 ⟨rfl, hg1⟩)
      have b0 := hg1.keep b0
      have b1 := hg1.keep b1
      have hbl := Nat.lt_of_lt_of_le hbl hg1.le
      have hgw := hgw.trans hg1
      have HH := Lib.hid (HH.out.keep hg1)
      have HWc := Lib.hid (hg1.keep HWc.out)
      have hnl := HH.out.len
      have Hnl := Lib.hid hnl
      have sz1 : RxSz (pY k v).x := ⟨Nat.zero_le _, Nat.zero_le _, hk, hv, Nat.zero_le _⟩
      have sz2 : RxSz (dY k).x := ⟨Nat.zero_le _, Nat.zero_le _, hk, Nat.zero_le _, Nat.zero_le _⟩
      have S1 := Lib.hid sz1
      have S2 := Lib.hid sz2
      clear sz1 sz2 hnl
      go_cut [10] (fun s10 wx => ∃ (o : Option Addr) (c : Nat), s10 = .slice o (1 + n) c ∧ RecsAt wx o (1 + n) c (pY k v :: l) ∧ Gr w1 wx)
      case first =>
        have hO := Lib.hid fun w2 (hq : Gr w1 w2) => own_recsB oa n cap l w2 (HH.out.keep hq) (by omega) Hrs.out Hes.out
        have d0 := b0
        have d1 := b1
        go_region_held3 (fun W' => W'.cell? ⟨b4, 0, none⟩ = some (.string k) ∧ W'.cell? ⟨b4, 1, none⟩ = some (.string v)) ((go_split_ands; (repeat' apply And.intro) <;> first | with_reducible assumption | (with_reducible refine Gr.keep hg3 ?_; with_reducible assumption) | ((repeat (first | with_reducible refine drew1 ?_ | with_reducible refine alloc1 ?_ | with_reducible refine far1 ?_ (by omega))); first | with_reducible assumption | (with_reducible refine Gr.keep hg3 ?_; (repeat (first | with_reducible refine drew1 ?_ | with_reducible refine alloc1 ?_)); with_reducible assumption)))) (first
          | (go_at_call 8; (with_reducible refine (hO.out _ ?_).mono ?_); (focus ((repeat (first | with_reducible exact Gr.refl _ | with_reducible refine Gr.drewN ?_ _ | with_reducible refine Gr.drew ?_ | with_reducible refine Gr.alloc ?_ _ | with_reducible refine Gr.setCell ?_ ?_ _ | (with_reducible refine Gr.trans ?_ (by assumption)) | omega | (dsimp only; omega))); done)); rintro e w3 ⟨o3, c3, rfl, hO3, hg3⟩; (have hg9 : Gr w1 w3 := Gr.trans (by (repeat (first | with_reducible exact Gr.refl _ | with_reducible refine Gr.drewN ?_ _ | with_reducible refine Gr.drew ?_ | with_reducible refine Gr.alloc ?_ _ | with_reducible refine Gr.setCell ?_ ?_ _ | (with_reducible refine Gr.trans ?_ (by assumption)) | omega | (dsimp only; omega)))) hg3); have b0 := hg9.keep d0; have b1 := hg9.keep d1; have HO3 := Lib.hid hO3; clear hO3)
          | (guard_hyp hg9 : Gr w1 w3; have hx1 := own_one (w := w3) (b := w3.heap.size) rfl hg9.le (pY k v) #[.int .i64 2, .string ⟨#[]⟩, .string ⟨#[]⟩, .bool false, .int .i64 0, .slice none 0 0, .slice none 0 0, .string k, .string v, .int .i64 0, .int .i64 0, .int .i64 0, .string ⟨#[]⟩, .int .i64 0, .int .i64 0] 49 rfl rfl rfl S1.out; have hs1 : RecsAt (hideB (w3.alloc (.cells #[.int .i64 2, .string ⟨#[]⟩, .string ⟨#[]⟩, .bool false, .int .i64 0, .slice none 0 0, .slice none 0 0, .string k, .string v, .int .i64 0, .int .i64 0, .int .i64 0, .string ⟨#[]⟩, .int .i64 0, .int .i64 0] 49)) (Value.ownBlock (.slice (some ⟨w3.heap.size, 0, none⟩) 1 1))) o3 n c3 l := HO3.out.recs0.ex RyE_mono (ex_hide ((Gr.refl _).alloc _).ex (fun g hg => by cases hg; exact Nat.le_refl _)); (with_reducible refine step_appX RyE_mono recT hx1 hs1 (hg9.alloc _).le (by unfold maxLen; omega) (by omega) ?_ ?_); (exact ⟨rfl, _, _, rfl, rfl, rfl⟩); intro oc k3 w4 ho4 hb4; have hg4 : Gr w1 w4 := hx1.gr hb4 (hg9.alloc _) (Nat.le_refl _); have hR4 : RecsAt w4 oc (1 + n) k3 (pY k v :: l) := ho4.sl RyE_mono; have b0 := hg4.keep d0; have b1 := hg4.keep d1)
          | (guard_hyp hg9 : Gr w1 w3; have hx1 := (own_one (w := w1) (b := w1.heap.size) rfl (Nat.le_refl _) (pY k v) #[.int .i64 2, .string ⟨#[]⟩, .string ⟨#[]⟩, .bool false, .int .i64 0, .slice none 0 0, .slice none 0 0, .string k, .string v, .int .i64 0, .int .i64 0, .int .i64 0, .string ⟨#[]⟩, .int .i64 0, .int .i64 0] 49 rfl rfl rfl S1.out).keep RyE_mono (w' := w3) (Gr.trans (by (repeat (first | with_reducible exact Gr.refl _ | with_reducible refine Gr.drewN ?_ _ | with_reducible refine Gr.drew ?_ | with_reducible refine Gr.alloc ?_ _ | with_reducible refine Gr.setCell ?_ ?_ _ | (with_reducible refine Gr.trans ?_ (by assumption)) | omega | (dsimp only; omega)))) hg3); have hs1 := HO3.out.recs (r := Value.ownBlock (.slice (some ⟨w1.heap.size, 0, none⟩) 1 1)) (fun g hg => by cases hg; show w1.heap.size < (w1.alloc _).heap.size; rw [size_alloc1]; omega); (with_reducible refine step_appX RyE_mono recT hx1 hs1 hg9.le (by unfold maxLen; omega) (by omega) ?_ ?_); (exact ⟨rfl, _, _, rfl, rfl, rfl⟩); intro oc k3 w4 ho4 hb4; have hg4 : Gr w1 w4 := hx1.gr hb4 hg9 (Nat.le_refl _); have hR4 : RecsAt w4 oc (1 + n) k3 (pY k v :: l) := ho4.sl RyE_mono; have b0 := hg4.keep d0; have b1 := hg4.keep d1))
        all_goals (go_wp2_with fail; go_meet; with_reducible exact ⟨oc, k3, rfl, hR4, hg4⟩)
      case rest =>
        obtain ⟨o6, c6, rfl, hP, hg6⟩ := hcut
        have HP := Lib.hid hP
        have b0 := hg6.keep b0
        have b1 := hg6.keep b1
        have hbl := Nat.lt_of_lt_of_le hbl hg6.le
        have hgw := hgw.trans hg6
        have HH := Lib.hid (HH.out.keep hg6)
        have HWc := Lib.hid (hg6.keep HWc.out)
        clear hP
        go_upto_region 7 with fail
        go_cut [11] (fun s11 wx => ∃ (o : Option Addr) (c : Nat), s11 = .slice o (1 + n) c ∧ RecsAt wx o (1 + n) c (dY k :: l) ∧ Gr wc wx)
        case first =>
          have hO := Lib.hid fun w2 (hq : Gr wc w2) => own_recsB oa n cap l w2 (HH.out.keep hq) (by omega) Hrs.out Hes.out
          have d0 := b0
          have d1 := b1
          go_region_held3 (fun W' => W'.cell? ⟨b4, 0, none⟩ = some (.string k)) ((go_split_ands; (repeat' apply And.intro) <;> first | with_reducible assumption | (with_reducible refine Gr.keep hg3 ?_; with_reducible assumption) | ((repeat (first | with_reducible refine drew1 ?_ | with_reducible refine alloc1 ?_ | with_reducible refine far1 ?_ (by omega))); first | with_reducible assumption | (with_reducible refine Gr.keep hg3 ?_; (repeat (first | with_reducible refine drew1 ?_ | with_reducible refine alloc1 ?_)); with_reducible assumption)))) (first
            | (go_at_call 8; (with_reducible refine (hO.out _ ?_).mono ?_); (focus ((repeat (first | with_reducible exact Gr.refl _ | with_reducible refine Gr.drewN ?_ _ | with_reducible refine Gr.drew ?_ | with_reducible refine Gr.alloc ?_ _ | with_reducible refine Gr.setCell ?_ ?_ _ | (with_reducible refine Gr.trans ?_ (by assumption)) | omega | (dsimp only; omega))); done)); rintro e w3 ⟨o3, c3, rfl, hO3, hg3⟩; (have hg9 : Gr wc w3 := Gr.trans (by (repeat (first | with_reducible exact Gr.refl _ | with_reducible refine Gr.drewN ?_ _ | with_reducible refine Gr.drew ?_ | with_reducible refine Gr.alloc ?_ _ | with_reducible refine Gr.setCell ?_ ?_ _ | (with_reducible refine Gr.trans ?_ (by assumption)) | omega | (dsimp only; omega)))) hg3); have b0 := hg9.keep d0; have b1 := hg9.keep d1; have HO3 := Lib.hid hO3; clear hO3)
            | (guard_hyp hg9 : Gr wc w3; have hx1 := own_one (w := w3) (b := w3.heap.size) rfl hg9.le (dY k) #[.int .i64 3, .string ⟨#[]⟩, .string ⟨#[]⟩, .bool false, .int .i64 0, .slice none 0 0, .slice none 0 0, .string k, .string ⟨#[]⟩, .int .i64 0, .int .i64 0, .int .i64 0, .string ⟨#[]⟩, .int .i64 0, .int .i64 0] 49 rfl rfl rfl S2.out; have hs1 : RecsAt (hideB (w3.alloc (.cells #[.int .i64 3, .string ⟨#[]⟩, .string ⟨#[]⟩, .bool false, .int .i64 0, .slice none 0 0, .slice none 0 0, .string k, .string ⟨#[]⟩, .int .i64 0, .int .i64 0, .int .i64 0, .string ⟨#[]⟩, .int .i64 0, .int .i64 0] 49)) (Value.ownBlock (.slice (some ⟨w3.heap.size, 0, none⟩) 1 1))) o3 n c3 l := HO3.out.recs0.ex RyE_mono (ex_hide ((Gr.refl _).alloc _).ex (fun g hg => by cases hg; exact Nat.le_refl _)); (with_reducible refine step_appX RyE_mono recT hx1 hs1 (hg9.alloc _).le (by unfold maxLen; omega) (by omega) ?_ ?_); (exact ⟨rfl, _, _, rfl, rfl, rfl⟩); intro oc k3 w4 ho4 hb4; have hg4 : Gr wc w4 := hx1.gr hb4 (hg9.alloc _) (Nat.le_refl _); have hR4 : RecsAt w4 oc (1 + n) k3 (dY k :: l) := ho4.sl RyE_mono; have b0 := hg4.keep d0; have b1 := hg4.keep d1)
            | (guard_hyp hg9 : Gr wc w3; have hx1 := (own_one (w := wc) (b := wc.heap.size) rfl (Nat.le_refl _) (dY k) #[.int .i64 3, .string ⟨#[]⟩, .string ⟨#[]⟩, .bool false, .int .i64 0, .slice none 0 0, .slice none 0 0, .string k, .string ⟨#[]⟩, .int .i64 0, .int .i64 0, .int .i64 0, .string ⟨#[]⟩, .int .i64 0, .int .i64 0] 49 rfl rfl rfl S2.out).keep RyE_mono (w' := w3) (Gr.trans (by (repeat (first | with_reducible exact Gr.refl _ | with_reducible refine Gr.drewN ?_ _ | with_reducible refine Gr.drew ?_ | with_reducible refine Gr.alloc ?_ _ | with_reducible refine Gr.setCell ?_ ?_ _ | (with_reducible refine Gr.trans ?_ (by assumption)) | omega | (dsimp only; omega)))) hg3); have hs1 := HO3.out.recs (r := Value.ownBlock (.slice (some ⟨wc.heap.size, 0, none⟩) 1 1)) (fun g hg => by cases hg; show wc.heap.size < (wc.alloc _).heap.size; rw [size_alloc1]; omega); (with_reducible refine step_appX RyE_mono recT hx1 hs1 hg9.le (by unfold maxLen; omega) (by omega) ?_ ?_); (exact ⟨rfl, _, _, rfl, rfl, rfl⟩); intro oc k3 w4 ho4 hb4; have hg4 : Gr wc w4 := hx1.gr hb4 hg9 (Nat.le_refl _); have hR4 : RecsAt w4 oc (1 + n) k3 (dY k :: l) := ho4.sl RyE_mono; have b0 := hg4.keep d0; have b1 := hg4.keep d1))
          all_goals (go_wp2_with fail; go_meet; with_reducible exact ⟨oc, k3, rfl, hR4, hg4⟩)
        case rest =>
          obtain ⟨o7, c7, rfl, hD, hg7⟩ := hcut
          have HP := Lib.hid (HP.out.keep hg7)
          have HD := Lib.hid hD
          have b0 := hg7.keep b0
          have b1 := hg7.keep b1
          have hgw := hgw.trans hg7
          have HH := Lib.hid (HH.out.keep hg7)
          have HWc := Lib.hid (hg7.keep HWc.out)
          clear hD
          have hR0 : searchP (rcs l) k = ((R.1, R.2.1).1, (R.1, R.2.1).2, 0) := by
            rw [← HR.out, ← HC.out]
          obtain ⟨hL1, hL2, hL3⟩ := put_law hR0 HF.out (pY k v).x.r (dY k).x.r ⟨rfl, rfl, rfl⟩ ⟨rfl, rfl⟩
          have hS1 := Lib.hid fun w2 (hq : Gr wc w2) => search_as o6 (1 + n) c6 (pY k v :: l) k w2 (HP.out.keep hq) (by omega) (few_cons rfl Hrs.out) hk (v, true, 0) hL1
          have hS2 := Lib.hid fun w2 (hq : Gr wc w2) => search_as o7 (1 + n) c7 (dY k :: l) k w2 (HD.out.keep hq) (by omega) (few_cons rfl Hrs.out) hk (⟨#[]⟩, false, 0) hL2
          have HL3 := Lib.hid hL3
          clear hL1 hL2 hL3 hR0
          go_upto_region 10 with (first | (go_at_call 15; (with_reducible refine (hS1.out _ ?_).mono ?_); (focus ((repeat (first | with_reducible exact Gr.refl _ | with_reducible refine Gr.drewN ?_ _ | with_reducible refine Gr.drew ?_ | with_reducible refine Gr.alloc ?_ _ | with_reducible refine Gr.setCell ?_ ?_ _ | (with_reducible refine Gr.trans ?_ (by assumption)) | omega | (dsimp only; omega))); done)); rintro e w3 ⟨rfl, hg3⟩; (have b0 := hg3.keep b0); have b1 := hg3.keep b1; (have hg9 : Gr wc w3 := Gr.trans (by (repeat (first | with_reducible exact Gr.refl _ | with_reducible refine Gr.drewN ?_ _ | with_reducible refine Gr.drew ?_ | with_reducible refine Gr.alloc ?_ _ | with_reducible refine Gr.setCell ?_ ?_ _ | (with_reducible refine Gr.trans ?_ (by assumption)) | omega | (dsimp only; omega)))) hg3)) | (go_at_call 15; (with_reducible refine (hS2.out _ ?_).mono ?_); (focus ((repeat (first | with_reducible exact Gr.refl _ | with_reducible refine Gr.drewN ?_ _ | with_reducible refine Gr.drew ?_ | with_reducible refine Gr.alloc ?_ _ | with_reducible refine Gr.setCell ?_ ?_ _ | (with_reducible refine Gr.trans ?_ (by assumption)) | omega | (dsimp only; omega))); done)); rintro e w4 ⟨rfl, hg4⟩; (have b0 := hg4.keep b0); have b1 := hg4.keep b1; (have hg8 : Gr wc w4 := Gr.trans (by (repeat (first | with_reducible exact Gr.refl _ | with_reducible refine Gr.drewN ?_ _ | with_reducible refine Gr.drew ?_ | with_reducible refine Gr.alloc ?_ _ | with_reducible refine Gr.setCell ?_ ?_ _ | (with_reducible refine Gr.trans ?_ (by assumption)) | omega | (dsimp only; omega)))) hg4)))
          rw [show errC 0 = Value.nilIface from rfl]
          by_cases hq : other = k
          · subst hq
            go_wp2_with (go_at_call 7; (with_reducible refine (awake7_any _).mono ?_); rintro e w5 ⟨rfl, hg5⟩)
            go_ret
            exact ⟨rfl, (hgw.trans hg8).trans hg5⟩
          · have Hq := Lib.hid hq
            clear hq
            obtain ⟨R', hR'⟩ : ∃ R', R' = searchP (rcs l) other := ⟨_, rfl⟩
            have HR' := Lib.hid hR'
            have hO := Lib.hid fun w2 (hq : Gr wc w2) => own_recs oa n cap l w2 (HH.out.keep hq) (by omega) Hrs.out Hes.out
            have hS3 := Lib.hid fun w2 (o : Option Addr) (c : Nat) (hq : RecsAt w2 o n c l) => search_as o n c l other w2 hq (by omega) Hrs.out ho R' hR'.symm
            have hS4 := Lib.hid fun w2 (hq : Gr wc w2) => search_as o6 (1 + n) c6 (pY k v :: l) other w2 (HP.out.keep hq) (by omega) (few_cons rfl Hrs.out) ho R' ((HL3.out other Hq.out).1.trans hR'.symm)
            have hS5 := Lib.hid fun w2 (hq : Gr wc w2) => search_as o7 (1 + n) c7 (dY k :: l) other w2 (HD.out.keep hq) (by omega) (few_cons rfl Hrs.out) ho R' ((HL3.out other Hq.out).2.trans hR'.symm)
            clear hR'
            generalize hc' : R'.2.2 = cc at *
            generalize R'.1 = ra at *
            generalize R'.2.1 = rb at *
            have hrb : (rb == rb) = true := by cases rb <;> rfl
            go_wp2_with (first
              | (go_at_call 7; (with_reducible refine (awake7_any _).mono ?_); rintro e w5 ⟨rfl, hg5⟩)
              | (go_at_call 8; (with_reducible refine (hO.out _ ?_).mono ?_); (focus ((repeat (first | with_reducible exact Gr.refl _ | with_reducible refine Gr.drewN ?_ _ | with_reducible refine Gr.drew ?_ | with_reducible refine Gr.alloc ?_ _ | with_reducible refine Gr.setCell ?_ ?_ _ | (with_reducible refine Gr.trans ?_ (by assumption)) | omega | (dsimp only; omega))); done)); rintro e w5 ⟨o5, c5, rfl, hR5, hg5⟩; (have hg9 : Gr wc w5 := Gr.trans (by (repeat (first | with_reducible exact Gr.refl _ | with_reducible refine Gr.drewN ?_ _ | with_reducible refine Gr.drew ?_ | with_reducible refine Gr.alloc ?_ _ | with_reducible refine Gr.setCell ?_ ?_ _ | (with_reducible refine Gr.trans ?_ (by assumption)) | omega | (dsimp only; omega)))) hg5); have HR5 := Lib.hid hR5; clear hR5)
              | (go_at_call 15; (with_reducible refine (hS3.out _ _ _ (HR5.out.keep ?_)).mono ?_); (focus ((repeat (first | with_reducible exact Gr.refl _ | with_reducible refine Gr.drewN ?_ _ | with_reducible refine Gr.drew ?_ | with_reducible refine Gr.alloc ?_ _ | with_reducible refine Gr.setCell ?_ ?_ _ | (with_reducible refine Gr.trans ?_ (by assumption)) | omega | (dsimp only; omega))); done)); rintro e w6 ⟨rfl, hg6⟩; (have hg9 : Gr wc w6 := Gr.trans (by (repeat (first | with_reducible exact Gr.refl _ | with_reducible refine Gr.drewN ?_ _ | with_reducible refine Gr.drew ?_ | with_reducible refine Gr.alloc ?_ _ | with_reducible refine Gr.setCell ?_ ?_ _ | (with_reducible refine Gr.trans ?_ (by assumption)) | omega | (dsimp only; omega)))) hg6))
              | (go_at_call 15; (with_reducible refine (hS4.out _ ?_).mono ?_); (focus ((repeat (first | with_reducible exact Gr.refl _ | with_reducible refine Gr.drewN ?_ _ | with_reducible refine Gr.drew ?_ | with_reducible refine Gr.alloc ?_ _ | with_reducible refine Gr.setCell ?_ ?_ _ | (with_reducible refine Gr.trans ?_ (by assumption)) | omega | (dsimp only; omega))); done)); rintro e w7 ⟨rfl, hg7⟩; (have hg9 : Gr wc w7 := Gr.trans (by (repeat (first | with_reducible exact Gr.refl _ | with_reducible refine Gr.drewN ?_ _ | with_reducible refine Gr.drew ?_ | with_reducible refine Gr.alloc ?_ _ | with_reducible refine Gr.setCell ?_ ?_ _ | (with_reducible refine Gr.trans ?_ (by assumption)) | omega | (dsimp only; omega)))) hg7))
              | (go_at_call 15; (with_reducible refine (hS5.out _ ?_).mono ?_); (focus ((repeat (first | with_reducible exact Gr.refl _ | with_reducible refine Gr.drewN ?_ _ | with_reducible refine Gr.drew ?_ | with_reducible refine Gr.alloc ?_ _ | with_reducible refine Gr.setCell ?_ ?_ _ | (with_reducible refine Gr.trans ?_ (by assumption)) | omega | (dsimp only; omega))); done)); rintro e w8 ⟨rfl, hg8⟩; (have hg9 : Gr wc w8 := Gr.trans (by (repeat (first | with_reducible exact Gr.refl _ | with_reducible refine Gr.drewN ?_ _ | with_reducible refine Gr.drew ?_ | with_reducible refine Gr.alloc ?_ _ | with_reducible refine Gr.setCell ?_ ?_ _ | (with_reducible refine Gr.trans ?_ (by assumption)) | omega | (dsimp only; omega)))) hg8))
              | (go_at_call 13; (with_reducible refine (code_errC _ _ (Gr.keep ?_ HWc.out)).mono ?_); (focus ((repeat (first | with_reducible exact Gr.refl _ | with_reducible refine Gr.drewN ?_ _ | with_reducible refine Gr.drew ?_ | with_reducible refine Gr.alloc ?_ _ | with_reducible refine Gr.setCell ?_ ?_ _ | (with_reducible refine Gr.trans ?_ (by assumption)) | omega | (dsimp only; omega))); done)); rintro e w9 ⟨rfl, hg10⟩; (have hg9 : Gr wc w9 := Gr.trans (by (repeat (first | with_reducible exact Gr.refl _ | with_reducible refine Gr.drewN ?_ _ | with_reducible refine Gr.drew ?_ | with_reducible refine Gr.alloc ?_ _ | with_reducible refine Gr.setCell ?_ ?_ _ | (with_reducible refine Gr.trans ?_ (by assumption)) | omega | (dsimp only; omega)))) hg10)))
            all_goals
              go_ret
              exact ⟨rfl, hgw.trans (Gr.trans (by (repeat (first | with_reducible exact Gr.refl _ | with_reducible refine Gr.drewN ?_ _ | with_reducible refine Gr.drew ?_ | with_reducible refine Gr.alloc ?_ _ | with_reducible refine Gr.setCell ?_ ?_ _ | (with_reducible refine Gr.trans ?_ (by assumption)) | omega | (dsimp only; omega)))) hg5)⟩
end Go.Proofs.YtidfelbaegaphaaDoor
