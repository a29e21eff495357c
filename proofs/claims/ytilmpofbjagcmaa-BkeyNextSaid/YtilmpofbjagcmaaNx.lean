import Derived.Test.YtilmpofbjagcmaaBk
import Derived.BigRegion
namespace Go.Proofs.Ytilmpofbjagcmaa
open Go.RowKit

/-- the text behind a text of full length: at the last byte that is not 255 -/
def nextK (s : ByteArray) : Nat → Option ByteArray
  | 0 => none
  | n + 1 => if (Tx s).getD n 0 = 255 then nextK s n else some (s.extract 0 n ++ strOfNums [((((Tx s).getD n 0).toNat : Int) + 1) % 256])
theorem nextK_hit {s : ByteArray} {n : Nat} {r : Option ByteArray} (h : n < s.size) (hr : nextK s (n + 1) = r) (hb : ((s[n].toNat : Int) == 255) = false) :
    r = some (s.extract 0 n ++ strOfNums [((s[n].toNat : Int) + 1) % 256]) := by
  subst hr
  rw [nextK, tx_get s n h, if_neg]
  intro e; rw [e] at hb; simp at hb
theorem nextK_miss {s : ByteArray} {n : Nat} {r : Option ByteArray} (h : n < s.size) (hr : nextK s (n + 1) = r) (hb : ((s[n].toNat : Int) == 255) = true) : nextK s n = r := by
  subst hr
  rw [nextK, tx_get s n h, if_pos]
  have h' : (s[n].toNat : Int) = 255 := by simpa using hb
  exact UInt8.toNat_inj.1 (by show s[n].toNat = 255; omega)
theorem nextK_hit' {s : ByteArray} {n : Nat} {r : Option ByteArray} (h : n < s.size) (hr : nextK s (n + 1) = r) (hb : (s[n].toNat : Int) < 255) :
    r = some (s.extract 0 n ++ strOfNums [(s[n].toNat : Int) + 1]) := by
  have e := nextK_hit h hr (by simp; omega)
  rwa [show ((s[n].toNat : Int) + 1) % 256 = (s[n].toNat : Int) + 1 by omega] at e
theorem nextK_miss' {s : ByteArray} {n : Nat} {r : Option ByteArray} (h : n < s.size) (hr : nextK s (n + 1) = r) (hb : 255 ≤ (s[n].toNat : Int)) : nextK s n = r :=
  nextK_miss h hr (by have := s[n].toNat_lt; simp; omega)
/-- what Next tells of a key of full length -/
def nextRes : Option ByteArray → Value
  | none => .tuple #[.string ByteArray.empty, errV 6]
  | some s => .tuple #[.string s, .nilIface]
theorem conv_one (w : World) (d : Nat) (x : Int) : (convert 48 9 (.slice (some ⟨w.heap.size, 0, none⟩) 1 1)).run Try.prog ((w.drewN d).alloc (.cells #[.int .u8 x] 5)) =
    .ok (.string (strOfNums [x])) ((w.drewN d).alloc (.cells #[.int .u8 x] 5)) :=
  run_convert_bytes_arg _ 48 5 Try.underlying48 Try.underlying5 _ 0 1 1 [x] rfl (fun i hi => by
    obtain rfl : i = 0 := by omega
    exact World.cell?_alloc_new (w.drewN d) #[.int .u8 x] 5 0) _ Try.underlying9
theorem cat_one (key : ByteArray) (hk : key.size < 17) (n : Nat) (x : Int) (w : World) :
    (Op.stringOp .add (key.extract 0 n) (strOfNums [x])).run Try.prog w = .ok (.string (key.extract 0 n ++ strOfNums [x])) w :=
  run_string_add_sum w _ _ (by rw [ByteArray.size_extract, strOfNums_size]; simp; omega)

set_option maxHeartbeats 400000 in
theorem next_bad (key : ByteArray) (w : World) (hk : key.size ≤ maxLen) (h : rightB key = false) :
    Calls Try.prog 20 #[.string key] w fun e w' => e = .returned (.tuple #[.string ByteArray.empty, errV 1]) ∧ Dr w w' := by
  go_enter Try.func20, Try.ntmps20
  go_wp2
  go_step3
  go_wp2_with (go_at_call 17; refine (right_any _ _ (by assumption)).mono ?_; rintro e w' ⟨rfl, d, rfl⟩)
  rw [Exit.noGoto_ret]
  go_ret2
  exact ⟨rfl, _, rfl⟩

set_option maxHeartbeats 400000 in
theorem next_short (key : ByteArray) (w : World) (hk : key.size ≤ maxLen) (h : rightB key = true) (h16 : key.size < 16) :
    Calls Try.prog 20 #[.string key] w fun e w' => e = .returned (.tuple #[.string (key ++ ⟨#[0]⟩), .nilIface]) ∧ Dr w w' := by
  have hk' := hk
  unfold maxLen at hk'
  go_enter Try.func20, Try.ntmps20
  go_wp2
  go_step3
  go_wp2_with (go_at_call 17; refine (right_any _ _ (by assumption)).mono ?_; rintro e w' ⟨rfl, d, rfl⟩)
  rw [Exit.noGoto_ret]
  go_ret2
  exact ⟨rfl, _, rfl⟩

/-- what holds at each jump -/
def NextJ (key : ByteArray) (res : Option ByteArray) (w : World) (a' : Act) (w' : World) : Prop :=
  ∃ (m : Int) (u5 u6 u7 u8 u9 u10 u11 u12 u13 u14 u15 u16 u17 u18 u19 u20 u21 u22 u23 u24 u25 u26 u27 u28 u29 u30 u31 u32 u33 u34 u35 : Value), 0 ≤ m ∧ m < 16 ∧ nextK key (m.toNat + 1) = res ∧ Dr w w' ∧
      a' = { tmps := #[.string key, undef, .string ⟨#[]⟩, .nilIface, .int .i64 m, u5, u6, u7, u8, u9, u10, u11, u12, u13, u14, u15, u16, u17, u18, u19, u20, u21, u22, u23, u24, u25, u26, u27, u28, u29, u30, u31, u32, u33, u34, u35], defers := [] }

set_option maxHeartbeats 1000000 in
theorem next_long (key : ByteArray) (w : World) (hk : key.size ≤ maxLen) (h : rightB key = true) (h16 : 16 ≤ key.size) (h17 : key.size < 17) :
    Calls Try.prog 20 #[.string key] w fun e w' => e = .returned (nextRes (nextK key 16)) ∧ Below w.heap.size w w' := by
  generalize hr : nextK key 16 = res
  have hr' : nextK key (key.size - 1 + 1) = res := by rw [show key.size - 1 + 1 = 16 by omega, hr]
  have Hr := Lib.hid hr'
  clear hr hr'
  have hcv := conv_one w
  have hct := cat_one key h17
  go_enter Try.func20, Try.ntmps20
  go_wp2
  refine wp_scope_jumps 0 (NextJ key res w) (fun a' _ => (intOf (a'.tmps.getD 4 undef)).toNat) rfl ?_ ?_
  · go_wp2_with (go_at_call 17; refine (right_any _ _ (by assumption)).mono ?_; rintro e w' ⟨rfl, d, rfl⟩)
    go_step3
    go_wp2
    · go_step3
      have e1 := nextK_miss (by omega) Hr.out (by assumption)
      exact ⟨rfl, (key.size : Int) - 1 - 1, _, _, _, _, _, _, _, _, _, _, _, _, _, _, _, _, _, _, _, _, _, _, _, _, _, _, _, _, _, _, _, by omega, by omega, by rw [show ((key.size : Int) - 1 - 1).toNat + 1 = key.size - 1 by omega]; exact e1, ⟨_, rfl⟩, rfl⟩
    · go_region
      go_wp2
      have e1 := nextK_hit (by omega) Hr.out (by assumption)
      simp only [Exit.jump]
      go_ret2
      exact ⟨by rw [e1]; rfl, (Dr.below ⟨_, rfl⟩ _).alloc (Nat.le_refl _) _⟩
  · rintro a' w' ⟨m, u5, u6, u7, u8, u9, u10, u11, u12, u13, u14, u15, u16, u17, u18, u19, u20, u21, u22, u23, u24, u25, u26, u27, u28, u29, u30, u31, u32, u33, u34, u35, hm0, hm1, hm, ⟨d, rfl⟩, rfl⟩
    have Hm := Lib.hid hm
    clear hm
    have hmk : m < (key.size : Int) := by omega
    have hmk2 : m.toNat < key.size := by omega
    go_wp2
    · have e1 := nextK_miss hmk2 Hm.out (by assumption)
      have e2 : m.toNat = 0 := by omega
      rw [e2] at e1
      simp only [Exit.jump]
      go_ret2
      exact ⟨by rw [← e1]; rfl, (Dr.below ⟨_, rfl⟩ _)⟩
    · go_step3
      have e1 := nextK_miss hmk2 Hm.out (by assumption)
      refine ⟨rfl, ⟨m - 1, _, _, _, _, _, _, _, _, _, _, _, _, _, _, _, _, _, _, _, _, _, _, _, _, _, _, _, _, _, _, _, by omega, by omega, by rw [show (m - 1).toNat + 1 = m.toNat by omega]; exact e1, ⟨_, rfl⟩, rfl⟩, ?_⟩
      simp [intOf]; omega
    · go_region
      go_wp2
      have e1 := nextK_hit hmk2 Hm.out (by assumption)
      simp only [Exit.jump]
      go_ret2
      exact ⟨by rw [e1]; rfl, (Dr.below ⟨_, rfl⟩ _).alloc (Nat.le_refl _) _⟩

/-- what the reference's Next tells of a key of full length -/
def nextRef : Option ByteArray → Value
  | none => .tuple #[.string ByteArray.empty, .bool false]
  | some s => .tuple #[.string s, .bool true]
theorem strOf_zero : strOfNums [0] = ⟨#[0]⟩ := rfl

set_option maxHeartbeats 400000 in
theorem refNext_short (key : ByteArray) (w : World) (h16 : key.size < 16) :
    Calls Try.prog 26 #[.string key] w fun e w' => e = .returned (.tuple #[.string (key ++ ⟨#[0]⟩), .bool true]) ∧ Below w.heap.size w w' := by
  have hcv : (convert 48 9 (.slice (some ⟨w.heap.size, 0, none⟩) 1 1)).run Try.prog (w.alloc (.cells #[.int .u8 0] 5)) =
    .ok (.string (strOfNums [0])) (w.alloc (.cells #[.int .u8 0] 5)) := conv_one w 0 0
  have hct : ∀ w : World, (Op.stringOp .add key (strOfNums [0])).run Try.prog w = .ok (.string (key ++ strOfNums [0])) w := fun w =>
    run_string_add_sum w _ _ (by rw [strOfNums_size]; simp; omega)
  go_enter Try.func26, Try.ntmps26
  go_wp2
  go_ret2
  exact ⟨rfl, (Below.refl _ _).alloc (Nat.le_refl _) _⟩

set_option maxRecDepth 100000 in
set_option maxHeartbeats 1000000 in
theorem refNext_long (key : ByteArray) (w : World) (h16 : 16 ≤ key.size) (h17 : key.size < 17) :
    Calls Try.prog 26 #[.string key] w fun e w' => e = .returned (nextRef (nextK key 16)) ∧ Below w.heap.size w w' := by
  generalize hr : nextK key 16 = res
  have Hr := Lib.hid hr
  clear hr
  have hcv := conv_one w
  have hct := cat_one key h17
  go_enter Try.func26, Try.ntmps26
  go_wp2
  go_loopw [4] (fun i wr => ∃ m : Int, -1 ≤ m ∧ m < 16 ∧ i = .int .i64 m ∧ Hid (nextK key (m + 1).toNat = res) ∧ Dr w wr) (fun i _ => (intOf i + 1).toNat)
  case atStart => exact ⟨15, by omega, by omega, rfl, Hr, Dr.refl _⟩
  case round =>
    obtain ⟨m, hm0, hm1, rfl, Hm, d, rfl⟩ := hrel
    by_cases hm : 0 ≤ m
    · have hmk : m < (key.size : Int) := by omega
      have hmk2 : m.toNat < key.size := by omega
      have Hm' : nextK key (m.toNat + 1) = res := by rw [show m.toNat + 1 = (m + 1).toNat by omega]; exact Hm.out
      have Hm2 := Lib.hid Hm'
      clear Hm Hm'
      go_wp2
      · go_region
        go_wp2
        have e1 := nextK_hit' hmk2 Hm2.out (by assumption)
        go_ret2
        exact ⟨by rw [e1]; rfl, (Dr.below ⟨_, rfl⟩ _).alloc (Nat.le_refl _) _⟩
      · have e1 := nextK_miss' hmk2 Hm2.out (by assumption)
        go_roundw
        case rel => exact ⟨m - 1, by omega, by omega, rfl, by rw [show (m - 1 + 1).toNat = m.toNat by omega]; exact e1, _, rfl⟩
        case measure => simp [intOf]; omega
    · have e2 : (m + 1).toNat = 0 := by omega
      rw [e2] at Hm
      go_wp2
      go_ret2
      exact ⟨by rw [← Hm.out]; rfl, (Dr.below ⟨_, rfl⟩ _)⟩
end Go.Proofs.Ytilmpofbjagcmaa
