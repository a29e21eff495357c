import Derived.Test.YtidfelbaegaphaaDoorRows
import Derived.Test.YtidfelbaegaphaaDoorStr
import Derived.WalkKit
import Derived.WalkSpells
import Derived.WalkLawsBesides
import Derived.Deep.QuietTactic
import Derived.BigQuiet
import Derived.Lib.Hide
namespace Go.Proofs.YtidfelbaegaphaaDoor
open Go.RowKit

/-- w' is w but for draws -/
def Dr (w w' : World) : Prop := ∃ n, w' = w.drewN n
theorem Dr.refl (w : World) : Dr w w := ⟨0, rfl⟩
theorem Dr.step {w w' : World} (h : Dr w w') (n : Nat) : Dr w (w'.drewN n) := by
  obtain ⟨m, rfl⟩ := h
  exact ⟨m + n, World.drewN_drewN _ _ _⟩
theorem Dr.drew {w w' : World} (h : Dr w w') : Dr w w'.drew := h.step 1
theorem Dr.trans {a b c : World} (h : Dr a b) (k : Dr b c) : Dr a c := by
  obtain ⟨m, rfl⟩ := k
  exact h.step m
theorem Dr.below {w w' : World} (h : Dr w w') (B : Nat) : Below B w w' := by
  obtain ⟨m, rfl⟩ := h
  exact ⟨rfl, rfl, rfl, Nat.le_refl _, fun _ _ => rfl⟩

/-- w' is w with more blocks behind it, and draws -/
def Gr (w w' : World) : Prop := Below w.heap.size w w'
theorem Gr.refl (w : World) : Gr w w := Below.refl _ _
theorem Gr.trans {a b c : World} (h : Gr a b) (k : Gr b c) : Gr a c := Below.trans h (Below.mono k h.size)
theorem Gr.drewN {w w' : World} (h : Gr w w') (n : Nat) : Gr w (w'.drewN n) := ⟨h.os, h.tape, h.output, h.size, h.block⟩
theorem Gr.drew {w w' : World} (h : Gr w w') : Gr w w'.drew := h.drewN 1
theorem Gr.alloc {w w' : World} (h : Gr w w') (o : Obj) : Gr w (w'.alloc o) := Below.alloc h h.size o
theorem Gr.setCell {w w' : World} (h : Gr w w') {p : Addr} (hp : w.heap.size ≤ p.block) (u : Value) : Gr w (w'.setCell p u) := Below.setCell h hp u
theorem Dr.gr {w w' : World} (h : Dr w w') : Gr w w' := h.below _
theorem Gr.le {w w' : World} (h : Gr w w') : w.heap.size ≤ w'.heap.size := h.size
theorem Gr.cell {w w' : World} (h : Gr w w') {b o : Nat} (hb : b < w.heap.size) : w'.cell? ⟨b, o, none⟩ = w.cell? ⟨b, o, none⟩ := Below.cell h (p := ⟨b, o, none⟩) hb
theorem Gr.frozen {w w' : World} (h : Gr w w') {b o : Nat} (hb : b < w.heap.size) : w'.frozen? ⟨b, o, none⟩ = w.frozen? ⟨b, o, none⟩ := Below.frozen h (p := ⟨b, o, none⟩) hb

theorem Gr.cells {W w1 : World} (h : Gr W w1) : ∀ b o, b < W.heap.size → w1.cell? ⟨b, o, none⟩ = W.cell? ⟨b, o, none⟩ := fun _ _ hb => h.cell hb
theorem Gr.frozens {W w1 : World} (h : Gr W w1) : ∀ b o, b < W.heap.size → w1.frozen? ⟨b, o, none⟩ = W.frozen? ⟨b, o, none⟩ := fun _ _ hb => h.frozen hb
theorem quiet_dr0 {P : Program} {f : FuncId} {args : Array Value} {w : World} {n : Nat} {v : Value}
    (h : Calls P f args (w.drewN n) fun e w' => e = .returned v ∧ Dr (w.drewN n) w') : Calls P f args (w.drewN n) fun e w'' => e = .returned v ∧ ∃ m, w'' = w.drewN m :=
  h.mono fun _ _ ⟨he, m, hm⟩ => ⟨he, n + m, by rw [hm, World.drewN_drewN]⟩
theorem quiet_dr1 {P : Program} {f : FuncId} {args : Array Value} {w : World} {d n : Nat} {v : Value}
    (h : Calls P f args (w.drewN (d + n)) fun e w' => e = .returned v ∧ Dr (w.drewN (d + n)) w') : Calls P f args (w.drewN (d + n)) fun e w'' => e = .returned v ∧ ∃ m, w'' = w.drewN (d + m) :=
  h.mono fun _ _ ⟨he, m, hm⟩ => ⟨he, n + m, by rw [hm, World.drewN_drewN, Nat.add_assoc]⟩

/-- a world behind w: more blocks, draws -/
structure After (w : World) where
  W : World
  gr : Gr w W
instance (w : World) : Inhabited (After w) := ⟨⟨w, Gr.refl w⟩⟩
theorem wp_region_after {P : Program} {id : Nat} {Q : Exit → Act → World → Prop} {a : Act} {w : World} {l : List Oper} (hm : P.follows .mixedOrders = true) (hB : Region.lexB .any l.toArray = true)
    (h : wpQuiet P l.toArray (fun w' => ∃ p : After w, w' = p.W) (fun a' => ∀ w', (∃ p : After w, w' = p.W) → Q .normal a' w') l a) : (Code.region id l.toArray true).wp P Q a w :=
  wp_region_quiet (C := fun w' => ∃ p : After w, w' = p.W) hm hB ⟨⟨w.drew, (Gr.refl w).drew⟩, rfl⟩ (by simpa using h)
theorem after_gr {P : Program} {f : FuncId} {args : Array Value} {w : World} {p : After w} {v : Value}
    (h : Calls P f args p.W fun e w' => e = .returned v ∧ Gr p.W w') : Calls P f args p.W fun e w'' => e = .returned v ∧ ∃ q : After w, w'' = q.W :=
  h.mono fun _ w'' ⟨he, hg⟩ => ⟨he, ⟨w'', p.gr.trans hg⟩, rfl⟩
theorem after_dr {P : Program} {f : FuncId} {args : Array Value} {w : World} {p : After w} {v : Value}
    (h : Calls P f args p.W fun e w' => e = .returned v ∧ Dr p.W w') : Calls P f args p.W fun e w'' => e = .returned v ∧ ∃ q : After w, w'' = q.W :=
  h.mono fun _ w'' ⟨he, hg⟩ => ⟨he, ⟨w'', p.gr.trans hg.gr⟩, rfl⟩
theorem after_same {P : Program} {f : FuncId} {args : Array Value} {w : World} {p : After w} {v : Value}
    (h : Calls P f args p.W fun e w' => e = .returned v ∧ p.W = w') : Calls P f args p.W fun e w'' => e = .returned v ∧ ∃ q : After w, w'' = q.W :=
  h.mono fun _ _ ⟨he, hg⟩ => ⟨he, p, hg.symm⟩
theorem After.cell {w : World} {b o : Nat} {v : Value} (h : w.cell? ⟨b, o, none⟩ = some v) : ∀ p : After w, p.W.cell? ⟨b, o, none⟩ = some v := fun p => by
  have hb : b < w.heap.size := by
    rcases Nat.lt_or_ge b w.heap.size with k | k
    · exact k
    · unfold World.cell? at h
      rw [show w.heap[b]? = none from Array.getElem?_eq_none k] at h
      simp at h
  rw [p.gr.cell hb, h]
theorem Gr.keep {w w' : World} (hg : Gr w w') {b o : Nat} {v : Value} (h : w.cell? ⟨b, o, none⟩ = some v) : w'.cell? ⟨b, o, none⟩ = some v := After.cell h ⟨w', hg⟩

/-- a text of a string value -/
abbrev Tx (s : ByteArray) : Str.Txt := s.data.toList

theorem tx_length (s : ByteArray) : (Tx s).length = s.size := by rw [Tx, Array.length_toList]; rfl
theorem tx_get (s : ByteArray) (k : Nat) (h : k < s.size) : (Tx s).getD k 0 = s[k] := by
  have h' : k < s.data.toList.length := by rw [Array.length_toList]; exact h
  rw [Tx, List.getD_eq_getElem?_getD, List.getElem?_eq_getElem h']; rfl

theorem tx_extract (s : ByteArray) (n : Nat) : Tx (s.extract 0 n) = (Tx s).take n := by
  rw [Tx, Tx, ByteArray.data_extract]; simp
theorem toList_tx (s : ByteArray) : s.toList = Tx s := ByteArray.toList_eq s
theorem common_hit {a b : ByteArray} {k : Nat} (hk : k ≤ Str.common (Tx a) (Tx b)) (h1 : k < a.size) (h2 : k < b.size) (h : ((a[k].toNat : Int) != (b[k].toNat : Int)) = true) :
    Str.common (Tx a) (Tx b) = k := by
  refine Str.common_eq hk (.inr (.inr ?_))
  rw [tx_get a k h1, tx_get b k h2]
  intro e; rw [e] at h; simp at h
theorem common_next {a b : ByteArray} {k : Nat} (hk : k ≤ Str.common (Tx a) (Tx b)) (h1 : k < a.size) (h2 : k < b.size) (h : ((a[k].toNat : Int) != (b[k].toNat : Int)) = false) :
    k + 1 ≤ Str.common (Tx a) (Tx b) := by
  refine Str.common_ge hk (by rw [tx_length]; exact h1) (by rw [tx_length]; exact h2) ?_
  rw [tx_get a k h1, tx_get b k h2]
  have h' : (a[k].toNat : Int) = (b[k].toNat : Int) := by simpa using h
  exact UInt8.toNat_inj.1 (by omega)

set_option maxHeartbeats 400000 in
theorem common_any (a b : ByteArray) (w : World) (ha : a.size ≤ maxLen) (hb : b.size ≤ maxLen) :
    Calls Tryd.prog 58 #[.string a, .string b] w fun e w' => e = .returned (.int .i64 (Str.common (Tx a) (Tx b))) ∧ Dr w w' := by
  unfold maxLen at ha hb
  go_enter Tryd.func58, Tryd.ntmps58
  go_wp2
  all_goals
    go_loopw [5, 11] (fun n i wr => ∃ k : Nat, k ≤ a.size ∧ k ≤ b.size ∧ i = .int .i64 k ∧ n = .int .i64 k ∧ k ≤ Str.common (Tx a) (Tx b) ∧ ∃ d, wr = w.drewN d) (fun _ i _ => a.size - (intOf i).toNat)
    case atStart => exact ⟨0, Nat.zero_le _, Nat.zero_le _, rfl, rfl, Nat.zero_le _, 0, rfl⟩
    case round =>
      obtain ⟨k, hka, hkb, rfl, rfl, hkc, d, rfl⟩ := hrel
      by_cases hlt : k < a.size ∧ k < b.size
      · obtain ⟨h1, h2⟩ := hlt
        go_wp2
        go_quiet (fail)
        go_wp2
        · go_ret
          exact ⟨by rw [common_hit hkc h1 h2 (by assumption)]; rfl, (Dr.step ⟨d, rfl⟩ _)⟩
        · go_roundw
          case rel => exact ⟨k + 1, h1, h2, by go_num, by go_num, common_next hkc h1 h2 (by assumption), d + nq, rfl⟩
          case measure => simp [intOf]; omega
      · have hfin : Str.common (Tx a) (Tx b) = k := Str.common_eq hkc (by rw [tx_length, tx_length]; omega)
        have Hfin := Lib.hid hfin
        clear hfin
        go_wp2
        go_ret
        exact ⟨by rw [Hfin.out]; rfl, ⟨d, rfl⟩⟩
end Go.Proofs.YtidfelbaegaphaaDoor
