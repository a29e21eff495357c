import Derived.Test.YtilmpofbjagcmaaBk
import Derived.Test.YtilmpofbjagcmaaNx
namespace Go.Proofs.Ytilmpofbjagcmaa
open Go.RowKit

/-- the text at a place -/
def sAt (ss : List ByteArray) (k : Nat) : ByteArray := ss.getD k ByteArray.empty
theorem sAt_lt {ss : List ByteArray} {k : Nat} (h : k < ss.length) : sAt ss k = ss[k] := by
  unfold sAt; rw [List.getD_eq_getElem?_getD, List.getElem?_eq_getElem h]; rfl

/-- may all these be gone through? -/
def fewB (ss : List ByteArray) : Bool := ss.all fun s => decide (s.size ≤ 2000)
theorem fewB_false {ss : List ByteArray} {k : Nat} (hk : k < ss.length) (h : 2000 < ((sAt ss k).size : Int)) : fewB ss = false := by
  rw [Bool.eq_false_iff]; unfold fewB
  rw [sAt_lt hk] at h
  intro e
  have := List.all_eq_true.1 e _ (List.getElem_mem hk)
  simp at this; omega
theorem fewB_true {ss : List ByteArray} (h : ∀ j, j < ss.length → (sAt ss j).size ≤ 2000) : fewB ss = true := by
  unfold fewB
  refine List.all_eq_true.2 fun s hs => ?_
  obtain ⟨j, hj, rfl⟩ := List.getElem_of_mem hs
  have := h j hj
  rw [sAt_lt hj] at this
  simpa using this

set_option maxHeartbeats 400000 in
theorem few_any (b n : Nat) (ss : List ByteArray) (hn : n = ss.length) (hm : n ≤ 100) (w : World) (hc : ∀ i, i < n → w.cell? ⟨b, i, none⟩ = some (.string (sAt ss i))) :
    Calls Try.prog 12 #[.slice (some ⟨b, 0, none⟩) n n] w fun e w' => e = .returned (.bool (fewB ss)) ∧ w = w' := by
  have Hn := Lib.hid hn
  have Hc := Lib.hid hc
  clear hn hc
  go_enter Try.func12, Try.ntmps12
  go_wp2
  go_loop [7] (fun i => ∃ k : Nat, k ≤ n ∧ i = .int .i64 k ∧ Hid (∀ j, j < k → (sAt ss j).size ≤ 2000)) (fun i => n - (intOf i).toNat)
  case atStart => exact ⟨0, Nat.zero_le _, rfl, Lib.hid fun j hj => by omega⟩
  case round =>
    obtain ⟨k, hk, rfl, Hall⟩ := hrel
    by_cases hlt : k < n
    · have hcell := Hc.out k hlt
      go_wp2
      · have hf := fewB_false (ss := ss) (k := k) (by have := Hn.out; omega) (by assumption)
        go_ret
        exact ⟨by rw [hf]; rfl, rfl⟩
      · go_round
        case rel => exact ⟨k + 1, by omega, by go_num, Lib.hid fun j hj => by
          rcases Nat.lt_or_ge j k with h | h
          · exact Hall.out j h
          · obtain rfl : j = k := by omega
            omega⟩
        case measure => simp [intOf]; omega
    · have hf := Lib.hid (fewB_true (ss := ss) (fun j hj => Hall.out j (by have := Hn.out; omega)))
      go_wp2
      go_ret
      exact ⟨by rw [hf.out]; rfl, rfl⟩

/-- the texts that awake asks of -/
theorem awake_any (w : World) : Calls Try.prog 13 #[] w fun e w' => e = .returned (.bool true) ∧ Dr w w' := by
  have c1 := Lib.hid (fun w => between_yes ⟨#[97, 112, 112, 108, 101]⟩ ⟨#[97, 112, 114, 105, 99, 111, 116]⟩ w (by decide) (by decide) (by decide +kernel))
  have c2 := Lib.hid (fun w => next_short ⟨#[97]⟩ w (by decide) (by decide) (by decide))
  have c3 := Lib.hid (fun w => compare_any ⟨#[97]⟩ ⟨#[98]⟩ w (by decide) (by decide))
  have e1 : btw ⟨#[97, 112, 112, 108, 101]⟩ ⟨#[97, 112, 114, 105, 99, 111, 116]⟩ = ⟨#[97, 112, 114]⟩ := by decide +kernel
  have e2 : (⟨#[97]⟩ : ByteArray) ++ ⟨#[0]⟩ = ⟨#[97, 0]⟩ := by decide +kernel
  have e3 : Str.cmp (Tx ⟨#[97]⟩) (Tx ⟨#[98]⟩) = -1 := by decide +kernel
  rw [e1] at c1
  rw [e2] at c2
  rw [e3] at c3
  go_enter Try.func13, Try.ntmps13
  go_wp2_with fail
  refine (c1.out _).mono ?_
  rintro e w' ⟨rfl, d, rfl⟩
  go_wp2_with fail
  refine (c2.out _).mono ?_
  rintro e w' ⟨rfl, d, rfl⟩
  go_wp2_with fail
  refine (c3.out _).mono ?_
  rintro e w' ⟨rfl, d, rfl⟩
  go_wp2_with fail
  go_ret
  exact ⟨rfl, _, rfl⟩
end Go.Proofs.Ytilmpofbjagcmaa
