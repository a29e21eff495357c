import Derived.Test.YtfejdbcfcpmdiaaWa
namespace Go.Proofs.Ytfejdbcfcpmdiaa
set_option linter.unusedVariables false
set_option linter.unusedSimpArgs false
open Go.BigFrame Go.RowKit Go.WideShapes Go.ChangeMaps

section
variable {thr lim last low hold : Int} {t cm mk : Nat} {es ms : Array MapEntry} {ck mc : Nat} {base : Nat} {w : World}

set_option maxRecDepth 100000 in
theorem is_there (hT : Tab w base t cm mk thr lim last low hold es ck ms mc) (n : Int) (h0 : 0 ≤ n) (h1 : n < thr) :
    Calls Try.prog 45 #[.pointer (some ⟨t, 0, none⟩), .int .i64 n] w fun e w' => e = .returned (.bool true) ∧ w = w' := by
  have c0 := hT.c0
  go_enter Try.func45, Try.ntmps45
  go_wp2_with fail
  go_ret
  exact ⟨ret_bool (by first | (simp; done) | (simp; omega)), rfl⟩

set_option maxRecDepth 100000 in
set_option maxHeartbeats 1000000 in
theorem grab_busy (hT : Tab w base t cm mk thr lim last low hold es ck ms mc) (n : Int) (h0 : 0 ≤ n) (h1 : n < thr) (hh : 0 ≤ hold) :
    Calls Try.prog 23 #[.pointer (some ⟨t, 0, none⟩), .int .i64 n] w fun e w' => e = .returned (.tuple #[.bool false, .nilIface]) ∧ w = w' := by
  have c6 := hT.c6
  have hI := is_there hT n h0 h1
  have hI := Lib.hid hI
  go_enter Try.func23, Try.ntmps23
  go_wp2_with (go_at_call 45; refine hI.out.mono ?_; rintro e w' ⟨rfl, rfl⟩)
  go_ret2
  exact ⟨rfl, rfl⟩

set_option maxRecDepth 100000 in
set_option maxHeartbeats 1000000 in
theorem grab_ok (hT : Tab w base t cm mk thr lim last low hold es ck ms mc) (n : Int) (h0 : 0 ≤ n) (h1 : n < thr) (hh : hold < 0) :
    Calls Try.prog 23 #[.pointer (some ⟨t, 0, none⟩), .int .i64 n] w fun e w' => e = .returned (.tuple #[.bool true, .nilIface]) ∧ Tab w' base t cm mk thr lim last low n es ck ms mc ∧ Below base w w' := by
  have c6 := hT.c6
  have f6 := hT.fz 6
  have hI := is_there hT n h0 h1
  have hI := Lib.hid hI
  have HT := Lib.hid hT
  clear hT
  go_enter Try.func23, Try.ntmps23
  go_wp2_with (go_at_call 45; refine hI.out.mono ?_; rintro e w' ⟨rfl, rfl⟩)
  go_ret2
  exact ⟨rfl, HT.out.setHold n, Below.setCell (Below.refl _ _) (p := ⟨t, 6, none⟩) HT.out.ht _⟩

set_option maxRecDepth 100000 in
set_option maxHeartbeats 1000000 in
theorem yield_not (hT : Tab w base t cm mk thr lim last low hold es ck ms mc) (n : Int) (h0 : 0 ≤ n) (h1 : n < thr) (hh : hold ≠ n) :
    Calls Try.prog 24 #[.pointer (some ⟨t, 0, none⟩), .int .i64 n] w fun e w' => e = .returned (.tuple #[.bool false, .nilIface]) ∧ w = w' := by
  have c6 := hT.c6
  have hI := is_there hT n h0 h1
  have hI := Lib.hid hI
  have hne : (hold != n) = true := by simpa using hh
  go_enter Try.func24, Try.ntmps24
  go_wp2_with (go_at_call 45; refine hI.out.mono ?_; rintro e w' ⟨rfl, rfl⟩)
  go_ret2
  exact ⟨rfl, rfl⟩

set_option maxRecDepth 100000 in
set_option maxHeartbeats 1000000 in
theorem yield_ok (hT : Tab w base t cm mk thr lim last low hold es ck ms mc) (n : Int) (h0 : 0 ≤ n) (h1 : n < thr) (hh : hold = n) :
    Calls Try.prog 24 #[.pointer (some ⟨t, 0, none⟩), .int .i64 n] w fun e w' => e = .returned (.tuple #[.bool true, .nilIface]) ∧ Tab w' base t cm mk thr lim last low (-1) es ck ms mc ∧ Below base w w' := by
  subst hh
  have c6 := hT.c6
  have f6 := hT.fz 6
  have hI := is_there hT _ h0 h1
  have hI := Lib.hid hI
  have HT := Lib.hid hT
  clear hT
  go_enter Try.func24, Try.ntmps24
  go_wp2_with (go_at_call 45; refine hI.out.mono ?_; rintro e w' ⟨rfl, rfl⟩)
  go_ret2
  exact ⟨rfl, HT.out.setHold (-1), Below.setCell (Below.refl _ _) (p := ⟨t, 6, none⟩) HT.out.ht _⟩
end
end Go.Proofs.Ytfejdbcfcpmdiaa
