import Derived.Test.YtfejdbcfcpmdiaaDoorWpz
namespace Go.Proofs.YtfejdbcfcpmdiaaDoor
set_option linter.unusedVariables false
set_option linter.unusedSimpArgs false
open Go.BigFrame Go.RowKit Go.WideShapes Go.ChangeMaps

section
variable {thr lim last low hold : Int} {t cm mk : Nat} {es ms : Array MapEntry} {ck mc : Nat} {base : Nat} {w : World}

set_option maxRecDepth 100000 in
set_option maxHeartbeats 2000000 in
theorem last_any (hT : Tab w base t cm mk thr lim last low hold es ck ms mc) :
    Calls Tryd.prog 12 #[.pointer (some ⟨t, 0, none⟩)] w fun e w' => e = .returned (.int .i64 last) ∧ w' = w := by
  have c2 := hT.c2
  go_enter Tryd.func12, Tryd.ntmps12
  go_wp2_with fail
  go_ret
  exact ⟨rfl, rfl⟩

set_option maxRecDepth 100000 in
set_option maxHeartbeats 2000000 in
theorem count_one (hT : Tab w base t cm mk thr lim last low hold es ck ms mc) (hs : es.size ≤ 1000) :
    Calls Tryd.prog 14 #[.pointer (some ⟨t, 0, none⟩)] w fun e w' => e = .returned (.int .i64 es.size) ∧ w' = w := by
  have c4 := hT.c4
  have m1 := hT.m1
  go_enter Tryd.func14, Tryd.ntmps14
  have hl : (Builtin.len_ #[mapT] 3 #[.map (some cm)]).run Tryd.prog w = .ok (.int .i64 (es.size : Int)) w := by
    simp [Builtin.len_, run_underlying (show Tryd.prog.underlying mapT = _ from Tryd.underlying53), MapKept.run_getObj_map m1, goInt]
  go_wp2_with fail
  go_ret
  exact ⟨rfl, rfl⟩

set_option maxRecDepth 100000 in
set_option maxHeartbeats 2000000 in
theorem at_one {o : Option Addr} {n c : Nat} {l : List Wt} {k : Nat} (hT : Tab w base t cm mk thr lim 1 low hold #[⟨.int .i64 1, .slice o n c, k⟩] ck ms mc) (hL : WritesAt w o n c l) (hn : n ≤ 1000000) :
    Calls Tryd.prog 18 #[.pointer (some ⟨t, 0, none⟩), .int .i64 1] w fun e w' => ∃ o2 c2, e = .returned (.tuple #[.slice o2 n c2, .nilIface]) ∧ WritesAt w' o2 n c2 l ∧ Gr w w' := by
  have c2 := hT.c2
  have c4 := hT.c4
  have m1 := hT.m1
  have hf := run_found cm k ck 1 (.slice o n c) w m1
  have L := Lib.hid hL
  clear hL hT
  go_enter Tryd.func18, Tryd.ntmps18
  go_wp2_with fail
  refine (copied_n L.out hn).mono ?_
  rintro e w1 ⟨o2, c2, rfl, ho, hg⟩
  go_wp2_with fail
  go_ret2
  exact ⟨o2, c2, rfl, ho.rows, hg⟩
end

set_option maxRecDepth 100000 in
set_option maxHeartbeats 2000000 in
theorem awake_any (w : World) : Calls Tryd.prog 7 #[] w fun e w' => e = .returned (.bool true) ∧ Gr w w' := by
  go_enter Tryd.func7, Tryd.ntmps7
  go_wp2_with fail
  refine (new_any 2 9 w (by omega) (by omega) (by omega) (by omega)).mono ?_
  rintro e w1 ⟨t, cm, mk, rfl, hT, hg1⟩
  have HT := Lib.hid hT
  clear hT
  have hA : ByteArray.size ⟨#[97]⟩ ≤ maxLen := by decide
  have hB : ByteArray.size ⟨#[49]⟩ ≤ maxLen := by decide
  have hC : ByteArray.size ⟨#[98]⟩ ≤ maxLen := by decide
  have hD : ByteArray.size ⟨#[]⟩ ≤ maxLen := by decide
  have ok1 : writesOkB [⟨⟨#[97]⟩, ⟨#[49]⟩, false⟩] = true := by decide
  have ok2 : writesOkB [⟨⟨#[98]⟩, ⟨#[]⟩, false⟩] = true := by decide
  go_wp2_with fail
  refine (append_ok (HT.out.keep ((Gr.refl _).alloc _)) (write_one (b := w1.heap.size) (Nat.le_refl _) (by decide) (World.cell?_alloc_new w1 _ _ 0) (World.cell?_alloc_new w1 _ _ 1) (World.cell?_alloc_new w1 _ _ 2) hA hB) (by omega) (by omega) ok1 (by omega) (by omega) (by omega)).mono ?_
  rintro e w2 ⟨o, c, rfl, hb2, hL, hT2⟩
  have hgA : Gr w w2 := (show Below w.heap.size w (w1.alloc _) from hg1.alloc _).trans hb2
  have HT2 := Lib.hid hT2
  have HL := Lib.hid hL
  clear hT2 hL HT hb2 hg1
  go_wp2_with fail
  refine (append_late (HT2.out.keep ((Gr.refl _).alloc _)) (write_one (b := w2.heap.size) (Nat.le_refl _) (by decide) (World.cell?_alloc_new w2 _ _ 0) (World.cell?_alloc_new w2 _ _ 1) (World.cell?_alloc_new w2 _ _ 2) hC hD) (by omega) ok2 0 (by omega)).mono ?_
  rintro e w3 ⟨rfl, hg3⟩
  have hg23 : Gr w2 w3 := Gr.trans ((Gr.refl _).alloc _) hg3
  have T3 := Lib.hid (HT2.out.keep hg23)
  have L3 := Lib.hid (HL.out.keep hg23)
  have hgB : Gr w w3 := hgA.trans hg23
  clear HT2 HL hg3 hg23 hgA
  go_wp2_with fail
  refine (at_one T3.out L3.out (by omega)).mono ?_
  rintro e w4 ⟨o4, c4, rfl, h4, hg4⟩
  have T4 := Lib.hid (T3.out.keep hg4)
  have hgC : Gr w w4 := hgB.trans hg4
  clear T3 L3 h4 hg4 hgB
  go_wp2_with fail
  refine (last_any T4.out).mono ?_
  rintro e w5 ⟨rfl, rfl⟩
  go_wp2_with fail
  refine (count_one T4.out (by simp)).mono ?_
  rintro e w6 ⟨rfl, rfl⟩
  go_wp2_with fail
  go_ret
  exact ⟨rfl, hgC⟩
end Go.Proofs.YtfejdbcfcpmdiaaDoor
