import Derived.Test.YtidfelbaegaphaaDoorLv
import Derived.Test.YtidfelbaegaphaaDoorBx
import Derived.Deep.RegionWith
import Derived.Deep.RegionHeld3
import Derived.Deep.DeepCutAuto
namespace Go.Proofs.YtidfelbaegaphaaDoor
set_option linter.unusedVariables false
set_option linter.unusedSimpArgs false
open Go.BigFrame Go.RowKit Go.WideShapes

/-! leaf.up: its boxes (the view, the record, the answer), and what it tells. -/
abbrev vL (v : Vw) (oa : Option Addr) (n cap : Nat) : List Value := [.string v.low, .string v.high, .bool v.unb, .int .i64 v.right, .slice oa n cap, .bool v.gone]
abbrev xL (x : Rx) (oa : Option Addr) (n cap : Nat) (ob : Option Addr) (m cap2 : Nat) : List Value :=
  [.int .i64 x.r.kind, .string x.r.low, .string x.r.high, .bool x.r.unb, .int .i64 x.r.right, .slice oa n cap, .slice ob m cap2, .string x.r.key, .string x.r.val, .int .i64 x.r.page, .int .i64 x.hpage, .int .i64 x.hleft, .string x.hkey, .int .i64 x.slot, .int .i64 x.gen]
abbrev zL : List Value := [.string ⟨#[]⟩, .string ⟨#[]⟩, .bool false, .int .i64 0, .slice none 0 0, .bool false]
abbrev upW (w : World) (v : Vw) (x : Rx) (oa : Option Addr) (n cap : Nat) (oa2 : Option Addr) (n2 cap2 : Nat) (ob : Option Addr) (m cap3 : Nat) : World :=
  ((w.alloc (.cells #[.string v.low, .string v.high, .bool v.unb, .int .i64 v.right, .slice oa n cap, .bool v.gone] 28)).alloc (.cells #[.int .i64 x.r.kind, .string x.r.low, .string x.r.high, .bool x.r.unb, .int .i64 x.r.right, .slice oa2 n2 cap2, .slice ob m cap3, .string x.r.key, .string x.r.val, .int .i64 x.r.page, .int .i64 x.hpage, .int .i64 x.hleft, .string x.hkey, .int .i64 x.slot, .int .i64 x.gen] 49)).alloc (.cells #[.string ⟨#[]⟩, .string ⟨#[]⟩, .bool false, .int .i64 0, .slice none 0 0, .bool false] 28)
theorem size_alloc1 (w : World) (o : Obj) : (w.alloc o).heap.size = w.heap.size + 1 := by show (w.heap.push o).size = _; rw [Array.size_push]
structure Up3 (W : World) (BX : Nat) (vs xs zs : List Value) : Prop where
  v : Bx W BX vs
  x : Bx W (BX + 1) xs
  z : Bx W (BX + 1 + 1) zs
  lt : BX + 3 ≤ W.heap.size
theorem up_boxes (w : World) (v : Vw) (x : Rx) (oa : Option Addr) (n cap : Nat) (oa2 : Option Addr) (n2 cap2 : Nat) (ob : Option Addr) (m cap3 : Nat) :
    Up3 (upW w v x oa n cap oa2 n2 cap2 ob m cap3) w.heap.size (vL v oa n cap) (xL x oa2 n2 cap2 ob m cap3) zL ∧ Gr w (upW w v x oa n cap oa2 n2 cap2 ob m cap3) := by
  have g0 := Gr.refl w
  refine ⟨⟨?_, ?_, ?_, ?_⟩, ((g0.alloc _).alloc _).alloc _⟩
  · exact (Bx.new w _ _ rfl).keep (((Gr.refl _).alloc _).alloc _)
  · exact (Bx.new (w.alloc _) _ _ (by rw [size_alloc1])).keep ((Gr.refl _).alloc _)
  · exact Bx.new ((w.alloc _).alloc _) _ _ (by rw [size_alloc1, size_alloc1])
  · rw [size_alloc1, size_alloc1, size_alloc1]; omega
section
variable {W : World} {BX : Nat} {vs xs zs : List Value}
theorem Up3.keep {W2 : World} (h : Up3 W BX vs xs zs) (hg : Gr W W2) : Up3 W2 BX vs xs zs := ⟨h.v.keep hg, h.x.keep hg, h.z.keep hg, Nat.le_trans h.lt hg.le⟩
theorem Up3.setV (h : Up3 W BX vs xs zs) (j : Nat) (u : Value) : Up3 (W.setCell ⟨BX, j, none⟩ u) BX (vs.set j u) xs zs :=
  ⟨h.v.set j u, h.x.other (by omega) u, h.z.other (by omega) u, by unfold World.setCell; simpa using h.lt⟩
end
/-- what up tells -/
def UpPost (base : Nat) (w : World) (res : Option Vw) (e : Ending) (w' : World) : Prop :=
  match res with
  | some v2 => ∃ o n c, e = .returned (.tuple #[vwV v2 o n c, .bool true]) ∧ OwnAt w' base o n c v2.rows ∧ Gr w w'
  | none => ∃ (a b : ByteArray) (u g : Bool) (r : Int) (o : Option Addr) (n c : Nat), e = .returned (.tuple #[.agg #[.string a, .string b, .bool u, .int .i64 r, .slice o n c, .bool g], .bool false]) ∧ Gr w w'
theorem UpPost.mk {base : Nat} {w w' : World} {res : Option Vw} {v2 : Vw} {b : Bool} (hres : res = if b = true then some v2 else none) {o : Option Addr} {n c : Nat} (ho : b = true → OwnAt w' base o n c v2.rows) (hg : Gr w w') {cs : Array Value} (hcs : cs = (vL v2 o n c).toArray) :
    UpPost base w res (.returned (.tuple #[.agg cs, .bool b])) w' := by
  subst hcs
  cases b
  · rw [hres]; exact ⟨_, _, _, _, _, _, _, _, rfl, hg⟩
  · rw [hres]; exact ⟨o, n, c, rfl, ho rfl, hg⟩
theorem UpPost.no {base : Nat} {w w' : World} {res : Option Vw} (hres : res = none) (hg : Gr w w') {cs : Array Value} {a b : ByteArray} {u g : Bool} {r : Int} {o : Option Addr} {n c : Nat} (hs : cs = #[.string a, .string b, .bool u, .int .i64 r, .slice o n c, .bool g]) : UpPost base w res (.returned (.tuple #[.agg cs, .bool false])) w' := by
  subst hs
  rw [hres]; exact ⟨_, _, _, _, _, _, _, _, rfl, hg⟩

/-- behind the answer's store -/
structure UpEnd (base BX : Nat) (w wx : World) (vs : List Value) (o : Option Addr) (n c : Nat) (rows : List Rw) : Prop where
  z : Bx wx (BX + 1 + 1) vs
  gr : Gr w wx
  own : OwnAt wx base o n c rows
/-- what lies at a block of one's own, and above, is as it was -/
theorem OwnAt.above {w w' : World} {base : Nat} {oa : Option Addr} {n cap : Nat} {l : List Rw} (h : OwnAt w base oa n cap l) (hf : ∀ b, base ≤ b → w'.heap[b]? = w.heap[b]?) (hs : w.heap.size ≤ w'.heap.size) : OwnAt w' base oa n cap l := by
  obtain ⟨⟨ho1, ho2⟩, hr⟩ := h
  rcases ho2 with ⟨e, hn⟩ | ⟨g, cap', cur, e, hb, hcur, rest⟩
  · refine ⟨⟨ho1, .inl ⟨e, hn⟩⟩, hr.len, hr.cap_le, hr.cap_max, hr.none, ⟨0, 0, fun q => absurd q (by omega), fun i hi => absurd hi (by omega)⟩, hr.sizes⟩
  · have hk := hf g hb
    simp only [Value.slice.injEq] at e
    obtain ⟨rfl, -, rfl⟩ := e
    obtain ⟨b, off, h5, h6⟩ := hr.cells
    refine ⟨⟨ho1, .inr ⟨g, cap, cur, rfl, hb, hk.trans hcur, rest⟩⟩, hr.len, hr.cap_le, hr.cap_max, hr.none, ⟨b, off, fun q => ?_, fun i hi => ?_⟩, hr.sizes⟩
    · exact ⟨(h5 q).1, Nat.lt_of_lt_of_le (h5 q).2 hs⟩
    · have e1 := (h5 (by omega)).1
      obtain ⟨rfl, rfl⟩ : g = b ∧ 0 = off := by simpa using e1
      have hc : ∀ j, w'.cell? ⟨g, j, none⟩ = w.cell? ⟨g, j, none⟩ := fun j => World.cell?_of_block (w := w) (a := ⟨g, j, none⟩) hk
      rw [hc, hc]
      exact h6 i hi
theorem OwnAt.setLow {w : World} {base b i : Nat} {u : Value} {oa : Option Addr} {n cap : Nat} {l : List Rw} (h : OwnAt w base oa n cap l) (hb : b < base) : OwnAt (w.setCell ⟨b, i, none⟩ u) base oa n cap l :=
  h.above (fun c hc => by simp only [World.setCell, Array.getElem?_modify]; rw [if_neg (by omega)]) (by unfold World.setCell; simp)
theorem OwnAt.setLows {base b : Nat} {oa : Option Addr} {n cap : Nat} {l : List Rw} (hb : b < base) (us : List Value) : ∀ {w : World} (i : Nat), OwnAt w base oa n cap l → OwnAt (w.setCells b i us) base oa n cap l := by
  induction us with
  | nil => intro w i h; exact h
  | cons u us ih => intro w i h; exact ih (i + 1) (h.setLow hb)
theorem UpEnd.drew {base BX : Nat} {w wx : World} {vs : List Value} {o : Option Addr} {n c : Nat} {rows : List Rw} (h : UpEnd base BX w wx vs o n c rows) : UpEnd base BX w wx.drew vs o n c rows :=
  ⟨h.z.keep (Gr.refl _).drew, h.gr.drew, h.own.keep (Gr.refl _).drew⟩
theorem up_end {base base2 BX : Nat} {w W3 : World} {zs : List Value} {o : Option Addr} {n c : Nat} {rows : List Rw} (hz : Bx W3 (BX + 1 + 1) zs) (hl : zs.length = 6) (hg : Gr w W3) (hw : w.heap.size ≤ BX + 1 + 1) (hO : OwnAt W3 base2 o n c rows) (hlow : BX + 1 + 1 < base2) (hb : base ≤ base2) (a0 a1 a2 a3 a4 a5 : Value) :
    UpEnd base BX w ((((((W3.setCell ⟨BX + 1 + 1, 0, none⟩ a0).setCell ⟨BX + 1 + 1, 1, none⟩ a1).setCell ⟨BX + 1 + 1, 2, none⟩ a2).setCell ⟨BX + 1 + 1, 3, none⟩ a3).setCell ⟨BX + 1 + 1, 4, none⟩ a4).setCell ⟨BX + 1 + 1, 5, none⟩ a5) [a0, a1, a2, a3, a4, a5] o n c rows :=
  show UpEnd base BX w (W3.setCells (BX + 1 + 1) 0 [a0, a1, a2, a3, a4, a5]) [a0, a1, a2, a3, a4, a5] o n c rows from
    ⟨hz.setAll (by rw [hl]; rfl), hg.setCells hw _ _, (hO.setLows hlow _ 0).lower2 hb⟩
theorem RowsAt.ex {w w' : World} {oa : Option Addr} {n cap : Nat} {l : List Rw} (h : RowsAt w oa n cap l) (hg : Ex w w') : RowsAt w' oa n cap l := by
  obtain ⟨h1, h2, h3, h4, ⟨b, off, h5, h6⟩, h7⟩ := h
  exact ⟨h1, h2, h3, h4, ⟨b, off, fun q => ⟨(h5 q).1, Nat.lt_of_lt_of_le (h5 q).2 hg.size⟩, fun i hi => ⟨hg.cell _ _ _ (h6 i hi).1, hg.cell _ _ _ (h6 i hi).2⟩⟩, h7⟩
end Go.Proofs.YtidfelbaegaphaaDoor
