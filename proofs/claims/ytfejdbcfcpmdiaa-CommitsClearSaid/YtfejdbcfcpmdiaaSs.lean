import Derived.Test.YtfejdbcfcpmdiaaCl
namespace Go.Proofs.Ytfejdbcfcpmdiaa
set_option linter.unusedVariables false
set_option linter.unusedSimpArgs false
open Go.BigFrame Go.RowKit Go.WideShapes

/-- texts of a call's own -/
structure OwnS (w : World) (base : Nat) (oa : Option Addr) (n cap : Nat) (l : List ByteArray) : Prop where
  own : w.ownsRow base 9 1 (.slice oa n cap) n (l.map Value.string)
  rows : StrsAt w oa n cap l
theorem ownS_of {w : World} {base : Nat} {v : Value} {n : Nat} {l : List ByteArray} (hl : l.length = n) (h : w.ownsRow base 9 1 v n (l.map Value.string)) (hs : ∀ i, i < n → (sAt l i).size ≤ maxLen) :
    ∃ oa cap, v = .slice oa n cap ∧ OwnS w base oa n cap l := by
  have h' := h
  obtain ⟨h1, h2⟩ := h
  rcases h2 with ⟨rfl, rfl⟩ | ⟨g, cap, cur, rfl, hb, hg, hnc, hm, hsz, ht⟩
  · exact ⟨none, 0, rfl, h', ⟨hl, Nat.le_refl _, Nat.zero_le _, fun _ => rfl, ⟨0, 0, fun q => absurd q (by omega), fun i hi => absurd hi (by omega)⟩, hs⟩⟩
  · refine ⟨some ⟨g, 0, none⟩, cap, rfl, h', ⟨hl, hnc, hm, fun q => (by cases q), ⟨g, 0, fun q => ⟨rfl, ?_⟩, fun i hi => ?_⟩, hs⟩⟩
    · rcases Nat.lt_or_ge g w.heap.size with q | q
      · exact q
      · rw [Array.getElem?_eq_none q] at hg; cases hg
    · have hcell : ∀ j, w.cell? ⟨g, j, none⟩ = cur[j]? := by intro j; unfold World.cell?; rw [hg]; simp
      have hf : (l.map Value.string)[i]? = some (.string (sAt l i)) := by
        rw [List.getElem?_map, List.getElem?_eq_getElem (by omega), sAt_lt (by omega)]; rfl
      rw [← ht, List.getElem?_take_of_lt (by omega)] at hf
      rw [Nat.zero_add, hcell]
      simpa using hf
theorem str_info : (Try.prog.info? 9).map (fun i => (i.zero, i.size, i.bytes)) = some (some (.string ⟨#[]⟩), 1, 16) := by kernel_rfl
theorem sAt_append_left {a b : List ByteArray} {i : Nat} (h : i < a.length) : sAt (a ++ b) i = sAt a i := by
  unfold sAt; rw [List.getD_eq_getElem?_getD, List.getD_eq_getElem?_getD, List.getElem?_append_left h]
theorem sAt_append_right {a b : List ByteArray} {i : Nat} (h : a.length ≤ i) : sAt (a ++ b) i = sAt b (i - a.length) := by
  unfold sAt; rw [List.getD_eq_getElem?_getD, List.getD_eq_getElem?_getD, List.getElem?_append_right h]

/-- append(own, one text) -/
theorem wpList_s1 {w : World} {ops : Array Oper} {rest : List Oper} {o : Oper} {a : Act} {Q : Exit → Act → World → Prop} (hgd : o.guard = none) (s x : Operand)
    (ho : o.op = .call { callee := .builtin .append, args := #[s, x], argTypes := #[39, 39] })
    (base : Nat) (hbase : base ≤ w.heap.size) {oa : Option Addr} {n cap : Nat} {l : List ByteArray} (hs : a.eval s = .slice oa n cap) (hown : OwnS w base oa n cap l)
    {b cap2 : Nat} {k : ByteArray} (hx : a.eval x = .slice (some ⟨b, 0, none⟩) 1 cap2) (hc : w.cell? ⟨b, 0, none⟩ = some (.string k)) (hk : k.size ≤ maxLen) (hsz : n + 1 ≤ 1099511627776)
    (h : ∀ oc cap3 w', OwnS w' base oc (n + 1) cap3 (l ++ [k]) → w.grownBy w' (Value.ownBlock (.slice oa n cap)) → wpList Try.prog ops Q rest (a.put o.dst (.slice oc (n + 1) cap3)) w') : wpList Try.prog ops Q (o :: rest) a w := by
  refine wpList_plain hgd fun K hK => ?_
  obtain ⟨i, hi, hz, hsi, hby⟩ := info_parts str_info
  have hll : (l ++ [k]).length = n + 1 := by rw [List.length_append, hown.rows.len]; rfl
  have hszd : ∀ j, j < n + 1 → (sAt (l ++ [k]) j).size ≤ maxLen := by
    intro j hj
    have := hown.rows.len
    rcases Nat.lt_or_ge j n with q | q
    · rw [sAt_append_left (by omega)]; exact hown.rows.sizes j q
    · obtain rfl : j = n := by omega
      rw [sAt_append_right (by omega), show j - l.length = 0 by omega]; exact hk
  have ha : (⟨b, 0, none⟩ : Addr).add 0 = ⟨b, 0, none⟩ := by unfold Addr.add; split <;> simp_all
  refine wp_append_own w s x 39 ho base 9 i _ 1 16 Try.underlying39 hi hz hsi hby rfl (by decide) _ n (l.map Value.string) hs hown.own ⟨b, 0, none⟩ 1 cap2 [.string k] hx rfl ?_ (by intro u hu; rw [List.mem_singleton] at hu; subst hu; rfl)
    (by unfold maxLen; omega) (by omega) hbase ?_
  · intro j u hj
    have hj0 : j = 0 := by
      rcases Nat.eq_zero_or_pos j with q | q
      · exact q
      · rw [List.getElem?_eq_none (by simp; omega)] at hj; cases hj
    subst hj0
    simp at hj
    subst hj
    rw [ha]; exact hc
  · intro v' w' hown' hg _
    rw [show l.map Value.string ++ [Value.string k] = (l ++ [k]).map Value.string by simp] at hown'
    obtain ⟨oc, cap3, rfl, ho'⟩ := ownS_of hll hown' hszd
    exact hK _ _ (h oc cap3 w' ho' hg)
theorem sgrown_gr {w0 w w' : World} {base : Nat} {oa : Option Addr} {n cap : Nat} {l : List ByteArray} (hg : w.grownBy w' (Value.ownBlock (.slice oa n cap))) (hown : OwnS w base oa n cap l) (hw : Gr w0 w) (hb : w0.heap.size ≤ base) : Gr w0 w' :=
  Below.grown hw hg hw.le (fun q hq => Nat.le_trans hb (hown.own.lt q hq).1)
theorem OwnS.keep {w w' : World} {base : Nat} {oa : Option Addr} {n cap : Nat} {l : List ByteArray} (h : OwnS w base oa n cap l) (hg : Gr w w') : OwnS w' base oa n cap l := by
  refine ⟨⟨h.own.1, ?_⟩, h.rows.keep hg⟩
  rcases h.own.2 with ⟨e, hn⟩ | ⟨g, cap, cur, e, hb, hcur, rest⟩
  · exact .inl ⟨e, hn⟩
  · refine .inr ⟨g, cap, cur, e, hb, ?_, rest⟩
    have hlt : g < w.heap.size := by
      rcases Nat.lt_or_ge g w.heap.size with q | q
      · exact q
      · rw [Array.getElem?_eq_none q] at hcur; cases hcur
    rw [hg.block g hlt]; exact hcur
theorem ownS_nil (w : World) (base : Nat) : OwnS w base none 0 0 [] :=
  ⟨⟨rfl, .inl ⟨rfl, rfl⟩⟩, ⟨rfl, Nat.le_refl _, Nat.zero_le _, fun _ => rfl, ⟨0, 0, fun q => absurd q (by omega), fun i hi => absurd hi (by omega)⟩, fun i hi => absurd hi (by omega)⟩⟩

/-- plain facts on what clashes -/
theorem clash_none (l : List Wt) : clash [] [] l = false := by
  unfold clash hits; simp
theorem clash_own (l : List Wt) : clash (l.map Wt.key) [] l = decide (0 < l.length) := by
  cases l with
  | nil => rfl
  | cons r l => unfold clash hits; simp
theorem clash_empty (K : List ByteArray) (S : List Wt) : clash K S [] = false := rfl
theorem in_whole (key : ByteArray) : inW ⟨⟨#[]⟩, ⟨#[]⟩, true⟩ key = true := by
  have : ¬ 0 < Str.cmp (Tx ⟨#[]⟩) (Tx key) := fun q => by
    have := Str.cmp_pos_iff.1 q
    rw [show Tx ⟨#[]⟩ = [] from rfl] at this
    cases hx : Tx key <;> rw [hx] at this <;> simp [Str.before] at this
  unfold inW inB
  simp; omega
theorem clash_whole (l : List Wt) : clash [] [⟨⟨#[]⟩, ⟨#[]⟩, true⟩] l = decide (0 < l.length) := by
  cases l with
  | nil => rfl
  | cons r l => unfold clash hits; simp [in_whole]
theorem strs_nil (W : World) : StrsAt W none 0 0 [] :=
  ⟨rfl, Nat.le_refl _, Nat.zero_le _, fun _ => rfl, ⟨0, 0, fun q => absurd q (by omega), fun i hi => absurd hi (by omega)⟩, fun i hi => absurd hi (by omega)⟩
theorem writes_none (W : World) : WritesAt W none 0 0 [] :=
  ⟨rfl, Nat.le_refl _, Nat.zero_le _, fun _ => rfl, ⟨0, 0, fun q => absurd q (by omega), fun i hi => absurd hi (by omega)⟩, fun i hi => absurd hi (by omega)⟩
end Go.Proofs.Ytfejdbcfcpmdiaa
