import Derived.Test.YtkngjnkecmjakaaDoorBk
import Derived.Laws.AppendOwnNone
namespace Go.Proofs.YtkngjnkecmjakaaDoor
set_option linter.unusedVariables false
set_option linter.unusedSimpArgs false
open Go.BigFrame Go.RowKit Go.WideShapes

/-- numbers of a call's own -/
abbrev intsV (l : List Nat) : List Value := l.map fun (k : Nat) => Value.int .i64 (k : Int)
theorem int_info : (Tryd.prog.info? 3).map (fun i => (i.zero, i.size, i.bytes)) = some (some (.int .i64 0), 1, 8) := by kernel_rfl
/-- append(own, one number) -/
theorem wp_i1 {w : World} {o : Oper} {a : Act} {K : Act → World → Prop} {Q : Exit → Act → World → Prop} (s x : Operand)
    (ho : o.op = .call { callee := .builtin .append, args := #[s, x], argTypes := #[27, 27] })
    (base : Nat) (hbase : base ≤ w.heap.size) {v : Value} {n : Nat} {l : List Nat} (hs : a.eval s = v) (hown : w.ownsRow base 3 1 v n (intsV l))
    {b cap2 : Nat} {k : Nat} (hx : a.eval x = .slice (some ⟨b, 0, none⟩) 1 cap2) (hc : w.cell? ⟨b, 0, none⟩ = some (.int .i64 (k : Int))) (hsz : n + 1 ≤ 1099511627776)
    (h : ∀ v' w', w'.ownsRow base 3 1 v' (n + 1) (intsV (l ++ [k])) → w.grownBy w' (Value.ownBlock v) → K (a.put o.dst v') w') : Oper.wp Tryd.prog o a w K Q := by
  obtain ⟨i, hi, hz, hsi, hby⟩ := info_parts int_info
  have ha : (⟨b, 0, none⟩ : Addr).add 0 = ⟨b, 0, none⟩ := by unfold Addr.add; split <;> simp_all
  refine wp_append_own w s x 27 ho base 3 i _ 1 8 Tryd.underlying27 hi hz hsi hby rfl (by decide) v n (intsV l) hs hown ⟨b, 0, none⟩ 1 cap2 [.int .i64 (k : Int)] hx rfl ?_ (by intro u hu; rw [List.mem_singleton] at hu; subst hu; rfl)
    (by unfold maxLen; omega) (by omega) hbase ?_
  · intro j u hj
    have hj0 : j = 0 := by
      rcases Nat.eq_zero_or_pos j with q | q
      · exact q
      · rw [List.getElem?_eq_none (by simp; omega)] at hj; cases hj
    subst hj0
    simp at hj
    subst hj
    rw [ha]; exact hc
  · intro v' w' hown' hg _
    rw [show intsV l ++ [Value.int .i64 (k : Int)] = intsV (l ++ [k]) by simp [intsV]] at hown'
    exact h v' w' hown' hg
end Go.Proofs.YtkngjnkecmjakaaDoor
