/- append(s, nil). 
   Conditions: none. -/
import Derived.Test.YtgkgedjmnbjalaaTG
set_option linter.unusedSimpArgs false
namespace Go.Proofs.Ytgkgedjmnbjalaa
open Go.RowKit Go.Sort
theorem wpl_append_nil57 {ops : Array Oper} {rest : List Oper} {a : Act} {w : World} {Q : Exit → Act → World → Prop}
    (s x d : Tmp) (p1 : TypeId) (p2 : String) (p3 : Array Edge) (A : Option Addr) (n c : Nat) (hs : a.tmps[s]?.getD undef = .slice A n c) (hx : a.tmps[x]?.getD undef = .slice none 0 0) (hnc : n ≤ c)
    (h : wpList Try.prog ops Q rest (a.put (some d) (.slice A n c)) w) :
    wpList Try.prog ops Q (⟨some d, .call { callee := .builtin .append, args := #[.tmp s, .tmp x], argTypes := #[57, 57] }, p1, p2, p3, none⟩ :: rest) a w := by
  refine wpList_plain rfl fun K hK => ?_
  cases A with
  | none =>
    go_simp
    exact hK _ _ h
  | some b =>
    go_simp
    exact hK _ _ h
end Go.Proofs.Ytgkgedjmnbjalaa
