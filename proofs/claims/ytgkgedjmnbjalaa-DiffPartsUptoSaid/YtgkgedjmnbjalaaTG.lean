/- Clone of a row of nodes, and of a row of steps.
   Conditions: none. -/
import Derived.Test.YtgkgedjmnbjalaaTF
import Derived.WalkSpells
set_option linter.unusedSimpArgs false
namespace Go.Proofs.Ytgkgedjmnbjalaa
open Go.RowKit Go.Sort

theorem RT.one {S : Nat → Prop} {w : World} {t : T} {c : List Value} (h : RT S w t c) : c.all (·.oneCell') = true := by cases h; rfl
/-- A row of nodes, its cells in one list. -/
theorem RRow.flat {S : Nat → Prop} {w : World} {K : Option Addr} {l : List T} {kc : Nat} (h : RRow S w K l kc) : ∃ css : List (List Value), css.length = l.length ∧ (∀ c ∈ css, c.length = 6) ∧
    (l ≠ [] → ∃ b off, K = some ⟨b, off, none⟩ ∧ S b ∧ ∀ j v, css.flatten[j]? = some v → w.cell? ⟨b, off + j, none⟩ = some v) ∧ ∀ (i : Nat) k c, l[i]? = some k → css[i]? = some c → RT S w k c := by
  have h2 : RT S w (.mk ⟨#[]⟩ ⟨#[]⟩ 0 0 ⟨#[]⟩ l) (cT ⟨#[]⟩ ⟨#[]⟩ 0 0 ⟨#[]⟩ K l.length kc) := RT.of_row (t := .mk ⟨#[]⟩ ⟨#[]⟩ 0 0 ⟨#[]⟩ l) h
  generalize hc : cT _ _ _ _ _ _ _ _ = c at h2
  cases h2 with
  | mk name key kind num text kids K' kc' css hl h6 hK hr hb =>
    simp only [cT, List.cons.injEq, Value.slice.injEq, true_and, and_true] at hc
    obtain ⟨rfl, _⟩ := hc
    exact ⟨css, hl, h6, hK, hr⟩
theorem all_one {S : Nat → Prop} {w : World} {l : List T} {css : List (List Value)} (hl : css.length = l.length) (hr : ∀ (i : Nat) k c, l[i]? = some k → css[i]? = some c → RT S w k c) : css.flatten.all (·.oneCell') = true := by
  rw [List.all_eq_true]
  intro v hv
  obtain ⟨c, hc, hvc⟩ := List.mem_flatten.1 hv
  obtain ⟨i, hi⟩ := List.getElem?_of_mem hc
  have hlt := (List.getElem?_eq_some_iff.1 hi).1
  exact List.all_eq_true.1 (hr i _ c (List.getElem?_eq_getElem (by omega : i < l.length)) hi).one v hvc

/-- append(s, x...), the row that is added lying anywhere. -/
theorem wpl_append' {P : Program} {ops : Array Oper} {rest : List Oper} {a : Act} {w : World} {Q : Exit → Act → World → Prop} {T E : TypeId} {sz by_ : Nat} (hT : SlT P T E sz by_) (hsz : 0 < sz) (hby : 0 < by_)
    (s x : Operand) (d : Tmp) (p1 : TypeId) (p2 : String) (p3 : Array Edge) (base : Nat)
    (v : Value) (n : Nat) (xs : List Value) (hs : a.eval s = v) (hown : w.ownsRow base E sz v n xs)
    (ad : Addr) (m c : Nat) (news : List Value) (hx : a.eval x = .slice (some ad) m c) (hl : news.length = m * sz) (hnews : ∀ j u, news[j]? = some u → w.cell? (ad.add j) = some u)
    (h1 : news.all (·.oneCell') = true) (hbytes : (n + m) * by_ ≤ 140737488355328) (hbase : base ≤ w.heap.size)
    (h : ∀ v' w', w'.ownsRow base E sz v' (n + m) (xs ++ news) → w.grownBy w' v.ownBlock → (v'.ownBlock = v.ownBlock ∨ v'.ownBlock = some w.heap.size) → wpList P ops Q rest (a.put (some d) v') w') :
    wpList P ops Q (⟨some d, .call { callee := .builtin .append, args := #[s, x], argTypes := #[T, T] }, p1, p2, p3, none⟩ :: rest) a w := by
  obtain ⟨ht, i, z, hi, hz, hz1, hz2, hz3⟩ := hT
  have hle : n + m ≤ 140737488355328 := Nat.le_trans (Nat.le_mul_of_pos_right _ hby) hbytes
  exact wpList_append_own_at w rfl s x T rfl base E i z sz by_ ht hi hz hz1 hz2 hz3 hsz v n xs hs hown ad m c news hx hl hnews
    (by rw [List.all_eq_true] at h1; exact h1) (by simp only [maxLen]; omega) hbytes hbase fun v' w' a1 a2 _ a4 => h v' w' a1 a2 a4

set_option maxRecDepth 100000 in
set_option maxHeartbeats 1000000 in
theorem clone_nodes {S : Nat → Prop} {w0 w : World} {K : Option Addr} {l : List T} {c : Nat} (h : RRow S w0 K l c) (hx0 : Ext w0 w) :
    Calls Try.prog 145 #[.slice K l.length c] w (Ret fun w' v => ∃ css : List (List Value), css.length = l.length ∧ (∀ c ∈ css, c.length = 6) ∧ (∀ (i : Nat) k c, l[i]? = some k → css[i]? = some c → RT S w0 k c) ∧
      w'.ownsRow w.heap.size 54 6 v l.length css.flatten ∧ Ext w w') := by
  obtain ⟨css, h1, h2, h3, h4⟩ := h.flat
  have hlen := h.len
  have hnul := h.nul
  have k1 := Hd.mk h1
  have k2 := Hd.mk h2
  have k3 := Hd.mk h3
  have k4 := Hd.mk h4
  have hfl := Hd.mk (flatten_len css h2)
  have kx0 := Hd.mk hx0
  clear h h1 h2 h3 h4 hx0
  have hq := fun W => Lib.run_eql_slice_nil (P := Try.prog) W 52 54 K l.length c 0 0 Try.underlying52
  cases K with
  | none =>
    have hc := hnul rfl
    subst hc
    simp only [Option.isNone_none] at hq
    have hl0 : l.length = 0 := by
      cases l with
      | nil => rfl
      | cons x l => obtain ⟨b, off, h, _⟩ := k3.out (by simp); cases h
    rw [hl0] at hq ⊢
    have hl0 := Hd.mk hl0
    clear hnul hlen
    go_enter Try.func145, Try.ntmps145
    go_wp2_with fail
    go_ret
    have hc0 : css = [] := List.eq_nil_of_length_eq_zero (by rw [k1.out]; exact hl0.out)
    exact ⟨_, rfl, css, by rw [k1.out, hl0.out], k2.out, k4.out, by subst hc0; exact ⟨rfl, .inl ⟨rfl, rfl⟩⟩, Ext.refl _⟩
  | some ad =>
    clear hnul
    simp only [Option.isNone_some] at hq
    go_enter Try.func145, Try.ntmps145
    go_wp2_with ((with_reducible refine stop_at (.call { callee := .builtin .append, args := #[.tmp 5, .tmp 6], argTypes := #[52, 52] }) ?_))
    refine Stop.mk ?_
    have hx := Hd.mk (Ext.alloc w (.cells #[] 54))
    have hlt : w.heap.size ≤ (w.alloc (.cells #[] 54)).heap.size := hx.out.size
    refine wpl_append' sl52 (by omega) (by omega) (.tmp 5) (.tmp 6) 7 _ _ _ w.heap.size (.slice (some ⟨w.heap.size, 0, none⟩) 0 0) 0 [] rfl
      (own_new (Nat.le_refl _) (Nat.zero_le _) rfl) ad l.length c css.flatten rfl (by rw [hfl.out, k1.out]) (fun j u hj => ?_) (all_one k1.out k4.out) (by omega) hlt ?_
    · have hne : l ≠ [] := by
        rintro rfl
        have : css = [] := List.eq_nil_of_length_eq_zero (by rw [k1.out]; rfl)
        subst this
        simp at hj
      obtain ⟨b, off, he, _, hc⟩ := k3.out hne
      cases he
      rw [addr_add]
      exact Ext.cell (kx0.out.trans hx.out) (hc j u hj)
    intro v' w' hown hgr _
    have hown := Hd.mk hown
    have hgr := Hd.mk hgr
    go_wp2_with fail
    go_ret
    refine ⟨_, rfl, css, k1.out, k2.out, k4.out, ?_, own_below hx.out hgr.out (Nat.le_refl _) hlt⟩
    have := hown.out
    rw [Nat.zero_add, List.nil_append] at this
    exact this
end Go.Proofs.Ytgkgedjmnbjalaa
