/- Texts that the law needs, joined.
   Conditions: none. -/
import Derived.Test.YtgkgedjmnbjalaaPqI
import Derived.Test.YtgkgedjmnbjalaaPqG
import Derived.Test.YtgkgedjmnbjalaaPqA
set_option linter.unusedSimpArgs false
set_option linter.unusedVariables false
namespace Go.Proofs.Ytgkgedjmnbjalaa
open Go.RowKit Go.Sort
theorem wpl_append_none {ops : Array Oper} {rest : List Oper} {a : Act} {w : World} {Q : Exit → Act → World → Prop}
    (s x d : Tmp) (p1 : TypeId) (p2 : String) (p3 : Array Edge) (A : Option Addr) (n c : Nat) (hs : a.tmps[s]?.getD undef = .slice A n c) (hx : a.tmps[x]?.getD undef = .slice none 0 0) (hnc : n ≤ c)
    (h : wpList Try.prog ops Q rest (a.put (some d) (.slice A n c)) w) :
    wpList Try.prog ops Q (⟨some d, .call { callee := .builtin .append, args := #[.tmp s, .tmp x], argTypes := #[52, 52] }, p1, p2, p3, none⟩ :: rest) a w := by
  refine wpList_plain rfl fun K hK => ?_
  cases A with
  | none =>
    go_simp
    exact hK _ _ h
  | some b =>
    go_simp
    exact hK _ _ h
theorem wpl_append_src {ops : Array Oper} {rest : List Oper} {a : Act} {w : World} {Q : Exit → Act → World → Prop}
    (s x d : Tmp) (p1 : TypeId) (p2 : String) (p3 : Array Edge) (base : Nat) (v : Value) (n : Nat) (xs : List Value) (hs : a.tmps[s]?.getD undef = v) (hown : w.ownsRow base 54 6 v n xs)
    (X : Option Addr) (m c : Nat) (news : List Value) (hx : a.tmps[x]?.getD undef = .slice X m c) (hX : X = none → m = 0 ∧ c = 0) (hl : news.length = m * 6) (hnews : ∀ ad, X = some ad → ∀ j u, news[j]? = some u → w.cell? (ad.add j) = some u)
    (h1 : news.all (·.oneCell') = true) (hb : n + m ≤ 1048576) (hbase : base ≤ w.heap.size)
    (h : ∀ v' w', w'.ownsRow base 54 6 v' (n + m) (xs ++ news) → Below base w w' → wpList Try.prog ops Q rest (a.put (some d) v') w') :
    wpList Try.prog ops Q (⟨some d, .call { callee := .builtin .append, args := #[.tmp s, .tmp x], argTypes := #[52, 52] }, p1, p2, p3, none⟩ :: rest) a w := by
  cases X with
  | none =>
    obtain ⟨rfl, rfl⟩ := hX rfl
    obtain ⟨A, cap, rfl, hcap, _⟩ := own_slice hown
    have hn : news = [] := List.eq_nil_of_length_eq_zero (by omega)
    subst hn
    refine wpl_append_none s x d p1 p2 p3 A n cap hs hx hcap (h _ _ ?_ (Below.refl _ _))
    rw [List.append_nil]; exact hown
  | some ad =>
    refine wpl_append' sl52 (by omega) (by omega) (.tmp s) (.tmp x) d p1 p2 p3 base v n xs ?_ hown ad m c news ?_ hl (hnews ad rfl) h1 (by omega) hbase fun v' w' a1 a2 a3 => h v' w' a1 (Below.grown (Below.refl _ _) a2 hbase (fun k hk => own_base hown k hk))
    · rw [← hs]; simp [Act.eval]
    · rw [← hx]; simp [Act.eval]
theorem addr_add_add (a : Addr) (n j : Nat) : (a.add n).add j = a.add (n + j) := by
  by_cases hn : n = 0
  · subst hn; simp [Addr.add]
  · by_cases hj : j = 0
    · subst hj; simp [Addr.add]
    · simp [Addr.add, hn, hj, Nat.add_assoc]
theorem rrow_of_own {S : Nat → Prop} {w : World} {base n : Nat} {v : Value} {kids : List T} {css : List (List Value)} (hl : css.length = kids.length) (h6 : ∀ c ∈ css, c.length = 6) (hn : kids.length = n) (hb : n ≤ 1048576)
    (hr : ∀ (i : Nat) k c, kids[i]? = some k → css[i]? = some c → RT S w k c) (h : w.ownsRow base 54 6 v n css.flatten) : ∃ A cap, v = .slice A n cap ∧ RRow (fun b => S b ∨ base ≤ b) w A kids cap := by
  obtain ⟨A, cap, rfl, hcap, hnul, hrow⟩ := own_slice h
  refine ⟨A, cap, rfl, by omega, by omega, hnul, fun i k hi => ?_⟩
  have hlt := (List.getElem?_eq_some_iff.1 hi).1
  obtain ⟨g, sp, rfl, hge, hb2⟩ := hrow (by omega)
  have hci := List.getElem?_eq_getElem (show i < css.length by omega)
  refine ⟨g, 0, _, rfl, .inr hge, (hr i k _ hi hci).mono (fun _ _ h => .inl h), fun j u hj => ?_⟩
  have := flatten_get css h6 i _ hci j u hj
  rw [Nat.zero_add, hb2.cell, List.getElem?_append_left (List.getElem?_eq_some_iff.1 this).1]
  exact this
theorem RT.all {S : Nat → Prop} {w : World} {t : T} {c : List Value} (h : RT S w t c) : RT (fun _ => True) w t c := h.mono fun _ _ _ => trivial
end Go.Proofs.Ytgkgedjmnbjalaa
set_option linter.unusedSimpArgs false
namespace Go.Proofs.Ytgkgedjmnbjalaa
open Go.RowKit Go.Sort
section
variable {ops : Array Oper} {rest : List Oper} {a : Act} {w : World} {Q : Exit → Act → World → Prop}
theorem wpl_slice_lo (s k d : Tmp) (p1 : TypeId) (p2 : String) (p3 : Array Edge) (A : Option Addr) (n c kk : Nat) (hs : a.tmps[s]?.getD undef = .slice A n c) (hk : a.tmps[k]?.getD undef = .int .i64 kk) (hkn : kk ≤ n) (hnc : n ≤ c)
    (h : wpList Try.prog ops Q rest (a.put (some d) (.slice A kk c)) w) :
    wpList Try.prog ops Q (⟨some d, .slice 52 (.tmp s) none (some (.tmp k)) none, p1, p2, p3, none⟩ :: rest) a w := by
  refine wpList_plain rfl fun K hK => ?_
  have h1 : kk ≤ c := Nat.le_trans hkn hnc
  have h2 : (kk : Int) ≤ (c : Int) := by omega
  cases A with
  | none =>
    go_simp
    exact hK _ _ h
  | some b =>
    go_simp
    exact hK _ _ (by simpa [Addr.add, Act.put] using h)
set_option maxRecDepth 100000 in
theorem wpl_slice_hi (s k d : Tmp) (p1 : TypeId) (p2 : String) (p3 : Array Edge) (A : Option Addr) (n c kk : Nat) (hs : a.tmps[s]?.getD undef = .slice A n c) (hk : a.tmps[k]?.getD undef = .int .i64 kk) (hkn : kk ≤ n) (hnc : n ≤ c)
    (h : wpList Try.prog ops Q rest (a.put (some d) (.slice (if c = kk then A else A.map (·.add (kk * 6))) (n - kk) (c - kk))) w) :
    wpList Try.prog ops Q (⟨some d, .slice 52 (.tmp s) (some (.tmp k)) none none, p1, p2, p3, none⟩ :: rest) a w := by
  refine wpList_plain rfl fun K hK => ?_
  have h1 : kk ≤ c := Nat.le_trans hkn hnc
  have h2 : (kk : Int) ≤ (n : Int) := by omega
  by_cases he : c = kk
  · subst he
    obtain rfl : n = c := by omega
    rw [if_pos rfl, Nat.sub_self] at h
    go_simp
    exact hK _ _ h
  · rw [if_neg he] at h
    cases A with
    | none =>
      go_simp
      exact hK _ _ h
    | some b =>
      go_simp
      exact hK _ _ h
end
def AccRow (B : Nat) (w : World) (v : Value) (acc : List T) : Prop := ∃ css : List (List Value), css.length = acc.length ∧ (∀ c ∈ css, c.length = 6) ∧ (∀ (i : Nat) k c, acc[i]? = some k → css[i]? = some c → RT (fun b => B ≤ b) w k c) ∧ w.ownsRow B 54 6 v acc.length css.flatten
theorem AccRow.nil (B : Nat) (w : World) : AccRow B w (.slice none 0 0) [] := ⟨[], rfl, by simp, by simp, rfl, .inl ⟨rfl, rfl⟩⟩
theorem AccRow.ext {B : Nat} {w w' : World} (hx : Ext w w') {v : Value} {acc : List T} (h : AccRow B w v acc) : AccRow B w' v acc := by
  obtain ⟨css, h1, h2, h3, h4⟩ := h
  exact ⟨css, h1, h2, fun i k c hi hc => (h3 i k c hi hc).ext hx, own_ext hx h4⟩
theorem AccRow.row {B : Nat} {w : World} {v : Value} {acc : List T} (h : AccRow B w v acc) (hl : acc.length ≤ 1048576) : ∃ A cap, v = .slice A acc.length cap ∧ RRow (fun b => B ≤ b) w A acc cap := by
  obtain ⟨css, h1, h2, h3, h4⟩ := h
  obtain ⟨A, cap, e, hr⟩ := rrow_of_own (S := fun b => B ≤ b) h1 h2 rfl hl h3 h4
  exact ⟨A, cap, e, hr.mono' fun b _ hb => by rcases hb with hb | hb <;> exact hb⟩
theorem own_mono {w : World} {base base' : Nat} {e : TypeId} {sz n : Nat} {v : Value} {xs : List Value} (hb : base ≤ base') (h : w.ownsRow base' e sz v n xs) : w.ownsRow base e sz v n xs := by
  obtain ⟨h1, h2⟩ := h
  refine ⟨h1, ?_⟩
  rcases h2 with h2 | ⟨g, cap, cur, hv, hb2, h3⟩
  · exact .inl h2
  · exact .inr ⟨g, cap, cur, hv, Nat.le_trans hb hb2, h3⟩
theorem AccRow.put {B B' : Nat} {w w' : World} {v' : Value} {acc : List T} {x : T} {cx : List Value} {p : Nat} {css : List (List Value)} (hl : css.length = acc.length) (h6 : ∀ c ∈ css, c.length = 6) (hr : ∀ (i : Nat) k c, acc[i]? = some k → css[i]? = some c → RT (fun b => B ≤ b) w k c)
    (hx : RT (fun b => B ≤ b) w' x cx) (hp : p ≤ acc.length) (hw : Ext w w') (hB : B ≤ B') (h : w'.ownsRow B' 54 6 v' (acc.length + 1) (css.flatten.take (p * 6) ++ cx ++ css.flatten.drop (p * 6))) : AccRow B w' v' (acc.take p ++ x :: acc.drop p) := by
  have hf := flatten_take css h6 p
  refine ⟨css.take p ++ cx :: css.drop p, by simp [hl], fun c hc => ?_, fun i k c hi hc => ?_, ?_⟩
  · rcases List.mem_append.1 hc with hc | hc
    · exact h6 c (List.mem_of_mem_take hc)
    · rcases List.mem_cons.1 hc with rfl | hc
      · exact hx.len
      · exact h6 c (List.mem_of_mem_drop hc)
  · have ht : (acc.take p).length = (css.take p).length := by rw [List.length_take, List.length_take, hl]
    by_cases hip : i < (acc.take p).length
    · rw [List.getElem?_append_left hip, List.getElem?_take] at hi
      rw [List.getElem?_append_left (by rw [← ht]; exact hip), List.getElem?_take] at hc
      split at hi
      · rename_i hlt; rw [if_pos hlt] at hc; exact (hr i k c hi hc).ext hw
      · cases hi
    · rw [List.getElem?_append_right (by omega)] at hi hc
      rw [← ht] at hc
      cases hq : i - (acc.take p).length with
      | zero => rw [hq] at hi hc; simp at hi hc; subst hi hc; exact hx
      | succ q =>
        rw [hq] at hi hc
        rw [List.getElem?_cons_succ, List.getElem?_drop] at hi hc
        exact (hr _ k c hi hc).ext hw
  · have he : (acc.take p ++ x :: acc.drop p).length = acc.length + 1 := by rw [List.length_append, List.length_take, List.length_cons, List.length_drop]; omega
    rw [he, List.flatten_append, List.flatten_cons, ← hf.1, ← hf.2, ← List.append_assoc]
    exact own_mono hB h
def SortPost (t : T) (w w' : World) (v : Value) : Prop := ∃ c : List Value, v = .agg c.toArray ∧ RT (fun b => w.heap.size ≤ b) w' (sortT t) c ∧ Ext w w'
set_option maxRecDepth 100000 in
set_option maxHeartbeats 4000000 in
theorem ref_sorted : ∀ (N : Nat) (t : T) (S : Nat → Prop) (w : World) (c : List Value), t.deep ≤ N → t.size ≤ 1048576 → RT S w t c → Calls Try.prog 58 #[.agg c.toArray] w (Ret (SortPost t w))
  | 0, t, S, w, c, hn, _, _ => by rw [t.deep_eq] at hn; omega
  | N + 1, t, S, w, c, hn, hsz, h => by
    obtain ⟨K, kc, rfl, hrow⟩ := h.row
    have kr1 := Hd.mk hrow
    have hlen := hrow.len
    replace hn := Hd.mk hn
    replace hsz := Hd.mk hsz
    have ih := Hd.mk (ref_sorted N)
    clear h hrow
    obtain ⟨res, hres⟩ : ∃ l, l = sortL [] t.kids := ⟨_, rfl⟩
    replace hres := Hd.mk hres
    simp only [cT]
    go_enter Try.func58, Try.ntmps58
    go_wp2_with fail
    have kx := Hd.mk ((Ext.alloc w (.cells #[.string t.name, .string t.key, .int .i64 t.kind, .int .u64 t.num, .string t.text, .slice K t.kids.length kc] 54)).trans (Ext.alloc _ (.cells #[.string ⟨#[]⟩, .string ⟨#[]⟩, .int .i64 0, .int .u64 0, .string ⟨#[]⟩, .slice none 0 0] 54)))
    have kA := Hd.mk ((Blk.new w #[.string t.name, .string t.key, .int .i64 t.kind, .int .u64 t.num, .string t.text, .slice K t.kids.length kc] 54).alloc (.cells #[.string ⟨#[]⟩, .string ⟨#[]⟩, .int .i64 0, .int .u64 0, .string ⟨#[]⟩, .slice none 0 0] 54))
    have kR := Hd.mk (Blk.new2 w (.cells #[.string t.name, .string t.key, .int .i64 t.kind, .int .u64 t.num, .string t.text, .slice K t.kids.length kc] 54) #[.string ⟨#[]⟩, .string ⟨#[]⟩, .int .i64 0, .int .u64 0, .string ⟨#[]⟩, .slice none 0 0] 54)
    have hpW := Hd.mk (show w.heap.size + 1 < ((w.alloc _).alloc _).heap.size from kR.out.lt)
    generalize (w.alloc _).alloc _ = W at *
    generalize hp : w.heap.size = p at *
    replace hp := Hd.mk hp
    go_loopg [3, 4] (t.kids.length + 1) (fun q s i wr => ∃ j : Nat, j ≤ t.kids.length ∧ Hd (q = t.kids.length + 1 - j) ∧ i = .int .i64 j ∧ ∃ acc : List T, Hd (acc.length = j) ∧ Hd (sortL acc (t.kids.drop j) = res) ∧ Hd (AccRow (p + 2) wr s acc) ∧ Hd (Blk wr p [.string t.name, .string t.key, .int .i64 t.kind, .int .u64 t.num, .string t.text, .slice K t.kids.length kc] 54) ∧ Hd (Blk wr (p + 1) [.string ⟨#[]⟩, .string ⟨#[]⟩, .int .i64 0, .int .u64 0, .string ⟨#[]⟩, .slice none 0 0] 54) ∧ Hd (Ext w wr) ∧ Hd (Ext W wr))
    case atStart => exact ⟨0, by omega, ⟨by omega⟩, rfl, [], ⟨rfl⟩, ⟨hres.out.symm⟩, ⟨AccRow.nil _ _⟩, kA, kR, kx, ⟨Ext.refl _⟩⟩
    case round =>
    clear kA kR kx
    obtain ⟨j, hj, hq, rfl, acc, hal, hI, hacc, kA, kR, kx, kxW⟩ := hrel
    obtain ⟨A3, cap3, rfl, hrow3⟩ := hacc.out.row (by rw [hal.out]; omega)
    replace hrow3 := Hd.mk hrow3
    have gA := kA.out.cell
    by_cases hlt : j < t.kids.length
    · have hx1 := List.getElem?_eq_getElem hlt
      have hdrop := Hd.mk (List.drop_eq_getElem_cons hlt)
      generalize t.kids[j] = x at hx1 hdrop
      obtain ⟨b2, o2, ck, rfl, _, hrk, hck⟩ := kr1.out.kid j x hx1
      have hdx : x.deep ≤ N := by have := kid_deep hx1; have := hn.out; omega
      have hsx : x.size ≤ 1048576 := by have := kid_size hx1; have := hsz.out; omega
      obtain ⟨K5, c5, rfl, _⟩ := hrk.row
      simp only [cT] at hck hrk
      have hrec := ih.out x S _ _ hdx hsx (hrk.ext kx.out)
      have hsx2 := Hd.mk (sortT_size x)
      generalize hxs : sortT x = x1 at *
      replace hxs := Hd.mk hxs
      obtain ⟨e0, e1, e2, e3, e4, e5⟩ := six kx.out hck
      have hlt0 : (j : Int) < (t.kids.length : Int) := by omega
      replace hdx := Hd.mk hdx
      replace hsx := Hd.mk hsx
      clear hx1 hck hrk
      go_wp2_with fail
      refine Calls.mono hrec ?_
      rintro e w5 ⟨_, rfl, c5', rfl, hr5, hx⟩
      rw [hxs.out] at hr5
      obtain ⟨K4, c4, rfl, _⟩ := hr5.row
      have kr5 := Hd.mk (hr5.mono (S' := fun b => p + 2 ≤ b) (fun b _ hb => by have := kxW.out.size; have := hpW.out; omega))
      simp only [cT] at kr5 ⊢
      clear hrec hr5 gA e0 e1 e2 e3 e4 e5
      go_wp2_with fail
      have hxA := hx.trans (Ext.alloc w5 (.cells #[.string x1.name, .string x1.key, .int .i64 x1.kind, .int .u64 x1.num, .string x1.text, .slice K4 x1.kids.length c4] 54))
      have kG := Hd.mk (Blk.new w5 #[.string x1.name, .string x1.key, .int .i64 x1.kind, .int .u64 x1.num, .string x1.text, .slice K4 x1.kids.length c4] 54)
      replace kr5 := Hd.mk (kr5.out.ext (Ext.alloc w5 (.cells #[.string x1.name, .string x1.key, .int .i64 x1.kind, .int .u64 x1.num, .string x1.text, .slice K4 x1.kids.length c4] 54)))
      replace kA := Hd.mk (kA.out.ext hxA)
      replace kR := Hd.mk (kR.out.ext hxA)
      replace kx := Hd.mk (kx.out.trans hxA)
      replace kxW := Hd.mk (kxW.out.trans hxA)
      replace hacc := Hd.mk (hacc.out.ext hxA)
      replace hrow3 := Hd.mk (hrow3.out.ext hxA)
      clear hx hxA
      generalize w5.heap.size = g at *
      generalize w5.alloc _ = W5 at *
      go_loopg [6] (acc.length + 1) (fun q s wq => ∃ pp : Nat, pp ≤ acc.length ∧ Hd (q = pp + 1) ∧ s = .int .i64 pp ∧ Hd (∀ (i : Nat) e, pp ≤ i → acc[i]? = some e → lessT x1 e = true) ∧ Hd (Ext W5 wq))
      case atStart => exact ⟨acc.length, Nat.le_refl _, ⟨rfl⟩, rfl, ⟨fun i e hi he => by have := (List.getElem?_eq_some_iff.1 he).1; omega⟩, ⟨Ext.refl _⟩⟩
      case round =>
      obtain ⟨pp, hpp, hq2, rfl, hab, kx5⟩ := hrel
      replace kA := Hd.mk (kA.out.ext kx5.out)
      replace kR := Hd.mk (kR.out.ext kx5.out)
      replace kG := Hd.mk (kG.out.ext kx5.out)
      replace kr5 := Hd.mk (kr5.out.ext kx5.out)
      replace hacc := Hd.mk (hacc.out.ext kx5.out)
      replace hrow3 := Hd.mk (hrow3.out.ext kx5.out)
      replace kx := Hd.mk (kx.out.trans kx5.out)
      replace kxW := Hd.mk (kxW.out.trans kx5.out)
      generalize wr = V0 at *
      by_cases hp0 : pp = 0
      · have hp9 := Hd.mk hp0
        have hbel : Hd (∀ y, 0 < pp → acc[pp - 1]? = some y → lessT x1 y = false) := ⟨fun y h _ => by omega⟩
        clear hp0
        go_wp2_with fail
        refine Flow.wp_region_flow_l (fun qq => match qq with
          | 23 => SP.eq (.int .i64 (pp : Nat))
          | 24 => SP.eq (.bool false)
          | 25 => SP.eq (.bool false)
          | 26 => SP.eq (undef)
          | 27 => SP.eq (undef)
          | 28 => SP.eq (undef)
          | 29 => SP.eq (undef)
          | 30 => SP.eq (undef)
          | 31 => SP.eq (undef)
          | 32 => SP.eq (undef)
          | 33 => SP.eq (.bool false)
          | _ => SP.any) 11 (by kernel_rfl) 54 rfl (by kernel_rfl) ?_ ?_
        · skip
          refine ⟨?_, ?_, ?_, ?_, ?_, ?_, ?_, ?_, ?_, ?_, ?_, trivial⟩
          · intro act W2 hk
            refine Flow.does_intro rfl (fun Kq hK => ?_)
            have e6 : act.tmps[6]?.getD undef = .int .i64 (pp : Nat) := hk.o 6 (by kernel_rfl)
            clear hk
            go_simp
            exact hK _ _ (Ext.refl _) (fun d hd => by cases hd; rfl)
          · intro act W2 hk
            refine Flow.does_intro rfl (fun Kq hK => ?_)
            have e23 : act.tmps[23]?.getD undef = .int .i64 (pp : Nat) := hk.v 23 (by kernel_rfl)
            clear hk
            go_simp
            exact hK _ _ (Ext.refl _) (fun d hd => by cases hd; have h1 := hp9.out; simp [SP.eq]; omega)
          · intro act W2 hk
            refine Flow.does_intro rfl (fun Kq hK => ?_)
            have e24 : act.tmps[24]?.getD undef = .bool false := hk.v 24 (by kernel_rfl)
            clear hk
            go_simp
            exact hK _ _ (Ext.refl _) (fun d hd => by cases hd; rfl)
          · intro act W2 hk
            have eg : act.tmps[25]?.getD undef = .bool false := hk.v 25 (by kernel_rfl)
            exact Flow.does_skip (wanted_no rfl rfl eg) (fun d hd => by cases hd; rfl)
          · intro act W2 hk
            have eg : act.tmps[25]?.getD undef = .bool false := hk.v 25 (by kernel_rfl)
            exact Flow.does_skip (wanted_no rfl rfl eg) (fun d hd => by cases hd; rfl)
          · intro act W2 hk
            have eg : act.tmps[25]?.getD undef = .bool false := hk.v 25 (by kernel_rfl)
            exact Flow.does_skip (wanted_no rfl rfl eg) (fun d hd => by cases hd; rfl)
          · intro act W2 hk
            have eg : act.tmps[25]?.getD undef = .bool false := hk.v 25 (by kernel_rfl)
            exact Flow.does_skip (wanted_no rfl rfl eg) (fun d hd => by cases hd; rfl)
          · intro act W2 hk
            have eg : act.tmps[25]?.getD undef = .bool false := hk.v 25 (by kernel_rfl)
            exact Flow.does_skip (wanted_no rfl rfl eg) (fun d hd => by cases hd; rfl)
          · intro act W2 hk
            have eg : act.tmps[25]?.getD undef = .bool false := hk.v 25 (by kernel_rfl)
            exact Flow.does_skip (wanted_no rfl rfl eg) (fun d hd => by cases hd; rfl)
          · intro act W2 hk
            have eg : act.tmps[25]?.getD undef = .bool false := hk.v 25 (by kernel_rfl)
            exact Flow.does_skip (wanted_no rfl rfl eg) (fun d hd => by cases hd; rfl)
          · intro act W2 hk
            refine Flow.does_intro rfl (fun Kq hK => ?_)
            have e25 : act.tmps[25]?.getD undef = .bool false := hk.v 25 (by kernel_rfl)
            clear hk
            go_simp
            exact hK _ _ (Ext.refl _) (fun d hd => by cases hd; rfl)
        · intro act W2 he
          have hxW2 := Hd.mk ((Ext.drew V0).trans he.ext)
          obtain ⟨us, hA, hF⟩ := he.out [23, 24, 25, 26, 27, 28, 29, 30, 31, 32, 33] (by kernel_rfl)
          simp only [Flow.fillL, List.contains_cons, List.contains_nil, Nat.reduceBEq, Bool.or_false, Bool.false_or, Bool.or_true, Bool.true_or, ↓reduceIte, Nat.reduceAdd, Bool.false_eq_true] at hA
          subst hA
          have f33 : us 33 = .bool false := hF 33 (by simp)
          clear hF he
          rw [f33]
          clear f33
          refine (show wpList _ _ _ [] _ _ from ?_)
          replace kA := Hd.mk (kA.out.ext hxW2.out)
          replace kR := Hd.mk (kR.out.ext hxW2.out)
          replace kG := Hd.mk (kG.out.ext hxW2.out)
          replace kr5 := Hd.mk (kr5.out.ext hxW2.out)
          replace hacc := Hd.mk (hacc.out.ext hxW2.out)
          replace hrow3 := Hd.mk (hrow3.out.ext hxW2.out)
          replace kx := Hd.mk (kx.out.trans hxW2.out)
          replace kxW := Hd.mk (kxW.out.trans hxW2.out)
          replace kx5 := Hd.mk (kx5.out.trans hxW2.out)
          clear hxW2
          generalize W2 = V2 at *
          have hac : acc.length < 1048576 := by have := hal.out; omega
          obtain ⟨css, q1, q2, q3, q4⟩ := hacc.out
          have kfl := Hd.mk (flatten_len css q2)
          have kone := Hd.mk (all_one q1 q3)
          have hcap3 := hrow3.out.cap
          have hnul3 := Hd.mk hrow3.out.nul
          have hsrc : Hd (∀ W, Ext V2 W → ∀ ad, A3 = some ad → ∀ j u, css.flatten[j]? = some u → W.cell? (ad.add j) = some u) := ⟨fun W hW ad had j u hj => by
            obtain ⟨A', cap', e', _, _, h5⟩ := own_slice q4
            have hj2 := (List.getElem?_eq_some_iff.1 hj).1
            rw [flatten_len css q2, q1] at hj2
            obtain ⟨g2, sp2, eA, _, hb2⟩ := h5 (by omega)
            simp only [Value.slice.injEq] at e'
            obtain ⟨rfl, _, _⟩ := e'
            cases had.symm.trans eA
            rw [addr_add, Nat.zero_add]
            refine Ext.cell hW ?_
            rw [hb2.cell, List.getElem?_append_left (List.getElem?_eq_some_iff.1 hj).1]
            exact hj⟩
          replace q1 := Hd.mk q1
          replace q2 := Hd.mk q2
          replace q3 := Hd.mk q3
          clear q4
          have hbase := Hd.mk (show p + 2 ≤ V2.heap.size by have := kxW.out.size; have := hpW.out; omega)
          have hins := Hd.mk (insSt_at (x := x1) (l := acc) (p := pp) hpp hab.out hbel.out)
          clear hbel hab hq2
          go_wp2_with ((with_reducible refine stop_at (.slice 52 (.tmp 37) none (some (.tmp 38)) none) ?_))
          refine Stop.mk ?_
          refine wpl_slice_lo 37 38 39 _ _ _ A3 acc.length cap3 pp rfl rfl hpp hcap3 ?_
          simp only [Act.put, List.setIfInBounds_toArray, List.set_cons_succ, List.set_cons_zero]
          refine wpl_append_src 36 39 40 _ _ _ V2.heap.size (.slice none 0 0) 0 [] rfl ⟨rfl, .inl ⟨rfl, rfl⟩⟩ A3 pp cap3 (css.flatten.take (pp * 6)) rfl (fun h => by have := hnul3.out h; omega) (by rw [List.length_take, kfl.out, q1.out]; omega) (fun ad had j u hj => by
            rw [List.getElem?_take] at hj
            split at hj
            · exact hsrc.out _ (Ext.refl _) ad had j u hj
            · cases hj) (all_take kone.out _).1 (by omega) (Nat.le_refl _) ?_
          intro v1 w6 ho1 hb1
          rw [Nat.zero_add, List.nil_append] at ho1
          have ho1 := Hd.mk ho1
          have hb1 := Hd.mk (show Ext V2 w6 from hb1)
          replace kG := Hd.mk (kG.out.ext hb1.out)
          have gG := kG.out.cell
          go_wp2_with ((with_reducible refine stop_at (.call { callee := .builtin .append, args := #[.tmp 41, .tmp 43], argTypes := #[52, 52] }) ?_))
          refine Stop.mk ?_
          have hxB := Ext.alloc w6 (.cells #[.string x1.name, .string x1.key, .int .i64 x1.kind, .int .u64 x1.num, .string x1.text, .slice K4 x1.kids.length c4] 54)
          have kB := Hd.mk (Blk.new w6 #[.string x1.name, .string x1.key, .int .i64 x1.kind, .int .u64 x1.num, .string x1.text, .slice K4 x1.kids.length c4] 54)
          replace ho1 := Hd.mk (own_ext hxB ho1.out)
          replace hb1 := Hd.mk (hb1.out.trans hxB)
          clear gG hxB
          generalize w6.heap.size = gb at *
          generalize w6.alloc _ = V3 at *
          refine wpl_append_src 41 43 44 _ _ _ V2.heap.size v1 pp _ rfl ho1.out (some ⟨gb, 0, none⟩) 1 1 [.string x1.name, .string x1.key, .int .i64 x1.kind, .int .u64 x1.num, .string x1.text, .slice K4 x1.kids.length c4] rfl (fun h => by cases h) rfl (fun ad had j u hj => by cases had; rw [addr_add, Nat.zero_add, kB.out.cell]; exact hj) (by rfl) (by omega) hb1.out.size ?_
          intro v2 w7 ho2 hb2
          have ho2 := Hd.mk ho2
          have hb2 := Hd.mk (show Ext V2 w7 from Below.trans hb1.out hb2)
          go_wp2_with ((with_reducible refine stop_at (.slice 52 (.tmp 46) (some (.tmp 47)) none none) ?_))
          refine Stop.mk ?_
          refine wpl_slice_hi 46 47 48 _ _ _ A3 acc.length cap3 pp rfl rfl hpp hcap3 ?_
          simp only [Act.put, List.setIfInBounds_toArray, List.set_cons_succ, List.set_cons_zero]
          refine wpl_append_src 45 48 49 _ _ _ V2.heap.size v2 (pp + 1) _ rfl ho2.out (if cap3 = pp then A3 else Option.map (·.add (pp * 6)) A3) (acc.length - pp) (cap3 - pp) (css.flatten.drop (pp * 6)) rfl (fun h => by
            by_cases he : cap3 = pp
            · omega
            · rw [if_neg he] at h
              have h0 : A3 = none := by
                revert h
                generalize A3 = A9
                cases A9 with
                | none => intro _; rfl
                | some _ => intro h; cases h
              have := hnul3.out h0
              omega) (by rw [List.length_drop, kfl.out, q1.out]; omega) (fun ad had j u hj => by
            rw [List.getElem?_drop] at hj
            have hj2 := (List.getElem?_eq_some_iff.1 hj).1
            rw [kfl.out, q1.out] at hj2
            rw [if_neg (by omega)] at had
            obtain ⟨a9, ha9, had2⟩ := Option.map_eq_some_iff.1 had
            subst had2
            rw [addr_add_add]
            exact hsrc.out _ hb2.out a9 ha9 _ u hj) (all_take kone.out _).2 (by omega) hb2.out.size ?_
          intro v3 w8 ho3 hb3
          have hb3 := Hd.mk (show Ext V2 w8 from Below.trans hb2.out hb3)
          have hacc3 := Hd.mk (AccRow.put q1.out q2.out q3.out (kr5.out.ext hb3.out) hpp hb3.out hbase.out (by have := ho3; rw [show pp + 1 + (acc.length - pp) = acc.length + 1 by omega] at this; exact this))
          rw [← hins.out] at hacc3
          have hlast := Hd.mk (insSt_len x1 acc)
          have hI2 : Hd (sortL (insSt x1 acc) (t.kids.drop (j + 1)) = res) := ⟨by rw [← hI.out, hdrop.out, sortL_cons, hxs.out]⟩
          replace kA := Hd.mk (kA.out.ext hb3.out)
          replace kR := Hd.mk (kR.out.ext hb3.out)
          replace kx := Hd.mk (kx.out.trans hb3.out)
          replace kxW := Hd.mk (kxW.out.trans hb3.out)
          clear ho1 ho2 ho3 hb1 hb2 hb3 hsrc kG kB q1 q2 q3 kfl kone hins hI hdrop hxs hrow3 hacc
          generalize insSt x1 acc = acc2 at *
          generalize Value.slice (if cap3 = pp then _ else _) _ _ = v48
          go_wp2_with fail
          go_roundg (t.kids.length + 1 - (j + 1))
          case measure => have := hq.out; omega
          case rel => exact ⟨j + 1, by omega, ⟨rfl⟩, by go_num, acc2, ⟨by rw [hlast.out, hal.out]⟩, hI2, hacc3, kA, kR, kx, kxW⟩
      · have hy0 : pp - 1 < acc.length := by omega
        have hy := List.getElem?_eq_getElem hy0
        generalize acc[pp - 1] = y at hy
        obtain ⟨b3, o3, dk, rfl, _, hrd, hdk⟩ := hrow3.out.kid (pp - 1) y hy
        obtain ⟨K6, c6, rfl, _⟩ := hrd.row
        have kcy := Hd.mk (fun (q : Nat) v hv => hdk q v hv)
        have hless := Hd.mk (fun w => ref_less x1 y K4 K6 x1.kids.length c4 y.kids.length c6 w)
        simp only [cT] at kcy hless
        obtain ⟨p2, hp2⟩ : ∃ p2, pp = p2 + 1 := ⟨pp - 1, by omega⟩
        have hp9 := Hd.mk hp2
        rw [show pp - 1 = p2 by omega] at hy hy0 kcy
        replace hy := Hd.mk hy
        have hp3 := Hd.mk (show p2 < 1048576 by have := hrow3.out.len; omega)
        clear hrd hdk hp0 hp2
        go_wp2_with fail
        cases hle : lessT x1 y with
        | true =>
          refine Flow.wp_region_flow_l (fun qq => match qq with
            | 23 => SP.eq (.int .i64 (pp : Nat))
            | 24 => SP.eq (.bool true)
            | 25 => SP.eq (.bool true)
            | 26 => SP.eq (.agg #[.string x1.name, .string x1.key, .int .i64 x1.kind, .int .u64 x1.num, .string x1.text, .slice K4 x1.kids.length c4])
            | 27 => SP.eq (.slice (some ⟨b3, o3, none⟩) acc.length cap3)
            | 28 => SP.eq (.int .i64 (pp : Nat))
            | 29 => SP.eq (.int .i64 (p2 : Nat))
            | 30 => SP.eq (.pointer (some ⟨b3, o3 + p2 * 6, none⟩))
            | 31 => SP.eq (.agg #[.string y.name, .string y.key, .int .i64 y.kind, .int .u64 y.num, .string y.text, .slice K6 y.kids.length c6])
            | 32 => SP.eq (.bool true)
            | 33 => SP.eq (.bool true)
            | _ => SP.any) 11 (by kernel_rfl) 54 rfl (by kernel_rfl) ?_ ?_
          · skip
            refine ⟨?_, ?_, ?_, ?_, ?_, ?_, ?_, ?_, ?_, ?_, ?_, trivial⟩
            · intro act W2 hk
              refine Flow.does_intro rfl (fun Kq hK => ?_)
              have e6 : act.tmps[6]?.getD undef = .int .i64 (pp : Nat) := hk.o 6 (by kernel_rfl)
              clear hk
              go_simp
              exact hK _ _ (Ext.refl _) (fun d hd => by cases hd; rfl)
            · intro act W2 hk
              refine Flow.does_intro rfl (fun Kq hK => ?_)
              have e23 : act.tmps[23]?.getD undef = .int .i64 (pp : Nat) := hk.v 23 (by kernel_rfl)
              clear hk
              go_simp
              exact hK _ _ (Ext.refl _) (fun d hd => by cases hd; have h1 := hp9.out; simp [SP.eq]; omega)
            · intro act W2 hk
              refine Flow.does_intro rfl (fun Kq hK => ?_)
              have e24 : act.tmps[24]?.getD undef = .bool true := hk.v 24 (by kernel_rfl)
              clear hk
              go_simp
              exact hK _ _ (Ext.refl _) (fun d hd => by cases hd; rfl)
            · intro act W2 hk
              have eg : act.tmps[25]?.getD undef = .bool true := hk.v 25 (by kernel_rfl)
              refine Flow.does_intro (wanted_yes rfl rfl eg) (fun Kq hK => ?_)
              clear eg
              have e5 : act.tmps[5]?.getD undef = .pointer (some ⟨g, 0, none⟩) := hk.o 5 (by kernel_rfl)
              have g := ((kG.out).ext ((Ext.drew V0).trans hk.ext)).cell
              clear hk
              go_simp
              exact hK _ _ (Ext.refl _) (fun d hd => by cases hd; rfl)
            · intro act W2 hk
              have eg : act.tmps[25]?.getD undef = .bool true := hk.v 25 (by kernel_rfl)
              refine Flow.does_intro (wanted_yes rfl rfl eg) (fun Kq hK => ?_)
              clear eg
              have e3 : act.tmps[3]?.getD undef = .slice (some ⟨b3, o3, none⟩) acc.length cap3 := hk.o 3 (by kernel_rfl)
              clear hk
              go_simp
              exact hK _ _ (Ext.refl _) (fun d hd => by cases hd; rfl)
            · intro act W2 hk
              have eg : act.tmps[25]?.getD undef = .bool true := hk.v 25 (by kernel_rfl)
              refine Flow.does_intro (wanted_yes rfl rfl eg) (fun Kq hK => ?_)
              clear eg
              have e6 : act.tmps[6]?.getD undef = .int .i64 (pp : Nat) := hk.o 6 (by kernel_rfl)
              clear hk
              go_simp
              exact hK _ _ (Ext.refl _) (fun d hd => by cases hd; rfl)
            · intro act W2 hk
              have eg : act.tmps[25]?.getD undef = .bool true := hk.v 25 (by kernel_rfl)
              refine Flow.does_intro (wanted_yes rfl rfl eg) (fun Kq hK => ?_)
              clear eg
              have e28 : act.tmps[28]?.getD undef = .int .i64 (pp : Nat) := hk.v 28 (by kernel_rfl)
              clear hk
              go_simp
              exact hK _ _ (Ext.refl _) (fun d hd => by cases hd; have h1 := hp9.out; have h2 := hp3.out; simp [SP.eq]; first | omega | (rw [IntKind.wrap_i64]; omega))
            · intro act W2 hk
              have eg : act.tmps[25]?.getD undef = .bool true := hk.v 25 (by kernel_rfl)
              refine Flow.does_intro (wanted_yes rfl rfl eg) (fun Kq hK => ?_)
              clear eg
              have e27 : act.tmps[27]?.getD undef = .slice (some ⟨b3, o3, none⟩) acc.length cap3 := hk.v 27 (by kernel_rfl)
              have e29 : act.tmps[29]?.getD undef = .int .i64 (p2 : Nat) := hk.v 29 (by kernel_rfl)
              clear hk
              go_simp
              exact hK _ _ (Ext.refl _) (fun d hd => by cases hd; rfl)
            · intro act W2 hk
              have eg : act.tmps[25]?.getD undef = .bool true := hk.v 25 (by kernel_rfl)
              refine Flow.does_intro (wanted_yes rfl rfl eg) (fun Kq hK => ?_)
              clear eg
              have e30 : act.tmps[30]?.getD undef = .pointer (some ⟨b3, o3 + p2 * 6, none⟩) := hk.v 30 (by kernel_rfl)
              have g0 := Ext.cell ((Ext.drew V0).trans hk.ext) (((fun q v hv => Ext.cell (Ext.refl _) (kcy.out q v hv))) 0 _ rfl)
              rw [Nat.add_zero] at g0
              have g1 := Ext.cell ((Ext.drew V0).trans hk.ext) (((fun q v hv => Ext.cell (Ext.refl _) (kcy.out q v hv))) 1 _ rfl)
              have g2 := Ext.cell ((Ext.drew V0).trans hk.ext) (((fun q v hv => Ext.cell (Ext.refl _) (kcy.out q v hv))) 2 _ rfl)
              have g3 := Ext.cell ((Ext.drew V0).trans hk.ext) (((fun q v hv => Ext.cell (Ext.refl _) (kcy.out q v hv))) 3 _ rfl)
              have g4 := Ext.cell ((Ext.drew V0).trans hk.ext) (((fun q v hv => Ext.cell (Ext.refl _) (kcy.out q v hv))) 4 _ rfl)
              have g5 := Ext.cell ((Ext.drew V0).trans hk.ext) (((fun q v hv => Ext.cell (Ext.refl _) (kcy.out q v hv))) 5 _ rfl)
              clear hk
              go_simp
              exact hK _ _ (Ext.refl _) (fun d hd => by cases hd; rfl)
            · intro act W2 hk
              have eg : act.tmps[25]?.getD undef = .bool true := hk.v 25 (by kernel_rfl)
              refine Flow.does_intro (wanted_yes rfl rfl eg) (fun Kq hK => ?_)
              clear eg
              have e26 : act.tmps[26]?.getD undef = .agg #[.string x1.name, .string x1.key, .int .i64 x1.kind, .int .u64 x1.num, .string x1.text, .slice K4 x1.kids.length c4] := hk.v 26 (by kernel_rfl)
              have e31 : act.tmps[31]?.getD undef = .agg #[.string y.name, .string y.key, .int .i64 y.kind, .int .u64 y.num, .string y.text, .slice K6 y.kids.length c6] := hk.v 31 (by kernel_rfl)
              clear hk
              go_simp
              refine Calls.mono (hless.out _) ?_
              rintro e W3 ⟨rfl, hx⟩
              exact hK _ _ hx (fun d hd => by cases hd; exact congrArg Value.bool hle)
            · intro act W2 hk
              refine Flow.does_intro rfl (fun Kq hK => ?_)
              have e25 : act.tmps[25]?.getD undef = .bool true := hk.v 25 (by kernel_rfl)
              have e32 : act.tmps[32]?.getD undef = .bool true := hk.v 32 (by kernel_rfl)
              clear hk
              go_simp
              exact hK _ _ (Ext.refl _) (fun d hd => by cases hd; rfl)
          · intro act W2 he
            have hxW2 := Hd.mk ((Ext.drew V0).trans he.ext)
            obtain ⟨us, hA, hF⟩ := he.out [23, 24, 25, 26, 27, 28, 29, 30, 31, 32, 33] (by kernel_rfl)
            simp only [Flow.fillL, List.contains_cons, List.contains_nil, Nat.reduceBEq, Bool.or_false, Bool.false_or, Bool.or_true, Bool.true_or, ↓reduceIte, Nat.reduceAdd, Bool.false_eq_true] at hA
            subst hA
            have f33 : us 33 = .bool true := hF 33 (by simp)
            clear hF he
            rw [f33]
            clear f33
            refine (show wpList _ _ _ [] _ _ from ?_)
            have hab2 : Hd (∀ (i : Nat) e, p2 ≤ i → acc[i]? = some e → lessT x1 e = true) := by
              refine ⟨fun i e hi he => ?_⟩
              by_cases hi2 : i = p2
              · subst hi2; rw [hy.out] at he; cases he; exact hle
              · exact hab.out i e (by have := hp9.out; omega) he
            go_wp2_with fail
            go_roundg (p2 + 1)
            case measure => have := hq2.out; have := hp9.out; omega
            case rel => exact ⟨p2, by have := hp9.out; omega, ⟨rfl⟩, by have h1 := hp9.out; have h2 := hp3.out; refine congrArg (Value.int .i64) ?_; unfold wrap64; omega, hab2, ⟨kx5.out.trans hxW2.out⟩⟩
        | false =>
          have hbel : Hd (∀ z, 0 < pp → acc[pp - 1]? = some z → lessT x1 z = false) := ⟨fun z h hz => by rw [show pp - 1 = p2 by have := hp9.out; omega, hy.out] at hz; cases hz; exact hle⟩
          refine Flow.wp_region_flow_l (fun qq => match qq with
            | 23 => SP.eq (.int .i64 (pp : Nat))
            | 24 => SP.eq (.bool true)
            | 25 => SP.eq (.bool true)
            | 26 => SP.eq (.agg #[.string x1.name, .string x1.key, .int .i64 x1.kind, .int .u64 x1.num, .string x1.text, .slice K4 x1.kids.length c4])
            | 27 => SP.eq (.slice (some ⟨b3, o3, none⟩) acc.length cap3)
            | 28 => SP.eq (.int .i64 (pp : Nat))
            | 29 => SP.eq (.int .i64 (p2 : Nat))
            | 30 => SP.eq (.pointer (some ⟨b3, o3 + p2 * 6, none⟩))
            | 31 => SP.eq (.agg #[.string y.name, .string y.key, .int .i64 y.kind, .int .u64 y.num, .string y.text, .slice K6 y.kids.length c6])
            | 32 => SP.eq (.bool false)
            | 33 => SP.eq (.bool false)
            | _ => SP.any) 11 (by kernel_rfl) 54 rfl (by kernel_rfl) ?_ ?_
          · skip
            refine ⟨?_, ?_, ?_, ?_, ?_, ?_, ?_, ?_, ?_, ?_, ?_, trivial⟩
            · intro act W2 hk
              refine Flow.does_intro rfl (fun Kq hK => ?_)
              have e6 : act.tmps[6]?.getD undef = .int .i64 (pp : Nat) := hk.o 6 (by kernel_rfl)
              clear hk
              go_simp
              exact hK _ _ (Ext.refl _) (fun d hd => by cases hd; rfl)
            · intro act W2 hk
              refine Flow.does_intro rfl (fun Kq hK => ?_)
              have e23 : act.tmps[23]?.getD undef = .int .i64 (pp : Nat) := hk.v 23 (by kernel_rfl)
              clear hk
              go_simp
              exact hK _ _ (Ext.refl _) (fun d hd => by cases hd; have h1 := hp9.out; simp [SP.eq]; omega)
            · intro act W2 hk
              refine Flow.does_intro rfl (fun Kq hK => ?_)
              have e24 : act.tmps[24]?.getD undef = .bool true := hk.v 24 (by kernel_rfl)
              clear hk
              go_simp
              exact hK _ _ (Ext.refl _) (fun d hd => by cases hd; rfl)
            · intro act W2 hk
              have eg : act.tmps[25]?.getD undef = .bool true := hk.v 25 (by kernel_rfl)
              refine Flow.does_intro (wanted_yes rfl rfl eg) (fun Kq hK => ?_)
              clear eg
              have e5 : act.tmps[5]?.getD undef = .pointer (some ⟨g, 0, none⟩) := hk.o 5 (by kernel_rfl)
              have g := ((kG.out).ext ((Ext.drew V0).trans hk.ext)).cell
              clear hk
              go_simp
              exact hK _ _ (Ext.refl _) (fun d hd => by cases hd; rfl)
            · intro act W2 hk
              have eg : act.tmps[25]?.getD undef = .bool true := hk.v 25 (by kernel_rfl)
              refine Flow.does_intro (wanted_yes rfl rfl eg) (fun Kq hK => ?_)
              clear eg
              have e3 : act.tmps[3]?.getD undef = .slice (some ⟨b3, o3, none⟩) acc.length cap3 := hk.o 3 (by kernel_rfl)
              clear hk
              go_simp
              exact hK _ _ (Ext.refl _) (fun d hd => by cases hd; rfl)
            · intro act W2 hk
              have eg : act.tmps[25]?.getD undef = .bool true := hk.v 25 (by kernel_rfl)
              refine Flow.does_intro (wanted_yes rfl rfl eg) (fun Kq hK => ?_)
              clear eg
              have e6 : act.tmps[6]?.getD undef = .int .i64 (pp : Nat) := hk.o 6 (by kernel_rfl)
              clear hk
              go_simp
              exact hK _ _ (Ext.refl _) (fun d hd => by cases hd; rfl)
            · intro act W2 hk
              have eg : act.tmps[25]?.getD undef = .bool true := hk.v 25 (by kernel_rfl)
              refine Flow.does_intro (wanted_yes rfl rfl eg) (fun Kq hK => ?_)
              clear eg
              have e28 : act.tmps[28]?.getD undef = .int .i64 (pp : Nat) := hk.v 28 (by kernel_rfl)
              clear hk
              go_simp
              exact hK _ _ (Ext.refl _) (fun d hd => by cases hd; have h1 := hp9.out; have h2 := hp3.out; simp [SP.eq]; first | omega | (rw [IntKind.wrap_i64]; omega))
            · intro act W2 hk
              have eg : act.tmps[25]?.getD undef = .bool true := hk.v 25 (by kernel_rfl)
              refine Flow.does_intro (wanted_yes rfl rfl eg) (fun Kq hK => ?_)
              clear eg
              have e27 : act.tmps[27]?.getD undef = .slice (some ⟨b3, o3, none⟩) acc.length cap3 := hk.v 27 (by kernel_rfl)
              have e29 : act.tmps[29]?.getD undef = .int .i64 (p2 : Nat) := hk.v 29 (by kernel_rfl)
              clear hk
              go_simp
              exact hK _ _ (Ext.refl _) (fun d hd => by cases hd; rfl)
            · intro act W2 hk
              have eg : act.tmps[25]?.getD undef = .bool true := hk.v 25 (by kernel_rfl)
              refine Flow.does_intro (wanted_yes rfl rfl eg) (fun Kq hK => ?_)
              clear eg
              have e30 : act.tmps[30]?.getD undef = .pointer (some ⟨b3, o3 + p2 * 6, none⟩) := hk.v 30 (by kernel_rfl)
              have g0 := Ext.cell ((Ext.drew V0).trans hk.ext) (((fun q v hv => Ext.cell (Ext.refl _) (kcy.out q v hv))) 0 _ rfl)
              rw [Nat.add_zero] at g0
              have g1 := Ext.cell ((Ext.drew V0).trans hk.ext) (((fun q v hv => Ext.cell (Ext.refl _) (kcy.out q v hv))) 1 _ rfl)
              have g2 := Ext.cell ((Ext.drew V0).trans hk.ext) (((fun q v hv => Ext.cell (Ext.refl _) (kcy.out q v hv))) 2 _ rfl)
              have g3 := Ext.cell ((Ext.drew V0).trans hk.ext) (((fun q v hv => Ext.cell (Ext.refl _) (kcy.out q v hv))) 3 _ rfl)
              have g4 := Ext.cell ((Ext.drew V0).trans hk.ext) (((fun q v hv => Ext.cell (Ext.refl _) (kcy.out q v hv))) 4 _ rfl)
              have g5 := Ext.cell ((Ext.drew V0).trans hk.ext) (((fun q v hv => Ext.cell (Ext.refl _) (kcy.out q v hv))) 5 _ rfl)
              clear hk
              go_simp
              exact hK _ _ (Ext.refl _) (fun d hd => by cases hd; rfl)
            · intro act W2 hk
              have eg : act.tmps[25]?.getD undef = .bool true := hk.v 25 (by kernel_rfl)
              refine Flow.does_intro (wanted_yes rfl rfl eg) (fun Kq hK => ?_)
              clear eg
              have e26 : act.tmps[26]?.getD undef = .agg #[.string x1.name, .string x1.key, .int .i64 x1.kind, .int .u64 x1.num, .string x1.text, .slice K4 x1.kids.length c4] := hk.v 26 (by kernel_rfl)
              have e31 : act.tmps[31]?.getD undef = .agg #[.string y.name, .string y.key, .int .i64 y.kind, .int .u64 y.num, .string y.text, .slice K6 y.kids.length c6] := hk.v 31 (by kernel_rfl)
              clear hk
              go_simp
              refine Calls.mono (hless.out _) ?_
              rintro e W3 ⟨rfl, hx⟩
              exact hK _ _ hx (fun d hd => by cases hd; exact congrArg Value.bool hle)
            · intro act W2 hk
              refine Flow.does_intro rfl (fun Kq hK => ?_)
              have e25 : act.tmps[25]?.getD undef = .bool true := hk.v 25 (by kernel_rfl)
              have e32 : act.tmps[32]?.getD undef = .bool false := hk.v 32 (by kernel_rfl)
              clear hk
              go_simp
              exact hK _ _ (Ext.refl _) (fun d hd => by cases hd; rfl)
          · intro act W2 he
            have hxW2 := Hd.mk ((Ext.drew V0).trans he.ext)
            obtain ⟨us, hA, hF⟩ := he.out [23, 24, 25, 26, 27, 28, 29, 30, 31, 32, 33] (by kernel_rfl)
            simp only [Flow.fillL, List.contains_cons, List.contains_nil, Nat.reduceBEq, Bool.or_false, Bool.false_or, Bool.or_true, Bool.true_or, ↓reduceIte, Nat.reduceAdd, Bool.false_eq_true] at hA
            subst hA
            have f33 : us 33 = .bool false := hF 33 (by simp)
            clear hF he
            rw [f33]
            clear f33
            refine (show wpList _ _ _ [] _ _ from ?_)
            replace kA := Hd.mk (kA.out.ext hxW2.out)
            replace kR := Hd.mk (kR.out.ext hxW2.out)
            replace kG := Hd.mk (kG.out.ext hxW2.out)
            replace kr5 := Hd.mk (kr5.out.ext hxW2.out)
            replace hacc := Hd.mk (hacc.out.ext hxW2.out)
            replace hrow3 := Hd.mk (hrow3.out.ext hxW2.out)
            replace kx := Hd.mk (kx.out.trans hxW2.out)
            replace kxW := Hd.mk (kxW.out.trans hxW2.out)
            replace kx5 := Hd.mk (kx5.out.trans hxW2.out)
            clear hxW2
            clear hy hy0 kcy hless hp9 hp3 hle
            generalize W2 = V2 at *
            have hac : acc.length < 1048576 := by have := hal.out; omega
            obtain ⟨css, q1, q2, q3, q4⟩ := hacc.out
            have kfl := Hd.mk (flatten_len css q2)
            have kone := Hd.mk (all_one q1 q3)
            have hcap3 := hrow3.out.cap
            have hnul3 := Hd.mk hrow3.out.nul
            have hsrc : Hd (∀ W, Ext V2 W → ∀ ad, (some (⟨b3, o3, none⟩ : Addr)) = some ad → ∀ j u, css.flatten[j]? = some u → W.cell? (ad.add j) = some u) := ⟨fun W hW ad had j u hj => by
              obtain ⟨A', cap', e', _, _, h5⟩ := own_slice q4
              have hj2 := (List.getElem?_eq_some_iff.1 hj).1
              rw [flatten_len css q2, q1] at hj2
              obtain ⟨g2, sp2, eA, _, hb2⟩ := h5 (by omega)
              simp only [Value.slice.injEq] at e'
              obtain ⟨rfl, _, _⟩ := e'
              cases had.symm.trans eA
              rw [addr_add, Nat.zero_add]
              refine Ext.cell hW ?_
              rw [hb2.cell, List.getElem?_append_left (List.getElem?_eq_some_iff.1 hj).1]
              exact hj⟩
            replace q1 := Hd.mk q1
            replace q2 := Hd.mk q2
            replace q3 := Hd.mk q3
            clear q4
            have hbase := Hd.mk (show p + 2 ≤ V2.heap.size by have := kxW.out.size; have := hpW.out; omega)
            have hins := Hd.mk (insSt_at (x := x1) (l := acc) (p := pp) hpp hab.out hbel.out)
            clear hbel hab hq2
            go_wp2_with ((with_reducible refine stop_at (.slice 52 (.tmp 37) none (some (.tmp 38)) none) ?_))
            refine Stop.mk ?_
            refine wpl_slice_lo 37 38 39 _ _ _ (some (⟨b3, o3, none⟩ : Addr)) acc.length cap3 pp rfl rfl hpp hcap3 ?_
            simp only [Act.put, List.setIfInBounds_toArray, List.set_cons_succ, List.set_cons_zero]
            refine wpl_append_src 36 39 40 _ _ _ V2.heap.size (.slice none 0 0) 0 [] rfl ⟨rfl, .inl ⟨rfl, rfl⟩⟩ (some (⟨b3, o3, none⟩ : Addr)) pp cap3 (css.flatten.take (pp * 6)) rfl (fun h => by have := hnul3.out h; omega) (by rw [List.length_take, kfl.out, q1.out]; omega) (fun ad had j u hj => by
              rw [List.getElem?_take] at hj
              split at hj
              · exact hsrc.out _ (Ext.refl _) ad had j u hj
              · cases hj) (all_take kone.out _).1 (by omega) (Nat.le_refl _) ?_
            intro v1 w6 ho1 hb1
            rw [Nat.zero_add, List.nil_append] at ho1
            have ho1 := Hd.mk ho1
            have hb1 := Hd.mk (show Ext V2 w6 from hb1)
            replace kG := Hd.mk (kG.out.ext hb1.out)
            have gG := kG.out.cell
            go_wp2_with ((with_reducible refine stop_at (.call { callee := .builtin .append, args := #[.tmp 41, .tmp 43], argTypes := #[52, 52] }) ?_))
            refine Stop.mk ?_
            have hxB := Ext.alloc w6 (.cells #[.string x1.name, .string x1.key, .int .i64 x1.kind, .int .u64 x1.num, .string x1.text, .slice K4 x1.kids.length c4] 54)
            have kB := Hd.mk (Blk.new w6 #[.string x1.name, .string x1.key, .int .i64 x1.kind, .int .u64 x1.num, .string x1.text, .slice K4 x1.kids.length c4] 54)
            replace ho1 := Hd.mk (own_ext hxB ho1.out)
            replace hb1 := Hd.mk (hb1.out.trans hxB)
            clear gG hxB
            generalize w6.heap.size = gb at *
            generalize w6.alloc _ = V3 at *
            refine wpl_append_src 41 43 44 _ _ _ V2.heap.size v1 pp _ rfl ho1.out (some ⟨gb, 0, none⟩) 1 1 [.string x1.name, .string x1.key, .int .i64 x1.kind, .int .u64 x1.num, .string x1.text, .slice K4 x1.kids.length c4] rfl (fun h => by cases h) rfl (fun ad had j u hj => by cases had; rw [addr_add, Nat.zero_add, kB.out.cell]; exact hj) (by rfl) (by omega) hb1.out.size ?_
            intro v2 w7 ho2 hb2
            have ho2 := Hd.mk ho2
            have hb2 := Hd.mk (show Ext V2 w7 from Below.trans hb1.out hb2)
            go_wp2_with ((with_reducible refine stop_at (.slice 52 (.tmp 46) (some (.tmp 47)) none none) ?_))
            refine Stop.mk ?_
            refine wpl_slice_hi 46 47 48 _ _ _ (some (⟨b3, o3, none⟩ : Addr)) acc.length cap3 pp rfl rfl hpp hcap3 ?_
            simp only [Act.put, List.setIfInBounds_toArray, List.set_cons_succ, List.set_cons_zero]
            refine wpl_append_src 45 48 49 _ _ _ V2.heap.size v2 (pp + 1) _ rfl ho2.out (if cap3 = pp then (some (⟨b3, o3, none⟩ : Addr)) else Option.map (·.add (pp * 6)) (some (⟨b3, o3, none⟩ : Addr))) (acc.length - pp) (cap3 - pp) (css.flatten.drop (pp * 6)) rfl (fun h => by
              by_cases he : cap3 = pp
              · omega
              · rw [if_neg he] at h
                have h0 : (some (⟨b3, o3, none⟩ : Addr)) = none := by
                  revert h
                  generalize (some (⟨b3, o3, none⟩ : Addr)) = A9
                  cases A9 with
                  | none => intro _; rfl
                  | some _ => intro h; cases h
                have := hnul3.out h0
                omega) (by rw [List.length_drop, kfl.out, q1.out]; omega) (fun ad had j u hj => by
              rw [List.getElem?_drop] at hj
              have hj2 := (List.getElem?_eq_some_iff.1 hj).1
              rw [kfl.out, q1.out] at hj2
              rw [if_neg (by omega)] at had
              obtain ⟨a9, ha9, had2⟩ := Option.map_eq_some_iff.1 had
              subst had2
              rw [addr_add_add]
              exact hsrc.out _ hb2.out a9 ha9 _ u hj) (all_take kone.out _).2 (by omega) hb2.out.size ?_
            intro v3 w8 ho3 hb3
            have hb3 := Hd.mk (show Ext V2 w8 from Below.trans hb2.out hb3)
            have hacc3 := Hd.mk (AccRow.put q1.out q2.out q3.out (kr5.out.ext hb3.out) hpp hb3.out hbase.out (by have := ho3; rw [show pp + 1 + (acc.length - pp) = acc.length + 1 by omega] at this; exact this))
            rw [← hins.out] at hacc3
            have hlast := Hd.mk (insSt_len x1 acc)
            have hI2 : Hd (sortL (insSt x1 acc) (t.kids.drop (j + 1)) = res) := ⟨by rw [← hI.out, hdrop.out, sortL_cons, hxs.out]⟩
            replace kA := Hd.mk (kA.out.ext hb3.out)
            replace kR := Hd.mk (kR.out.ext hb3.out)
            replace kx := Hd.mk (kx.out.trans hb3.out)
            replace kxW := Hd.mk (kxW.out.trans hb3.out)
            clear ho1 ho2 ho3 hb1 hb2 hb3 hsrc kG kB q1 q2 q3 kfl kone hins hI hdrop hxs hrow3 hacc
            generalize insSt x1 acc = acc2 at *
            generalize Value.slice (if cap3 = pp then _ else _) _ _ = v48
            go_wp2_with fail
            go_roundg (t.kids.length + 1 - (j + 1))
            case measure => have := hq.out; omega
            case rel => exact ⟨j + 1, by omega, ⟨rfl⟩, by go_num, acc2, ⟨by rw [hlast.out, hal.out]⟩, hI2, hacc3, kA, kR, kx, kxW⟩
    · have hjl : j = t.kids.length := by omega
      have hI2 := hI.out
      rw [hjl, List.drop_length, sortL_nil] at hI2
      subst hI2
      have fA := kA.out.free
      go_wp2_with ((with_reducible refine stop_at (.load 54 (.tmp 1)) ?_))
      refine Stop.mk ?_
      have hu := Upd.setCell wr ⟨p, 5, none⟩ (.slice A3 acc.length cap3)
      have kA4 := kA.out.setCell 5 (.slice A3 acc.length cap3)
      generalize wr.setCell _ _ = W4 at *
      replace kA := Hd.mk kA4
      replace kR := Hd.mk (hu.blk (by show p + 1 ≠ p; omega) kR.out)
      have hrow4 := Hd.mk (hrow3.out.keep (w' := W4) (S' := fun b => p + 2 ≤ b) (fun b off v hb hc => ⟨hb, by rw [← hc]; exact World.cell?_of_block (hu.block b (by show b ≠ p; omega))⟩))
      replace kx := Hd.mk (show Ext w W4 from Below.trans kx.out (hu.below (Nat.le_of_eq hp.out)))
      clear hu kA4 gA fA hacc hrow3
      have gA := kA.out.cell
      have gR := kR.out.cell
      have fR := kR.out.free
      go_wp2_with fail
      have hu := Hd.mk ((((((Upd.setCell W4 ⟨p + 1, 0, none⟩ (.string t.name)).trans (Upd.setCell _ ⟨p + 1, 1, none⟩ (.string t.key))).trans (Upd.setCell _ ⟨p + 1, 2, none⟩ (.int .i64 t.kind))).trans (Upd.setCell _ ⟨p + 1, 3, none⟩ (.int .u64 t.num))).trans (Upd.setCell _ ⟨p + 1, 4, none⟩ (.string t.text))).trans (Upd.setCell _ ⟨p + 1, 5, none⟩ (.slice A3 acc.length cap3)))
      exact ret_box rfl (p + 1) _ 54 _ ((((((kR.out.setCell 0 (.string t.name)).setCell 1 (.string t.key)).setCell 2 (.int .i64 t.kind)).setCell 3 (.int .u64 t.num)).setCell 4 (.string t.text)).setCell 5 (.slice A3 acc.length cap3)) rfl rfl Try.underlying54 rfl size54
        ⟨_, rfl, _, rfl, by
          rw [sortT_eq, ← hres.out]
          exact RT.of_row (t := t.wk acc) (hrow4.out.keep (S' := fun b => w.heap.size ≤ b) (fun b off v hb hc => ⟨by rw [hp.out]; omega, by rw [← hc]; exact World.cell?_of_block (hu.out.block b (by show b ≠ p + 1; omega))⟩)), Below.trans kx.out (hu.out.below (by rw [hp.out]; show p ≤ p + 1; omega))⟩
end Go.Proofs.Ytgkgedjmnbjalaa
set_option linter.unusedSimpArgs false
namespace Go.Proofs.Ytgkgedjmnbjalaa
open Go.RowKit Go.Sort
def Rb (B : Nat) (w w' : World) : Prop := (w'.os = w.os ∧ w'.tape = w.tape ∧ w'.output = w.output ∧ w.heap.size ≤ w'.heap.size) ∧ (∀ k, k < B → k < w.heap.size → w'.heap[k]? = w.heap[k]?) ∧ ∀ D c, Blk w D c 54 → c.length = 6 → ∃ c', Blk w' D c' 54 ∧ c'.length = 6
theorem rb_ext {B : Nat} {w w' : World} (h : Ext w w') : Rb B w w' := ⟨⟨h.os, h.tape, h.output, h.size⟩, fun k _ hk => h.block k hk, fun D c hD hc => ⟨c, hD.ext h, hc⟩⟩
theorem rb_trans {B : Nat} {a b c : World} (h : Rb B a b) (k : Rb B b c) : Rb B a c :=
  ⟨⟨k.1.1.trans h.1.1, k.1.2.1.trans h.1.2.1, k.1.2.2.1.trans h.1.2.2.1, Nat.le_trans h.1.2.2.2 k.1.2.2.2⟩, fun i hi hi2 => (k.2.1 i hi (Nat.lt_of_lt_of_le hi2 h.1.2.2.2)).trans (h.2.1 i hi hi2), fun D d hD hd => by
    obtain ⟨d', h1, h2⟩ := h.2.2 D d hD hd
    exact k.2.2 D d' h1 h2⟩
theorem rb_below {w w' : World} (h : Rb w.heap.size w w') : Ext w w' := ⟨h.1.1, h.1.2.1, h.1.2.2.1, h.1.2.2.2, fun k hk => h.2.1 k hk hk⟩
theorem rb_upd {B D : Nat} {w w' : World} (hB : B ≤ D) (hu : Upd w w' D) (h6 : ∃ c, Blk w' D c 54 ∧ c.length = 6) : Rb B w w' :=
  ⟨⟨hu.os, hu.tape, hu.output, Nat.le_of_eq hu.size.symm⟩, fun k hk _ => hu.block k (by omega), fun E c hE hc => by
    by_cases h : E = D
    · subst h; exact h6
    · exact ⟨c, hu.blk h hE, hc⟩⟩
def spBoxE (B : Nat) : SP := ⟨fun v w => ∃ D, v = .pointer (some ⟨D, 0, none⟩) ∧ B ≤ D ∧ ∃ c, Blk w D c 54 ∧ c.length = 6, fun _ _ _ h ⟨D, e, h1, c, hb, hc⟩ => ⟨D, e, h1, c, hb.ext h, hc⟩⟩
theorem rt_zero (S : Nat → Prop) (w : World) : RT S w zeroT [.string ⟨#[]⟩, .string ⟨#[]⟩, .int .i64 0, .int .u64 0, .string ⟨#[]⟩, .slice none 0 0] := (ot_zero S w).rt
end Go.Proofs.Ytgkgedjmnbjalaa
set_option linter.unusedSimpArgs false
namespace Go.Proofs.Ytgkgedjmnbjalaa
open Go.RowKit Go.Sort
def cWk (n x y z : T) (Kn Kx Ky Kz : Option Addr) (kn kx1 ky1 kz : Nat) (d : Int) (b2 o2 L ac : Nat) (iz : Bool) : List Value := [.string n.name, .string n.key, .int .i64 n.kind, .int .u64 n.num, .string n.text, .slice Kn n.kids.length kn, .int .i64 d, .slice (some ⟨b2, o2, none⟩) (L + 1) ac, .string x.name, .string x.key, .int .i64 x.kind, .int .u64 x.num, .string x.text, .slice Kx x.kids.length kx1, .string y.name, .string y.key, .int .i64 y.kind, .int .u64 y.num, .string y.text, .slice Ky y.kids.length ky1, .string z.name, .string z.key, .int .i64 z.kind, .int .u64 z.num, .string z.text, .slice Kz z.kids.length kz, .bool iz]
set_option maxRecDepth 100000 in
set_option maxHeartbeats 2000000 in
theorem work_has (m n x y z : T) (Km Kn Kx Ky Kz : Option Addr) (km kn kx1 ky1 kz : Nat) (d : Int) (b2 o2 L ac : Nat) (iz : Bool) (s : Step) (w : World) (g : Nat) (hL : L + 1 ≤ 1048576) (hg : Blk w g (cWk n x y z Kn Kx Ky Kz kn kx1 ky1 kz d b2 o2 L ac iz) 126)
    (hdk : ∀ (j : Nat) v, [Value.string s.1, .string s.2][j]? = some v → w.cell? ⟨b2, o2 + L * 2 + j, none⟩ = some v) :
    Calls Try.prog 143 #[.pointer (some ⟨g, 0, none⟩), .agg #[.string m.name, .string m.key, .int .i64 m.kind, .int .u64 m.num, .string m.text, .slice Km m.kids.length km]] w fun e w' => e = .returned (.bool (decide (stepT m = s))) ∧ Ext w w' := by
  obtain ⟨s1, s2⟩ := s
  have kG := Hd.mk (show Blk w g [.string n.name, .string n.key, .int .i64 n.kind, .int .u64 n.num, .string n.text, .slice Kn n.kids.length kn, .int .i64 d, .slice (some ⟨b2, o2, none⟩) (L + 1) ac, .string x.name, .string x.key, .int .i64 x.kind, .int .u64 x.num, .string x.text, .slice Kx x.kids.length kx1, .string y.name, .string y.key, .int .i64 y.kind, .int .u64 y.num, .string y.text, .slice Ky y.kids.length ky1, .string z.name, .string z.key, .int .i64 z.kind, .int .u64 z.num, .string z.text, .slice Kz z.kids.length kz, .bool iz] 126 from hg)
  have hdk := Hd.mk hdk
  clear hg
  generalize hr : decide (stepT m = (s1, s2)) = r
  replace hr := Hd.mk hr
  have sN := str_eq m.name s1
  have sK := str_eq m.key s2
  have hLi : (L : Int) < (L : Int) + 1 := by omega
  have hLl : L < L + 1 := by omega
  go_enter Try.func143, Try.ntmps143
  go_wp2_with fail
  have kx := Hd.mk (Ext.alloc w (.cells #[.string m.name, .string m.key, .int .i64 m.kind, .int .u64 m.num, .string m.text, .slice Km m.kids.length km] 54))
  have kM := Hd.mk (Blk.new w #[.string m.name, .string m.key, .int .i64 m.kind, .int .u64 m.num, .string m.text, .slice Km m.kids.length km] 54)
  replace kG := Hd.mk (kG.out.ext kx.out)
  have kcy := Hd.mk (fun (q : Nat) u hq => Ext.cell kx.out (hdk.out q u hq))
  generalize w.heap.size = pM at *
  generalize w.alloc _ = W at *
  clear hdk
  by_cases h1 : m.name = s1 ∧ m.key = s2
  · obtain ⟨rfl, rfl⟩ := h1
    obtain rfl : r = true := by rw [← hr.out]; simp [stepT]
    clear hr
    refine Flow.wp_region_flow_l (fun qq => match qq with
      | 5 => SP.eq (.pointer (some ⟨g, 0, none⟩))
      | 6 => SP.eq (.pointer (some ⟨g, 0, none⟩))
      | 7 => SP.eq (.pointer (some ⟨g, 6, none⟩))
      | 8 => SP.eq (.pointer (some ⟨g, 7, none⟩))
      | 9 => SP.eq (.slice (some ⟨b2, o2, none⟩) (L + 1) ac)
      | 10 => SP.eq (.pointer (some ⟨g, 0, none⟩))
      | 11 => SP.eq (.pointer (some ⟨g, 0, none⟩))
      | 12 => SP.eq (.pointer (some ⟨g, 6, none⟩))
      | 13 => SP.eq (.pointer (some ⟨g, 7, none⟩))
      | 14 => SP.eq (.slice (some ⟨b2, o2, none⟩) (L + 1) ac)
      | 15 => SP.eq (.int .i64 ((L + 1) : Nat))
      | 16 => SP.eq (.int .i64 (L : Nat))
      | 17 => SP.eq (.pointer (some ⟨b2, o2 + L * 2, none⟩))
      | 18 => SP.eq (.agg #[.string m.name, .string m.key])
      | 19 => SP.eq (.pointer (some ⟨pM, 0, none⟩))
      | 20 => SP.eq (.string m.name)
      | 21 => SP.eq (.pointer (some ⟨pM, 1, none⟩))
      | 22 => SP.eq (.string m.key)
      | 23 => SP.eq (.agg #[.string m.name, .string m.key])
      | 24 => SP.eq (.bool true)
      | 4 => SP.eq (.bool true)
      | _ => SP.any) 21 (by kernel_rfl) 25 rfl (by kernel_rfl) ?_ ?_
    · skip
      refine ⟨?_, ?_, ?_, ?_, ?_, ?_, ?_, ?_, ?_, ?_, ?_, ?_, ?_, ?_, ?_, ?_, ?_, ?_, ?_, ?_, ?_, trivial⟩
      · intro act W2 hk
        refine Flow.does_intro rfl (fun Kq hK => ?_)
        have e0 : act.tmps[0]?.getD undef = .pointer (some ⟨g, 0, none⟩) := hk.o 0 (by kernel_rfl)
        clear hk
        go_simp
        exact hK _ _ (Ext.refl _) (fun d hd => by cases hd; rfl)
      · intro act W2 hk
        refine Flow.does_intro rfl (fun Kq hK => ?_)
        have e5 : act.tmps[5]?.getD undef = .pointer (some ⟨g, 0, none⟩) := hk.v 5 (by kernel_rfl)
        clear hk
        go_simp
        exact hK _ _ (Ext.refl _) (fun d hd => by cases hd; rfl)
      · intro act W2 hk
        refine Flow.does_intro rfl (fun Kq hK => ?_)
        have e6 : act.tmps[6]?.getD undef = .pointer (some ⟨g, 0, none⟩) := hk.v 6 (by kernel_rfl)
        clear hk
        go_simp
        exact hK _ _ (Ext.refl _) (fun d hd => by cases hd; rfl)
      · intro act W2 hk
        refine Flow.does_intro rfl (fun Kq hK => ?_)
        have e7 : act.tmps[7]?.getD undef = .pointer (some ⟨g, 6, none⟩) := hk.v 7 (by kernel_rfl)
        clear hk
        go_simp
        exact hK _ _ (Ext.refl _) (fun d hd => by cases hd; rfl)
      · intro act W2 hk
        refine Flow.does_intro rfl (fun Kq hK => ?_)
        have e8 : act.tmps[8]?.getD undef = .pointer (some ⟨g, 7, none⟩) := hk.v 8 (by kernel_rfl)
        have g := ((kG.out).ext ((Ext.drew W).trans hk.ext)).cell
        clear hk
        go_simp
        exact hK _ _ (Ext.refl _) (fun d hd => by cases hd; rfl)
      · intro act W2 hk
        refine Flow.does_intro rfl (fun Kq hK => ?_)
        have e0 : act.tmps[0]?.getD undef = .pointer (some ⟨g, 0, none⟩) := hk.o 0 (by kernel_rfl)
        clear hk
        go_simp
        exact hK _ _ (Ext.refl _) (fun d hd => by cases hd; rfl)
      · intro act W2 hk
        refine Flow.does_intro rfl (fun Kq hK => ?_)
        have e10 : act.tmps[10]?.getD undef = .pointer (some ⟨g, 0, none⟩) := hk.v 10 (by kernel_rfl)
        clear hk
        go_simp
        exact hK _ _ (Ext.refl _) (fun d hd => by cases hd; rfl)
      · intro act W2 hk
        refine Flow.does_intro rfl (fun Kq hK => ?_)
        have e11 : act.tmps[11]?.getD undef = .pointer (some ⟨g, 0, none⟩) := hk.v 11 (by kernel_rfl)
        clear hk
        go_simp
        exact hK _ _ (Ext.refl _) (fun d hd => by cases hd; rfl)
      · intro act W2 hk
        refine Flow.does_intro rfl (fun Kq hK => ?_)
        have e12 : act.tmps[12]?.getD undef = .pointer (some ⟨g, 6, none⟩) := hk.v 12 (by kernel_rfl)
        clear hk
        go_simp
        exact hK _ _ (Ext.refl _) (fun d hd => by cases hd; rfl)
      · intro act W2 hk
        refine Flow.does_intro rfl (fun Kq hK => ?_)
        have e13 : act.tmps[13]?.getD undef = .pointer (some ⟨g, 7, none⟩) := hk.v 13 (by kernel_rfl)
        have g := ((kG.out).ext ((Ext.drew W).trans hk.ext)).cell
        clear hk
        go_simp
        exact hK _ _ (Ext.refl _) (fun d hd => by cases hd; rfl)
      · intro act W2 hk
        refine Flow.does_intro rfl (fun Kq hK => ?_)
        have e14 : act.tmps[14]?.getD undef = .slice (some ⟨b2, o2, none⟩) (L + 1) ac := hk.v 14 (by kernel_rfl)
        clear hk
        go_simp
        exact hK _ _ (Ext.refl _) (fun d hd => by cases hd; rfl)
      · intro act W2 hk
        refine Flow.does_intro rfl (fun Kq hK => ?_)
        have e15 : act.tmps[15]?.getD undef = .int .i64 ((L + 1) : Nat) := hk.v 15 (by kernel_rfl)
        clear hk
        go_simp
        exact hK _ _ (Ext.refl _) (fun d hd => by cases hd; first | rfl | (simp [SP.eq]; rw [IntKind.wrap_i64]; omega))
      · intro act W2 hk
        refine Flow.does_intro rfl (fun Kq hK => ?_)
        have e9 : act.tmps[9]?.getD undef = .slice (some ⟨b2, o2, none⟩) (L + 1) ac := hk.v 9 (by kernel_rfl)
        have e16 : act.tmps[16]?.getD undef = .int .i64 (L : Nat) := hk.v 16 (by kernel_rfl)
        clear hk
        go_simp
        exact hK _ _ (Ext.refl _) (fun d hd => by cases hd; rfl)
      · intro act W2 hk
        refine Flow.does_intro rfl (fun Kq hK => ?_)
        have e17 : act.tmps[17]?.getD undef = .pointer (some ⟨b2, o2 + L * 2, none⟩) := hk.v 17 (by kernel_rfl)
        have g0 := Ext.cell ((Ext.drew W).trans hk.ext) ((kcy.out) 0 _ rfl)
        rw [Nat.add_zero] at g0
        have g1 := Ext.cell ((Ext.drew W).trans hk.ext) ((kcy.out) 1 _ rfl)
        clear hk
        go_simp
        exact hK _ _ (Ext.refl _) (fun d hd => by cases hd; rfl)
      · intro act W2 hk
        refine Flow.does_intro rfl (fun Kq hK => ?_)
        have e3 : act.tmps[3]?.getD undef = .pointer (some ⟨pM, 0, none⟩) := hk.o 3 (by kernel_rfl)
        clear hk
        go_simp
        exact hK _ _ (Ext.refl _) (fun d hd => by cases hd; rfl)
      · intro act W2 hk
        refine Flow.does_intro rfl (fun Kq hK => ?_)
        have e19 : act.tmps[19]?.getD undef = .pointer (some ⟨pM, 0, none⟩) := hk.v 19 (by kernel_rfl)
        have g := ((kM.out).ext ((Ext.drew W).trans hk.ext)).cell
        clear hk
        go_simp
        exact hK _ _ (Ext.refl _) (fun d hd => by cases hd; rfl)
      · intro act W2 hk
        refine Flow.does_intro rfl (fun Kq hK => ?_)
        have e3 : act.tmps[3]?.getD undef = .pointer (some ⟨pM, 0, none⟩) := hk.o 3 (by kernel_rfl)
        clear hk
        go_simp
        exact hK _ _ (Ext.refl _) (fun d hd => by cases hd; rfl)
      · intro act W2 hk
        refine Flow.does_intro rfl (fun Kq hK => ?_)
        have e21 : act.tmps[21]?.getD undef = .pointer (some ⟨pM, 1, none⟩) := hk.v 21 (by kernel_rfl)
        have g := ((kM.out).ext ((Ext.drew W).trans hk.ext)).cell
        clear hk
        go_simp
        exact hK _ _ (Ext.refl _) (fun d hd => by cases hd; rfl)
      · intro act W2 hk
        refine Flow.does_intro rfl (fun Kq hK => ?_)
        have e20 : act.tmps[20]?.getD undef = .string m.name := hk.v 20 (by kernel_rfl)
        have e22 : act.tmps[22]?.getD undef = .string m.key := hk.v 22 (by kernel_rfl)
        clear hk
        go_simp
        exact hK _ _ (Ext.refl _) (fun d hd => by cases hd; rfl)
      · intro act W2 hk
        refine Flow.does_intro rfl (fun Kq hK => ?_)
        have e18 : act.tmps[18]?.getD undef = .agg #[.string m.name, .string m.key] := hk.v 18 (by kernel_rfl)
        have e23 : act.tmps[23]?.getD undef = .agg #[.string m.name, .string m.key] := hk.v 23 (by kernel_rfl)
        clear hk
        go_simp
        exact hK _ _ (Ext.refl _) (fun d hd => by cases hd; rfl)
      · intro act W2 hk
        refine Flow.does_intro rfl (fun Kq hK => ?_)
        have e24 : act.tmps[24]?.getD undef = .bool true := hk.v 24 (by kernel_rfl)
        clear hk
        go_simp
        exact hK _ _ (Ext.refl _) (fun d hd => by cases hd; rfl)
    · intro act W2 he
      have hxW2 := Hd.mk ((Ext.drew W).trans he.ext)
      obtain ⟨us, hA, hF⟩ := he.out [5, 6, 7, 8, 9, 10, 11, 12, 13, 14, 15, 16, 17, 18, 19, 20, 21, 22, 23, 24, 4] (by kernel_rfl)
      simp only [Flow.fillL, List.contains_cons, List.contains_nil, Nat.reduceBEq, Bool.or_false, Bool.false_or, Bool.or_true, Bool.true_or, ↓reduceIte, Nat.reduceAdd, Bool.false_eq_true] at hA
      subst hA
      have f4 : us 4 = .bool true := hF 4 (by simp)
      clear hF he
      rw [f4]
      clear f4
      refine (show wpList _ _ _ [] _ _ from ?_)
      go_wp2_with fail
      go_ret
      exact ⟨rfl, kx.out.trans hxW2.out⟩
  · obtain rfl : r = false := by rw [← hr.out]; simp only [stepT, Prod.mk.injEq, decide_eq_false_iff_not]; exact h1
    have hv := not2 (show ¬ (s1 = m.name ∧ s2 = m.key) from fun h => h1 ⟨h.1.symm, h.2.symm⟩)
    have hv := Hd.mk hv
    clear hr sN sK h1
    refine Flow.wp_region_flow_l (fun qq => match qq with
      | 5 => SP.eq (.pointer (some ⟨g, 0, none⟩))
      | 6 => SP.eq (.pointer (some ⟨g, 0, none⟩))
      | 7 => SP.eq (.pointer (some ⟨g, 6, none⟩))
      | 8 => SP.eq (.pointer (some ⟨g, 7, none⟩))
      | 9 => SP.eq (.slice (some ⟨b2, o2, none⟩) (L + 1) ac)
      | 10 => SP.eq (.pointer (some ⟨g, 0, none⟩))
      | 11 => SP.eq (.pointer (some ⟨g, 0, none⟩))
      | 12 => SP.eq (.pointer (some ⟨g, 6, none⟩))
      | 13 => SP.eq (.pointer (some ⟨g, 7, none⟩))
      | 14 => SP.eq (.slice (some ⟨b2, o2, none⟩) (L + 1) ac)
      | 15 => SP.eq (.int .i64 ((L + 1) : Nat))
      | 16 => SP.eq (.int .i64 (L : Nat))
      | 17 => SP.eq (.pointer (some ⟨b2, o2 + L * 2, none⟩))
      | 18 => SP.eq (.agg #[.string s1, .string s2])
      | 19 => SP.eq (.pointer (some ⟨pM, 0, none⟩))
      | 20 => SP.eq (.string m.name)
      | 21 => SP.eq (.pointer (some ⟨pM, 1, none⟩))
      | 22 => SP.eq (.string m.key)
      | 23 => SP.eq (.agg #[.string m.name, .string m.key])
      | 24 => SP.eq (.bool false)
      | 4 => SP.eq (.bool false)
      | _ => SP.any) 21 (by kernel_rfl) 25 rfl (by kernel_rfl) ?_ ?_
    · skip
      refine ⟨?_, ?_, ?_, ?_, ?_, ?_, ?_, ?_, ?_, ?_, ?_, ?_, ?_, ?_, ?_, ?_, ?_, ?_, ?_, ?_, ?_, trivial⟩
      · intro act W2 hk
        refine Flow.does_intro rfl (fun Kq hK => ?_)
        have e0 : act.tmps[0]?.getD undef = .pointer (some ⟨g, 0, none⟩) := hk.o 0 (by kernel_rfl)
        clear hk
        go_simp
        exact hK _ _ (Ext.refl _) (fun d hd => by cases hd; rfl)
      · intro act W2 hk
        refine Flow.does_intro rfl (fun Kq hK => ?_)
        have e5 : act.tmps[5]?.getD undef = .pointer (some ⟨g, 0, none⟩) := hk.v 5 (by kernel_rfl)
        clear hk
        go_simp
        exact hK _ _ (Ext.refl _) (fun d hd => by cases hd; rfl)
      · intro act W2 hk
        refine Flow.does_intro rfl (fun Kq hK => ?_)
        have e6 : act.tmps[6]?.getD undef = .pointer (some ⟨g, 0, none⟩) := hk.v 6 (by kernel_rfl)
        clear hk
        go_simp
        exact hK _ _ (Ext.refl _) (fun d hd => by cases hd; rfl)
      · intro act W2 hk
        refine Flow.does_intro rfl (fun Kq hK => ?_)
        have e7 : act.tmps[7]?.getD undef = .pointer (some ⟨g, 6, none⟩) := hk.v 7 (by kernel_rfl)
        clear hk
        go_simp
        exact hK _ _ (Ext.refl _) (fun d hd => by cases hd; rfl)
      · intro act W2 hk
        refine Flow.does_intro rfl (fun Kq hK => ?_)
        have e8 : act.tmps[8]?.getD undef = .pointer (some ⟨g, 7, none⟩) := hk.v 8 (by kernel_rfl)
        have g := ((kG.out).ext ((Ext.drew W).trans hk.ext)).cell
        clear hk
        go_simp
        exact hK _ _ (Ext.refl _) (fun d hd => by cases hd; rfl)
      · intro act W2 hk
        refine Flow.does_intro rfl (fun Kq hK => ?_)
        have e0 : act.tmps[0]?.getD undef = .pointer (some ⟨g, 0, none⟩) := hk.o 0 (by kernel_rfl)
        clear hk
        go_simp
        exact hK _ _ (Ext.refl _) (fun d hd => by cases hd; rfl)
      · intro act W2 hk
        refine Flow.does_intro rfl (fun Kq hK => ?_)
        have e10 : act.tmps[10]?.getD undef = .pointer (some ⟨g, 0, none⟩) := hk.v 10 (by kernel_rfl)
        clear hk
        go_simp
        exact hK _ _ (Ext.refl _) (fun d hd => by cases hd; rfl)
      · intro act W2 hk
        refine Flow.does_intro rfl (fun Kq hK => ?_)
        have e11 : act.tmps[11]?.getD undef = .pointer (some ⟨g, 0, none⟩) := hk.v 11 (by kernel_rfl)
        clear hk
        go_simp
        exact hK _ _ (Ext.refl _) (fun d hd => by cases hd; rfl)
      · intro act W2 hk
        refine Flow.does_intro rfl (fun Kq hK => ?_)
        have e12 : act.tmps[12]?.getD undef = .pointer (some ⟨g, 6, none⟩) := hk.v 12 (by kernel_rfl)
        clear hk
        go_simp
        exact hK _ _ (Ext.refl _) (fun d hd => by cases hd; rfl)
      · intro act W2 hk
        refine Flow.does_intro rfl (fun Kq hK => ?_)
        have e13 : act.tmps[13]?.getD undef = .pointer (some ⟨g, 7, none⟩) := hk.v 13 (by kernel_rfl)
        have g := ((kG.out).ext ((Ext.drew W).trans hk.ext)).cell
        clear hk
        go_simp
        exact hK _ _ (Ext.refl _) (fun d hd => by cases hd; rfl)
      · intro act W2 hk
        refine Flow.does_intro rfl (fun Kq hK => ?_)
        have e14 : act.tmps[14]?.getD undef = .slice (some ⟨b2, o2, none⟩) (L + 1) ac := hk.v 14 (by kernel_rfl)
        clear hk
        go_simp
        exact hK _ _ (Ext.refl _) (fun d hd => by cases hd; rfl)
      · intro act W2 hk
        refine Flow.does_intro rfl (fun Kq hK => ?_)
        have e15 : act.tmps[15]?.getD undef = .int .i64 ((L + 1) : Nat) := hk.v 15 (by kernel_rfl)
        clear hk
        go_simp
        exact hK _ _ (Ext.refl _) (fun d hd => by cases hd; first | rfl | (simp [SP.eq]; rw [IntKind.wrap_i64]; omega))
      · intro act W2 hk
        refine Flow.does_intro rfl (fun Kq hK => ?_)
        have e9 : act.tmps[9]?.getD undef = .slice (some ⟨b2, o2, none⟩) (L + 1) ac := hk.v 9 (by kernel_rfl)
        have e16 : act.tmps[16]?.getD undef = .int .i64 (L : Nat) := hk.v 16 (by kernel_rfl)
        clear hk
        go_simp
        exact hK _ _ (Ext.refl _) (fun d hd => by cases hd; rfl)
      · intro act W2 hk
        refine Flow.does_intro rfl (fun Kq hK => ?_)
        have e17 : act.tmps[17]?.getD undef = .pointer (some ⟨b2, o2 + L * 2, none⟩) := hk.v 17 (by kernel_rfl)
        have g0 := Ext.cell ((Ext.drew W).trans hk.ext) ((kcy.out) 0 _ rfl)
        rw [Nat.add_zero] at g0
        have g1 := Ext.cell ((Ext.drew W).trans hk.ext) ((kcy.out) 1 _ rfl)
        clear hk
        go_simp
        exact hK _ _ (Ext.refl _) (fun d hd => by cases hd; rfl)
      · intro act W2 hk
        refine Flow.does_intro rfl (fun Kq hK => ?_)
        have e3 : act.tmps[3]?.getD undef = .pointer (some ⟨pM, 0, none⟩) := hk.o 3 (by kernel_rfl)
        clear hk
        go_simp
        exact hK _ _ (Ext.refl _) (fun d hd => by cases hd; rfl)
      · intro act W2 hk
        refine Flow.does_intro rfl (fun Kq hK => ?_)
        have e19 : act.tmps[19]?.getD undef = .pointer (some ⟨pM, 0, none⟩) := hk.v 19 (by kernel_rfl)
        have g := ((kM.out).ext ((Ext.drew W).trans hk.ext)).cell
        clear hk
        go_simp
        exact hK _ _ (Ext.refl _) (fun d hd => by cases hd; rfl)
      · intro act W2 hk
        refine Flow.does_intro rfl (fun Kq hK => ?_)
        have e3 : act.tmps[3]?.getD undef = .pointer (some ⟨pM, 0, none⟩) := hk.o 3 (by kernel_rfl)
        clear hk
        go_simp
        exact hK _ _ (Ext.refl _) (fun d hd => by cases hd; rfl)
      · intro act W2 hk
        refine Flow.does_intro rfl (fun Kq hK => ?_)
        have e21 : act.tmps[21]?.getD undef = .pointer (some ⟨pM, 1, none⟩) := hk.v 21 (by kernel_rfl)
        have g := ((kM.out).ext ((Ext.drew W).trans hk.ext)).cell
        clear hk
        go_simp
        exact hK _ _ (Ext.refl _) (fun d hd => by cases hd; rfl)
      · intro act W2 hk
        refine Flow.does_intro rfl (fun Kq hK => ?_)
        have e20 : act.tmps[20]?.getD undef = .string m.name := hk.v 20 (by kernel_rfl)
        have e22 : act.tmps[22]?.getD undef = .string m.key := hk.v 22 (by kernel_rfl)
        clear hk
        go_simp
        exact hK _ _ (Ext.refl _) (fun d hd => by cases hd; rfl)
      · intro act W2 hk
        refine Flow.does_intro rfl (fun Kq hK => ?_)
        have e18 : act.tmps[18]?.getD undef = .agg #[.string s1, .string s2] := hk.v 18 (by kernel_rfl)
        have e23 : act.tmps[23]?.getD undef = .agg #[.string m.name, .string m.key] := hk.v 23 (by kernel_rfl)
        clear hk
        skip
        rcases hv.out with q | ⟨q1, q⟩
        all_goals go_simp
        all_goals exact hK _ _ (Ext.refl _) (fun d hd => by cases hd; rfl)
      · intro act W2 hk
        refine Flow.does_intro rfl (fun Kq hK => ?_)
        have e24 : act.tmps[24]?.getD undef = .bool false := hk.v 24 (by kernel_rfl)
        clear hk
        go_simp
        exact hK _ _ (Ext.refl _) (fun d hd => by cases hd; rfl)
    · intro act W2 he
      have hxW2 := Hd.mk ((Ext.drew W).trans he.ext)
      obtain ⟨us, hA, hF⟩ := he.out [5, 6, 7, 8, 9, 10, 11, 12, 13, 14, 15, 16, 17, 18, 19, 20, 21, 22, 23, 24, 4] (by kernel_rfl)
      simp only [Flow.fillL, List.contains_cons, List.contains_nil, Nat.reduceBEq, Bool.or_false, Bool.false_or, Bool.or_true, Bool.true_or, ↓reduceIte, Nat.reduceAdd, Bool.false_eq_true] at hA
      subst hA
      have f4 : us 4 = .bool false := hF 4 (by simp)
      clear hF he
      rw [f4]
      clear f4
      refine (show wpList _ _ _ [] _ _ from ?_)
      go_wp2_with fail
      go_ret
      exact ⟨rfl, kx.out.trans hxW2.out⟩
set_option maxRecDepth 100000 in
set_option maxHeartbeats 2000000 in
theorem work_wrong (n x y z : T) (Kn Kx Ky Kz : Option Addr) (kn kx1 ky1 kz : Nat) (d : Int) (b2 o2 L ac : Nat) (iz : Bool) (S : Nat → Prop) (w : World) (g : Nat) (hg : Blk w g (cWk n x y z Kn Kx Ky Kz kn kx1 ky1 kz d b2 o2 L ac iz) 126)
    (hy : RT S w y [.string y.name, .string y.key, .int .i64 y.kind, .int .u64 y.num, .string y.text, .slice Ky y.kids.length ky1]) (hz : RT S w z [.string z.name, .string z.key, .int .i64 z.kind, .int .u64 z.num, .string z.text, .slice Kz z.kids.length kz]) :
    Calls Try.prog 144 #[.pointer (some ⟨g, 0, none⟩)] w fun e w' => e = .returned (.int .i64 (if iz = false then 30 else if sameT z y = false then 23 else 0)) ∧ Ext w w' := by
  have kG := Hd.mk (show Blk w g [.string n.name, .string n.key, .int .i64 n.kind, .int .u64 n.num, .string n.text, .slice Kn n.kids.length kn, .int .i64 d, .slice (some ⟨b2, o2, none⟩) (L + 1) ac, .string x.name, .string x.key, .int .i64 x.kind, .int .u64 x.num, .string x.text, .slice Kx x.kids.length kx1, .string y.name, .string y.key, .int .i64 y.kind, .int .u64 y.num, .string y.text, .slice Ky y.kids.length ky1, .string z.name, .string z.key, .int .i64 z.kind, .int .u64 z.num, .string z.text, .slice Kz z.kids.length kz, .bool iz] 126 from hg)
  have hsm := Hd.mk (fun W (h : Ext w W) => tree_same _ z y S W _ _ (Nat.le_refl _) (hz.ext h) (hy.ext h))
  clear hg hy hz
  have gG := kG.out.cell
  go_enter Try.func144, Try.ntmps144
  cases iz with
  | false =>
    go_wp2_with fail
    go_ret
    exact ⟨rfl, Ext.refl _⟩
  | true =>
    go_wp2_with fail
    clear gG
    refine Flow.wp_region_flow_l (fun qq => match qq with
      | 10 => SP.eq (.pointer (some ⟨g, 0, none⟩))
      | 11 => SP.eq (.pointer (some ⟨g, 0, none⟩))
      | 12 => SP.eq (.pointer (some ⟨g, 20, none⟩))
      | 13 => SP.eq (.agg #[.string z.name, .string z.key, .int .i64 z.kind, .int .u64 z.num, .string z.text, .slice Kz z.kids.length kz])
      | 14 => SP.eq (.pointer (some ⟨g, 0, none⟩))
      | 15 => SP.eq (.pointer (some ⟨g, 0, none⟩))
      | 16 => SP.eq (.pointer (some ⟨g, 6, none⟩))
      | 17 => SP.eq (.pointer (some ⟨g, 14, none⟩))
      | 18 => SP.eq (.agg #[.string y.name, .string y.key, .int .i64 y.kind, .int .u64 y.num, .string y.text, .slice Ky y.kids.length ky1])
      | 19 => SP.eq (.bool (sameT z y))
      | 20 => SP.eq (.bool (!sameT z y))
      | 9 => SP.eq (.bool (!sameT z y))
      | _ => SP.any) 12 (by kernel_rfl) 21 rfl (by kernel_rfl) ?_ ?_
    · skip
      refine ⟨?_, ?_, ?_, ?_, ?_, ?_, ?_, ?_, ?_, ?_, ?_, ?_, trivial⟩
      · intro act W2 hk
        refine Flow.does_intro rfl (fun Kq hK => ?_)
        have e0 : act.tmps[0]?.getD undef = .pointer (some ⟨g, 0, none⟩) := hk.o 0 (by kernel_rfl)
        clear hk
        go_simp
        exact hK _ _ (Ext.refl _) (fun d hd => by cases hd; rfl)
      · intro act W2 hk
        refine Flow.does_intro rfl (fun Kq hK => ?_)
        have e10 : act.tmps[10]?.getD undef = .pointer (some ⟨g, 0, none⟩) := hk.v 10 (by kernel_rfl)
        clear hk
        go_simp
        exact hK _ _ (Ext.refl _) (fun d hd => by cases hd; rfl)
      · intro act W2 hk
        refine Flow.does_intro rfl (fun Kq hK => ?_)
        have e11 : act.tmps[11]?.getD undef = .pointer (some ⟨g, 0, none⟩) := hk.v 11 (by kernel_rfl)
        clear hk
        go_simp
        exact hK _ _ (Ext.refl _) (fun d hd => by cases hd; rfl)
      · intro act W2 hk
        refine Flow.does_intro rfl (fun Kq hK => ?_)
        have e12 : act.tmps[12]?.getD undef = .pointer (some ⟨g, 20, none⟩) := hk.v 12 (by kernel_rfl)
        have g := ((kG.out).ext ((Ext.drew w).trans hk.ext)).cell
        clear hk
        go_simp
        exact hK _ _ (Ext.refl _) (fun d hd => by cases hd; rfl)
      · intro act W2 hk
        refine Flow.does_intro rfl (fun Kq hK => ?_)
        have e0 : act.tmps[0]?.getD undef = .pointer (some ⟨g, 0, none⟩) := hk.o 0 (by kernel_rfl)
        clear hk
        go_simp
        exact hK _ _ (Ext.refl _) (fun d hd => by cases hd; rfl)
      · intro act W2 hk
        refine Flow.does_intro rfl (fun Kq hK => ?_)
        have e14 : act.tmps[14]?.getD undef = .pointer (some ⟨g, 0, none⟩) := hk.v 14 (by kernel_rfl)
        clear hk
        go_simp
        exact hK _ _ (Ext.refl _) (fun d hd => by cases hd; rfl)
      · intro act W2 hk
        refine Flow.does_intro rfl (fun Kq hK => ?_)
        have e15 : act.tmps[15]?.getD undef = .pointer (some ⟨g, 0, none⟩) := hk.v 15 (by kernel_rfl)
        clear hk
        go_simp
        exact hK _ _ (Ext.refl _) (fun d hd => by cases hd; rfl)
      · intro act W2 hk
        refine Flow.does_intro rfl (fun Kq hK => ?_)
        have e16 : act.tmps[16]?.getD undef = .pointer (some ⟨g, 6, none⟩) := hk.v 16 (by kernel_rfl)
        clear hk
        go_simp
        exact hK _ _ (Ext.refl _) (fun d hd => by cases hd; rfl)
      · intro act W2 hk
        refine Flow.does_intro rfl (fun Kq hK => ?_)
        have e17 : act.tmps[17]?.getD undef = .pointer (some ⟨g, 14, none⟩) := hk.v 17 (by kernel_rfl)
        have g := ((kG.out).ext ((Ext.drew w).trans hk.ext)).cell
        clear hk
        go_simp
        exact hK _ _ (Ext.refl _) (fun d hd => by cases hd; rfl)
      · intro act W2 hk
        refine Flow.does_intro rfl (fun Kq hK => ?_)
        have e13 : act.tmps[13]?.getD undef = .agg #[.string z.name, .string z.key, .int .i64 z.kind, .int .u64 z.num, .string z.text, .slice Kz z.kids.length kz] := hk.v 13 (by kernel_rfl)
        have e18 : act.tmps[18]?.getD undef = .agg #[.string y.name, .string y.key, .int .i64 y.kind, .int .u64 y.num, .string y.text, .slice Ky y.kids.length ky1] := hk.v 18 (by kernel_rfl)
        have hx0 := Hd.mk ((Ext.drew w).trans hk.ext)
        clear hk
        go_simp
        refine Calls.mono (hsm.out _ hx0.out) ?_
        rintro e W3 ⟨rfl, hx⟩
        exact hK _ _ hx (fun d hd => by cases hd; rfl)
      · intro act W2 hk
        refine Flow.does_intro rfl (fun Kq hK => ?_)
        have e19 : act.tmps[19]?.getD undef = .bool (sameT z y) := hk.v 19 (by kernel_rfl)
        clear hk
        go_simp
        exact hK _ _ (Ext.refl _) (fun d hd => by cases hd; rfl)
      · intro act W2 hk
        refine Flow.does_intro rfl (fun Kq hK => ?_)
        have e20 : act.tmps[20]?.getD undef = .bool (!sameT z y) := hk.v 20 (by kernel_rfl)
        clear hk
        go_simp
        exact hK _ _ (Ext.refl _) (fun d hd => by cases hd; rfl)
    · intro act W2 he
      have hxW2 := Hd.mk ((Ext.drew w).trans he.ext)
      obtain ⟨us, hA, hF⟩ := he.out [10, 11, 12, 13, 14, 15, 16, 17, 18, 19, 20, 9] (by kernel_rfl)
      simp only [Flow.fillL, List.contains_cons, List.contains_nil, Nat.reduceBEq, Bool.or_false, Bool.false_or, Bool.or_true, Bool.true_or, ↓reduceIte, Nat.reduceAdd, Bool.false_eq_true] at hA
      subst hA
      have f9 : us 9 = .bool (!sameT z y) := hF 9 (by simp)
      clear hF he
      rw [f9]
      clear f9
      refine (show wpList _ _ _ [] _ _ from ?_)
      cases hb : sameT z y with
      | false =>
        go_wp2_with fail
        go_ret
        exact ⟨rfl, hxW2.out⟩
      | true =>
        go_wp2_with fail
        go_ret
        exact ⟨rfl, hxW2.out⟩
end Go.Proofs.Ytgkgedjmnbjalaa
