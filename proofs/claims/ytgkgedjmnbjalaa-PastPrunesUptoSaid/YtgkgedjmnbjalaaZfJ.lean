/- Texts that the law needs, joined.
   Conditions: none. -/
import Derived.Test.YtgkgedjmnbjalaaZfI
import Derived.Test.YtgkgedjmnbjalaaZfG
import Derived.Test.YtgkgedjmnbjalaaZfA
set_option linter.unusedSimpArgs false
set_option linter.unusedVariables false
namespace Go.Proofs.Ytgkgedjmnbjalaa
open Go.RowKit Go.Sort
theorem wpl_append_none {ops : Array Oper} {rest : List Oper} {a : Act} {w : World} {Q : Exit → Act → World → Prop}
    (s x d : Tmp) (p1 : TypeId) (p2 : String) (p3 : Array Edge) (A : Option Addr) (n c : Nat) (hs : a.tmps[s]?.getD undef = .slice A n c) (hx : a.tmps[x]?.getD undef = .slice none 0 0) (hnc : n ≤ c)
    (h : wpList Try.prog ops Q rest (a.put (some d) (.slice A n c)) w) :
    wpList Try.prog ops Q (⟨some d, .call { callee := .builtin .append, args := #[.tmp s, .tmp x], argTypes := #[52, 52] }, p1, p2, p3, none⟩ :: rest) a w := by
  refine wpList_plain rfl fun K hK => ?_
  cases A with
  | none =>
    go_simp
    exact hK _ _ h
  | some b =>
    go_simp
    exact hK _ _ h
theorem wpl_append_src {ops : Array Oper} {rest : List Oper} {a : Act} {w : World} {Q : Exit → Act → World → Prop}
    (s x d : Tmp) (p1 : TypeId) (p2 : String) (p3 : Array Edge) (base : Nat) (v : Value) (n : Nat) (xs : List Value) (hs : a.tmps[s]?.getD undef = v) (hown : w.ownsRow base 54 6 v n xs)
    (X : Option Addr) (m c : Nat) (news : List Value) (hx : a.tmps[x]?.getD undef = .slice X m c) (hX : X = none → m = 0 ∧ c = 0) (hl : news.length = m * 6) (hnews : ∀ ad, X = some ad → ∀ j u, news[j]? = some u → w.cell? (ad.add j) = some u)
    (h1 : news.all (·.oneCell') = true) (hb : n + m ≤ 1048576) (hbase : base ≤ w.heap.size)
    (h : ∀ v' w', w'.ownsRow base 54 6 v' (n + m) (xs ++ news) → Below base w w' → wpList Try.prog ops Q rest (a.put (some d) v') w') :
    wpList Try.prog ops Q (⟨some d, .call { callee := .builtin .append, args := #[.tmp s, .tmp x], argTypes := #[52, 52] }, p1, p2, p3, none⟩ :: rest) a w := by
  cases X with
  | none =>
    obtain ⟨rfl, rfl⟩ := hX rfl
    obtain ⟨A, cap, rfl, hcap, _⟩ := own_slice hown
    have hn : news = [] := List.eq_nil_of_length_eq_zero (by omega)
    subst hn
    refine wpl_append_none s x d p1 p2 p3 A n cap hs hx hcap (h _ _ ?_ (Below.refl _ _))
    rw [List.append_nil]; exact hown
  | some ad =>
    refine wpl_append' sl52 (by omega) (by omega) (.tmp s) (.tmp x) d p1 p2 p3 base v n xs ?_ hown ad m c news ?_ hl (hnews ad rfl) h1 (by omega) hbase fun v' w' a1 a2 a3 => h v' w' a1 (Below.grown (Below.refl _ _) a2 hbase (fun k hk => own_base hown k hk))
    · rw [← hs]; simp [Act.eval]
    · rw [← hx]; simp [Act.eval]
theorem rrow_of_own {S : Nat → Prop} {w : World} {base n : Nat} {v : Value} {kids : List T} {css : List (List Value)} (hl : css.length = kids.length) (h6 : ∀ c ∈ css, c.length = 6) (hn : kids.length = n) (hb : n ≤ 1048576)
    (hr : ∀ (i : Nat) k c, kids[i]? = some k → css[i]? = some c → RT S w k c) (h : w.ownsRow base 54 6 v n css.flatten) : ∃ A cap, v = .slice A n cap ∧ RRow (fun b => S b ∨ base ≤ b) w A kids cap := by
  obtain ⟨A, cap, rfl, hcap, hnul, hrow⟩ := own_slice h
  refine ⟨A, cap, rfl, by omega, by omega, hnul, fun i k hi => ?_⟩
  have hlt := (List.getElem?_eq_some_iff.1 hi).1
  obtain ⟨g, sp, rfl, hge, hb2⟩ := hrow (by omega)
  have hci := List.getElem?_eq_getElem (show i < css.length by omega)
  refine ⟨g, 0, _, rfl, .inr hge, (hr i k _ hi hci).mono (fun _ _ h => .inl h), fun j u hj => ?_⟩
  have := flatten_get css h6 i _ hci j u hj
  rw [Nat.zero_add, hb2.cell, List.getElem?_append_left (List.getElem?_eq_some_iff.1 this).1]
  exact this
theorem RT.all {S : Nat → Prop} {w : World} {t : T} {c : List Value} (h : RT S w t c) : RT (fun _ => True) w t c := h.mono fun _ _ _ => trivial
end Go.Proofs.Ytgkgedjmnbjalaa
set_option linter.unusedSimpArgs false
set_option linter.unusedVariables false
namespace Go.Proofs.Ytgkgedjmnbjalaa
open Go.RowKit Go.Sort
def Fre (w : World) (b : Nat) : Prop := ∃ cs, Blk w b cs 54
theorem Fre.same {w w' : World} {b : Nat} (h : Fre w b) (hk : w'.heap[b]? = w.heap[b]?) : Fre w' b := let ⟨cs, h⟩ := h; ⟨cs, hk.trans h⟩
abbrev RF (S : Nat → Prop) (w : World) (t : T) (c : List Value) : Prop := RT (fun b => S b ∧ Fre w b) w t c
theorem RF.keep {S : Nat → Prop} {w w' : World} {t : T} {c : List Value} (h : RF S w t c) (hk : ∀ b, b < w.heap.size → S b → w'.heap[b]? = w.heap[b]?) : RF S w' t c :=
  RT.keep (fun b off v hb hc => by
    have hlt := World.block_lt_of_cell? w _ hc
    refine ⟨⟨hb.1, hb.2.same (hk b hlt hb.1)⟩, ?_⟩
    rw [← hc]
    exact World.cell?_of_block (hk b hlt hb.1)) h
theorem RF.ext {S : Nat → Prop} {w w' : World} {t : T} {c : List Value} (h : RF S w t c) (hx : Ext w w') : RF S w' t c := h.keep fun b hb _ => hx.block b hb
theorem RF.upd {S : Nat → Prop} {w w' : World} {g : Nat} {t : T} {c : List Value} (h : RF S w t c) (hu : Upd w w' g) (hs : ¬ S g) : RF S w' t c := h.keep fun b _ hb => hu.block b (fun e => hs (e ▸ hb))
theorem RF.mono {S S' : Nat → Prop} {w : World} {t : T} {c : List Value} (h : RF S w t c) (hs : ∀ b, b < w.heap.size → S b → S' b) : RF S' w t c := RT.mono (fun b hb h => ⟨hs b hb h.1, h.2⟩) h
theorem OT.rf {S : Nat → Prop} {w : World} {t : T} {c : List Value} (h : OT S w t c) : RF S w t c := by
  induction h with
  | mk S w name key kind num text kids K kc css Si hl h6 hb hown hg hS hd hr ih =>
    obtain ⟨h1, _, h2, _⟩ := own_cap hown
    refine .mk name key kind num text kids K kc css hl h6 (fun hn => ?_) (fun i k c hk hc => (ih i k c hk hc).mono fun b _ hb => hS i b hb) ⟨h1, hb, h2⟩
    obtain ⟨g, cap, sp, hv, _, hbk, _⟩ := own_form hown (by cases kids with | nil => exact absurd rfl hn | cons x l => simp)
    simp only [Value.slice.injEq] at hv
    obtain ⟨rfl, _, _⟩ := hv
    refine ⟨g, 0, rfl, ⟨(hg g rfl).1, _, hbk⟩, fun j v hv => ?_⟩
    rw [Nat.zero_add, hbk.cell, List.getElem?_append_left (List.getElem?_eq_some_iff.1 hv).1]
    exact hv
end Go.Proofs.Ytgkgedjmnbjalaa
set_option linter.unusedSimpArgs false
set_option linter.unusedVariables false
namespace Go.Proofs.Ytgkgedjmnbjalaa
open Go.RowKit Go.Sort
def SH (S : Nat → Prop) (w : World) : Nat → Option Addr → Nat → Prop
  | 0, _, _ => False
  | N + 1, K, n => n ≤ 1048576 ∧ ∀ i, i < n → ∃ (b off : Nat) (nm ky : ByteArray) (kd num : Int) (tx : ByteArray) (K' : Option Addr) (n' kc' : Nat),
      K = some ⟨b, off, none⟩ ∧ S b ∧ Fre w b ∧ n' ≤ kc' ∧ (K' = none → kc' = 0) ∧ (∀ j v, [Value.string nm, .string ky, .int .i64 kd, .int .u64 num, .string tx, .slice K' n' kc'][j]? = some v → w.cell? ⟨b, off + i * 6 + j, none⟩ = some v) ∧ SH S w N K' n'
theorem RF.sh {S : Nat → Prop} {w : World} : ∀ {N : Nat} {t : T} {K : Option Addr} {kc : Nat}, t.deep ≤ N → RRow (fun b => S b ∧ Fre w b) w K t.kids kc → SH S w N K t.kids.length
  | 0, t, K, kc, hd, _ => by rw [t.deep_eq] at hd; omega
  | N + 1, t, K, kc, hd, h => ⟨h.len, fun i hi => by
    have hk := List.getElem?_eq_getElem hi
    generalize t.kids[i] = k at hk
    obtain ⟨b, off, c, h1, h2, h3, h4⟩ := h.kid i k hk
    obtain ⟨K', kc', rfl, hr⟩ := h3.row
    exact ⟨b, off, k.name, k.key, k.kind, k.num, k.text, K', k.kids.length, kc', h1, h2.1, h2.2, hr.cap, hr.nul, h4, RF.sh (by have := kid_deep hk; omega) hr⟩⟩
end Go.Proofs.Ytgkgedjmnbjalaa
set_option linter.unusedSimpArgs false
set_option linter.unusedVariables false
namespace Go.Proofs.Ytgkgedjmnbjalaa
open Go.RowKit Go.Sort
def Rb (B : Nat) (w w' : World) : Prop := (w'.os = w.os ∧ w'.tape = w.tape ∧ w'.output = w.output ∧ w.heap.size ≤ w'.heap.size) ∧ (∀ k, k < B → k < w.heap.size → w'.heap[k]? = w.heap[k]?) ∧ ∀ D c, Blk w D c 54 → c.length = 6 → ∃ c', Blk w' D c' 54 ∧ c'.length = 6
theorem rb_ext {B : Nat} {w w' : World} (h : Ext w w') : Rb B w w' := ⟨⟨h.os, h.tape, h.output, h.size⟩, fun k _ hk => h.block k hk, fun D c hD hc => ⟨c, hD.ext h, hc⟩⟩
theorem rb_trans {B : Nat} {a b c : World} (h : Rb B a b) (k : Rb B b c) : Rb B a c :=
  ⟨⟨k.1.1.trans h.1.1, k.1.2.1.trans h.1.2.1, k.1.2.2.1.trans h.1.2.2.1, Nat.le_trans h.1.2.2.2 k.1.2.2.2⟩, fun i hi hi2 => (k.2.1 i hi (Nat.lt_of_lt_of_le hi2 h.1.2.2.2)).trans (h.2.1 i hi hi2), fun D d hD hd => by
    obtain ⟨d', h1, h2⟩ := h.2.2 D d hD hd
    exact k.2.2 D d' h1 h2⟩
theorem rb_below {w w' : World} (h : Rb w.heap.size w w') : Ext w w' := ⟨h.1.1, h.1.2.1, h.1.2.2.1, h.1.2.2.2, fun k hk => h.2.1 k hk hk⟩
theorem rb_upd {B D : Nat} {w w' : World} (hB : B ≤ D) (hu : Upd w w' D) (h6 : ∃ c, Blk w' D c 54 ∧ c.length = 6) : Rb B w w' :=
  ⟨⟨hu.os, hu.tape, hu.output, Nat.le_of_eq hu.size.symm⟩, fun k hk _ => hu.block k (by omega), fun E c hE hc => by
    by_cases h : E = D
    · subst h; exact h6
    · exact ⟨c, hu.blk h hE, hc⟩⟩
def spBoxE (B : Nat) : SP := ⟨fun v w => ∃ D, v = .pointer (some ⟨D, 0, none⟩) ∧ B ≤ D ∧ ∃ c, Blk w D c 54 ∧ c.length = 6, fun _ _ _ h ⟨D, e, h1, c, hb, hc⟩ => ⟨D, e, h1, c, hb.ext h, hc⟩⟩
theorem rt_zero (S : Nat → Prop) (w : World) : RT S w zeroT [.string ⟨#[]⟩, .string ⟨#[]⟩, .int .i64 0, .int .u64 0, .string ⟨#[]⟩, .slice none 0 0] := (ot_zero S w).rt
end Go.Proofs.Ytgkgedjmnbjalaa
set_option linter.unusedSimpArgs false
set_option linter.unusedVariables false
namespace Go.Proofs.Ytgkgedjmnbjalaa
open Go.RowKit Go.Sort
def cWk (n x y z : T) (Kn Kx Ky Kz : Option Addr) (kn kx1 ky1 kz : Nat) (d : Int) (b2 o2 L ac : Nat) (iz : Bool) : List Value := [.string n.name, .string n.key, .int .i64 n.kind, .int .u64 n.num, .string n.text, .slice Kn n.kids.length kn, .int .i64 d, .slice (some ⟨b2, o2, none⟩) (L + 1) ac, .string x.name, .string x.key, .int .i64 x.kind, .int .u64 x.num, .string x.text, .slice Kx x.kids.length kx1, .string y.name, .string y.key, .int .i64 y.kind, .int .u64 y.num, .string y.text, .slice Ky y.kids.length ky1, .string z.name, .string z.key, .int .i64 z.kind, .int .u64 z.num, .string z.text, .slice Kz z.kids.length kz, .bool iz]
set_option maxRecDepth 100000 in
set_option maxHeartbeats 2000000 in
theorem work_has (m n x y z : T) (Km Kn Kx Ky Kz : Option Addr) (km kn kx1 ky1 kz : Nat) (d : Int) (b2 o2 L ac : Nat) (iz : Bool) (s : Step) (w : World) (g : Nat) (hL : L + 1 ≤ 1048576) (hg : Blk w g (cWk n x y z Kn Kx Ky Kz kn kx1 ky1 kz d b2 o2 L ac iz) 126)
    (hdk : ∀ (j : Nat) v, [Value.string s.1, .string s.2][j]? = some v → w.cell? ⟨b2, o2 + L * 2 + j, none⟩ = some v) :
    Calls Try.prog 143 #[.pointer (some ⟨g, 0, none⟩), .agg #[.string m.name, .string m.key, .int .i64 m.kind, .int .u64 m.num, .string m.text, .slice Km m.kids.length km]] w fun e w' => e = .returned (.bool (decide (stepT m = s))) ∧ Ext w w' := by
  obtain ⟨s1, s2⟩ := s
  have kG := Hd.mk (show Blk w g [.string n.name, .string n.key, .int .i64 n.kind, .int .u64 n.num, .string n.text, .slice Kn n.kids.length kn, .int .i64 d, .slice (some ⟨b2, o2, none⟩) (L + 1) ac, .string x.name, .string x.key, .int .i64 x.kind, .int .u64 x.num, .string x.text, .slice Kx x.kids.length kx1, .string y.name, .string y.key, .int .i64 y.kind, .int .u64 y.num, .string y.text, .slice Ky y.kids.length ky1, .string z.name, .string z.key, .int .i64 z.kind, .int .u64 z.num, .string z.text, .slice Kz z.kids.length kz, .bool iz] 126 from hg)
  have hdk := Hd.mk hdk
  clear hg
  generalize hr : decide (stepT m = (s1, s2)) = r
  replace hr := Hd.mk hr
  have sN := str_eq m.name s1
  have sK := str_eq m.key s2
  have hLi : (L : Int) < (L : Int) + 1 := by omega
  have hLl : L < L + 1 := by omega
  go_enter Try.func143, Try.ntmps143
  go_wp2_with fail
  have kx := Hd.mk (Ext.alloc w (.cells #[.string m.name, .string m.key, .int .i64 m.kind, .int .u64 m.num, .string m.text, .slice Km m.kids.length km] 54))
  have kM := Hd.mk (Blk.new w #[.string m.name, .string m.key, .int .i64 m.kind, .int .u64 m.num, .string m.text, .slice Km m.kids.length km] 54)
  replace kG := Hd.mk (kG.out.ext kx.out)
  have kcy := Hd.mk (fun (q : Nat) u hq => Ext.cell kx.out (hdk.out q u hq))
  generalize w.heap.size = pM at *
  generalize w.alloc _ = W at *
  clear hdk
  by_cases h1 : m.name = s1 ∧ m.key = s2
  · obtain ⟨rfl, rfl⟩ := h1
    obtain rfl : r = true := by rw [← hr.out]; simp [stepT]
    clear hr
    refine Flow.wp_region_flow_l (fun qq => match qq with
      | 5 => SP.eq (.pointer (some ⟨g, 0, none⟩))
      | 6 => SP.eq (.pointer (some ⟨g, 0, none⟩))
      | 7 => SP.eq (.pointer (some ⟨g, 6, none⟩))
      | 8 => SP.eq (.pointer (some ⟨g, 7, none⟩))
      | 9 => SP.eq (.slice (some ⟨b2, o2, none⟩) (L + 1) ac)
      | 10 => SP.eq (.pointer (some ⟨g, 0, none⟩))
      | 11 => SP.eq (.pointer (some ⟨g, 0, none⟩))
      | 12 => SP.eq (.pointer (some ⟨g, 6, none⟩))
      | 13 => SP.eq (.pointer (some ⟨g, 7, none⟩))
      | 14 => SP.eq (.slice (some ⟨b2, o2, none⟩) (L + 1) ac)
      | 15 => SP.eq (.int .i64 ((L + 1) : Nat))
      | 16 => SP.eq (.int .i64 (L : Nat))
      | 17 => SP.eq (.pointer (some ⟨b2, o2 + L * 2, none⟩))
      | 18 => SP.eq (.agg #[.string m.name, .string m.key])
      | 19 => SP.eq (.pointer (some ⟨pM, 0, none⟩))
      | 20 => SP.eq (.string m.name)
      | 21 => SP.eq (.pointer (some ⟨pM, 1, none⟩))
      | 22 => SP.eq (.string m.key)
      | 23 => SP.eq (.agg #[.string m.name, .string m.key])
      | 24 => SP.eq (.bool true)
      | 4 => SP.eq (.bool true)
      | _ => SP.any) 21 (by kernel_rfl) 25 rfl (by kernel_rfl) ?_ ?_
    · skip
      refine ⟨?_, ?_, ?_, ?_, ?_, ?_, ?_, ?_, ?_, ?_, ?_, ?_, ?_, ?_, ?_, ?_, ?_, ?_, ?_, ?_, ?_, trivial⟩
      · intro act W2 hk
        refine Flow.does_intro rfl (fun Kq hK => ?_)
        have e0 : act.tmps[0]?.getD undef = .pointer (some ⟨g, 0, none⟩) := hk.o 0 (by kernel_rfl)
        clear hk
        go_simp
        exact hK _ _ (Ext.refl _) (fun d hd => by cases hd; rfl)
      · intro act W2 hk
        refine Flow.does_intro rfl (fun Kq hK => ?_)
        have e5 : act.tmps[5]?.getD undef = .pointer (some ⟨g, 0, none⟩) := hk.v 5 (by kernel_rfl)
        clear hk
        go_simp
        exact hK _ _ (Ext.refl _) (fun d hd => by cases hd; rfl)
      · intro act W2 hk
        refine Flow.does_intro rfl (fun Kq hK => ?_)
        have e6 : act.tmps[6]?.getD undef = .pointer (some ⟨g, 0, none⟩) := hk.v 6 (by kernel_rfl)
        clear hk
        go_simp
        exact hK _ _ (Ext.refl _) (fun d hd => by cases hd; rfl)
      · intro act W2 hk
        refine Flow.does_intro rfl (fun Kq hK => ?_)
        have e7 : act.tmps[7]?.getD undef = .pointer (some ⟨g, 6, none⟩) := hk.v 7 (by kernel_rfl)
        clear hk
        go_simp
        exact hK _ _ (Ext.refl _) (fun d hd => by cases hd; rfl)
      · intro act W2 hk
        refine Flow.does_intro rfl (fun Kq hK => ?_)
        have e8 : act.tmps[8]?.getD undef = .pointer (some ⟨g, 7, none⟩) := hk.v 8 (by kernel_rfl)
        have g := ((kG.out).ext ((Ext.drew W).trans hk.ext)).cell
        clear hk
        go_simp
        exact hK _ _ (Ext.refl _) (fun d hd => by cases hd; rfl)
      · intro act W2 hk
        refine Flow.does_intro rfl (fun Kq hK => ?_)
        have e0 : act.tmps[0]?.getD undef = .pointer (some ⟨g, 0, none⟩) := hk.o 0 (by kernel_rfl)
        clear hk
        go_simp
        exact hK _ _ (Ext.refl _) (fun d hd => by cases hd; rfl)
      · intro act W2 hk
        refine Flow.does_intro rfl (fun Kq hK => ?_)
        have e10 : act.tmps[10]?.getD undef = .pointer (some ⟨g, 0, none⟩) := hk.v 10 (by kernel_rfl)
        clear hk
        go_simp
        exact hK _ _ (Ext.refl _) (fun d hd => by cases hd; rfl)
      · intro act W2 hk
        refine Flow.does_intro rfl (fun Kq hK => ?_)
        have e11 : act.tmps[11]?.getD undef = .pointer (some ⟨g, 0, none⟩) := hk.v 11 (by kernel_rfl)
        clear hk
        go_simp
        exact hK _ _ (Ext.refl _) (fun d hd => by cases hd; rfl)
      · intro act W2 hk
        refine Flow.does_intro rfl (fun Kq hK => ?_)
        have e12 : act.tmps[12]?.getD undef = .pointer (some ⟨g, 6, none⟩) := hk.v 12 (by kernel_rfl)
        clear hk
        go_simp
        exact hK _ _ (Ext.refl _) (fun d hd => by cases hd; rfl)
      · intro act W2 hk
        refine Flow.does_intro rfl (fun Kq hK => ?_)
        have e13 : act.tmps[13]?.getD undef = .pointer (some ⟨g, 7, none⟩) := hk.v 13 (by kernel_rfl)
        have g := ((kG.out).ext ((Ext.drew W).trans hk.ext)).cell
        clear hk
        go_simp
        exact hK _ _ (Ext.refl _) (fun d hd => by cases hd; rfl)
      · intro act W2 hk
        refine Flow.does_intro rfl (fun Kq hK => ?_)
        have e14 : act.tmps[14]?.getD undef = .slice (some ⟨b2, o2, none⟩) (L + 1) ac := hk.v 14 (by kernel_rfl)
        clear hk
        go_simp
        exact hK _ _ (Ext.refl _) (fun d hd => by cases hd; rfl)
      · intro act W2 hk
        refine Flow.does_intro rfl (fun Kq hK => ?_)
        have e15 : act.tmps[15]?.getD undef = .int .i64 ((L + 1) : Nat) := hk.v 15 (by kernel_rfl)
        clear hk
        go_simp
        exact hK _ _ (Ext.refl _) (fun d hd => by cases hd; first | rfl | (simp [SP.eq]; rw [IntKind.wrap_i64]; omega))
      · intro act W2 hk
        refine Flow.does_intro rfl (fun Kq hK => ?_)
        have e9 : act.tmps[9]?.getD undef = .slice (some ⟨b2, o2, none⟩) (L + 1) ac := hk.v 9 (by kernel_rfl)
        have e16 : act.tmps[16]?.getD undef = .int .i64 (L : Nat) := hk.v 16 (by kernel_rfl)
        clear hk
        go_simp
        exact hK _ _ (Ext.refl _) (fun d hd => by cases hd; rfl)
      · intro act W2 hk
        refine Flow.does_intro rfl (fun Kq hK => ?_)
        have e17 : act.tmps[17]?.getD undef = .pointer (some ⟨b2, o2 + L * 2, none⟩) := hk.v 17 (by kernel_rfl)
        have g0 := Ext.cell ((Ext.drew W).trans hk.ext) ((kcy.out) 0 _ rfl)
        rw [Nat.add_zero] at g0
        have g1 := Ext.cell ((Ext.drew W).trans hk.ext) ((kcy.out) 1 _ rfl)
        clear hk
        go_simp
        exact hK _ _ (Ext.refl _) (fun d hd => by cases hd; rfl)
      · intro act W2 hk
        refine Flow.does_intro rfl (fun Kq hK => ?_)
        have e3 : act.tmps[3]?.getD undef = .pointer (some ⟨pM, 0, none⟩) := hk.o 3 (by kernel_rfl)
        clear hk
        go_simp
        exact hK _ _ (Ext.refl _) (fun d hd => by cases hd; rfl)
      · intro act W2 hk
        refine Flow.does_intro rfl (fun Kq hK => ?_)
        have e19 : act.tmps[19]?.getD undef = .pointer (some ⟨pM, 0, none⟩) := hk.v 19 (by kernel_rfl)
        have g := ((kM.out).ext ((Ext.drew W).trans hk.ext)).cell
        clear hk
        go_simp
        exact hK _ _ (Ext.refl _) (fun d hd => by cases hd; rfl)
      · intro act W2 hk
        refine Flow.does_intro rfl (fun Kq hK => ?_)
        have e3 : act.tmps[3]?.getD undef = .pointer (some ⟨pM, 0, none⟩) := hk.o 3 (by kernel_rfl)
        clear hk
        go_simp
        exact hK _ _ (Ext.refl _) (fun d hd => by cases hd; rfl)
      · intro act W2 hk
        refine Flow.does_intro rfl (fun Kq hK => ?_)
        have e21 : act.tmps[21]?.getD undef = .pointer (some ⟨pM, 1, none⟩) := hk.v 21 (by kernel_rfl)
        have g := ((kM.out).ext ((Ext.drew W).trans hk.ext)).cell
        clear hk
        go_simp
        exact hK _ _ (Ext.refl _) (fun d hd => by cases hd; rfl)
      · intro act W2 hk
        refine Flow.does_intro rfl (fun Kq hK => ?_)
        have e20 : act.tmps[20]?.getD undef = .string m.name := hk.v 20 (by kernel_rfl)
        have e22 : act.tmps[22]?.getD undef = .string m.key := hk.v 22 (by kernel_rfl)
        clear hk
        go_simp
        exact hK _ _ (Ext.refl _) (fun d hd => by cases hd; rfl)
      · intro act W2 hk
        refine Flow.does_intro rfl (fun Kq hK => ?_)
        have e18 : act.tmps[18]?.getD undef = .agg #[.string m.name, .string m.key] := hk.v 18 (by kernel_rfl)
        have e23 : act.tmps[23]?.getD undef = .agg #[.string m.name, .string m.key] := hk.v 23 (by kernel_rfl)
        clear hk
        go_simp
        exact hK _ _ (Ext.refl _) (fun d hd => by cases hd; rfl)
      · intro act W2 hk
        refine Flow.does_intro rfl (fun Kq hK => ?_)
        have e24 : act.tmps[24]?.getD undef = .bool true := hk.v 24 (by kernel_rfl)
        clear hk
        go_simp
        exact hK _ _ (Ext.refl _) (fun d hd => by cases hd; rfl)
    · intro act W2 he
      have hxW2 := Hd.mk ((Ext.drew W).trans he.ext)
      obtain ⟨us, hA, hF⟩ := he.out [5, 6, 7, 8, 9, 10, 11, 12, 13, 14, 15, 16, 17, 18, 19, 20, 21, 22, 23, 24, 4] (by kernel_rfl)
      simp only [Flow.fillL, List.contains_cons, List.contains_nil, Nat.reduceBEq, Bool.or_false, Bool.false_or, Bool.or_true, Bool.true_or, ↓reduceIte, Nat.reduceAdd, Bool.false_eq_true] at hA
      subst hA
      have f4 : us 4 = .bool true := hF 4 (by simp)
      clear hF he
      rw [f4]
      clear f4
      refine (show wpList _ _ _ [] _ _ from ?_)
      go_wp2_with fail
      go_ret
      exact ⟨rfl, kx.out.trans hxW2.out⟩
  · obtain rfl : r = false := by rw [← hr.out]; simp only [stepT, Prod.mk.injEq, decide_eq_false_iff_not]; exact h1
    have hv := not2 (show ¬ (s1 = m.name ∧ s2 = m.key) from fun h => h1 ⟨h.1.symm, h.2.symm⟩)
    have hv := Hd.mk hv
    clear hr sN sK h1
    refine Flow.wp_region_flow_l (fun qq => match qq with
      | 5 => SP.eq (.pointer (some ⟨g, 0, none⟩))
      | 6 => SP.eq (.pointer (some ⟨g, 0, none⟩))
      | 7 => SP.eq (.pointer (some ⟨g, 6, none⟩))
      | 8 => SP.eq (.pointer (some ⟨g, 7, none⟩))
      | 9 => SP.eq (.slice (some ⟨b2, o2, none⟩) (L + 1) ac)
      | 10 => SP.eq (.pointer (some ⟨g, 0, none⟩))
      | 11 => SP.eq (.pointer (some ⟨g, 0, none⟩))
      | 12 => SP.eq (.pointer (some ⟨g, 6, none⟩))
      | 13 => SP.eq (.pointer (some ⟨g, 7, none⟩))
      | 14 => SP.eq (.slice (some ⟨b2, o2, none⟩) (L + 1) ac)
      | 15 => SP.eq (.int .i64 ((L + 1) : Nat))
      | 16 => SP.eq (.int .i64 (L : Nat))
      | 17 => SP.eq (.pointer (some ⟨b2, o2 + L * 2, none⟩))
      | 18 => SP.eq (.agg #[.string s1, .string s2])
      | 19 => SP.eq (.pointer (some ⟨pM, 0, none⟩))
      | 20 => SP.eq (.string m.name)
      | 21 => SP.eq (.pointer (some ⟨pM, 1, none⟩))
      | 22 => SP.eq (.string m.key)
      | 23 => SP.eq (.agg #[.string m.name, .string m.key])
      | 24 => SP.eq (.bool false)
      | 4 => SP.eq (.bool false)
      | _ => SP.any) 21 (by kernel_rfl) 25 rfl (by kernel_rfl) ?_ ?_
    · skip
      refine ⟨?_, ?_, ?_, ?_, ?_, ?_, ?_, ?_, ?_, ?_, ?_, ?_, ?_, ?_, ?_, ?_, ?_, ?_, ?_, ?_, ?_, trivial⟩
      · intro act W2 hk
        refine Flow.does_intro rfl (fun Kq hK => ?_)
        have e0 : act.tmps[0]?.getD undef = .pointer (some ⟨g, 0, none⟩) := hk.o 0 (by kernel_rfl)
        clear hk
        go_simp
        exact hK _ _ (Ext.refl _) (fun d hd => by cases hd; rfl)
      · intro act W2 hk
        refine Flow.does_intro rfl (fun Kq hK => ?_)
        have e5 : act.tmps[5]?.getD undef = .pointer (some ⟨g, 0, none⟩) := hk.v 5 (by kernel_rfl)
        clear hk
        go_simp
        exact hK _ _ (Ext.refl _) (fun d hd => by cases hd; rfl)
      · intro act W2 hk
        refine Flow.does_intro rfl (fun Kq hK => ?_)
        have e6 : act.tmps[6]?.getD undef = .pointer (some ⟨g, 0, none⟩) := hk.v 6 (by kernel_rfl)
        clear hk
        go_simp
        exact hK _ _ (Ext.refl _) (fun d hd => by cases hd; rfl)
      · intro act W2 hk
        refine Flow.does_intro rfl (fun Kq hK => ?_)
        have e7 : act.tmps[7]?.getD undef = .pointer (some ⟨g, 6, none⟩) := hk.v 7 (by kernel_rfl)
        clear hk
        go_simp
        exact hK _ _ (Ext.refl _) (fun d hd => by cases hd; rfl)
      · intro act W2 hk
        refine Flow.does_intro rfl (fun Kq hK => ?_)
        have e8 : act.tmps[8]?.getD undef = .pointer (some ⟨g, 7, none⟩) := hk.v 8 (by kernel_rfl)
        have g := ((kG.out).ext ((Ext.drew W).trans hk.ext)).cell
        clear hk
        go_simp
        exact hK _ _ (Ext.refl _) (fun d hd => by cases hd; rfl)
      · intro act W2 hk
        refine Flow.does_intro rfl (fun Kq hK => ?_)
        have e0 : act.tmps[0]?.getD undef = .pointer (some ⟨g, 0, none⟩) := hk.o 0 (by kernel_rfl)
        clear hk
        go_simp
        exact hK _ _ (Ext.refl _) (fun d hd => by cases hd; rfl)
      · intro act W2 hk
        refine Flow.does_intro rfl (fun Kq hK => ?_)
        have e10 : act.tmps[10]?.getD undef = .pointer (some ⟨g, 0, none⟩) := hk.v 10 (by kernel_rfl)
        clear hk
        go_simp
        exact hK _ _ (Ext.refl _) (fun d hd => by cases hd; rfl)
      · intro act W2 hk
        refine Flow.does_intro rfl (fun Kq hK => ?_)
        have e11 : act.tmps[11]?.getD undef = .pointer (some ⟨g, 0, none⟩) := hk.v 11 (by kernel_rfl)
        clear hk
        go_simp
        exact hK _ _ (Ext.refl _) (fun d hd => by cases hd; rfl)
      · intro act W2 hk
        refine Flow.does_intro rfl (fun Kq hK => ?_)
        have e12 : act.tmps[12]?.getD undef = .pointer (some ⟨g, 6, none⟩) := hk.v 12 (by kernel_rfl)
        clear hk
        go_simp
        exact hK _ _ (Ext.refl _) (fun d hd => by cases hd; rfl)
      · intro act W2 hk
        refine Flow.does_intro rfl (fun Kq hK => ?_)
        have e13 : act.tmps[13]?.getD undef = .pointer (some ⟨g, 7, none⟩) := hk.v 13 (by kernel_rfl)
        have g := ((kG.out).ext ((Ext.drew W).trans hk.ext)).cell
        clear hk
        go_simp
        exact hK _ _ (Ext.refl _) (fun d hd => by cases hd; rfl)
      · intro act W2 hk
        refine Flow.does_intro rfl (fun Kq hK => ?_)
        have e14 : act.tmps[14]?.getD undef = .slice (some ⟨b2, o2, none⟩) (L + 1) ac := hk.v 14 (by kernel_rfl)
        clear hk
        go_simp
        exact hK _ _ (Ext.refl _) (fun d hd => by cases hd; rfl)
      · intro act W2 hk
        refine Flow.does_intro rfl (fun Kq hK => ?_)
        have e15 : act.tmps[15]?.getD undef = .int .i64 ((L + 1) : Nat) := hk.v 15 (by kernel_rfl)
        clear hk
        go_simp
        exact hK _ _ (Ext.refl _) (fun d hd => by cases hd; first | rfl | (simp [SP.eq]; rw [IntKind.wrap_i64]; omega))
      · intro act W2 hk
        refine Flow.does_intro rfl (fun Kq hK => ?_)
        have e9 : act.tmps[9]?.getD undef = .slice (some ⟨b2, o2, none⟩) (L + 1) ac := hk.v 9 (by kernel_rfl)
        have e16 : act.tmps[16]?.getD undef = .int .i64 (L : Nat) := hk.v 16 (by kernel_rfl)
        clear hk
        go_simp
        exact hK _ _ (Ext.refl _) (fun d hd => by cases hd; rfl)
      · intro act W2 hk
        refine Flow.does_intro rfl (fun Kq hK => ?_)
        have e17 : act.tmps[17]?.getD undef = .pointer (some ⟨b2, o2 + L * 2, none⟩) := hk.v 17 (by kernel_rfl)
        have g0 := Ext.cell ((Ext.drew W).trans hk.ext) ((kcy.out) 0 _ rfl)
        rw [Nat.add_zero] at g0
        have g1 := Ext.cell ((Ext.drew W).trans hk.ext) ((kcy.out) 1 _ rfl)
        clear hk
        go_simp
        exact hK _ _ (Ext.refl _) (fun d hd => by cases hd; rfl)
      · intro act W2 hk
        refine Flow.does_intro rfl (fun Kq hK => ?_)
        have e3 : act.tmps[3]?.getD undef = .pointer (some ⟨pM, 0, none⟩) := hk.o 3 (by kernel_rfl)
        clear hk
        go_simp
        exact hK _ _ (Ext.refl _) (fun d hd => by cases hd; rfl)
      · intro act W2 hk
        refine Flow.does_intro rfl (fun Kq hK => ?_)
        have e19 : act.tmps[19]?.getD undef = .pointer (some ⟨pM, 0, none⟩) := hk.v 19 (by kernel_rfl)
        have g := ((kM.out).ext ((Ext.drew W).trans hk.ext)).cell
        clear hk
        go_simp
        exact hK _ _ (Ext.refl _) (fun d hd => by cases hd; rfl)
      · intro act W2 hk
        refine Flow.does_intro rfl (fun Kq hK => ?_)
        have e3 : act.tmps[3]?.getD undef = .pointer (some ⟨pM, 0, none⟩) := hk.o 3 (by kernel_rfl)
        clear hk
        go_simp
        exact hK _ _ (Ext.refl _) (fun d hd => by cases hd; rfl)
      · intro act W2 hk
        refine Flow.does_intro rfl (fun Kq hK => ?_)
        have e21 : act.tmps[21]?.getD undef = .pointer (some ⟨pM, 1, none⟩) := hk.v 21 (by kernel_rfl)
        have g := ((kM.out).ext ((Ext.drew W).trans hk.ext)).cell
        clear hk
        go_simp
        exact hK _ _ (Ext.refl _) (fun d hd => by cases hd; rfl)
      · intro act W2 hk
        refine Flow.does_intro rfl (fun Kq hK => ?_)
        have e20 : act.tmps[20]?.getD undef = .string m.name := hk.v 20 (by kernel_rfl)
        have e22 : act.tmps[22]?.getD undef = .string m.key := hk.v 22 (by kernel_rfl)
        clear hk
        go_simp
        exact hK _ _ (Ext.refl _) (fun d hd => by cases hd; rfl)
      · intro act W2 hk
        refine Flow.does_intro rfl (fun Kq hK => ?_)
        have e18 : act.tmps[18]?.getD undef = .agg #[.string s1, .string s2] := hk.v 18 (by kernel_rfl)
        have e23 : act.tmps[23]?.getD undef = .agg #[.string m.name, .string m.key] := hk.v 23 (by kernel_rfl)
        clear hk
        skip
        rcases hv.out with q | ⟨q1, q⟩
        all_goals go_simp
        all_goals exact hK _ _ (Ext.refl _) (fun d hd => by cases hd; rfl)
      · intro act W2 hk
        refine Flow.does_intro rfl (fun Kq hK => ?_)
        have e24 : act.tmps[24]?.getD undef = .bool false := hk.v 24 (by kernel_rfl)
        clear hk
        go_simp
        exact hK _ _ (Ext.refl _) (fun d hd => by cases hd; rfl)
    · intro act W2 he
      have hxW2 := Hd.mk ((Ext.drew W).trans he.ext)
      obtain ⟨us, hA, hF⟩ := he.out [5, 6, 7, 8, 9, 10, 11, 12, 13, 14, 15, 16, 17, 18, 19, 20, 21, 22, 23, 24, 4] (by kernel_rfl)
      simp only [Flow.fillL, List.contains_cons, List.contains_nil, Nat.reduceBEq, Bool.or_false, Bool.false_or, Bool.or_true, Bool.true_or, ↓reduceIte, Nat.reduceAdd, Bool.false_eq_true] at hA
      subst hA
      have f4 : us 4 = .bool false := hF 4 (by simp)
      clear hF he
      rw [f4]
      clear f4
      refine (show wpList _ _ _ [] _ _ from ?_)
      go_wp2_with fail
      go_ret
      exact ⟨rfl, kx.out.trans hxW2.out⟩
set_option maxRecDepth 100000 in
set_option maxHeartbeats 2000000 in
theorem work_wrong (n x y z : T) (Kn Kx Ky Kz : Option Addr) (kn kx1 ky1 kz : Nat) (d : Int) (b2 o2 L ac : Nat) (iz : Bool) (S : Nat → Prop) (w : World) (g : Nat) (hg : Blk w g (cWk n x y z Kn Kx Ky Kz kn kx1 ky1 kz d b2 o2 L ac iz) 126)
    (hy : RT S w y [.string y.name, .string y.key, .int .i64 y.kind, .int .u64 y.num, .string y.text, .slice Ky y.kids.length ky1]) (hz : RT S w z [.string z.name, .string z.key, .int .i64 z.kind, .int .u64 z.num, .string z.text, .slice Kz z.kids.length kz]) :
    Calls Try.prog 144 #[.pointer (some ⟨g, 0, none⟩)] w fun e w' => e = .returned (.int .i64 (if iz = false then 30 else if sameT z y = false then 23 else 0)) ∧ Ext w w' := by
  have kG := Hd.mk (show Blk w g [.string n.name, .string n.key, .int .i64 n.kind, .int .u64 n.num, .string n.text, .slice Kn n.kids.length kn, .int .i64 d, .slice (some ⟨b2, o2, none⟩) (L + 1) ac, .string x.name, .string x.key, .int .i64 x.kind, .int .u64 x.num, .string x.text, .slice Kx x.kids.length kx1, .string y.name, .string y.key, .int .i64 y.kind, .int .u64 y.num, .string y.text, .slice Ky y.kids.length ky1, .string z.name, .string z.key, .int .i64 z.kind, .int .u64 z.num, .string z.text, .slice Kz z.kids.length kz, .bool iz] 126 from hg)
  have hsm := Hd.mk (fun W (h : Ext w W) => tree_same _ z y S W _ _ (Nat.le_refl _) (hz.ext h) (hy.ext h))
  clear hg hy hz
  have gG := kG.out.cell
  go_enter Try.func144, Try.ntmps144
  cases iz with
  | false =>
    go_wp2_with fail
    go_ret
    exact ⟨rfl, Ext.refl _⟩
  | true =>
    go_wp2_with fail
    clear gG
    refine Flow.wp_region_flow_l (fun qq => match qq with
      | 10 => SP.eq (.pointer (some ⟨g, 0, none⟩))
      | 11 => SP.eq (.pointer (some ⟨g, 0, none⟩))
      | 12 => SP.eq (.pointer (some ⟨g, 20, none⟩))
      | 13 => SP.eq (.agg #[.string z.name, .string z.key, .int .i64 z.kind, .int .u64 z.num, .string z.text, .slice Kz z.kids.length kz])
      | 14 => SP.eq (.pointer (some ⟨g, 0, none⟩))
      | 15 => SP.eq (.pointer (some ⟨g, 0, none⟩))
      | 16 => SP.eq (.pointer (some ⟨g, 6, none⟩))
      | 17 => SP.eq (.pointer (some ⟨g, 14, none⟩))
      | 18 => SP.eq (.agg #[.string y.name, .string y.key, .int .i64 y.kind, .int .u64 y.num, .string y.text, .slice Ky y.kids.length ky1])
      | 19 => SP.eq (.bool (sameT z y))
      | 20 => SP.eq (.bool (!sameT z y))
      | 9 => SP.eq (.bool (!sameT z y))
      | _ => SP.any) 12 (by kernel_rfl) 21 rfl (by kernel_rfl) ?_ ?_
    · skip
      refine ⟨?_, ?_, ?_, ?_, ?_, ?_, ?_, ?_, ?_, ?_, ?_, ?_, trivial⟩
      · intro act W2 hk
        refine Flow.does_intro rfl (fun Kq hK => ?_)
        have e0 : act.tmps[0]?.getD undef = .pointer (some ⟨g, 0, none⟩) := hk.o 0 (by kernel_rfl)
        clear hk
        go_simp
        exact hK _ _ (Ext.refl _) (fun d hd => by cases hd; rfl)
      · intro act W2 hk
        refine Flow.does_intro rfl (fun Kq hK => ?_)
        have e10 : act.tmps[10]?.getD undef = .pointer (some ⟨g, 0, none⟩) := hk.v 10 (by kernel_rfl)
        clear hk
        go_simp
        exact hK _ _ (Ext.refl _) (fun d hd => by cases hd; rfl)
      · intro act W2 hk
        refine Flow.does_intro rfl (fun Kq hK => ?_)
        have e11 : act.tmps[11]?.getD undef = .pointer (some ⟨g, 0, none⟩) := hk.v 11 (by kernel_rfl)
        clear hk
        go_simp
        exact hK _ _ (Ext.refl _) (fun d hd => by cases hd; rfl)
      · intro act W2 hk
        refine Flow.does_intro rfl (fun Kq hK => ?_)
        have e12 : act.tmps[12]?.getD undef = .pointer (some ⟨g, 20, none⟩) := hk.v 12 (by kernel_rfl)
        have g := ((kG.out).ext ((Ext.drew w).trans hk.ext)).cell
        clear hk
        go_simp
        exact hK _ _ (Ext.refl _) (fun d hd => by cases hd; rfl)
      · intro act W2 hk
        refine Flow.does_intro rfl (fun Kq hK => ?_)
        have e0 : act.tmps[0]?.getD undef = .pointer (some ⟨g, 0, none⟩) := hk.o 0 (by kernel_rfl)
        clear hk
        go_simp
        exact hK _ _ (Ext.refl _) (fun d hd => by cases hd; rfl)
      · intro act W2 hk
        refine Flow.does_intro rfl (fun Kq hK => ?_)
        have e14 : act.tmps[14]?.getD undef = .pointer (some ⟨g, 0, none⟩) := hk.v 14 (by kernel_rfl)
        clear hk
        go_simp
        exact hK _ _ (Ext.refl _) (fun d hd => by cases hd; rfl)
      · intro act W2 hk
        refine Flow.does_intro rfl (fun Kq hK => ?_)
        have e15 : act.tmps[15]?.getD undef = .pointer (some ⟨g, 0, none⟩) := hk.v 15 (by kernel_rfl)
        clear hk
        go_simp
        exact hK _ _ (Ext.refl _) (fun d hd => by cases hd; rfl)
      · intro act W2 hk
        refine Flow.does_intro rfl (fun Kq hK => ?_)
        have e16 : act.tmps[16]?.getD undef = .pointer (some ⟨g, 6, none⟩) := hk.v 16 (by kernel_rfl)
        clear hk
        go_simp
        exact hK _ _ (Ext.refl _) (fun d hd => by cases hd; rfl)
      · intro act W2 hk
        refine Flow.does_intro rfl (fun Kq hK => ?_)
        have e17 : act.tmps[17]?.getD undef = .pointer (some ⟨g, 14, none⟩) := hk.v 17 (by kernel_rfl)
        have g := ((kG.out).ext ((Ext.drew w).trans hk.ext)).cell
        clear hk
        go_simp
        exact hK _ _ (Ext.refl _) (fun d hd => by cases hd; rfl)
      · intro act W2 hk
        refine Flow.does_intro rfl (fun Kq hK => ?_)
        have e13 : act.tmps[13]?.getD undef = .agg #[.string z.name, .string z.key, .int .i64 z.kind, .int .u64 z.num, .string z.text, .slice Kz z.kids.length kz] := hk.v 13 (by kernel_rfl)
        have e18 : act.tmps[18]?.getD undef = .agg #[.string y.name, .string y.key, .int .i64 y.kind, .int .u64 y.num, .string y.text, .slice Ky y.kids.length ky1] := hk.v 18 (by kernel_rfl)
        have hx0 := Hd.mk ((Ext.drew w).trans hk.ext)
        clear hk
        go_simp
        refine Calls.mono (hsm.out _ hx0.out) ?_
        rintro e W3 ⟨rfl, hx⟩
        exact hK _ _ hx (fun d hd => by cases hd; rfl)
      · intro act W2 hk
        refine Flow.does_intro rfl (fun Kq hK => ?_)
        have e19 : act.tmps[19]?.getD undef = .bool (sameT z y) := hk.v 19 (by kernel_rfl)
        clear hk
        go_simp
        exact hK _ _ (Ext.refl _) (fun d hd => by cases hd; rfl)
      · intro act W2 hk
        refine Flow.does_intro rfl (fun Kq hK => ?_)
        have e20 : act.tmps[20]?.getD undef = .bool (!sameT z y) := hk.v 20 (by kernel_rfl)
        clear hk
        go_simp
        exact hK _ _ (Ext.refl _) (fun d hd => by cases hd; rfl)
    · intro act W2 he
      have hxW2 := Hd.mk ((Ext.drew w).trans he.ext)
      obtain ⟨us, hA, hF⟩ := he.out [10, 11, 12, 13, 14, 15, 16, 17, 18, 19, 20, 9] (by kernel_rfl)
      simp only [Flow.fillL, List.contains_cons, List.contains_nil, Nat.reduceBEq, Bool.or_false, Bool.false_or, Bool.or_true, Bool.true_or, ↓reduceIte, Nat.reduceAdd, Bool.false_eq_true] at hA
      subst hA
      have f9 : us 9 = .bool (!sameT z y) := hF 9 (by simp)
      clear hF he
      rw [f9]
      clear f9
      refine (show wpList _ _ _ [] _ _ from ?_)
      cases hb : sameT z y with
      | false =>
        go_wp2_with fail
        go_ret
        exact ⟨rfl, hxW2.out⟩
      | true =>
        go_wp2_with fail
        go_ret
        exact ⟨rfl, hxW2.out⟩
end Go.Proofs.Ytgkgedjmnbjalaa
set_option linter.unusedSimpArgs false
set_option linter.unusedVariables false
namespace Go.Proofs.Ytgkgedjmnbjalaa
open Go.RowKit Go.Sort
def spOC (m : T) (rc : Int) (B : Nat) : SP := ⟨fun v w => ∃ (c : List Value) (lo hi : Nat), v = .tuple #[.agg c.toArray, .int .i64 rc] ∧ OT (fun b => lo ≤ b ∧ b < hi) w m c ∧ B ≤ lo ∧ hi ≤ w.heap.size, fun _ _ _ h ⟨c, lo, hi, e, hr, h1, h2⟩ => ⟨c, lo, hi, e, hr.ext (fun b hb => by omega) h, h1, Nat.le_trans h2 h.size⟩⟩
set_option maxRecDepth 100000 in
set_option maxHeartbeats 2000000 in
theorem work_create (n x y z : T) (Kn Kx Ky Kz : Option Addr) (kn kx1 ky1 kz : Nat) (d : Int) (b2 o2 L ac : Nat) (iz : Bool) (init : List Step) (s : Step) (S S' : Nat → Prop) (w : World) (g : Nat) (hL : init.length = L) (hg : Blk w g (cWk n x y z Kn Kx Ky Kz kn kx1 ky1 kz d b2 o2 L ac iz) 126)
    (hn : RT S w n [.string n.name, .string n.key, .int .i64 n.kind, .int .u64 n.num, .string n.text, .slice Kn n.kids.length kn]) (hx : RT S w x [.string x.name, .string x.key, .int .i64 x.kind, .int .u64 x.num, .string x.text, .slice Kx x.kids.length kx1]) (hy : RT S w y [.string y.name, .string y.key, .int .i64 y.kind, .int .u64 y.num, .string y.text, .slice Ky y.kids.length ky1]) (hz : RT S w z [.string z.name, .string z.key, .int .i64 z.kind, .int .u64 z.num, .string z.text, .slice Kz z.kids.length kz]) (hw : WRow S' w (some ⟨b2, o2, none⟩) (init ++ [s]) ac) (hri : rightT n = true) (hsz : n.size + x.size ≤ 1048576) :
    Calls Try.prog 109 #[.pointer (some ⟨g, 0, none⟩)] w (Ret (ChgPost (if stepT x ≠ s then (zeroT, (1 : Int)) else if iz = true then (zeroT, 24) else setR n (init ++ [s]) x) w)) := by
  generalize hr0 : (if stepT x ≠ s then (zeroT, (1 : Int)) else if iz = true then (zeroT, 24) else setR n (init ++ [s]) x) = r
  replace hr0 := Hd.mk hr0
  have hwl := hw.len
  have hdk0 : ∀ (j : Nat) v, [Value.string s.1, .string s.2][j]? = some v → w.cell? ⟨b2, o2 + L * 2 + j, none⟩ = some v := by
    obtain ⟨b', o', he, _, hd⟩ := WRow.at hw (j := init.length) (x := s) (by simp)
    simp only [Option.some.injEq, Addr.mk.injEq, and_true] at he
    obtain ⟨rfl, rfl⟩ := he
    rw [hL] at hd; exact hd
  have hlenH := Hd.mk (show (init ++ [s]).length = L + 1 by simp [hL])
  rw [hlenH.out] at hwl
  have kG := Hd.mk hg
  have kr := Hd.mk hn
  have krx := Hd.mk hx
  have kry := Hd.mk hy
  have krz := Hd.mk hz
  have kw := Hd.mk hw
  have hdk := Hd.mk hdk0
  have hriH := Hd.mk hri
  have hszH := Hd.mk hsz
  clear hg hn hx hy hz hw hri hsz hdk0 hL
  go_enter Try.func109, Try.ntmps109
  go_wp2_with ((with_reducible refine stop_at (.nilCheck (.tmp 6)) ?_))
  refine Stop.mk ?_
  have kx := Hd.mk (Ext.alloc w (.cells #[.string ⟨#[]⟩, .string ⟨#[]⟩, .int .i64 0, .int .u64 0, .string ⟨#[]⟩, .slice none 0 0] 54))
  have kR := Hd.mk (Blk.new w #[.string ⟨#[]⟩, .string ⟨#[]⟩, .int .i64 0, .int .u64 0, .string ⟨#[]⟩, .slice none 0 0] 54)
  replace kG := Hd.mk (kG.out.ext kx.out)
  generalize w.alloc _ = W at *
  generalize hp : w.heap.size = p at *
  replace hp := Hd.mk hp
  have kQ := Hd.mk (show Blk W g [.string n.name, .string n.key, .int .i64 n.kind, .int .u64 n.num, .string n.text, .slice Kn n.kids.length kn, .int .i64 d, .slice (some ⟨b2, o2, none⟩) (L + 1) ac, .string x.name, .string x.key, .int .i64 x.kind, .int .u64 x.num, .string x.text, .slice Kx x.kids.length kx1, .string y.name, .string y.key, .int .i64 y.kind, .int .u64 y.num, .string y.text, .slice Ky y.kids.length ky1, .string z.name, .string z.key, .int .i64 z.kind, .int .u64 z.num, .string z.text, .slice Kz z.kids.length kz, .bool iz] 126 from kG.out)
  have gG := kQ.out.cell
  go_wp2_with fail
  clear gG kQ
  refine Calls.mono (work_has x n x y z Kx Kn Kx Ky Kz kx1 kn kx1 ky1 kz d b2 o2 L ac iz s W g hwl kG.out (fun j v hj => Ext.cell kx.out (hdk.out j v hj))) ?_
  rintro e wh ⟨rfl, hx⟩
  replace kx := Hd.mk (kx.out.trans hx)
  replace kG := Hd.mk (kG.out.ext hx)
  replace kR := Hd.mk (kR.out.ext hx)
  clear hx
  by_cases hhx : stepT x = s
  · rw [decide_eq_true hhx]
    have kQ := Hd.mk (show Blk wh g [.string n.name, .string n.key, .int .i64 n.kind, .int .u64 n.num, .string n.text, .slice Kn n.kids.length kn, .int .i64 d, .slice (some ⟨b2, o2, none⟩) (L + 1) ac, .string x.name, .string x.key, .int .i64 x.kind, .int .u64 x.num, .string x.text, .slice Kx x.kids.length kx1, .string y.name, .string y.key, .int .i64 y.kind, .int .u64 y.num, .string y.text, .slice Ky y.kids.length ky1, .string z.name, .string z.key, .int .i64 z.kind, .int .u64 z.num, .string z.text, .slice Kz z.kids.length kz, .bool iz] 126 from kG.out)
    have gG := kQ.out.cell
    cases iz with
    | true =>
      obtain rfl : r = (zeroT, 24) := by rw [← hr0.out]; simp [hhx]
      have gR := kR.out.cell
      have fR := kR.out.free
      go_wp2_with fail
      have hu := Hd.mk ((((((Upd.setCell wh ⟨p, 0, none⟩ (.string ⟨#[]⟩)).trans (Upd.setCell _ ⟨p, 1, none⟩ (.string ⟨#[]⟩))).trans (Upd.setCell _ ⟨p, 2, none⟩ (.int .i64 0))).trans (Upd.setCell _ ⟨p, 3, none⟩ (.int .u64 0))).trans (Upd.setCell _ ⟨p, 4, none⟩ (.string ⟨#[]⟩))).trans (Upd.setCell _ ⟨p, 5, none⟩ (.slice none 0 0)))
      exact ret_box2 rfl p _ 54 _ ((((((kR.out.setCell 0 (.string ⟨#[]⟩)).setCell 1 (.string ⟨#[]⟩)).setCell 2 (.int .i64 0)).setCell 3 (.int .u64 0)).setCell 4 (.string ⟨#[]⟩)).setCell 5 (.slice none 0 0)) rfl rfl Try.underlying54 rfl size54
        ⟨_, rfl, _, rfl, ot_zero _ _, Below.trans kx.out (hu.out.below (by rw [hp.out]; exact Nat.le_refl _))⟩
    | false =>
      clear gG kQ
      have hr1 := Hd.mk (show setR n (init ++ [s]) x = r by rw [← hr0.out]; simp [hhx])
      obtain ⟨m, rc⟩ := r
      have kQ := Hd.mk (show Blk wh g [.string n.name, .string n.key, .int .i64 n.kind, .int .u64 n.num, .string n.text, .slice Kn n.kids.length kn, .int .i64 d, .slice (some ⟨b2, o2, none⟩) (L + 1) ac, .string x.name, .string x.key, .int .i64 x.kind, .int .u64 x.num, .string x.text, .slice Kx x.kids.length kx1, .string y.name, .string y.key, .int .i64 y.kind, .int .u64 y.num, .string y.text, .slice Ky y.kids.length ky1, .string z.name, .string z.key, .int .i64 z.kind, .int .u64 z.num, .string z.text, .slice Kz z.kids.length kz, .bool false] 126 from kG.out)
      have gG := kQ.out.cell
      go_wp2_with fail
      clear gG
      refine Flow.wp_region_flow_l (fun qq => match qq with
        | 20 => SP.eq (.pointer (some ⟨g, 0, none⟩))
        | 21 => SP.eq (.pointer (some ⟨g, 0, none⟩))
        | 22 => SP.eq (.pointer (some ⟨g, 0, none⟩))
        | 23 => SP.eq (.agg #[.string n.name, .string n.key, .int .i64 n.kind, .int .u64 n.num, .string n.text, .slice Kn n.kids.length kn])
        | 24 => SP.eq (.pointer (some ⟨g, 0, none⟩))
        | 25 => SP.eq (.pointer (some ⟨g, 0, none⟩))
        | 26 => SP.eq (.pointer (some ⟨g, 6, none⟩))
        | 27 => SP.eq (.pointer (some ⟨g, 7, none⟩))
        | 28 => SP.eq (.slice (some ⟨b2, o2, none⟩) (L + 1) ac)
        | 29 => SP.eq (.pointer (some ⟨g, 0, none⟩))
        | 30 => SP.eq (.pointer (some ⟨g, 0, none⟩))
        | 31 => SP.eq (.pointer (some ⟨g, 6, none⟩))
        | 32 => SP.eq (.pointer (some ⟨g, 8, none⟩))
        | 33 => SP.eq (.agg #[.string x.name, .string x.key, .int .i64 x.kind, .int .u64 x.num, .string x.text, .slice Kx x.kids.length kx1])
        | 34 => spOC m rc wh.heap.size
        | 35 => spO m wh.heap.size
        | 36 => SP.eq (.int .i64 rc)
        | _ => SP.any) 17 (by kernel_rfl) 37 rfl (by kernel_rfl) ?_ ?_
      · skip
        refine ⟨?_, ?_, ?_, ?_, ?_, ?_, ?_, ?_, ?_, ?_, ?_, ?_, ?_, ?_, ?_, ?_, ?_, trivial⟩
        · intro act W2 hk
          refine Flow.does_intro rfl (fun Kq hK => ?_)
          have e0 : act.tmps[0]?.getD undef = .pointer (some ⟨g, 0, none⟩) := hk.o 0 (by kernel_rfl)
          clear hk
          go_simp
          exact hK _ _ (Ext.refl _) (fun d hd => by cases hd; rfl)
        · intro act W2 hk
          refine Flow.does_intro rfl (fun Kq hK => ?_)
          have e20 : act.tmps[20]?.getD undef = .pointer (some ⟨g, 0, none⟩) := hk.v 20 (by kernel_rfl)
          clear hk
          go_simp
          exact hK _ _ (Ext.refl _) (fun d hd => by cases hd; rfl)
        · intro act W2 hk
          refine Flow.does_intro rfl (fun Kq hK => ?_)
          have e21 : act.tmps[21]?.getD undef = .pointer (some ⟨g, 0, none⟩) := hk.v 21 (by kernel_rfl)
          clear hk
          go_simp
          exact hK _ _ (Ext.refl _) (fun d hd => by cases hd; rfl)
        · intro act W2 hk
          refine Flow.does_intro rfl (fun Kq hK => ?_)
          have e22 : act.tmps[22]?.getD undef = .pointer (some ⟨g, 0, none⟩) := hk.v 22 (by kernel_rfl)
          have g := ((kQ.out).ext ((Ext.drew wh).trans hk.ext)).cell
          clear hk
          go_simp
          exact hK _ _ (Ext.refl _) (fun d hd => by cases hd; rfl)
        · intro act W2 hk
          refine Flow.does_intro rfl (fun Kq hK => ?_)
          have e0 : act.tmps[0]?.getD undef = .pointer (some ⟨g, 0, none⟩) := hk.o 0 (by kernel_rfl)
          clear hk
          go_simp
          exact hK _ _ (Ext.refl _) (fun d hd => by cases hd; rfl)
        · intro act W2 hk
          refine Flow.does_intro rfl (fun Kq hK => ?_)
          have e24 : act.tmps[24]?.getD undef = .pointer (some ⟨g, 0, none⟩) := hk.v 24 (by kernel_rfl)
          clear hk
          go_simp
          exact hK _ _ (Ext.refl _) (fun d hd => by cases hd; rfl)
        · intro act W2 hk
          refine Flow.does_intro rfl (fun Kq hK => ?_)
          have e25 : act.tmps[25]?.getD undef = .pointer (some ⟨g, 0, none⟩) := hk.v 25 (by kernel_rfl)
          clear hk
          go_simp
          exact hK _ _ (Ext.refl _) (fun d hd => by cases hd; rfl)
        · intro act W2 hk
          refine Flow.does_intro rfl (fun Kq hK => ?_)
          have e26 : act.tmps[26]?.getD undef = .pointer (some ⟨g, 6, none⟩) := hk.v 26 (by kernel_rfl)
          clear hk
          go_simp
          exact hK _ _ (Ext.refl _) (fun d hd => by cases hd; rfl)
        · intro act W2 hk
          refine Flow.does_intro rfl (fun Kq hK => ?_)
          have e27 : act.tmps[27]?.getD undef = .pointer (some ⟨g, 7, none⟩) := hk.v 27 (by kernel_rfl)
          have g := ((kQ.out).ext ((Ext.drew wh).trans hk.ext)).cell
          clear hk
          go_simp
          exact hK _ _ (Ext.refl _) (fun d hd => by cases hd; rfl)
        · intro act W2 hk
          refine Flow.does_intro rfl (fun Kq hK => ?_)
          have e0 : act.tmps[0]?.getD undef = .pointer (some ⟨g, 0, none⟩) := hk.o 0 (by kernel_rfl)
          clear hk
          go_simp
          exact hK _ _ (Ext.refl _) (fun d hd => by cases hd; rfl)
        · intro act W2 hk
          refine Flow.does_intro rfl (fun Kq hK => ?_)
          have e29 : act.tmps[29]?.getD undef = .pointer (some ⟨g, 0, none⟩) := hk.v 29 (by kernel_rfl)
          clear hk
          go_simp
          exact hK _ _ (Ext.refl _) (fun d hd => by cases hd; rfl)
        · intro act W2 hk
          refine Flow.does_intro rfl (fun Kq hK => ?_)
          have e30 : act.tmps[30]?.getD undef = .pointer (some ⟨g, 0, none⟩) := hk.v 30 (by kernel_rfl)
          clear hk
          go_simp
          exact hK _ _ (Ext.refl _) (fun d hd => by cases hd; rfl)
        · intro act W2 hk
          refine Flow.does_intro rfl (fun Kq hK => ?_)
          have e31 : act.tmps[31]?.getD undef = .pointer (some ⟨g, 6, none⟩) := hk.v 31 (by kernel_rfl)
          clear hk
          go_simp
          exact hK _ _ (Ext.refl _) (fun d hd => by cases hd; rfl)
        · intro act W2 hk
          refine Flow.does_intro rfl (fun Kq hK => ?_)
          have e32 : act.tmps[32]?.getD undef = .pointer (some ⟨g, 8, none⟩) := hk.v 32 (by kernel_rfl)
          have g := ((kQ.out).ext ((Ext.drew wh).trans hk.ext)).cell
          clear hk
          go_simp
          exact hK _ _ (Ext.refl _) (fun d hd => by cases hd; rfl)
        · intro act W2 hk
          refine Flow.does_intro rfl (fun Kq hK => ?_)
          have e23 : act.tmps[23]?.getD undef = .agg #[.string n.name, .string n.key, .int .i64 n.kind, .int .u64 n.num, .string n.text, .slice Kn n.kids.length kn] := hk.v 23 (by kernel_rfl)
          have e28 : act.tmps[28]?.getD undef = .slice (some ⟨b2, o2, none⟩) (L + 1) ac := hk.v 28 (by kernel_rfl)
          have e33 : act.tmps[33]?.getD undef = .agg #[.string x.name, .string x.key, .int .i64 x.kind, .int .u64 x.num, .string x.text, .slice Kx x.kids.length kx1] := hk.v 33 (by kernel_rfl)
          have hx0 := Hd.mk ((Ext.drew wh).trans hk.ext)
          have hcn := tree_set n x (init ++ [s]) S S S' W2 _ _ (some ⟨b2, o2, none⟩) ac (kr.out.ext (kx.out.trans hx0.out)) (krx.out.ext (kx.out.trans hx0.out)) (kw.out.ext (kx.out.trans hx0.out)) hriH.out hszH.out
          rw [hr1.out, hlenH.out] at hcn
          have hcn := Hd.mk hcn
          clear hk
          go_simp
          refine Calls.mono (hcn.out) ?_
          rintro e W3 ⟨_, rfl, cm, rfl, hrm, hx⟩
          exact hK _ _ hx (fun d hd => by cases hd; exact ⟨cm, _, _, rfl, hrm, hx0.out.size, Nat.le_refl _⟩)
        · intro act W2 hk
          refine Flow.does_intro rfl (fun Kq hK => ?_)
          obtain ⟨cm, lo, hi, e34, hrm, hlo, hhi⟩ := (hk.v 34 (by kernel_rfl) : (spOC _ _ _).p _ _)
          clear hk
          go_simp
          exact hK _ _ (Ext.refl _) (fun d hd => by cases hd; exact ⟨cm, lo, hi, rfl, hrm, hlo, hhi⟩)
        · intro act W2 hk
          refine Flow.does_intro rfl (fun Kq hK => ?_)
          obtain ⟨cm, lo, hi, e34, hrm, hlo, hhi⟩ := (hk.v 34 (by kernel_rfl) : (spOC _ _ _).p _ _)
          clear hk
          go_simp
          exact hK _ _ (Ext.refl _) (fun d hd => by cases hd; rfl)
      · intro act V2 he
        have hxV2 := Hd.mk ((Ext.drew wh).trans he.ext)
        obtain ⟨us, hA, hF⟩ := he.out [20, 21, 22, 23, 24, 25, 26, 27, 28, 29, 30, 31, 32, 33, 34, 35, 36] (by kernel_rfl)
        simp only [Flow.fillL, List.contains_cons, List.contains_nil, Nat.reduceBEq, Bool.or_false, Bool.false_or, Bool.or_true, Bool.true_or, ↓reduceIte, Nat.reduceAdd, Bool.false_eq_true] at hA
        subst hA
        have f35 : (spO m wh.heap.size).p (us 35) V2 := hF 35 (by simp)
        have f36 : us 36 = .int .i64 rc := hF 36 (by simp)
        clear hF he
        rw [f36]
        clear f36
        obtain ⟨cm, lo, hi, em, hrm, hlo, hhi⟩ := (f35 : (spO _ _).p _ _)
        obtain ⟨Km, km, _, _, rfl, _⟩ := hrm.row
        rw [em]
        clear em
        have hrm := Hd.mk hrm
        simp only [cT] at hrm ⊢
        have hVs := Hd.mk kR.out.lt
        replace kx := Hd.mk (kx.out.trans hxV2.out)
        replace kR := Hd.mk (kR.out.ext hxV2.out)
        clear hxV2
        have gR := kR.out.cell
        have fR := kR.out.free
        refine (show wpList _ _ _ (⟨none, .store 54 (.tmp 2) (.tmp 35), _, _, _, none⟩ :: _) _ _ from ?_)
        go_wp2_with fail
        have hu := Hd.mk ((((((Upd.setCell V2 ⟨p, 0, none⟩ (.string m.name)).trans (Upd.setCell _ ⟨p, 1, none⟩ (.string m.key))).trans (Upd.setCell _ ⟨p, 2, none⟩ (.int .i64 m.kind))).trans (Upd.setCell _ ⟨p, 3, none⟩ (.int .u64 m.num))).trans (Upd.setCell _ ⟨p, 4, none⟩ (.string m.text))).trans (Upd.setCell _ ⟨p, 5, none⟩ (.slice Km m.kids.length km)))
        exact ret_box2 rfl p _ 54 _ ((((((kR.out.setCell 0 (.string m.name)).setCell 1 (.string m.key)).setCell 2 (.int .i64 m.kind)).setCell 3 (.int .u64 m.num)).setCell 4 (.string m.text)).setCell 5 (.slice Km m.kids.length km)) rfl rfl Try.underlying54 rfl size54
          ⟨_, rfl, _, rfl, (hrm.out.keep fun b hb => hu.out.block b (by have := hVs.out; show b ≠ p; omega)).mono fun b hb => ⟨by rw [hp.out]; have := hVs.out; omega, by rw [hu.out.size]; omega⟩, Below.trans kx.out (hu.out.below (by rw [hp.out]; exact Nat.le_refl _))⟩
  · rw [decide_eq_false hhx]
    obtain rfl : r = (zeroT, 1) := by rw [← hr0.out]; simp [hhx]
    have gR := kR.out.cell
    have fR := kR.out.free
    go_wp2_with fail
    have hu := Hd.mk ((((((Upd.setCell wh ⟨p, 0, none⟩ (.string ⟨#[]⟩)).trans (Upd.setCell _ ⟨p, 1, none⟩ (.string ⟨#[]⟩))).trans (Upd.setCell _ ⟨p, 2, none⟩ (.int .i64 0))).trans (Upd.setCell _ ⟨p, 3, none⟩ (.int .u64 0))).trans (Upd.setCell _ ⟨p, 4, none⟩ (.string ⟨#[]⟩))).trans (Upd.setCell _ ⟨p, 5, none⟩ (.slice none 0 0)))
    exact ret_box2 rfl p _ 54 _ ((((((kR.out.setCell 0 (.string ⟨#[]⟩)).setCell 1 (.string ⟨#[]⟩)).setCell 2 (.int .i64 0)).setCell 3 (.int .u64 0)).setCell 4 (.string ⟨#[]⟩)).setCell 5 (.slice none 0 0)) rfl rfl Try.underlying54 rfl size54
      ⟨_, rfl, _, rfl, ot_zero _ _, Below.trans kx.out (hu.out.below (by rw [hp.out]; exact Nat.le_refl _))⟩
set_option maxRecDepth 100000 in
set_option maxHeartbeats 2000000 in
theorem work_delete (n x y z : T) (Kn Kx Ky Kz : Option Addr) (kn kx1 ky1 kz : Nat) (d : Int) (b2 o2 L ac : Nat) (iz : Bool) (init : List Step) (s : Step) (S S' : Nat → Prop) (w : World) (g : Nat) (hL : init.length = L) (hg : Blk w g (cWk n x y z Kn Kx Ky Kz kn kx1 ky1 kz d b2 o2 L ac iz) 126)
    (hn : RT S w n [.string n.name, .string n.key, .int .i64 n.kind, .int .u64 n.num, .string n.text, .slice Kn n.kids.length kn]) (hx : RT S w x [.string x.name, .string x.key, .int .i64 x.kind, .int .u64 x.num, .string x.text, .slice Kx x.kids.length kx1]) (hy : RT S w y [.string y.name, .string y.key, .int .i64 y.kind, .int .u64 y.num, .string y.text, .slice Ky y.kids.length ky1]) (hz : RT S w z [.string z.name, .string z.key, .int .i64 z.kind, .int .u64 z.num, .string z.text, .slice Kz z.kids.length kz]) (hw : WRow S' w (some ⟨b2, o2, none⟩) (init ++ [s]) ac) (hri : rightT n = true) (hsz : n.size + x.size ≤ 1048576) :
    Calls Try.prog 110 #[.pointer (some ⟨g, 0, none⟩)] w (Ret (ChgPost (if stepT y ≠ s then (zeroT, (1 : Int)) else if iz = false then (zeroT, 30) else if sameT z y = false then (zeroT, 23) else cutR n (init ++ [s])) w)) := by
  generalize hr0 : (if stepT y ≠ s then (zeroT, (1 : Int)) else if iz = false then (zeroT, 30) else if sameT z y = false then (zeroT, 23) else cutR n (init ++ [s])) = r
  replace hr0 := Hd.mk hr0
  have hwl := hw.len
  have hdk0 : ∀ (j : Nat) v, [Value.string s.1, .string s.2][j]? = some v → w.cell? ⟨b2, o2 + L * 2 + j, none⟩ = some v := by
    obtain ⟨b', o', he, _, hd⟩ := WRow.at hw (j := init.length) (x := s) (by simp)
    simp only [Option.some.injEq, Addr.mk.injEq, and_true] at he
    obtain ⟨rfl, rfl⟩ := he
    rw [hL] at hd; exact hd
  have hlenH := Hd.mk (show (init ++ [s]).length = L + 1 by simp [hL])
  rw [hlenH.out] at hwl
  have kG := Hd.mk hg
  have kr := Hd.mk hn
  have krx := Hd.mk hx
  have kry := Hd.mk hy
  have krz := Hd.mk hz
  have kw := Hd.mk hw
  have hdk := Hd.mk hdk0
  have hriH := Hd.mk hri
  have hszH := Hd.mk hsz
  clear hg hn hx hy hz hw hri hsz hdk0 hL
  go_enter Try.func110, Try.ntmps110
  go_wp2_with ((with_reducible refine stop_at (.nilCheck (.tmp 6)) ?_))
  refine Stop.mk ?_
  have kx := Hd.mk (Ext.alloc w (.cells #[.string ⟨#[]⟩, .string ⟨#[]⟩, .int .i64 0, .int .u64 0, .string ⟨#[]⟩, .slice none 0 0] 54))
  have kR := Hd.mk (Blk.new w #[.string ⟨#[]⟩, .string ⟨#[]⟩, .int .i64 0, .int .u64 0, .string ⟨#[]⟩, .slice none 0 0] 54)
  replace kG := Hd.mk (kG.out.ext kx.out)
  generalize w.alloc _ = W at *
  generalize hp : w.heap.size = p at *
  replace hp := Hd.mk hp
  have kQ := Hd.mk (show Blk W g [.string n.name, .string n.key, .int .i64 n.kind, .int .u64 n.num, .string n.text, .slice Kn n.kids.length kn, .int .i64 d, .slice (some ⟨b2, o2, none⟩) (L + 1) ac, .string x.name, .string x.key, .int .i64 x.kind, .int .u64 x.num, .string x.text, .slice Kx x.kids.length kx1, .string y.name, .string y.key, .int .i64 y.kind, .int .u64 y.num, .string y.text, .slice Ky y.kids.length ky1, .string z.name, .string z.key, .int .i64 z.kind, .int .u64 z.num, .string z.text, .slice Kz z.kids.length kz, .bool iz] 126 from kG.out)
  have gG := kQ.out.cell
  go_wp2_with fail
  clear gG kQ
  refine Calls.mono (work_has y n x y z Ky Kn Kx Ky Kz ky1 kn kx1 ky1 kz d b2 o2 L ac iz s W g hwl kG.out (fun j v hj => Ext.cell kx.out (hdk.out j v hj))) ?_
  rintro e wh ⟨rfl, hx⟩
  replace kx := Hd.mk (kx.out.trans hx)
  replace kG := Hd.mk (kG.out.ext hx)
  replace kR := Hd.mk (kR.out.ext hx)
  clear hx
  by_cases hhy : stepT y = s
  · rw [decide_eq_true hhy]
    go_wp2_with fail
    refine Calls.mono (work_wrong n x y z Kn Kx Ky Kz kn kx1 ky1 kz d b2 o2 L ac iz S wh g kG.out (kry.out.ext kx.out) (krz.out.ext kx.out)) ?_
    rintro e ww ⟨rfl, hx⟩
    replace kx := Hd.mk (kx.out.trans hx)
    replace kG := Hd.mk (kG.out.ext hx)
    replace kR := Hd.mk (kR.out.ext hx)
    clear hx
    cases iz with
    | false =>
      obtain rfl : r = (zeroT, 30) := by rw [← hr0.out]; simp [hhy, *]
      rw [if_pos rfl]
      have gR := kR.out.cell
      have fR := kR.out.free
      go_wp2_with fail
      have hu := Hd.mk ((((((Upd.setCell ww ⟨p, 0, none⟩ (.string ⟨#[]⟩)).trans (Upd.setCell _ ⟨p, 1, none⟩ (.string ⟨#[]⟩))).trans (Upd.setCell _ ⟨p, 2, none⟩ (.int .i64 0))).trans (Upd.setCell _ ⟨p, 3, none⟩ (.int .u64 0))).trans (Upd.setCell _ ⟨p, 4, none⟩ (.string ⟨#[]⟩))).trans (Upd.setCell _ ⟨p, 5, none⟩ (.slice none 0 0)))
      exact ret_box2 rfl p _ 54 _ ((((((kR.out.setCell 0 (.string ⟨#[]⟩)).setCell 1 (.string ⟨#[]⟩)).setCell 2 (.int .i64 0)).setCell 3 (.int .u64 0)).setCell 4 (.string ⟨#[]⟩)).setCell 5 (.slice none 0 0)) rfl rfl Try.underlying54 rfl size54
        ⟨_, rfl, _, rfl, ot_zero _ _, Below.trans kx.out (hu.out.below (by rw [hp.out]; exact Nat.le_refl _))⟩
    | true =>
      rw [if_neg (by simp)]
      cases hsm : sameT z y with
      | false =>
        obtain rfl : r = (zeroT, 23) := by rw [← hr0.out]; simp [hhy, *]
        rw [if_pos rfl]
        have gR := kR.out.cell
        have fR := kR.out.free
        go_wp2_with fail
        have hu := Hd.mk ((((((Upd.setCell ww ⟨p, 0, none⟩ (.string ⟨#[]⟩)).trans (Upd.setCell _ ⟨p, 1, none⟩ (.string ⟨#[]⟩))).trans (Upd.setCell _ ⟨p, 2, none⟩ (.int .i64 0))).trans (Upd.setCell _ ⟨p, 3, none⟩ (.int .u64 0))).trans (Upd.setCell _ ⟨p, 4, none⟩ (.string ⟨#[]⟩))).trans (Upd.setCell _ ⟨p, 5, none⟩ (.slice none 0 0)))
        exact ret_box2 rfl p _ 54 _ ((((((kR.out.setCell 0 (.string ⟨#[]⟩)).setCell 1 (.string ⟨#[]⟩)).setCell 2 (.int .i64 0)).setCell 3 (.int .u64 0)).setCell 4 (.string ⟨#[]⟩)).setCell 5 (.slice none 0 0)) rfl rfl Try.underlying54 rfl size54
          ⟨_, rfl, _, rfl, ot_zero _ _, Below.trans kx.out (hu.out.below (by rw [hp.out]; exact Nat.le_refl _))⟩
      | true =>
        rw [if_neg (by simp)]
        have hr1 := Hd.mk (show cutR n (init ++ [s]) = r by rw [← hr0.out]; simp [hhy, hsm])
        obtain ⟨m, rc⟩ := r
        have kQ := Hd.mk (show Blk ww g [.string n.name, .string n.key, .int .i64 n.kind, .int .u64 n.num, .string n.text, .slice Kn n.kids.length kn, .int .i64 d, .slice (some ⟨b2, o2, none⟩) (L + 1) ac, .string x.name, .string x.key, .int .i64 x.kind, .int .u64 x.num, .string x.text, .slice Kx x.kids.length kx1, .string y.name, .string y.key, .int .i64 y.kind, .int .u64 y.num, .string y.text, .slice Ky y.kids.length ky1, .string z.name, .string z.key, .int .i64 z.kind, .int .u64 z.num, .string z.text, .slice Kz z.kids.length kz, .bool true] 126 from kG.out)
        have gG := kQ.out.cell
        go_wp2_with fail
        clear gG
        refine Flow.wp_region_flow_l (fun qq => match qq with
          | 20 => SP.eq (.pointer (some ⟨g, 0, none⟩))
          | 21 => SP.eq (.pointer (some ⟨g, 0, none⟩))
          | 22 => SP.eq (.pointer (some ⟨g, 0, none⟩))
          | 23 => SP.eq (.agg #[.string n.name, .string n.key, .int .i64 n.kind, .int .u64 n.num, .string n.text, .slice Kn n.kids.length kn])
          | 24 => SP.eq (.pointer (some ⟨g, 0, none⟩))
          | 25 => SP.eq (.pointer (some ⟨g, 0, none⟩))
          | 26 => SP.eq (.pointer (some ⟨g, 6, none⟩))
          | 27 => SP.eq (.pointer (some ⟨g, 7, none⟩))
          | 28 => SP.eq (.slice (some ⟨b2, o2, none⟩) (L + 1) ac)
          | 29 => spOC m rc ww.heap.size
          | 30 => spO m ww.heap.size
          | 31 => SP.eq (.int .i64 rc)
          | _ => SP.any) 12 (by kernel_rfl) 32 rfl (by kernel_rfl) ?_ ?_
        · skip
          refine ⟨?_, ?_, ?_, ?_, ?_, ?_, ?_, ?_, ?_, ?_, ?_, ?_, trivial⟩
          · intro act W2 hk
            refine Flow.does_intro rfl (fun Kq hK => ?_)
            have e0 : act.tmps[0]?.getD undef = .pointer (some ⟨g, 0, none⟩) := hk.o 0 (by kernel_rfl)
            clear hk
            go_simp
            exact hK _ _ (Ext.refl _) (fun d hd => by cases hd; rfl)
          · intro act W2 hk
            refine Flow.does_intro rfl (fun Kq hK => ?_)
            have e20 : act.tmps[20]?.getD undef = .pointer (some ⟨g, 0, none⟩) := hk.v 20 (by kernel_rfl)
            clear hk
            go_simp
            exact hK _ _ (Ext.refl _) (fun d hd => by cases hd; rfl)
          · intro act W2 hk
            refine Flow.does_intro rfl (fun Kq hK => ?_)
            have e21 : act.tmps[21]?.getD undef = .pointer (some ⟨g, 0, none⟩) := hk.v 21 (by kernel_rfl)
            clear hk
            go_simp
            exact hK _ _ (Ext.refl _) (fun d hd => by cases hd; rfl)
          · intro act W2 hk
            refine Flow.does_intro rfl (fun Kq hK => ?_)
            have e22 : act.tmps[22]?.getD undef = .pointer (some ⟨g, 0, none⟩) := hk.v 22 (by kernel_rfl)
            have g := ((kQ.out).ext ((Ext.drew ww).trans hk.ext)).cell
            clear hk
            go_simp
            exact hK _ _ (Ext.refl _) (fun d hd => by cases hd; rfl)
          · intro act W2 hk
            refine Flow.does_intro rfl (fun Kq hK => ?_)
            have e0 : act.tmps[0]?.getD undef = .pointer (some ⟨g, 0, none⟩) := hk.o 0 (by kernel_rfl)
            clear hk
            go_simp
            exact hK _ _ (Ext.refl _) (fun d hd => by cases hd; rfl)
          · intro act W2 hk
            refine Flow.does_intro rfl (fun Kq hK => ?_)
            have e24 : act.tmps[24]?.getD undef = .pointer (some ⟨g, 0, none⟩) := hk.v 24 (by kernel_rfl)
            clear hk
            go_simp
            exact hK _ _ (Ext.refl _) (fun d hd => by cases hd; rfl)
          · intro act W2 hk
            refine Flow.does_intro rfl (fun Kq hK => ?_)
            have e25 : act.tmps[25]?.getD undef = .pointer (some ⟨g, 0, none⟩) := hk.v 25 (by kernel_rfl)
            clear hk
            go_simp
            exact hK _ _ (Ext.refl _) (fun d hd => by cases hd; rfl)
          · intro act W2 hk
            refine Flow.does_intro rfl (fun Kq hK => ?_)
            have e26 : act.tmps[26]?.getD undef = .pointer (some ⟨g, 6, none⟩) := hk.v 26 (by kernel_rfl)
            clear hk
            go_simp
            exact hK _ _ (Ext.refl _) (fun d hd => by cases hd; rfl)
          · intro act W2 hk
            refine Flow.does_intro rfl (fun Kq hK => ?_)
            have e27 : act.tmps[27]?.getD undef = .pointer (some ⟨g, 7, none⟩) := hk.v 27 (by kernel_rfl)
            have g := ((kQ.out).ext ((Ext.drew ww).trans hk.ext)).cell
            clear hk
            go_simp
            exact hK _ _ (Ext.refl _) (fun d hd => by cases hd; rfl)
          · intro act W2 hk
            refine Flow.does_intro rfl (fun Kq hK => ?_)
            have e23 : act.tmps[23]?.getD undef = .agg #[.string n.name, .string n.key, .int .i64 n.kind, .int .u64 n.num, .string n.text, .slice Kn n.kids.length kn] := hk.v 23 (by kernel_rfl)
            have e28 : act.tmps[28]?.getD undef = .slice (some ⟨b2, o2, none⟩) (L + 1) ac := hk.v 28 (by kernel_rfl)
            have hx0 := Hd.mk ((Ext.drew ww).trans hk.ext)
            have hcn := tree_cut n (init ++ [s]) S S' W2 _ (some ⟨b2, o2, none⟩) ac (kr.out.ext (kx.out.trans hx0.out)) (kw.out.ext (kx.out.trans hx0.out)) (by have := hszH.out; omega)
            rw [hr1.out, hlenH.out] at hcn
            have hcn := Hd.mk hcn
            clear hk
            go_simp
            refine Calls.mono (hcn.out) ?_
            rintro e W3 ⟨_, rfl, cm, rfl, hrm, hx⟩
            exact hK _ _ hx (fun d hd => by cases hd; exact ⟨cm, _, _, rfl, hrm, hx0.out.size, Nat.le_refl _⟩)
          · intro act W2 hk
            refine Flow.does_intro rfl (fun Kq hK => ?_)
            obtain ⟨cm, lo, hi, e29, hrm, hlo, hhi⟩ := (hk.v 29 (by kernel_rfl) : (spOC _ _ _).p _ _)
            clear hk
            go_simp
            exact hK _ _ (Ext.refl _) (fun d hd => by cases hd; exact ⟨cm, lo, hi, rfl, hrm, hlo, hhi⟩)
          · intro act W2 hk
            refine Flow.does_intro rfl (fun Kq hK => ?_)
            obtain ⟨cm, lo, hi, e29, hrm, hlo, hhi⟩ := (hk.v 29 (by kernel_rfl) : (spOC _ _ _).p _ _)
            clear hk
            go_simp
            exact hK _ _ (Ext.refl _) (fun d hd => by cases hd; rfl)
        · intro act V2 he
          have hxV2 := Hd.mk ((Ext.drew ww).trans he.ext)
          obtain ⟨us, hA, hF⟩ := he.out [20, 21, 22, 23, 24, 25, 26, 27, 28, 29, 30, 31] (by kernel_rfl)
          simp only [Flow.fillL, List.contains_cons, List.contains_nil, Nat.reduceBEq, Bool.or_false, Bool.false_or, Bool.or_true, Bool.true_or, ↓reduceIte, Nat.reduceAdd, Bool.false_eq_true] at hA
          subst hA
          have f30 : (spO m ww.heap.size).p (us 30) V2 := hF 30 (by simp)
          have f31 : us 31 = .int .i64 rc := hF 31 (by simp)
          clear hF he
          rw [f31]
          clear f31
          obtain ⟨cm, lo, hi, em, hrm, hlo, hhi⟩ := (f30 : (spO _ _).p _ _)
          obtain ⟨Km, km, _, _, rfl, _⟩ := hrm.row
          rw [em]
          clear em
          have hrm := Hd.mk hrm
          simp only [cT] at hrm ⊢
          have hVs := Hd.mk kR.out.lt
          replace kx := Hd.mk (kx.out.trans hxV2.out)
          replace kR := Hd.mk (kR.out.ext hxV2.out)
          clear hxV2
          have gR := kR.out.cell
          have fR := kR.out.free
          refine (show wpList _ _ _ (⟨none, .store 54 (.tmp 2) (.tmp 30), _, _, _, none⟩ :: _) _ _ from ?_)
          go_wp2_with fail
          have hu := Hd.mk ((((((Upd.setCell V2 ⟨p, 0, none⟩ (.string m.name)).trans (Upd.setCell _ ⟨p, 1, none⟩ (.string m.key))).trans (Upd.setCell _ ⟨p, 2, none⟩ (.int .i64 m.kind))).trans (Upd.setCell _ ⟨p, 3, none⟩ (.int .u64 m.num))).trans (Upd.setCell _ ⟨p, 4, none⟩ (.string m.text))).trans (Upd.setCell _ ⟨p, 5, none⟩ (.slice Km m.kids.length km)))
          exact ret_box2 rfl p _ 54 _ ((((((kR.out.setCell 0 (.string m.name)).setCell 1 (.string m.key)).setCell 2 (.int .i64 m.kind)).setCell 3 (.int .u64 m.num)).setCell 4 (.string m.text)).setCell 5 (.slice Km m.kids.length km)) rfl rfl Try.underlying54 rfl size54
            ⟨_, rfl, _, rfl, (hrm.out.keep fun b hb => hu.out.block b (by have := hVs.out; show b ≠ p; omega)).mono fun b hb => ⟨by rw [hp.out]; have := hVs.out; omega, by rw [hu.out.size]; omega⟩, Below.trans kx.out (hu.out.below (by rw [hp.out]; exact Nat.le_refl _))⟩
  · rw [decide_eq_false hhy]
    obtain rfl : r = (zeroT, 1) := by rw [← hr0.out]; simp [hhy]
    have gR := kR.out.cell
    have fR := kR.out.free
    go_wp2_with fail
    have hu := Hd.mk ((((((Upd.setCell wh ⟨p, 0, none⟩ (.string ⟨#[]⟩)).trans (Upd.setCell _ ⟨p, 1, none⟩ (.string ⟨#[]⟩))).trans (Upd.setCell _ ⟨p, 2, none⟩ (.int .i64 0))).trans (Upd.setCell _ ⟨p, 3, none⟩ (.int .u64 0))).trans (Upd.setCell _ ⟨p, 4, none⟩ (.string ⟨#[]⟩))).trans (Upd.setCell _ ⟨p, 5, none⟩ (.slice none 0 0)))
    exact ret_box2 rfl p _ 54 _ ((((((kR.out.setCell 0 (.string ⟨#[]⟩)).setCell 1 (.string ⟨#[]⟩)).setCell 2 (.int .i64 0)).setCell 3 (.int .u64 0)).setCell 4 (.string ⟨#[]⟩)).setCell 5 (.slice none 0 0)) rfl rfl Try.underlying54 rfl size54
      ⟨_, rfl, _, rfl, ot_zero _ _, Below.trans kx.out (hu.out.below (by rw [hp.out]; exact Nat.le_refl _))⟩
set_option maxRecDepth 100000 in
set_option maxHeartbeats 2000000 in
theorem work_replace (n x y z : T) (Kn Kx Ky Kz : Option Addr) (kn kx1 ky1 kz : Nat) (d : Int) (b2 o2 L ac : Nat) (iz : Bool) (init : List Step) (s : Step) (S S' : Nat → Prop) (w : World) (g : Nat) (hL : init.length = L) (hg : Blk w g (cWk n x y z Kn Kx Ky Kz kn kx1 ky1 kz d b2 o2 L ac iz) 126)
    (hn : RT S w n [.string n.name, .string n.key, .int .i64 n.kind, .int .u64 n.num, .string n.text, .slice Kn n.kids.length kn]) (hx : RT S w x [.string x.name, .string x.key, .int .i64 x.kind, .int .u64 x.num, .string x.text, .slice Kx x.kids.length kx1]) (hy : RT S w y [.string y.name, .string y.key, .int .i64 y.kind, .int .u64 y.num, .string y.text, .slice Ky y.kids.length ky1]) (hz : RT S w z [.string z.name, .string z.key, .int .i64 z.kind, .int .u64 z.num, .string z.text, .slice Kz z.kids.length kz]) (hw : WRow S' w (some ⟨b2, o2, none⟩) (init ++ [s]) ac) (hri : rightT n = true) (hsz : n.size + x.size ≤ 1048576) :
    Calls Try.prog 111 #[.pointer (some ⟨g, 0, none⟩)] w (Ret (ChgPost (if stepT x ≠ s ∨ stepT y ≠ s then (zeroT, (1 : Int)) else if iz = false then (zeroT, 30) else if sameT z y = false then (zeroT, 23) else if x.kind = 0 ∨ y.kind = 0 then (zeroT, 23) else setR n (init ++ [s]) x) w)) := by
  generalize hr0 : (if stepT x ≠ s ∨ stepT y ≠ s then (zeroT, (1 : Int)) else if iz = false then (zeroT, 30) else if sameT z y = false then (zeroT, 23) else if x.kind = 0 ∨ y.kind = 0 then (zeroT, 23) else setR n (init ++ [s]) x) = r
  replace hr0 := Hd.mk hr0
  have hwl := hw.len
  have hdk0 : ∀ (j : Nat) v, [Value.string s.1, .string s.2][j]? = some v → w.cell? ⟨b2, o2 + L * 2 + j, none⟩ = some v := by
    obtain ⟨b', o', he, _, hd⟩ := WRow.at hw (j := init.length) (x := s) (by simp)
    simp only [Option.some.injEq, Addr.mk.injEq, and_true] at he
    obtain ⟨rfl, rfl⟩ := he
    rw [hL] at hd; exact hd
  have hlenH := Hd.mk (show (init ++ [s]).length = L + 1 by simp [hL])
  rw [hlenH.out] at hwl
  have kG := Hd.mk hg
  have kr := Hd.mk hn
  have krx := Hd.mk hx
  have kry := Hd.mk hy
  have krz := Hd.mk hz
  have kw := Hd.mk hw
  have hdk := Hd.mk hdk0
  have hriH := Hd.mk hri
  have hszH := Hd.mk hsz
  clear hg hn hx hy hz hw hri hsz hdk0 hL
  go_enter Try.func111, Try.ntmps111
  go_wp2_with ((with_reducible refine stop_at (.nilCheck (.tmp 6)) ?_))
  refine Stop.mk ?_
  have kx := Hd.mk (Ext.alloc w (.cells #[.string ⟨#[]⟩, .string ⟨#[]⟩, .int .i64 0, .int .u64 0, .string ⟨#[]⟩, .slice none 0 0] 54))
  have kR := Hd.mk (Blk.new w #[.string ⟨#[]⟩, .string ⟨#[]⟩, .int .i64 0, .int .u64 0, .string ⟨#[]⟩, .slice none 0 0] 54)
  replace kG := Hd.mk (kG.out.ext kx.out)
  generalize w.alloc _ = W at *
  generalize hp : w.heap.size = p at *
  replace hp := Hd.mk hp
  have kQ := Hd.mk (show Blk W g [.string n.name, .string n.key, .int .i64 n.kind, .int .u64 n.num, .string n.text, .slice Kn n.kids.length kn, .int .i64 d, .slice (some ⟨b2, o2, none⟩) (L + 1) ac, .string x.name, .string x.key, .int .i64 x.kind, .int .u64 x.num, .string x.text, .slice Kx x.kids.length kx1, .string y.name, .string y.key, .int .i64 y.kind, .int .u64 y.num, .string y.text, .slice Ky y.kids.length ky1, .string z.name, .string z.key, .int .i64 z.kind, .int .u64 z.num, .string z.text, .slice Kz z.kids.length kz, .bool iz] 126 from kG.out)
  have gG := kQ.out.cell
  go_wp2_with fail
  clear gG kQ
  refine Calls.mono (work_has x n x y z Kx Kn Kx Ky Kz kx1 kn kx1 ky1 kz d b2 o2 L ac iz s W g hwl kG.out (fun j v hj => Ext.cell kx.out (hdk.out j v hj))) ?_
  rintro e wh ⟨rfl, hx⟩
  replace kx := Hd.mk (kx.out.trans hx)
  replace kG := Hd.mk (kG.out.ext hx)
  replace kR := Hd.mk (kR.out.ext hx)
  clear hx
  by_cases hhx : stepT x = s
  · rw [decide_eq_true hhx]
    have kQ := Hd.mk (show Blk wh g [.string n.name, .string n.key, .int .i64 n.kind, .int .u64 n.num, .string n.text, .slice Kn n.kids.length kn, .int .i64 d, .slice (some ⟨b2, o2, none⟩) (L + 1) ac, .string x.name, .string x.key, .int .i64 x.kind, .int .u64 x.num, .string x.text, .slice Kx x.kids.length kx1, .string y.name, .string y.key, .int .i64 y.kind, .int .u64 y.num, .string y.text, .slice Ky y.kids.length ky1, .string z.name, .string z.key, .int .i64 z.kind, .int .u64 z.num, .string z.text, .slice Kz z.kids.length kz, .bool iz] 126 from kG.out)
    have gG := kQ.out.cell
    go_wp2_with fail
    clear gG kQ
    refine Calls.mono (work_has y n x y z Ky Kn Kx Ky Kz ky1 kn kx1 ky1 kz d b2 o2 L ac iz s wh g hwl kG.out (fun j v hj => Ext.cell kx.out (hdk.out j v hj))) ?_
    rintro e wh2 ⟨rfl, hx⟩
    replace kx := Hd.mk (kx.out.trans hx)
    replace kG := Hd.mk (kG.out.ext hx)
    replace kR := Hd.mk (kR.out.ext hx)
    clear hx
    by_cases hhy : stepT y = s
    · rw [decide_eq_true hhy]
      go_wp2_with fail
      refine Calls.mono (work_wrong n x y z Kn Kx Ky Kz kn kx1 ky1 kz d b2 o2 L ac iz S wh2 g kG.out (kry.out.ext kx.out) (krz.out.ext kx.out)) ?_
      rintro e ww ⟨rfl, hx⟩
      replace kx := Hd.mk (kx.out.trans hx)
      replace kG := Hd.mk (kG.out.ext hx)
      replace kR := Hd.mk (kR.out.ext hx)
      clear hx
      cases iz with
      | false =>
        obtain rfl : r = (zeroT, 30) := by rw [← hr0.out]; simp [hhx, hhy, *]
        rw [if_pos rfl]
        have gR := kR.out.cell
        have fR := kR.out.free
        go_wp2_with fail
        have hu := Hd.mk ((((((Upd.setCell ww ⟨p, 0, none⟩ (.string ⟨#[]⟩)).trans (Upd.setCell _ ⟨p, 1, none⟩ (.string ⟨#[]⟩))).trans (Upd.setCell _ ⟨p, 2, none⟩ (.int .i64 0))).trans (Upd.setCell _ ⟨p, 3, none⟩ (.int .u64 0))).trans (Upd.setCell _ ⟨p, 4, none⟩ (.string ⟨#[]⟩))).trans (Upd.setCell _ ⟨p, 5, none⟩ (.slice none 0 0)))
        exact ret_box2 rfl p _ 54 _ ((((((kR.out.setCell 0 (.string ⟨#[]⟩)).setCell 1 (.string ⟨#[]⟩)).setCell 2 (.int .i64 0)).setCell 3 (.int .u64 0)).setCell 4 (.string ⟨#[]⟩)).setCell 5 (.slice none 0 0)) rfl rfl Try.underlying54 rfl size54
          ⟨_, rfl, _, rfl, ot_zero _ _, Below.trans kx.out (hu.out.below (by rw [hp.out]; exact Nat.le_refl _))⟩
      | true =>
        rw [if_neg (by simp)]
        cases hsm : sameT z y with
        | false =>
          obtain rfl : r = (zeroT, 23) := by rw [← hr0.out]; simp [hhx, hhy, *]
          rw [if_pos rfl]
          have gR := kR.out.cell
          have fR := kR.out.free
          go_wp2_with fail
          have hu := Hd.mk ((((((Upd.setCell ww ⟨p, 0, none⟩ (.string ⟨#[]⟩)).trans (Upd.setCell _ ⟨p, 1, none⟩ (.string ⟨#[]⟩))).trans (Upd.setCell _ ⟨p, 2, none⟩ (.int .i64 0))).trans (Upd.setCell _ ⟨p, 3, none⟩ (.int .u64 0))).trans (Upd.setCell _ ⟨p, 4, none⟩ (.string ⟨#[]⟩))).trans (Upd.setCell _ ⟨p, 5, none⟩ (.slice none 0 0)))
          exact ret_box2 rfl p _ 54 _ ((((((kR.out.setCell 0 (.string ⟨#[]⟩)).setCell 1 (.string ⟨#[]⟩)).setCell 2 (.int .i64 0)).setCell 3 (.int .u64 0)).setCell 4 (.string ⟨#[]⟩)).setCell 5 (.slice none 0 0)) rfl rfl Try.underlying54 rfl size54
            ⟨_, rfl, _, rfl, ot_zero _ _, Below.trans kx.out (hu.out.below (by rw [hp.out]; exact Nat.le_refl _))⟩
        | true =>
          rw [if_neg (by simp)]
          by_cases hkx : x.kind = 0
          · have qx : (x.kind == 0) = true := by simpa using hkx
            obtain rfl : r = (zeroT, 23) := by rw [← hr0.out]; simp [hhx, hhy, hsm, hkx]
            have kQ := Hd.mk (show Blk ww g [.string n.name, .string n.key, .int .i64 n.kind, .int .u64 n.num, .string n.text, .slice Kn n.kids.length kn, .int .i64 d, .slice (some ⟨b2, o2, none⟩) (L + 1) ac, .string x.name, .string x.key, .int .i64 x.kind, .int .u64 x.num, .string x.text, .slice Kx x.kids.length kx1, .string y.name, .string y.key, .int .i64 y.kind, .int .u64 y.num, .string y.text, .slice Ky y.kids.length ky1, .string z.name, .string z.key, .int .i64 z.kind, .int .u64 z.num, .string z.text, .slice Kz z.kids.length kz, .bool true] 126 from kG.out)
            have gG := kQ.out.cell
            have gR := kR.out.cell
            have fR := kR.out.free
            go_wp2_with fail
            have hu := Hd.mk ((((((Upd.setCell ww ⟨p, 0, none⟩ (.string ⟨#[]⟩)).trans (Upd.setCell _ ⟨p, 1, none⟩ (.string ⟨#[]⟩))).trans (Upd.setCell _ ⟨p, 2, none⟩ (.int .i64 0))).trans (Upd.setCell _ ⟨p, 3, none⟩ (.int .u64 0))).trans (Upd.setCell _ ⟨p, 4, none⟩ (.string ⟨#[]⟩))).trans (Upd.setCell _ ⟨p, 5, none⟩ (.slice none 0 0)))
            exact ret_box2 rfl p _ 54 _ ((((((kR.out.setCell 0 (.string ⟨#[]⟩)).setCell 1 (.string ⟨#[]⟩)).setCell 2 (.int .i64 0)).setCell 3 (.int .u64 0)).setCell 4 (.string ⟨#[]⟩)).setCell 5 (.slice none 0 0)) rfl rfl Try.underlying54 rfl size54
              ⟨_, rfl, _, rfl, ot_zero _ _, Below.trans kx.out (hu.out.below (by rw [hp.out]; exact Nat.le_refl _))⟩
          · have qx : (x.kind == 0) = false := by simpa using hkx
            by_cases hky : y.kind = 0
            · have qy : (y.kind == 0) = true := by simpa using hky
              obtain rfl : r = (zeroT, 23) := by rw [← hr0.out]; simp [hhx, hhy, hsm, hky]
              have kQ := Hd.mk (show Blk ww g [.string n.name, .string n.key, .int .i64 n.kind, .int .u64 n.num, .string n.text, .slice Kn n.kids.length kn, .int .i64 d, .slice (some ⟨b2, o2, none⟩) (L + 1) ac, .string x.name, .string x.key, .int .i64 x.kind, .int .u64 x.num, .string x.text, .slice Kx x.kids.length kx1, .string y.name, .string y.key, .int .i64 y.kind, .int .u64 y.num, .string y.text, .slice Ky y.kids.length ky1, .string z.name, .string z.key, .int .i64 z.kind, .int .u64 z.num, .string z.text, .slice Kz z.kids.length kz, .bool true] 126 from kG.out)
              have gG := kQ.out.cell
              have gR := kR.out.cell
              have fR := kR.out.free
              go_wp2_with fail
              have hu := Hd.mk ((((((Upd.setCell ww ⟨p, 0, none⟩ (.string ⟨#[]⟩)).trans (Upd.setCell _ ⟨p, 1, none⟩ (.string ⟨#[]⟩))).trans (Upd.setCell _ ⟨p, 2, none⟩ (.int .i64 0))).trans (Upd.setCell _ ⟨p, 3, none⟩ (.int .u64 0))).trans (Upd.setCell _ ⟨p, 4, none⟩ (.string ⟨#[]⟩))).trans (Upd.setCell _ ⟨p, 5, none⟩ (.slice none 0 0)))
              exact ret_box2 rfl p _ 54 _ ((((((kR.out.setCell 0 (.string ⟨#[]⟩)).setCell 1 (.string ⟨#[]⟩)).setCell 2 (.int .i64 0)).setCell 3 (.int .u64 0)).setCell 4 (.string ⟨#[]⟩)).setCell 5 (.slice none 0 0)) rfl rfl Try.underlying54 rfl size54
                ⟨_, rfl, _, rfl, ot_zero _ _, Below.trans kx.out (hu.out.below (by rw [hp.out]; exact Nat.le_refl _))⟩
            · have qy : (y.kind == 0) = false := by simpa using hky
              have hr1 := Hd.mk (show setR n (init ++ [s]) x = r by rw [← hr0.out]; simp [hhx, hhy, hsm, hkx, hky])
              obtain ⟨m, rc⟩ := r
              have kQ := Hd.mk (show Blk ww g [.string n.name, .string n.key, .int .i64 n.kind, .int .u64 n.num, .string n.text, .slice Kn n.kids.length kn, .int .i64 d, .slice (some ⟨b2, o2, none⟩) (L + 1) ac, .string x.name, .string x.key, .int .i64 x.kind, .int .u64 x.num, .string x.text, .slice Kx x.kids.length kx1, .string y.name, .string y.key, .int .i64 y.kind, .int .u64 y.num, .string y.text, .slice Ky y.kids.length ky1, .string z.name, .string z.key, .int .i64 z.kind, .int .u64 z.num, .string z.text, .slice Kz z.kids.length kz, .bool true] 126 from kG.out)
              have gG := kQ.out.cell
              go_wp2_with fail
              clear gG
              refine Flow.wp_region_flow_l (fun qq => match qq with
                | 52 => SP.eq (.pointer (some ⟨g, 0, none⟩))
                | 53 => SP.eq (.pointer (some ⟨g, 0, none⟩))
                | 54 => SP.eq (.pointer (some ⟨g, 0, none⟩))
                | 55 => SP.eq (.agg #[.string n.name, .string n.key, .int .i64 n.kind, .int .u64 n.num, .string n.text, .slice Kn n.kids.length kn])
                | 56 => SP.eq (.pointer (some ⟨g, 0, none⟩))
                | 57 => SP.eq (.pointer (some ⟨g, 0, none⟩))
                | 58 => SP.eq (.pointer (some ⟨g, 6, none⟩))
                | 59 => SP.eq (.pointer (some ⟨g, 7, none⟩))
                | 60 => SP.eq (.slice (some ⟨b2, o2, none⟩) (L + 1) ac)
                | 61 => SP.eq (.pointer (some ⟨g, 0, none⟩))
                | 62 => SP.eq (.pointer (some ⟨g, 0, none⟩))
                | 63 => SP.eq (.pointer (some ⟨g, 6, none⟩))
                | 64 => SP.eq (.pointer (some ⟨g, 8, none⟩))
                | 65 => SP.eq (.agg #[.string x.name, .string x.key, .int .i64 x.kind, .int .u64 x.num, .string x.text, .slice Kx x.kids.length kx1])
                | 66 => spOC m rc ww.heap.size
                | 67 => spO m ww.heap.size
                | 68 => SP.eq (.int .i64 rc)
                | _ => SP.any) 17 (by kernel_rfl) 69 rfl (by kernel_rfl) ?_ ?_
              · skip
                refine ⟨?_, ?_, ?_, ?_, ?_, ?_, ?_, ?_, ?_, ?_, ?_, ?_, ?_, ?_, ?_, ?_, ?_, trivial⟩
                · intro act W2 hk
                  refine Flow.does_intro rfl (fun Kq hK => ?_)
                  have e0 : act.tmps[0]?.getD undef = .pointer (some ⟨g, 0, none⟩) := hk.o 0 (by kernel_rfl)
                  clear hk
                  go_simp
                  exact hK _ _ (Ext.refl _) (fun d hd => by cases hd; rfl)
                · intro act W2 hk
                  refine Flow.does_intro rfl (fun Kq hK => ?_)
                  have e52 : act.tmps[52]?.getD undef = .pointer (some ⟨g, 0, none⟩) := hk.v 52 (by kernel_rfl)
                  clear hk
                  go_simp
                  exact hK _ _ (Ext.refl _) (fun d hd => by cases hd; rfl)
                · intro act W2 hk
                  refine Flow.does_intro rfl (fun Kq hK => ?_)
                  have e53 : act.tmps[53]?.getD undef = .pointer (some ⟨g, 0, none⟩) := hk.v 53 (by kernel_rfl)
                  clear hk
                  go_simp
                  exact hK _ _ (Ext.refl _) (fun d hd => by cases hd; rfl)
                · intro act W2 hk
                  refine Flow.does_intro rfl (fun Kq hK => ?_)
                  have e54 : act.tmps[54]?.getD undef = .pointer (some ⟨g, 0, none⟩) := hk.v 54 (by kernel_rfl)
                  have g := ((kQ.out).ext ((Ext.drew ww).trans hk.ext)).cell
                  clear hk
                  go_simp
                  exact hK _ _ (Ext.refl _) (fun d hd => by cases hd; rfl)
                · intro act W2 hk
                  refine Flow.does_intro rfl (fun Kq hK => ?_)
                  have e0 : act.tmps[0]?.getD undef = .pointer (some ⟨g, 0, none⟩) := hk.o 0 (by kernel_rfl)
                  clear hk
                  go_simp
                  exact hK _ _ (Ext.refl _) (fun d hd => by cases hd; rfl)
                · intro act W2 hk
                  refine Flow.does_intro rfl (fun Kq hK => ?_)
                  have e56 : act.tmps[56]?.getD undef = .pointer (some ⟨g, 0, none⟩) := hk.v 56 (by kernel_rfl)
                  clear hk
                  go_simp
                  exact hK _ _ (Ext.refl _) (fun d hd => by cases hd; rfl)
                · intro act W2 hk
                  refine Flow.does_intro rfl (fun Kq hK => ?_)
                  have e57 : act.tmps[57]?.getD undef = .pointer (some ⟨g, 0, none⟩) := hk.v 57 (by kernel_rfl)
                  clear hk
                  go_simp
                  exact hK _ _ (Ext.refl _) (fun d hd => by cases hd; rfl)
                · intro act W2 hk
                  refine Flow.does_intro rfl (fun Kq hK => ?_)
                  have e58 : act.tmps[58]?.getD undef = .pointer (some ⟨g, 6, none⟩) := hk.v 58 (by kernel_rfl)
                  clear hk
                  go_simp
                  exact hK _ _ (Ext.refl _) (fun d hd => by cases hd; rfl)
                · intro act W2 hk
                  refine Flow.does_intro rfl (fun Kq hK => ?_)
                  have e59 : act.tmps[59]?.getD undef = .pointer (some ⟨g, 7, none⟩) := hk.v 59 (by kernel_rfl)
                  have g := ((kQ.out).ext ((Ext.drew ww).trans hk.ext)).cell
                  clear hk
                  go_simp
                  exact hK _ _ (Ext.refl _) (fun d hd => by cases hd; rfl)
                · intro act W2 hk
                  refine Flow.does_intro rfl (fun Kq hK => ?_)
                  have e0 : act.tmps[0]?.getD undef = .pointer (some ⟨g, 0, none⟩) := hk.o 0 (by kernel_rfl)
                  clear hk
                  go_simp
                  exact hK _ _ (Ext.refl _) (fun d hd => by cases hd; rfl)
                · intro act W2 hk
                  refine Flow.does_intro rfl (fun Kq hK => ?_)
                  have e61 : act.tmps[61]?.getD undef = .pointer (some ⟨g, 0, none⟩) := hk.v 61 (by kernel_rfl)
                  clear hk
                  go_simp
                  exact hK _ _ (Ext.refl _) (fun d hd => by cases hd; rfl)
                · intro act W2 hk
                  refine Flow.does_intro rfl (fun Kq hK => ?_)
                  have e62 : act.tmps[62]?.getD undef = .pointer (some ⟨g, 0, none⟩) := hk.v 62 (by kernel_rfl)
                  clear hk
                  go_simp
                  exact hK _ _ (Ext.refl _) (fun d hd => by cases hd; rfl)
                · intro act W2 hk
                  refine Flow.does_intro rfl (fun Kq hK => ?_)
                  have e63 : act.tmps[63]?.getD undef = .pointer (some ⟨g, 6, none⟩) := hk.v 63 (by kernel_rfl)
                  clear hk
                  go_simp
                  exact hK _ _ (Ext.refl _) (fun d hd => by cases hd; rfl)
                · intro act W2 hk
                  refine Flow.does_intro rfl (fun Kq hK => ?_)
                  have e64 : act.tmps[64]?.getD undef = .pointer (some ⟨g, 8, none⟩) := hk.v 64 (by kernel_rfl)
                  have g := ((kQ.out).ext ((Ext.drew ww).trans hk.ext)).cell
                  clear hk
                  go_simp
                  exact hK _ _ (Ext.refl _) (fun d hd => by cases hd; rfl)
                · intro act W2 hk
                  refine Flow.does_intro rfl (fun Kq hK => ?_)
                  have e55 : act.tmps[55]?.getD undef = .agg #[.string n.name, .string n.key, .int .i64 n.kind, .int .u64 n.num, .string n.text, .slice Kn n.kids.length kn] := hk.v 55 (by kernel_rfl)
                  have e60 : act.tmps[60]?.getD undef = .slice (some ⟨b2, o2, none⟩) (L + 1) ac := hk.v 60 (by kernel_rfl)
                  have e65 : act.tmps[65]?.getD undef = .agg #[.string x.name, .string x.key, .int .i64 x.kind, .int .u64 x.num, .string x.text, .slice Kx x.kids.length kx1] := hk.v 65 (by kernel_rfl)
                  have hx0 := Hd.mk ((Ext.drew ww).trans hk.ext)
                  have hcn := tree_set n x (init ++ [s]) S S S' W2 _ _ (some ⟨b2, o2, none⟩) ac (kr.out.ext (kx.out.trans hx0.out)) (krx.out.ext (kx.out.trans hx0.out)) (kw.out.ext (kx.out.trans hx0.out)) hriH.out hszH.out
                  rw [hr1.out, hlenH.out] at hcn
                  have hcn := Hd.mk hcn
                  clear hk
                  go_simp
                  refine Calls.mono (hcn.out) ?_
                  rintro e W3 ⟨_, rfl, cm, rfl, hrm, hx⟩
                  exact hK _ _ hx (fun d hd => by cases hd; exact ⟨cm, _, _, rfl, hrm, hx0.out.size, Nat.le_refl _⟩)
                · intro act W2 hk
                  refine Flow.does_intro rfl (fun Kq hK => ?_)
                  obtain ⟨cm, lo, hi, e66, hrm, hlo, hhi⟩ := (hk.v 66 (by kernel_rfl) : (spOC _ _ _).p _ _)
                  clear hk
                  go_simp
                  exact hK _ _ (Ext.refl _) (fun d hd => by cases hd; exact ⟨cm, lo, hi, rfl, hrm, hlo, hhi⟩)
                · intro act W2 hk
                  refine Flow.does_intro rfl (fun Kq hK => ?_)
                  obtain ⟨cm, lo, hi, e66, hrm, hlo, hhi⟩ := (hk.v 66 (by kernel_rfl) : (spOC _ _ _).p _ _)
                  clear hk
                  go_simp
                  exact hK _ _ (Ext.refl _) (fun d hd => by cases hd; rfl)
              · intro act V2 he
                have hxV2 := Hd.mk ((Ext.drew ww).trans he.ext)
                obtain ⟨us, hA, hF⟩ := he.out [52, 53, 54, 55, 56, 57, 58, 59, 60, 61, 62, 63, 64, 65, 66, 67, 68] (by kernel_rfl)
                simp only [Flow.fillL, List.contains_cons, List.contains_nil, Nat.reduceBEq, Bool.or_false, Bool.false_or, Bool.or_true, Bool.true_or, ↓reduceIte, Nat.reduceAdd, Bool.false_eq_true] at hA
                subst hA
                have f67 : (spO m ww.heap.size).p (us 67) V2 := hF 67 (by simp)
                have f68 : us 68 = .int .i64 rc := hF 68 (by simp)
                clear hF he
                rw [f68]
                clear f68
                obtain ⟨cm, lo, hi, em, hrm, hlo, hhi⟩ := (f67 : (spO _ _).p _ _)
                obtain ⟨Km, km, _, _, rfl, _⟩ := hrm.row
                rw [em]
                clear em
                have hrm := Hd.mk hrm
                simp only [cT] at hrm ⊢
                have hVs := Hd.mk kR.out.lt
                replace kx := Hd.mk (kx.out.trans hxV2.out)
                replace kR := Hd.mk (kR.out.ext hxV2.out)
                clear hxV2
                have gR := kR.out.cell
                have fR := kR.out.free
                refine (show wpList _ _ _ (⟨none, .store 54 (.tmp 2) (.tmp 67), _, _, _, none⟩ :: _) _ _ from ?_)
                go_wp2_with fail
                have hu := Hd.mk ((((((Upd.setCell V2 ⟨p, 0, none⟩ (.string m.name)).trans (Upd.setCell _ ⟨p, 1, none⟩ (.string m.key))).trans (Upd.setCell _ ⟨p, 2, none⟩ (.int .i64 m.kind))).trans (Upd.setCell _ ⟨p, 3, none⟩ (.int .u64 m.num))).trans (Upd.setCell _ ⟨p, 4, none⟩ (.string m.text))).trans (Upd.setCell _ ⟨p, 5, none⟩ (.slice Km m.kids.length km)))
                exact ret_box2 rfl p _ 54 _ ((((((kR.out.setCell 0 (.string m.name)).setCell 1 (.string m.key)).setCell 2 (.int .i64 m.kind)).setCell 3 (.int .u64 m.num)).setCell 4 (.string m.text)).setCell 5 (.slice Km m.kids.length km)) rfl rfl Try.underlying54 rfl size54
                  ⟨_, rfl, _, rfl, (hrm.out.keep fun b hb => hu.out.block b (by have := hVs.out; show b ≠ p; omega)).mono fun b hb => ⟨by rw [hp.out]; have := hVs.out; omega, by rw [hu.out.size]; omega⟩, Below.trans kx.out (hu.out.below (by rw [hp.out]; exact Nat.le_refl _))⟩
    · rw [decide_eq_false hhy]
      obtain rfl : r = (zeroT, 1) := by rw [← hr0.out]; simp [hhx, hhy]
      have gR := kR.out.cell
      have fR := kR.out.free
      go_wp2_with fail
      have hu := Hd.mk ((((((Upd.setCell wh2 ⟨p, 0, none⟩ (.string ⟨#[]⟩)).trans (Upd.setCell _ ⟨p, 1, none⟩ (.string ⟨#[]⟩))).trans (Upd.setCell _ ⟨p, 2, none⟩ (.int .i64 0))).trans (Upd.setCell _ ⟨p, 3, none⟩ (.int .u64 0))).trans (Upd.setCell _ ⟨p, 4, none⟩ (.string ⟨#[]⟩))).trans (Upd.setCell _ ⟨p, 5, none⟩ (.slice none 0 0)))
      exact ret_box2 rfl p _ 54 _ ((((((kR.out.setCell 0 (.string ⟨#[]⟩)).setCell 1 (.string ⟨#[]⟩)).setCell 2 (.int .i64 0)).setCell 3 (.int .u64 0)).setCell 4 (.string ⟨#[]⟩)).setCell 5 (.slice none 0 0)) rfl rfl Try.underlying54 rfl size54
        ⟨_, rfl, _, rfl, ot_zero _ _, Below.trans kx.out (hu.out.below (by rw [hp.out]; exact Nat.le_refl _))⟩
  · rw [decide_eq_false hhx]
    obtain rfl : r = (zeroT, 1) := by rw [← hr0.out]; simp [hhx]
    have gR := kR.out.cell
    have fR := kR.out.free
    go_wp2_with fail
    have hu := Hd.mk ((((((Upd.setCell wh ⟨p, 0, none⟩ (.string ⟨#[]⟩)).trans (Upd.setCell _ ⟨p, 1, none⟩ (.string ⟨#[]⟩))).trans (Upd.setCell _ ⟨p, 2, none⟩ (.int .i64 0))).trans (Upd.setCell _ ⟨p, 3, none⟩ (.int .u64 0))).trans (Upd.setCell _ ⟨p, 4, none⟩ (.string ⟨#[]⟩))).trans (Upd.setCell _ ⟨p, 5, none⟩ (.slice none 0 0)))
    exact ret_box2 rfl p _ 54 _ ((((((kR.out.setCell 0 (.string ⟨#[]⟩)).setCell 1 (.string ⟨#[]⟩)).setCell 2 (.int .i64 0)).setCell 3 (.int .u64 0)).setCell 4 (.string ⟨#[]⟩)).setCell 5 (.slice none 0 0)) rfl rfl Try.underlying54 rfl size54
      ⟨_, rfl, _, rfl, ot_zero _ _, Below.trans kx.out (hu.out.below (by rw [hp.out]; exact Nat.le_refl _))⟩
end Go.Proofs.Ytgkgedjmnbjalaa
