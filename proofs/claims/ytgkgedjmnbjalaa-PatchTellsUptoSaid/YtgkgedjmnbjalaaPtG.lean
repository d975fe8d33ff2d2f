/- Texts that the law needs, joined.
   Conditions: none. -/
import Derived.Test.YtgkgedjmnbjalaaPtF
set_option linter.unusedSimpArgs false
set_option linter.unusedVariables false
set_option linter.unusedVariables false
namespace Go.Proofs.Ytgkgedjmnbjalaa
open Go.RowKit Go.Sort
theorem wpl_append_none {ops : Array Oper} {rest : List Oper} {a : Act} {w : World} {Q : Exit → Act → World → Prop}
    (s x d : Tmp) (p1 : TypeId) (p2 : String) (p3 : Array Edge) (A : Option Addr) (n c : Nat) (hs : a.tmps[s]?.getD undef = .slice A n c) (hx : a.tmps[x]?.getD undef = .slice none 0 0) (hnc : n ≤ c)
    (h : wpList Try.prog ops Q rest (a.put (some d) (.slice A n c)) w) :
    wpList Try.prog ops Q (⟨some d, .call { callee := .builtin .append, args := #[.tmp s, .tmp x], argTypes := #[52, 52] }, p1, p2, p3, none⟩ :: rest) a w := by
  refine wpList_plain rfl fun K hK => ?_
  cases A with
  | none =>
    go_simp
    exact hK _ _ h
  | some b =>
    go_simp
    exact hK _ _ h
theorem wpl_append_src {ops : Array Oper} {rest : List Oper} {a : Act} {w : World} {Q : Exit → Act → World → Prop}
    (s x d : Tmp) (p1 : TypeId) (p2 : String) (p3 : Array Edge) (base : Nat) (v : Value) (n : Nat) (xs : List Value) (hs : a.tmps[s]?.getD undef = v) (hown : w.ownsRow base 54 6 v n xs)
    (X : Option Addr) (m c : Nat) (news : List Value) (hx : a.tmps[x]?.getD undef = .slice X m c) (hX : X = none → m = 0 ∧ c = 0) (hl : news.length = m * 6) (hnews : ∀ ad, X = some ad → ∀ j u, news[j]? = some u → w.cell? (ad.add j) = some u)
    (h1 : news.all (·.oneCell') = true) (hb : n + m ≤ 1048576) (hbase : base ≤ w.heap.size)
    (h : ∀ v' w', w'.ownsRow base 54 6 v' (n + m) (xs ++ news) → Below base w w' → wpList Try.prog ops Q rest (a.put (some d) v') w') :
    wpList Try.prog ops Q (⟨some d, .call { callee := .builtin .append, args := #[.tmp s, .tmp x], argTypes := #[52, 52] }, p1, p2, p3, none⟩ :: rest) a w := by
  cases X with
  | none =>
    obtain ⟨rfl, rfl⟩ := hX rfl
    obtain ⟨A, cap, rfl, hcap, _⟩ := own_slice hown
    have hn : news = [] := List.eq_nil_of_length_eq_zero (by omega)
    subst hn
    refine wpl_append_none s x d p1 p2 p3 A n cap hs hx hcap (h _ _ ?_ (Below.refl _ _))
    rw [List.append_nil]; exact hown
  | some ad =>
    refine wpl_append' sl52 (by omega) (by omega) (.tmp s) (.tmp x) d p1 p2 p3 base v n xs ?_ hown ad m c news ?_ hl (hnews ad rfl) h1 (by omega) hbase fun v' w' a1 a2 a3 => h v' w' a1 (Below.grown (Below.refl _ _) a2 hbase (fun k hk => own_base hown k hk))
    · rw [← hs]; simp [Act.eval]
    · rw [← hx]; simp [Act.eval]
theorem addr_add_add (a : Addr) (n j : Nat) : (a.add n).add j = a.add (n + j) := by
  by_cases hn : n = 0
  · subst hn; simp [Addr.add]
  · by_cases hj : j = 0
    · subst hj; simp [Addr.add]
    · simp [Addr.add, hn, hj, Nat.add_assoc]
theorem rrow_of_own {S : Nat → Prop} {w : World} {base n : Nat} {v : Value} {kids : List T} {css : List (List Value)} (hl : css.length = kids.length) (h6 : ∀ c ∈ css, c.length = 6) (hn : kids.length = n) (hb : n ≤ 1048576)
    (hr : ∀ (i : Nat) k c, kids[i]? = some k → css[i]? = some c → RT S w k c) (h : w.ownsRow base 54 6 v n css.flatten) : ∃ A cap, v = .slice A n cap ∧ RRow (fun b => S b ∨ base ≤ b) w A kids cap := by
  obtain ⟨A, cap, rfl, hcap, hnul, hrow⟩ := own_slice h
  refine ⟨A, cap, rfl, by omega, by omega, hnul, fun i k hi => ?_⟩
  have hlt := (List.getElem?_eq_some_iff.1 hi).1
  obtain ⟨g, sp, rfl, hge, hb2⟩ := hrow (by omega)
  have hci := List.getElem?_eq_getElem (show i < css.length by omega)
  refine ⟨g, 0, _, rfl, .inr hge, (hr i k _ hi hci).mono (fun _ _ h => .inl h), fun j u hj => ?_⟩
  have := flatten_get css h6 i _ hci j u hj
  rw [Nat.zero_add, hb2.cell, List.getElem?_append_left (List.getElem?_eq_some_iff.1 this).1]
  exact this
theorem RT.all {S : Nat → Prop} {w : World} {t : T} {c : List Value} (h : RT S w t c) : RT (fun _ => True) w t c := h.mono fun _ _ _ => trivial
def TPost (S : Nat → Prop) (t : T) (w w' : World) (v : Value) : Prop := ∃ c : List Value, v = .agg c.toArray ∧ RT (fun b => S b ∨ w.heap.size ≤ b) w' t c ∧ Ext w w'
set_option maxRecDepth 100000 in
set_option maxHeartbeats 4000000 in
theorem ref_with (t : T) (l : List T) (S : Nat → Prop) (w : World) (c : List Value) (L : Option Addr) (lc i m : Nat) (h : RT S w t c) (hl : RRow S w L l lc) (him : i + m ≤ t.kids.length) (hsz : t.kids.length + l.length ≤ 1048576) :
    Calls Try.prog 153 #[.agg c.toArray, .int .i64 i, .int .i64 m, .slice L l.length lc] w (Ret (TPost S (t.wk (t.kids.take i ++ l ++ t.kids.drop (i + m))) w)) := by
  obtain ⟨K, kc, rfl, hrow⟩ := h.row
  obtain ⟨css, q1, q2, q3, q4⟩ := hrow.flat
  obtain ⟨lss, r1, r2, r3, r4⟩ := hl.flat
  have hcap := hrow.cap
  have hnul := hrow.nul
  have hlen := hrow.len
  have hlnul := hl.nul
  have hlcap := hl.cap
  have k1 := Hd.mk q1
  have k2 := Hd.mk q2
  have k3 := Hd.mk q3
  have k4 := Hd.mk (fun i k c h1 h2 => (q4 i k c h1 h2).mono (S' := fun b => S b ∧ b < w.heap.size) (fun b hb hs => ⟨hs, hb⟩))
  have l1 := Hd.mk r1
  have l2 := Hd.mk r2
  have l3 := Hd.mk r3
  have l4 := Hd.mk (fun i k c h1 h2 => (r4 i k c h1 h2).mono (S' := fun b => S b ∧ b < w.heap.size) (fun b hb hs => ⟨hs, hb⟩))
  obtain ⟨kd, hkd⟩ : ∃ kd, kd = t.kids.take i ++ l ++ t.kids.drop (i + m) := ⟨_, rfl⟩
  rw [← hkd]
  replace hkd := Hd.mk hkd
  have kft := Hd.mk (flatten_take css q2)
  have kfl := Hd.mk (flatten_len css q2)
  have lfl := Hd.mk (flatten_len lss r2)
  have kone := Hd.mk (all_one q1 q4)
  have lone := Hd.mk (all_one r1 r4)
  have hlsrc : Hd (∀ W, Ext w W → ∀ ad, L = some ad → ∀ j u, lss.flatten[j]? = some u → W.cell? (ad.add j) = some u) := ⟨fun W hW ad had j u hj => by
    have hne : l ≠ [] := by
      rintro rfl
      have : lss = [] := List.eq_nil_of_length_eq_zero (by rw [r1]; rfl)
      subst this
      simp at hj
    obtain ⟨b, off, he, _, hc⟩ := r3 hne
    rw [he] at had; cases had
    rw [addr_add]
    exact Ext.cell hW (hc j u hj)⟩
  have hLn : L = none → l.length = 0 ∧ lc = 0 := fun e => by have := hlnul e; exact ⟨by omega, this⟩
  replace hLn := Hd.mk hLn
  clear h hl hrow q1 q2 q3 q4 r1 r2 r3 r4 hlnul
  simp only [cT]
  cases K with
  | none =>
    obtain rfl := hnul rfl
    have hk0 : t.kids.length = 0 := by omega
    obtain rfl : i = 0 := by omega
    obtain rfl : m = 0 := by omega
    rw [hk0]
    go_enter Try.func153, Try.ntmps153
    go_wp2_with ((with_reducible refine stop_at (.fieldAddr 54 (.tmp 4) 3) ?_))
    refine Stop.mk ?_
    have kx := Hd.mk ((Ext.alloc w (.cells #[.string t.name, .string t.key, .int .i64 t.kind, .int .u64 t.num, .string t.text, .slice none 0 0] 54)).trans (Ext.alloc _ (.cells #[.string ⟨#[]⟩, .string ⟨#[]⟩, .int .i64 0, .int .u64 0, .string ⟨#[]⟩, .slice none 0 0] 54)))
    have kA := Hd.mk ((Blk.new w #[.string t.name, .string t.key, .int .i64 t.kind, .int .u64 t.num, .string t.text, .slice none 0 0] 54).alloc (.cells #[.string ⟨#[]⟩, .string ⟨#[]⟩, .int .i64 0, .int .u64 0, .string ⟨#[]⟩, .slice none 0 0] 54))
    have kR := Hd.mk (Blk.new2 w (.cells #[.string t.name, .string t.key, .int .i64 t.kind, .int .u64 t.num, .string t.text, .slice none 0 0] 54) #[.string ⟨#[]⟩, .string ⟨#[]⟩, .int .i64 0, .int .u64 0, .string ⟨#[]⟩, .slice none 0 0] 54)
    have hpW := Hd.mk (show w.heap.size + 1 < ((w.alloc _).alloc _).heap.size from kR.out.lt)
    generalize (w.alloc _).alloc _ = W at *
    generalize hp : w.heap.size = p at *
    replace hp := Hd.mk hp
    have gA := kA.out.cell
    go_wp2_with ((with_reducible refine stop_at (.call { callee := .builtin .append, args := #[.tmp 10, .tmp 14], argTypes := #[52, 52] }) ?_))
    refine Stop.mk ?_
    refine wpl_append_src 10 14 15 _ _ _ W.heap.size (.slice none 0 0) 0 [] rfl ⟨rfl, .inl ⟨rfl, rfl⟩⟩ none (0) 0 (css.flatten.take ((0) * 6)) rfl (fun _ => ⟨rfl, rfl⟩) (by rw [List.length_take, kfl.out, k1.out]; omega) (fun ad h => by cases h) (all_take kone.out _).1 (by omega) (Nat.le_refl _) ?_
    intro v1 w1 ho1 hb1
    rw [Nat.zero_add, List.nil_append] at ho1
    have ho1 := Hd.mk ho1
    have hb1 := Hd.mk hb1
    replace kA := Hd.mk (kA.out.ext hb1.out)
    replace kR := Hd.mk (kR.out.ext hb1.out)
    clear gA
    go_wp2_with ((with_reducible refine stop_at (.call { callee := .builtin .append, args := #[.tmp 16, .tmp 17], argTypes := #[52, 52] }) ?_))
    refine Stop.mk ?_
    refine wpl_append_src 16 17 18 _ _ _ W.heap.size v1 (0) _ rfl ho1.out L l.length lc lss.flatten rfl hLn.out (by rw [lfl.out, l1.out]) (hlsrc.out _ (kx.out.trans hb1.out)) lone.out (by omega) hb1.out.size ?_
    intro v2 w2 ho2 hb2
    have ho2 := Hd.mk ho2
    have hb12 := Hd.mk (show Ext W w2 from Below.trans hb1.out hb2)
    replace kA := Hd.mk (show Blk w2 p _ 54 from (hb2.block p (by have := hpW.out; omega)).trans kA.out)
    replace kR := Hd.mk (show Blk w2 (p + 1) _ 54 from (hb2.block (p + 1) hpW.out).trans kR.out)
    clear hb1 hb2
    have gA := kA.out.cell
    go_wp2_with ((with_reducible refine stop_at (.call { callee := .builtin .append, args := #[.tmp 19, .tmp 25], argTypes := #[52, 52] }) ?_))
    refine Stop.mk ?_
    refine wpl_append_src 19 25 26 _ _ _ W.heap.size v2 (0 + l.length) _ rfl ho2.out none 0 0 (css.flatten.drop ((0 + 0) * 6)) rfl (fun _ => ⟨rfl, rfl⟩) (by rw [List.length_drop, kfl.out, k1.out]; omega) (fun ad h => by cases h) (all_take kone.out _).2 (by omega) hb12.out.size ?_
    intro v3 w3 ho3 hb3
    have hb13 := Hd.mk (show Ext W w3 from Below.trans hb12.out hb3)
    replace kA := Hd.mk (show Blk w3 p _ 54 from (hb3.block p (by have := hpW.out; omega)).trans kA.out)
    replace kR := Hd.mk (show Blk w3 (p + 1) _ 54 from (hb3.block (p + 1) hpW.out).trans kR.out)
    clear hb3 hb12 gA
    have hN : 0 + l.length + 0 = kd.length := by rw [hkd.out]; simp only [List.length_append, List.length_take, List.length_drop]; omega
    rw [hN] at ho3
    obtain ⟨A3, cap3, rfl, hrow3⟩ := rrow_of_own (S := fun b => S b ∧ b < p) (w := w3) (kids := kd) (css := css.take (0) ++ lss ++ css.drop (0 + 0)) (n := kd.length) (by rw [hkd.out]; simp [k1.out, l1.out]) (fun c hc => by
        rcases List.mem_append.1 hc with hc | hc
        · rcases List.mem_append.1 hc with hc | hc
          · exact k2.out c (List.mem_of_mem_take hc)
          · exact l2.out c hc
        · exact k2.out c (List.mem_of_mem_drop hc))
      rfl (by omega) (fun j k c hj hc => by
        rw [hkd.out] at hj
        have hx3 := kx.out.trans hb13.out
        have htl : (t.kids.take (0)).length = (css.take (0)).length := by rw [List.length_take, List.length_take, k1.out]
        by_cases hj1 : j < (t.kids.take (0) ++ l).length
        · rw [List.getElem?_append_left hj1] at hj
          rw [List.getElem?_append_left (by rw [List.length_append] at hj1 ⊢; rw [← htl, l1.out]; exact hj1)] at hc
          by_cases hj2 : j < (t.kids.take (0)).length
          · rw [List.getElem?_append_left hj2] at hj
            rw [List.getElem?_append_left (by rw [← htl]; exact hj2)] at hc
            rw [List.getElem?_take] at hj hc
            split at hj
            · rename_i hji; rw [if_pos hji] at hc; exact (k4.out j k c hj hc).ext hx3
            · cases hj
          · rw [List.getElem?_append_right (by omega)] at hj hc
            rw [← htl] at hc
            exact (l4.out _ k c hj hc).ext hx3
        · have hle : (t.kids.take (0) ++ l).length = (css.take (0) ++ lss).length := by rw [List.length_append, List.length_append, htl, l1.out]
          rw [List.getElem?_append_right (by omega)] at hj hc
          rw [← hle] at hc
          rw [List.getElem?_drop] at hj hc
          exact (k4.out _ k c hj hc).ext hx3)
      (by have := ho3; rw [List.flatten_append, List.flatten_append, ← (kft.out (0)).1, ← (kft.out (0 + 0)).2]; exact this)
    have hrow3 := Hd.mk hrow3
    clear ho1 ho2 ho3
    have gA := kA.out.cell
    have fA := kA.out.free
    go_wp2_with ((with_reducible refine stop_at (.load 54 (.tmp 4)) ?_))
    refine Stop.mk ?_
    have hu := Upd.setCell w3 ⟨p, 5, none⟩ (.slice A3 kd.length cap3)
    have kA4 := kA.out.setCell 5 (.slice A3 kd.length cap3)
    generalize w3.setCell _ _ = W4 at *
    replace kA := Hd.mk kA4
    replace kR := Hd.mk (hu.blk (by show p + 1 ≠ p; omega) kR.out)
    replace kx := Hd.mk (show Ext w W4 from Below.trans (kx.out.trans hb13.out) (hu.below (Nat.le_of_eq hp.out)))
    replace hrow3 := Hd.mk (hrow3.out.keep (w' := W4) (S' := fun b => (S b ∧ b < p) ∨ W.heap.size ≤ b) (fun b off v hb hc => ⟨hb, by rw [← hc]; exact World.cell?_of_block (hu.block b (by have := hpW.out; show b ≠ p; rcases hb with ⟨_, h⟩ | h <;> omega))⟩))
    clear hu kA4 gA fA hb13
    have gA := kA.out.cell
    have gR := kR.out.cell
    have fR := kR.out.free
    go_wp2_with fail
    have hu := Hd.mk ((((((Upd.setCell W4 ⟨p + 1, 0, none⟩ (.string t.name)).trans (Upd.setCell _ ⟨p + 1, 1, none⟩ (.string t.key))).trans (Upd.setCell _ ⟨p + 1, 2, none⟩ (.int .i64 t.kind))).trans (Upd.setCell _ ⟨p + 1, 3, none⟩ (.int .u64 t.num))).trans (Upd.setCell _ ⟨p + 1, 4, none⟩ (.string t.text))).trans (Upd.setCell _ ⟨p + 1, 5, none⟩ (.slice A3 kd.length cap3)))
    exact ret_box rfl (p + 1) _ 54 _ ((((((kR.out.setCell 0 (.string t.name)).setCell 1 (.string t.key)).setCell 2 (.int .i64 t.kind)).setCell 3 (.int .u64 t.num)).setCell 4 (.string t.text)).setCell 5 (.slice A3 kd.length cap3)) rfl rfl Try.underlying54 rfl size54
      ⟨_, rfl, _, rfl, RT.of_row (t := t.wk kd) (hrow3.out.keep (S' := fun b => S b ∨ w.heap.size ≤ b) (fun b off v hb hc => ⟨by rcases hb with ⟨h, _⟩ | h; exact .inl h; exact .inr (by rw [hp.out]; have := hpW.out; omega), by rw [← hc]; exact World.cell?_of_block (hu.out.block b (by have := hpW.out; show b ≠ p + 1; rcases hb with ⟨_, h⟩ | h <;> omega))⟩)), Below.trans kx.out (hu.out.below (by rw [hp.out]; show p ≤ p + 1; omega))⟩
  | some ad0 =>
    by_cases hkc : kc = i + m
    · subst hkc
      have hsrcA : ∀ W, Ext w W → ∀ j u, css.flatten[j]? = some u → W.cell? (ad0.add j) = some u := fun W hW j u hj => by
        have hne : t.kids ≠ [] := fun e => by
          have : css = [] := List.eq_nil_of_length_eq_zero (by rw [k1.out, e]; rfl)
          subst this
          simp at hj
        obtain ⟨b, off, he, _, hc⟩ := k3.out hne
        cases he
        rw [addr_add]
        exact Ext.cell hW (hc j u hj)
      have hsrc1 : Hd (∀ W, Ext w W → ∀ ad, some ad0 = some ad → ∀ j u, (css.flatten.take (i * 6))[j]? = some u → W.cell? (ad.add j) = some u) := ⟨fun W hW ad had j u hj => by
        cases had
        rw [List.getElem?_take] at hj
        split at hj
        · exact hsrcA W hW j u hj
        · cases hj⟩
      have hsrc3 : Hd (∀ W, Ext w W → ∀ ad, (some ad0) = some ad → ∀ j u, (css.flatten.drop ((i + m) * 6))[j]? = some u → W.cell? (ad.add j) = some u) := ⟨fun W hW ad had j u hj => by
        rw [List.getElem?_drop] at hj
        have := (List.getElem?_eq_some_iff.1 hj).1
        rw [kfl.out, k1.out] at this
        omega⟩
      clear hsrcA
      have i1 : ((i : Int) + (m : Int)).toNat = i + m := by omega
      have i2 : (0 : Int) ≤ (i : Int) + (m : Int) := by omega
      have i3 : (i : Int) + (m : Int) ≤ (t.kids.length : Int) := by omega
      have i4 : i ≤ (i + m) := by omega
      have i5 : IntKind.i64.wrap ((i : Int) + (m : Int)) = (i : Int) + (m : Int) := by rw [IntKind.wrap_i64]; omega
      go_enter Try.func153, Try.ntmps153
      go_wp2_with ((with_reducible refine stop_at (.fieldAddr 54 (.tmp 4) 3) ?_))
      refine Stop.mk ?_
      have kx := Hd.mk ((Ext.alloc w (.cells #[.string t.name, .string t.key, .int .i64 t.kind, .int .u64 t.num, .string t.text, .slice (some ad0) t.kids.length (i + m)] 54)).trans (Ext.alloc _ (.cells #[.string ⟨#[]⟩, .string ⟨#[]⟩, .int .i64 0, .int .u64 0, .string ⟨#[]⟩, .slice none 0 0] 54)))
      have kA := Hd.mk ((Blk.new w #[.string t.name, .string t.key, .int .i64 t.kind, .int .u64 t.num, .string t.text, .slice (some ad0) t.kids.length (i + m)] 54).alloc (.cells #[.string ⟨#[]⟩, .string ⟨#[]⟩, .int .i64 0, .int .u64 0, .string ⟨#[]⟩, .slice none 0 0] 54))
      have kR := Hd.mk (Blk.new2 w (.cells #[.string t.name, .string t.key, .int .i64 t.kind, .int .u64 t.num, .string t.text, .slice (some ad0) t.kids.length (i + m)] 54) #[.string ⟨#[]⟩, .string ⟨#[]⟩, .int .i64 0, .int .u64 0, .string ⟨#[]⟩, .slice none 0 0] 54)
      have hpW := Hd.mk (show w.heap.size + 1 < ((w.alloc _).alloc _).heap.size from kR.out.lt)
      generalize (w.alloc _).alloc _ = W at *
      generalize hp : w.heap.size = p at *
      replace hp := Hd.mk hp
      have gA := kA.out.cell
      go_wp2_with ((with_reducible refine stop_at (.call { callee := .builtin .append, args := #[.tmp 10, .tmp 14], argTypes := #[52, 52] }) ?_))
      refine Stop.mk ?_
      refine wpl_append_src 10 14 15 _ _ _ W.heap.size (.slice none 0 0) 0 [] rfl ⟨rfl, .inl ⟨rfl, rfl⟩⟩ (some ad0) (i) (i + m) (css.flatten.take ((i) * 6)) rfl (fun h => by cases h) (by rw [List.length_take, kfl.out, k1.out]; omega) (hsrc1.out _ kx.out) (all_take kone.out _).1 (by omega) (Nat.le_refl _) ?_
      intro v1 w1 ho1 hb1
      rw [Nat.zero_add, List.nil_append] at ho1
      have ho1 := Hd.mk ho1
      have hb1 := Hd.mk hb1
      replace kA := Hd.mk (kA.out.ext hb1.out)
      replace kR := Hd.mk (kR.out.ext hb1.out)
      clear gA
      go_wp2_with ((with_reducible refine stop_at (.call { callee := .builtin .append, args := #[.tmp 16, .tmp 17], argTypes := #[52, 52] }) ?_))
      refine Stop.mk ?_
      refine wpl_append_src 16 17 18 _ _ _ W.heap.size v1 (i) _ rfl ho1.out L l.length lc lss.flatten rfl hLn.out (by rw [lfl.out, l1.out]) (hlsrc.out _ (kx.out.trans hb1.out)) lone.out (by omega) hb1.out.size ?_
      intro v2 w2 ho2 hb2
      have ho2 := Hd.mk ho2
      have hb12 := Hd.mk (show Ext W w2 from Below.trans hb1.out hb2)
      replace kA := Hd.mk (show Blk w2 p _ 54 from (hb2.block p (by have := hpW.out; omega)).trans kA.out)
      replace kR := Hd.mk (show Blk w2 (p + 1) _ 54 from (hb2.block (p + 1) hpW.out).trans kR.out)
      clear hb1 hb2
      have gA := kA.out.cell
      go_wp2_with ((with_reducible refine stop_at (.call { callee := .builtin .append, args := #[.tmp 19, .tmp 25], argTypes := #[52, 52] }) ?_))
      refine Stop.mk ?_
      refine wpl_append_src 19 25 26 _ _ _ W.heap.size v2 (i + l.length) _ rfl ho2.out (some ad0) 0 0 (css.flatten.drop ((i + m) * 6)) rfl (fun h => by cases h) (by rw [List.length_drop, kfl.out, k1.out]; omega) (hsrc3.out _ (kx.out.trans hb12.out)) (all_take kone.out _).2 (by omega) hb12.out.size ?_
      intro v3 w3 ho3 hb3
      have hb13 := Hd.mk (show Ext W w3 from Below.trans hb12.out hb3)
      replace kA := Hd.mk (show Blk w3 p _ 54 from (hb3.block p (by have := hpW.out; omega)).trans kA.out)
      replace kR := Hd.mk (show Blk w3 (p + 1) _ 54 from (hb3.block (p + 1) hpW.out).trans kR.out)
      clear hb3 hb12 gA
      have hN : i + l.length + 0 = kd.length := by rw [hkd.out]; simp only [List.length_append, List.length_take, List.length_drop]; omega
      rw [hN] at ho3
      obtain ⟨A3, cap3, rfl, hrow3⟩ := rrow_of_own (S := fun b => S b ∧ b < p) (w := w3) (kids := kd) (css := css.take (i) ++ lss ++ css.drop (i + m)) (n := kd.length) (by rw [hkd.out]; simp [k1.out, l1.out]) (fun c hc => by
          rcases List.mem_append.1 hc with hc | hc
          · rcases List.mem_append.1 hc with hc | hc
            · exact k2.out c (List.mem_of_mem_take hc)
            · exact l2.out c hc
          · exact k2.out c (List.mem_of_mem_drop hc))
        rfl (by omega) (fun j k c hj hc => by
          rw [hkd.out] at hj
          have hx3 := kx.out.trans hb13.out
          have htl : (t.kids.take (i)).length = (css.take (i)).length := by rw [List.length_take, List.length_take, k1.out]
          by_cases hj1 : j < (t.kids.take (i) ++ l).length
          · rw [List.getElem?_append_left hj1] at hj
            rw [List.getElem?_append_left (by rw [List.length_append] at hj1 ⊢; rw [← htl, l1.out]; exact hj1)] at hc
            by_cases hj2 : j < (t.kids.take (i)).length
            · rw [List.getElem?_append_left hj2] at hj
              rw [List.getElem?_append_left (by rw [← htl]; exact hj2)] at hc
              rw [List.getElem?_take] at hj hc
              split at hj
              · rename_i hji; rw [if_pos hji] at hc; exact (k4.out j k c hj hc).ext hx3
              · cases hj
            · rw [List.getElem?_append_right (by omega)] at hj hc
              rw [← htl] at hc
              exact (l4.out _ k c hj hc).ext hx3
          · have hle : (t.kids.take (i) ++ l).length = (css.take (i) ++ lss).length := by rw [List.length_append, List.length_append, htl, l1.out]
            rw [List.getElem?_append_right (by omega)] at hj hc
            rw [← hle] at hc
            rw [List.getElem?_drop] at hj hc
            exact (k4.out _ k c hj hc).ext hx3)
        (by have := ho3; rw [List.flatten_append, List.flatten_append, ← (kft.out (i)).1, ← (kft.out (i + m)).2]; exact this)
      have hrow3 := Hd.mk hrow3
      clear ho1 ho2 ho3
      have gA := kA.out.cell
      have fA := kA.out.free
      go_wp2_with ((with_reducible refine stop_at (.load 54 (.tmp 4)) ?_))
      refine Stop.mk ?_
      have hu := Upd.setCell w3 ⟨p, 5, none⟩ (.slice A3 kd.length cap3)
      have kA4 := kA.out.setCell 5 (.slice A3 kd.length cap3)
      generalize w3.setCell _ _ = W4 at *
      replace kA := Hd.mk kA4
      replace kR := Hd.mk (hu.blk (by show p + 1 ≠ p; omega) kR.out)
      replace kx := Hd.mk (show Ext w W4 from Below.trans (kx.out.trans hb13.out) (hu.below (Nat.le_of_eq hp.out)))
      replace hrow3 := Hd.mk (hrow3.out.keep (w' := W4) (S' := fun b => (S b ∧ b < p) ∨ W.heap.size ≤ b) (fun b off v hb hc => ⟨hb, by rw [← hc]; exact World.cell?_of_block (hu.block b (by have := hpW.out; show b ≠ p; rcases hb with ⟨_, h⟩ | h <;> omega))⟩))
      clear hu kA4 gA fA hb13
      have gA := kA.out.cell
      have gR := kR.out.cell
      have fR := kR.out.free
      go_wp2_with fail
      have hu := Hd.mk ((((((Upd.setCell W4 ⟨p + 1, 0, none⟩ (.string t.name)).trans (Upd.setCell _ ⟨p + 1, 1, none⟩ (.string t.key))).trans (Upd.setCell _ ⟨p + 1, 2, none⟩ (.int .i64 t.kind))).trans (Upd.setCell _ ⟨p + 1, 3, none⟩ (.int .u64 t.num))).trans (Upd.setCell _ ⟨p + 1, 4, none⟩ (.string t.text))).trans (Upd.setCell _ ⟨p + 1, 5, none⟩ (.slice A3 kd.length cap3)))
      exact ret_box rfl (p + 1) _ 54 _ ((((((kR.out.setCell 0 (.string t.name)).setCell 1 (.string t.key)).setCell 2 (.int .i64 t.kind)).setCell 3 (.int .u64 t.num)).setCell 4 (.string t.text)).setCell 5 (.slice A3 kd.length cap3)) rfl rfl Try.underlying54 rfl size54
        ⟨_, rfl, _, rfl, RT.of_row (t := t.wk kd) (hrow3.out.keep (S' := fun b => S b ∨ w.heap.size ≤ b) (fun b off v hb hc => ⟨by rcases hb with ⟨h, _⟩ | h; exact .inl h; exact .inr (by rw [hp.out]; have := hpW.out; omega), by rw [← hc]; exact World.cell?_of_block (hu.out.block b (by have := hpW.out; show b ≠ p + 1; rcases hb with ⟨_, h⟩ | h <;> omega))⟩)), Below.trans kx.out (hu.out.below (by rw [hp.out]; show p ≤ p + 1; omega))⟩
    · skip
      have hsrcA : ∀ W, Ext w W → ∀ j u, css.flatten[j]? = some u → W.cell? (ad0.add j) = some u := fun W hW j u hj => by
        have hne : t.kids ≠ [] := fun e => by
          have : css = [] := List.eq_nil_of_length_eq_zero (by rw [k1.out, e]; rfl)
          subst this
          simp at hj
        obtain ⟨b, off, he, _, hc⟩ := k3.out hne
        cases he
        rw [addr_add]
        exact Ext.cell hW (hc j u hj)
      have hsrc1 : Hd (∀ W, Ext w W → ∀ ad, some ad0 = some ad → ∀ j u, (css.flatten.take (i * 6))[j]? = some u → W.cell? (ad.add j) = some u) := ⟨fun W hW ad had j u hj => by
        cases had
        rw [List.getElem?_take] at hj
        split at hj
        · exact hsrcA W hW j u hj
        · cases hj⟩
      have hsrc3 : Hd (∀ W, Ext w W → ∀ ad, (some (ad0.add ((i + m) * 6))) = some ad → ∀ j u, (css.flatten.drop ((i + m) * 6))[j]? = some u → W.cell? (ad.add j) = some u) := ⟨fun W hW ad had j u hj => by
        rw [List.getElem?_drop] at hj
        cases had
        rw [addr_add_add]
        exact hsrcA W hW _ u hj⟩
      clear hsrcA
      have i1 : ((i : Int) + (m : Int)).toNat = i + m := by omega
      have i2 : (0 : Int) ≤ (i : Int) + (m : Int) := by omega
      have i3 : (i : Int) + (m : Int) ≤ (t.kids.length : Int) := by omega
      have i4 : i ≤ kc := by omega
      have i5 : IntKind.i64.wrap ((i : Int) + (m : Int)) = (i : Int) + (m : Int) := by rw [IntKind.wrap_i64]; omega
      go_enter Try.func153, Try.ntmps153
      go_wp2_with ((with_reducible refine stop_at (.fieldAddr 54 (.tmp 4) 3) ?_))
      refine Stop.mk ?_
      have kx := Hd.mk ((Ext.alloc w (.cells #[.string t.name, .string t.key, .int .i64 t.kind, .int .u64 t.num, .string t.text, .slice (some ad0) t.kids.length kc] 54)).trans (Ext.alloc _ (.cells #[.string ⟨#[]⟩, .string ⟨#[]⟩, .int .i64 0, .int .u64 0, .string ⟨#[]⟩, .slice none 0 0] 54)))
      have kA := Hd.mk ((Blk.new w #[.string t.name, .string t.key, .int .i64 t.kind, .int .u64 t.num, .string t.text, .slice (some ad0) t.kids.length kc] 54).alloc (.cells #[.string ⟨#[]⟩, .string ⟨#[]⟩, .int .i64 0, .int .u64 0, .string ⟨#[]⟩, .slice none 0 0] 54))
      have kR := Hd.mk (Blk.new2 w (.cells #[.string t.name, .string t.key, .int .i64 t.kind, .int .u64 t.num, .string t.text, .slice (some ad0) t.kids.length kc] 54) #[.string ⟨#[]⟩, .string ⟨#[]⟩, .int .i64 0, .int .u64 0, .string ⟨#[]⟩, .slice none 0 0] 54)
      have hpW := Hd.mk (show w.heap.size + 1 < ((w.alloc _).alloc _).heap.size from kR.out.lt)
      generalize (w.alloc _).alloc _ = W at *
      generalize hp : w.heap.size = p at *
      replace hp := Hd.mk hp
      have gA := kA.out.cell
      go_wp2_with ((with_reducible refine stop_at (.call { callee := .builtin .append, args := #[.tmp 10, .tmp 14], argTypes := #[52, 52] }) ?_))
      refine Stop.mk ?_
      refine wpl_append_src 10 14 15 _ _ _ W.heap.size (.slice none 0 0) 0 [] rfl ⟨rfl, .inl ⟨rfl, rfl⟩⟩ (some ad0) (i) kc (css.flatten.take ((i) * 6)) rfl (fun h => by cases h) (by rw [List.length_take, kfl.out, k1.out]; omega) (hsrc1.out _ kx.out) (all_take kone.out _).1 (by omega) (Nat.le_refl _) ?_
      intro v1 w1 ho1 hb1
      rw [Nat.zero_add, List.nil_append] at ho1
      have ho1 := Hd.mk ho1
      have hb1 := Hd.mk hb1
      replace kA := Hd.mk (kA.out.ext hb1.out)
      replace kR := Hd.mk (kR.out.ext hb1.out)
      clear gA
      go_wp2_with ((with_reducible refine stop_at (.call { callee := .builtin .append, args := #[.tmp 16, .tmp 17], argTypes := #[52, 52] }) ?_))
      refine Stop.mk ?_
      refine wpl_append_src 16 17 18 _ _ _ W.heap.size v1 (i) _ rfl ho1.out L l.length lc lss.flatten rfl hLn.out (by rw [lfl.out, l1.out]) (hlsrc.out _ (kx.out.trans hb1.out)) lone.out (by omega) hb1.out.size ?_
      intro v2 w2 ho2 hb2
      have ho2 := Hd.mk ho2
      have hb12 := Hd.mk (show Ext W w2 from Below.trans hb1.out hb2)
      replace kA := Hd.mk (show Blk w2 p _ 54 from (hb2.block p (by have := hpW.out; omega)).trans kA.out)
      replace kR := Hd.mk (show Blk w2 (p + 1) _ 54 from (hb2.block (p + 1) hpW.out).trans kR.out)
      clear hb1 hb2
      have gA := kA.out.cell
      go_wp2_with ((with_reducible refine stop_at (.call { callee := .builtin .append, args := #[.tmp 19, .tmp 25], argTypes := #[52, 52] }) ?_))
      refine Stop.mk ?_
      refine wpl_append_src 19 25 26 _ _ _ W.heap.size v2 (i + l.length) _ rfl ho2.out (some (ad0.add ((i + m) * 6))) (t.kids.length - (i + m)) (kc - (i + m)) (css.flatten.drop ((i + m) * 6)) rfl (fun h => by cases h) (by rw [List.length_drop, kfl.out, k1.out]; omega) (hsrc3.out _ (kx.out.trans hb12.out)) (all_take kone.out _).2 (by omega) hb12.out.size ?_
      intro v3 w3 ho3 hb3
      have hb13 := Hd.mk (show Ext W w3 from Below.trans hb12.out hb3)
      replace kA := Hd.mk (show Blk w3 p _ 54 from (hb3.block p (by have := hpW.out; omega)).trans kA.out)
      replace kR := Hd.mk (show Blk w3 (p + 1) _ 54 from (hb3.block (p + 1) hpW.out).trans kR.out)
      clear hb3 hb12 gA
      have hN : i + l.length + (t.kids.length - (i + m)) = kd.length := by rw [hkd.out]; simp only [List.length_append, List.length_take, List.length_drop]; omega
      rw [hN] at ho3
      obtain ⟨A3, cap3, rfl, hrow3⟩ := rrow_of_own (S := fun b => S b ∧ b < p) (w := w3) (kids := kd) (css := css.take (i) ++ lss ++ css.drop (i + m)) (n := kd.length) (by rw [hkd.out]; simp [k1.out, l1.out]) (fun c hc => by
          rcases List.mem_append.1 hc with hc | hc
          · rcases List.mem_append.1 hc with hc | hc
            · exact k2.out c (List.mem_of_mem_take hc)
            · exact l2.out c hc
          · exact k2.out c (List.mem_of_mem_drop hc))
        rfl (by omega) (fun j k c hj hc => by
          rw [hkd.out] at hj
          have hx3 := kx.out.trans hb13.out
          have htl : (t.kids.take (i)).length = (css.take (i)).length := by rw [List.length_take, List.length_take, k1.out]
          by_cases hj1 : j < (t.kids.take (i) ++ l).length
          · rw [List.getElem?_append_left hj1] at hj
            rw [List.getElem?_append_left (by rw [List.length_append] at hj1 ⊢; rw [← htl, l1.out]; exact hj1)] at hc
            by_cases hj2 : j < (t.kids.take (i)).length
            · rw [List.getElem?_append_left hj2] at hj
              rw [List.getElem?_append_left (by rw [← htl]; exact hj2)] at hc
              rw [List.getElem?_take] at hj hc
              split at hj
              · rename_i hji; rw [if_pos hji] at hc; exact (k4.out j k c hj hc).ext hx3
              · cases hj
            · rw [List.getElem?_append_right (by omega)] at hj hc
              rw [← htl] at hc
              exact (l4.out _ k c hj hc).ext hx3
          · have hle : (t.kids.take (i) ++ l).length = (css.take (i) ++ lss).length := by rw [List.length_append, List.length_append, htl, l1.out]
            rw [List.getElem?_append_right (by omega)] at hj hc
            rw [← hle] at hc
            rw [List.getElem?_drop] at hj hc
            exact (k4.out _ k c hj hc).ext hx3)
        (by have := ho3; rw [List.flatten_append, List.flatten_append, ← (kft.out (i)).1, ← (kft.out (i + m)).2]; exact this)
      have hrow3 := Hd.mk hrow3
      clear ho1 ho2 ho3
      have gA := kA.out.cell
      have fA := kA.out.free
      go_wp2_with ((with_reducible refine stop_at (.load 54 (.tmp 4)) ?_))
      refine Stop.mk ?_
      have hu := Upd.setCell w3 ⟨p, 5, none⟩ (.slice A3 kd.length cap3)
      have kA4 := kA.out.setCell 5 (.slice A3 kd.length cap3)
      generalize w3.setCell _ _ = W4 at *
      replace kA := Hd.mk kA4
      replace kR := Hd.mk (hu.blk (by show p + 1 ≠ p; omega) kR.out)
      replace kx := Hd.mk (show Ext w W4 from Below.trans (kx.out.trans hb13.out) (hu.below (Nat.le_of_eq hp.out)))
      replace hrow3 := Hd.mk (hrow3.out.keep (w' := W4) (S' := fun b => (S b ∧ b < p) ∨ W.heap.size ≤ b) (fun b off v hb hc => ⟨hb, by rw [← hc]; exact World.cell?_of_block (hu.block b (by have := hpW.out; show b ≠ p; rcases hb with ⟨_, h⟩ | h <;> omega))⟩))
      clear hu kA4 gA fA hb13
      have gA := kA.out.cell
      have gR := kR.out.cell
      have fR := kR.out.free
      go_wp2_with fail
      have hu := Hd.mk ((((((Upd.setCell W4 ⟨p + 1, 0, none⟩ (.string t.name)).trans (Upd.setCell _ ⟨p + 1, 1, none⟩ (.string t.key))).trans (Upd.setCell _ ⟨p + 1, 2, none⟩ (.int .i64 t.kind))).trans (Upd.setCell _ ⟨p + 1, 3, none⟩ (.int .u64 t.num))).trans (Upd.setCell _ ⟨p + 1, 4, none⟩ (.string t.text))).trans (Upd.setCell _ ⟨p + 1, 5, none⟩ (.slice A3 kd.length cap3)))
      exact ret_box rfl (p + 1) _ 54 _ ((((((kR.out.setCell 0 (.string t.name)).setCell 1 (.string t.key)).setCell 2 (.int .i64 t.kind)).setCell 3 (.int .u64 t.num)).setCell 4 (.string t.text)).setCell 5 (.slice A3 kd.length cap3)) rfl rfl Try.underlying54 rfl size54
        ⟨_, rfl, _, rfl, RT.of_row (t := t.wk kd) (hrow3.out.keep (S' := fun b => S b ∨ w.heap.size ≤ b) (fun b off v hb hc => ⟨by rcases hb with ⟨h, _⟩ | h; exact .inl h; exact .inr (by rw [hp.out]; have := hpW.out; omega), by rw [← hc]; exact World.cell?_of_block (hu.out.block b (by have := hpW.out; show b ≠ p + 1; rcases hb with ⟨_, h⟩ | h <;> omega))⟩)), Below.trans kx.out (hu.out.below (by rw [hp.out]; show p ≤ p + 1; omega))⟩
end Go.Proofs.Ytgkgedjmnbjalaa
set_option linter.unusedSimpArgs false
namespace Go.Proofs.Ytgkgedjmnbjalaa
open Go.RowKit Go.Sort
theorem WRow.tail' {S : Nat → Prop} {w : World} {b off : Nat} {x : Step} {l : List Step} {c : Nat} (h : WRow S w (some ⟨b, off, none⟩) (x :: l) c) : WRow S w (if c = 1 then some ⟨b, off, none⟩ else some ⟨b, off + 2, none⟩) l (c - 1) := by
  obtain ⟨h1, h2, h3, h4⟩ := h
  simp only [List.length_cons] at h1 h2
  refine ⟨by omega, by omega, fun h => (by split at h <;> cases h), fun hne => ?_⟩
  have hl : 0 < l.length := List.length_pos_iff.2 hne
  rw [if_neg (by omega)]
  obtain ⟨b', off', h5, h6, h7⟩ := h4 (by simp)
  simp only [Option.some.injEq, Addr.mk.injEq, and_true] at h5
  obtain ⟨rfl, rfl⟩ := h5
  refine ⟨b, off + 2, rfl, h6, fun j v hj => ?_⟩
  have := h7 (j + 2) v (by simpa [wcells] using hj)
  rw [show off + 2 + j = off + (j + 2) by omega]; exact this
def spTS (S : Nat → Prop) (t : T) : SP := ⟨fun v w => ∃ c : List Value, v = .agg c.toArray ∧ RT S w t c, fun _ _ _ h ⟨c, e, hr⟩ => ⟨c, e, hr.ext h⟩⟩
def spS2 (S : Nat → Prop) (t : T) (z : Value) : SP := ⟨fun v w => ∃ c : List Value, v = .tuple #[.agg c.toArray, z] ∧ RT S w t c, fun _ _ _ h ⟨c, e, hr⟩ => ⟨c, e, hr.ext h⟩⟩
def RGPost (S : Nat → Prop) (o : Option T) (w w' : World) (v : Value) : Prop := Ext w w' ∧ ((o = none ∧ v = .tuple #[.agg #[.string ⟨#[]⟩, .string ⟨#[]⟩, .int .i64 0, .int .u64 0, .string ⟨#[]⟩, .slice none 0 0], .bool false]) ∨ ∃ u c, o = some u ∧ v = .tuple #[.agg (c : List Value).toArray, .bool true] ∧ RT S w' u c)
set_option maxRecDepth 100000 in
set_option maxHeartbeats 4000000 in
theorem ref_get : ∀ (way : List Step) (t : T) (S S' : Nat → Prop) (w : World) (c : List Value) (A : Option Addr) (ac : Nat), RT S w t c → WRow S' w A way ac →
    Calls Try.prog 69 #[.agg c.toArray, .slice A way.length ac] w (Ret (RGPost S (getT t way) w))
  | [], t, S, S', w, c, A, ac, h, hw => by
    obtain ⟨K, kc, rfl, _⟩ := h.row
    have kr := Hd.mk (h.mono (S' := fun b => S b ∧ b < w.heap.size) (fun b hb hs => ⟨hs, hb⟩))
    clear h hw
    have hg0 : getT t [] = some t := rfl
    rw [hg0, List.length_nil]
    simp only [cT] at kr ⊢
    go_enter Try.func69, Try.ntmps69
    go_wp2_with ((with_reducible refine stop_at (.load 54 (.tmp 2)) ?_))
    refine Stop.mk ?_
    have kx := Hd.mk ((Ext.alloc w (.cells #[.string t.name, .string t.key, .int .i64 t.kind, .int .u64 t.num, .string t.text, .slice K t.kids.length kc] 54)).trans (Ext.alloc _ (.cells #[.string ⟨#[]⟩, .string ⟨#[]⟩, .int .i64 0, .int .u64 0, .string ⟨#[]⟩, .slice none 0 0] 54)))
    have kA := Hd.mk ((Blk.new w #[.string t.name, .string t.key, .int .i64 t.kind, .int .u64 t.num, .string t.text, .slice K t.kids.length kc] 54).alloc (.cells #[.string ⟨#[]⟩, .string ⟨#[]⟩, .int .i64 0, .int .u64 0, .string ⟨#[]⟩, .slice none 0 0] 54))
    have kR := Hd.mk (Blk.new2 w (.cells #[.string t.name, .string t.key, .int .i64 t.kind, .int .u64 t.num, .string t.text, .slice K t.kids.length kc] 54) #[.string ⟨#[]⟩, .string ⟨#[]⟩, .int .i64 0, .int .u64 0, .string ⟨#[]⟩, .slice none 0 0] 54)
    generalize (w.alloc _).alloc _ = W at *
    generalize hp : w.heap.size = p at *
    replace hp := Hd.mk hp
    have gA := kA.out.cell
    have gR := kR.out.cell
    have fR := kR.out.free
    go_wp2_with fail
    have hu := Hd.mk ((((((Upd.setCell W ⟨p + 1, 0, none⟩ (.string t.name)).trans (Upd.setCell _ ⟨p + 1, 1, none⟩ (.string t.key))).trans (Upd.setCell _ ⟨p + 1, 2, none⟩ (.int .i64 t.kind))).trans (Upd.setCell _ ⟨p + 1, 3, none⟩ (.int .u64 t.num))).trans (Upd.setCell _ ⟨p + 1, 4, none⟩ (.string t.text))).trans (Upd.setCell _ ⟨p + 1, 5, none⟩ (.slice K t.kids.length kc)))
    exact ret_box2 rfl (p + 1) _ 54 _ ((((((kR.out.setCell 0 (.string t.name)).setCell 1 (.string t.key)).setCell 2 (.int .i64 t.kind)).setCell 3 (.int .u64 t.num)).setCell 4 (.string t.text)).setCell 5 (.slice K t.kids.length kc)) rfl rfl Try.underlying54 rfl size54
      ⟨_, rfl, Below.trans kx.out (hu.out.below (by rw [hp.out]; show p ≤ p + 1; omega)), .inr ⟨t, _, rfl, rfl, (RT.keep (S' := S) (fun b off v hb hc => ⟨hb.1, by rw [← Ext.cell kx.out hc]; exact World.cell?_of_block (hu.out.block b (by show b ≠ p + 1; have := hb.2; have := hp.out; omega))⟩) kr.out)⟩⟩
  | s :: r, t, S, S', w, c, A, ac, h, hw => by
    obtain ⟨K, kc, rfl, hrow⟩ := h.row
    have hwl := hw.len
    have hwc := hw.cap
    obtain ⟨b2, o2, rfl, _, hdk⟩ := WRow.at hw (j := 0) (x := s) rfl
    have kw := Hd.mk hw.tail'
    have ih := Hd.mk (ref_get r)
    have hfd := Hd.mk (fun W (hx : Ext w W) => ref_find t s _ W _ (h.ext hx))
    have kr := Hd.mk h
    have hrow := Hd.mk (hrow.mono' (S' := fun b => S b ∧ b < w.heap.size) (fun b hb hs => ⟨hs, hb⟩))
    have hg := Hd.mk (getT_cons t s r)
    clear h hw
    simp only [List.length_cons] at hwl hwc ⊢
    simp only [cT] at kr hfd ⊢
    generalize ho : getT t (s :: r) = og at *
    obtain ⟨s1, s2⟩ := s
    generalize hL : r.length = L at *
    replace hL := Hd.mk hL
    go_enter Try.func69, Try.ntmps69
    go_wp2_with fail
    have kx := Hd.mk ((Ext.alloc w (.cells #[.string t.name, .string t.key, .int .i64 t.kind, .int .u64 t.num, .string t.text, .slice K t.kids.length kc] 54)).trans (Ext.alloc _ (.cells #[.string ⟨#[]⟩, .string ⟨#[]⟩, .int .i64 0, .int .u64 0, .string ⟨#[]⟩, .slice none 0 0] 54)))
    have kA := Hd.mk ((Blk.new w #[.string t.name, .string t.key, .int .i64 t.kind, .int .u64 t.num, .string t.text, .slice K t.kids.length kc] 54).alloc (.cells #[.string ⟨#[]⟩, .string ⟨#[]⟩, .int .i64 0, .int .u64 0, .string ⟨#[]⟩, .slice none 0 0] 54))
    have kR := Hd.mk (Blk.new2 w (.cells #[.string t.name, .string t.key, .int .i64 t.kind, .int .u64 t.num, .string t.text, .slice K t.kids.length kc] 54) #[.string ⟨#[]⟩, .string ⟨#[]⟩, .int .i64 0, .int .u64 0, .string ⟨#[]⟩, .slice none 0 0] 54)
    generalize (w.alloc _).alloc _ = W at *
    generalize hp : w.heap.size = p at *
    replace hp := Hd.mk hp
    have kcy := Hd.mk (fun (q : Nat) u hq => Ext.cell kx.out (hdk q u hq))
    have hL0 : (0 : Int) < (L : Int) + 1 := by omega
    have hL1 : (1 : Int) ≤ (L : Int) + 1 := by omega
    refine Flow.wp_region_flow_l (fun qq => match qq with
      | 11 => SP.eq (.agg #[.string t.name, .string t.key, .int .i64 t.kind, .int .u64 t.num, .string t.text, .slice K t.kids.length kc])
      | 12 => SP.eq (.slice (some ⟨b2, o2, none⟩) (L + 1) ac)
      | 13 => SP.eq (.pointer (some ⟨b2, o2 + 0 * 2, none⟩))
      | 14 => SP.eq (.agg #[.string s1, .string s2])
      | 15 => SP.eq (.int .i64 (findT t.kids (s1, s2)))
      | 6 => SP.eq (.int .i64 (findT t.kids (s1, s2)))
      | _ => SP.any) 6 (by kernel_rfl) 29 rfl (by kernel_rfl) ?_ ?_
    · skip
      refine ⟨?_, ?_, ?_, ?_, ?_, ?_, trivial⟩
      · intro act W2 hk
        refine Flow.does_intro rfl (fun Kq hK => ?_)
        have e2 : act.tmps[2]?.getD undef = .pointer (some ⟨p, 0, none⟩) := hk.o 2 (by kernel_rfl)
        have g := ((kA.out).ext ((Ext.drew W).trans hk.ext)).cell
        clear hk
        go_simp
        exact hK _ _ (Ext.refl _) (fun d hd => by cases hd; rfl)
      · intro act W2 hk
        refine Flow.does_intro rfl (fun Kq hK => ?_)
        have e1 : act.tmps[1]?.getD undef = .slice (some ⟨b2, o2, none⟩) (L + 1) ac := hk.o 1 (by kernel_rfl)
        clear hk
        go_simp
        exact hK _ _ (Ext.refl _) (fun d hd => by cases hd; rfl)
      · intro act W2 hk
        refine Flow.does_intro rfl (fun Kq hK => ?_)
        have e12 : act.tmps[12]?.getD undef = .slice (some ⟨b2, o2, none⟩) (L + 1) ac := hk.v 12 (by kernel_rfl)
        clear hk
        go_simp
        exact hK _ _ (Ext.refl _) (fun d hd => by cases hd; simp [SP.eq])
      · intro act W2 hk
        refine Flow.does_intro rfl (fun Kq hK => ?_)
        have e13 : act.tmps[13]?.getD undef = .pointer (some ⟨b2, o2 + 0 * 2, none⟩) := hk.v 13 (by kernel_rfl)
        have g0 := Ext.cell ((Ext.drew W).trans hk.ext) ((kcy.out) 0 _ rfl)
        rw [Nat.add_zero] at g0
        have g1 := Ext.cell ((Ext.drew W).trans hk.ext) ((kcy.out) 1 _ rfl)
        clear hk
        go_simp
        exact hK _ _ (Ext.refl _) (fun d hd => by cases hd; rfl)
      · intro act W2 hk
        refine Flow.does_intro rfl (fun Kq hK => ?_)
        have e11 : act.tmps[11]?.getD undef = .agg #[.string t.name, .string t.key, .int .i64 t.kind, .int .u64 t.num, .string t.text, .slice K t.kids.length kc] := hk.v 11 (by kernel_rfl)
        have e14 : act.tmps[14]?.getD undef = .agg #[.string s1, .string s2] := hk.v 14 (by kernel_rfl)
        have hx0 := Hd.mk ((Ext.drew W).trans hk.ext)
        clear hk
        go_simp
        refine Calls.mono (hfd.out _ (kx.out.trans hx0.out)) ?_
        rintro e W3 ⟨rfl, hx⟩
        exact hK _ _ hx (fun d hd => by cases hd; rfl)
      · intro act W2 hk
        refine Flow.does_intro rfl (fun Kq hK => ?_)
        have e15 : act.tmps[15]?.getD undef = .int .i64 (findT t.kids (s1, s2)) := hk.v 15 (by kernel_rfl)
        clear hk
        go_simp
        exact hK _ _ (Ext.refl _) (fun d hd => by cases hd; rfl)
    · intro act V he
      have hxV := Hd.mk ((Ext.drew W).trans he.ext)
      obtain ⟨us, hA, hF⟩ := he.out [11, 12, 13, 14, 15, 6] (by kernel_rfl)
      simp only [Flow.fillL, List.contains_cons, List.contains_nil, Nat.reduceBEq, Bool.or_false, Bool.false_or, Bool.or_true, Bool.true_or, ↓reduceIte, Nat.reduceAdd, Bool.false_eq_true] at hA
      subst hA
      have f6 : us 6 = .int .i64 (findT t.kids (s1, s2)) := hF 6 (by simp)
      clear hF he
      rw [f6]
      clear f6
      refine (show wpList _ _ _ [] _ _ from ?_)
      replace kx := Hd.mk (kx.out.trans hxV.out)
      replace kA := Hd.mk (kA.out.ext hxV.out)
      replace kR := Hd.mk (kR.out.ext hxV.out)
      clear hxV hfd kcy
      rcases findT_kid t.kids (s1, s2) with ⟨hf, hk⟩ | ⟨i, k, hf, hi, hk, _⟩
      · rw [hf]
        have hog := Hd.mk (show og = none by rw [hg.out, hk]; rfl)
        clear hf hk
        have gR := kR.out.cell
        have fR := kR.out.free
        go_wp2_with fail
        have hu := Hd.mk ((((((Upd.setCell V ⟨p + 1, 0, none⟩ (.string ⟨#[]⟩)).trans (Upd.setCell _ ⟨p + 1, 1, none⟩ (.string ⟨#[]⟩))).trans (Upd.setCell _ ⟨p + 1, 2, none⟩ (.int .i64 0))).trans (Upd.setCell _ ⟨p + 1, 3, none⟩ (.int .u64 0))).trans (Upd.setCell _ ⟨p + 1, 4, none⟩ (.string ⟨#[]⟩))).trans (Upd.setCell _ ⟨p + 1, 5, none⟩ (.slice none 0 0)))
        exact ret_box2 rfl (p + 1) _ 54 _ ((((((kR.out.setCell 0 (.string ⟨#[]⟩)).setCell 1 (.string ⟨#[]⟩)).setCell 2 (.int .i64 0)).setCell 3 (.int .u64 0)).setCell 4 (.string ⟨#[]⟩)).setCell 5 (.slice none 0 0)) rfl rfl Try.underlying54 rfl size54
          ⟨_, rfl, Below.trans kx.out (hu.out.below (by rw [hp.out]; show p ≤ p + 1; omega)), .inl ⟨hog.out, rfl⟩⟩
      · rw [hf]
        obtain ⟨b1, o1, ck, rfl, _, hrk, hck⟩ := hrow.out.kid i k hi
        obtain ⟨K9, c9, rfl, _⟩ := hrk.row
        have hil : (i : Int) < (t.kids.length : Int) := by have := (List.getElem?_eq_some_iff.1 hi).1; omega
        have hgk0 : og = getT k r := by rw [hg.out, hk]; rfl
        have hrec := Hd.mk (fun W (hx : Ext V W) => ih.out k _ S' W _ _ _ (hrk.ext (kx.out.trans hx)) (kw.out.ext (kx.out.trans hx)))
        have kck := Hd.mk (fun (q : Nat) u hq => Ext.cell kx.out (hck q u hq))
        simp only [cT] at hrec kck
        clear hf hk hi hrk hck ih kw kr
        cases hgk : getT k r with
        | none =>
          have hog := Hd.mk (hgk0.trans hgk)
          have hgk := Hd.mk hgk
          clear hgk0
          go_wp2_with fail
          refine Flow.wp_region_flow_l (fun qq => match qq with
            | 19 => SP.eq (.pointer (some ⟨p, 5, none⟩))
            | 20 => SP.eq (.slice (some ⟨b1, o1, none⟩) t.kids.length kc)
            | 21 => SP.eq (.int .i64 (i : Nat))
            | 22 => SP.eq (.pointer (some ⟨b1, o1 + i * 6, none⟩))
            | 23 => SP.eq (.agg #[.string k.name, .string k.key, .int .i64 k.kind, .int .u64 k.num, .string k.text, .slice K9 k.kids.length c9])
            | 24 => SP.eq (.slice (some ⟨b2, o2, none⟩) (L + 1) ac)
            | 25 => SP.eq (.slice (if ac = 1 then some ⟨b2, o2, none⟩ else some ⟨b2, o2 + 2, none⟩) L (ac - 1))
            | 26 => SP.eq (.tuple #[.agg #[.string ⟨#[]⟩, .string ⟨#[]⟩, .int .i64 0, .int .u64 0, .string ⟨#[]⟩, .slice none 0 0], .bool false])
            | 27 => SP.eq (.agg #[.string ⟨#[]⟩, .string ⟨#[]⟩, .int .i64 0, .int .u64 0, .string ⟨#[]⟩, .slice none 0 0])
            | 28 => SP.eq (.bool false)
            | _ => SP.any) 10 (by kernel_rfl) 29 rfl (by kernel_rfl) ?_ ?_
          · skip
            refine ⟨?_, ?_, ?_, ?_, ?_, ?_, ?_, ?_, ?_, ?_, trivial⟩
            · intro act W2 hk
              refine Flow.does_intro rfl (fun Kq hK => ?_)
              have e2 : act.tmps[2]?.getD undef = .pointer (some ⟨p, 0, none⟩) := hk.o 2 (by kernel_rfl)
              clear hk
              go_simp
              exact hK _ _ (Ext.refl _) (fun d hd => by cases hd; rfl)
            · intro act W2 hk
              refine Flow.does_intro rfl (fun Kq hK => ?_)
              have e19 : act.tmps[19]?.getD undef = .pointer (some ⟨p, 5, none⟩) := hk.v 19 (by kernel_rfl)
              have g := ((kA.out).ext ((Ext.drew V).trans hk.ext)).cell
              clear hk
              go_simp
              exact hK _ _ (Ext.refl _) (fun d hd => by cases hd; rfl)
            · intro act W2 hk
              refine Flow.does_intro rfl (fun Kq hK => ?_)
              have e6 : act.tmps[6]?.getD undef = .int .i64 (i : Nat) := hk.o 6 (by kernel_rfl)
              clear hk
              go_simp
              exact hK _ _ (Ext.refl _) (fun d hd => by cases hd; rfl)
            · intro act W2 hk
              refine Flow.does_intro rfl (fun Kq hK => ?_)
              have e20 : act.tmps[20]?.getD undef = .slice (some ⟨b1, o1, none⟩) t.kids.length kc := hk.v 20 (by kernel_rfl)
              have e21 : act.tmps[21]?.getD undef = .int .i64 (i : Nat) := hk.v 21 (by kernel_rfl)
              clear hk
              go_simp
              exact hK _ _ (Ext.refl _) (fun d hd => by cases hd; rfl)
            · intro act W2 hk
              refine Flow.does_intro rfl (fun Kq hK => ?_)
              have e22 : act.tmps[22]?.getD undef = .pointer (some ⟨b1, o1 + i * 6, none⟩) := hk.v 22 (by kernel_rfl)
              have g0 := Ext.cell ((Ext.drew V).trans hk.ext) ((kck.out) 0 _ rfl)
              rw [Nat.add_zero] at g0
              have g1 := Ext.cell ((Ext.drew V).trans hk.ext) ((kck.out) 1 _ rfl)
              have g2 := Ext.cell ((Ext.drew V).trans hk.ext) ((kck.out) 2 _ rfl)
              have g3 := Ext.cell ((Ext.drew V).trans hk.ext) ((kck.out) 3 _ rfl)
              have g4 := Ext.cell ((Ext.drew V).trans hk.ext) ((kck.out) 4 _ rfl)
              have g5 := Ext.cell ((Ext.drew V).trans hk.ext) ((kck.out) 5 _ rfl)
              clear hk
              go_simp
              exact hK _ _ (Ext.refl _) (fun d hd => by cases hd; rfl)
            · intro act W2 hk
              refine Flow.does_intro rfl (fun Kq hK => ?_)
              have e1 : act.tmps[1]?.getD undef = .slice (some ⟨b2, o2, none⟩) (L + 1) ac := hk.o 1 (by kernel_rfl)
              clear hk
              go_simp
              exact hK _ _ (Ext.refl _) (fun d hd => by cases hd; rfl)
            · intro act W2 hk
              refine Flow.does_intro rfl (fun Kq hK => ?_)
              have e24 : act.tmps[24]?.getD undef = .slice (some ⟨b2, o2, none⟩) (L + 1) ac := hk.v 24 (by kernel_rfl)
              clear hk
              go_simp
              exact hK _ _ (Ext.refl _) (fun d hd => by cases hd; simp [SP.eq])
            · intro act W2 hk
              refine Flow.does_intro rfl (fun Kq hK => ?_)
              have e23 : act.tmps[23]?.getD undef = .agg #[.string k.name, .string k.key, .int .i64 k.kind, .int .u64 k.num, .string k.text, .slice K9 k.kids.length c9] := hk.v 23 (by kernel_rfl)
              have e25 : act.tmps[25]?.getD undef = .slice (if ac = 1 then some ⟨b2, o2, none⟩ else some ⟨b2, o2 + 2, none⟩) L (ac - 1) := hk.v 25 (by kernel_rfl)
              have hx0 := Hd.mk ((Ext.drew V).trans hk.ext)
              clear hk
              go_simp
              refine Calls.mono (hrec.out _ hx0.out) ?_
              rintro e W3 ⟨_, rfl, hx, hh⟩
              exact hK _ _ hx (fun d hd => by cases hd; (rcases hh with ⟨_, rfl⟩ | ⟨u9, c8, e9, _⟩; rfl; rw [hgk.out] at e9; cases e9))
            · intro act W2 hk
              refine Flow.does_intro rfl (fun Kq hK => ?_)
              have e26 : act.tmps[26]?.getD undef = .tuple #[.agg #[.string ⟨#[]⟩, .string ⟨#[]⟩, .int .i64 0, .int .u64 0, .string ⟨#[]⟩, .slice none 0 0], .bool false] := hk.v 26 (by kernel_rfl)
              clear hk
              go_simp
              exact hK _ _ (Ext.refl _) (fun d hd => by cases hd; rfl)
            · intro act W2 hk
              refine Flow.does_intro rfl (fun Kq hK => ?_)
              have e26 : act.tmps[26]?.getD undef = .tuple #[.agg #[.string ⟨#[]⟩, .string ⟨#[]⟩, .int .i64 0, .int .u64 0, .string ⟨#[]⟩, .slice none 0 0], .bool false] := hk.v 26 (by kernel_rfl)
              clear hk
              go_simp
              exact hK _ _ (Ext.refl _) (fun d hd => by cases hd; rfl)
          · intro act V2 he
            have hxV2 := Hd.mk ((Ext.drew V).trans he.ext)
            obtain ⟨us, hA, hF⟩ := he.out [19, 20, 21, 22, 23, 24, 25, 26, 27, 28] (by kernel_rfl)
            simp only [Flow.fillL, List.contains_cons, List.contains_nil, Nat.reduceBEq, Bool.or_false, Bool.false_or, Bool.or_true, Bool.true_or, ↓reduceIte, Nat.reduceAdd, Bool.false_eq_true] at hA
            subst hA
            have f27 : us 27 = .agg #[.string ⟨#[]⟩, .string ⟨#[]⟩, .int .i64 0, .int .u64 0, .string ⟨#[]⟩, .slice none 0 0] := hF 27 (by simp)
            have f28 : us 28 = .bool false := hF 28 (by simp)
            clear hF he
            rw [f27]
            clear f27
            rw [f28]
            clear f28
            have kR2 := Hd.mk (kR.out.ext hxV2.out)
            have kx2 := Hd.mk (kx.out.trans hxV2.out)
            clear kR hxV2
            have gR := kR2.out.cell
            have fR := kR2.out.free
            refine (show wpList _ _ _ (⟨none, .store 54 (.tmp 4) (.tmp 27), _, _, _, none⟩ :: _) _ _ from ?_)
            go_wp2_with fail
            have hu := Hd.mk ((((((Upd.setCell V2 ⟨p + 1, 0, none⟩ (.string ⟨#[]⟩)).trans (Upd.setCell _ ⟨p + 1, 1, none⟩ (.string ⟨#[]⟩))).trans (Upd.setCell _ ⟨p + 1, 2, none⟩ (.int .i64 0))).trans (Upd.setCell _ ⟨p + 1, 3, none⟩ (.int .u64 0))).trans (Upd.setCell _ ⟨p + 1, 4, none⟩ (.string ⟨#[]⟩))).trans (Upd.setCell _ ⟨p + 1, 5, none⟩ (.slice none 0 0)))
            exact ret_box2 rfl (p + 1) _ 54 _ ((((((kR2.out.setCell 0 (.string ⟨#[]⟩)).setCell 1 (.string ⟨#[]⟩)).setCell 2 (.int .i64 0)).setCell 3 (.int .u64 0)).setCell 4 (.string ⟨#[]⟩)).setCell 5 (.slice none 0 0)) rfl rfl Try.underlying54 rfl size54
              ⟨_, rfl, Below.trans kx2.out (hu.out.below (by rw [hp.out]; show p ≤ p + 1; omega)), .inl ⟨hog.out, rfl⟩⟩
        | some u =>
          have hog := Hd.mk (hgk0.trans hgk)
          have hgk := Hd.mk hgk
          clear hgk0
          go_wp2_with fail
          refine Flow.wp_region_flow_l (fun qq => match qq with
            | 19 => SP.eq (.pointer (some ⟨p, 5, none⟩))
            | 20 => SP.eq (.slice (some ⟨b1, o1, none⟩) t.kids.length kc)
            | 21 => SP.eq (.int .i64 (i : Nat))
            | 22 => SP.eq (.pointer (some ⟨b1, o1 + i * 6, none⟩))
            | 23 => SP.eq (.agg #[.string k.name, .string k.key, .int .i64 k.kind, .int .u64 k.num, .string k.text, .slice K9 k.kids.length c9])
            | 24 => SP.eq (.slice (some ⟨b2, o2, none⟩) (L + 1) ac)
            | 25 => SP.eq (.slice (if ac = 1 then some ⟨b2, o2, none⟩ else some ⟨b2, o2 + 2, none⟩) L (ac - 1))
            | 26 => spS2 (fun b => S b ∧ b < p) u (.bool true)
            | 27 => spTS (fun b => S b ∧ b < p) u
            | 28 => SP.eq (.bool true)
            | _ => SP.any) 10 (by kernel_rfl) 29 rfl (by kernel_rfl) ?_ ?_
          · skip
            refine ⟨?_, ?_, ?_, ?_, ?_, ?_, ?_, ?_, ?_, ?_, trivial⟩
            · intro act W2 hk
              refine Flow.does_intro rfl (fun Kq hK => ?_)
              have e2 : act.tmps[2]?.getD undef = .pointer (some ⟨p, 0, none⟩) := hk.o 2 (by kernel_rfl)
              clear hk
              go_simp
              exact hK _ _ (Ext.refl _) (fun d hd => by cases hd; rfl)
            · intro act W2 hk
              refine Flow.does_intro rfl (fun Kq hK => ?_)
              have e19 : act.tmps[19]?.getD undef = .pointer (some ⟨p, 5, none⟩) := hk.v 19 (by kernel_rfl)
              have g := ((kA.out).ext ((Ext.drew V).trans hk.ext)).cell
              clear hk
              go_simp
              exact hK _ _ (Ext.refl _) (fun d hd => by cases hd; rfl)
            · intro act W2 hk
              refine Flow.does_intro rfl (fun Kq hK => ?_)
              have e6 : act.tmps[6]?.getD undef = .int .i64 (i : Nat) := hk.o 6 (by kernel_rfl)
              clear hk
              go_simp
              exact hK _ _ (Ext.refl _) (fun d hd => by cases hd; rfl)
            · intro act W2 hk
              refine Flow.does_intro rfl (fun Kq hK => ?_)
              have e20 : act.tmps[20]?.getD undef = .slice (some ⟨b1, o1, none⟩) t.kids.length kc := hk.v 20 (by kernel_rfl)
              have e21 : act.tmps[21]?.getD undef = .int .i64 (i : Nat) := hk.v 21 (by kernel_rfl)
              clear hk
              go_simp
              exact hK _ _ (Ext.refl _) (fun d hd => by cases hd; rfl)
            · intro act W2 hk
              refine Flow.does_intro rfl (fun Kq hK => ?_)
              have e22 : act.tmps[22]?.getD undef = .pointer (some ⟨b1, o1 + i * 6, none⟩) := hk.v 22 (by kernel_rfl)
              have g0 := Ext.cell ((Ext.drew V).trans hk.ext) ((kck.out) 0 _ rfl)
              rw [Nat.add_zero] at g0
              have g1 := Ext.cell ((Ext.drew V).trans hk.ext) ((kck.out) 1 _ rfl)
              have g2 := Ext.cell ((Ext.drew V).trans hk.ext) ((kck.out) 2 _ rfl)
              have g3 := Ext.cell ((Ext.drew V).trans hk.ext) ((kck.out) 3 _ rfl)
              have g4 := Ext.cell ((Ext.drew V).trans hk.ext) ((kck.out) 4 _ rfl)
              have g5 := Ext.cell ((Ext.drew V).trans hk.ext) ((kck.out) 5 _ rfl)
              clear hk
              go_simp
              exact hK _ _ (Ext.refl _) (fun d hd => by cases hd; rfl)
            · intro act W2 hk
              refine Flow.does_intro rfl (fun Kq hK => ?_)
              have e1 : act.tmps[1]?.getD undef = .slice (some ⟨b2, o2, none⟩) (L + 1) ac := hk.o 1 (by kernel_rfl)
              clear hk
              go_simp
              exact hK _ _ (Ext.refl _) (fun d hd => by cases hd; rfl)
            · intro act W2 hk
              refine Flow.does_intro rfl (fun Kq hK => ?_)
              have e24 : act.tmps[24]?.getD undef = .slice (some ⟨b2, o2, none⟩) (L + 1) ac := hk.v 24 (by kernel_rfl)
              clear hk
              go_simp
              exact hK _ _ (Ext.refl _) (fun d hd => by cases hd; simp [SP.eq])
            · intro act W2 hk
              refine Flow.does_intro rfl (fun Kq hK => ?_)
              have e23 : act.tmps[23]?.getD undef = .agg #[.string k.name, .string k.key, .int .i64 k.kind, .int .u64 k.num, .string k.text, .slice K9 k.kids.length c9] := hk.v 23 (by kernel_rfl)
              have e25 : act.tmps[25]?.getD undef = .slice (if ac = 1 then some ⟨b2, o2, none⟩ else some ⟨b2, o2 + 2, none⟩) L (ac - 1) := hk.v 25 (by kernel_rfl)
              have hx0 := Hd.mk ((Ext.drew V).trans hk.ext)
              clear hk
              go_simp
              refine Calls.mono (hrec.out _ hx0.out) ?_
              rintro e W3 ⟨_, rfl, hx, hh⟩
              exact hK _ _ hx (fun d hd => by cases hd; (rcases hh with ⟨e9, _⟩ | ⟨u9, c8, e9, rfl, hr9⟩; rw [hgk.out] at e9; cases e9; rw [hgk.out] at e9; cases e9; exact ⟨c8, rfl, hr9⟩))
            · intro act W2 hk
              refine Flow.does_intro rfl (fun Kq hK => ?_)
              obtain ⟨c8, e26, hr8⟩ := (hk.v 26 (by kernel_rfl) : (spS2 _ _ _).p _ _)
              clear hk
              go_simp
              exact hK _ _ (Ext.refl _) (fun d hd => by cases hd; exact ⟨c8, rfl, hr8⟩)
            · intro act W2 hk
              refine Flow.does_intro rfl (fun Kq hK => ?_)
              obtain ⟨c8, e26, hr8⟩ := (hk.v 26 (by kernel_rfl) : (spS2 _ _ _).p _ _)
              clear hk
              go_simp
              exact hK _ _ (Ext.refl _) (fun d hd => by cases hd; rfl)
          · intro act V2 he
            have hxV2 := Hd.mk ((Ext.drew V).trans he.ext)
            obtain ⟨us, hA, hF⟩ := he.out [19, 20, 21, 22, 23, 24, 25, 26, 27, 28] (by kernel_rfl)
            simp only [Flow.fillL, List.contains_cons, List.contains_nil, Nat.reduceBEq, Bool.or_false, Bool.false_or, Bool.or_true, Bool.true_or, ↓reduceIte, Nat.reduceAdd, Bool.false_eq_true] at hA
            subst hA
            have f27 : (spTS (fun b => S b ∧ b < p) u).p (us 27) V2 := hF 27 (by simp)
            have f28 : us 28 = .bool true := hF 28 (by simp)
            clear hF he
            rw [f28]
            clear f28
            have kR2 := Hd.mk (kR.out.ext hxV2.out)
            have kx2 := Hd.mk (kx.out.trans hxV2.out)
            clear kR hxV2
            obtain ⟨c8, e8, hr8⟩ := (f27 : (spTS _ _).p _ _)
            obtain ⟨Ku, ku, rfl, _⟩ := hr8.row
            rw [e8]
            have hr8 := Hd.mk hr8
            clear e8
            simp only [cT] at hr8 ⊢
            have gR := kR2.out.cell
            have fR := kR2.out.free
            refine (show wpList _ _ _ (⟨none, .store 54 (.tmp 4) (.tmp 27), _, _, _, none⟩ :: _) _ _ from ?_)
            go_wp2_with fail
            have hu := Hd.mk ((((((Upd.setCell V2 ⟨p + 1, 0, none⟩ (.string u.name)).trans (Upd.setCell _ ⟨p + 1, 1, none⟩ (.string u.key))).trans (Upd.setCell _ ⟨p + 1, 2, none⟩ (.int .i64 u.kind))).trans (Upd.setCell _ ⟨p + 1, 3, none⟩ (.int .u64 u.num))).trans (Upd.setCell _ ⟨p + 1, 4, none⟩ (.string u.text))).trans (Upd.setCell _ ⟨p + 1, 5, none⟩ (.slice Ku u.kids.length ku)))
            exact ret_box2 rfl (p + 1) _ 54 _ ((((((kR2.out.setCell 0 (.string u.name)).setCell 1 (.string u.key)).setCell 2 (.int .i64 u.kind)).setCell 3 (.int .u64 u.num)).setCell 4 (.string u.text)).setCell 5 (.slice Ku u.kids.length ku)) rfl rfl Try.underlying54 rfl size54
              ⟨_, rfl, Below.trans kx2.out (hu.out.below (by rw [hp.out]; show p ≤ p + 1; omega)), .inr ⟨u, _, hog.out, rfl, RT.keep (S' := S) (fun b off v hb hc => ⟨hb.1, by rw [← hc]; exact World.cell?_of_block (hu.out.block b (by show b ≠ p + 1; have := hb.2; omega))⟩) hr8.out⟩⟩
end Go.Proofs.Ytgkgedjmnbjalaa
