/- Ways: clone, on, Way.
   Conditions: none. -/
import Derived.Test.YtgkgedjmnbjalaaTI
set_option linter.unusedSimpArgs false
namespace Go.Proofs.Ytgkgedjmnbjalaa
open Go.RowKit Go.Sort

abbrev Step := ByteArray × ByteArray
/-- The cells of a way. -/
def wcells : List Step → List Value
  | [] => []
  | s :: l => .string s.1 :: .string s.2 :: wcells l
theorem wcells_len : ∀ l : List Step, (wcells l).length = l.length * 2
  | [] => rfl
  | s :: l => by simp [wcells, wcells_len l]; omega
theorem wcells_get : ∀ (l : List Step) (i : Nat) (s : Step), l[i]? = some s → (wcells l)[i * 2]? = some (.string s.1) ∧ (wcells l)[i * 2 + 1]? = some (.string s.2)
  | [], i, s, h => by simp at h
  | x :: l, 0, s, h => by simp at h; subst h; exact ⟨rfl, rfl⟩
  | x :: l, i + 1, s, h => by
    have := wcells_get l i s (by simpa using h)
    rw [show (i + 1) * 2 = i * 2 + 1 + 1 by omega]
    exact this
theorem wcells_append : ∀ (l m : List Step), wcells (l ++ m) = wcells l ++ wcells m
  | [], m => rfl
  | s :: l, m => by simp [wcells, wcells_append l m]
theorem wcells_one : ∀ l : List Step, (wcells l).all (·.oneCell') = true
  | [] => rfl
  | s :: l => by rw [wcells, List.all_cons, List.all_cons, wcells_one l]; rfl
/-- A way lies in memory, in blocks of S. -/
structure WRow (S : Nat → Prop) (w : World) (A : Option Addr) (l : List Step) (c : Nat) : Prop where
  cap : l.length ≤ c
  len : l.length ≤ 1048576
  nul : A = none → c = 0
  row : l ≠ [] → ∃ b off, A = some ⟨b, off, none⟩ ∧ S b ∧ ∀ j v, (wcells l)[j]? = some v → w.cell? ⟨b, off + j, none⟩ = some v
theorem WRow.keep {S S' : Nat → Prop} {w w' : World} (hk : ∀ b off v, S b → w.cell? ⟨b, off, none⟩ = some v → S' b ∧ w'.cell? ⟨b, off, none⟩ = some v) {A : Option Addr} {l : List Step} {c : Nat} (h : WRow S w A l c) : WRow S' w' A l c :=
  ⟨h.cap, h.len, h.nul, fun hn => by
    obtain ⟨b, off, h1, h2, h3⟩ := h.row hn
    refine ⟨b, off, h1, ?_, fun j v hv => (hk b _ v h2 (h3 j v hv)).2⟩
    cases l with
    | nil => exact absurd rfl hn
    | cons s l => exact (hk b _ _ h2 (h3 0 _ rfl)).1⟩
theorem WRow.ext {S : Nat → Prop} {w w' : World} (hx : Ext w w') {A : Option Addr} {l : List Step} {c : Nat} (h : WRow S w A l c) : WRow S w' A l c := h.keep fun _ _ _ hb hc => ⟨hb, Ext.cell hx hc⟩
theorem WRow.mono {S S' : Nat → Prop} {w : World} (hs : ∀ b, b < w.heap.size → S b → S' b) {A : Option Addr} {l : List Step} {c : Nat} (h : WRow S w A l c) : WRow S' w A l c :=
  h.keep fun b _ _ hb hc => ⟨hs b (World.block_lt_of_cell? w _ hc) hb, hc⟩
theorem WRow.nil (S : Nat → Prop) (w : World) (A : Option Addr) (c : Nat) (h : A = none → c = 0) : WRow S w A [] c := ⟨Nat.zero_le _, Nat.zero_le _, h, fun h => absurd rfl h⟩
theorem WRow.of_own {w : World} {base n : Nat} {v : Value} {l : List Step} (hl : l.length ≤ 1048576) (hn : l.length = n) (h : w.ownsRow base 65 2 v n (wcells l)) : ∃ A c, v = .slice A n c ∧ WRow (base ≤ ·) w A l c := by
  subst hn
  obtain ⟨A, c, h1, h2, h3, h4⟩ := own_slice h
  refine ⟨A, c, h1, h2, hl, h3, fun hn => ?_⟩
  obtain ⟨g, sp, e1, e2, e3⟩ := h4 (List.length_pos_iff.2 hn)
  refine ⟨g, 0, e1, e2, fun j v hv => ?_⟩
  rw [e3.cell, Nat.zero_add, List.getElem?_append_left (List.getElem?_eq_some_iff.1 hv).1]
  exact hv
theorem own_base {w : World} {base : Nat} {e : TypeId} {sz n : Nat} {v : Value} {xs : List Value} (h : w.ownsRow base e sz v n xs) : ∀ k, v.ownBlock = some k → base ≤ k := fun k hk => by
  rcases h.2 with ⟨h1, _⟩ | ⟨g, cap, cur, hv, hb, _⟩
  · rw [h1] at hk; simp [Value.ownBlock] at hk
  · rw [hv] at hk; simp [Value.ownBlock] at hk; omega

theorem grownBy_blk' {w w' : World} {row : Option Nat} (hg : w.grownBy w' row) {g : Nat} (hne : some g ≠ row) {cs : List Value} {t : TypeId} (h : Blk w g cs t) : Blk w' g cs t := (hg.block g h.lt hne).trans h
set_option maxRecDepth 100000 in
set_option maxHeartbeats 1000000 in
theorem clone_steps {S : Nat → Prop} {w0 w : World} {K : Option Addr} {l : List Step} {c : Nat} (h : WRow S w0 K l c) (hx0 : Ext w0 w) :
    Calls Try.prog 103 #[.slice K l.length c] w (Ret fun w' v => w'.ownsRow w.heap.size 65 2 v l.length (wcells l) ∧ Ext w w') := by
  have hlen := h.len
  have hnul := h.nul
  have k3 := Hd.mk h.row
  have hfl := Hd.mk (wcells_len l)
  have hone := Hd.mk (wcells_one l)
  have kx0 := Hd.mk hx0
  clear h hx0
  have hq := fun W => Lib.run_eql_slice_nil (P := Try.prog) W 59 65 K l.length c 0 0 Try.underlying59
  cases K with
  | none =>
    have hc := hnul rfl
    subst hc
    simp only [Option.isNone_none] at hq
    have hl0 : l = [] := by
      cases l with
      | nil => rfl
      | cons x l => obtain ⟨b, off, h, _⟩ := k3.out (by simp); cases h
    subst hl0
    clear hnul hlen k3 hfl hone
    simp only [List.length_nil] at hq ⊢
    go_enter Try.func103, Try.ntmps103
    go_wp2_with fail
    go_ret
    exact ⟨_, rfl, ⟨rfl, .inl ⟨rfl, rfl⟩⟩, Ext.refl _⟩
  | some ad =>
    clear hnul
    simp only [Option.isNone_some] at hq
    go_enter Try.func103, Try.ntmps103
    go_wp2_with ((with_reducible refine stop_at (.call { callee := .builtin .append, args := #[.tmp 5, .tmp 6], argTypes := #[59, 59] }) ?_))
    refine Stop.mk ?_
    have hx := Hd.mk (Ext.alloc w (.cells #[] 65))
    have hlt : w.heap.size ≤ (w.alloc (.cells #[] 65)).heap.size := hx.out.size
    refine wpl_append' sl59 (by omega) (by omega) (.tmp 5) (.tmp 6) 7 _ _ _ w.heap.size (.slice (some ⟨w.heap.size, 0, none⟩) 0 0) 0 [] rfl
      (own_new (Nat.le_refl _) (Nat.zero_le _) rfl) ad l.length c (wcells l) rfl hfl.out (fun j u hj => ?_) hone.out (by omega) hlt ?_
    · have hne : l ≠ [] := by
        rintro rfl
        simp [wcells] at hj
      obtain ⟨b, off, he, _, hc⟩ := k3.out hne
      cases he
      rw [addr_add]
      exact Ext.cell (kx0.out.trans hx.out) (hc j u hj)
    intro v' w' hown hgr _
    have hown := Hd.mk hown
    have hgr := Hd.mk hgr
    go_wp2_with fail
    go_ret
    refine ⟨_, rfl, ?_, own_below hx.out hgr.out (Nat.le_refl _) hlt⟩
    have := hown.out
    rw [Nat.zero_add, List.nil_append] at this
    exact this

/-- A way of one's own. -/
def spW (l : List Step) (B : Nat) : SP := ⟨fun v w => w.ownsRow B 65 2 v l.length (wcells l), fun _ _ _ h k => own_ext h k⟩
/-- A row of one. -/
def spRow1 (cs : List Value) (t : TypeId) : SP := ⟨fun v w => ∃ D, v = .slice (some ⟨D, 0, none⟩) 1 1 ∧ Blk w D cs t, fun _ _ _ h ⟨D, e, hb⟩ => ⟨D, e, hb.ext h⟩⟩

/-- What on tells. -/
def WPost (l : List Step) (w w' : World) (v : Value) : Prop := ∃ A c, v = .slice A l.length c ∧ WRow (w.heap.size ≤ ·) w' A l c ∧ Ext w w'

set_option maxRecDepth 100000 in
set_option maxHeartbeats 2000000 in
theorem diff_on (t : T) (K : Option Addr) (n kc : Nat) {S : Nat → Prop} {w0 w : World} {A : Option Addr} {l : List Step} {c : Nat} (h : WRow S w0 A l c) (hx0 : Ext w0 w) (hl : l.length + 1 ≤ 1048576) :
    Calls Try.prog 95 #[.slice A l.length c, .agg (cT t.name t.key t.kind t.num t.text K n kc).toArray] w (Ret (WPost (l ++ [(t.name, t.key)]) w)) := by
  have hcl := Hd.mk (fun w (hx : Ext w0 w) => clone_steps h hx)
  have kx0 := Hd.mk hx0
  clear h hx0
  simp only [cT]
  go_enter Try.func95, Try.ntmps95
  go_wp2_with fail
  have kA := Hd.mk (Blk.new w #[.string t.name, .string t.key, .int .i64 t.kind, .int .u64 t.num, .string t.text, .slice K n kc] 54)
  have kx := Hd.mk (Ext.alloc w (.cells #[.string t.name, .string t.key, .int .i64 t.kind, .int .u64 t.num, .string t.text, .slice K n kc] 54))
  have hsz := Hd.mk kx.out.size
  generalize hp : w.heap.size = pA at *
  have hp := Hd.mk hp
  generalize w.alloc _ = W at *
  refine Flow.wp_region_flow_l (fun qq => match qq with
    | 5 => SP.eq (.slice A l.length c)
    | 6 => spW l W.heap.size
    | 7 => SP.eq (.pointer (some ⟨pA, 0, none⟩))
    | 8 => SP.eq (.string t.name)
    | 9 => SP.eq (.pointer (some ⟨pA, 1, none⟩))
    | 10 => SP.eq (.string t.key)
    | 11 => SP.eq (.agg #[.string t.name, .string t.key])
    | 12 => spRow1 [.string t.name, .string t.key] 65
    | _ => SP.any) 8 (by kernel_rfl) 14 rfl (by kernel_rfl) ?_ ?_
  · skip
    refine ⟨?_, ?_, ?_, ?_, ?_, ?_, ?_, ?_, trivial⟩
    · intro act W2 hk
      refine Flow.does_intro rfl (fun K hK => ?_)
      have e0 : act.tmps[0]?.getD undef = .slice A l.length c := hk.o 0 (by kernel_rfl)
      clear hk
      go_simp
      exact hK _ _ (Ext.refl _) (fun d hd => by cases hd; rfl)
    · intro act W2 hk
      refine Flow.does_intro rfl (fun K hK => ?_)
      have e5 : act.tmps[5]?.getD undef = .slice A l.length c := hk.v 5 (by kernel_rfl)
      have hx0 := Hd.mk ((Ext.drew W).trans hk.ext)
      have hsz0 := hx0.out.size
      clear hk
      go_simp
      refine Calls.mono (hcl.out _ (kx0.out.trans (kx.out.trans hx0.out))) ?_
      rintro e W3 ⟨v, rfl, hv, hx⟩
      exact hK _ _ hx (fun d hd => by cases hd; exact ⟨hv.1, hv.2.imp id (fun ⟨g, cap, cur, a1, a2, a3⟩ => ⟨g, cap, cur, a1, Nat.le_trans hsz0 a2, a3⟩)⟩)
    · intro act W2 hk
      refine Flow.does_intro rfl (fun K hK => ?_)
      have e3 : act.tmps[3]?.getD undef = .pointer (some ⟨pA, 0, none⟩) := hk.o 3 (by kernel_rfl)
      clear hk
      go_simp
      exact hK _ _ (Ext.refl _) (fun d hd => by cases hd; rfl)
    · intro act W2 hk
      refine Flow.does_intro rfl (fun K hK => ?_)
      have e7 : act.tmps[7]?.getD undef = .pointer (some ⟨pA, 0, none⟩) := hk.v 7 (by kernel_rfl)
      have g := ((kA.out).ext ((Ext.drew W).trans hk.ext)).cell
      clear hk
      go_simp
      exact hK _ _ (Ext.refl _) (fun d hd => by cases hd; rfl)
    · intro act W2 hk
      refine Flow.does_intro rfl (fun K hK => ?_)
      have e3 : act.tmps[3]?.getD undef = .pointer (some ⟨pA, 0, none⟩) := hk.o 3 (by kernel_rfl)
      clear hk
      go_simp
      exact hK _ _ (Ext.refl _) (fun d hd => by cases hd; rfl)
    · intro act W2 hk
      refine Flow.does_intro rfl (fun K hK => ?_)
      have e9 : act.tmps[9]?.getD undef = .pointer (some ⟨pA, 1, none⟩) := hk.v 9 (by kernel_rfl)
      have g := ((kA.out).ext ((Ext.drew W).trans hk.ext)).cell
      clear hk
      go_simp
      exact hK _ _ (Ext.refl _) (fun d hd => by cases hd; rfl)
    · intro act W2 hk
      refine Flow.does_intro rfl (fun K hK => ?_)
      have e8 : act.tmps[8]?.getD undef = .string t.name := hk.v 8 (by kernel_rfl)
      have e10 : act.tmps[10]?.getD undef = .string t.key := hk.v 10 (by kernel_rfl)
      clear hk
      go_simp
      exact hK _ _ (Ext.refl _) (fun d hd => by cases hd; rfl)
    · intro act W2 hk
      refine Flow.does_intro rfl (fun K hK => ?_)
      have e11 : act.tmps[11]?.getD undef = .agg #[.string t.name, .string t.key] := hk.v 11 (by kernel_rfl)
      clear hk
      go_simp
      exact hK _ _ (Ext.alloc _ _) (fun d hd => by cases hd; exact ⟨_, rfl, Blk.new _ _ _⟩)
  · intro act W2 he
    have hxW2 := Hd.mk ((Ext.drew W).trans he.ext)
    obtain ⟨us, hA, hF⟩ := he.out [5, 6, 7, 8, 9, 10, 11, 12] (by kernel_rfl)
    simp only [Flow.fillL, List.contains_cons, List.contains_nil, Nat.reduceBEq, Bool.or_false, Bool.false_or, Bool.or_true, Bool.true_or, ↓reduceIte, Nat.reduceAdd, Bool.false_eq_true] at hA
    subst hA
    have f6 : (spW l W.heap.size).p (us 6) W2 := hF 6 (by simp)
    have f12 : (spRow1 [.string t.name, .string t.key] 65).p (us 12) W2 := hF 12 (by simp)
    clear hF he
    obtain ⟨D, e12, hD⟩ := (f12 : (spRow1 _ _).p _ _)
    have hD := Hd.mk hD
    have hown0 := Hd.mk (show W2.ownsRow W.heap.size 65 2 (us 6) l.length (wcells l) from f6)
    clear f6
    generalize us 5 = u5 at *
    generalize us 6 = u6 at *
    generalize us 7 = u7 at *
    generalize us 8 = u8 at *
    generalize us 9 = u9 at *
    generalize us 10 = u10 at *
    generalize us 11 = u11 at *
    generalize us 12 = u12 at *
    subst e12
    have hW2 := Hd.mk hxW2.out.size
    refine (show wpList _ _ _ (⟨some 13, .call { callee := .builtin .append, args := #[.tmp 6, .tmp 12], argTypes := #[59, 59] }, _, _, _, none⟩ :: _) _ _ from ?_)
    refine wpl_append sl59 (by omega) (by omega) (.tmp 6) (.tmp 12) 13 _ _ _ W.heap.size u6 l.length (wcells l) rfl hown0.out D 0 1 1 [.string t.name, .string t.key] rfl rfl (fun i u hi => by rw [Nat.zero_add, hD.out.cell]; exact hi) rfl (by omega) hW2.out ?_
    intro v' w' hown hgr _
    have hown := Hd.mk hown
    have hgr := Hd.mk hgr
    go_wp2_with fail
    go_ret
    have hx := Below.grown (hxW2.out) hgr.out hW2.out (own_base hown0.out)
    have ho := hown.out
    rw [show wcells l ++ [.string t.name, .string t.key] = wcells (l ++ [(t.name, t.key)]) from (wcells_append l [(t.name, t.key)]).symm] at ho
    obtain ⟨A', c', rfl, hw⟩ := WRow.of_own (l := l ++ [(t.name, t.key)]) (by simpa using hl) (by simp) ho
    exact ⟨_, rfl, A', c', by simp, hw.mono (fun b _ hb => by have := hsz.out; have := hp.out; omega), Ext.trans kx.out hx⟩

set_option maxRecDepth 100000 in
set_option maxHeartbeats 2000000 in
theorem ref_way (t : T) (K : Option Addr) (n kc : Nat) {S : Nat → Prop} {w0 w : World} {A : Option Addr} {l : List Step} {c : Nat} (h : WRow S w0 A l c) (hx0 : Ext w0 w) (hl : l.length + 1 ≤ 1048576) :
    Calls Try.prog 140 #[.slice A l.length c, .agg (cT t.name t.key t.kind t.num t.text K n kc).toArray] w (Ret (WPost (l ++ [(t.name, t.key)]) w)) := by
  have k3 := Hd.mk h.row
  have hnul := h.nul
  have hlen := h.len
  have kx0 := Hd.mk hx0
  have hone := Hd.mk (wcells_one l)
  have hfl := Hd.mk (wcells_len l)
  clear h hx0
  simp only [cT]
  cases A with
  | none =>
    have hc := hnul rfl
    subst hc
    have hl0 : l = [] := by
      cases l with
      | nil => rfl
      | cons x l => obtain ⟨b, off, h, _⟩ := k3.out (by simp); cases h
    subst hl0
    clear hnul k3 hone hfl
    simp only [List.length_nil]
    go_enter Try.func140, Try.ntmps140
    go_wp2_with ((with_reducible refine stop_at (.call { callee := .builtin .append, args := #[.tmp 9, .tmp 15], argTypes := #[59, 59] }) ?_))
    refine Stop.mk ?_
    have kx2 := Hd.mk ((Ext.alloc w (.cells #[.string t.name, .string t.key, .int .i64 t.kind, .int .u64 t.num, .string t.text, .slice K n kc] 54)).trans (Ext.alloc (w.alloc (.cells #[.string t.name, .string t.key, .int .i64 t.kind, .int .u64 t.num, .string t.text, .slice K n kc] 54)) (.cells #[.string t.name, .string t.key] 65)))
    have hD := Hd.mk (Blk.new2 w (.cells #[.string t.name, .string t.key, .int .i64 t.kind, .int .u64 t.num, .string t.text, .slice K n kc] 54) #[.string t.name, .string t.key] 65)
    have hsz := Hd.mk (kx2.out.size)
    have hown0 := Hd.mk (own_ext (Ext.alloc (w.alloc (.cells #[.string t.name, .string t.key, .int .i64 t.kind, .int .u64 t.num, .string t.text, .slice K n kc] 54)) (.cells #[.string t.name, .string t.key] 65)) (show World.ownsRow _ w.heap.size 65 2 (.slice none 0 0) 0 [] from ⟨rfl, .inl ⟨rfl, rfl⟩⟩))
    refine wpl_append sl59 (by omega) (by omega) (.tmp 9) (.tmp 15) 16 _ _ _ w.heap.size _ 0 [] rfl hown0.out _ 0 1 1 [.string t.name, .string t.key] rfl rfl (fun i u hi => by rw [Nat.zero_add, hD.out.cell]; exact hi) rfl (by simp only [List.length_nil] at *; omega) hsz.out ?_
    intro v' w' hown hgr _
    have hown := Hd.mk hown
    have hgr := Hd.mk hgr
    go_wp2_with fail
    go_ret
    have hx := Below.grown (kx2.out) hgr.out hsz.out (own_base hown0.out)
    have ho := hown.out
    rw [Nat.zero_add, List.nil_append, show ([.string t.name, .string t.key] : List Value) = wcells [(t.name, t.key)] from rfl] at ho
    obtain ⟨A', c', rfl, hw⟩ := WRow.of_own (l := [(t.name, t.key)]) (by simp) rfl ho
    exact ⟨_, rfl, A', c', rfl, hw, hx⟩
  | some ad =>
    clear hnul
    go_enter Try.func140, Try.ntmps140
    go_wp2_with ((with_reducible refine stop_at (.call { callee := .builtin .append, args := #[.tmp 6, .tmp 7], argTypes := #[59, 59] }) ?_))
    refine Stop.mk ?_
    have hx1 := Hd.mk (Ext.alloc w (.cells #[.string t.name, .string t.key, .int .i64 t.kind, .int .u64 t.num, .string t.text, .slice K n kc] 54))
    have kA := Hd.mk (Blk.new w #[.string t.name, .string t.key, .int .i64 t.kind, .int .u64 t.num, .string t.text, .slice K n kc] 54)
    refine wpl_append' sl59 (by omega) (by omega) (.tmp 6) (.tmp 7) 8 _ _ _ w.heap.size (.slice none 0 0) 0 [] rfl
      ⟨rfl, .inl ⟨rfl, rfl⟩⟩ ad l.length c (wcells l) rfl hfl.out (fun j u hj => ?_) hone.out (by omega) hx1.out.size ?_
    · have hne : l ≠ [] := by
        rintro rfl
        simp [wcells] at hj
      obtain ⟨b, off, he, _, hc⟩ := k3.out hne
      cases he
      rw [addr_add]
      exact Ext.cell (kx0.out.trans hx1.out) (hc j u hj)
    intro v1 w1 hown1 hgr1 _
    rw [Nat.zero_add, List.nil_append] at hown1
    have hown1 := Hd.mk hown1
    have hx2 := Hd.mk (show Ext w w1 from Below.grown hx1.out hgr1 hx1.out.size (fun k hk => by simp [Value.ownBlock] at hk))
    have kA1 := Hd.mk (grownBy_blk' hgr1 (by simp [Value.ownBlock]) kA.out)
    clear hgr1
    have gA := kA1.out.cell
    go_wp2_with ((with_reducible refine stop_at (.call { callee := .builtin .append, args := #[.tmp 9, .tmp 15], argTypes := #[59, 59] }) ?_))
    refine Stop.mk ?_
    have kx2 := Hd.mk ((hx2.out).trans (Ext.alloc w1 (.cells #[.string t.name, .string t.key] 65)))
    have hD := Hd.mk (Blk.new w1 #[.string t.name, .string t.key] 65)
    have hsz := Hd.mk (kx2.out.size)
    have hown0 := Hd.mk (own_ext (Ext.alloc w1 (.cells #[.string t.name, .string t.key] 65)) hown1.out)
    refine wpl_append sl59 (by omega) (by omega) (.tmp 9) (.tmp 15) 16 _ _ _ w.heap.size _ l.length (wcells l) rfl hown0.out _ 0 1 1 [.string t.name, .string t.key] rfl rfl (fun i u hi => by rw [Nat.zero_add, hD.out.cell]; exact hi) rfl (by simp only [List.length_nil] at *; omega) hsz.out ?_
    intro v' w' hown hgr _
    have hown := Hd.mk hown
    have hgr := Hd.mk hgr
    go_wp2_with fail
    go_ret
    have hx := Below.grown (kx2.out) hgr.out hsz.out (own_base hown0.out)
    have ho := hown.out
    rw [show wcells l ++ [.string t.name, .string t.key] = wcells (l ++ [(t.name, t.key)]) from (wcells_append l [(t.name, t.key)]).symm] at ho
    obtain ⟨A', c', rfl, hw⟩ := WRow.of_own (l := l ++ [(t.name, t.key)]) (by simpa using hl) (by simp) ho
    exact ⟨_, rfl, A', c', by simp, hw, hx⟩
end Go.Proofs.Ytgkgedjmnbjalaa
