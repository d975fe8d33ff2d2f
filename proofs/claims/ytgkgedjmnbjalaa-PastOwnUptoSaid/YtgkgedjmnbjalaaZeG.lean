/- Texts that the law needs, joined.
   Conditions: none. -/
import Derived.Test.YtgkgedjmnbjalaaZeF
import Derived.Laws.CopyRow
import Derived.Lib.AppendZerosOnto
import Derived.Lib.Overlaps
import Derived.Laws.AppendOwn
set_option linter.unusedSimpArgs false
set_option linter.unusedVariables false
namespace Go.Proofs.Ytgkgedjmnbjalaa
open Go.RowKit Go.Sort
theorem PastR.cell {G : Nat → Prop} {w : World} {p : Nat} {L : Option Addr} {cap : Nat} {l : List Pe} (h : PastR G w p (.slice L l.length cap) l) (h0 : 0 < l.length) : ∃ g, L = some ⟨g, 0, none⟩ ∧ ∀ (i : Nat) x, l[i]? = some x → ∀ j v, [vP x][j]? = some v → w.cell? ⟨g, i + j, none⟩ = some v := by
  obtain ⟨g, cap9, sp, hv, _, hb, _⟩ := own_form h.own h0
  simp only [Value.slice.injEq] at hv
  obtain ⟨rfl, _, _⟩ := hv
  refine ⟨g, rfl, fun i x hx j v hv => ?_⟩
  cases j with
  | zero =>
    simp at hv
    subst hv
    have hi := (List.getElem?_eq_some_iff.1 hx).1
    rw [Nat.add_zero, hb.cell, List.getElem?_append_left (by rw [List.length_map]; exact hi), List.getElem?_map, hx]
    rfl
  | succ j => simp at hv
set_option maxRecDepth 100000 in
set_option maxHeartbeats 4000000 in
theorem row_back (G : Nat → Prop) (w : World) (p : Nat) (V : Value) (l : List Pe) (x : Pe) (n i : Nat) (h : PastR G w p V l) (hx : l[i]? = some x) (hn : n + i = l.length) :
    Calls Try.prog 130 #[.pointer (some ⟨p, 0, none⟩), .int .i64 n] w fun e w' => e = .returned (vP x) ∧ Ext w w' := by
  obtain ⟨L, cap, rfl, hcap, _⟩ := own_slice h.own
  have hl8 := h.len
  have hil := (List.getElem?_eq_some_iff.1 hx).1
  have hB := Hd.mk h.box
  obtain ⟨g, rfl, hc⟩ := h.cell (by omega)
  have hcA := Hd.mk (hc i x hx)
  clear h hc hx
  have hili : (i : Int) < (l.length : Int) := by omega
  replace hn := Hd.mk hn
  simp only [vP] at hcA ⊢
  go_enter Try.func130, Try.ntmps130
  go_wp2_with fail
  refine Flow.wp_region_flow_l (fun qq => match qq with
    | 5 => SP.eq (.pointer (some ⟨p, 0, none⟩))
    | 6 => SP.eq (.pointer (some ⟨p, 0, none⟩))
    | 7 => SP.eq (.pointer (some ⟨p, 0, none⟩))
    | 8 => SP.eq (.slice (some ⟨g, 0, none⟩) l.length cap)
    | 9 => SP.eq (.pointer (some ⟨p, 0, none⟩))
    | 10 => SP.eq (.pointer (some ⟨p, 0, none⟩))
    | 11 => SP.eq (.pointer (some ⟨p, 0, none⟩))
    | 12 => SP.eq (.slice (some ⟨g, 0, none⟩) l.length cap)
    | 13 => SP.eq (.int .i64 (l.length : Nat))
    | 14 => SP.eq (.int .i64 (n : Nat))
    | 15 => SP.eq (.int .i64 (i : Nat))
    | 16 => SP.eq (.pointer (some ⟨g, i, none⟩))
    | 17 => SP.eq (.slice x.2.1 x.1.length x.2.2)
    | _ => SP.any) 13 (by kernel_rfl) 18 rfl (by kernel_rfl) ?_ ?_
  · skip
    refine ⟨?_, ?_, ?_, ?_, ?_, ?_, ?_, ?_, ?_, ?_, ?_, ?_, ?_, trivial⟩
    · intro act W2 hk
      refine Flow.does_intro rfl (fun Kq hK => ?_)
      have e0 : act.tmps[0]?.getD undef = .pointer (some ⟨p, 0, none⟩) := hk.o 0 (by kernel_rfl)
      clear hk
      go_simp
      exact hK _ _ (Ext.refl _) (fun d hd => by cases hd; rfl)
    · intro act W2 hk
      refine Flow.does_intro rfl (fun Kq hK => ?_)
      have e5 : act.tmps[5]?.getD undef = .pointer (some ⟨p, 0, none⟩) := hk.v 5 (by kernel_rfl)
      clear hk
      go_simp
      exact hK _ _ (Ext.refl _) (fun d hd => by cases hd; rfl)
    · intro act W2 hk
      refine Flow.does_intro rfl (fun Kq hK => ?_)
      have e6 : act.tmps[6]?.getD undef = .pointer (some ⟨p, 0, none⟩) := hk.v 6 (by kernel_rfl)
      clear hk
      go_simp
      exact hK _ _ (Ext.refl _) (fun d hd => by cases hd; rfl)
    · intro act W2 hk
      refine Flow.does_intro rfl (fun Kq hK => ?_)
      have e7 : act.tmps[7]?.getD undef = .pointer (some ⟨p, 0, none⟩) := hk.v 7 (by kernel_rfl)
      have g := ((hB.out).ext ((Ext.drew w).trans hk.ext)).cell
      clear hk
      go_simp
      exact hK _ _ (Ext.refl _) (fun d hd => by cases hd; rfl)
    · intro act W2 hk
      refine Flow.does_intro rfl (fun Kq hK => ?_)
      have e0 : act.tmps[0]?.getD undef = .pointer (some ⟨p, 0, none⟩) := hk.o 0 (by kernel_rfl)
      clear hk
      go_simp
      exact hK _ _ (Ext.refl _) (fun d hd => by cases hd; rfl)
    · intro act W2 hk
      refine Flow.does_intro rfl (fun Kq hK => ?_)
      have e9 : act.tmps[9]?.getD undef = .pointer (some ⟨p, 0, none⟩) := hk.v 9 (by kernel_rfl)
      clear hk
      go_simp
      exact hK _ _ (Ext.refl _) (fun d hd => by cases hd; rfl)
    · intro act W2 hk
      refine Flow.does_intro rfl (fun Kq hK => ?_)
      have e10 : act.tmps[10]?.getD undef = .pointer (some ⟨p, 0, none⟩) := hk.v 10 (by kernel_rfl)
      clear hk
      go_simp
      exact hK _ _ (Ext.refl _) (fun d hd => by cases hd; rfl)
    · intro act W2 hk
      refine Flow.does_intro rfl (fun Kq hK => ?_)
      have e11 : act.tmps[11]?.getD undef = .pointer (some ⟨p, 0, none⟩) := hk.v 11 (by kernel_rfl)
      have g := ((hB.out).ext ((Ext.drew w).trans hk.ext)).cell
      clear hk
      go_simp
      exact hK _ _ (Ext.refl _) (fun d hd => by cases hd; rfl)
    · intro act W2 hk
      refine Flow.does_intro rfl (fun Kq hK => ?_)
      have e12 : act.tmps[12]?.getD undef = .slice (some ⟨g, 0, none⟩) l.length cap := hk.v 12 (by kernel_rfl)
      clear hk
      go_simp
      exact hK _ _ (Ext.refl _) (fun d hd => by cases hd; rfl)
    · intro act W2 hk
      refine Flow.does_intro rfl (fun Kq hK => ?_)
      have e1 : act.tmps[1]?.getD undef = .int .i64 (n : Nat) := hk.o 1 (by kernel_rfl)
      clear hk
      go_simp
      exact hK _ _ (Ext.refl _) (fun d hd => by cases hd; rfl)
    · intro act W2 hk
      refine Flow.does_intro rfl (fun Kq hK => ?_)
      have e13 : act.tmps[13]?.getD undef = .int .i64 (l.length : Nat) := hk.v 13 (by kernel_rfl)
      have e14 : act.tmps[14]?.getD undef = .int .i64 (n : Nat) := hk.v 14 (by kernel_rfl)
      clear hk
      go_simp
      exact hK _ _ (Ext.refl _) (fun d hd => by cases hd; have h1 := hn.out; simp [SP.eq]; first | omega | (unfold wrap64; omega) | (rw [IntKind.wrap_i64]; omega))
    · intro act W2 hk
      refine Flow.does_intro rfl (fun Kq hK => ?_)
      have e8 : act.tmps[8]?.getD undef = .slice (some ⟨g, 0, none⟩) l.length cap := hk.v 8 (by kernel_rfl)
      have e15 : act.tmps[15]?.getD undef = .int .i64 (i : Nat) := hk.v 15 (by kernel_rfl)
      clear hk
      go_simp
      exact hK _ _ (Ext.refl _) (fun d hd => by cases hd; rfl)
    · intro act W2 hk
      refine Flow.does_intro rfl (fun Kq hK => ?_)
      have e16 : act.tmps[16]?.getD undef = .pointer (some ⟨g, i, none⟩) := hk.v 16 (by kernel_rfl)
      have g0 := Ext.cell ((Ext.drew w).trans hk.ext) ((hcA.out) 0 _ rfl)
      rw [Nat.add_zero] at g0
      clear hk
      go_simp
      exact hK _ _ (Ext.refl _) (fun d hd => by cases hd; rfl)
  · intro act W2 he
    have hxW2 := Hd.mk ((Ext.drew w).trans he.ext)
    obtain ⟨us, hA, hF⟩ := he.out [5, 6, 7, 8, 9, 10, 11, 12, 13, 14, 15, 16, 17] (by kernel_rfl)
    simp only [Flow.fillL, List.contains_cons, List.contains_nil, Nat.reduceBEq, Bool.or_false, Bool.false_or, Bool.or_true, Bool.true_or, ↓reduceIte, Nat.reduceAdd, Bool.false_eq_true] at hA
    subst hA
    have f17 : us 17 = .slice x.2.1 x.1.length x.2.2 := hF 17 (by simp)
    clear hF he
    rw [f17]
    clear f17
    refine (show wpList _ _ _ (⟨some 4, .assign (.tmp 17), _, _, _, none⟩ :: []) _ _ from ?_)
    go_wp2_with fail
    go_ret
    exact ⟨rfl, hxW2.out⟩
set_option maxRecDepth 100000 in
set_option maxHeartbeats 2000000 in
theorem past_new (G : Nat → Prop) (w : World) : Calls Try.prog 77 #[] w fun e w' => e = .returned (.pointer (some ⟨w.heap.size, 0, none⟩)) ∧ PastR G w' w.heap.size (.slice none 0 0) [] ∧ Ext w w' ∧ w'.heap.size = w.heap.size + 1 := by
  go_enter Try.func77, Try.ntmps77
  go_wp2_with fail
  go_ret
  exact ⟨rfl, ⟨Blk.new _ _ _, ⟨rfl, .inl ⟨rfl, rfl⟩⟩, by simp, fun b h => by simp [Value.ownBlock] at h, fun x h => by simp at h⟩, Ext.alloc _ _, by simp⟩
theorem PastR.drop {G : Nat → Prop} {w w' : World} {p : Nat} {V V' : Value} {l : List Pe} {n : Nat} (h : PastR G w p V l) (hG : ∀ b, w.heap.size ≤ b → G b)
    (hown : w'.ownsRow (p + 1) 57 1 V' (l.length - n) ((l.drop n).map vP)) (hg : (w.alloc (.cells #[] 57)).grownBy w' (some w.heap.size)) (hat : V'.ownBlock = some w.heap.size ∨ V'.ownBlock = some (w.alloc (.cells #[] 57)).heap.size) :
    PastR G (w'.setCell ⟨p, 0, none⟩ V') p V' (l.drop n) ∧ Fr p w V (w'.setCell ⟨p, 0, none⟩ V') V' := by
  have hu := Upd.setCell w' ⟨p, 0, none⟩ V'
  have hlt := h.box.lt
  have hsz : (w.alloc (.cells #[] 57)).heap.size = w.heap.size + 1 := by simp
  have hx := Ext.alloc w (.cells #[] 57)
  have hgb : ∀ b, b < w.heap.size → w'.heap[b]? = w.heap[b]? := fun b hb => (hg.block b (by omega) (fun e => by injection e with e; omega)).trans (hx.block b hb)
  have hne : V'.ownBlock ≠ some p := by
    rcases hat with e | e <;> rw [e] <;> intro he <;> injection he with he <;> omega
  have hfr : Fr p w V (w'.setCell ⟨p, 0, none⟩ V') V' := by
    refine ⟨hu.os.trans (hg.os.trans hx.os), hu.tape.trans (hg.tape.trans hx.tape), hu.output.trans (hg.output.trans hx.output), by rw [hu.size]; exact Nat.le_trans hx.size hg.size, fun b hb h1 h2 => (hu.block b h1).trans (hgb b hb), ?_⟩
    rcases hat with e | e
    · exact .inr ⟨_, e, Nat.le_refl _⟩
    · exact .inr ⟨_, e, hx.size⟩
  have hbox : Blk w' p [V, .int .i64 8] 148 := (hgb p hlt).trans h.box
  have hk : ∀ b off u, (p < b ∧ V.ownBlock ≠ some b ∧ G b) → w.cell? ⟨b, off, none⟩ = some u → (p < b ∧ V'.ownBlock ≠ some b ∧ G b) ∧ (w'.setCell ⟨p, 0, none⟩ V').cell? ⟨b, off, none⟩ = some u := fun b off u hb hc => by
    have h9 := hfr.keep b off u ⟨by omega, hb.2.1⟩ hc
    exact ⟨⟨hb.1, h9.1.2, hb.2.2⟩, h9.2⟩
  refine ⟨⟨hbox.setCell 0 V', ?_, by have := h.len; rw [List.length_drop]; omega, fun b hb => hG b (by rcases hat with e | e <;> rw [e] at hb <;> injection hb with hb <;> omega), fun y hy => (h.each y (List.mem_of_mem_drop hy)).keep hk⟩, hfr⟩
  have h2 : (w'.setCell ⟨p, 0, none⟩ V').ownsRow (p + 1) 57 1 V' (l.length - n) ((l.drop n).map vP) := by
    refine hown.kept (row := some p) ⟨hu.os, hu.tape, hu.output, Nat.le_of_eq hu.size.symm, fun k _ hk => hu.block k (fun e => hk (by rw [e]))⟩ ?_
    rcases hown.2 with ⟨h1, _⟩ | ⟨g, cap, cur, hv, _⟩
    · left; rw [h1]; rfl
    · right; exact hne
  rw [List.length_drop]
  simpa using h2
set_option maxRecDepth 100000 in
set_option maxHeartbeats 2000000 in
theorem row_forget (G : Nat → Prop) (w : World) (p : Nat) (V : Value) (l : List Pe) (n : Nat) (h : PastR G w p V l) (hn : n ≤ l.length) (h0 : 0 < n) (hG : ∀ b, w.heap.size ≤ b → G b) :
    Calls Try.prog 129 #[.pointer (some ⟨p, 0, none⟩), .int .i64 n] w fun e w' => e = .returned (.tuple #[]) ∧ ∃ V', PastR G w' p V' (l.drop n) ∧ Fr p w V w' V' := by
  obtain ⟨L, cap, rfl, hcap, _⟩ := own_slice h.own
  have hl8 := h.len
  have gB := h.box.cell
  have hplt := h.box.lt
  obtain ⟨g, rfl, hc⟩ := h.cell (by omega)
  have hn1 : (n : Int) ≤ (l.length : Int) := by omega
  have hn2 : (n : Int) ≤ (cap : Int) := by omega
  have hn3 : (l.length : Int) ≤ (cap : Int) := by omega
  have kr := Hd.mk h
  replace hc := Hd.mk hc
  replace hG := Hd.mk hG
  clear h
  go_enter Try.func129, Try.ntmps129
  by_cases hcn : cap = n
  · go_wp2_with (with_reducible refine stop_at (.call { callee := .builtin .append, args := #[.tmp 5, .tmp 11], argTypes := #[144, 144] }) ?_)
    refine Stop.mk ?_
    have hs1 := (Ext.alloc w (.cells #[] 57)).size
    have h0 : (w.alloc (.cells #[] 57)).ownsRow (p + 1) 57 1 (.slice (some ⟨w.heap.size, 0, none⟩) 0 0) 0 [] := ⟨rfl, .inr ⟨w.heap.size, 0, #[], rfl, by omega, Blk.new w #[] 57, Nat.le_refl _, Nat.zero_le _, rfl, rfl⟩⟩
    refine wpl_append' sl144 (by omega) (by omega) (.tmp 5) (.tmp 11) 12 _ _ _ (p + 1) (.slice (some ⟨w.heap.size, 0, none⟩) 0 0) 0 [] rfl h0 ⟨g, 0, none⟩ (l.length - n) 0 ((l.drop n).map vP) rfl (by rw [List.length_map, List.length_drop]; omega) (fun i u hi => ?_) ?_ (by omega) (by omega) ?_
    · exfalso; have := (List.getElem?_eq_some_iff.1 hi).1; rw [List.length_map, List.length_drop] at this; omega
    · rw [List.all_eq_true]; intro v hv; obtain ⟨x, _, rfl⟩ := List.mem_map.1 hv; rfl
    · intro v' w' hown hgr hat
      rw [Nat.zero_add, List.nil_append] at hown
      obtain ⟨V', vc', rfl, _⟩ := own_slice hown
      have hp := Hd.mk (PastR.drop kr.out hG.out hown hgr hat)
      have hbox := Hd.mk (grownBy_blk' hgr (fun e => by have e2 : p = w.heap.size := (by simpa [Value.ownBlock] using e); exact absurd e2 (Nat.ne_of_lt hplt)) (kr.out.box.ext (Ext.alloc w (.cells #[] 57))))
      clear hown hgr hat h0 gB
      have gO := hbox.out.cell
      have fO := hbox.out.free
      go_wp2_with fail
      go_end0
      exact ⟨rfl, _, hp.out.1, hp.out.2⟩
  · go_wp2_with (with_reducible refine stop_at (.call { callee := .builtin .append, args := #[.tmp 5, .tmp 11], argTypes := #[144, 144] }) ?_)
    refine Stop.mk ?_
    have hs1 := (Ext.alloc w (.cells #[] 57)).size
    have h0 : (w.alloc (.cells #[] 57)).ownsRow (p + 1) 57 1 (.slice (some ⟨w.heap.size, 0, none⟩) 0 0) 0 [] := ⟨rfl, .inr ⟨w.heap.size, 0, #[], rfl, by omega, Blk.new w #[] 57, Nat.le_refl _, Nat.zero_le _, rfl, rfl⟩⟩
    refine wpl_append' sl144 (by omega) (by omega) (.tmp 5) (.tmp 11) 12 _ _ _ (p + 1) (.slice (some ⟨w.heap.size, 0, none⟩) 0 0) 0 [] rfl h0 ⟨g, n, none⟩ (l.length - n) (cap - n) ((l.drop n).map vP) rfl (by rw [List.length_map, List.length_drop]; omega) (fun i u hi => ?_) ?_ (by omega) (by omega) ?_
    · rw [List.getElem?_map, List.getElem?_drop] at hi
      obtain ⟨x, hx, rfl⟩ := Option.map_eq_some_iff.1 hi
      have h9 := Ext.cell (Ext.alloc w (.cells #[] 57)) (hc.out (n + i) x hx 0 _ rfl)
      rw [Nat.add_zero] at h9
      rw [addr_add]
      exact h9
    · rw [List.all_eq_true]; intro v hv; obtain ⟨x, _, rfl⟩ := List.mem_map.1 hv; rfl
    · intro v' w' hown hgr hat
      rw [Nat.zero_add, List.nil_append] at hown
      obtain ⟨V', vc', rfl, _⟩ := own_slice hown
      have hp := Hd.mk (PastR.drop kr.out hG.out hown hgr hat)
      have hbox := Hd.mk (grownBy_blk' hgr (fun e => by have e2 : p = w.heap.size := (by simpa [Value.ownBlock] using e); exact absurd e2 (Nat.ne_of_lt hplt)) (kr.out.box.ext (Ext.alloc w (.cells #[] 57))))
      clear hown hgr hat h0 gB
      have gO := hbox.out.cell
      have fO := hbox.out.free
      go_wp2_with fail
      go_end0
      exact ⟨rfl, _, hp.out.1, hp.out.2⟩
end Go.Proofs.Ytgkgedjmnbjalaa
set_option linter.unusedSimpArgs false
set_option linter.unusedVariables false
namespace Go.Proofs.Ytgkgedjmnbjalaa
open Go.RowKit Go.Sort
theorem setL_facts {l : List T} {x : T} (h : Srt l) : Srt (setL l x) ∧ kid (setL l x) (stepT x) = some x ∧ (∀ y ∈ setL l x, y = x ∨ y ∈ l) := by
  cases hk : kid l (stepT x) with
  | none =>
    obtain ⟨pre, suf, e, h1, h2, h3, h4⟩ := setL_new h hk
    rw [h1]
    refine ⟨h4, kid_at (fun p hp => less_ne (h2 p hp)) rfl, fun y hy => ?_⟩
    subst e
    simp at hy ⊢
    rcases hy with h | h | h
    · exact .inr (.inl h)
    · exact .inl h
    · exact .inr (.inr h)
  | some k =>
    obtain ⟨pre, suf, e, h1, h2, h3⟩ := setL_old hk
    rw [h1]
    subst e
    refine ⟨(srt_split h).2.2.2 x h2.symm, kid_at h3 rfl, fun y hy => ?_⟩
    simp at hy ⊢
    rcases hy with h | h | h
    · exact .inr (.inl h)
    · exact .inl h
    · exact .inr (.inr (.inr h))
theorem cutL_facts {l : List T} {s : Step} (h : Srt l) : Srt (cutL l s) ∧ kid (cutL l s) s = none ∧ (∀ y ∈ cutL l s, y ∈ l) := by
  cases hk : kid l s with
  | none =>
    have : cutL l s = l := by
      have := cut_pre (kid_none.1 hk) []
      simpa [cutL] using this
    rw [this]
    exact ⟨h, hk, fun y hy => hy⟩
  | some k =>
    obtain ⟨pre, suf, e, h2, h3⟩ := kid_some hk
    subst e
    rw [cut_at h3 h2]
    obtain ⟨h4, h5, h6, _⟩ := srt_split h
    refine ⟨h6, kid_none.2 fun y hy => ?_, fun y hy => by simp at hy ⊢; rcases hy with h | h; exact .inl h; exact .inr (.inr h)⟩
    rcases List.mem_append.1 hy with hy | hy
    · exact h3 y hy
    · rw [← h2]; exact (less_ne (h5 y hy)).symm
theorem repL_facts {l : List T} {s : Step} {k x : T} (h : Srt l) (hk : kid l s = some k) (hx : stepT x = s) : Srt (repL l s x) ∧ kid (repL l s x) s = some x ∧ (∀ y ∈ repL l s x, y = x ∨ y ∈ l) ∧ (∀ y, repL (repL l s x) s y = repL l s y) ∧ repL l s k = l := by
  obtain ⟨pre, suf, e, h2, h3⟩ := kid_some hk
  subst e
  rw [rep_at h3 h2]
  refine ⟨(srt_split h).2.2.2 x (hx.trans h2.symm), kid_at h3 hx, fun y hy => ?_, fun y => by rw [rep_at h3 hx, rep_at h3 h2], rep_at h3 h2⟩
  simp at hy ⊢
  rcases hy with h | h | h
  · exact .inr (.inl h)
  · exact .inl h
  · exact .inr (.inr (.inr h))
theorem cut_set {l : List T} {x : T} (h : Srt l) (hk : kid l (stepT x) = none) : cutL (setL l x) (stepT x) = l := by
  obtain ⟨pre, suf, e, h1, h2, h3, h4⟩ := setL_new h hk
  rw [h1, cut_at (fun p hp => less_ne (h2 p hp)) rfl, e]
theorem set_cut {l : List T} {s : Step} {x : T} (h : Srt l) (hk : kid l s = some x) : setL (cutL l s) x = l := by
  obtain ⟨pre, suf, e, h2, h3⟩ := kid_some hk
  subst e h2
  have hn := (cutL_facts (s := stepT x) h).2.1
  rw [setL, hn, if_neg (by simp), cut_at h3 rfl]
  obtain ⟨h4, h5, _⟩ := srt_split h
  exact ins_at h4 h5
theorem set_set {l : List T} {k x : T} (h : Srt l) (hk : kid l (stepT x) = some k) (hs : stepT k = stepT x) : setL (setL l x) k = l := by
  obtain ⟨pre, suf, e, h1, h2, h3⟩ := setL_old hk
  rw [h1, e, setL, hs, kid_at h3 rfl, if_pos (by simp), rep_at h3 rfl]
theorem right_wk {t : T} {l : List T} (h : rightT t = true) (h0 : t.kind = 0) (h1 : ∀ x ∈ l, rightT x = true) (h2 : Srt l) : rightT (t.wk l) = true :=
  (right_box (t := t.wk l) h0).2 ⟨((right_box h0).1 h).1, ((right_box h0).1 h).2.1, h1, h2⟩
theorem right_has {t x : T} {s : Step} (h : rightT t = true) (hk : kid t.kids s = some x) : t.kind = 0 ∧ rightT x = true ∧ Srt t.kids ∧ stepT x = s := by
  obtain ⟨pre, suf, e, h2, h3⟩ := kid_some hk
  have hx : x ∈ t.kids := by rw [e]; simp
  obtain ⟨h0, h1⟩ := right_kid' h hx
  exact ⟨h0, h1, ((right_box h0).1 h).2.2.2, h2⟩
theorem setR_right : ∀ (way : List Step) (n x m : T), rightT n = true → rightT x = true → setR n way x = (m, 0) → rightT m = true ∧ stepT m = stepT n ∧ m.kind = n.kind
  | [], n, x, m, _, _, h => by simp [setR] at h
  | [s], n, x, m, hn, hx, h => by
    rw [setR_one] at h
    split at h
    · split at h
      · simp at h
      · rename_i h1 h2
        have h0 : n.kind = 0 := Classical.byContradiction h2
        simp at h
        subst h
        obtain ⟨a1, a2, a3, a4⟩ := (right_box h0).1 hn
        obtain ⟨b1, b2, b3⟩ := setL_facts (x := x) a4
        refine ⟨right_wk hn h0 (fun y hy => ?_) b1, rfl, rfl⟩
        rcases b3 y hy with rfl | hy
        · exact hx
        · exact a3 y hy
    · simp at h
  | s :: q :: r, n, x, m, hn, hx, h => by
    rw [setR_cons] at h
    split at h
    · cases hk : kid n.kids s with
      | none => rw [hk] at h; simp at h
      | some k =>
        rw [hk] at h
        simp only at h
        obtain ⟨h0, h1, h2, h3⟩ := right_has hn hk
        by_cases hz : (setR k (q :: r) x).2 = 0
        · rw [if_pos hz] at h
          simp at h
          subst h
          obtain ⟨e1, e2, e3⟩ := setR_right (q :: r) k x _ h1 hx (Prod.ext rfl hz)
          obtain ⟨f1, f2, f3, _⟩ := repL_facts h2 hk (e2.trans h3)
          refine ⟨right_wk hn h0 (fun y hy => ?_) f1, rfl, rfl⟩
          rcases f3 y hy with rfl | hy
          · exact e1
          · exact ((right_box h0).1 hn).2.2.1 y hy
        · rw [if_neg hz] at h; rw [h] at hz; exact absurd rfl hz
    · simp at h
theorem cutR_right : ∀ (way : List Step) (n m : T), rightT n = true → cutR n way = (m, 0) → rightT m = true ∧ stepT m = stepT n ∧ m.kind = n.kind
  | [], n, m, _, h => by simp [cutR] at h
  | [s], n, m, hn, h => by
    rw [cutR_one] at h
    cases hk : kid n.kids s with
    | none => rw [hk] at h; simp at h
    | some k =>
      rw [hk] at h
      simp at h
      subst h
      obtain ⟨h0, h1, h2, h3⟩ := right_has hn hk
      obtain ⟨b1, b2, b3⟩ := cutL_facts (s := s) h2
      exact ⟨right_wk hn h0 (fun y hy => ((right_box h0).1 hn).2.2.1 y (b3 y hy)) b1, rfl, rfl⟩
  | s :: q :: r, n, m, hn, h => by
    rw [cutR_cons] at h
    cases hk : kid n.kids s with
    | none => rw [hk] at h; simp at h
    | some k =>
      rw [hk] at h
      simp only at h
      obtain ⟨h0, h1, h2, h3⟩ := right_has hn hk
      by_cases hz : (cutR k (q :: r)).2 = 0
      · rw [if_pos hz] at h
        simp at h
        subst h
        obtain ⟨e1, e2, e3⟩ := cutR_right (q :: r) k _ h1 (Prod.ext rfl hz)
        obtain ⟨f1, f2, f3, _⟩ := repL_facts h2 hk (e2.trans h3)
        refine ⟨right_wk hn h0 (fun y hy => ?_) f1, rfl, rfl⟩
        rcases f3 y hy with rfl | hy
        · exact e1
        · exact ((right_box h0).1 hn).2.2.1 y hy
      · rw [if_neg hz] at h; rw [h] at hz; exact absurd rfl hz
theorem oneT_right {n m : T} {e : E} (hn : rightT n = true) (he : e.kind ≠ 2 → rightT e.node = true) (h : oneT n e = (m, 0)) : rightT m = true ∧ stepT m = stepT n ∧ m.kind = n.kind := by
  unfold oneT at h
  split at h
  · simp at h
  · split at h
    · rename_i h1
      split at h
      · simp at h
      · exact setR_right _ _ _ _ hn (he (by omega)) h
    · split at h
      · simp at h
      · split at h
        · simp at h
        · split at h
          · exact cutR_right _ _ _ hn h
          · split at h
            · simp at h
            · rename_i h1 _ _ _ h2 _
              exact setR_right _ _ _ _ hn (he h2) h
def backE (e : E) : E := if e.kind = 1 then ⟨2, e.way, zeroT, e.node⟩ else if e.kind = 2 then ⟨1, e.way, e.old, zeroT⟩ else ⟨3, e.way, e.old, e.node⟩
theorem oneT_back : ∀ (way : List Step) (d : Int) (x y n m : T), Fit ⟨d, way, x, y⟩ → rightT n = true → oneT n ⟨d, way, x, y⟩ = (m, 0) →
    oneT m (backE ⟨d, way, x, y⟩) = (n, 0) ∧ getT m way = (if d = 2 then none else some x) ∧ (d ≠ 1 → getT n way = some y) ∧ (d = 1 → getT n way = none) ∧ stepT m = stepT n
  | [], d, x, y, n, m, _, _, h => by simp [oneT] at h
  | [s], d, x, y, n, m, hf, hn, h => by
    unfold oneT at h
    split at h
    · simp at h
    · rename_i hc
      simp only [List.cons_ne_self, List.cons_ne_nil, false_or, not_or, not_and, Classical.not_not, List.getLast?_singleton, Option.some.injEq] at hc
      obtain ⟨hd, hx, hy⟩ := hc
      simp only [getT_one] at h ⊢
      by_cases h1 : d = 1
      · subst h1
        simp only [if_pos] at h
        cases hk : kid n.kids s with
        | some k => rw [hk] at h; simp at h
        | none =>
          rw [hk, if_neg (by simp), setR_one] at h
          have hs : s = stepT x := hx (by omega)
          rw [if_pos hs] at h
          split at h
          · simp at h
          · rename_i hnk
            have h0 : n.kind = 0 := Classical.byContradiction hnk
            simp at h
            subst h
            subst hs
            have hsrt := ((right_box h0).1 hn).2.2.2
            obtain ⟨b1, b2, b3⟩ := setL_facts (x := x) hsrt
            refine ⟨?_, by simpa [wk_kids] using b2, by simp, by simp, rfl⟩
            unfold backE
            simp only [if_pos]
            unfold oneT
            rw [if_neg (by simp), if_neg (by simp)]
            simp only [getT_one, wk_kids, b2]
            rw [if_neg (by simp [sameT_rfl]), if_pos trivial, cutR_one]
            simp only [wk_kids, b2, cut_set hsrt hk, wk_wk, wk_self]
      · simp only [if_neg h1] at h
        have hy1 : s = stepT y := hy h1
        cases hk : kid n.kids s with
        | none => rw [hk] at h; simp at h
        | some k =>
          rw [hk] at h
          simp only at h
          split at h
          · simp at h
          · rename_i hsm
            obtain rfl : k = y := sameT_iff.1 (by simpa using hsm)
            obtain ⟨h0, hkr, hsrt, hks⟩ := right_has hn hk
            by_cases h2 : d = 2
            · subst h2
              simp only [if_pos, cutR_one, hk] at h
              simp at h
              subst h
              obtain ⟨b1, b2, b3⟩ := cutL_facts (s := s) hsrt
              refine ⟨?_, by simpa [wk_kids] using b2, by simp, by simp, rfl⟩
              unfold backE
              simp only
              rw [if_neg (by omega), if_pos trivial]
              unfold oneT
              rw [if_neg (by simp [hy1]), if_pos rfl]
              simp only [getT_one, wk_kids, b2]
              rw [if_neg (by simp), setR_one, if_pos hy1, if_neg (by simp [wk_kind, h0])]
              simp only [wk_kids, wk_wk, set_cut hsrt hk, wk_self]
            · simp only [if_neg h2] at h
              split at h
              · simp at h
              · rename_i hkk
                have hs : s = stepT x := hx h2
                rw [setR_one, if_pos hs, if_neg (by simp [h0])] at h
                simp at h
                subst h
                subst hs
                obtain ⟨b1, b2, b3⟩ := setL_facts (x := x) hsrt
                refine ⟨?_, by simpa [h2, wk_kids] using b2, by simp [hk], by simp [h1], rfl⟩
                have hkx : x.kind ≠ 0 := fun hh => hkk (.inl hh)
                have hky : k.kind ≠ 0 := fun hh => hkk (.inr hh)
                have hb : backE ⟨d, [stepT x], x, k⟩ = ⟨3, [stepT x], k, x⟩ := by simp [backE, h1, h2]
                rw [hb]
                unfold oneT
                rw [if_neg (by simp [hy1])]
                simp only [getT_one, wk_kids, b2, Int.reduceEq, ↓reduceIte]
                rw [if_neg (by simp [sameT_rfl]), if_neg (by simp [hkx, hky]), setR_one, if_pos hy1, if_neg (by simp [wk_kind, h0])]
                simp only [wk_kids, wk_wk, set_set hsrt hk hy1.symm, wk_self]
  | s :: q :: r, d, x, y, n, m, hf, hn, h => by
    cases hk : kid n.kids s with
    | none =>
      exfalso
      unfold oneT at h
      simp only [getT_cons, hk, Option.bind_none, setR_cons] at h
      split at h
      · simp at h
      · split at h
        · simp at h
          split at h <;> simp at h
        · simp at h
    | some k =>
      rw [oneT_cons n d s q r x y hk] at h
      obtain ⟨h0, hkr, hsrt, hks⟩ := right_has hn hk
      by_cases hz : (oneT k ⟨d, q :: r, x, y⟩).2 = 0
      · rw [if_pos hz] at h
        simp at h
        subst h
        obtain ⟨e1, e2, e3, e4, e5⟩ := oneT_back (q :: r) d x y k _ hf hkr (Prod.ext rfl hz)
        obtain ⟨k', hk'⟩ : ∃ k', (oneT k ⟨d, q :: r, x, y⟩).1 = k' := ⟨_, rfl⟩
        have e1 := e1
        simp only [hk'] at e1 e2 e5 ⊢
        obtain ⟨f1, f2, f3, f4, f5⟩ := repL_facts hsrt hk (e5.trans hks)
        refine ⟨?_, ?_, ?_, ?_, rfl⟩
        · have hb : ∃ d' x' y', backE ⟨d, q :: r, x, y⟩ = ⟨d', q :: r, x', y'⟩ ∧ backE ⟨d, s :: q :: r, x, y⟩ = ⟨d', s :: q :: r, x', y'⟩ := by
            unfold backE
            simp only
            split
            · exact ⟨_, _, _, rfl, rfl⟩
            · split
              · exact ⟨_, _, _, rfl, rfl⟩
              · exact ⟨_, _, _, rfl, rfl⟩
          obtain ⟨d', x', y', g1, g2⟩ := hb
          rw [g1] at e1
          rw [g2, oneT_cons (n.wk (repL n.kids s k')) d' s q r x' y' (k := k') f2, e1, if_pos rfl]
          simp only [wk_kids, wk_wk, f4, f5, wk_self]
        · rw [getT_cons, wk_kids, f2]; exact e2
        · intro hd; rw [getT_cons, hk]; exact e3 hd
        · intro hd; rw [getT_cons, hk]; exact e4 hd
      · rw [if_neg hz] at h; rw [h] at hz; exact absurd rfl hz
end Go.Proofs.Ytgkgedjmnbjalaa
set_option linter.unusedSimpArgs false
set_option linter.unusedVariables false
namespace Go.Proofs.Ytgkgedjmnbjalaa
open Go.RowKit Go.Sort
theorem own_keep {w w' : World} {B : Nat} {e : TypeId} {sz n : Nat} {v : Value} {xs : List Value} (h : w.ownsRow B e sz v n xs) (hk : ∀ g, v.ownBlock = some g → w'.heap[g]? = w.heap[g]?) : w'.ownsRow B e sz v n xs := by
  refine ⟨h.1, ?_⟩
  rcases h.2 with hn | ⟨g, cap, cur, rfl, hb, hgg, rest⟩
  · exact .inl hn
  · exact .inr ⟨g, cap, cur, rfl, hb, by rw [hk g rfl]; exact hgg, rest⟩
theorem own_weak {w : World} {B B' : Nat} {e : TypeId} {sz n : Nat} {v : Value} {xs : List Value} (hB : B' ≤ B) (h : w.ownsRow B e sz v n xs) : w.ownsRow B' e sz v n xs := by
  refine ⟨h.1, ?_⟩
  rcases h.2 with hn | ⟨g, cap, cur, rfl, hb, hgg, rest⟩
  · exact .inl hn
  · exact .inr ⟨g, cap, cur, rfl, by omega, hgg, rest⟩
theorem own_cap {w : World} {B : Nat} {e : TypeId} {sz n m c : Nat} {K : Option Addr} {xs : List Value} (h : w.ownsRow B e sz (.slice K m c) n xs) : n ≤ c ∧ c ≤ maxLen ∧ (K = none → c = 0) ∧ ∀ a, K = some a → ∃ g, a = ⟨g, 0, none⟩ ∧ B ≤ g ∧ g < w.heap.size := by
  rcases h.2 with ⟨hv, h0⟩ | ⟨g, cap, cur, hv, hb, hg, hc, hm, hs, ht⟩
  · simp only [Value.slice.injEq] at hv
    obtain ⟨rfl, rfl, rfl⟩ := hv
    subst h0
    exact ⟨Nat.le_refl _, Nat.zero_le _, fun _ => rfl, fun a ha => by cases ha⟩
  · simp only [Value.slice.injEq] at hv
    obtain ⟨rfl, rfl, rfl⟩ := hv
    exact ⟨hc, hm, fun h => (by cases h), fun a ha => (by cases ha; exact ⟨g, rfl, hb, heap_lt hg⟩)⟩
inductive OT : (Nat → Prop) → World → T → List Value → Prop where
  | mk (S : Nat → Prop) (w : World) (name key : ByteArray) (kind num : Int) (text : ByteArray) (kids : List T) (K : Option Addr) (kc : Nat) (css : List (List Value)) (Si : Nat → Nat → Prop)
    (hl : css.length = kids.length) (h6 : ∀ c ∈ css, c.length = 6) (hb : kids.length ≤ 1048576)
    (hown : w.ownsRow 0 54 6 (.slice K kids.length kc) kids.length css.flatten)
    (hg : ∀ g, (Value.slice K kids.length kc).ownBlock = some g → S g ∧ ∀ i, ¬ Si i g)
    (hS : ∀ i b, Si i b → S b)
    (hd : ∀ i j b, Si i b → Si j b → i = j)
    (hr : ∀ (i : Nat) k c, kids[i]? = some k → css[i]? = some c → OT (Si i) w k c) :
    OT S w (.mk name key kind num text kids) (cT name key kind num text K kids.length kc)
structure ORow (S : Nat → Prop) (w : World) (K : Option Addr) (kids : List T) (kc : Nat) (css : List (List Value)) (Si : Nat → Nat → Prop) : Prop where
  hl : css.length = kids.length
  h6 : ∀ c ∈ css, c.length = 6
  hb : kids.length ≤ 1048576
  own : w.ownsRow 0 54 6 (.slice K kids.length kc) kids.length css.flatten
  g : ∀ g, (Value.slice K kids.length kc).ownBlock = some g → S g ∧ ∀ i, ¬ Si i g
  sub : ∀ i b, Si i b → S b
  dis : ∀ i j b, Si i b → Si j b → i = j
  each : ∀ (i : Nat) k c, kids[i]? = some k → css[i]? = some c → OT (Si i) w k c
theorem OT.row {S : Nat → Prop} {w : World} {t : T} {c : List Value} (h : OT S w t c) : ∃ K kc css Si, c = cT t.name t.key t.kind t.num t.text K t.kids.length kc ∧ ORow S w K t.kids kc css Si := by
  cases h with
  | mk S w name key kind num text kids K kc css Si hl h6 hb hown hg hS hd hr => exact ⟨K, kc, css, Si, rfl, ⟨hl, h6, hb, hown, hg, hS, hd, hr⟩⟩
theorem OT.of_row {S : Nat → Prop} {w : World} {t : T} {K : Option Addr} {kc : Nat} {css : List (List Value)} {Si : Nat → Nat → Prop} (h : ORow S w K t.kids kc css Si) : OT S w t (cT t.name t.key t.kind t.num t.text K t.kids.length kc) := by
  obtain ⟨name, key, kind, num, text, kids⟩ := t
  exact .mk S w name key kind num text kids K kc css Si h.hl h.h6 h.hb h.own h.g h.sub h.dis h.each
theorem OT.len {S : Nat → Prop} {w : World} {t : T} {c : List Value} (h : OT S w t c) : c.length = 6 := by cases h; rfl
theorem OT.mono {S S' : Nat → Prop} {w : World} {t : T} {c : List Value} (hs : ∀ b, S b → S' b) (h : OT S w t c) : OT S' w t c := by
  cases h with
  | mk S w name key kind num text kids K kc css Si hl h6 hb hown hg hS hd hr =>
    exact .mk S' w name key kind num text kids K kc css Si hl h6 hb hown (fun g h => ⟨hs g (hg g h).1, (hg g h).2⟩) (fun i b h => hs b (hS i b h)) hd hr
theorem OT.keep {S : Nat → Prop} {w w' : World} {t : T} {c : List Value} (h : OT S w t c) (hk : ∀ b, S b → w'.heap[b]? = w.heap[b]?) : OT S w' t c := by
  induction h with
  | mk S w name key kind num text kids K kc css Si hl h6 hb hown hg hS hd hr ih =>
    exact .mk S w' name key kind num text kids K kc css Si hl h6 hb (own_keep hown fun g h => hk g (hg g h).1) hg hS hd (fun i k c hi hc => ih i k c hi hc fun b hb => hk b (hS i b hb))
theorem OT.ext {S : Nat → Prop} {w w' : World} {t : T} {c : List Value} (hS : ∀ b, S b → b < w.heap.size) (hx : Ext w w') (h : OT S w t c) : OT S w' t c := h.keep fun b hb => hx.block b (hS b hb)
theorem OT.rt {S : Nat → Prop} {w : World} {t : T} {c : List Value} (h : OT S w t c) : RT S w t c := by
  induction h with
  | mk S w name key kind num text kids K kc css Si hl h6 hb hown hg hS hd hr ih =>
    obtain ⟨h1, _, h3, _⟩ := own_cap hown
    refine .mk name key kind num text kids K kc css hl h6 (fun hn => ?_) (fun i k c hi hc => (ih i k c hi hc).mono fun b _ hb => hS i b hb) ⟨h1, hb, h3⟩
    obtain ⟨g, cap, sp, hv, _, hbk, _⟩ := own_form hown (by cases kids with | nil => exact absurd rfl hn | cons x l => simp)
    simp only [Value.slice.injEq] at hv
    obtain ⟨rfl, _, _⟩ := hv
    refine ⟨g, 0, rfl, (hg g rfl).1, fun j v hj => ?_⟩
    rw [Nat.zero_add, hbk.cell, List.getElem?_append_left (List.getElem?_eq_some_iff.1 hj).1]
    exact hj
theorem ORow.rrow {S : Nat → Prop} {w : World} {K : Option Addr} {kids : List T} {kc : Nat} {css : List (List Value)} {Si : Nat → Nat → Prop} (h : ORow S w K kids kc css Si) : RRow S w K kids kc := by
  have h1 := (OT.of_row (t := .mk ⟨#[]⟩ ⟨#[]⟩ 0 0 ⟨#[]⟩ kids) (K := K) (kc := kc) h).rt
  obtain ⟨K', kc', h2, h3⟩ := h1.row
  simp only [cT, T.name, T.key, T.kind, T.num, T.text, T.kids, List.cons.injEq, Value.slice.injEq, true_and, and_true] at h2
  obtain ⟨rfl, rfl⟩ := h2
  exact h3
theorem own_set6 {w w' : World} {B n kc g i : Nat} {css : List (List Value)} {cs' c' : List Value} (h6 : ∀ c ∈ css, c.length = 6) (hl : css.length = n) (hown : w.ownsRow B 54 6 (.slice (some ⟨g, 0, none⟩) n kc) n css.flatten) (hi : i < n) (hc' : c'.length = 6)
    (hb : ∀ cs, Blk w g cs 54 → Blk w' g cs' 54 ∧ cs'.length = cs.length ∧ (∀ p, p < i * 6 ∨ i * 6 + 6 ≤ p → cs'[p]? = cs[p]?) ∧ ∀ q v, c'[q]? = some v → cs'[i * 6 + q]? = some v) :
    w'.ownsRow B 54 6 (.slice (some ⟨g, 0, none⟩) n kc) n (css.set i c').flatten := by
  obtain ⟨g', cap, sp, hv, hB, hbk, hn, hm, hs⟩ := own_form hown (by omega)
  simp only [Value.slice.injEq, Option.some.injEq, Addr.mk.injEq, and_true, true_and] at hv
  obtain ⟨rfl, rfl⟩ := hv
  obtain ⟨b1, b2, b3, b4⟩ := hb _ hbk
  have h6' : ∀ c ∈ css.set i c', c.length = 6 := fun c hc => by
    rcases List.mem_or_eq_of_mem_set hc with hc | hc
    · exact h6 c hc
    · rw [hc]; exact hc'
  have hf : css.flatten.length = n * 6 := by rw [flatten_len css h6, hl]
  have hf' : (css.set i c').flatten.length = n * 6 := by rw [flatten_len _ h6', List.length_set, hl]
  have e : cs' = (css.set i c').flatten ++ sp := by
    apply List.ext_getElem?
    intro p
    by_cases hp : p < n * 6
    · rw [List.getElem?_append_left (by omega)]
      have hq : p / 6 < n := Nat.div_lt_of_lt_mul (by omega)
      have hpq : p = p / 6 * 6 + p % 6 := by omega
      by_cases he : p / 6 = i
      · have hlt : p % 6 < c'.length := by rw [hc']; omega
        have h1 := b4 (p % 6) _ (List.getElem?_eq_getElem hlt)
        have h2 := flatten_get (css.set i c') h6' i c' (List.getElem?_set_self (by omega)) (p % 6) _ (List.getElem?_eq_getElem hlt)
        rw [← he] at h1 h2
        rw [← hpq] at h1 h2
        rw [he] at h2
        rw [h1, h2]
      · have hci : (css[p / 6]'(by omega)).length = 6 := h6 _ (List.getElem_mem _)
        have hlt : p % 6 < (css[p / 6]'(by omega)).length := by omega
        have h1 := flatten_get css h6 (p / 6) _ (List.getElem?_eq_getElem (by omega)) (p % 6) _ (List.getElem?_eq_getElem hlt)
        have h2 := flatten_get (css.set i c') h6' (p / 6) _ (by rw [List.getElem?_set_ne (fun h => he h.symm)]; exact List.getElem?_eq_getElem (by omega)) (p % 6) _ (List.getElem?_eq_getElem hlt)
        rw [← hpq] at h1 h2
        rw [h2, b3 p (by omega), List.getElem?_append_left (by omega), h1]
    · rw [List.getElem?_append_right (by omega), b3 p (by omega), List.getElem?_append_right (by omega), hf, hf']
  subst e
  exact own_intro hB b1 hn hm (by rw [b2]; exact hs) hf'
theorem ORow.set {S Sx : Nat → Prop} {w w' : World} {K : Option Addr} {kids : List T} {kc i N : Nat} {css : List (List Value)} {Si : Nat → Nat → Prop} {x : T} {cx : List Value} (h : ORow S w K kids kc css Si) (hN : ∀ b, S b → b < N)
    (hx : OT Sx w' x cx) (hsx : ∀ b, Sx b → Si i b ∨ N ≤ b) (hown : w'.ownsRow 0 54 6 (.slice K kids.length kc) kids.length (css.set i cx).flatten) (hk : ∀ j, j ≠ i → ∀ b, Si j b → w'.heap[b]? = w.heap[b]?) :
    ORow (fun b => S b ∨ N ≤ b) w' K (kids.set i x) kc (css.set i cx) (fun j b => if j = i then Sx b else Si j b) := by
  refine ⟨by simp [h.hl], fun c hc => ?_, by simp [h.hb], by simpa using hown, fun g hg => ?_, fun j b hb => ?_, fun j j' b h1 h2 => ?_, fun j k c hj hc => ?_⟩
  · rcases List.mem_or_eq_of_mem_set hc with hc | hc
    · exact h.h6 c hc
    · rw [hc]; exact hx.len
  · rw [List.length_set] at hg
    obtain ⟨g1, g2⟩ := h.g g hg
    refine ⟨.inl g1, fun j => ?_⟩
    split
    · intro hs
      rcases hsx g hs with h3 | h3
      · exact g2 i h3
      · have := hN g g1; omega
    · exact g2 j
  · split at hb
    · rcases hsx b hb with h3 | h3
      · exact .inl (h.sub i b h3)
      · exact .inr h3
    · exact .inl (h.sub j b hb)
  · split at h1 <;> split at h2
    · omega
    · rename_i e1 e2
      rcases hsx b h1 with h3 | h3
      · have := h.dis i j' b h3 h2; omega
      · have := hN b (h.sub j' b h2); omega
    · rename_i e1 e2
      rcases hsx b h2 with h3 | h3
      · have := h.dis i j b h3 h1; omega
      · have := hN b (h.sub j b h1); omega
    · exact h.dis j j' b h1 h2
  · by_cases hji : j = i
    · subst hji
      have hlt : j < kids.length := by have := (List.getElem?_eq_some_iff.1 hj).1; simpa using this
      rw [List.getElem?_set_self hlt] at hj
      rw [List.getElem?_set_self (by rw [h.hl]; exact hlt)] at hc
      cases hj; cases hc
      simpa using hx
    · rw [List.getElem?_set_ne (fun e => hji e.symm)] at hj hc
      simp only [if_neg hji]
      exact (h.each j k c hj hc).keep fun b hb => hk j hji b hb
theorem ORow.perm {S Sx : Nat → Prop} {w w' : World} {K K' : Option Addr} {kids kids' : List T} {kc kc' N : Nat} {css css' : List (List Value)} {Si : Nat → Nat → Prop} {x : T} {cx : List Value} (h : ORow S w K kids kc css Si) (hN : ∀ b, S b → b < N) (f : Nat → Option Nat)
    (hx : (∃ j, f j = none) → OT Sx w' x cx) (hsx : ∀ b, Sx b → N ≤ b) (hl' : css'.length = kids'.length) (hb' : kids'.length ≤ 1048576)
    (hf : ∀ (j : Nat) k c, kids'[j]? = some k → css'[j]? = some c → (∃ i, f j = some i ∧ kids[i]? = some k ∧ css[i]? = some c) ∨ (f j = none ∧ k = x ∧ c = cx))
    (hinj : ∀ j j', f j = f j' → j = j') (hown : w'.ownsRow 0 54 6 (.slice K' kids'.length kc') kids'.length css'.flatten) (hk : ∀ i b, Si i b → w'.heap[b]? = w.heap[b]?)
    (hg' : ∀ g, (Value.slice K' kids'.length kc').ownBlock = some g → (Value.slice K kids.length kc).ownBlock = some g ∨ (N ≤ g ∧ ¬ Sx g)) :
    ORow (fun b => S b ∨ N ≤ b) w' K' kids' kc' css' (fun j b => match f j with | some i => Si i b | none => Sx b) := by
  have hlen : ∀ j, j < css'.length → ∃ k c, kids'[j]? = some k ∧ css'[j]? = some c := fun j hj => ⟨_, _, List.getElem?_eq_getElem (by omega), List.getElem?_eq_getElem hj⟩
  refine ⟨hl', fun c hc => ?_, hb', hown, fun g hg => ?_, fun j b hb => ?_, fun j j' b h1 h2 => ?_, fun j k c hj hc => ?_⟩
  · obtain ⟨j, hj⟩ := List.getElem?_of_mem hc
    obtain ⟨k, c2, e1, e2⟩ := hlen j (List.getElem?_eq_some_iff.1 hj).1
    rw [hj] at e2; cases e2
    rcases hf j k c e1 hj with ⟨i, _, _, h2⟩ | ⟨h1, _, h2⟩
    · exact h.h6 c (List.mem_of_getElem? h2)
    · rw [h2]; exact (hx ⟨j, h1⟩).len
  · rcases hg' g hg with h1 | ⟨h1, h2⟩
    · obtain ⟨g1, g2⟩ := h.g g h1
      refine ⟨.inl g1, fun j => ?_⟩
      split
      · exact g2 _
      · intro hs; have := hN g g1; have := hsx g hs; omega
    · refine ⟨.inr h1, fun j => ?_⟩
      split
      · intro hs; have := hN g (h.sub _ g hs); omega
      · exact h2
  · split at hb
    · exact .inl (h.sub _ b hb)
    · exact .inr (hsx b hb)
  · split at h1 <;> split at h2
    · rename_i _ i e1 _ i' e2
      have := h.dis i i' b h1 h2
      exact hinj j j' (by rw [e1, e2, this])
    · have := hN b (h.sub _ b h1); have := hsx b h2; omega
    · have := hN b (h.sub _ b h2); have := hsx b h1; omega
    · rename_i e1 _ e2
      exact hinj j j' (by rw [e1, e2])
  · rcases hf j k c hj hc with ⟨i, e1, e2, e3⟩ | ⟨e1, rfl, rfl⟩
    · simp only [e1]
      exact (h.each i k c e2 e3).keep fun b hb => hk i b hb
    · simp only [e1]
      exact hx ⟨j, e1⟩
end Go.Proofs.Ytgkgedjmnbjalaa
set_option linter.unusedSimpArgs false
set_option linter.unusedVariables false
namespace Go.Proofs.Ytgkgedjmnbjalaa
open Go.RowKit Go.Sort
def spEN (es : List E) (B : Nat) : SP := ⟨fun v w => ∃ A c, v = .slice A es.length c ∧ ERow (B ≤ ·) w A es c, fun _ _ _ h ⟨A, c, e, hr⟩ => ⟨A, c, e, hr.ext h⟩⟩
set_option maxRecDepth 100000 in
set_option maxHeartbeats 4000000 in
theorem past_push (G : Nat → Prop) (w : World) (p : Nat) (V : Value) (l : List Pe) (a b : T) (ca cb : List Value) (h : PastR G w p V l) (ha : RT (fun _ => True) w a ca) (hb : RT (fun _ => True) w b cb) (N : Nat) (hN : a.deep ≤ N) (hd : a.deep ≤ 1000000) (hsz : a.size + b.size ≤ 1000000) (hG : ∀ b, w.heap.size ≤ b → G b) :
    Calls Try.prog 79 #[.pointer (some ⟨p, 0, none⟩), .agg ca.toArray, .agg cb.toArray] w fun e w' => (l.length < 8 ∧ e = .returned (.int .i64 0) ∧ ∃ V' A c, PastR G w' p V' (l ++ [(inverse (edits N a b []), A, c)]) ∧ Fr p w V w' V') ∨ (l.length = 8 ∧ e = .returned (.int .i64 35) ∧ Ext w w') := by
  obtain ⟨Ka, ka, rfl, _⟩ := ha.row
  obtain ⟨Kb, kb, rfl, _⟩ := hb.row
  have hPR := Hd.mk h
  have hde := Hd.mk (fun W (h : Ext w W) => diff_edits (N := N) hN (ha.ext h) (hb.ext h) hd hsz)
  have hpl := Hd.mk h.box.lt
  have hVl := Hd.mk (own_lt h.own)
  replace hG := Hd.mk hG
  clear ha hb h
  simp only [cT] at hde ⊢
  generalize edits N a b [] = es at *
  go_enter Try.func79, Try.ntmps79
  go_wp2_with fail
  have kx := Hd.mk ((Ext.alloc w (.cells #[.string a.name, .string a.key, .int .i64 a.kind, .int .u64 a.num, .string a.text, .slice Ka a.kids.length ka] 54)).trans (Ext.alloc _ (.cells #[.string b.name, .string b.key, .int .i64 b.kind, .int .u64 b.num, .string b.text, .slice Kb b.kids.length kb] 54)))
  have kA := Hd.mk ((Blk.new w #[.string a.name, .string a.key, .int .i64 a.kind, .int .u64 a.num, .string a.text, .slice Ka a.kids.length ka] 54).alloc (.cells #[.string b.name, .string b.key, .int .i64 b.kind, .int .u64 b.num, .string b.text, .slice Kb b.kids.length kb] 54))
  have kB := Hd.mk (Blk.new2 w (.cells #[.string a.name, .string a.key, .int .i64 a.kind, .int .u64 a.num, .string a.text, .slice Ka a.kids.length ka] 54) #[.string b.name, .string b.key, .int .i64 b.kind, .int .u64 b.num, .string b.text, .slice Kb b.kids.length kb] 54)
  have hsW := Hd.mk kx.out.size
  generalize hpA : w.heap.size = pA at *
  replace hpA := Hd.mk hpA
  generalize (w.alloc _).alloc _ = W at *
  refine Flow.wp_region_flow_l (fun qq => match qq with
    | 9 => SP.eq (.pointer (some ⟨p, 0, none⟩))
    | 10 => SP.eq (.pointer (some ⟨p, 0, none⟩))
    | 11 => SP.eq (.pointer (some ⟨p, 0, none⟩))
    | 12 => SP.eq (.agg #[.string a.name, .string a.key, .int .i64 a.kind, .int .u64 a.num, .string a.text, .slice Ka a.kids.length ka])
    | 13 => SP.eq (.agg #[.string b.name, .string b.key, .int .i64 b.kind, .int .u64 b.num, .string b.text, .slice Kb b.kids.length kb])
    | 14 => spE es
    | 15 => spEN (inverse es) W.heap.size
    | _ => SP.any) 7 (by kernel_rfl) 18 rfl (by kernel_rfl) ?_ ?_
  · skip
    refine ⟨?_, ?_, ?_, ?_, ?_, ?_, ?_, trivial⟩
    · intro act W2 hk
      refine Flow.does_intro rfl (fun Kq hK => ?_)
      have e0 : act.tmps[0]?.getD undef = .pointer (some ⟨p, 0, none⟩) := hk.o 0 (by kernel_rfl)
      clear hk
      go_simp
      exact hK _ _ (Ext.refl _) (fun d hd => by cases hd; rfl)
    · intro act W2 hk
      refine Flow.does_intro rfl (fun Kq hK => ?_)
      have e9 : act.tmps[9]?.getD undef = .pointer (some ⟨p, 0, none⟩) := hk.v 9 (by kernel_rfl)
      clear hk
      go_simp
      exact hK _ _ (Ext.refl _) (fun d hd => by cases hd; rfl)
    · intro act W2 hk
      refine Flow.does_intro rfl (fun Kq hK => ?_)
      have e10 : act.tmps[10]?.getD undef = .pointer (some ⟨p, 0, none⟩) := hk.v 10 (by kernel_rfl)
      clear hk
      go_simp
      exact hK _ _ (Ext.refl _) (fun d hd => by cases hd; rfl)
    · intro act W2 hk
      refine Flow.does_intro rfl (fun Kq hK => ?_)
      have e4 : act.tmps[4]?.getD undef = .pointer (some ⟨pA, 0, none⟩) := hk.o 4 (by kernel_rfl)
      have g := ((kA.out).ext ((Ext.drew W).trans hk.ext)).cell
      clear hk
      go_simp
      exact hK _ _ (Ext.refl _) (fun d hd => by cases hd; rfl)
    · intro act W2 hk
      refine Flow.does_intro rfl (fun Kq hK => ?_)
      have e5 : act.tmps[5]?.getD undef = .pointer (some ⟨(pA + 1), 0, none⟩) := hk.o 5 (by kernel_rfl)
      have g := ((kB.out).ext ((Ext.drew W).trans hk.ext)).cell
      clear hk
      go_simp
      exact hK _ _ (Ext.refl _) (fun d hd => by cases hd; rfl)
    · intro act W2 hk
      refine Flow.does_intro rfl (fun Kq hK => ?_)
      have e12 : act.tmps[12]?.getD undef = .agg #[.string a.name, .string a.key, .int .i64 a.kind, .int .u64 a.num, .string a.text, .slice Ka a.kids.length ka] := hk.v 12 (by kernel_rfl)
      have e13 : act.tmps[13]?.getD undef = .agg #[.string b.name, .string b.key, .int .i64 b.kind, .int .u64 b.num, .string b.text, .slice Kb b.kids.length kb] := hk.v 13 (by kernel_rfl)
      have hx0 := Hd.mk ((Ext.drew W).trans hk.ext)
      have hsz0 := hx0.out.size
      clear hk
      go_simp
      refine Calls.mono (hde.out _ (kx.out.trans hx0.out)) ?_
      rintro e W3 ⟨_, rfl, A', c', rfl, hr', hx⟩
      exact hK _ _ hx (fun d hd => by cases hd; exact ⟨A', c', rfl, hr'⟩)
    · intro act W2 hk
      refine Flow.does_intro rfl (fun Kq hK => ?_)
      have hx0 := Hd.mk ((Ext.drew W).trans hk.ext)
      have hsz0 := hx0.out.size
      obtain ⟨A', c', e14, h14⟩ := (hk.v 14 (by kernel_rfl) : (spE _).p _ _)
      have hiv := Hd.mk (diff_inverse_new es (fun _ => True) W2 A' c' h14)
      clear h14
      clear hk
      go_simp
      refine Calls.mono (hiv.out) ?_
      rintro e W3 ⟨_, rfl, A9, c9, rfl, hr', hx⟩
      exact hK _ _ hx (fun d hd => by cases hd; exact ⟨A9, c9, rfl, hr'.keep (fun b off v hb hc => ⟨Nat.le_trans hsz0 hb, hc⟩)⟩)
  · intro act W2 he
    have hxW2 := Hd.mk ((Ext.drew W).trans he.ext)
    obtain ⟨us, hA, hF⟩ := he.out [9, 10, 11, 12, 13, 14, 15] (by kernel_rfl)
    simp only [Flow.fillL, List.contains_cons, List.contains_nil, Nat.reduceBEq, Bool.or_false, Bool.false_or, Bool.or_true, Bool.true_or, ↓reduceIte, Nat.reduceAdd, Bool.false_eq_true] at hA
    subst hA
    have f11 : us 11 = .pointer (some ⟨p, 0, none⟩) := hF 11 (by simp)
    have f15 : (spEN (inverse es) W.heap.size).p (us 15) W2 := hF 15 (by simp)
    clear hF he
    rw [f11]
    clear f11
    obtain ⟨A9, c9, e15, hr9⟩ := (f15 : (spEN _ _).p _ _)
    generalize us 15 = u15 at *
    subst e15
    replace kx := Hd.mk (kx.out.trans hxW2.out)
    replace hPR := Hd.mk (hPR.out.ext kx.out)
    have hER : ERow (fun b => p < b ∧ V.ownBlock ≠ some b ∧ G b) W2 A9 (inverse es) c9 := hr9.keep (fun b off v hb hc => ⟨⟨by have h1 := hpl.out; have h2 := hsW.out; have h3 := hpA.out; have h4 : W.heap.size ≤ b := hb; omega, fun e => by have h1 := hVl.out b e; have h2 := hsW.out; have h3 := hpA.out; have h4 : W.heap.size ≤ b := hb; omega, hG.out b (by have h2 := hsW.out; have h3 := hpA.out; have h4 : W.heap.size ≤ b := hb; omega)⟩, hc⟩)
    replace hER := Hd.mk hER
    clear hr9
    have hcall := Hd.mk (row_push G W2 p V l (inverse es, A9, c9) hPR.out hER.out (fun b hb => hG.out b (by have h1 := kx.out.size; have h3 := hpA.out; omega)))
    simp only [vP] at hcall
    refine (show wpList _ _ _ (⟨some 16, .call _, _, _, _, none⟩ :: _) _ _ from ?_)
    clear hde hER kA kB
    go_wp2_with fail
    refine Calls.mono hcall.out ?_
    rintro e w3 (⟨h8, rfl, V', hP, hF⟩ | ⟨h8, rfl, hx⟩)
    · have hP := Hd.mk hP
      have hF := Hd.mk ((Fr.of_ext kx.out).trans hF)
      replace h8 := Hd.mk h8
      go_wp2_with fail
      go_ret
      exact .inl ⟨h8.out, rfl, V', A9, c9, hP.out, hF.out⟩
    · have hx := Hd.mk (kx.out.trans hx)
      replace h8 := Hd.mk h8
      clear hcall
      go_wp2_with fail
      go_ret
      exact .inr ⟨h8.out, rfl, hx.out⟩
end Go.Proofs.Ytgkgedjmnbjalaa
set_option linter.unusedSimpArgs false
set_option linter.unusedVariables false
namespace Go.Proofs.Ytgkgedjmnbjalaa
open Go.RowKit Go.Sort
def preE (w : List Step) (e : E) : E := ⟨e.kind, w ++ e.way, e.node, e.old⟩
theorem mergeE_map {one other one' other' : T → List E} {both both' : T → T → List E} {f : E → E} (h1 : ∀ x, one' x = (one x).map f) (h2 : ∀ y, other' y = (other y).map f) (h3 : ∀ x y, both' x y = (both x y).map f) :
    ∀ (n : Nat) (xs ys : List T), mergeE one' other' both' n xs ys = (mergeE one other both n xs ys).map f
  | 0, _, _ => by simp [mergeE]
  | n + 1, [], [] => by simp [mergeE]
  | n + 1, x :: xs, [] => by simp [mergeE, h1, mergeE_map h1 h2 h3 n xs []]
  | n + 1, [], y :: ys => by simp [mergeE, h2, mergeE_map h1 h2 h3 n [] ys]
  | n + 1, x :: xs, y :: ys => by
    simp only [mergeE]
    split
    · rw [List.map_append, h1, mergeE_map h1 h2 h3 n xs (y :: ys)]
    · split
      · rw [List.map_append, h2, mergeE_map h1 h2 h3 n (x :: xs) ys]
      · rw [List.map_append, h3, mergeE_map h1 h2 h3 n xs ys]
theorem edits_map : ∀ (N : Nat) (a b : T) (w : List Step), edits N a b w = (edits N a b []).map (preE w)
  | 0, a, b, w => by simp [edits]
  | N + 1, a, b, w => by
    rw [edits, edits]
    refine mergeE_map (fun x => by simp [cutE, preE]) (fun y => by simp [setE, preE]) (fun x y => ?_) _ _ _
    unfold bothE
    split
    · rfl
    · split
      · simp [preE]
      · split
        · simp [cutE, setE, preE]
        · rw [edits_map N x y (w ++ [stepT x]), edits_map N x y ([] ++ [stepT x]), List.map_map]
          refine List.map_congr_left fun e _ => ?_
          simp [preE]
theorem one_cut {t : T} {pre suf : List T} {x : T} (h : ∀ p ∈ pre, stepT p ≠ stepT x) : oneT (t.wk (pre ++ x :: suf)) ⟨2, [stepT x], zeroT, x⟩ = (t.wk (pre ++ suf), 0) := by
  unfold oneT
  rw [if_neg (by simp), if_neg (by simp)]
  simp only [getT_one, wk_kids, kid_at h rfl]
  rw [if_neg (by simp [sameT_rfl]), if_pos trivial, cutR_one]
  simp only [wk_kids, kid_at h rfl, cut_at h rfl, wk_wk]
theorem one_set {t : T} {pre suf : List T} {y : T} (h0 : t.kind = 0) (h : ∀ p ∈ pre, lessT p y = true) (h2 : ∀ z ∈ suf, lessT y z = true) : oneT (t.wk (pre ++ suf)) ⟨1, [stepT y], y, zeroT⟩ = (t.wk (pre ++ y :: suf), 0) := by
  have hn : kid (pre ++ suf) (stepT y) = none := kid_none.2 fun z hz => by
    rcases List.mem_append.1 hz with hz | hz
    · exact less_ne (h z hz)
    · exact (less_ne (h2 z hz)).symm
  unfold oneT
  rw [if_neg (by simp), if_pos rfl]
  simp only [getT_one, wk_kids, hn]
  rw [if_neg (by simp), setR_one, if_pos rfl, if_neg (by simp [wk_kind, h0])]
  simp only [wk_kids, wk_wk, setL, hn]
  rw [if_neg (by simp), ins_at h h2]
theorem one_rep {t : T} {pre suf : List T} {x y : T} (h0 : t.kind = 0) (h : ∀ p ∈ pre, stepT p ≠ stepT x) (hs : stepT x = stepT y) (hx : x.kind ≠ 0) (hy : y.kind ≠ 0) : oneT (t.wk (pre ++ x :: suf)) ⟨3, [stepT x], y, x⟩ = (t.wk (pre ++ y :: suf), 0) := by
  unfold oneT
  rw [if_neg (by simp [hs]), if_neg (by simp)]
  simp only [getT_one, wk_kids, kid_at h rfl]
  rw [if_neg (by simp [sameT_rfl]), if_neg (by simp), if_neg (by simp [hx, hy]), setR_one, if_pos hs, if_neg (by simp [wk_kind, h0])]
  simp only [wk_kids, wk_wk, setL, ← hs, kid_at h rfl]
  rw [if_pos (by simp), rep_at h rfl]
abbrev mE (N : Nat) : Nat → List T → List T → List E := mergeE (cutE []) (setE []) (bothE (edits N) [])
theorem both_self (N : Nat) (x : T) : bothE (edits N) [] x x = [] := by simp [bothE, sameT_rfl]
def StepsTo (N : Nat) : Prop := ∀ (x y : T) (e : E) (es : List E), x.deep ≤ N → y.deep ≤ N → x.kind = 0 → y.kind = 0 → rightT x = true → rightT y = true → edits N x y [] = e :: es →
  ∃ x', oneT x e = (x', 0) ∧ rightT x' = true ∧ stepT x' = stepT x ∧ x'.kind = 0 ∧ x'.deep ≤ N ∧ edits N x' y [] = es
theorem box_eq {x y : T} (hx : rightT x = true) (hy : rightT y = true) (h1 : x.kind = 0) (h2 : y.kind = 0) (hs : stepT x = stepT y) (hk : x.kids = y.kids) : x = y := by
  obtain ⟨a1, a2, _⟩ := right_zero hx h1
  obtain ⟨b1, b2, _⟩ := right_zero hy h2
  exact T.ext' hs (by rw [h1, h2]) (by rw [a1, b1]) (by rw [a2, b2]) hk
theorem merge_step {N : Nat} (ih : StepsTo N) {t : T} (h0 : t.kind = 0) : ∀ (fuel : Nat) (pre xs ys : List T) (e : E) (es : List E), (∀ x ∈ xs, rightT x = true ∧ x.deep ≤ N) → (∀ y ∈ ys, rightT y = true ∧ y.deep ≤ N) → Srt (pre ++ xs) → Srt (pre ++ ys) →
    xs.length + ys.length ≤ fuel → mE N fuel xs ys = e :: es →
    ∃ xs', oneT (t.wk (pre ++ xs)) e = (t.wk (pre ++ xs'), 0) ∧ (∀ x ∈ xs', rightT x = true ∧ x.deep ≤ N) ∧ Srt (pre ++ xs') ∧ ∀ f, xs'.length + ys.length ≤ f → mE N f xs' ys = es
  | 0, pre, xs, ys, e, es, hx, hy, sx, sy, hf, h => by simp [mE, mergeE] at h
  | n + 1, pre, [], [], e, es, hx, hy, sx, sy, hf, h => by simp [mE, mergeE] at h
  | n + 1, pre, x :: xs, [], e, es, hx, hy, sx, sy, hf, h => by
    simp only [mE, mergeE, cutE, List.nil_append, List.cons_append, List.cons.injEq] at h
    obtain ⟨rfl, rfl⟩ := h
    obtain ⟨a1, a2, a3, _⟩ := srt_split sx
    refine ⟨xs, one_cut (fun p hp => less_ne (a1 p hp)), fun z hz => hx z (by simp [hz]), a3, fun f hff => mergeE_fuel f n xs [] hff (by simp at hf ⊢; omega)⟩
  | n + 1, pre, [], y :: ys, e, es, hx, hy, sx, sy, hf, h => by
    simp only [mE, mergeE, setE, List.nil_append, List.cons_append, List.cons.injEq] at h
    obtain ⟨rfl, rfl⟩ := h
    obtain ⟨a1, a2, a3, _⟩ := srt_split sy
    refine ⟨[y], one_set h0 a1 (fun z hz => by cases hz), fun z hz => ?_, ?_, fun f hff => ?_⟩
    · simp at hz; subst hz; exact hy z (by simp)
    · obtain ⟨b1, _, b3⟩ := List.pairwise_append.1 sy
      exact List.pairwise_append.2 ⟨b1, List.pairwise_singleton _ _, fun p hp z hz => by simp at hz; subst hz; exact a1 p hp⟩
    · simp only [List.length_cons, List.length_nil] at hff hf
      obtain ⟨f, rfl⟩ : ∃ f', f = f' + 1 := ⟨f - 1, by omega⟩
      show mE N (f + 1) [y] (y :: ys) = _
      rw [mE, mergeE_eq f [] ys (lessT_irr y) (lessT_irr y), both_self, List.nil_append]
      exact mergeE_fuel f n [] ys (by simp; omega) (by simp; omega)
  | n + 1, pre, x :: xs, y :: ys, e, es, hx, hy, sx, sy, hf, h => by
    simp only [List.length_cons] at hf
    obtain ⟨a1, a2, a3, a4⟩ := srt_split sx
    obtain ⟨b1, b2, b3, b4⟩ := srt_split sy
    have hx0 := hx x (by simp)
    have hy0 := hy y (by simp)
    have hxs : ∀ z ∈ xs, rightT z = true ∧ z.deep ≤ N := fun z hz => hx z (by simp [hz])
    have hys : ∀ z ∈ ys, rightT z = true ∧ z.deep ≤ N := fun z hz => hy z (by simp [hz])
    by_cases hlt : lessT x y = true
    · rw [mE, mergeE_lt n xs ys hlt] at h
      simp only [cutE, List.nil_append, List.cons_append, List.cons.injEq] at h
      obtain ⟨rfl, rfl⟩ := h
      exact ⟨xs, one_cut (fun p hp => less_ne (a1 p hp)), hxs, a3, fun f hff => mergeE_fuel f n xs (y :: ys) hff (by simp; omega)⟩
    · have hlt' : lessT x y = false := by simpa using hlt
      by_cases hgt : lessT y x = true
      · rw [mE, mergeE_gt n xs ys hlt' hgt] at h
        simp only [setE, List.nil_append, List.cons_append, List.cons.injEq] at h
        obtain ⟨rfl, rfl⟩ := h
        have hyx : ∀ z ∈ x :: xs, lessT y z = true := fun z hz => by
          rcases List.mem_cons.1 hz with rfl | hz
          · exact hgt
          · exact lessT_trans hgt (a2 z hz)
        refine ⟨y :: x :: xs, one_set h0 b1 hyx, fun z hz => ?_, ?_, fun f hff => ?_⟩
        · rcases List.mem_cons.1 hz with rfl | hz
          · exact hy0
          · exact hx z hz
        · obtain ⟨c1, c2, c3⟩ := List.pairwise_append.1 sx
          exact List.pairwise_append.2 ⟨c1, List.pairwise_cons.2 ⟨hyx, c2⟩, fun p hp z hz => by
            rcases List.mem_cons.1 hz with rfl | hz
            · exact b1 p hp
            · exact c3 p hp z hz⟩
        · simp only [List.length_cons] at hff
          obtain ⟨f, rfl⟩ : ∃ f', f = f' + 1 := ⟨f - 1, by omega⟩
          rw [mE, mergeE_eq f (x :: xs) ys (lessT_irr y) (lessT_irr y), both_self, List.nil_append]
          exact mergeE_fuel f n (x :: xs) ys (by simp; omega) (by simp; omega)
      · have hgt' : lessT y x = false := by simpa using hgt
        have hst := step_of_less hlt' hgt'
        rw [mE, mergeE_eq n xs ys hlt' hgt'] at h
        have hpx : ∀ p ∈ pre, stepT p ≠ stepT x := fun p hp => less_ne (a1 p hp)
        have hsy := a4 y hst.symm
        by_cases hsm : sameT x y = true
        · obtain rfl := sameT_iff.1 hsm
          rw [both_self, List.nil_append] at h
          obtain ⟨xs', c1, c2, c3, c4⟩ := merge_step ih h0 n (pre ++ [x]) xs ys e es hxs hys (by simpa using sx) (by simpa using sy) (by omega) h
          refine ⟨x :: xs', by simpa using c1, fun z hz => ?_, by simpa using c3, fun f hff => ?_⟩
          · rcases List.mem_cons.1 hz with rfl | hz
            · exact hx0
            · exact c2 z hz
          · simp only [List.length_cons] at hff
            obtain ⟨f, rfl⟩ : ∃ f', f = f' + 1 := ⟨f - 1, by omega⟩
            rw [mE, mergeE_eq f xs' ys (lessT_irr x) (lessT_irr x), both_self, List.nil_append]
            exact c4 f (by omega)
        · unfold bothE at h
          rw [if_neg hsm] at h
          by_cases hll : x.kind ≠ 0 ∧ y.kind ≠ 0
          · rw [if_pos hll] at h
            simp only [List.nil_append, List.cons_append, List.cons.injEq] at h
            obtain ⟨rfl, rfl⟩ := h
            refine ⟨y :: xs, one_rep h0 hpx hst hll.1 hll.2, fun z hz => ?_, hsy, fun f hff => ?_⟩
            · rcases List.mem_cons.1 hz with rfl | hz
              · exact hy0
              · exact hxs z hz
            · simp only [List.length_cons] at hff
              obtain ⟨f, rfl⟩ : ∃ f', f = f' + 1 := ⟨f - 1, by omega⟩
              rw [mE, mergeE_eq f xs ys (lessT_irr y) (lessT_irr y), both_self, List.nil_append]
              exact mergeE_fuel f n xs ys (by omega) (by omega)
          · rw [if_neg hll] at h
            have hyz : ∀ z ∈ xs, lessT y z = true := fun z hz => by rw [← (lessT_step (z := z) hst).1]; exact a2 z hz
            by_cases hl1 : x.kind ≠ 0 ∨ y.kind ≠ 0
            · rw [if_pos hl1] at h
              simp only [cutE, setE, List.nil_append, List.cons_append, List.cons.injEq] at h
              obtain ⟨rfl, rfl⟩ := h
              refine ⟨xs, one_cut hpx, hxs, a3, fun f hff => ?_⟩
              simp only [List.length_cons] at hff
              obtain ⟨f, rfl⟩ : ∃ f', f = f' + 1 := ⟨f - 1, by omega⟩
              cases xs with
              | nil =>
                rw [mE, mergeE_y]
                simp only [setE, List.nil_append, List.cons_append, List.cons.injEq, true_and]
                exact mergeE_fuel f n [] ys (by simp at hff ⊢; omega) (by simp at hf ⊢; omega)
              | cons z xs =>
                have hz := hyz z (by simp)
                rw [mE, mergeE_gt f xs ys (lessT_asymm hz) hz]
                simp only [setE, List.nil_append, List.cons_append, List.cons.injEq, true_and]
                exact mergeE_fuel f n (z :: xs) ys (by simp at hff ⊢; omega) (by simp at hf ⊢; omega)
            · rw [if_neg hl1] at h
              simp only [not_or, Classical.not_not] at hl1
              obtain ⟨k1, k2⟩ := hl1
              rw [edits_map] at h
              cases hed : edits N x y [] with
              | nil =>
                exfalso
                have hkids := (edits_nil N x y [] hx0.2 ((right_box k1).1 hx0.1).2.2.1 ((right_box k2).1 hy0.1).2.2.1).1 hed
                exact hsm (sameT_iff.2 (box_eq hx0.1 hy0.1 k1 k2 hst hkids))
              | cons e1 es1 =>
                rw [hed] at h
                simp only [List.nil_append, List.map_cons, List.cons_append, List.cons.injEq] at h
                obtain ⟨rfl, rfl⟩ := h
                obtain ⟨x', d1, d2, d3, d4, d5, d6⟩ := ih x y e1 es1 hx0.2 hy0.2 k1 k2 hx0.1 hy0.1 hed
                obtain ⟨s, r, hw⟩ := edits_front N x y [] e1 (by rw [hed]; simp)
                obtain ⟨ek, ew, en, eo⟩ := e1
                simp only [List.nil_append] at hw
                subst hw
                refine ⟨x' :: xs, ?_, fun z hz => ?_, a4 x' d3, fun f hff => ?_⟩
                · show oneT (t.wk (pre ++ x :: xs)) ⟨ek, stepT x :: s :: r, en, eo⟩ = _
                  rw [oneT_cons _ ek (stepT x) s r en eo (k := x) (by rw [wk_kids]; exact kid_at hpx rfl), d1, if_pos rfl]
                  simp only [wk_kids, wk_wk, rep_at hpx rfl]
                · rcases List.mem_cons.1 hz with rfl | hz
                  · exact ⟨d2, d5⟩
                  · exact hxs z hz
                · simp only [List.length_cons] at hff
                  obtain ⟨f, rfl⟩ : ∃ f', f = f' + 1 := ⟨f - 1, by omega⟩
                  have hst' : stepT x' = stepT y := d3.trans hst
                  rw [mE, mergeE_eq f xs ys (by rw [(lessT_step (z := y) hst').1]; exact lessT_irr y) (by rw [(lessT_step (z := y) hst').2]; exact lessT_irr y)]
                  congr 1
                  · unfold bothE
                    by_cases hs2 : sameT x' y = true
                    · rw [if_pos hs2]
                      obtain rfl := sameT_iff.1 hs2
                      rw [edits_self] at d6
                      rw [← d6]
                      rfl
                    · rw [if_neg hs2, if_neg (by simp [d4]), if_neg (by simp [d4, k2]), edits_map, d6, d3, List.nil_append]
                  · exact mergeE_fuel f n xs ys (by omega) (by omega)
theorem deep_of_mem {l : List T} {N : Nat} (h : ∀ x ∈ l, x.deep ≤ N) : deepL l ≤ N := by
  induction l with
  | nil => simp [deepL]
  | cons x l ih => have := h x (by simp); have := ih (fun y hy => h y (by simp [hy])); simp [deepL]; omega
theorem edits_step : ∀ N, StepsTo N
  | 0 => fun x y e es hx _ _ _ _ _ _ => by rw [x.deep_eq] at hx; omega
  | N + 1 => fun x y e es hx hy k1 k2 rx ry h => by
    rw [edits] at h
    obtain ⟨_, _, a3, a4⟩ := (right_box k1).1 rx
    obtain ⟨_, _, b3, b4⟩ := (right_box k2).1 ry
    rw [x.deep_eq] at hx
    rw [y.deep_eq] at hy
    obtain ⟨xs', c1, c2, c3, c4⟩ := merge_step (edits_step N) (t := x) k1 _ [] x.kids y.kids e es (fun z hz => ⟨a3 z hz, by have := kid_le_deep hz; omega⟩) (fun z hz => ⟨b3 z hz, by have := kid_le_deep hz; omega⟩) a4 b4 (Nat.le_refl _) h
    simp only [List.nil_append, wk_self] at c1 c3
    refine ⟨x.wk xs', c1, right_wk rx k1 (fun z hz => (c2 z hz).1) c3, rfl, k1, ?_, ?_⟩
    · rw [wk_deep]; have := deep_of_mem (fun z hz => (c2 z hz).2); omega
    · rw [edits]; exact c4 _ (Nat.le_refl _)
end Go.Proofs.Ytgkgedjmnbjalaa
set_option linter.unusedSimpArgs false
set_option linter.unusedVariables false
namespace Go.Proofs.Ytgkgedjmnbjalaa
open Go.RowKit Go.Sort
set_option maxRecDepth 100000 in
set_option maxHeartbeats 2000000 in
theorem find_one (x : T) (s : Step) (K : Option Addr) (c p : Nat) (w : World) (hp : Blk w p [.string s.1, .string s.2] 65) :
    Calls Try.prog 150 #[.agg #[.string x.name, .string x.key, .int .i64 x.kind, .int .u64 x.num, .string x.text, .slice K x.kids.length c], .pointer (some ⟨p, 0, none⟩)] w fun e w' => e = .returned (.bool (decide (stepT x = s))) ∧ Ext w w' := by
  obtain ⟨s1, s2⟩ := s
  have kP := Hd.mk hp
  have hs1 := Hd.mk (fun w => tree_step x K x.kids.length c w)
  simp only [cT] at hs1
  have sN := str_eq x.name s1
  have sK := str_eq x.key s2
  generalize hr : decide (stepT x = (s1, s2)) = r
  replace hr := Hd.mk hr
  clear hp
  go_enter Try.func150, Try.ntmps150
  go_wp2_with fail
  have kx := Hd.mk (Ext.alloc w (.cells #[.string x.name, .string x.key, .int .i64 x.kind, .int .u64 x.num, .string x.text, .slice K x.kids.length c] 54))
  have kA := Hd.mk (Blk.new w #[.string x.name, .string x.key, .int .i64 x.kind, .int .u64 x.num, .string x.text, .slice K x.kids.length c] 54)
  replace kP := Hd.mk (kP.out.ext kx.out)
  generalize w.heap.size = pA at *
  generalize w.alloc _ = W at *
  by_cases h1 : x.name = s1 ∧ x.key = s2
  · obtain ⟨rfl, rfl⟩ := h1
    have hr2 : r = true := by rw [← hr.out]; simp [stepT]
    subst hr2
    clear hr
    refine Flow.wp_region_flow_l (fun qq => match qq with
      | 4 => SP.eq (.agg #[.string x.name, .string x.key, .int .i64 x.kind, .int .u64 x.num, .string x.text, .slice K x.kids.length c])
      | 5 => SP.eq (.agg #[.string x.name, .string x.key])
      | 6 => SP.eq (.agg #[.string x.name, .string x.key])
      | 7 => SP.eq (.bool true)
      | 3 => SP.eq (.bool true)
      | _ => SP.any) 5 (by kernel_rfl) 8 rfl (by kernel_rfl) ?_ ?_
    · skip
      refine ⟨?_, ?_, ?_, ?_, ?_, trivial⟩
      · intro act W2 hk
        refine Flow.does_intro rfl (fun Kq hK => ?_)
        have e2 : act.tmps[2]?.getD undef = .pointer (some ⟨pA, 0, none⟩) := hk.o 2 (by kernel_rfl)
        have g := ((kA.out).ext ((Ext.drew W).trans hk.ext)).cell
        clear hk
        go_simp
        exact hK _ _ (Ext.refl _) (fun d hd => by cases hd; rfl)
      · intro act W2 hk
        refine Flow.does_intro rfl (fun Kq hK => ?_)
        have e4 : act.tmps[4]?.getD undef = .agg #[.string x.name, .string x.key, .int .i64 x.kind, .int .u64 x.num, .string x.text, .slice K x.kids.length c] := hk.v 4 (by kernel_rfl)
        clear hk
        go_simp
        refine Calls.mono (hs1.out _) ?_
        rintro e W3 ⟨rfl, hx⟩
        exact hK _ _ hx (fun d hd => by cases hd; rfl)
      · intro act W2 hk
        refine Flow.does_intro rfl (fun Kq hK => ?_)
        have e1 : act.tmps[1]?.getD undef = .pointer (some ⟨p, 0, none⟩) := hk.o 1 (by kernel_rfl)
        have g := ((kP.out).ext ((Ext.drew W).trans hk.ext)).cell
        clear hk
        go_simp
        exact hK _ _ (Ext.refl _) (fun d hd => by cases hd; rfl)
      · intro act W2 hk
        refine Flow.does_intro rfl (fun Kq hK => ?_)
        have e5 : act.tmps[5]?.getD undef = .agg #[.string x.name, .string x.key] := hk.v 5 (by kernel_rfl)
        have e6 : act.tmps[6]?.getD undef = .agg #[.string x.name, .string x.key] := hk.v 6 (by kernel_rfl)
        clear hk
        go_simp
        exact hK _ _ (Ext.refl _) (fun d hd => by cases hd; rfl)
      · intro act W2 hk
        refine Flow.does_intro rfl (fun Kq hK => ?_)
        have e7 : act.tmps[7]?.getD undef = .bool true := hk.v 7 (by kernel_rfl)
        clear hk
        go_simp
        exact hK _ _ (Ext.refl _) (fun d hd => by cases hd; rfl)
    · intro act W2 he
      have hxW2 := Hd.mk ((Ext.drew W).trans he.ext)
      obtain ⟨us, hA, hF⟩ := he.out [4, 5, 6, 7, 3] (by kernel_rfl)
      simp only [Flow.fillL, List.contains_cons, List.contains_nil, Nat.reduceBEq, Bool.or_false, Bool.false_or, Bool.or_true, Bool.true_or, ↓reduceIte, Nat.reduceAdd, Bool.false_eq_true] at hA
      subst hA
      have f3 : us 3 = .bool true := hF 3 (by simp)
      clear hF he
      rw [f3]
      clear f3
      refine (show wpList _ _ _ [] _ _ from ?_)
      go_wp2_with fail
      go_ret
      exact ⟨rfl, kx.out.trans hxW2.out⟩
  · have hr2 : r = false := by rw [← hr.out]; simp only [stepT, Prod.mk.injEq, decide_eq_false_iff_not]; exact h1
    subst hr2
    have hv := Hd.mk (not2 h1)
    clear hr sN sK h1
    refine Flow.wp_region_flow_l (fun qq => match qq with
      | 4 => SP.eq (.agg #[.string x.name, .string x.key, .int .i64 x.kind, .int .u64 x.num, .string x.text, .slice K x.kids.length c])
      | 5 => SP.eq (.agg #[.string x.name, .string x.key])
      | 6 => SP.eq (.agg #[.string s1, .string s2])
      | 7 => SP.eq (.bool false)
      | 3 => SP.eq (.bool false)
      | _ => SP.any) 5 (by kernel_rfl) 8 rfl (by kernel_rfl) ?_ ?_
    · skip
      refine ⟨?_, ?_, ?_, ?_, ?_, trivial⟩
      · intro act W2 hk
        refine Flow.does_intro rfl (fun Kq hK => ?_)
        have e2 : act.tmps[2]?.getD undef = .pointer (some ⟨pA, 0, none⟩) := hk.o 2 (by kernel_rfl)
        have g := ((kA.out).ext ((Ext.drew W).trans hk.ext)).cell
        clear hk
        go_simp
        exact hK _ _ (Ext.refl _) (fun d hd => by cases hd; rfl)
      · intro act W2 hk
        refine Flow.does_intro rfl (fun Kq hK => ?_)
        have e4 : act.tmps[4]?.getD undef = .agg #[.string x.name, .string x.key, .int .i64 x.kind, .int .u64 x.num, .string x.text, .slice K x.kids.length c] := hk.v 4 (by kernel_rfl)
        clear hk
        go_simp
        refine Calls.mono (hs1.out _) ?_
        rintro e W3 ⟨rfl, hx⟩
        exact hK _ _ hx (fun d hd => by cases hd; rfl)
      · intro act W2 hk
        refine Flow.does_intro rfl (fun Kq hK => ?_)
        have e1 : act.tmps[1]?.getD undef = .pointer (some ⟨p, 0, none⟩) := hk.o 1 (by kernel_rfl)
        have g := ((kP.out).ext ((Ext.drew W).trans hk.ext)).cell
        clear hk
        go_simp
        exact hK _ _ (Ext.refl _) (fun d hd => by cases hd; rfl)
      · intro act W2 hk
        refine Flow.does_intro rfl (fun Kq hK => ?_)
        have e5 : act.tmps[5]?.getD undef = .agg #[.string x.name, .string x.key] := hk.v 5 (by kernel_rfl)
        have e6 : act.tmps[6]?.getD undef = .agg #[.string s1, .string s2] := hk.v 6 (by kernel_rfl)
        clear hk
        skip
        rcases hv.out with q | ⟨q1, q⟩
        all_goals go_simp
        all_goals exact hK _ _ (Ext.refl _) (fun d hd => by cases hd; rfl)
      · intro act W2 hk
        refine Flow.does_intro rfl (fun Kq hK => ?_)
        have e7 : act.tmps[7]?.getD undef = .bool false := hk.v 7 (by kernel_rfl)
        clear hk
        go_simp
        exact hK _ _ (Ext.refl _) (fun d hd => by cases hd; rfl)
    · intro act W2 he
      have hxW2 := Hd.mk ((Ext.drew W).trans he.ext)
      obtain ⟨us, hA, hF⟩ := he.out [4, 5, 6, 7, 3] (by kernel_rfl)
      simp only [Flow.fillL, List.contains_cons, List.contains_nil, Nat.reduceBEq, Bool.or_false, Bool.false_or, Bool.or_true, Bool.true_or, ↓reduceIte, Nat.reduceAdd, Bool.false_eq_true] at hA
      subst hA
      have f3 : us 3 = .bool false := hF 3 (by simp)
      clear hF he
      rw [f3]
      clear f3
      refine (show wpList _ _ _ [] _ _ from ?_)
      go_wp2_with fail
      go_ret
      exact ⟨rfl, kx.out.trans hxW2.out⟩
theorem nodes_index (l : List T) (s : Step) (S : Nat → Prop) (w : World) (K : Option Addr) (c p : Nat) (hr : RRow S w K l c) (hp : Blk w p [.string s.1, .string s.2] 65) :
    Calls Try.prog 149 #[.slice K l.length c, .func (.func 150) #[] #[.pointer (some ⟨p, 0, none⟩)]] w fun e w' => e = .returned (.int .i64 (findT l s)) ∧ Ext w w' := by
  have kr := Hd.mk hr
  have hl := hr.len
  have kP := Hd.mk hp
  clear hp hr
  generalize hr : findT l s = r
  replace hr := Hd.mk (show r = findAt (l.drop 0) s 0 from hr.symm)
  go_enter Try.func149, Try.ntmps149
  go_wp2_with fail
  go_loopg [8] (l.length + 1) (fun q i wr => ∃ j : Nat, j ≤ l.length ∧ Hd (q = l.length + 1 - j) ∧ i = .int .i64 j ∧ Hd (r = findAt (l.drop j) s j) ∧ Hd (Ext w wr))
  case atStart => exact ⟨0, by omega, ⟨by omega⟩, rfl, hr, ⟨Ext.refl _⟩⟩
  case round =>
  obtain ⟨j, hj, hq, rfl, hI, hxr⟩ := hrel
  by_cases hlt : j < l.length
  · have hx1 := List.getElem?_eq_getElem hlt
    generalize l[j] = x at hx1
    obtain ⟨b1, o1, ck, rfl, _, hrk, hck⟩ := kr.out.kid j x hx1
    obtain ⟨K3, c3, rfl, _⟩ := hrk.row
    have hdrop := Hd.mk (hI.out.trans (findAt_drop hx1 s))
    obtain ⟨e0, e1, e2, e3, e4, e5⟩ := six hxr.out hck
    have hcall := Hd.mk (fun W' (h : Ext w W') => find_one x s K3 c3 p W' (kP.out.ext h))
    clear hck hrk hx1 hI
    go_wp2_with fail
    refine Calls.mono (hcall.out _ hxr.out) ?_
    rintro e w2 ⟨rfl, hx⟩
    have hxr2 := Hd.mk (hxr.out.trans hx)
    clear hcall e0 e1 e2 e3 e4 e5 hxr hx
    by_cases hs : stepT x = s
    · have hr0 := hdrop.out
      rw [if_pos hs] at hr0
      subst hr0
      rw [decide_eq_true hs]
      clear hdrop hs
      go_wp2_with fail
      go_ret
      exact ⟨rfl, hxr2.out⟩
    · have hr0 := Hd.mk (show r = findAt (l.drop (j + 1)) s (j + 1) by rw [hdrop.out, if_neg hs])
      rw [decide_eq_false hs]
      clear hdrop hs
      go_wp2_with fail
      go_roundg (l.length + 1 - (j + 1))
      case measure => have := hq.out; omega
      case rel => exact ⟨j + 1, by omega, ⟨rfl⟩, by go_num, hr0, hxr2⟩
  · have hjl : j = l.length := by omega
    have hr0 : r = -1 := by rw [hI.out, hjl, List.drop_length]; rfl
    subst hr0
    clear hI hjl
    go_wp2_with fail
    go_ret
    exact ⟨rfl, hxr.out⟩
set_option maxRecDepth 100000 in
set_option maxHeartbeats 2000000 in
theorem tree_find (t : T) (s : Step) (S : Nat → Prop) (w : World) (b o : Nat) (c : List Value) (h : RT S w t c) (hc : ∀ (q : Nat) v, c[q]? = some v → w.cell? ⟨b, o + q, none⟩ = some v) :
    Calls Try.prog 121 #[.pointer (some ⟨b, o, none⟩), .agg #[.string s.1, .string s.2]] w fun e w' => e = .returned (.int .i64 (findT t.kids s)) ∧ Ext w w' := by
  obtain ⟨K, kc, rfl, hrow⟩ := h.row
  obtain ⟨s1, s2⟩ := s
  obtain ⟨e0, e1, e2, e3, e4, e5⟩ := six (Ext.alloc w (.cells #[.string s1, .string s2] 65)) hc
  have lt1 := World.block_lt_of_cell? _ _ e0
  have kr := Hd.mk hrow
  clear hrow h hc
  go_enter Try.func121, Try.ntmps121
  go_wp2_with fail
  have kx := Hd.mk (Ext.alloc w (.cells #[.string s1, .string s2] 65))
  have kP := Hd.mk (Blk.new w #[.string s1, .string s2] 65)
  generalize w.heap.size = pP at *
  generalize w.alloc _ = W at *
  refine Calls.mono (nodes_index t.kids (s1, s2) S W K kc pP (kr.out.ext kx.out) kP.out) ?_
  rintro e w2 ⟨rfl, hx⟩
  have kx2 := Hd.mk (kx.out.trans hx)
  clear hx kx kP e0 e1 e2 e3 e4 e5
  go_wp2_with fail
  go_ret
  exact ⟨rfl, kx2.out⟩
def Pth (w : World) : Nat → Nat → T → List Step → Nat → Nat → Prop
  | b0, o0, _, [], b, o => b = b0 ∧ o = o0
  | b0, o0, t, s :: r, b, o => ∃ (i : Nat) (k : T) (g f n c : Nat), findT t.kids s = (i : Int) ∧ t.kids[i]? = some k ∧ w.cell? ⟨b0, o0 + 5, none⟩ = some (.slice (some ⟨g, f, none⟩) n c) ∧ Pth w g (f + i * 6) k r b o
theorem findT_kid (l : List T) (s : Step) : (findT l s = -1 ∧ kid l s = none) ∨ ∃ (i : Nat) (x : T), findT l s = (i : Int) ∧ l[i]? = some x ∧ kid l s = some x ∧ (∀ y, repL l s y = l.set i y) ∧ cutL l s = l.eraseIdx i := by
  rcases findT_spec l s with ⟨h1, h2⟩ | ⟨i, x, h1, h2, h3, h4⟩
  · exact .inl ⟨h1, kid_none.2 h2⟩
  · obtain ⟨hlt, hx⟩ := List.getElem?_eq_some_iff.1 h2
    have hl : l = l.take i ++ x :: l.drop (i + 1) := by rw [← hx, ← List.drop_eq_getElem_cons hlt, List.take_append_drop]
    have hp : ∀ p ∈ l.take i, stepT p ≠ s := fun p hp => by
      obtain ⟨k, hk⟩ := List.getElem?_of_mem hp
      have hki : k < i := by have := (List.getElem?_eq_some_iff.1 hk).1; simp at this; omega
      rw [List.getElem?_take, if_pos hki] at hk
      exact h4 k p hki hk
    refine .inr ⟨i, x, h1, h2, ?_, fun y => ?_, ?_⟩
    · rw [hl]; exact kid_at hp h3
    · conv => lhs; rw [hl]
      rw [rep_at hp h3, List.set_eq_take_append_cons_drop, if_pos hlt]
    · conv => lhs; rw [hl]
      rw [cut_at hp h3, List.eraseIdx_eq_take_drop_succ]
set_option maxRecDepth 100000 in
set_option maxHeartbeats 4000000 in
theorem tree_at (t : T) (way : List Step) (S S' : Nat → Prop) (w : World) (b o : Nat) (c : List Value) (A : Option Addr) (ac : Nat) (h : RT S w t c) (hc : ∀ (q : Nat) v, c[q]? = some v → w.cell? ⟨b, o + q, none⟩ = some v) (hw : WRow S' w A way ac) :
    Calls Try.prog 120 #[.pointer (some ⟨b, o, none⟩), .slice A way.length ac] w fun e w' => Ext w w' ∧
      ((getT t way = none ∧ e = .returned (.pointer none)) ∨ ∃ u bu ou, getT t way = some u ∧ e = .returned (.pointer (some ⟨bu, ou, none⟩)) ∧ Pth w b o t way bu ou) := by
  have kw := Hd.mk hw
  have hl := hw.len
  have h0 := Hd.mk (show ∃ (tj : T) (cj : List Value), RT S w tj cj ∧ (∀ (q : Nat) v, cj[q]? = some v → w.cell? ⟨b, o + q, none⟩ = some v) ∧ getT t way = getT tj (way.drop 0) ∧ ∀ bu ou, Pth w b o tj (way.drop 0) bu ou → Pth w b o t way bu ou from ⟨t, c, h, hc, rfl, fun _ _ h => h⟩)
  clear h hc hw
  go_enter Try.func120, Try.ntmps120
  go_wp2_with fail
  go_loopg [0, 10] (way.length + 1) (fun q p0 i wr => ∃ (j bj oj : Nat), j ≤ way.length ∧ Hd (q = way.length + 1 - j) ∧ p0 = .pointer (some ⟨bj, oj, none⟩) ∧ i = .int .i64 j ∧ Hd (Ext w wr) ∧
    Hd (∃ (tj : T) (cj : List Value), RT S w tj cj ∧ (∀ (q : Nat) v, cj[q]? = some v → w.cell? ⟨bj, oj + q, none⟩ = some v) ∧ getT t way = getT tj (way.drop j) ∧ ∀ bu ou, Pth w bj oj tj (way.drop j) bu ou → Pth w b o t way bu ou))
  case atStart => exact ⟨0, b, o, by omega, ⟨by omega⟩, rfl, rfl, ⟨Ext.refl _⟩, h0⟩
  case round =>
  obtain ⟨j, bj, oj, hj, hq, rfl, rfl, hxr, hI⟩ := hrel
  obtain ⟨tj, cj, hrt, hcj, hget, hpth⟩ := hI.out
  clear hI h0
  obtain ⟨K, kc, rfl, hrow⟩ := hrt.row
  by_cases hlt : j < way.length
  · have hs1 := List.getElem?_eq_getElem hlt
    have hdr := List.drop_eq_getElem_cons hlt
    generalize way[j] = s at hs1 hdr
    obtain ⟨b2, o2, rfl, _, hdk⟩ := WRow.at kw.out hs1
    obtain ⟨d0, d1⟩ := twoC hxr.out hdk
    obtain ⟨e0, e1, e2, e3, e4, e5⟩ := six hxr.out hcj
    have lt1 := World.block_lt_of_cell? wr _ e0
    rw [hdr] at hget hpth
    have hfind := Hd.mk (fun W (h : Ext w W) => tree_find tj s S W bj oj _ (hrt.ext h) (fun q v hv => Ext.cell h (hcj q v hv)))
    have h5 := Hd.mk (hcj 5 _ rfl)
    have hget := Hd.mk hget
    have hpth := Hd.mk hpth
    have hrow := Hd.mk hrow
    have hrt := Hd.mk hrt
    clear hcj hdk hs1 hdr
    go_wp2_with fail
    have kxB := Hd.mk (hxr.out.trans (Ext.alloc wr (.cells #[.string s.1, .string s.2] 65)))
    refine Calls.mono (hfind.out _ kxB.out) ?_
    rintro e w2 ⟨rfl, hx⟩
    have kx2 := Hd.mk (kxB.out.trans hx)
    have e5' := Hd.mk (Ext.cell kx2.out h5.out)
    have lt2 := Nat.lt_of_lt_of_le lt1 (Nat.le_trans (Ext.alloc wr (.cells #[.string s.1, .string s.2] 65)).size hx.size)
    clear hx e0 e1 e2 e3 e4 e5 d0 d1 hfind kxB hxr
    rcases findT_kid tj.kids s with ⟨hf, hk⟩ | ⟨i, k, hf, hi, hk, _⟩
    · rw [hf]
      have hnone : getT t way = none := by rw [hget.out, getT_cons, hk]; rfl
      clear hget hpth hf hk
      go_wp2_with fail
      go_ret
      exact ⟨kx2.out, .inl ⟨hnone, rfl⟩⟩
    · have hkl := (List.getElem?_eq_some_iff.1 hi).1
      obtain ⟨g, f, ck, rfl, _, hrk, hck⟩ := hrow.out.kid i k hi
      have hfi := Hd.mk hf
      rw [hf]
      have hnext := Hd.mk (show ∃ (tj : T) (cj : List Value), RT S w tj cj ∧ (∀ (q : Nat) v, cj[q]? = some v → w.cell? ⟨g, f + i * 6 + q, none⟩ = some v) ∧ getT t way = getT tj (way.drop (j + 1)) ∧ ∀ bu ou, Pth w g (f + i * 6) tj (way.drop (j + 1)) bu ou → Pth w b o t way bu ou from
        ⟨k, ck, hrk, hck, by rw [hget.out, getT_cons, hk]; rfl, fun bu ou hp => hpth.out bu ou ⟨i, k, g, f, _, _, hf, hi, h5.out, hp⟩⟩)
      have gB := e5'.out
      have hil : (i : Int) < (tj.kids.length : Int) := by omega
      clear hget hpth hf hk hrk hck hrow hrt hi
      go_wp2_with fail
      go_roundg (way.length + 1 - (j + 1))
      case measure => have := hq.out; omega
      case rel => exact ⟨j + 1, g, f + i * 6, by omega, ⟨rfl⟩, rfl, by go_num, kx2, hnext⟩
  · have hjl : j = way.length := by omega
    subst hjl
    rw [List.drop_length] at hget hpth
    have hget := Hd.mk hget
    have hpth := Hd.mk hpth
    clear hcj hrt
    go_wp2_with fail
    go_ret
    exact ⟨hxr.out, .inr ⟨tj, bj, oj, hget.out, rfl, hpth.out bj oj ⟨rfl, rfl⟩⟩⟩
end Go.Proofs.Ytgkgedjmnbjalaa
set_option linter.unusedSimpArgs false
set_option linter.unusedVariables false
namespace Go.Proofs.Ytgkgedjmnbjalaa
open Go.RowKit Go.Sort
section
variable {P : Program} {w : World} {T E : TypeId} {sz by_ : Nat}
theorem run_copy_sz (hT : SlT P T E sz by_) (T' ty : TypeId) (g o dLen dCap : Nat) (a : Addr) (sLen sCap : Nat) (cur : List Value) (t : TypeId) (cs : List Value) (hg : Blk w g cur t)
    (hn : cs.length = Nat.min sLen dLen * sz) (hsrc : ∀ j v, cs[j]? = some v → w.cell? (a.add j) = some v) (hfit : o + cs.length ≤ cur.length) (h1 : cs.all (·.oneCell') = true) :
    (Builtin.copy_ #[T, T'] ty #[.slice (some ⟨g, o, none⟩) dLen dCap, .slice (some a) sLen sCap]).run P w = .ok (goInt (Nat.min sLen dLen)) (w.setRow g (cur.take o ++ cs ++ cur.drop (o + cs.length)).toArray) := by
  obtain ⟨ht, i, z, hi, hz, hz1, hz2, hz3⟩ := hT
  have hl := run_loadCells_list (P := P) w a cs hsrc
  rw [hn] at hl
  have hst := run_storeCells_at P g o t cs 0 cur.toArray w hg (by simpa using hfit) (by rw [List.all_eq_true] at h1; exact h1)
  subst hz1
  simp [Builtin.copy_, run_underlying ht, Builtin.lenOf, Builtin.firstCells, sizeOf, typeInfo, hi, hl, hst]
theorem wpl_copy {ops : Array Oper} {rest : List Oper} {a : Act} {Q : Exit → Act → World → Prop} (hT : SlT P T E sz by_) (x y : Operand) (d : Option Tmp) (T' p1 : TypeId) (p2 : String) (p3 : Array Edge)
    (g o dLen dCap : Nat) (hx : a.eval x = .slice (some ⟨g, o, none⟩) dLen dCap) (ad : Addr) (sLen sCap : Nat) (hy : a.eval y = .slice (some ad) sLen sCap) (cur : List Value) (t : TypeId) (cs : List Value) (hg : Blk w g cur t)
    (hn : cs.length = Nat.min sLen dLen * sz) (hsrc : ∀ j v, cs[j]? = some v → w.cell? (ad.add j) = some v) (hfit : o + cs.length ≤ cur.length) (h1 : cs.all (·.oneCell') = true)
    (h : ∀ w', Upd w w' g → Blk w' g (cur.take o ++ cs ++ cur.drop (o + cs.length)) t → wpList P ops Q rest (a.put d (goInt (Nat.min sLen dLen))) w') :
    wpList P ops Q (⟨d, .call { callee := .builtin .copy, args := #[x, y], argTypes := #[T, T'] }, p1, p2, p3, none⟩ :: rest) a w := by
  refine wpList_plain rfl fun K hK => ?_
  have hrun := run_copy_sz (P := P) hT T' p1 g o dLen dCap ad sLen sCap cur t cs hg hn hsrc hfit h1
  unfold Oper.wp execOp
  simp only [resolve, invoke, builtin, Sem.run_bind, Sem.run_pure, Result.andThen_ok, List.map_toArray, List.map_cons, List.map_nil, hx, hy, hrun]
  exact hK _ _ (h _ (Upd.setRow w g _) (by have := hg.setRow (cur.take o ++ cs ++ cur.drop (o + cs.length)).toArray; simpa using this))
theorem wpl_append_room {ops : Array Oper} {rest : List Oper} {a : Act} {Q : Exit → Act → World → Prop} (hT : SlT P T E sz by_) (x y : Operand) (d : Tmp) (p1 : TypeId) (p2 : String) (p3 : Array Edge)
    (g sLen sCap : Nat) (hx : a.eval x = .slice (some ⟨g, 0, none⟩) sLen sCap) (ad : Addr) (m c : Nat) (hy : a.eval y = .slice (some ad) m c) (cur : List Value) (news : List Value) (hg : Blk w g cur E)
    (hl : news.length = m * sz) (hsrc : ∀ j v, news[j]? = some v → w.cell? (ad.add j) = some v) (hroom : sLen + m ≤ sCap) (hfit : sLen * sz + news.length ≤ cur.length) (h1 : news.all (·.oneCell') = true)
    (h : ∀ w', Upd w w' g → Blk w' g (cur.take (sLen * sz) ++ news ++ cur.drop (sLen * sz + news.length)) E → wpList P ops Q rest (a.put (some d) (.slice (some ⟨g, 0, none⟩) (sLen + m) sCap)) w') :
    wpList P ops Q (⟨some d, .call { callee := .builtin .append, args := #[x, y], argTypes := #[T, T] }, p1, p2, p3, none⟩ :: rest) a w := by
  obtain ⟨ht, i, z, hi, hz, hz1, hz2, hz3⟩ := hT
  subst hz1
  refine wpList_plain rfl fun K hK => ?_
  have hrun := run_append_room (P := P) w T p1 E i ht hi g sLen sCap cur.toArray hg ad m c news hl hsrc (by rw [List.all_eq_true] at h1; exact h1) hroom (by simpa using hfit)
  unfold Oper.wp execOp
  simp only [resolve, invoke, builtin, Sem.run_bind, Sem.run_pure, Result.andThen_ok, List.map_toArray, List.map_cons, List.map_nil, hx, hy, hrun]
  exact hK _ _ (h _ (Upd.setRow w g _) (by have := hg.setRow (cur.take (sLen * i.size) ++ news ++ cur.drop (sLen * i.size + news.length)).toArray; simpa using this))
theorem wpl_append_zeros {ops : Array Oper} {rest : List Oper} {a : Act} {Q : Exit → Act → World → Prop} (hT : SlT P T E sz by_) (hsz : 0 < sz) (hby : 0 < by_) {tn : TypeId} {kn : IntKind} (htn : P.underlying tn = some (.int kn)) (x y : Operand) (d : Tmp) (p1 : TypeId) (p2 : String) (p3 : Array Edge)
    (ad : Addr) (sLen sCap : Nat) (hx : a.eval x = .slice (some ad) sLen sCap) (kq : IntKind) (k : Nat) (hy : a.eval y = .int kq k) (olds : List Value) (hl : olds.length = sLen * sz) (hold : ∀ j v, olds[j]? = some v → w.cell? (ad.add j) = some v)
    (h0 : 0 < k) (hg : sCap < sLen + k) (hbytes : (sLen + k) * by_ ≤ 140737488355328)
    (h : ∀ cap sp w', Ext w w' → w.heap.size < w'.heap.size → Blk w' w.heap.size (olds ++ sp) E → (olds ++ sp).length = cap * sz → sLen + k ≤ cap → cap ≤ maxLen → wpList P ops Q rest (a.put (some d) (.slice (some ⟨w.heap.size, 0, none⟩) (sLen + k) cap)) w') :
    wpList P ops Q (⟨some d, .call { callee := .builtin .append, args := #[x, y], argTypes := #[T, tn] }, p1, p2, p3, none⟩ :: rest) a w := by
  obtain ⟨ht, i, z, hi, hz, hz1, hz2, hz3⟩ := hT
  subst hz1 hz2
  have hle : sLen + k ≤ 140737488355328 := Nat.le_trans (Nat.le_mul_of_pos_right _ hby) hbytes
  have hkb : k * i.bytes ≤ 281474976710656 := by
    have h1 : k * i.bytes ≤ (sLen + k) * i.bytes := Nat.mul_le_mul_right _ (by omega)
    omega
  refine wpList_plain rfl fun K hK => ?_
  have hld : (Builtin.firstCells i.size sLen (.slice (some ad) sLen sCap)).run P w.drew = .ok olds.toArray w.drew := by
    have := run_loadCells_list (P := P) w.drew ad olds hold
    rw [hl] at this
    simpa [Builtin.firstCells] using this
  have hrun := Lib.run_append_grow_zeros (P := P) w T tn p1 E i z kq kn ht htn hi hz (some ad) sLen sCap olds hld k h0 hsz hg (by omega) hkb (growslice_fits hg hbytes)
  unfold Oper.wp execOp
  simp only [resolve, invoke, builtin, Sem.run_bind, Sem.run_pure, Result.andThen_ok, List.map_toArray, List.map_cons, List.map_nil, hx, hy, hrun]
  refine hK _ _ (h _ ((Builtin.zeroCells z.cells k).toList ++ (Builtin.zeroCells z.cells (grownCap w (sLen + k) sCap E - (sLen + k))).toList) _ ((Ext.drew w).trans (Ext.alloc _ _)) (by simp) ?_ ?_ (grownCap_ge _ _ _ _) (grownCap_le_maxLen _ _ _ _ (by simp only [maxLen]; omega)))
  · have := Blk.new w.drew (olds.toArray ++ Builtin.zeroCells z.cells k ++ Builtin.zeroCells z.cells (grownCap w (sLen + k) sCap E - (sLen + k))) E
    simpa using this
  · have hge := grownCap_ge w (sLen + k) sCap E
    simp only [List.length_append, Array.length_toList, size_zeroCells, hl, hz3, ← Nat.add_mul]
    congr 1
    omega
theorem wpl_clear {ops : Array Oper} {rest : List Oper} {a : Act} {Q : Exit → Act → World → Prop} (hT : SlT P T E sz by_) (x : Operand) (d : Option Tmp) (p1 : TypeId) (p2 : String) (p3 : Array Edge)
    (g o n c : Nat) (hx : a.eval x = .slice (some ⟨g, o, none⟩) n c) (hn : 0 < n) (cur : List Value) (t : TypeId) (hg : Blk w g cur t) (hfit : o + n * sz ≤ cur.length) (h1 : ∀ z i, P.info? E = some i → i.zero = some z → (Builtin.zeroCells z.cells n).toList.all (·.oneCell') = true)
    (h : ∀ w' zs, zs.length = n * sz → Upd w w' g → Blk w' g (cur.take o ++ zs ++ cur.drop (o + n * sz)) t → wpList P ops Q rest (a.put d (.tuple #[])) w') :
    wpList P ops Q (⟨d, .call { callee := .builtin .clear, args := #[x], argTypes := #[T] }, p1, p2, p3, none⟩ :: rest) a w := by
  obtain ⟨ht, i, z, hi, hz, hz1, hz2, hz3⟩ := hT
  subst hz1
  have h1' := h1 z i hi hz
  have hzl : (Builtin.zeroCells z.cells n).toList.length = n * i.size := by rw [Array.length_toList, size_zeroCells, hz3]
  obtain ⟨n, rfl⟩ : ∃ n', n = n' + 1 := ⟨n - 1, by omega⟩
  refine wpList_plain rfl fun K hK => ?_
  have hst := run_storeCells_at P g o t (Builtin.zeroCells z.cells (n + 1)).toList 0 cur.toArray w hg (by rw [hzl]; simpa using hfit) (by rw [List.all_eq_true] at h1'; exact h1')
  have hrun : (Builtin.clear_ #[T] p1 #[.slice (some ⟨g, o, none⟩) (n + 1) c]).run P w = .ok (.tuple #[]) (w.setRow g (cur.take o ++ (Builtin.zeroCells z.cells (n + 1)).toList ++ cur.drop (o + (n + 1) * i.size)).toArray) := by
    simp only [Nat.add_zero, hzl] at hst
    simp [Builtin.clear_, run_underlying ht, zeroValue, typeInfo, hi, hz, hst]
  unfold Oper.wp execOp
  simp only [resolve, invoke, builtin, Sem.run_bind, Sem.run_pure, Result.andThen_ok, List.map_toArray, List.map_cons, List.map_nil, hx, hrun]
  exact hK _ _ (h _ _ hzl (Upd.setRow w g _) (by have := hg.setRow (cur.take o ++ (Builtin.zeroCells z.cells (n + 1)).toList ++ cur.drop (o + (n + 1) * i.size)).toArray; simpa using this))
end
theorem zero54 : ∀ z i, Try.prog.info? 54 = some i → i.zero = some z → (Builtin.zeroCells z.cells 1).toList.all (·.oneCell') = true := by
  have h : (Try.prog.info? 54).map (fun i => i.zero.map fun z => (Builtin.zeroCells z.cells 1).toList.all (·.oneCell')) = some (some true) := by kernel_rfl
  intro z i hi hz
  simpa [hi, hz] using h
end Go.Proofs.Ytgkgedjmnbjalaa
set_option linter.unusedSimpArgs false
set_option linter.unusedVariables false
namespace Go.Proofs.Ytgkgedjmnbjalaa
open Go.RowKit Go.Sort
def OwnPost (t : T) (w w' : World) (v : Value) : Prop := ∃ c : List Value, v = .agg c.toArray ∧ OT (fun b => w.heap.size ≤ b ∧ b < w'.heap.size) w' t c ∧ Ext w w'
def spO (k : T) (B : Nat) : SP := ⟨fun v w => ∃ (c : List Value) (lo hi : Nat), v = .agg c.toArray ∧ OT (fun b => lo ≤ b ∧ b < hi) w k c ∧ B ≤ lo ∧ hi ≤ w.heap.size, fun _ _ _ h ⟨c, lo, hi, e, hr, h1, h2⟩ => ⟨c, lo, hi, e, hr.ext (fun b hb => by omega) h, h1, Nat.le_trans h2 h.size⟩⟩
def Turned2 (S : Nat → Prop) (w : World) (kids : List T) (A : Option Addr) (cap j B N : Nat) (wr : World) : Prop :=
  ∃ (css : List (List Value)) (Si : Nat → Nat → Prop), css.length = kids.length ∧ (∀ c ∈ css, c.length = 6) ∧ wr.ownsRow B 54 6 (.slice A kids.length cap) kids.length css.flatten ∧
    (∀ i b, Si i b → B ≤ b ∧ b < N ∧ b < wr.heap.size ∧ (Value.slice A kids.length cap).ownBlock ≠ some b) ∧ (∀ i i' b, Si i b → Si i' b → i = i') ∧
    ∀ (i : Nat) k c, kids[i]? = some k → css[i]? = some c → (i < j → OT (Si i) wr k c) ∧ (j ≤ i → RT S w k c)
theorem Turned2.start {S : Nat → Prop} {w wr : World} {kids : List T} {css : List (List Value)} {A : Option Addr} {cap B N : Nat} (h1 : css.length = kids.length) (h2 : ∀ c ∈ css, c.length = 6) (h3 : ∀ (i : Nat) k c, kids[i]? = some k → css[i]? = some c → RT S w k c)
    (h4 : wr.ownsRow B 54 6 (.slice A kids.length cap) kids.length css.flatten) : Turned2 S w kids A cap 0 B N wr :=
  ⟨css, fun _ _ => False, h1, h2, h4, fun _ _ h => h.elim, fun _ _ _ h => h.elim, fun i k c hk hc => ⟨fun h => absurd h (by omega), fun _ => h3 i k c hk hc⟩⟩
theorem Turned2.bound {S : Nat → Prop} {w wr : World} {kids : List T} {A : Option Addr} {cap j B N N' : Nat} (hN : N ≤ N') (h : Turned2 S w kids A cap j B N wr) : Turned2 S w kids A cap j B N' wr := by
  obtain ⟨css, Si, h1, h2, h3, h4, h5, h6⟩ := h
  exact ⟨css, Si, h1, h2, h3, fun i b hb => ⟨(h4 i b hb).1, by have := (h4 i b hb).2.1; omega, (h4 i b hb).2.2⟩, h5, h6⟩
theorem Turned2.ext {S : Nat → Prop} {w wr w' : World} {kids : List T} {A : Option Addr} {cap j B N : Nat} (hx : Ext wr w') (h : Turned2 S w kids A cap j B N wr) : Turned2 S w kids A cap j B N w' := by
  obtain ⟨css, Si, h1, h2, h3, h4, h5, h6⟩ := h
  refine ⟨css, Si, h1, h2, own_ext hx h3, fun i b hb => ?_, h5, fun i k c hk hc => ⟨fun hij => ((h6 i k c hk hc).1 hij).ext (fun b hb => (h4 i b hb).2.2.1) hx, (h6 i k c hk hc).2⟩⟩
  obtain ⟨a, b', c, d⟩ := h4 i b hb
  exact ⟨a, b', Nat.lt_of_lt_of_le c hx.size, d⟩
theorem Turned2.upd {S : Nat → Prop} {w wr w' : World} {kids : List T} {A : Option Addr} {cap j B N p : Nat} (hu : Upd wr w' p) (hp : p < B) (h : Turned2 S w kids A cap j B N wr) : Turned2 S w kids A cap j B N w' := by
  obtain ⟨css, Si, h1, h2, h3, h4, h5, h6⟩ := h
  refine ⟨css, Si, h1, h2, own_keep h3 fun g hg => hu.block g (fun e => ?_), fun i b hb => ?_, h5, fun i k c hk hc => ⟨fun hij => ((h6 i k c hk hc).1 hij).keep fun b hb => hu.block b (fun e => ?_), (h6 i k c hk hc).2⟩⟩
  · subst e
    have := own_base h3 g hg
    omega
  · obtain ⟨a, b', c, d⟩ := h4 i b hb
    exact ⟨a, b', by rw [hu.size]; exact c, d⟩
  · subst e
    have := (h4 i b hb).1
    omega
theorem Turned2.at {S : Nat → Prop} {w wr : World} {kids : List T} {A : Option Addr} {cap j B N : Nat} {k : T} (hk : kids[j]? = some k) (h : Turned2 S w kids A cap j B N wr) :
    ∃ g cs d, A = some ⟨g, 0, none⟩ ∧ B ≤ g ∧ Blk wr g cs 54 ∧ kids.length * 6 ≤ cs.length ∧ (∀ q v, d[q]? = some v → cs[j * 6 + q]? = some v) ∧ RT S w k d := by
  obtain ⟨css, Si, h1, h2, h3, h4, h5, h6⟩ := h
  have hlt := (List.getElem?_eq_some_iff.1 hk).1
  obtain ⟨g, c', sp, hv, hB, hb, _⟩ := own_form h3 (by omega)
  simp only [Value.slice.injEq] at hv
  obtain ⟨rfl, _, rfl⟩ := hv
  have hjl : j < css.length := by omega
  have hci := List.getElem?_eq_getElem hjl
  refine ⟨g, _, css[j], rfl, hB, hb, by rw [List.length_append, flatten_len css h2, h1]; omega, fun q v hq => ?_, (h6 j k _ hk hci).2 (Nat.le_refl _)⟩
  have := flatten_get css h2 j _ hci q v hq
  rw [List.getElem?_append_left (List.getElem?_eq_some_iff.1 this).1]
  exact this
theorem Turned2.step {S : Nat → Prop} {w wr w' : World} {kids : List T} {cap j B N lo hi g : Nat} {cs cs' : List Value} {k : T} {d : List Value} (hk : kids[j]? = some k) (h : Turned2 S w kids (some ⟨g, 0, none⟩) cap j B N wr)
    (hcs : Blk wr g cs 54) (hu : Upd wr w' g) (hb : Blk w' g cs' 54) (hl : cs'.length = cs.length) (ho : ∀ p, p < j * 6 ∨ j * 6 + 6 ≤ p → cs'[p]? = cs[p]?) (hd : ∀ q v, d[q]? = some v → cs'[j * 6 + q]? = some v)
    (hr : OT (fun b => lo ≤ b ∧ b < hi) wr k d) (hlo : N ≤ lo) (hhi : hi ≤ w'.heap.size) (hgN : g < N) (hBN : B ≤ g) :
    Turned2 S w kids (some ⟨g, 0, none⟩) cap (j + 1) B w'.heap.size w' := by
  obtain ⟨css, Si, h1, h2, h3, h4, h5, h6⟩ := h
  have hlt := (List.getElem?_eq_some_iff.1 hk).1
  refine ⟨css.set j d, fun i b => if i = j then lo ≤ b ∧ b < hi else Si i b ∧ b < N, by simp [h1], fun c hc => ?_, own_set6 (cs' := cs') h2 h1 h3 hlt hr.len (fun c hc => ?_), fun i b hib => ?_, fun i i' b h7 h8 => ?_, fun i x c hx hc => ?_⟩
  · rcases List.mem_or_eq_of_mem_set hc with hc | hc
    · exact h2 c hc
    · rw [hc]; exact hr.len
  · obtain rfl := hc.inj hcs
    exact ⟨hb, hl, ho, hd⟩
  · simp only [Value.ownBlock, ne_eq, Option.some.injEq]
    dsimp only at hib
    split at hib
    · refine ⟨by omega, by omega, by omega, by omega⟩
    · obtain ⟨a, b', c, e⟩ := h4 i b hib.1
      simp only [Value.ownBlock, ne_eq, Option.some.injEq] at e
      exact ⟨a, by rw [hu.size]; exact c, by rw [hu.size]; exact c, e⟩
  · dsimp only at h7 h8
    split at h7 <;> split at h8
    · omega
    · have := h8.2; omega
    · have := h7.2; omega
    · exact h5 i i' b h7.1 h8.1
  · by_cases hij : i = j
    · subst hij
      rw [hk] at hx; cases hx
      rw [List.getElem?_set_self (by omega)] at hc; cases hc
      refine ⟨fun _ => ?_, fun h => absurd h (by omega)⟩
      simp only [if_pos]
      exact hr.keep fun b hb => hu.block b (by omega)
    · rw [List.getElem?_set_ne (fun e => hij e.symm)] at hc
      refine ⟨fun hh => ?_, fun hh => (h6 i x c hx hc).2 (by omega)⟩
      simp only [if_neg hij]
      have h9 := (h6 i x c hx hc).1 (by omega)
      have h10 : OT (Si i) w' x c := h9.keep fun b hb => hu.block b (fun e => by
        have := (h4 i b hb).2.2.2
        simp only [Value.ownBlock, ne_eq, Option.some.injEq] at this
        exact this e.symm)
      exact h10.mono fun b hb => ⟨hb, (h4 i b hb).2.1⟩
theorem Turned2.row {S : Nat → Prop} {w wr : World} {t : T} {A : Option Addr} {B B' cap N : Nat} (hl : t.kids.length ≤ 1048576) (h : Turned2 S w t.kids A cap t.kids.length B N wr) (hB : B' ≤ B) (hN : N ≤ wr.heap.size) :
    OT (fun b => B' ≤ b ∧ b < wr.heap.size) wr t (cT t.name t.key t.kind t.num t.text A t.kids.length cap) := by
  obtain ⟨css, Si, h1, h2, h3, h4, h5, h6⟩ := h
  refine OT.of_row (css := css) (Si := Si) ⟨h1, h2, hl, own_weak (Nat.zero_le _) h3, fun g hg => ⟨⟨?_, own_lt h3 g hg⟩, fun i hi => (h4 i g hi).2.2.2 hg⟩, fun i b hb => ⟨by have := (h4 i b hb).1; omega, (h4 i b hb).2.2.1⟩, h5, fun i k c hk hc => (h6 i k c hk hc).1 (List.getElem?_eq_some_iff.1 hk).1⟩
  have := own_base h3 g hg
  omega
set_option maxRecDepth 100000 in
set_option maxHeartbeats 4000000 in
theorem own_clone : ∀ (N : Nat) (t : T) (S : Nat → Prop) (w : World) (c : List Value), t.deep ≤ N → RT S w t c → Calls Try.prog 114 #[.agg c.toArray] w (Ret (OwnPost t w))
  | 0, t, S, w, c, hn, _ => by rw [t.deep_eq] at hn; omega
  | N + 1, t, S, w, c, hn, h => by
    obtain ⟨K, kc, rfl, hrow⟩ := h.row
    have kn := Hd.mk (show deepL t.kids ≤ N by rw [T.deep_eq] at hn; omega)
    have ih := Hd.mk (own_clone N)
    have hlb := hrow.len
    have kr := Hd.mk hrow
    clear hrow h hn
    simp only [cT]
    go_enter Try.func114, Try.ntmps114
    go_wp2_with fail
    have kx := Hd.mk ((Ext.alloc w (.cells #[.string t.name, .string t.key, .int .i64 t.kind, .int .u64 t.num, .string t.text, .slice K t.kids.length kc] 54)).trans (Ext.alloc _ (.cells #[.string ⟨#[]⟩, .string ⟨#[]⟩, .int .i64 0, .int .u64 0, .string ⟨#[]⟩, .slice none 0 0] 54)))
    have kA := Hd.mk ((Blk.new w #[.string t.name, .string t.key, .int .i64 t.kind, .int .u64 t.num, .string t.text, .slice K t.kids.length kc] 54).alloc (.cells #[.string ⟨#[]⟩, .string ⟨#[]⟩, .int .i64 0, .int .u64 0, .string ⟨#[]⟩, .slice none 0 0] 54))
    have kR := Hd.mk (Blk.new2 w (.cells #[.string t.name, .string t.key, .int .i64 t.kind, .int .u64 t.num, .string t.text, .slice K t.kids.length kc] 54) #[.string ⟨#[]⟩, .string ⟨#[]⟩, .int .i64 0, .int .u64 0, .string ⟨#[]⟩, .slice none 0 0] 54)
    have hsz := Hd.mk (show ((w.alloc (.cells #[.string t.name, .string t.key, .int .i64 t.kind, .int .u64 t.num, .string t.text, .slice K t.kids.length kc] 54)).alloc (.cells #[.string ⟨#[]⟩, .string ⟨#[]⟩, .int .i64 0, .int .u64 0, .string ⟨#[]⟩, .slice none 0 0] 54)).heap.size = w.heap.size + 2 by simp)
    generalize (w.alloc _).alloc _ = W at *
    refine Calls.mono (clone_nodes kr.out kx.out) ?_
    rintro e w1 ⟨_, rfl, css, h1, h2, h3, hown, hx1⟩
    obtain ⟨A, cap, rfl, hcap, hnul, hrows⟩ := own_slice hown
    rw [hsz.out] at hrows
    have hT0 := Hd.mk (Turned2.start (N := w1.heap.size) h1 h2 h3 (by rw [hsz.out] at hown; exact hown))
    have kA1 := Hd.mk (kA.out.ext hx1)
    have kR1 := Hd.mk (kR.out.ext hx1)
    have kx1 := Hd.mk (kx.out.trans hx1)
    have hcap := Hd.mk hcap
    have hnul := Hd.mk hnul
    clear h1 h2 h3 hown hx1 hrows
    have gA := kA1.out.cell
    have fA := kA1.out.free
    go_wp2_with fail
    have kA2 := Hd.mk (kA1.out.setCell 5 (.slice A t.kids.length cap))
    have hu := Hd.mk (Upd.setCell w1 ⟨w.heap.size, 5, none⟩ (.slice A t.kids.length cap))
    have kR2 := Hd.mk (hu.out.blk (by simp) kR1.out)
    have hT1 := Hd.mk (Turned2.upd hu.out (by simp) hT0.out)
    have hsz1 := Hd.mk (show w1.heap.size ≤ (w1.setCell ⟨w.heap.size, 5, none⟩ (.slice A t.kids.length cap)).heap.size by simp)
    replace hT1 := Hd.mk (hT1.out.bound hsz1.out)
    have kx2 := Hd.mk (show Ext w _ from Below.trans kx1.out (hu.out.below (Nat.le_refl _)))
    clear gA fA hu kA1 kR1 kx1 hT0 kA kR
    generalize w1.setCell _ _ = W1 at *
    go_loopg [12] (t.kids.length + 1) (fun q i wr => ∃ j : Nat, j ≤ t.kids.length ∧ Hd (q = t.kids.length + 1 - j) ∧ i = .int .i64 j ∧ Hd (Ext w wr) ∧ Hd (Turned2 S w t.kids A cap j (w.heap.size + 2) wr.heap.size wr) ∧
      Hd (Blk wr w.heap.size [.string t.name, .string t.key, .int .i64 t.kind, .int .u64 t.num, .string t.text, .slice A t.kids.length cap] 54) ∧ Hd (Blk wr (w.heap.size + 1) [.string ⟨#[]⟩, .string ⟨#[]⟩, .int .i64 0, .int .u64 0, .string ⟨#[]⟩, .slice none 0 0] 54))
    case atStart => exact ⟨0, by omega, ⟨by omega⟩, rfl, kx2, hT1, kA2, kR2⟩
    case round =>
    obtain ⟨j, hj, hq, rfl, hxr, hT, kA, kR⟩ := hrel
    by_cases hlt : j < t.kids.length
    · have hkj := List.getElem?_eq_getElem hlt
      generalize t.kids[j] = k at hkj
      have hkj := Hd.mk hkj
      obtain ⟨g, cs, d, rfl, hge, hcs, hlen, hd1, hrk⟩ := hT.out.at hkj.out
      obtain ⟨K', kc', rfl, _⟩ := hrk.row
      have hkd := Hd.mk (show k.deep ≤ N by have := deepL_mem hkj.out; have := kn.out; omega)
      have hcs := Hd.mk hcs
      have hlen := Hd.mk hlen
      have hd1' : ∀ (q : Nat) v, (cT k.name k.key k.kind k.num k.text K' k.kids.length kc')[q]? = some v → wr.cell? ⟨g, j * 6 + q, none⟩ = some v := fun q v hv => by rw [hcs.out.cell]; exact hd1 q v hv
      obtain ⟨e0, e1, e2, e3, e4, e5⟩ := six (Ext.refl wr) hd1'
      have hrk := Hd.mk hrk
      have hglt := Hd.mk hcs.out.lt
      clear hd1 hd1'
      go_wp2_with fail
      have hxb := Hd.mk (Ext.alloc wr (.cells #[.string k.name, .string k.key, .int .i64 k.kind, .int .u64 k.num, .string k.text, .slice K' k.kids.length kc'] 54))
      have kB := Hd.mk (Blk.new wr #[.string k.name, .string k.key, .int .i64 k.kind, .int .u64 k.num, .string k.text, .slice K' k.kids.length kc'] 54)
      have kA' := Hd.mk (kA.out.ext hxb.out)
      have kR' := Hd.mk (kR.out.ext hxb.out)
      have hT' := Hd.mk ((hT.out.ext hxb.out).bound hxb.out.size)
      have hcs' := Hd.mk (hcs.out.ext hxb.out)
      have hxr' := Hd.mk (hxr.out.trans hxb.out)
      have hrkV := Hd.mk (hrk.out)
      have hgl2 := Hd.mk (Nat.lt_of_lt_of_le hglt.out hxb.out.size)
      clear e0 e1 e2 e3 e4 e5 hxb kA kR hT hcs
      generalize wr.heap.size = pB at *
      generalize wr.alloc _ = V at *
      refine Flow.wp_region_flow_l (fun qq => match qq with
        | 17 => SP.eq (.pointer (some ⟨w.heap.size, 5, none⟩))
        | 18 => SP.eq (.slice (some ⟨g, 0, none⟩) t.kids.length cap)
        | 19 => SP.eq (.int .i64 (j : Nat))
        | 20 => SP.eq (.agg #[.string k.name, .string k.key, .int .i64 k.kind, .int .u64 k.num, .string k.text, .slice K' k.kids.length kc'])
        | 21 => spO k V.heap.size
        | 22 => SP.eq (.pointer (some ⟨g, j * 6, none⟩))
        | _ => SP.any) 6 (by kernel_rfl) 25 rfl (by kernel_rfl) ?_ ?_
      · skip
        refine ⟨?_, ?_, ?_, ?_, ?_, ?_, trivial⟩
        · intro act W2 hk
          refine Flow.does_intro rfl (fun K hK => ?_)
          have e1 : act.tmps[1]?.getD undef = .pointer (some ⟨w.heap.size, 0, none⟩) := hk.o 1 (by kernel_rfl)
          clear hk
          go_simp
          exact hK _ _ (Ext.refl _) (fun d hd => by cases hd; rfl)
        · intro act W2 hk
          refine Flow.does_intro rfl (fun K hK => ?_)
          have e17 : act.tmps[17]?.getD undef = .pointer (some ⟨w.heap.size, 5, none⟩) := hk.v 17 (by kernel_rfl)
          have g := ((kA'.out).ext ((Ext.drew V).trans hk.ext)).cell
          clear hk
          go_simp
          exact hK _ _ (Ext.refl _) (fun d hd => by cases hd; rfl)
        · intro act W2 hk
          refine Flow.does_intro rfl (fun K hK => ?_)
          have e3 : act.tmps[3]?.getD undef = .int .i64 (j : Nat) := hk.o 3 (by kernel_rfl)
          clear hk
          go_simp
          exact hK _ _ (Ext.refl _) (fun d hd => by cases hd; rfl)
        · intro act W2 hk
          refine Flow.does_intro rfl (fun K hK => ?_)
          have e4 : act.tmps[4]?.getD undef = .pointer (some ⟨pB, 0, none⟩) := hk.o 4 (by kernel_rfl)
          have g := ((kB.out).ext ((Ext.drew V).trans hk.ext)).cell
          clear hk
          go_simp
          exact hK _ _ (Ext.refl _) (fun d hd => by cases hd; rfl)
        · intro act W2 hk
          refine Flow.does_intro rfl (fun K hK => ?_)
          have e20 : act.tmps[20]?.getD undef = .agg #[.string k.name, .string k.key, .int .i64 k.kind, .int .u64 k.num, .string k.text, .slice K' k.kids.length kc'] := hk.v 20 (by kernel_rfl)
          have hx0 := Hd.mk ((Ext.drew V).trans hk.ext)
          have hsz0 := hx0.out.size
          clear hk
          go_simp
          refine Calls.mono (ih.out k S W2 _ hkd.out (hrkV.out.ext (hxr'.out.trans hx0.out))) ?_
          rintro e W3 ⟨_, rfl, c', rfl, hr', hx⟩
          exact hK _ _ hx (fun d hd => by cases hd; exact ⟨c', _, _, rfl, hr', hsz0, Nat.le_refl _⟩)
        · intro act W2 hk
          refine Flow.does_intro rfl (fun K hK => ?_)
          have e18 : act.tmps[18]?.getD undef = .slice (some ⟨g, 0, none⟩) t.kids.length cap := hk.v 18 (by kernel_rfl)
          have e19 : act.tmps[19]?.getD undef = .int .i64 (j : Nat) := hk.v 19 (by kernel_rfl)
          have hlt2 := hlt
          clear hk
          go_simp
          exact hK _ _ (Ext.refl _) (fun d hd => by cases hd; rfl)
      · intro act W2 he
        have hxW2 := Hd.mk ((Ext.drew V).trans he.ext)
        obtain ⟨us, hA, hF⟩ := he.out [17, 18, 19, 20, 21, 22] (by kernel_rfl)
        simp only [Flow.fillL, List.contains_cons, List.contains_nil, Nat.reduceBEq, Bool.or_false, Bool.false_or, Bool.or_true, Bool.true_or, ↓reduceIte, Nat.reduceAdd, Bool.false_eq_true] at hA
        subst hA
        have f21 : (spO k V.heap.size).p (us 21) W2 := hF 21 (by simp)
        have f22 : us 22 = .pointer (some ⟨g, j * 6, none⟩) := hF 22 (by simp)
        clear hF he
        rw [f22]
        clear f22
        obtain ⟨c', lo, hi, ec, hr', hlo, hhi⟩ := (f21 : (spO _ _).p _ _)
        generalize us 17 = u17 at *
        generalize us 18 = u18 at *
        generalize us 19 = u19 at *
        generalize us 20 = u20 at *
        generalize us 21 = u21 at *
        subst ec
        obtain ⟨K2, kc2, _, _, rfl, _⟩ := hr'.row
        have hr' := Hd.mk hr'
        have hcs2 := Hd.mk (hcs'.out.ext hxW2.out)
        have kA2 := Hd.mk (kA'.out.ext hxW2.out)
        have kR2 := Hd.mk (kR'.out.ext hxW2.out)
        have hT2 := Hd.mk (hT'.out.ext hxW2.out)
        have hxr2 := Hd.mk (hxr'.out.trans hxW2.out)
        have hfr := hcs2.out.free
        have hl6 := hlen.out
        obtain ⟨v0, z0⟩ := cell_some hcs2.out (i := j * 6) (by omega)
        obtain ⟨v1, z1⟩ := cell_some hcs2.out (i := j * 6 + 1) (by omega)
        obtain ⟨v2, z2⟩ := cell_some hcs2.out (i := j * 6 + 2) (by omega)
        obtain ⟨v3, z3⟩ := cell_some hcs2.out (i := j * 6 + 3) (by omega)
        obtain ⟨v4, z4⟩ := cell_some hcs2.out (i := j * 6 + 4) (by omega)
        obtain ⟨v5, z5⟩ := cell_some hcs2.out (i := j * 6 + 5) (by omega)
        simp only [cT]
        refine (show wpList _ _ _ (⟨none, .store 54 (.tmp 22) (.tmp 21), _, _, _, none⟩ :: []) _ _ from ?_)
        go_wp2_with fail
        obtain ⟨cs', q1, q2, q3, q4, q5⟩ := set6 hcs2.out (o := j * 6) (by omega) (.string k.name) (.string k.key) (.int .i64 k.kind) (.int .u64 k.num) (.string k.text) (.slice K2 k.kids.length kc2)
        go_roundg (t.kids.length + 1 - (j + 1))
        case measure => have := hq.out; omega
        case rel => exact ⟨j + 1, by omega, ⟨rfl⟩, by go_num, ⟨Below.trans hxr2.out (q2.below (by omega))⟩, ⟨Turned2.step hkj.out hT2.out hcs2.out q2 q1 q3 q4 q5 hr'.out hlo (by rw [q2.size]; exact hhi) hgl2.out (by omega)⟩, ⟨q2.blk (by omega) kA2.out⟩, ⟨q2.blk (by omega) kR2.out⟩⟩
    · have hjl : j = t.kids.length := by omega
      subst hjl
      have gA := kA.out.cell
      have gR := kR.out.cell
      have fR := kR.out.free
      go_wp2_with fail
      have hu := Hd.mk ((((((Upd.setCell wr ⟨w.heap.size + 1, 0, none⟩ (.string t.name)).trans (Upd.setCell _ ⟨w.heap.size + 1, 1, none⟩ (.string t.key))).trans (Upd.setCell _ ⟨w.heap.size + 1, 2, none⟩ (.int .i64 t.kind))).trans (Upd.setCell _ ⟨w.heap.size + 1, 3, none⟩ (.int .u64 t.num))).trans (Upd.setCell _ ⟨w.heap.size + 1, 4, none⟩ (.string t.text))).trans (Upd.setCell _ ⟨w.heap.size + 1, 5, none⟩ (.slice A t.kids.length cap)))
      have hrow := Hd.mk (Turned2.row hlb (hT.out.upd hu.out (show w.heap.size + 1 < w.heap.size + 2 by omega)) (by omega : w.heap.size ≤ w.heap.size + 2) (by rw [hu.out.size]; exact Nat.le_refl _))
      exact ret_box rfl (w.heap.size + 1) _ 54 _ ((((((kR.out.setCell 0 (.string t.name)).setCell 1 (.string t.key)).setCell 2 (.int .i64 t.kind)).setCell 3 (.int .u64 t.num)).setCell 4 (.string t.text)).setCell 5 (.slice A t.kids.length cap)) rfl rfl Try.underlying54 rfl size54
        ⟨_, rfl, _, rfl, hrow.out, Below.trans hxr.out (hu.out.below (Nat.le_succ _))⟩
end Go.Proofs.Ytgkgedjmnbjalaa
