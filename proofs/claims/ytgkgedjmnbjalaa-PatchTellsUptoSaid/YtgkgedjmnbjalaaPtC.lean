/- Texts that the law needs, joined.
   Conditions: none. -/
import Derived.Test.YtgkgedjmnbjalaaPtB
import Derived.Laws.EntriesVeiled
import Derived.Test.YtgkgedjmnbjalaaRows
import Derived.WalkKit
import Derived.ProofKit
import Derived.JoinedOf
import Derived.RangeFuncNested
import Derived.RangeFuncBound
import Derived.RangeFuncCalls
import Derived.RangeFuncLeaves
import Derived.Shelf.Abstract
import Derived.Shelf.RegionOpen
import Derived.OwnWalkIn
import Derived.TacticsInMore
import Derived.LoopNIn
import Derived.LoopIn
import Derived.OrdersIn
import Derived.Tactics
import Derived.TacticsIn
import Derived.Laws.Cover1
set_option linter.unusedSimpArgs false
namespace Go.Proofs.Ytgkgedjmnbjalaa
open Go.RowKit Go.Sort
theorem own_slice {w : World} {base : Nat} {e : TypeId} {sz n : Nat} {v : Value} {xs : List Value} (h : w.ownsRow base e sz v n xs) :
    ∃ A cap, v = .slice A n cap ∧ n ≤ cap ∧ (A = none → cap = 0) ∧ (0 < n → ∃ g sp, A = some ⟨g, 0, none⟩ ∧ base ≤ g ∧ Blk w g (xs ++ sp) e) := by
  rcases Nat.eq_zero_or_pos n with h0 | h0
  · subst h0
    rcases h.2 with ⟨h1, _⟩ | ⟨g, cap, cur, hv, hb, hg, hc, hm, hs, ht⟩
    · exact ⟨none, 0, h1, Nat.le_refl _, fun _ => rfl, fun h => absurd h (Nat.lt_irrefl _)⟩
    · exact ⟨some ⟨g, 0, none⟩, cap, hv, Nat.zero_le _, fun h => (by cases h), fun h => absurd h (Nat.lt_irrefl _)⟩
  · obtain ⟨g, cap, sp, hv, hb, hg, hc, _⟩ := own_form h h0
    exact ⟨some ⟨g, 0, none⟩, cap, hv, hc, fun h => (by cases h), fun _ => ⟨g, sp, rfl, hb, hg⟩⟩
theorem set6 {w : World} {g o : Nat} {cs : List Value} {t : TypeId} (h : Blk w g cs t) (ho : o + 6 ≤ cs.length) (a0 a1 a2 a3 a4 a5 : Value) :
    ∃ cs', Blk ((((((w.setCell ⟨g, o, none⟩ a0).setCell ⟨g, o + 1, none⟩ a1).setCell ⟨g, o + 2, none⟩ a2).setCell ⟨g, o + 3, none⟩ a3).setCell ⟨g, o + 4, none⟩ a4).setCell ⟨g, o + 5, none⟩ a5) g cs' t ∧
      Upd w ((((((w.setCell ⟨g, o, none⟩ a0).setCell ⟨g, o + 1, none⟩ a1).setCell ⟨g, o + 2, none⟩ a2).setCell ⟨g, o + 3, none⟩ a3).setCell ⟨g, o + 4, none⟩ a4).setCell ⟨g, o + 5, none⟩ a5) g ∧
      cs'.length = cs.length ∧ (∀ p, p < o ∨ o + 6 ≤ p → cs'[p]? = cs[p]?) ∧ ∀ q v, [a0, a1, a2, a3, a4, a5][q]? = some v → cs'[o + q]? = some v := by
  refine ⟨_, (((((h.setCell o a0).setCell (o + 1) a1).setCell (o + 2) a2).setCell (o + 3) a3).setCell (o + 4) a4).setCell (o + 5) a5,
    (((((Upd.setCell w ⟨g, o, none⟩ a0).trans (Upd.setCell _ ⟨g, o + 1, none⟩ a1)).trans (Upd.setCell _ ⟨g, o + 2, none⟩ a2)).trans (Upd.setCell _ ⟨g, o + 3, none⟩ a3)).trans (Upd.setCell _ ⟨g, o + 4, none⟩ a4)).trans (Upd.setCell _ ⟨g, o + 5, none⟩ a5), by simp, fun p hp => ?_, fun q v hq => ?_⟩
  · rw [List.getElem?_set_ne (by omega), List.getElem?_set_ne (by omega), List.getElem?_set_ne (by omega), List.getElem?_set_ne (by omega), List.getElem?_set_ne (by omega), List.getElem?_set_ne (by omega)]
  · match q, hq with
    | 0, hq => simp at hq; subst hq; show (_ : List Value)[o]? = _; rw [List.getElem?_set_ne (by omega), List.getElem?_set_ne (by omega), List.getElem?_set_ne (by omega), List.getElem?_set_ne (by omega), List.getElem?_set_ne (by omega), List.getElem?_set_self (by omega)]
    | 1, hq => simp at hq; subst hq; rw [List.getElem?_set_ne (by omega), List.getElem?_set_ne (by omega), List.getElem?_set_ne (by omega), List.getElem?_set_ne (by omega), List.getElem?_set_self (by simp only [List.length_set]; omega)]
    | 2, hq => simp at hq; subst hq; rw [List.getElem?_set_ne (by omega), List.getElem?_set_ne (by omega), List.getElem?_set_ne (by omega), List.getElem?_set_self (by simp only [List.length_set]; omega)]
    | 3, hq => simp at hq; subst hq; rw [List.getElem?_set_ne (by omega), List.getElem?_set_ne (by omega), List.getElem?_set_self (by simp only [List.length_set]; omega)]
    | 4, hq => simp at hq; subst hq; rw [List.getElem?_set_ne (by omega), List.getElem?_set_self (by simp only [List.length_set]; omega)]
    | 5, hq => simp at hq; subst hq; rw [List.getElem?_set_self (by simp only [List.length_set]; omega)]
    | q + 6, hq => simp at hq
def spT (k : T) (B : Nat) : SP := ⟨fun v w => ∃ c : List Value, v = .agg c.toArray ∧ RT (B ≤ ·) w k c, fun _ _ _ h ⟨c, e, hr⟩ => ⟨c, e, hr.ext h⟩⟩
def Turned (S : Nat → Prop) (w : World) (kids : List T) (A : Option Addr) (j : Nat) (B : Nat) (wr : World) : Prop :=
  0 < kids.length → ∃ g cs, A = some ⟨g, 0, none⟩ ∧ B ≤ g ∧ Blk wr g cs 54 ∧ kids.length * 6 ≤ cs.length ∧
    ∀ i k, kids[i]? = some k → ∃ d, (∀ q v, d[q]? = some v → cs[i * 6 + q]? = some v) ∧ (i < j → RT (g < ·) wr k d) ∧ (j ≤ i → RT S w k d)
theorem Turned.ext {S : Nat → Prop} {w wr w' : World} {kids : List T} {A : Option Addr} {j B : Nat} (hx : Ext wr w') (h : Turned S w kids A j B wr) : Turned S w kids A j B w' := fun hp => by
  obtain ⟨g, cs, h1, h2, h3, h4, h5⟩ := h hp
  refine ⟨g, cs, h1, h2, h3.ext hx, h4, fun i k hi => ?_⟩
  obtain ⟨d, d1, d2, d3⟩ := h5 i k hi
  exact ⟨d, d1, fun hh => (d2 hh).ext hx, d3⟩
theorem RT.upd {S : Nat → Prop} {w w' : World} {g : Nat} (hu : Upd w w' g) (hs : ¬ S g) {t : T} {c : List Value} (h : RT S w t c) : RT S w' t c :=
  h.keep fun b off v hb hc => ⟨hb, by
    have hne : b ≠ g := fun e => hs (e ▸ hb)
    have : w'.cell? ⟨b, off, none⟩ = w.cell? ⟨b, off, none⟩ := World.cell?_of_block (hu.block b hne)
    rw [this]; exact hc⟩
theorem Turned.upd {S : Nat → Prop} {w wr w' : World} {kids : List T} {A : Option Addr} {j B p : Nat} (hu : Upd wr w' p) (hp : p < B) (h : Turned S w kids A j B wr) : Turned S w kids A j B w' := fun hpos => by
  obtain ⟨g, cs, h1, h2, h3, h4, h5⟩ := h hpos
  refine ⟨g, cs, h1, h2, hu.blk (by omega) h3, h4, fun i k hi => ?_⟩
  obtain ⟨d, d1, d2, d3⟩ := h5 i k hi
  exact ⟨d, d1, fun hh => (d2 hh).upd hu (by omega), d3⟩
theorem Turned.step {S : Nat → Prop} {w wr w' : World} {kids : List T} {j B g : Nat} {cs cs' : List Value} {k : T} {d : List Value} (hk : kids[j]? = some k) (h : Turned S w kids (some ⟨g, 0, none⟩) j B wr)
    (hcs : Blk wr g cs 54) (hu : Upd wr w' g) (hb : Blk w' g cs' 54) (hl : cs'.length = cs.length) (ho : ∀ p, p < j * 6 ∨ j * 6 + 6 ≤ p → cs'[p]? = cs[p]?) (hd : ∀ q v, d[q]? = some v → cs'[j * 6 + q]? = some v) (hr : RT (g < ·) wr k d) :
    Turned S w kids (some ⟨g, 0, none⟩) (j + 1) B w' := fun hpos => by
  obtain ⟨g', cs0, h1, h2, h3, h4, h5⟩ := h hpos
  simp only [Option.some.injEq, Addr.mk.injEq, and_true] at h1
  subst h1
  obtain rfl := h3.inj hcs
  refine ⟨g, cs', rfl, h2, hb, by rw [hl]; exact h4, fun i x hi => ?_⟩
  by_cases hij : i = j
  · subst hij
    rw [hk] at hi
    cases hi
    exact ⟨d, hd, fun _ => hr.upd hu (Nat.lt_irrefl _), fun h => absurd h (by omega)⟩
  · obtain ⟨e, d1, d2, d3⟩ := h5 i x hi
    have h6 : e.length = 6 := by
      by_cases hlt : i < j
      · exact (d2 hlt).len
      · exact (d3 (by omega)).len
    refine ⟨e, fun q v hv => ?_, fun hh => (d2 (by omega)).upd hu (Nat.lt_irrefl _), fun hh => d3 (by omega)⟩
    have hq := (List.getElem?_eq_some_iff.1 hv).1
    rw [ho _ (by omega)]
    exact d1 q v hv
theorem Turned.row {S : Nat → Prop} {w wr : World} {kids : List T} {A : Option Addr} {B cap : Nat} (hl : kids.length ≤ 1048576) (hc : kids.length ≤ cap) (hn : A = none → cap = 0) (h : Turned S w kids A kids.length B wr) : RRow (B ≤ ·) wr A kids cap := by
  refine ⟨hc, hl, hn, fun i k hi => ?_⟩
  have hlt := (List.getElem?_eq_some_iff.1 hi).1
  obtain ⟨g, cs, h1, h2, h3, h4, h5⟩ := h (by omega)
  obtain ⟨d, d1, d2, _⟩ := h5 i k hi
  refine ⟨g, 0, d, h1, h2, (d2 hlt).mono (fun b _ hb => by omega), fun q v hv => ?_⟩
  rw [h3.cell, Nat.zero_add]
  exact d1 q v hv
theorem Turned.start {S : Nat → Prop} {w wr : World} {kids : List T} {css : List (List Value)} {A : Option Addr} {B : Nat} (h1 : css.length = kids.length) (h2 : ∀ c ∈ css, c.length = 6) (h3 : ∀ (i : Nat) k c, kids[i]? = some k → css[i]? = some c → RT S w k c)
    (h4 : 0 < kids.length → ∃ g sp, A = some ⟨g, 0, none⟩ ∧ B ≤ g ∧ Blk wr g (css.flatten ++ sp) 54) : Turned S w kids A 0 B wr := fun hpos => by
  obtain ⟨g, sp, e1, e2, e3⟩ := h4 hpos
  refine ⟨g, _, e1, e2, e3, by rw [List.length_append, flatten_len css h2, h1]; omega, fun i k hi => ?_⟩
  have hlt : i < css.length := by rw [h1]; exact (List.getElem?_eq_some_iff.1 hi).1
  refine ⟨css[i], fun q v hv => ?_, fun h => absurd h (by omega), fun _ => h3 i k _ hi (List.getElem?_eq_getElem hlt)⟩
  have := flatten_get css h2 i _ (List.getElem?_eq_getElem hlt) q v hv
  rw [List.getElem?_append_left (List.getElem?_eq_some_iff.1 this).1]
  exact this
def ClPost (t : T) (w w' : World) (v : Value) : Prop := ∃ c : List Value, v = .agg c.toArray ∧ RT (w.heap.size ≤ ·) w' t c ∧ Ext w w'
set_option maxRecDepth 100000 in
set_option maxHeartbeats 4000000 in
theorem tree_clone : ∀ (N : Nat) (t : T) (S : Nat → Prop) (w : World) (c : List Value), t.deep ≤ N → RT S w t c → Calls Try.prog 114 #[.agg c.toArray] w (Ret (ClPost t w))
  | 0, t, S, w, c, hn, _ => by rw [t.deep_eq] at hn; omega
  | N + 1, t, S, w, c, hn, h => by
    obtain ⟨K, kc, rfl, hrow⟩ := h.row
    have kn := Hd.mk (show deepL t.kids ≤ N by rw [T.deep_eq] at hn; omega)
    have ih := Hd.mk (tree_clone N)
    have hlb := hrow.len
    have kr := Hd.mk hrow
    clear hrow h hn
    simp only [cT]
    go_enter Try.func114, Try.ntmps114
    go_wp2_with fail
    have kx := Hd.mk ((Ext.alloc w (.cells #[.string t.name, .string t.key, .int .i64 t.kind, .int .u64 t.num, .string t.text, .slice K t.kids.length kc] 54)).trans (Ext.alloc _ (.cells #[.string ⟨#[]⟩, .string ⟨#[]⟩, .int .i64 0, .int .u64 0, .string ⟨#[]⟩, .slice none 0 0] 54)))
    have kA := Hd.mk ((Blk.new w #[.string t.name, .string t.key, .int .i64 t.kind, .int .u64 t.num, .string t.text, .slice K t.kids.length kc] 54).alloc (.cells #[.string ⟨#[]⟩, .string ⟨#[]⟩, .int .i64 0, .int .u64 0, .string ⟨#[]⟩, .slice none 0 0] 54))
    have kR := Hd.mk (Blk.new2 w (.cells #[.string t.name, .string t.key, .int .i64 t.kind, .int .u64 t.num, .string t.text, .slice K t.kids.length kc] 54) #[.string ⟨#[]⟩, .string ⟨#[]⟩, .int .i64 0, .int .u64 0, .string ⟨#[]⟩, .slice none 0 0] 54)
    have hsz := Hd.mk (show ((w.alloc (.cells #[.string t.name, .string t.key, .int .i64 t.kind, .int .u64 t.num, .string t.text, .slice K t.kids.length kc] 54)).alloc (.cells #[.string ⟨#[]⟩, .string ⟨#[]⟩, .int .i64 0, .int .u64 0, .string ⟨#[]⟩, .slice none 0 0] 54)).heap.size = w.heap.size + 2 by simp)
    generalize (w.alloc _).alloc _ = W at *
    refine Calls.mono (clone_nodes kr.out kx.out) ?_
    rintro e w1 ⟨_, rfl, css, h1, h2, h3, hown, hx1⟩
    obtain ⟨A, cap, rfl, hcap, hnul, hrows⟩ := own_slice hown
    rw [hsz.out] at hrows
    have hT0 := Hd.mk (Turned.start (B := w.heap.size + 2) h1 h2 h3 hrows)
    have kA1 := Hd.mk (kA.out.ext hx1)
    have kR1 := Hd.mk (kR.out.ext hx1)
    have kx1 := Hd.mk (kx.out.trans hx1)
    have hcap := Hd.mk hcap
    have hnul := Hd.mk hnul
    clear h1 h2 h3 hown hx1 hrows
    have gA := kA1.out.cell
    have fA := kA1.out.free
    go_wp2_with fail
    have kA2 := Hd.mk (kA1.out.setCell 5 (.slice A t.kids.length cap))
    have hu := Hd.mk (Upd.setCell w1 ⟨w.heap.size, 5, none⟩ (.slice A t.kids.length cap))
    have kR2 := Hd.mk (hu.out.blk (by simp) kR1.out)
    have hT1 := Hd.mk (Turned.upd hu.out (by simp) hT0.out)
    have kx2 := Hd.mk (show Ext w _ from Below.trans kx1.out (hu.out.below (Nat.le_refl _)))
    clear gA fA hu kA1 kR1 kx1 hT0 kA kR
    generalize w1.setCell _ _ = W1 at *
    go_loopg [12] (t.kids.length + 1) (fun q i wr => ∃ j : Nat, j ≤ t.kids.length ∧ Hd (q = t.kids.length + 1 - j) ∧ i = .int .i64 j ∧ Hd (Ext w wr) ∧ Hd (Turned S w t.kids A j (w.heap.size + 2) wr) ∧
      Hd (Blk wr w.heap.size [.string t.name, .string t.key, .int .i64 t.kind, .int .u64 t.num, .string t.text, .slice A t.kids.length cap] 54) ∧ Hd (Blk wr (w.heap.size + 1) [.string ⟨#[]⟩, .string ⟨#[]⟩, .int .i64 0, .int .u64 0, .string ⟨#[]⟩, .slice none 0 0] 54))
    case atStart => exact ⟨0, by omega, ⟨by omega⟩, rfl, kx2, hT1, kA2, kR2⟩
    case round =>
    obtain ⟨j, hj, hq, rfl, hxr, hT, kA, kR⟩ := hrel
    by_cases hlt : j < t.kids.length
    · have hkj := List.getElem?_eq_getElem hlt
      generalize t.kids[j] = k at hkj
      have hkj := Hd.mk hkj
      obtain ⟨g, cs, rfl, hge, hcs, hlen, hall⟩ := hT.out (by omega)
      obtain ⟨d, hd1, _, hd2⟩ := hall j k hkj.out
      have hrk := hd2 (Nat.le_refl _)
      obtain ⟨K', kc', rfl, _⟩ := hrk.row
      have hkd := Hd.mk (show k.deep ≤ N by have := deepL_mem hkj.out; have := kn.out; omega)
      have hcs := Hd.mk hcs
      have hlen := Hd.mk hlen
      have hd1' : ∀ (q : Nat) v, (cT k.name k.key k.kind k.num k.text K' k.kids.length kc')[q]? = some v → wr.cell? ⟨g, j * 6 + q, none⟩ = some v := fun q v hv => by rw [hcs.out.cell]; exact hd1 q v hv
      obtain ⟨e0, e1, e2, e3, e4, e5⟩ := six (Ext.refl wr) hd1'
      have hrk := Hd.mk hrk
      have hglt := Hd.mk hcs.out.lt
      clear hall hd1 hd2 hd1'
      go_wp2_with fail
      have hxb := Hd.mk (Ext.alloc wr (.cells #[.string k.name, .string k.key, .int .i64 k.kind, .int .u64 k.num, .string k.text, .slice K' k.kids.length kc'] 54))
      have kB := Hd.mk (Blk.new wr #[.string k.name, .string k.key, .int .i64 k.kind, .int .u64 k.num, .string k.text, .slice K' k.kids.length kc'] 54)
      have kA' := Hd.mk (kA.out.ext hxb.out)
      have kR' := Hd.mk (kR.out.ext hxb.out)
      have hT' := Hd.mk (hT.out.ext hxb.out)
      have hcs' := Hd.mk (hcs.out.ext hxb.out)
      have hxr' := Hd.mk (hxr.out.trans hxb.out)
      have hrkV := Hd.mk (hrk.out)
      have hgl2 := Hd.mk (Nat.lt_of_lt_of_le hglt.out hxb.out.size)
      clear e0 e1 e2 e3 e4 e5 hxb kA kR hT hcs
      generalize wr.heap.size = pB at *
      generalize wr.alloc _ = V at *
      refine Flow.wp_region_flow_l (fun qq => match qq with
        | 17 => SP.eq (.pointer (some ⟨w.heap.size, 5, none⟩))
        | 18 => SP.eq (.slice (some ⟨g, 0, none⟩) t.kids.length cap)
        | 19 => SP.eq (.int .i64 (j : Nat))
        | 20 => SP.eq (.agg #[.string k.name, .string k.key, .int .i64 k.kind, .int .u64 k.num, .string k.text, .slice K' k.kids.length kc'])
        | 21 => spT k V.heap.size
        | 22 => SP.eq (.pointer (some ⟨g, j * 6, none⟩))
        | _ => SP.any) 6 (by kernel_rfl) 25 rfl (by kernel_rfl) ?_ ?_
      · skip
        refine ⟨?_, ?_, ?_, ?_, ?_, ?_, trivial⟩
        · intro act W2 hk
          refine Flow.does_intro rfl (fun K hK => ?_)
          have e1 : act.tmps[1]?.getD undef = .pointer (some ⟨w.heap.size, 0, none⟩) := hk.o 1 (by kernel_rfl)
          clear hk
          go_simp
          exact hK _ _ (Ext.refl _) (fun d hd => by cases hd; rfl)
        · intro act W2 hk
          refine Flow.does_intro rfl (fun K hK => ?_)
          have e17 : act.tmps[17]?.getD undef = .pointer (some ⟨w.heap.size, 5, none⟩) := hk.v 17 (by kernel_rfl)
          have g := ((kA'.out).ext ((Ext.drew V).trans hk.ext)).cell
          clear hk
          go_simp
          exact hK _ _ (Ext.refl _) (fun d hd => by cases hd; rfl)
        · intro act W2 hk
          refine Flow.does_intro rfl (fun K hK => ?_)
          have e3 : act.tmps[3]?.getD undef = .int .i64 (j : Nat) := hk.o 3 (by kernel_rfl)
          clear hk
          go_simp
          exact hK _ _ (Ext.refl _) (fun d hd => by cases hd; rfl)
        · intro act W2 hk
          refine Flow.does_intro rfl (fun K hK => ?_)
          have e4 : act.tmps[4]?.getD undef = .pointer (some ⟨pB, 0, none⟩) := hk.o 4 (by kernel_rfl)
          have g := ((kB.out).ext ((Ext.drew V).trans hk.ext)).cell
          clear hk
          go_simp
          exact hK _ _ (Ext.refl _) (fun d hd => by cases hd; rfl)
        · intro act W2 hk
          refine Flow.does_intro rfl (fun K hK => ?_)
          have e20 : act.tmps[20]?.getD undef = .agg #[.string k.name, .string k.key, .int .i64 k.kind, .int .u64 k.num, .string k.text, .slice K' k.kids.length kc'] := hk.v 20 (by kernel_rfl)
          have hx0 := Hd.mk ((Ext.drew V).trans hk.ext)
          have hsz0 := hx0.out.size
          clear hk
          go_simp
          refine Calls.mono (ih.out k S W2 _ hkd.out (hrkV.out.ext (hxr'.out.trans hx0.out))) ?_
          rintro e W3 ⟨_, rfl, c', rfl, hr', hx⟩
          exact hK _ _ hx (fun d hd => by cases hd; exact ⟨c', rfl, hr'.mono (fun b _ hb => Nat.le_trans hsz0 hb)⟩)
        · intro act W2 hk
          refine Flow.does_intro rfl (fun K hK => ?_)
          have e18 : act.tmps[18]?.getD undef = .slice (some ⟨g, 0, none⟩) t.kids.length cap := hk.v 18 (by kernel_rfl)
          have e19 : act.tmps[19]?.getD undef = .int .i64 (j : Nat) := hk.v 19 (by kernel_rfl)
          have hlt2 := hlt
          clear hk
          go_simp
          exact hK _ _ (Ext.refl _) (fun d hd => by cases hd; rfl)
      · intro act W2 he
        have hxW2 := Hd.mk ((Ext.drew V).trans he.ext)
        obtain ⟨us, hA, hF⟩ := he.out [17, 18, 19, 20, 21, 22] (by kernel_rfl)
        simp only [Flow.fillL, List.contains_cons, List.contains_nil, Nat.reduceBEq, Bool.or_false, Bool.false_or, Bool.or_true, Bool.true_or, ↓reduceIte, Nat.reduceAdd, Bool.false_eq_true] at hA
        subst hA
        have f21 : (spT k V.heap.size).p (us 21) W2 := hF 21 (by simp)
        have f22 : us 22 = .pointer (some ⟨g, j * 6, none⟩) := hF 22 (by simp)
        clear hF he
        rw [f22]
        clear f22
        obtain ⟨c', ec, hr'⟩ := (f21 : (spT _ _).p _ _)
        generalize us 17 = u17 at *
        generalize us 18 = u18 at *
        generalize us 19 = u19 at *
        generalize us 20 = u20 at *
        generalize us 21 = u21 at *
        subst ec
        obtain ⟨K2, kc2, rfl, _⟩ := hr'.row
        have hr' := Hd.mk hr'
        have hcs2 := Hd.mk (hcs'.out.ext hxW2.out)
        have kA2 := Hd.mk (kA'.out.ext hxW2.out)
        have kR2 := Hd.mk (kR'.out.ext hxW2.out)
        have hT2 := Hd.mk (hT'.out.ext hxW2.out)
        have hxr2 := Hd.mk (hxr'.out.trans hxW2.out)
        have hfr := hcs2.out.free
        have hl6 := hlen.out
        obtain ⟨v0, z0⟩ := cell_some hcs2.out (i := j * 6) (by omega)
        obtain ⟨v1, z1⟩ := cell_some hcs2.out (i := j * 6 + 1) (by omega)
        obtain ⟨v2, z2⟩ := cell_some hcs2.out (i := j * 6 + 2) (by omega)
        obtain ⟨v3, z3⟩ := cell_some hcs2.out (i := j * 6 + 3) (by omega)
        obtain ⟨v4, z4⟩ := cell_some hcs2.out (i := j * 6 + 4) (by omega)
        obtain ⟨v5, z5⟩ := cell_some hcs2.out (i := j * 6 + 5) (by omega)
        simp only [cT]
        refine (show wpList _ _ _ (⟨none, .store 54 (.tmp 22) (.tmp 21), _, _, _, none⟩ :: []) _ _ from ?_)
        go_wp2_with fail
        obtain ⟨cs', q1, q2, q3, q4, q5⟩ := set6 hcs2.out (o := j * 6) (by omega) (.string k.name) (.string k.key) (.int .i64 k.kind) (.int .u64 k.num) (.string k.text) (.slice K2 k.kids.length kc2)
        go_roundg (t.kids.length + 1 - (j + 1))
        case measure => have := hq.out; omega
        case rel => exact ⟨j + 1, by omega, ⟨rfl⟩, by go_num, ⟨Below.trans hxr2.out (q2.below (by omega))⟩, ⟨Turned.step hkj.out hT2.out hcs2.out q2 q1 q3 q4 q5 (hr'.out.mono (fun b _ hb => Nat.lt_of_lt_of_le hgl2.out hb))⟩, ⟨q2.blk (by omega) kA2.out⟩, ⟨q2.blk (by omega) kR2.out⟩⟩
    · have hjl : j = t.kids.length := by omega
      subst hjl
      have gA := kA.out.cell
      have gR := kR.out.cell
      have fR := kR.out.free
      go_wp2_with fail
      have hu := Hd.mk ((((((Upd.setCell wr ⟨w.heap.size + 1, 0, none⟩ (.string t.name)).trans (Upd.setCell _ ⟨w.heap.size + 1, 1, none⟩ (.string t.key))).trans (Upd.setCell _ ⟨w.heap.size + 1, 2, none⟩ (.int .i64 t.kind))).trans (Upd.setCell _ ⟨w.heap.size + 1, 3, none⟩ (.int .u64 t.num))).trans (Upd.setCell _ ⟨w.heap.size + 1, 4, none⟩ (.string t.text))).trans (Upd.setCell _ ⟨w.heap.size + 1, 5, none⟩ (.slice A t.kids.length cap)))
      have hrow := Hd.mk (Turned.row hlb hcap.out hnul.out (hT.out.upd hu.out (show w.heap.size + 1 < w.heap.size + 2 by omega)))
      exact ret_box rfl (w.heap.size + 1) _ 54 _ ((((((kR.out.setCell 0 (.string t.name)).setCell 1 (.string t.key)).setCell 2 (.int .i64 t.kind)).setCell 3 (.int .u64 t.num)).setCell 4 (.string t.text)).setCell 5 (.slice A t.kids.length cap)) rfl rfl Try.underlying54 rfl size54
        ⟨_, rfl, _, rfl, RT.of_row (hrow.out.keep (fun b off v hb hc => ⟨by omega, hc⟩)), Below.trans hxr.out (hu.out.below (Nat.le_succ _))⟩
end Go.Proofs.Ytgkgedjmnbjalaa
set_option linter.unusedSimpArgs false
namespace Go.Proofs.Ytgkgedjmnbjalaa
open Go.RowKit Go.Sort
set_option maxRecDepth 100000 in
set_option maxHeartbeats 1000000 in
theorem at_nil (p : Addr) (w : World) : Calls Try.prog 120 #[.pointer (some p), .slice none 0 0] w fun e w' => e = .returned (.pointer (some p)) ∧ w' = w := by
  go_enter Try.func120, Try.ntmps120
  go_wp2
  go_loopg [0, 10] 1 (fun q p0 i wr => wr = w ∧ p0 = .pointer (some p) ∧ i = .int .i64 0)
  case atStart => exact ⟨rfl, rfl, rfl⟩
  case round =>
  obtain ⟨rfl, rfl, rfl⟩ := hrel
  go_wp2
  go_ret
  exact ⟨rfl, rfl⟩
set_option maxRecDepth 100000 in
set_option maxHeartbeats 2000000 in
theorem get_nil (t : T) (S : Nat → Prop) (w : World) (c : List Value) (h : RT S w t c) :
    Calls Try.prog 68 #[.agg c.toArray, .slice none 0 0] w (Ret fun w' v => ∃ c' : List Value, v = .tuple #[.agg c'.toArray, .bool true] ∧ RT (w.heap.size ≤ ·) w' t c' ∧ Ext w w') := by
  obtain ⟨K, kc, rfl, hrow⟩ := h.row
  have kr := Hd.mk h
  clear hrow h
  simp only [cT] at kr ⊢
  go_enter Try.func68, Try.ntmps68
  go_wp2_with fail
  have kx := Hd.mk ((Ext.alloc w (.cells #[.string t.name, .string t.key, .int .i64 t.kind, .int .u64 t.num, .string t.text, .slice K t.kids.length kc] 54)).trans (Ext.alloc _ (.cells #[.string ⟨#[]⟩, .string ⟨#[]⟩, .int .i64 0, .int .u64 0, .string ⟨#[]⟩, .slice none 0 0] 54)))
  have kA := Hd.mk ((Blk.new w #[.string t.name, .string t.key, .int .i64 t.kind, .int .u64 t.num, .string t.text, .slice K t.kids.length kc] 54).alloc (.cells #[.string ⟨#[]⟩, .string ⟨#[]⟩, .int .i64 0, .int .u64 0, .string ⟨#[]⟩, .slice none 0 0] 54))
  have kR := Hd.mk (Blk.new2 w (.cells #[.string t.name, .string t.key, .int .i64 t.kind, .int .u64 t.num, .string t.text, .slice K t.kids.length kc] 54) #[.string ⟨#[]⟩, .string ⟨#[]⟩, .int .i64 0, .int .u64 0, .string ⟨#[]⟩, .slice none 0 0] 54)
  generalize (w.alloc _).alloc _ = W at *
  refine Calls.mono (at_nil _ _) ?_
  rintro e w1 ⟨rfl, rfl⟩
  have gA := kA.out.cell
  go_wp2_with fail
  refine Calls.mono (tree_clone _ t S _ _ (Nat.le_refl _) (kr.out.ext kx.out)) ?_
  rintro e w1 ⟨_, rfl, c', rfl, hr', hx⟩
  obtain ⟨K2, kc2, rfl, _⟩ := hr'.row
  have hr' := Hd.mk hr'
  have kR1 := Hd.mk (kR.out.ext hx)
  have kx1 := Hd.mk (kx.out.trans hx)
  have hsz := Hd.mk kx.out.size
  have hlt := Hd.mk kR.out.lt
  clear gA kA kR hx
  simp only [cT] at hr' ⊢
  have gR := kR1.out.cell
  have fR := kR1.out.free
  go_wp2_with fail
  have hu := Hd.mk ((((((Upd.setCell w1 ⟨w.heap.size + 1, 0, none⟩ (.string t.name)).trans (Upd.setCell _ ⟨w.heap.size + 1, 1, none⟩ (.string t.key))).trans (Upd.setCell _ ⟨w.heap.size + 1, 2, none⟩ (.int .i64 t.kind))).trans (Upd.setCell _ ⟨w.heap.size + 1, 3, none⟩ (.int .u64 t.num))).trans (Upd.setCell _ ⟨w.heap.size + 1, 4, none⟩ (.string t.text))).trans (Upd.setCell _ ⟨w.heap.size + 1, 5, none⟩ (.slice K2 t.kids.length kc2)))
  exact ret_box2 rfl (w.heap.size + 1) _ 54 _ ((((((kR1.out.setCell 0 (.string t.name)).setCell 1 (.string t.key)).setCell 2 (.int .i64 t.kind)).setCell 3 (.int .u64 t.num)).setCell 4 (.string t.text)).setCell 5 (.slice K2 t.kids.length kc2)) rfl rfl Try.underlying54 rfl size54
    ⟨_, rfl, _, rfl, (hr'.out.upd hu.out (Nat.not_le.2 hlt.out)).mono (fun b _ hb => Nat.le_trans hsz.out hb), Below.trans kx1.out (hu.out.below (Nat.le_succ _))⟩
end Go.Proofs.Ytgkgedjmnbjalaa
set_option linter.unusedSimpArgs false
namespace Go.Proofs.Ytgkgedjmnbjalaa
open Go.RowKit Go.Sort
abbrev Step := ByteArray × ByteArray
def wcells : List Step → List Value
  | [] => []
  | s :: l => .string s.1 :: .string s.2 :: wcells l
theorem wcells_len : ∀ l : List Step, (wcells l).length = l.length * 2
  | [] => rfl
  | s :: l => by simp [wcells, wcells_len l]; omega
theorem wcells_get : ∀ (l : List Step) (i : Nat) (s : Step), l[i]? = some s → (wcells l)[i * 2]? = some (.string s.1) ∧ (wcells l)[i * 2 + 1]? = some (.string s.2)
  | [], i, s, h => by simp at h
  | x :: l, 0, s, h => by simp at h; subst h; exact ⟨rfl, rfl⟩
  | x :: l, i + 1, s, h => by
    have := wcells_get l i s (by simpa using h)
    rw [show (i + 1) * 2 = i * 2 + 1 + 1 by omega]
    exact this
theorem wcells_append : ∀ (l m : List Step), wcells (l ++ m) = wcells l ++ wcells m
  | [], m => rfl
  | s :: l, m => by simp [wcells, wcells_append l m]
structure WRow (S : Nat → Prop) (w : World) (A : Option Addr) (l : List Step) (c : Nat) : Prop where
  cap : l.length ≤ c
  len : l.length ≤ 1048576
  nul : A = none → c = 0
  row : l ≠ [] → ∃ b off, A = some ⟨b, off, none⟩ ∧ S b ∧ ∀ j v, (wcells l)[j]? = some v → w.cell? ⟨b, off + j, none⟩ = some v
theorem WRow.keep {S S' : Nat → Prop} {w w' : World} (hk : ∀ b off v, S b → w.cell? ⟨b, off, none⟩ = some v → S' b ∧ w'.cell? ⟨b, off, none⟩ = some v) {A : Option Addr} {l : List Step} {c : Nat} (h : WRow S w A l c) : WRow S' w' A l c :=
  ⟨h.cap, h.len, h.nul, fun hn => by
    obtain ⟨b, off, h1, h2, h3⟩ := h.row hn
    refine ⟨b, off, h1, ?_, fun j v hv => (hk b _ v h2 (h3 j v hv)).2⟩
    cases l with
    | nil => exact absurd rfl hn
    | cons s l => exact (hk b _ _ h2 (h3 0 _ rfl)).1⟩
theorem WRow.ext {S : Nat → Prop} {w w' : World} (hx : Ext w w') {A : Option Addr} {l : List Step} {c : Nat} (h : WRow S w A l c) : WRow S w' A l c := h.keep fun _ _ _ hb hc => ⟨hb, Ext.cell hx hc⟩
theorem WRow.nil (S : Nat → Prop) (w : World) (A : Option Addr) (c : Nat) (h : A = none → c = 0) : WRow S w A [] c := ⟨Nat.zero_le _, Nat.zero_le _, h, fun h => absurd rfl h⟩
theorem own_base {w : World} {base : Nat} {e : TypeId} {sz n : Nat} {v : Value} {xs : List Value} (h : w.ownsRow base e sz v n xs) : ∀ k, v.ownBlock = some k → base ≤ k := fun k hk => by
  rcases h.2 with ⟨h1, _⟩ | ⟨g, cap, cur, hv, hb, _⟩
  · rw [h1] at hk; simp [Value.ownBlock] at hk
  · rw [hv] at hk; simp [Value.ownBlock] at hk; omega
theorem grownBy_blk' {w w' : World} {row : Option Nat} (hg : w.grownBy w' row) {g : Nat} (hne : some g ≠ row) {cs : List Value} {t : TypeId} (h : Blk w g cs t) : Blk w' g cs t := (hg.block g h.lt hne).trans h
end Go.Proofs.Ytgkgedjmnbjalaa
set_option linter.unusedSimpArgs false
namespace Go.Proofs.Ytgkgedjmnbjalaa
open Go.RowKit Go.Sort
structure E where
  kind : Int
  way : List Step
  node : T
  old : T
abbrev stepT (t : T) : Step := (t.name, t.key)
def RE (S : Nat → Prop) (w : World) (e : E) (c : List Value) : Prop :=
  ∃ A ac Kn kn Ko ko, c = [.int .i64 e.kind, .slice A e.way.length ac] ++ cT e.node.name e.node.key e.node.kind e.node.num e.node.text Kn e.node.kids.length kn ++ cT e.old.name e.old.key e.old.kind e.old.num e.old.text Ko e.old.kids.length ko ∧
    WRow S w A e.way ac ∧ RRow S w Kn e.node.kids kn ∧ RRow S w Ko e.old.kids ko
theorem RE.keep {S S' : Nat → Prop} {w w' : World} (hk : ∀ b off v, S b → w.cell? ⟨b, off, none⟩ = some v → S' b ∧ w'.cell? ⟨b, off, none⟩ = some v) {e : E} {c : List Value} (h : RE S w e c) : RE S' w' e c := by
  obtain ⟨A, ac, Kn, kn, Ko, ko, h1, h2, h3, h4⟩ := h
  exact ⟨A, ac, Kn, kn, Ko, ko, h1, h2.keep hk, h3.keep hk, h4.keep hk⟩
theorem RE.ext {S : Nat → Prop} {w w' : World} (hx : Ext w w') {e : E} {c : List Value} (h : RE S w e c) : RE S w' e c := h.keep fun _ _ _ hb hc => ⟨hb, Ext.cell hx hc⟩
theorem RE.mono {S S' : Nat → Prop} {w : World} (hs : ∀ b, b < w.heap.size → S b → S' b) {e : E} {c : List Value} (h : RE S w e c) : RE S' w e c := h.keep fun b _ _ hb hc => ⟨hs b (World.block_lt_of_cell? w _ hc) hb, hc⟩
theorem RE.len {S : Nat → Prop} {w : World} {e : E} {c : List Value} (h : RE S w e c) : c.length = 14 := by obtain ⟨A, ac, Kn, kn, Ko, ko, rfl, _⟩ := h; rfl
theorem own_lt {w : World} {base : Nat} {e : TypeId} {sz n : Nat} {v : Value} {xs : List Value} (h : w.ownsRow base e sz v n xs) : ∀ k, v.ownBlock = some k → k < w.heap.size := fun k hk => by
  rcases h.2 with ⟨h1, _⟩ | ⟨g, cap, cur, hv, hb, hg, _⟩
  · rw [h1] at hk; simp [Value.ownBlock] at hk
  · rw [hv] at hk; simp [Value.ownBlock] at hk; subst hk; exact heap_lt hg
end Go.Proofs.Ytgkgedjmnbjalaa
set_option linter.unusedSimpArgs false
namespace Go.Proofs.Ytgkgedjmnbjalaa
open Go.RowKit Go.Sort
theorem RRow.mono' {S S' : Nat → Prop} {w : World} (hs : ∀ b, b < w.heap.size → S b → S' b) {K : Option Addr} {l : List T} {kc : Nat} (h : RRow S w K l kc) : RRow S' w K l kc :=
  h.keep fun b _ _ hb hc => ⟨hs b (World.block_lt_of_cell? w _ hc) hb, hc⟩
end Go.Proofs.Ytgkgedjmnbjalaa
set_option linter.unusedSimpArgs false
namespace Go.Proofs.Ytgkgedjmnbjalaa
open Go.RowKit Go.Sort
theorem sizeL_cons (x : T) (l : List T) : sizeL (x :: l) = x.size + sizeL l := rfl
end Go.Proofs.Ytgkgedjmnbjalaa
set_option linter.unusedSimpArgs false
namespace Go.Proofs.Ytgkgedjmnbjalaa
open Go.RowKit Go.Sort
structure ERow (S : Nat → Prop) (w : World) (A : Option Addr) (es : List E) (c : Nat) : Prop where
  cap : es.length ≤ c
  len : es.length ≤ 1048576
  nul : A = none → c = 0
  edit : ∀ (i : Nat) e, es[i]? = some e → ∃ b off d, A = some ⟨b, off, none⟩ ∧ S b ∧ RE S w e d ∧ ∀ j v, d[j]? = some v → w.cell? ⟨b, off + i * 14 + j, none⟩ = some v
theorem ERow.keep {S S' : Nat → Prop} {w w' : World} (hk : ∀ b off v, S b → w.cell? ⟨b, off, none⟩ = some v → S' b ∧ w'.cell? ⟨b, off, none⟩ = some v) {A : Option Addr} {l : List E} {c : Nat} (h : ERow S w A l c) : ERow S' w' A l c :=
  ⟨h.cap, h.len, h.nul, fun i e hi => by
    obtain ⟨b, off, d, h1, h2, h3, h4⟩ := h.edit i e hi
    have h14 := h3.len
    refine ⟨b, off, d, h1, ?_, h3.keep hk, fun j v hv => (hk b _ v h2 (h4 j v hv)).2⟩
    cases d with
    | nil => simp at h14
    | cons v d => exact (hk b _ v h2 (h4 0 v (by simp))).1⟩
theorem ERow.ext {S : Nat → Prop} {w w' : World} (hx : Ext w w') {A : Option Addr} {l : List E} {c : Nat} (h : ERow S w A l c) : ERow S w' A l c := h.keep fun _ _ _ hb hc => ⟨hb, Ext.cell hx hc⟩
end Go.Proofs.Ytgkgedjmnbjalaa
set_option linter.unusedSimpArgs false
namespace Go.Proofs.Ytgkgedjmnbjalaa
open Go.RowKit Go.ChangeShapes Go.WideShapes
theorem cells65 : Try.prog.cellsOf 65 = 2 := by kernel_rfl
theorem cells68 : Try.prog.cellsOf 68 = 14 := by kernel_rfl
theorem cells59 : Try.prog.cellsOf 59 = 1 := by kernel_rfl
theorem list2 {cs : List Value} (h : cs.length = 2) : ∃ a b, cs = [a, b] := by
  match cs, h with
  | [a, b], _ => exact ⟨a, b, rfl⟩
theorem list14 {cs : List Value} (h : cs.length = 14) : ∃ a b c1 c2 c3 c4 c5 c6 d1 d2 d3 d4 d5 d6, cs = [a, b, c1, c2, c3, c4, c5, c6, d1, d2, d3, d4, d5, d6] := by
  match cs, h with
  | [a, b, c1, c2, c3, c4, c5, c6, d1, d2, d3, d4, d5, d6], _ => exact ⟨a, b, c1, c2, c3, c4, c5, c6, d1, d2, d3, d4, d5, d6, rfl⟩
variable {H : Type} {enc : TypeId × Value → H} {W : World} {base : Nat} {spare : Nat → Bool} {held : Bool}
theorem rows_open {α : Type} {P : α → List Value → Prop} {m : Nat} (hm : 0 < m) (hP : ∀ t c, P t c → c.length = m) {a : Addr} {elems : List (DataW H × List MemPlace)}
    (hone : ∀ (i : Nat) (y : DataW H × List MemPlace), elems[i]? = some y → ∃ (c : List Value) (t : α), P t c ∧ (∀ q v, c[q]? = some v → W.cell? ((a.add (i * m)).add q) = some v)) :
    ∃ ts : List α, ts.length = elems.length ∧ ∀ (i : Nat) t, ts[i]? = some t → ∃ b off c, some a = some (⟨b, off, none⟩ : Addr) ∧ P t c ∧ ∀ q v, c[q]? = some v → W.cell? ⟨b, off + i * m + q, none⟩ = some v := by
  have hall : ∀ (l : List (DataW H × List MemPlace)) (s : Nat), (∀ (i : Nat) (y : DataW H × List MemPlace), l[i]? = some y → elems[s + i]? = some y) → ∃ ts : List α, ts.length = l.length ∧
      ∀ (i : Nat) t, ts[i]? = some t → ∃ c, P t c ∧ ∀ q v, c[q]? = some v → W.cell? ((a.add ((s + i) * m)).add q) = some v := by
    intro l
    induction l with
    | nil => intro s _; exact ⟨[], rfl, by simp⟩
    | cons y l ihl =>
      intro s hl
      obtain ⟨c, t, h1, h3⟩ := hone s y (by have := hl 0 y rfl; simpa using this)
      obtain ⟨ts, q2, q4⟩ := ihl (s + 1) (fun i z hi => by have := hl (i + 1) z (by simpa using hi); rw [show s + 1 + i = s + (i + 1) by omega]; exact this)
      refine ⟨t :: ts, by simp [q2], fun i u hu => ?_⟩
      cases i with
      | zero => simp at hu; subst hu; exact ⟨c, h1, h3⟩
      | succ i =>
        obtain ⟨d, r1, r2⟩ := q4 i u (by simpa using hu)
        refine ⟨d, r1, ?_⟩
        rw [show s + (i + 1) = s + 1 + i by omega]
        exact r2
  obtain ⟨ts, q2, q4⟩ := hall elems 0 (fun i y hi => by rw [Nat.zero_add]; exact hi)
  refine ⟨ts, q2, fun i t hi => ?_⟩
  obtain ⟨c, h1, h2⟩ := q4 i t hi
  have h6 := hP _ _ h1
  obtain ⟨b, off, spot⟩ := a
  have hlt0 : 0 < ts.length := by have := (List.getElem?_eq_some_iff.1 hi).1; omega
  obtain ⟨d, z1, z2⟩ := q4 0 _ (List.getElem?_eq_getElem hlt0)
  have z6 := hP _ _ z1
  have hs : spot = none := by
    cases d with
    | nil => simp at z6; omega
    | cons v d => simpa [Addr.add] using World.cell?_spot (z2 0 v rfl)
  subst hs
  refine ⟨b, off, c, rfl, h1, fun q v hv => ?_⟩
  have := h2 q v hv
  rw [Nat.zero_add, addr_add, addr_add] at this
  exact this
theorem way_open {fuel : Nat} {cs : List Value} {x : DataW H × List MemPlace} (h : DataW.trod enc Try.prog W base spare held fuel 59 cs = some x) (hx : Rows.uptoBulk x.1 ≤ 1048576) :
    ∃ (A : Option Addr) (c : Nat) (l : List Step), cs = [.slice A l.length c] ∧ WRow (fun _ => True) W A l c := by
  rcases DataW.trod_slice Try.underlying59 h with ⟨e5, rfl⟩ | ⟨a, len, cap, elems, rest, k, hk, e5, rfl, _, hlc, hcm, hel, helem, _, _⟩
  · subst e5
    exact ⟨none, 0, [], rfl, WRow.nil _ _ _ _ (fun _ => rfl)⟩
  · subst hel e5
    rw [cells65] at helem
    have hx' := bulks.slice_le (elems.map (·.1)) (rest.map (·.1))
    rw [List.length_map, List.length_map] at hx'
    have hx2 := Nat.le_trans hx' hx
    have hone : ∀ (i : Nat) (y : DataW H × List MemPlace), elems[i]? = some y → ∃ (c : List Value) (t : Step), c = [.string t.1, .string t.2] ∧ (∀ q v, c[q]? = some v → W.cell? ((a.add (i * 2)).add q) = some v) := by
      intro i y hi
      have hlt := (List.getElem?_eq_some_iff.1 hi).1
      have hb := helem i hlt
      rw [hi, Option.bind_eq_some_iff] at hb
      obtain ⟨c, hc, hy⟩ := hb
      obtain ⟨_, hcl, hcc⟩ := World.cells?_some hc
      obtain ⟨xs, n, rfl, rfl, hl, hlen, hf⟩ := DataW.trod_struct Try.underlying65 hy
      obtain ⟨c0, c1, rfl⟩ := list2 hcl
      have f0 := hf 0 ⟨"Name", 9, 0, false, "", "", 0⟩ rfl
      have f1 := hf 1 ⟨"Key", 9, 1, false, "", "", 16⟩ rfl
      obtain ⟨x0, x1, rfl⟩ : ∃ x0 x1, xs = [x0, x1] := by
        match xs, hlen with
        | [x0, x1], _ => exact ⟨x0, x1, rfl⟩
      simp only [cells9, List.drop_zero, List.drop_succ_cons, List.take_succ_cons, List.take_zero, List.getElem?_cons_zero, List.getElem?_cons_succ] at f0 f1
      obtain ⟨s0, e0, rfl, _⟩ := DataW.trod_string Try.underlying9 f0
      obtain ⟨s1, e1, rfl, _⟩ := DataW.trod_string Try.underlying9 f1
      obtain rfl : c0 = .string s0 := by simpa using e0
      obtain rfl : c1 = .string s1 := by simpa using e1
      refine ⟨_, (s0, s1), rfl, fun q v hv => ?_⟩
      have hq := (List.getElem?_eq_some_iff.1 hv).1
      rw [hcc q (by simpa using hq), hv]
    obtain ⟨l, hl, hrow⟩ := rows_open (P := fun (t : Step) c => c = [.string t.1, .string t.2]) (by omega) (fun t c h => by rw [h]; rfl) hone
    refine ⟨some a, cap, l, by rw [hl], by omega, by omega, fun h => (by cases h), fun hn => ?_⟩
    have hpos := List.length_pos_iff.2 hn
    obtain ⟨b, off, c0, e0, _, _⟩ := hrow 0 _ (List.getElem?_eq_getElem hpos)
    cases e0
    refine ⟨b, off, rfl, trivial, fun j v hv => ?_⟩
    have hj := (List.getElem?_eq_some_iff.1 hv).1
    rw [wcells_len] at hj
    have hi : j / 2 < l.length := by omega
    obtain ⟨b', off', c, e1, hc, hcell⟩ := hrow (j / 2) _ (List.getElem?_eq_getElem hi)
    cases e1
    subst hc
    obtain ⟨g0, g1⟩ := wcells_get l (j / 2) _ (List.getElem?_eq_getElem hi)
    rcases Nat.mod_two_eq_zero_or_one j with h2 | h2
    · have hj2 : j = j / 2 * 2 := by omega
      rw [hj2, g0] at hv
      have := hcell 0 v hv
      rw [show off + j = off + j / 2 * 2 + 0 by omega]
      exact this
    · have hj2 : j = j / 2 * 2 + 1 := by omega
      rw [hj2, g1] at hv
      have := hcell 1 v hv
      rw [show off + j = off + j / 2 * 2 + 1 by omega]
      exact this
theorem edit_open {fuel : Nat} {cs : List Value} {x : DataW H × List MemPlace} (h : DataW.trod enc Try.prog W base spare held fuel 68 cs = some x) (hx : Rows.uptoBulk x.1 ≤ 1048576) :
    ∃ e : E, RE (fun _ => True) W e cs ∧ e.node.size ≤ 1048576 ∧ e.old.size ≤ 1048576 := by
  obtain ⟨xs, n, rfl, rfl, hl, hlen, hf⟩ := DataW.trod_struct Try.underlying68 h
  rw [cells68] at hl
  obtain ⟨c0, c1, n0, n1, n2, n3, n4, n5, o0, o1, o2, o3, o4, o5, rfl⟩ := list14 hl
  obtain ⟨x0, x1, x2, x3, rfl⟩ : ∃ x0 x1 x2 x3, xs = [x0, x1, x2, x3] := by
    match xs, hlen with
    | [x0, x1, x2, x3], _ => exact ⟨x0, x1, x2, x3, rfl⟩
  have f0 := hf 0 ⟨"Kind", 3, 0, false, "", "", 0⟩ rfl
  have f1 := hf 1 ⟨"Way", 59, 1, false, "", "", 8⟩ rfl
  have f2 := hf 2 ⟨"Node", 54, 2, false, "", "", 32⟩ rfl
  have f3 := hf 3 ⟨"Old", 54, 8, false, "", "", 120⟩ rfl
  simp only [cells3, cells59, cells54, List.drop_zero, List.drop_succ_cons, List.take_succ_cons, List.take_zero, List.getElem?_cons_zero, List.getElem?_cons_succ] at f0 f1 f2 f3
  simp only [List.map_cons, List.map_nil] at hx
  rw [show ∀ l : List (DataW H), Rows.uptoBulk (.agg l) = Rows.uptoBulkAll l + 1 from fun l => by simp [Rows.uptoBulk]] at hx
  simp only [Rows.uptoBulkAll] at hx
  obtain ⟨k0, e0, -, _⟩ := DataW.trod_int Try.underlying3 f0
  obtain rfl : c0 = .int .i64 k0 := by simpa using e0
  obtain ⟨A, ac, l, e1, hw⟩ := way_open f1 (by omega)
  obtain rfl : c1 = .slice A l.length ac := by simpa using e1
  obtain ⟨t1, h1, s1⟩ := node_open _ _ _ f2 (by omega)
  obtain ⟨t2, h2, s2⟩ := node_open _ _ _ f3 (by omega)
  obtain ⟨K1, q1, g1, r1⟩ := h1.row
  obtain ⟨K2, q2, g2, r2⟩ := h2.row
  refine ⟨⟨k0, l, t1, t2⟩, ⟨A, ac, K1, q1, K2, q2, ?_, hw, r1, r2⟩, by show t1.size ≤ _; omega, by show t2.size ≤ _; omega⟩
  show [Value.int .i64 k0, .slice A l.length ac] ++ [n0, n1, n2, n3, n4, n5] ++ [o0, o1, o2, o3, o4, o5] = _
  rw [g1, g2]
theorem edits_open {fuel : Nat} {cs : List Value} {x : DataW H × List MemPlace} (h : DataW.trod enc Try.prog W base spare held fuel 57 cs = some x) (hx : Rows.uptoBulk x.1 ≤ 1048576) :
    ∃ (A : Option Addr) (c : Nat) (l : List E), cs = [.slice A l.length c] ∧ ERow (fun _ => True) W A l c ∧ ∀ (i : Nat) e, l[i]? = some e → e.node.size ≤ 1048576 ∧ e.old.size ≤ 1048576 := by
  rcases DataW.trod_slice Try.underlying57 h with ⟨e5, rfl⟩ | ⟨a, len, cap, elems, rest, k, hk, e5, rfl, _, hlc, hcm, hel, helem, _, _⟩
  · subst e5
    exact ⟨none, 0, [], rfl, ⟨Nat.le_refl _, Nat.zero_le _, fun _ => rfl, fun i e h => by simp at h⟩, fun i e h => by simp at h⟩
  · subst hel e5
    rw [cells68] at helem
    have hx' := bulks.slice_le (elems.map (·.1)) (rest.map (·.1))
    rw [List.length_map, List.length_map] at hx'
    have hx2 := Nat.le_trans hx' hx
    have hx3 := Nat.le_trans (bulks.slice_elems (elems.map (·.1)) (rest.map (·.1))) hx
    have hsub : ∀ (i : Nat) (y : DataW H × List MemPlace), elems[i]? = some y → Rows.uptoBulk y.1 ≤ Rows.uptoBulkAll (elems.map (·.1)) := fun i y hi => bulks.part_le (List.mem_map_of_mem (List.mem_of_getElem? hi))
    have hone : ∀ (i : Nat) (y : DataW H × List MemPlace), elems[i]? = some y → ∃ (c : List Value) (e : E), (RE (fun _ => True) W e c ∧ e.node.size ≤ 1048576 ∧ e.old.size ≤ 1048576) ∧ (∀ q v, c[q]? = some v → W.cell? ((a.add (i * 14)).add q) = some v) := by
      intro i y hi
      have hlt := (List.getElem?_eq_some_iff.1 hi).1
      have hb := helem i hlt
      rw [hi, Option.bind_eq_some_iff] at hb
      obtain ⟨c, hc, hy⟩ := hb
      obtain ⟨_, hcl, hcc⟩ := World.cells?_some hc
      obtain ⟨e, he, h2⟩ := edit_open hy (by have := hsub i y hi; omega)
      refine ⟨c, e, ⟨he, h2⟩, fun q v hv => ?_⟩
      have hq := (List.getElem?_eq_some_iff.1 hv).1
      rw [hcc q (by omega), hv]
    obtain ⟨l, hl, hrow⟩ := rows_open (P := fun (e : E) c => RE (fun _ => True) W e c ∧ e.node.size ≤ 1048576 ∧ e.old.size ≤ 1048576) (by omega) (fun t c h => h.1.len) hone
    refine ⟨some a, cap, l, by rw [hl], ⟨by omega, by omega, fun h => (by cases h), fun i e hi => ?_⟩, fun i e hi => ?_⟩
    · obtain ⟨b, off, c, e0, h1, h2⟩ := hrow i e hi
      exact ⟨b, off, c, e0, trivial, h1.1, h2⟩
    · obtain ⟨b, off, c, e0, h1, h2⟩ := hrow i e hi
      exact h1.2
end Go.Proofs.Ytgkgedjmnbjalaa
namespace Go.Proofs.Ytgkgedjmnbjalaa
set_option maxRecDepth 100000 in
theorem ord_list : ∃ l : List Char, Try.prog.initOrder = String.ofList l ∧ (behindMainWord (wordsSigns l)).head? = some "cut".toList := ⟨_, rfl, by kernel_rfl⟩
theorem ord_words : ∃ r, behindMainWord (wordsSigns Try.prog.initOrder.toList) = "cut".toList :: r := by
  obtain ⟨l, h, hl⟩ := ord_list
  rw [h, String.toList_ofList]
  generalize behindMainWord (wordsSigns l) = ws at hl
  cases ws with
  | nil => cases hl
  | cons a r => cases hl; exact ⟨r, rfl⟩
theorem lays_no : Try.prog.laysLater = false := by kernel_rfl
theorem bears_no : Try.prog.bearsReflect = false := by kernel_rfl
theorem door_yes : Try.prog.doorFits [] = true := by kernel_rfl
theorem strip1 (r : List (List Char)) : (stripLifts liftWords ("cut".toList :: r)).1 = [] := by kernel_rfl
theorem strip2 (r : List (List Char)) : (stripLifts liftWords ("cut".toList :: r)).2.head? = some "cut".toList := by kernel_rfl
theorem may_of (P : Program) (r : List (List Char)) (h : behindMainWord (wordsSigns P.initOrder.toList) = "cut".toList :: r) (h1 : P.laysLater = false) (h2 : P.bearsReflect = false) (h3 : P.doorFits [] = true) : P.mayEnter = true := by
  unfold Program.mayEnter
  rw [h]
  show (_ || _ || _) = true
  rw [Bool.or_eq_true]
  right
  rw [strip1, strip2, h1, h2, h3]
  simp
theorem lifts_of (P : Program) (r : List (List Char)) (h : behindMainWord (wordsSigns P.initOrder.toList) = "cut".toList :: r) : P.headLifts = [] := by
  unfold Program.headLifts
  simp only [h, strip1, strip2]
  simp
theorem final_of (P : Program) (r : List (List Char)) (h : behindMainWord (wordsSigns P.initOrder.toList) = "cut".toList :: r) : P.liftsFinal = false := by
  unfold Program.liftsFinal
  rw [lifts_of P r h, h]
  simp
theorem make_of (P : Program) (r : List (List Char)) (h : behindMainWord (wordsSigns P.initOrder.toList) = "cut".toList :: r) : P.make = some .cut := by
  unfold Program.make
  rw [h]
  kernel_rfl
theorem may_enter : Try.prog.mayEnter = true := by
  obtain ⟨r, h⟩ := ord_words
  exact may_of _ r h lays_no bears_no door_yes
theorem lifts_final : Try.prog.liftsFinal = false := by
  obtain ⟨r, h⟩ := ord_words
  exact final_of _ r h
theorem make_cut : Try.prog.make = some .cut := by
  obtain ⟨r, h⟩ := ord_words
  exact make_of _ r h
theorem joined_of {p : Program} {f : FuncId} {fn : Func} {s : ChangeSpec} {c : OpenClaim} (h0 : (c.wf (OpenSpec.ofChange s) && laidOutB p && mapsRowed p &&
  fn.params.all (p.readableRec ·) && namedTie p c.named s.vars &&
  (c.stops == []) && (p.stops == []) && (c.knobs == []) && (p.stopKnobs == [])) = true) (h1 : (c.inPlace == p.inPlace f) = true) (h2 : (c.unfollowed == p.unfollowed f) = true) (h3 : (c.recurses == p.recurses f) = true) (h4 : (c.named == p.varsNamed f) = true)
  (h5 : ((c.maps == (fn.params.toList ++ s.plain.varTypes p).any (p.mapsRec ·)) && (c.ifaces == (fn.params.toList ++ s.plain.varTypes p).any (p.ifacesRec ·)) && (c.mapsOut == p.mapsAmong fn.resultTypes.toList)) = true)
  (h6 : ((c.loops == (fn.params.toList ++ s.plain.varTypes p).any (p.loopsFrom ·)) && (c.wideKeys == (fn.params.toList ++ s.plain.varTypes p ++ fn.resultTypes.toList).any (p.wideKeysFrom ·))) = true)
  (h7 : (s.vars.all (p.varReadable ·) && fn.resultTypes.all (fun t => p.readableRec t && decide (t < p.types.size)) && (c.ifacesOut == fn.resultTypes.toList.any (p.ifacesRec ·)) && (c.loopsOut == fn.resultTypes.toList.any (p.loopsFrom ·)) && (c.plainKeys == p.plainKeys) && c.shortTexts.isNone && p.stopsHeard) = true)
  (h8 : p.mayEnter = true) (h9 : (c.lifted == p.liftsFinal) = true) (h10 : (p.make == some c.make) = true)
  (h11 : ((c.kinds == (if c.domain.isEmpty then [] else fn.params.toList.map fun t => match p.underlying t with | some (.int k) => some k | _ => none)) && (c.pinned == c.pinnedBy)) = true)
  (h12 : ((c.veiled == (fn.params.toList ++ s.plain.varTypes p ++ fn.resultTypes.toList).any (p.veiledRec ·)) && c.veiledFits p fn.params.toList (fn.params.toList ++ s.plain.varTypes p ++ fn.resultTypes.toList)) = true) : joinedFacts p f fn s c = true := by
  simp only [Bool.and_eq_true] at *
  unfold joinedFacts
  simp only [Bool.and_eq_true]
  obtain ⟨⟨⟨⟨⟨⟨⟨⟨a1, a2⟩, a3⟩, a4⟩, a5⟩, a6⟩, a7⟩, a8⟩, a9⟩ := h0
  obtain ⟨⟨b1, b2⟩, b3⟩ := h5
  obtain ⟨c1, c2⟩ := h6
  obtain ⟨⟨⟨⟨⟨⟨d1, d2⟩, d3⟩, d4⟩, d5⟩, d6⟩, d7⟩ := h7
  obtain ⟨e1, e2⟩ := h11
  obtain ⟨f1, f2⟩ := h12
  exact ⟨⟨⟨⟨⟨⟨⟨⟨⟨⟨⟨⟨⟨⟨⟨⟨⟨⟨⟨⟨⟨⟨⟨⟨⟨⟨⟨⟨⟨⟨⟨a1, a2⟩, a3⟩, a4⟩, a5⟩, a6⟩, a7⟩, a8⟩, a9⟩, h1⟩, h2⟩, h3⟩, h4⟩, b1⟩, b2⟩, b3⟩, c1⟩, c2⟩, d1⟩, d2⟩, d3⟩, d4⟩, d5⟩, d6⟩, d7⟩, h8⟩, h9⟩, h10⟩, e1⟩, e2⟩, f1⟩, f2⟩
end Go.Proofs.Ytgkgedjmnbjalaa
set_option linter.unusedSimpArgs false
namespace Go.Proofs.Ytgkgedjmnbjalaa
open Go.RowKit Go.Sort
def smallB (a b : T) : Bool := decide (a.size ≤ 300) && (decide (b.size ≤ 300) && (decide (a.kind = 0) && (decide (b.kind = 0) && (rightT a && rightT b))))
theorem WRow.at {S : Nat → Prop} {w : World} {A : Option Addr} {l : List Step} {c j : Nat} {x : Step} (h : WRow S w A l c) (hj : l[j]? = some x) :
    ∃ b off, A = some ⟨b, off, none⟩ ∧ S b ∧ ∀ (q : Nat) v, [Value.string x.1, .string x.2][q]? = some v → w.cell? ⟨b, off + j * 2 + q, none⟩ = some v := by
  obtain ⟨b, off, h1, h2, h3⟩ := h.row (by rintro rfl; simp at hj)
  refine ⟨b, off, h1, h2, fun q v hv => ?_⟩
  obtain ⟨e1, e2⟩ := wcells_get l j x hj
  match q, hv with
  | 0, hv => simp at hv; subst hv; have := h3 _ _ e1; rw [Nat.add_zero]; exact this
  | 1, hv => simp at hv; subst hv; have := h3 _ _ e2; rw [Nat.add_assoc]; exact this
  | q + 2, hv => simp at hv
theorem twoC {w w' : World} (hx : Ext w w') {b o : Nat} {x0 x1 : Value} (h : ∀ (j : Nat) v, [x0, x1][j]? = some v → w.cell? ⟨b, o + j, none⟩ = some v) : w'.cell? ⟨b, o, none⟩ = some x0 ∧ w'.cell? ⟨b, o + 1, none⟩ = some x1 :=
  ⟨Ext.cell hx (h 0 _ rfl), Ext.cell hx (h 1 _ rfl)⟩
end Go.Proofs.Ytgkgedjmnbjalaa
set_option linter.unusedSimpArgs false
namespace Go.Proofs.Ytgkgedjmnbjalaa
open Go.RowKit Go.Sort
theorem c14C {w w' : World} (hx : Ext w w') {b o : Nat} {x0 x1 x2 x3 x4 x5 x6 x7 x8 x9 x10 x11 x12 x13 : Value} (h : ∀ (j : Nat) v, [x0, x1, x2, x3, x4, x5, x6, x7, x8, x9, x10, x11, x12, x13][j]? = some v → w.cell? ⟨b, o + j, none⟩ = some v) :
    w'.cell? ⟨b, o, none⟩ = some x0 ∧ w'.cell? ⟨b, o + 1, none⟩ = some x1 ∧ w'.cell? ⟨b, o + 2, none⟩ = some x2 ∧ w'.cell? ⟨b, o + 3, none⟩ = some x3 ∧ w'.cell? ⟨b, o + 4, none⟩ = some x4 ∧ w'.cell? ⟨b, o + 5, none⟩ = some x5 ∧ w'.cell? ⟨b, o + 6, none⟩ = some x6 ∧
      w'.cell? ⟨b, o + 7, none⟩ = some x7 ∧ w'.cell? ⟨b, o + 8, none⟩ = some x8 ∧ w'.cell? ⟨b, o + 9, none⟩ = some x9 ∧ w'.cell? ⟨b, o + 10, none⟩ = some x10 ∧ w'.cell? ⟨b, o + 11, none⟩ = some x11 ∧ w'.cell? ⟨b, o + 12, none⟩ = some x12 ∧ w'.cell? ⟨b, o + 13, none⟩ = some x13 :=
  ⟨Ext.cell hx (h 0 _ rfl), Ext.cell hx (h 1 _ rfl), Ext.cell hx (h 2 _ rfl), Ext.cell hx (h 3 _ rfl), Ext.cell hx (h 4 _ rfl), Ext.cell hx (h 5 _ rfl), Ext.cell hx (h 6 _ rfl), Ext.cell hx (h 7 _ rfl), Ext.cell hx (h 8 _ rfl), Ext.cell hx (h 9 _ rfl), Ext.cell hx (h 10 _ rfl), Ext.cell hx (h 11 _ rfl), Ext.cell hx (h 12 _ rfl), Ext.cell hx (h 13 _ rfl)⟩
end Go.Proofs.Ytgkgedjmnbjalaa
set_option linter.unusedSimpArgs false
namespace Go.Proofs.Ytgkgedjmnbjalaa
open Go.RowKit Go.Sort
def SomeF (l : List E) (w : World) (e : Ending) (w' : World) : Prop := (∃ b, e = .returned (.bool b) ∧ (b = true → l.length ≤ 60 ∧ ∀ x ∈ l, x.node.size ≤ 300 ∧ rightT x.node = true)) ∧ Ext w w'
set_option maxRecDepth 100000 in
set_option maxHeartbeats 4000000 in
theorem law_small17 (a b : T) (S : Nat → Prop) (w : World) (ca cb : List Value) (ha : RT S w a ca) (hb : RT S w b cb) (hsa : a.size ≤ 1048576) (hsb : b.size ≤ 1048576) :
    Calls Try.prog 51 #[.agg ca.toArray, .agg cb.toArray] w fun e w' => e = .returned (.bool (smallB a b)) ∧ Ext w w' := by
  obtain ⟨K1, c1, rfl, _⟩ := ha.row
  obtain ⟨K2, c2, rfl, _⟩ := hb.row
  have za := Hd.mk (fun W (h : Ext w W) => ref_size a.size a S W _ (Nat.le_refl _) hsa (ha.ext h))
  have zb := Hd.mk (fun W (h : Ext w W) => ref_size b.size b S W _ (Nat.le_refl _) hsb (hb.ext h))
  have ra := Hd.mk (fun W (h : Ext w W) => ref_right a.deep a S W _ (Nat.le_refl _) (ha.ext h))
  have rb := Hd.mk (fun W (h : Ext w W) => ref_right b.deep b S W _ (Nat.le_refl _) (hb.ext h))
  generalize hr : smallB a b = r
  replace hr := Hd.mk hr
  clear ha hb
  simp only [cT] at za zb ra rb ⊢
  go_enter Try.func51, Try.ntmps51
  go_wp2_with fail
  have kx := Hd.mk ((Ext.alloc w (.cells #[.string a.name, .string a.key, .int .i64 a.kind, .int .u64 a.num, .string a.text, .slice K1 a.kids.length c1] 54)).trans (Ext.alloc _ (.cells #[.string b.name, .string b.key, .int .i64 b.kind, .int .u64 b.num, .string b.text, .slice K2 b.kids.length c2] 54)))
  have kA := Hd.mk ((Blk.new w #[.string a.name, .string a.key, .int .i64 a.kind, .int .u64 a.num, .string a.text, .slice K1 a.kids.length c1] 54).alloc (.cells #[.string b.name, .string b.key, .int .i64 b.kind, .int .u64 b.num, .string b.text, .slice K2 b.kids.length c2] 54))
  have kB := Hd.mk (Blk.new2 w (.cells #[.string a.name, .string a.key, .int .i64 a.kind, .int .u64 a.num, .string a.text, .slice K1 a.kids.length c1] 54) #[.string b.name, .string b.key, .int .i64 b.kind, .int .u64 b.num, .string b.text, .slice K2 b.kids.length c2] 54)
  generalize w.heap.size = pA at *
  generalize (w.alloc _).alloc _ = W at *
  refine Calls.mono (za.out W kx.out) ?_
  rintro e w1 ⟨rfl, hx⟩
  have kx1 := Hd.mk (kx.out.trans hx)
  have kA1 := Hd.mk (kA.out.ext hx)
  have kB1 := Hd.mk (kB.out.ext hx)
  clear hx kx kA kB za
  have gA := kA1.out.cell
  have gB := kB1.out.cell
  by_cases h1 : 300 < a.size
  · have h0 : r = false := by rw [← hr.out, smallB, decide_eq_false (by omega)]; rfl
    subst h0
    go_wp2_with fail
    go_ret
    exact ⟨rfl, kx1.out⟩
  · go_wp2_with fail
    refine Calls.mono (zb.out w1 kx1.out) ?_
    rintro e w2 ⟨rfl, hx⟩
    have kx2 := Hd.mk (kx1.out.trans hx)
    have kA2 := Hd.mk (kA1.out.ext hx)
    have kB2 := Hd.mk (kB1.out.ext hx)
    clear hx kx1 kA1 kB1 zb gA gB
    have gA := kA2.out.cell
    have gB := kB2.out.cell
    by_cases h2 : 300 < b.size
    · have h0 : r = false := by rw [← hr.out, smallB, decide_eq_false (show ¬ b.size ≤ 300 by omega)]; simp
      subst h0
      go_wp2_with fail
      go_ret
      exact ⟨rfl, kx2.out⟩
    · by_cases h3 : a.kind = 0
      · by_cases h4 : b.kind = 0
        · have h0 : r = (rightT a && rightT b) := by rw [← hr.out, smallB, decide_eq_true (show a.size ≤ 300 by omega), decide_eq_true (show b.size ≤ 300 by omega), decide_eq_true h3, decide_eq_true h4]; rfl
          have h3' : (a.kind != 0) = false := by simpa using h3
          have h4' : (b.kind != 0) = false := by simpa using h4
          clear h3 h4
          replace h0 := Hd.mk h0
          go_wp2_with fail
          refine Calls.mono (ra.out w2 kx2.out) ?_
          rintro e w3 ⟨rfl, hx⟩
          have kx3 := Hd.mk (kx2.out.trans hx)
          have kA3 := Hd.mk (kA2.out.ext hx)
          have kB3 := Hd.mk (kB2.out.ext hx)
          clear hx kx2 kA2 kB2 ra gA gB
          have gA := kA3.out.cell
          have gB := kB3.out.cell
          cases hra : rightT a with
          | false =>
            have h9 : r = false := by rw [h0.out, hra]; rfl
            subst h9
            go_wp2_with fail
            go_ret
            exact ⟨rfl, kx3.out⟩
          | true =>
            have h9 : r = rightT b := by rw [h0.out, hra]; rfl
            subst h9
            go_wp2_with fail
            refine Calls.mono (rb.out w3 kx3.out) ?_
            rintro e w4 ⟨rfl, hx⟩
            have kx4 := Hd.mk (kx3.out.trans hx)
            clear hx kx3 kA3 kB3 rb gA gB
            go_wp2_with fail
            go_ret
            exact ⟨rfl, kx4.out⟩
        · have h0 : r = false := by rw [← hr.out, smallB, decide_eq_false h4]; simp
          subst h0
          have h3' : (a.kind != 0) = false := by simpa using h3
          have h4' : (b.kind != 0) = true := by simpa using h4
          clear h3 h4
          go_wp2_with fail
          go_ret
          exact ⟨rfl, kx2.out⟩
      · have h0 : r = false := by rw [← hr.out, smallB, decide_eq_false h3]; simp
        subst h0
        have h3' : (a.kind != 0) = true := by simpa using h3
        clear h3
        go_wp2_with fail
        go_ret
        exact ⟨rfl, kx2.out⟩
set_option maxRecDepth 100000 in
set_option maxHeartbeats 4000000 in
theorem law_few17 (l : List E) (S : Nat → Prop) (w : World) (K : Option Addr) (c : Nat) (hr : ERow S w K l c) (hb : ∀ (i : Nat) e, l[i]? = some e → e.node.size ≤ 1048576 ∧ e.old.size ≤ 1048576) :
    Calls Try.prog 52 #[.slice K l.length c] w (SomeF l w) := by
  have kr := Hd.mk hr
  have hl := hr.len
  replace hb := Hd.mk hb
  clear hr
  go_enter Try.func52, Try.ntmps52
  go_wp2_with fail
  go_loopg [3] (l.length + 1) (fun q i wr => ∃ j : Nat, j ≤ l.length ∧ Hd (q = l.length + 1 - j) ∧ i = .int .i64 j ∧ Hd (Ext w wr) ∧ Hd (∀ k, k < j → ∀ x, l[k]? = some x → x.node.size ≤ 300 ∧ rightT x.node = true))
  case atStart => exact ⟨0, by omega, ⟨by omega⟩, rfl, ⟨Ext.refl _⟩, ⟨fun k hk => absurd hk (by omega)⟩⟩
  case round =>
  obtain ⟨j, hj, hq, rfl, hxr, hal⟩ := hrel
  by_cases hlt : j < l.length
  · have hx1 := List.getElem?_eq_getElem hlt
    generalize l[j] = x at hx1
    obtain ⟨hs1, hs2⟩ := hb.out j x hx1
    obtain ⟨b1, o1, ck, rfl, _, hrk, hck⟩ := kr.out.edit j x hx1
    obtain ⟨A1, a1, K3, k3, L3, l3, rfl, hwr, hnr, hor⟩ := hrk
    have hwl := hwr.len
    have hc1 := Hd.mk (fun W (h : Ext w W) => ref_size x.node.size x.node S W _ (Nat.le_refl _) hs1 ((RT.of_row hnr).ext h))
    have hc2 := Hd.mk (fun W (h : Ext w W) => ref_size x.old.size x.old S W _ (Nat.le_refl _) hs2 ((RT.of_row hor).ext h))
    have kck := Hd.mk hck
    obtain ⟨e0, e1, e2, e3, e4, e5, e6, e7, e8, e9, e10, e11, e12, e13⟩ := c14C hxr.out hck
    have lt1 := World.block_lt_of_cell? wr _ e0
    have hc3 := Hd.mk (fun W (h : Ext w W) => ref_right x.node.deep x.node S W _ (Nat.le_refl _) ((RT.of_row hnr).ext h))
    replace hx1 := Hd.mk hx1
    clear hck hwr hnr hor
    simp only [cT] at hc1 hc2 hc3
    go_wp2_with fail
    refine Calls.mono (hc1.out _ hxr.out) ?_
    rintro e w2 ⟨rfl, hx⟩
    clear hc1 e0 e1 e2 e3 e4 e5 e6 e7 e8 e9 e10 e11 e12 e13 lt1
    have hxr2 := Hd.mk (hxr.out.trans hx)
    clear hx
    obtain ⟨e0, e1, e2, e3, e4, e5, e6, e7, e8, e9, e10, e11, e12, e13⟩ := c14C hxr2.out kck.out
    have lt1 := World.block_lt_of_cell? w2 _ e0
    by_cases h1 : 300 < x.node.size
    · go_wp2_with fail
      go_ret
      exact ⟨⟨_, rfl, fun h => Bool.noConfusion h⟩, hxr2.out⟩
    · go_wp2_with fail
      refine Calls.mono (hc2.out _ hxr2.out) ?_
      rintro e w3 ⟨rfl, hx⟩
      clear hc2 e0 e1 e2 e3 e4 e5 e6 e7 e8 e9 e10 e11 e12 e13 lt1
      have hxr3 := Hd.mk (hxr2.out.trans hx)
      clear hx
      obtain ⟨e0, e1, e2, e3, e4, e5, e6, e7, e8, e9, e10, e11, e12, e13⟩ := c14C hxr3.out kck.out
      have lt1 := World.block_lt_of_cell? w3 _ e0
      by_cases h2 : 300 < x.old.size
      · go_wp2_with fail
        go_ret
        exact ⟨⟨_, rfl, fun h => Bool.noConfusion h⟩, hxr3.out⟩
      · by_cases h3 : 20 < x.way.length
        · go_wp2_with fail
          go_ret
          exact ⟨⟨_, rfl, fun h => Bool.noConfusion h⟩, hxr3.out⟩
        · go_wp2_with fail
          refine Calls.mono (hc3.out _ hxr3.out) ?_
          rintro e w4 ⟨rfl, hx⟩
          clear hc3 e0 e1 e2 e3 e4 e5 e6 e7 e8 e9 e10 e11 e12 e13 lt1
          have hxr4 := Hd.mk (hxr3.out.trans hx)
          clear hx
          cases hrt : rightT x.node with
          | false =>
            go_wp2_with fail
            go_ret
            exact ⟨⟨_, rfl, fun h => Bool.noConfusion h⟩, hxr4.out⟩
          | true =>
            go_wp2_with fail
            go_roundg (l.length + 1 - (j + 1))
            case measure => have := hq.out; omega
            case rel => exact ⟨j + 1, by omega, ⟨rfl⟩, by go_num, hxr4, ⟨fun k hk y hy => by
              by_cases hkj : k = j
              · subst hkj
                rw [hx1.out] at hy
                cases hy
                exact ⟨by omega, hrt⟩
              · exact hal.out k (by omega) y hy⟩⟩
  · have hjl : j = l.length := by omega
    subst hjl
    by_cases h60 : l.length ≤ 60
    · go_wp2_with fail
      go_ret
      refine ⟨⟨_, rfl, fun _ => ⟨h60, fun x hx => ?_⟩⟩, hxr.out⟩
      obtain ⟨k, hk, rfl⟩ := List.getElem_of_mem hx
      exact hal.out k hk _ (List.getElem?_eq_getElem hk)
    · go_wp2_with fail
      go_ret
      exact ⟨⟨_, rfl, fun h => absurd (of_decide_eq_true h) (by omega)⟩, hxr.out⟩
end Go.Proofs.Ytgkgedjmnbjalaa
set_option linter.unusedSimpArgs false
namespace Go.Proofs.Ytgkgedjmnbjalaa
open Go.RowKit Go.Sort
theorem by_asymm : ∀ x y : List UInt8, Op.bytesLess x y = true → Op.bytesLess y x = false
  | [], [], h => by simp [Op.bytesLess] at h
  | [], b :: y, _ => rfl
  | a :: x, [], h => by simp [Op.bytesLess] at h
  | a :: x, b :: y, h => by
    simp only [Op.bytesLess, Bool.or_eq_true, decide_eq_true_eq, Bool.and_eq_true, Bool.or_eq_false_iff, decide_eq_false_iff_not, Bool.and_eq_false_iff] at h ⊢
    rcases h with h | ⟨h1, h2⟩
    · refine ⟨UInt8.not_lt.2 (UInt8.le_of_lt h), .inl (by simp; intro e; subst e; exact absurd h (UInt8.lt_irrefl _))⟩
    · simp at h1
      subst h1
      exact ⟨UInt8.lt_irrefl _, .inr (by_asymm x y h2)⟩
theorem by_anti : ∀ x y : List UInt8, Op.bytesLess x y = false → Op.bytesLess y x = false → x = y
  | [], [], _, _ => rfl
  | [], b :: y, h, _ => by simp [Op.bytesLess] at h
  | a :: x, [], _, h => by simp [Op.bytesLess] at h
  | a :: x, b :: y, h, k => by
    simp only [Op.bytesLess, Bool.or_eq_false_iff, decide_eq_false_iff_not, Bool.and_eq_false_iff] at h k
    have hab : a = b := UInt8.le_antisymm (UInt8.not_lt.1 k.1) (UInt8.not_lt.1 h.1)
    subst hab
    have h2 : Op.bytesLess x y = false := by simpa using h.2
    have k2 : Op.bytesLess y x = false := by simpa using k.2
    rw [by_anti x y h2 k2]
theorem by_trans : ∀ x y z : List UInt8, Op.bytesLess x y = true → Op.bytesLess y z = true → Op.bytesLess x z = true
  | _, [], z, h, _ => by simp [Op.bytesLess] at h
  | x, b :: y, [], _, k => by simp [Op.bytesLess] at k
  | [], b :: y, c :: z, _, _ => rfl
  | a :: x, b :: y, c :: z, h, k => by
    simp only [Op.bytesLess, Bool.or_eq_true, decide_eq_true_eq, Bool.and_eq_true] at h k ⊢
    rcases h with h | ⟨h1, h2⟩
    · rcases k with k | ⟨k1, k2⟩
      · exact .inl (UInt8.lt_trans h k)
      · simp at k1; subst k1; exact .inl h
    · simp at h1
      subst h1
      rcases k with k | ⟨k1, k2⟩
      · exact .inl k
      · simp at k1; subst k1; exact .inr ⟨by simp, by_trans x y z h2 k2⟩
theorem ltB_asymm {a b : ByteArray} (h : ltB a b = true) : ltB b a = false := by_asymm _ _ h
theorem ltB_trans {a b c : ByteArray} (h : ltB a b = true) (k : ltB b c = true) : ltB a c = true := by_trans _ _ _ h k
theorem ltB_eq {a b : ByteArray} (h : ltB a b = false) (k : ltB b a = false) : a = b := of_decide_eq_true (by rw [← str_eq, by_anti _ _ h k]; exact beq_self_eq_true _)
theorem lessT_irr (x : T) : lessT x x = false := by simp [lessT, ltB_irr]
theorem lessT_asymm {x y : T} (h : lessT x y = true) : lessT y x = false := by
  simp only [lessT, Bool.or_eq_true, Bool.and_eq_true, decide_eq_true_eq, Bool.or_eq_false_iff, Bool.and_eq_false_iff, decide_eq_false_iff_not] at h ⊢
  rcases h with h | ⟨h1, h2⟩
  · exact ⟨ltB_asymm h, .inl (fun e => by rw [e, ltB_irr] at h; cases h)⟩
  · exact ⟨by rw [h1]; exact ltB_irr _, .inr (ltB_asymm h2)⟩
theorem lessT_trans {x y z : T} (h : lessT x y = true) (k : lessT y z = true) : lessT x z = true := by
  simp only [lessT, Bool.or_eq_true, Bool.and_eq_true, decide_eq_true_eq] at h k ⊢
  rcases h with h | ⟨h1, h2⟩
  · rcases k with k | ⟨k1, k2⟩
    · exact .inl (ltB_trans h k)
    · exact .inl (by rw [← k1]; exact h)
  · rcases k with k | ⟨k1, k2⟩
    · exact .inl (by rw [h1]; exact k)
    · exact .inr ⟨h1.trans k1, ltB_trans h2 k2⟩
theorem lessT_step {x y z : T} (h : stepT x = stepT y) : lessT x z = lessT y z ∧ lessT z x = lessT z y := by
  have h1 : x.name = y.name := congrArg Prod.fst h
  have h2 : x.key = y.key := congrArg Prod.snd h
  exact ⟨by unfold lessT; rw [h1, h2], by unfold lessT; rw [h1, h2]⟩
theorem step_of_less {x y : T} (h : lessT x y = false) (k : lessT y x = false) : stepT x = stepT y := by
  simp only [lessT, Bool.or_eq_false_iff, Bool.and_eq_false_iff, decide_eq_false_iff_not] at h k
  have hn := ltB_eq h.1 k.1
  have h2 : ltB x.key y.key = false := by
    rcases h.2 with h' | h'
    · exact absurd hn h'
    · exact h'
  have k2 : ltB y.key x.key = false := by
    rcases k.2 with h' | h'
    · exact absurd hn.symm h'
    · exact h'
  exact Prod.ext hn (ltB_eq h2 k2)
mutual
theorem sameT_rfl : ∀ t : T, sameT t t = true
  | .mk n k d m t l => by rw [sameT_mk]; simp [sameL_rfl l]
theorem sameL_rfl : ∀ l : List T, sameL l l = true
  | [] => rfl
  | x :: l => by rw [sameL, sameT_rfl x, sameL_rfl l]; rfl
end
theorem right_zero {x : T} (h : rightT x = true) (h0 : x.kind = 0) : x.num = 0 ∧ x.text = ⟨#[]⟩ ∧ rightL none x.kids = true := by
  obtain ⟨n, k, d, m, t, l⟩ := x
  have h0' : d = 0 := h0
  subst h0'
  rw [rightT, if_pos rfl, Bool.and_eq_true, Bool.and_eq_true] at h
  exact ⟨of_decide_eq_true h.1.1, of_decide_eq_true h.1.2, h.2⟩
theorem right_leaf {x : T} (h : rightT x = true) (h0 : x.kind ≠ 0) : x.kids = [] := by
  obtain ⟨n, k, d, m, t, l⟩ := x
  have h0' : ¬ d = 0 := h0
  rw [rightT, if_neg h0'] at h
  exact List.isEmpty_iff.1 h
end Go.Proofs.Ytgkgedjmnbjalaa
set_option linter.unusedSimpArgs false
namespace Go.Proofs.Ytgkgedjmnbjalaa
open Go.RowKit Go.Sort
def findAt : List T → Step → Nat → Int
  | [], _, _ => -1
  | x :: l, s, j => if stepT x = s then (j : Int) else findAt l s (j + 1)
def findT (l : List T) (s : Step) : Int := findAt l s 0
theorem findAt_drop {l : List T} {j : Nat} {x : T} (h : l[j]? = some x) (s : Step) : findAt (l.drop j) s j = if stepT x = s then (j : Int) else findAt (l.drop (j + 1)) s (j + 1) := by
  obtain ⟨h1, h2⟩ := List.getElem?_eq_some_iff.1 h
  rw [List.drop_eq_getElem_cons h1, h2, findAt]
theorem findAt_spec : ∀ (l : List T) (s : Step) (j : Nat), (findAt l s j = -1 ∧ ∀ x ∈ l, stepT x ≠ s) ∨ ∃ i x, findAt l s j = ((j + i : Nat) : Int) ∧ l[i]? = some x ∧ stepT x = s ∧ ∀ k y, k < i → l[k]? = some y → stepT y ≠ s
  | [], s, j => .inl ⟨rfl, by simp⟩
  | x :: l, s, j => by
    by_cases h : stepT x = s
    · exact .inr ⟨0, x, by rw [findAt, if_pos h]; rfl, rfl, h, fun k y hk => absurd hk (by omega)⟩
    · rw [findAt, if_neg h]
      rcases findAt_spec l s (j + 1) with ⟨h1, h2⟩ | ⟨i, y, h1, h2, h3, h4⟩
      · exact .inl ⟨h1, fun y hy => by rcases List.mem_cons.1 hy with rfl | hy; exact h; exact h2 y hy⟩
      · refine .inr ⟨i + 1, y, by rw [h1]; congr 1; omega, by simpa using h2, h3, fun k z hk hz => ?_⟩
        cases k with
        | zero => simp at hz; subst hz; exact h
        | succ k => exact h4 k z (by omega) (by simpa using hz)
theorem findT_spec (l : List T) (s : Step) : (findT l s = -1 ∧ ∀ x ∈ l, stepT x ≠ s) ∨ ∃ (i : Nat) (x : T), findT l s = (i : Int) ∧ l[i]? = some x ∧ stepT x = s ∧ ∀ (k : Nat) y, k < i → l[k]? = some y → stepT y ≠ s := by
  rcases findAt_spec l s 0 with h | ⟨i, x, h1, h2⟩
  · exact .inl h
  · exact .inr ⟨i, x, by rw [findT, h1, Nat.zero_add], h2⟩
theorem str_ne {a b : ByteArray} (h : a ≠ b) : ¬ a.toList = b.toList := fun e => h (of_decide_eq_true (by rw [← str_eq, e]; exact beq_self_eq_true _))
set_option maxRecDepth 100000 in
set_option maxHeartbeats 4000000 in
theorem ref_find (a : T) (s : Step) (S : Nat → Prop) (w : World) (c : List Value) (ha : RT S w a c) :
    Calls Try.prog 49 #[.agg c.toArray, .agg #[.string s.1, .string s.2]] w fun e w' => e = .returned (.int .i64 (findT a.kids s)) ∧ Ext w w' := by
  obtain ⟨K1, c1, rfl, hr1⟩ := ha.row
  obtain ⟨s1, s2⟩ := s
  have kr := Hd.mk hr1
  have hl := hr1.len
  clear ha hr1
  generalize hr : findT a.kids (s1, s2) = r
  replace hr := Hd.mk (show r = findAt (a.kids.drop 0) (s1, s2) 0 from hr.symm)
  simp only [cT]
  go_enter Try.func49, Try.ntmps49
  go_wp2_with fail
  have kx := Hd.mk ((Ext.alloc w (.cells #[.string a.name, .string a.key, .int .i64 a.kind, .int .u64 a.num, .string a.text, .slice K1 a.kids.length c1] 54)).trans (Ext.alloc _ (.cells #[.string s1, .string s2] 65)))
  have kA := Hd.mk ((Blk.new w #[.string a.name, .string a.key, .int .i64 a.kind, .int .u64 a.num, .string a.text, .slice K1 a.kids.length c1] 54).alloc (.cells #[.string s1, .string s2] 65))
  have kB := Hd.mk (Blk.new2 w (.cells #[.string a.name, .string a.key, .int .i64 a.kind, .int .u64 a.num, .string a.text, .slice K1 a.kids.length c1] 54) #[.string s1, .string s2] 65)
  generalize w.heap.size = pA at *
  generalize (w.alloc _).alloc _ = W at *
  go_loopg [5] (a.kids.length + 1) (fun q i wr => ∃ j : Nat, j ≤ a.kids.length ∧ Hd (q = a.kids.length + 1 - j) ∧ i = .int .i64 j ∧ Hd (r = findAt (a.kids.drop j) (s1, s2) j) ∧ Hd (Ext w wr) ∧ Hd (Blk wr pA [.string a.name, .string a.key, .int .i64 a.kind, .int .u64 a.num, .string a.text, .slice K1 a.kids.length c1] 54) ∧ Hd (Blk wr (pA + 1) [.string s1, .string s2] 65))
  case atStart => exact ⟨0, by omega, ⟨by omega⟩, rfl, hr, kx, kA, kB⟩
  case round =>
  obtain ⟨j, hj, hq, rfl, hI, hxr, qA, qB⟩ := hrel
  have gA := qA.out.cell
  by_cases hlt : j < a.kids.length
  · have hx1 := List.getElem?_eq_getElem hlt
    generalize a.kids[j] = x at hx1
    have hst := Hd.mk (findAt_drop hx1 (s1, s2))
    obtain ⟨b1, o1, d1, rfl, _, hre1, hck⟩ := kr.out.kid j x hx1
    obtain ⟨K2, c2, rfl, _⟩ := hre1.row
    have kcx := Hd.mk (fun (q : Nat) u hq => Ext.cell hxr.out (hck q u hq))
    simp only [cT] at kcx
    clear hck hx1 hre1
    have hlt2 := hlt
    go_wp2_with fail
    by_cases h1 : x.name = s1
    · by_cases h2 : x.key = s2
      · have hr0 : r = (j : Int) := by rw [hI.out, hst.out, if_pos (Prod.ext h1 h2)]
        subst hr0
        subst h1
        subst h2
        refine Flow.wp_region_flow_l (fun qq => match qq with
          | 13 => SP.eq (.pointer (some ⟨pA, 5, none⟩))
          | 14 => SP.eq (.slice (some ⟨b1, o1, none⟩) a.kids.length c1)
          | 15 => SP.eq (.int .i64 (j : Nat))
          | 16 => SP.eq (.pointer (some ⟨b1, o1 + j * 6, none⟩))
          | 17 => SP.eq (.pointer (some ⟨b1, o1 + j * 6, none⟩))
          | 18 => SP.eq (.string x.name)
          | 19 => SP.eq (.pointer (some ⟨pA + 1, 0, none⟩))
          | 20 => SP.eq (.string x.name)
          | 21 => SP.eq (.bool true)
          | 22 => SP.eq (.bool true)
          | 23 => SP.eq (.pointer (some ⟨pA, 5, none⟩))
          | 24 => SP.eq (.slice (some ⟨b1, o1, none⟩) a.kids.length c1)
          | 25 => SP.eq (.int .i64 (j : Nat))
          | 26 => SP.eq (.pointer (some ⟨b1, o1 + j * 6, none⟩))
          | 27 => SP.eq (.pointer (some ⟨b1, o1 + j * 6 + 1, none⟩))
          | 28 => SP.eq (.string x.key)
          | 29 => SP.eq (.pointer (some ⟨pA + 1, 1, none⟩))
          | 30 => SP.eq (.string x.key)
          | 31 => SP.eq (.bool true)
          | 32 => SP.eq (.bool true)
          | _ => SP.any) 20 (by kernel_rfl) 34 rfl (by kernel_rfl) ?_ ?_
        · skip
          refine ⟨?_, ?_, ?_, ?_, ?_, ?_, ?_, ?_, ?_, ?_, ?_, ?_, ?_, ?_, ?_, ?_, ?_, ?_, ?_, ?_, trivial⟩
          · intro act W2 hk
            refine Flow.does_intro rfl (fun Kq hK => ?_)
            have e2 : act.tmps[2]?.getD undef = .pointer (some ⟨pA, 0, none⟩) := hk.o 2 (by kernel_rfl)
            clear hk
            go_simp
            exact hK _ _ (Ext.refl _) (fun d hd => by cases hd; rfl)
          · intro act W2 hk
            refine Flow.does_intro rfl (fun Kq hK => ?_)
            have e13 : act.tmps[13]?.getD undef = .pointer (some ⟨pA, 5, none⟩) := hk.v 13 (by kernel_rfl)
            have g := ((qA.out).ext ((Ext.drew wr).trans hk.ext)).cell
            clear hk
            go_simp
            exact hK _ _ (Ext.refl _) (fun d hd => by cases hd; rfl)
          · intro act W2 hk
            refine Flow.does_intro rfl (fun Kq hK => ?_)
            have e5 : act.tmps[5]?.getD undef = .int .i64 (j : Nat) := hk.o 5 (by kernel_rfl)
            clear hk
            go_simp
            exact hK _ _ (Ext.refl _) (fun d hd => by cases hd; rfl)
          · intro act W2 hk
            refine Flow.does_intro rfl (fun Kq hK => ?_)
            have e14 : act.tmps[14]?.getD undef = .slice (some ⟨b1, o1, none⟩) a.kids.length c1 := hk.v 14 (by kernel_rfl)
            have e15 : act.tmps[15]?.getD undef = .int .i64 (j : Nat) := hk.v 15 (by kernel_rfl)
            clear hk
            go_simp
            exact hK _ _ (Ext.refl _) (fun d hd => by cases hd; rfl)
          · intro act W2 hk
            refine Flow.does_intro rfl (fun Kq hK => ?_)
            have e16 : act.tmps[16]?.getD undef = .pointer (some ⟨b1, o1 + j * 6, none⟩) := hk.v 16 (by kernel_rfl)
            clear hk
            go_simp
            exact hK _ _ (Ext.refl _) (fun d hd => by cases hd; rfl)
          · intro act W2 hk
            refine Flow.does_intro rfl (fun Kq hK => ?_)
            have e17 : act.tmps[17]?.getD undef = .pointer (some ⟨b1, o1 + j * 6, none⟩) := hk.v 17 (by kernel_rfl)
            have g0 := Ext.cell ((Ext.drew wr).trans hk.ext) ((kcx.out) 0 _ rfl)
            rw [Nat.add_zero] at g0
            clear hk
            go_simp
            exact hK _ _ (Ext.refl _) (fun d hd => by cases hd; first | rfl | (simp [SP.eq]; omega) | (simp [SP.eq, hne]))
          · intro act W2 hk
            refine Flow.does_intro rfl (fun Kq hK => ?_)
            have e3 : act.tmps[3]?.getD undef = .pointer (some ⟨pA + 1, 0, none⟩) := hk.o 3 (by kernel_rfl)
            clear hk
            go_simp
            exact hK _ _ (Ext.refl _) (fun d hd => by cases hd; rfl)
          · intro act W2 hk
            refine Flow.does_intro rfl (fun Kq hK => ?_)
            have e19 : act.tmps[19]?.getD undef = .pointer (some ⟨pA + 1, 0, none⟩) := hk.v 19 (by kernel_rfl)
            have g := ((qB.out).ext ((Ext.drew wr).trans hk.ext)).cell
            clear hk
            go_simp
            exact hK _ _ (Ext.refl _) (fun d hd => by cases hd; first | rfl | (simp [SP.eq]; omega) | (simp [SP.eq, hne]))
          · intro act W2 hk
            refine Flow.does_intro rfl (fun Kq hK => ?_)
            have e18 : act.tmps[18]?.getD undef = .string x.name := hk.v 18 (by kernel_rfl)
            have e20 : act.tmps[20]?.getD undef = .string x.name := hk.v 20 (by kernel_rfl)
            clear hk
            go_simp
            exact hK _ _ (Ext.refl _) (fun d hd => by cases hd; first | rfl | (simp [SP.eq]; omega) | (simp [SP.eq, hne]))
          · intro act W2 hk
            refine Flow.does_intro rfl (fun Kq hK => ?_)
            have e21 : act.tmps[21]?.getD undef = .bool true := hk.v 21 (by kernel_rfl)
            clear hk
            go_simp
            exact hK _ _ (Ext.refl _) (fun d hd => by cases hd; rfl)
          · intro act W2 hk
            have eg : act.tmps[22]?.getD undef = .bool true := hk.v 22 (by kernel_rfl)
            refine Flow.does_intro (wanted_yes rfl rfl eg) (fun Kq hK => ?_)
            clear eg
            have e2 : act.tmps[2]?.getD undef = .pointer (some ⟨pA, 0, none⟩) := hk.o 2 (by kernel_rfl)
            clear hk
            go_simp
            exact hK _ _ (Ext.refl _) (fun d hd => by cases hd; rfl)
          · intro act W2 hk
            have eg : act.tmps[22]?.getD undef = .bool true := hk.v 22 (by kernel_rfl)
            refine Flow.does_intro (wanted_yes rfl rfl eg) (fun Kq hK => ?_)
            clear eg
            have e23 : act.tmps[23]?.getD undef = .pointer (some ⟨pA, 5, none⟩) := hk.v 23 (by kernel_rfl)
            have g := ((qA.out).ext ((Ext.drew wr).trans hk.ext)).cell
            clear hk
            go_simp
            exact hK _ _ (Ext.refl _) (fun d hd => by cases hd; rfl)
          · intro act W2 hk
            have eg : act.tmps[22]?.getD undef = .bool true := hk.v 22 (by kernel_rfl)
            refine Flow.does_intro (wanted_yes rfl rfl eg) (fun Kq hK => ?_)
            clear eg
            have e5 : act.tmps[5]?.getD undef = .int .i64 (j : Nat) := hk.o 5 (by kernel_rfl)
            clear hk
            go_simp
            exact hK _ _ (Ext.refl _) (fun d hd => by cases hd; rfl)
          · intro act W2 hk
            have eg : act.tmps[22]?.getD undef = .bool true := hk.v 22 (by kernel_rfl)
            refine Flow.does_intro (wanted_yes rfl rfl eg) (fun Kq hK => ?_)
            clear eg
            have e24 : act.tmps[24]?.getD undef = .slice (some ⟨b1, o1, none⟩) a.kids.length c1 := hk.v 24 (by kernel_rfl)
            have e25 : act.tmps[25]?.getD undef = .int .i64 (j : Nat) := hk.v 25 (by kernel_rfl)
            clear hk
            go_simp
            exact hK _ _ (Ext.refl _) (fun d hd => by cases hd; rfl)
          · intro act W2 hk
            have eg : act.tmps[22]?.getD undef = .bool true := hk.v 22 (by kernel_rfl)
            refine Flow.does_intro (wanted_yes rfl rfl eg) (fun Kq hK => ?_)
            clear eg
            have e26 : act.tmps[26]?.getD undef = .pointer (some ⟨b1, o1 + j * 6, none⟩) := hk.v 26 (by kernel_rfl)
            clear hk
            go_simp
            exact hK _ _ (Ext.refl _) (fun d hd => by cases hd; rfl)
          · intro act W2 hk
            have eg : act.tmps[22]?.getD undef = .bool true := hk.v 22 (by kernel_rfl)
            refine Flow.does_intro (wanted_yes rfl rfl eg) (fun Kq hK => ?_)
            clear eg
            have e27 : act.tmps[27]?.getD undef = .pointer (some ⟨b1, o1 + j * 6 + 1, none⟩) := hk.v 27 (by kernel_rfl)
            have g1 := Ext.cell ((Ext.drew wr).trans hk.ext) ((kcx.out) 1 _ rfl)
            clear hk
            go_simp
            exact hK _ _ (Ext.refl _) (fun d hd => by cases hd; first | rfl | (simp [SP.eq]; omega) | (simp [SP.eq, hne]))
          · intro act W2 hk
            have eg : act.tmps[22]?.getD undef = .bool true := hk.v 22 (by kernel_rfl)
            refine Flow.does_intro (wanted_yes rfl rfl eg) (fun Kq hK => ?_)
            clear eg
            have e3 : act.tmps[3]?.getD undef = .pointer (some ⟨pA + 1, 0, none⟩) := hk.o 3 (by kernel_rfl)
            clear hk
            go_simp
            exact hK _ _ (Ext.refl _) (fun d hd => by cases hd; rfl)
          · intro act W2 hk
            have eg : act.tmps[22]?.getD undef = .bool true := hk.v 22 (by kernel_rfl)
            refine Flow.does_intro (wanted_yes rfl rfl eg) (fun Kq hK => ?_)
            clear eg
            have e29 : act.tmps[29]?.getD undef = .pointer (some ⟨pA + 1, 1, none⟩) := hk.v 29 (by kernel_rfl)
            have g := ((qB.out).ext ((Ext.drew wr).trans hk.ext)).cell
            clear hk
            go_simp
            exact hK _ _ (Ext.refl _) (fun d hd => by cases hd; first | rfl | (simp [SP.eq]; omega) | (simp [SP.eq, hne]))
          · intro act W2 hk
            have eg : act.tmps[22]?.getD undef = .bool true := hk.v 22 (by kernel_rfl)
            refine Flow.does_intro (wanted_yes rfl rfl eg) (fun Kq hK => ?_)
            clear eg
            have e28 : act.tmps[28]?.getD undef = .string x.key := hk.v 28 (by kernel_rfl)
            have e30 : act.tmps[30]?.getD undef = .string x.key := hk.v 30 (by kernel_rfl)
            clear hk
            go_simp
            exact hK _ _ (Ext.refl _) (fun d hd => by cases hd; first | rfl | (simp [SP.eq]; omega) | (simp [SP.eq, hne]))
          · intro act W2 hk
            refine Flow.does_intro rfl (fun Kq hK => ?_)
            have e22 : act.tmps[22]?.getD undef = .bool true := hk.v 22 (by kernel_rfl)
            have e31 : act.tmps[31]?.getD undef = .bool true := hk.v 31 (by kernel_rfl)
            clear hk
            go_simp
            exact hK _ _ (Ext.refl _) (fun d hd => by cases hd; rfl)
        · intro act W2 he
          have hxW2 := Hd.mk ((Ext.drew wr).trans he.ext)
          obtain ⟨us, hA, hF⟩ := he.out [13, 14, 15, 16, 17, 18, 19, 20, 21, 22, 23, 24, 25, 26, 27, 28, 29, 30, 31, 32] (by kernel_rfl)
          simp only [Flow.fillL, List.contains_cons, List.contains_nil, Nat.reduceBEq, Bool.or_false, Bool.false_or, Bool.or_true, Bool.true_or, ↓reduceIte, Nat.reduceAdd, Bool.false_eq_true] at hA
          subst hA
          have f32 : us 32 = .bool true := hF 32 (by simp)
          clear hF he
          rw [f32]
          clear f32
          refine (show wpList _ _ _ [] _ _ from ?_)
          go_wp2_with fail
          go_ret
          exact ⟨rfl, hxr.out.trans hxW2.out⟩
      · have hr0 : r = findAt (a.kids.drop (j + 1)) (s1, s2) (j + 1) := by rw [hI.out, hst.out, if_neg (fun e => h2 (congrArg Prod.snd e))]
        replace hr0 := Hd.mk hr0
        have hne := str_ne h2
        clear h2
        subst h1
        refine Flow.wp_region_flow_l (fun qq => match qq with
          | 13 => SP.eq (.pointer (some ⟨pA, 5, none⟩))
          | 14 => SP.eq (.slice (some ⟨b1, o1, none⟩) a.kids.length c1)
          | 15 => SP.eq (.int .i64 (j : Nat))
          | 16 => SP.eq (.pointer (some ⟨b1, o1 + j * 6, none⟩))
          | 17 => SP.eq (.pointer (some ⟨b1, o1 + j * 6, none⟩))
          | 18 => SP.eq (.string x.name)
          | 19 => SP.eq (.pointer (some ⟨pA + 1, 0, none⟩))
          | 20 => SP.eq (.string x.name)
          | 21 => SP.eq (.bool true)
          | 22 => SP.eq (.bool true)
          | 23 => SP.eq (.pointer (some ⟨pA, 5, none⟩))
          | 24 => SP.eq (.slice (some ⟨b1, o1, none⟩) a.kids.length c1)
          | 25 => SP.eq (.int .i64 (j : Nat))
          | 26 => SP.eq (.pointer (some ⟨b1, o1 + j * 6, none⟩))
          | 27 => SP.eq (.pointer (some ⟨b1, o1 + j * 6 + 1, none⟩))
          | 28 => SP.eq (.string x.key)
          | 29 => SP.eq (.pointer (some ⟨pA + 1, 1, none⟩))
          | 30 => SP.eq (.string s2)
          | 31 => SP.eq (.bool false)
          | 32 => SP.eq (.bool false)
          | _ => SP.any) 20 (by kernel_rfl) 34 rfl (by kernel_rfl) ?_ ?_
        · skip
          refine ⟨?_, ?_, ?_, ?_, ?_, ?_, ?_, ?_, ?_, ?_, ?_, ?_, ?_, ?_, ?_, ?_, ?_, ?_, ?_, ?_, trivial⟩
          · intro act W2 hk
            refine Flow.does_intro rfl (fun Kq hK => ?_)
            have e2 : act.tmps[2]?.getD undef = .pointer (some ⟨pA, 0, none⟩) := hk.o 2 (by kernel_rfl)
            clear hk
            go_simp
            exact hK _ _ (Ext.refl _) (fun d hd => by cases hd; rfl)
          · intro act W2 hk
            refine Flow.does_intro rfl (fun Kq hK => ?_)
            have e13 : act.tmps[13]?.getD undef = .pointer (some ⟨pA, 5, none⟩) := hk.v 13 (by kernel_rfl)
            have g := ((qA.out).ext ((Ext.drew wr).trans hk.ext)).cell
            clear hk
            go_simp
            exact hK _ _ (Ext.refl _) (fun d hd => by cases hd; rfl)
          · intro act W2 hk
            refine Flow.does_intro rfl (fun Kq hK => ?_)
            have e5 : act.tmps[5]?.getD undef = .int .i64 (j : Nat) := hk.o 5 (by kernel_rfl)
            clear hk
            go_simp
            exact hK _ _ (Ext.refl _) (fun d hd => by cases hd; rfl)
          · intro act W2 hk
            refine Flow.does_intro rfl (fun Kq hK => ?_)
            have e14 : act.tmps[14]?.getD undef = .slice (some ⟨b1, o1, none⟩) a.kids.length c1 := hk.v 14 (by kernel_rfl)
            have e15 : act.tmps[15]?.getD undef = .int .i64 (j : Nat) := hk.v 15 (by kernel_rfl)
            clear hk
            go_simp
            exact hK _ _ (Ext.refl _) (fun d hd => by cases hd; rfl)
          · intro act W2 hk
            refine Flow.does_intro rfl (fun Kq hK => ?_)
            have e16 : act.tmps[16]?.getD undef = .pointer (some ⟨b1, o1 + j * 6, none⟩) := hk.v 16 (by kernel_rfl)
            clear hk
            go_simp
            exact hK _ _ (Ext.refl _) (fun d hd => by cases hd; rfl)
          · intro act W2 hk
            refine Flow.does_intro rfl (fun Kq hK => ?_)
            have e17 : act.tmps[17]?.getD undef = .pointer (some ⟨b1, o1 + j * 6, none⟩) := hk.v 17 (by kernel_rfl)
            have g0 := Ext.cell ((Ext.drew wr).trans hk.ext) ((kcx.out) 0 _ rfl)
            rw [Nat.add_zero] at g0
            clear hk
            go_simp
            exact hK _ _ (Ext.refl _) (fun d hd => by cases hd; first | rfl | (simp [SP.eq]; omega) | (simp [SP.eq, hne]))
          · intro act W2 hk
            refine Flow.does_intro rfl (fun Kq hK => ?_)
            have e3 : act.tmps[3]?.getD undef = .pointer (some ⟨pA + 1, 0, none⟩) := hk.o 3 (by kernel_rfl)
            clear hk
            go_simp
            exact hK _ _ (Ext.refl _) (fun d hd => by cases hd; rfl)
          · intro act W2 hk
            refine Flow.does_intro rfl (fun Kq hK => ?_)
            have e19 : act.tmps[19]?.getD undef = .pointer (some ⟨pA + 1, 0, none⟩) := hk.v 19 (by kernel_rfl)
            have g := ((qB.out).ext ((Ext.drew wr).trans hk.ext)).cell
            clear hk
            go_simp
            exact hK _ _ (Ext.refl _) (fun d hd => by cases hd; first | rfl | (simp [SP.eq]; omega) | (simp [SP.eq, hne]))
          · intro act W2 hk
            refine Flow.does_intro rfl (fun Kq hK => ?_)
            have e18 : act.tmps[18]?.getD undef = .string x.name := hk.v 18 (by kernel_rfl)
            have e20 : act.tmps[20]?.getD undef = .string x.name := hk.v 20 (by kernel_rfl)
            clear hk
            go_simp
            exact hK _ _ (Ext.refl _) (fun d hd => by cases hd; first | rfl | (simp [SP.eq]; omega) | (simp [SP.eq, hne]))
          · intro act W2 hk
            refine Flow.does_intro rfl (fun Kq hK => ?_)
            have e21 : act.tmps[21]?.getD undef = .bool true := hk.v 21 (by kernel_rfl)
            clear hk
            go_simp
            exact hK _ _ (Ext.refl _) (fun d hd => by cases hd; rfl)
          · intro act W2 hk
            have eg : act.tmps[22]?.getD undef = .bool true := hk.v 22 (by kernel_rfl)
            refine Flow.does_intro (wanted_yes rfl rfl eg) (fun Kq hK => ?_)
            clear eg
            have e2 : act.tmps[2]?.getD undef = .pointer (some ⟨pA, 0, none⟩) := hk.o 2 (by kernel_rfl)
            clear hk
            go_simp
            exact hK _ _ (Ext.refl _) (fun d hd => by cases hd; rfl)
          · intro act W2 hk
            have eg : act.tmps[22]?.getD undef = .bool true := hk.v 22 (by kernel_rfl)
            refine Flow.does_intro (wanted_yes rfl rfl eg) (fun Kq hK => ?_)
            clear eg
            have e23 : act.tmps[23]?.getD undef = .pointer (some ⟨pA, 5, none⟩) := hk.v 23 (by kernel_rfl)
            have g := ((qA.out).ext ((Ext.drew wr).trans hk.ext)).cell
            clear hk
            go_simp
            exact hK _ _ (Ext.refl _) (fun d hd => by cases hd; rfl)
          · intro act W2 hk
            have eg : act.tmps[22]?.getD undef = .bool true := hk.v 22 (by kernel_rfl)
            refine Flow.does_intro (wanted_yes rfl rfl eg) (fun Kq hK => ?_)
            clear eg
            have e5 : act.tmps[5]?.getD undef = .int .i64 (j : Nat) := hk.o 5 (by kernel_rfl)
            clear hk
            go_simp
            exact hK _ _ (Ext.refl _) (fun d hd => by cases hd; rfl)
          · intro act W2 hk
            have eg : act.tmps[22]?.getD undef = .bool true := hk.v 22 (by kernel_rfl)
            refine Flow.does_intro (wanted_yes rfl rfl eg) (fun Kq hK => ?_)
            clear eg
            have e24 : act.tmps[24]?.getD undef = .slice (some ⟨b1, o1, none⟩) a.kids.length c1 := hk.v 24 (by kernel_rfl)
            have e25 : act.tmps[25]?.getD undef = .int .i64 (j : Nat) := hk.v 25 (by kernel_rfl)
            clear hk
            go_simp
            exact hK _ _ (Ext.refl _) (fun d hd => by cases hd; rfl)
          · intro act W2 hk
            have eg : act.tmps[22]?.getD undef = .bool true := hk.v 22 (by kernel_rfl)
            refine Flow.does_intro (wanted_yes rfl rfl eg) (fun Kq hK => ?_)
            clear eg
            have e26 : act.tmps[26]?.getD undef = .pointer (some ⟨b1, o1 + j * 6, none⟩) := hk.v 26 (by kernel_rfl)
            clear hk
            go_simp
            exact hK _ _ (Ext.refl _) (fun d hd => by cases hd; rfl)
          · intro act W2 hk
            have eg : act.tmps[22]?.getD undef = .bool true := hk.v 22 (by kernel_rfl)
            refine Flow.does_intro (wanted_yes rfl rfl eg) (fun Kq hK => ?_)
            clear eg
            have e27 : act.tmps[27]?.getD undef = .pointer (some ⟨b1, o1 + j * 6 + 1, none⟩) := hk.v 27 (by kernel_rfl)
            have g1 := Ext.cell ((Ext.drew wr).trans hk.ext) ((kcx.out) 1 _ rfl)
            clear hk
            go_simp
            exact hK _ _ (Ext.refl _) (fun d hd => by cases hd; first | rfl | (simp [SP.eq]; omega) | (simp [SP.eq, hne]))
          · intro act W2 hk
            have eg : act.tmps[22]?.getD undef = .bool true := hk.v 22 (by kernel_rfl)
            refine Flow.does_intro (wanted_yes rfl rfl eg) (fun Kq hK => ?_)
            clear eg
            have e3 : act.tmps[3]?.getD undef = .pointer (some ⟨pA + 1, 0, none⟩) := hk.o 3 (by kernel_rfl)
            clear hk
            go_simp
            exact hK _ _ (Ext.refl _) (fun d hd => by cases hd; rfl)
          · intro act W2 hk
            have eg : act.tmps[22]?.getD undef = .bool true := hk.v 22 (by kernel_rfl)
            refine Flow.does_intro (wanted_yes rfl rfl eg) (fun Kq hK => ?_)
            clear eg
            have e29 : act.tmps[29]?.getD undef = .pointer (some ⟨pA + 1, 1, none⟩) := hk.v 29 (by kernel_rfl)
            have g := ((qB.out).ext ((Ext.drew wr).trans hk.ext)).cell
            clear hk
            go_simp
            exact hK _ _ (Ext.refl _) (fun d hd => by cases hd; first | rfl | (simp [SP.eq]; omega) | (simp [SP.eq, hne]))
          · intro act W2 hk
            have eg : act.tmps[22]?.getD undef = .bool true := hk.v 22 (by kernel_rfl)
            refine Flow.does_intro (wanted_yes rfl rfl eg) (fun Kq hK => ?_)
            clear eg
            have e28 : act.tmps[28]?.getD undef = .string x.key := hk.v 28 (by kernel_rfl)
            have e30 : act.tmps[30]?.getD undef = .string s2 := hk.v 30 (by kernel_rfl)
            clear hk
            go_simp
            exact hK _ _ (Ext.refl _) (fun d hd => by cases hd; first | rfl | (simp [SP.eq]; omega) | (simp [SP.eq, hne]))
          · intro act W2 hk
            refine Flow.does_intro rfl (fun Kq hK => ?_)
            have e22 : act.tmps[22]?.getD undef = .bool true := hk.v 22 (by kernel_rfl)
            have e31 : act.tmps[31]?.getD undef = .bool false := hk.v 31 (by kernel_rfl)
            clear hk
            go_simp
            exact hK _ _ (Ext.refl _) (fun d hd => by cases hd; rfl)
        · intro act W2 he
          have hxW2 := Hd.mk ((Ext.drew wr).trans he.ext)
          obtain ⟨us, hA, hF⟩ := he.out [13, 14, 15, 16, 17, 18, 19, 20, 21, 22, 23, 24, 25, 26, 27, 28, 29, 30, 31, 32] (by kernel_rfl)
          simp only [Flow.fillL, List.contains_cons, List.contains_nil, Nat.reduceBEq, Bool.or_false, Bool.false_or, Bool.or_true, Bool.true_or, ↓reduceIte, Nat.reduceAdd, Bool.false_eq_true] at hA
          subst hA
          have f32 : us 32 = .bool false := hF 32 (by simp)
          clear hF he
          rw [f32]
          clear f32
          refine (show wpList _ _ _ [] _ _ from ?_)
          go_wp2_with fail
          go_roundg (a.kids.length + 1 - (j + 1))
          case measure => have := hq.out; omega
          case rel => exact ⟨j + 1, by omega, ⟨rfl⟩, by go_num, hr0, ⟨hxr.out.trans hxW2.out⟩, ⟨qA.out.ext hxW2.out⟩, ⟨qB.out.ext hxW2.out⟩⟩
    · have hr0 : r = findAt (a.kids.drop (j + 1)) (s1, s2) (j + 1) := by rw [hI.out, hst.out, if_neg (fun e => h1 (congrArg Prod.fst e))]
      replace hr0 := Hd.mk hr0
      have hne := str_ne h1
      clear h1
      refine Flow.wp_region_flow_l (fun qq => match qq with
        | 13 => SP.eq (.pointer (some ⟨pA, 5, none⟩))
        | 14 => SP.eq (.slice (some ⟨b1, o1, none⟩) a.kids.length c1)
        | 15 => SP.eq (.int .i64 (j : Nat))
        | 16 => SP.eq (.pointer (some ⟨b1, o1 + j * 6, none⟩))
        | 17 => SP.eq (.pointer (some ⟨b1, o1 + j * 6, none⟩))
        | 18 => SP.eq (.string x.name)
        | 19 => SP.eq (.pointer (some ⟨pA + 1, 0, none⟩))
        | 20 => SP.eq (.string s1)
        | 21 => SP.eq (.bool false)
        | 22 => SP.eq (.bool false)
        | 23 => SP.eq (undef)
        | 24 => SP.eq (undef)
        | 25 => SP.eq (undef)
        | 26 => SP.eq (undef)
        | 27 => SP.eq (undef)
        | 28 => SP.eq (undef)
        | 29 => SP.eq (undef)
        | 30 => SP.eq (undef)
        | 31 => SP.eq (undef)
        | 32 => SP.eq (.bool false)
        | _ => SP.any) 20 (by kernel_rfl) 34 rfl (by kernel_rfl) ?_ ?_
      · skip
        refine ⟨?_, ?_, ?_, ?_, ?_, ?_, ?_, ?_, ?_, ?_, ?_, ?_, ?_, ?_, ?_, ?_, ?_, ?_, ?_, ?_, trivial⟩
        · intro act W2 hk
          refine Flow.does_intro rfl (fun Kq hK => ?_)
          have e2 : act.tmps[2]?.getD undef = .pointer (some ⟨pA, 0, none⟩) := hk.o 2 (by kernel_rfl)
          clear hk
          go_simp
          exact hK _ _ (Ext.refl _) (fun d hd => by cases hd; rfl)
        · intro act W2 hk
          refine Flow.does_intro rfl (fun Kq hK => ?_)
          have e13 : act.tmps[13]?.getD undef = .pointer (some ⟨pA, 5, none⟩) := hk.v 13 (by kernel_rfl)
          have g := ((qA.out).ext ((Ext.drew wr).trans hk.ext)).cell
          clear hk
          go_simp
          exact hK _ _ (Ext.refl _) (fun d hd => by cases hd; rfl)
        · intro act W2 hk
          refine Flow.does_intro rfl (fun Kq hK => ?_)
          have e5 : act.tmps[5]?.getD undef = .int .i64 (j : Nat) := hk.o 5 (by kernel_rfl)
          clear hk
          go_simp
          exact hK _ _ (Ext.refl _) (fun d hd => by cases hd; rfl)
        · intro act W2 hk
          refine Flow.does_intro rfl (fun Kq hK => ?_)
          have e14 : act.tmps[14]?.getD undef = .slice (some ⟨b1, o1, none⟩) a.kids.length c1 := hk.v 14 (by kernel_rfl)
          have e15 : act.tmps[15]?.getD undef = .int .i64 (j : Nat) := hk.v 15 (by kernel_rfl)
          clear hk
          go_simp
          exact hK _ _ (Ext.refl _) (fun d hd => by cases hd; rfl)
        · intro act W2 hk
          refine Flow.does_intro rfl (fun Kq hK => ?_)
          have e16 : act.tmps[16]?.getD undef = .pointer (some ⟨b1, o1 + j * 6, none⟩) := hk.v 16 (by kernel_rfl)
          clear hk
          go_simp
          exact hK _ _ (Ext.refl _) (fun d hd => by cases hd; rfl)
        · intro act W2 hk
          refine Flow.does_intro rfl (fun Kq hK => ?_)
          have e17 : act.tmps[17]?.getD undef = .pointer (some ⟨b1, o1 + j * 6, none⟩) := hk.v 17 (by kernel_rfl)
          have g0 := Ext.cell ((Ext.drew wr).trans hk.ext) ((kcx.out) 0 _ rfl)
          rw [Nat.add_zero] at g0
          clear hk
          go_simp
          exact hK _ _ (Ext.refl _) (fun d hd => by cases hd; first | rfl | (simp [SP.eq]; omega) | (simp [SP.eq, hne]))
        · intro act W2 hk
          refine Flow.does_intro rfl (fun Kq hK => ?_)
          have e3 : act.tmps[3]?.getD undef = .pointer (some ⟨pA + 1, 0, none⟩) := hk.o 3 (by kernel_rfl)
          clear hk
          go_simp
          exact hK _ _ (Ext.refl _) (fun d hd => by cases hd; rfl)
        · intro act W2 hk
          refine Flow.does_intro rfl (fun Kq hK => ?_)
          have e19 : act.tmps[19]?.getD undef = .pointer (some ⟨pA + 1, 0, none⟩) := hk.v 19 (by kernel_rfl)
          have g := ((qB.out).ext ((Ext.drew wr).trans hk.ext)).cell
          clear hk
          go_simp
          exact hK _ _ (Ext.refl _) (fun d hd => by cases hd; first | rfl | (simp [SP.eq]; omega) | (simp [SP.eq, hne]))
        · intro act W2 hk
          refine Flow.does_intro rfl (fun Kq hK => ?_)
          have e18 : act.tmps[18]?.getD undef = .string x.name := hk.v 18 (by kernel_rfl)
          have e20 : act.tmps[20]?.getD undef = .string s1 := hk.v 20 (by kernel_rfl)
          clear hk
          go_simp
          exact hK _ _ (Ext.refl _) (fun d hd => by cases hd; first | rfl | (simp [SP.eq]; omega) | (simp [SP.eq, hne]))
        · intro act W2 hk
          refine Flow.does_intro rfl (fun Kq hK => ?_)
          have e21 : act.tmps[21]?.getD undef = .bool false := hk.v 21 (by kernel_rfl)
          clear hk
          go_simp
          exact hK _ _ (Ext.refl _) (fun d hd => by cases hd; rfl)
        · intro act W2 hk
          have eg : act.tmps[22]?.getD undef = .bool false := hk.v 22 (by kernel_rfl)
          exact Flow.does_skip (wanted_no rfl rfl eg) (fun d hd => by cases hd; rfl)
        · intro act W2 hk
          have eg : act.tmps[22]?.getD undef = .bool false := hk.v 22 (by kernel_rfl)
          exact Flow.does_skip (wanted_no rfl rfl eg) (fun d hd => by cases hd; rfl)
        · intro act W2 hk
          have eg : act.tmps[22]?.getD undef = .bool false := hk.v 22 (by kernel_rfl)
          exact Flow.does_skip (wanted_no rfl rfl eg) (fun d hd => by cases hd; rfl)
        · intro act W2 hk
          have eg : act.tmps[22]?.getD undef = .bool false := hk.v 22 (by kernel_rfl)
          exact Flow.does_skip (wanted_no rfl rfl eg) (fun d hd => by cases hd; rfl)
        · intro act W2 hk
          have eg : act.tmps[22]?.getD undef = .bool false := hk.v 22 (by kernel_rfl)
          exact Flow.does_skip (wanted_no rfl rfl eg) (fun d hd => by cases hd; rfl)
        · intro act W2 hk
          have eg : act.tmps[22]?.getD undef = .bool false := hk.v 22 (by kernel_rfl)
          exact Flow.does_skip (wanted_no rfl rfl eg) (fun d hd => by cases hd; rfl)
        · intro act W2 hk
          have eg : act.tmps[22]?.getD undef = .bool false := hk.v 22 (by kernel_rfl)
          exact Flow.does_skip (wanted_no rfl rfl eg) (fun d hd => by cases hd; rfl)
        · intro act W2 hk
          have eg : act.tmps[22]?.getD undef = .bool false := hk.v 22 (by kernel_rfl)
          exact Flow.does_skip (wanted_no rfl rfl eg) (fun d hd => by cases hd; rfl)
        · intro act W2 hk
          have eg : act.tmps[22]?.getD undef = .bool false := hk.v 22 (by kernel_rfl)
          exact Flow.does_skip (wanted_no rfl rfl eg) (fun d hd => by cases hd; rfl)
        · intro act W2 hk
          refine Flow.does_intro rfl (fun Kq hK => ?_)
          have e22 : act.tmps[22]?.getD undef = .bool false := hk.v 22 (by kernel_rfl)
          clear hk
          go_simp
          exact hK _ _ (Ext.refl _) (fun d hd => by cases hd; rfl)
      · intro act W2 he
        have hxW2 := Hd.mk ((Ext.drew wr).trans he.ext)
        obtain ⟨us, hA, hF⟩ := he.out [13, 14, 15, 16, 17, 18, 19, 20, 21, 22, 23, 24, 25, 26, 27, 28, 29, 30, 31, 32] (by kernel_rfl)
        simp only [Flow.fillL, List.contains_cons, List.contains_nil, Nat.reduceBEq, Bool.or_false, Bool.false_or, Bool.or_true, Bool.true_or, ↓reduceIte, Nat.reduceAdd, Bool.false_eq_true] at hA
        subst hA
        have f32 : us 32 = .bool false := hF 32 (by simp)
        clear hF he
        rw [f32]
        clear f32
        refine (show wpList _ _ _ [] _ _ from ?_)
        go_wp2_with fail
        go_roundg (a.kids.length + 1 - (j + 1))
        case measure => have := hq.out; omega
        case rel => exact ⟨j + 1, by omega, ⟨rfl⟩, by go_num, hr0, ⟨hxr.out.trans hxW2.out⟩, ⟨qA.out.ext hxW2.out⟩, ⟨qB.out.ext hxW2.out⟩⟩
  · have hjl : j = a.kids.length := by omega
    subst hjl
    have hr0 : r = -1 := by rw [hI.out, List.drop_length]; rfl
    subst hr0
    go_wp2_with fail
    go_ret
    exact ⟨rfl, hxr.out⟩
theorem less_ne {x y : T} (h : lessT x y = true) : stepT x ≠ stepT y := fun e => by
  have := (lessT_step (z := y) e).1
  rw [h, lessT_irr] at this
  cases this
end Go.Proofs.Ytgkgedjmnbjalaa
