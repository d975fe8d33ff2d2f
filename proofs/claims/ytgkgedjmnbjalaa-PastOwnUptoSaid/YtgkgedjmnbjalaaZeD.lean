/- Texts that the law needs, joined.
   Conditions: none. -/
import Derived.Test.YtgkgedjmnbjalaaZeC
set_option linter.unusedSimpArgs false
namespace Go.Proofs.Ytgkgedjmnbjalaa
open Go.RowKit Go.Sort
theorem own_slice {w : World} {base : Nat} {e : TypeId} {sz n : Nat} {v : Value} {xs : List Value} (h : w.ownsRow base e sz v n xs) :
    ∃ A cap, v = .slice A n cap ∧ n ≤ cap ∧ (A = none → cap = 0) ∧ (0 < n → ∃ g sp, A = some ⟨g, 0, none⟩ ∧ base ≤ g ∧ Blk w g (xs ++ sp) e) := by
  rcases Nat.eq_zero_or_pos n with h0 | h0
  · subst h0
    rcases h.2 with ⟨h1, _⟩ | ⟨g, cap, cur, hv, hb, hg, hc, hm, hs, ht⟩
    · exact ⟨none, 0, h1, Nat.le_refl _, fun _ => rfl, fun h => absurd h (Nat.lt_irrefl _)⟩
    · exact ⟨some ⟨g, 0, none⟩, cap, hv, Nat.zero_le _, fun h => (by cases h), fun h => absurd h (Nat.lt_irrefl _)⟩
  · obtain ⟨g, cap, sp, hv, hb, hg, hc, _⟩ := own_form h h0
    exact ⟨some ⟨g, 0, none⟩, cap, hv, hc, fun h => (by cases h), fun _ => ⟨g, sp, rfl, hb, hg⟩⟩
theorem set6 {w : World} {g o : Nat} {cs : List Value} {t : TypeId} (h : Blk w g cs t) (ho : o + 6 ≤ cs.length) (a0 a1 a2 a3 a4 a5 : Value) :
    ∃ cs', Blk ((((((w.setCell ⟨g, o, none⟩ a0).setCell ⟨g, o + 1, none⟩ a1).setCell ⟨g, o + 2, none⟩ a2).setCell ⟨g, o + 3, none⟩ a3).setCell ⟨g, o + 4, none⟩ a4).setCell ⟨g, o + 5, none⟩ a5) g cs' t ∧
      Upd w ((((((w.setCell ⟨g, o, none⟩ a0).setCell ⟨g, o + 1, none⟩ a1).setCell ⟨g, o + 2, none⟩ a2).setCell ⟨g, o + 3, none⟩ a3).setCell ⟨g, o + 4, none⟩ a4).setCell ⟨g, o + 5, none⟩ a5) g ∧
      cs'.length = cs.length ∧ (∀ p, p < o ∨ o + 6 ≤ p → cs'[p]? = cs[p]?) ∧ ∀ q v, [a0, a1, a2, a3, a4, a5][q]? = some v → cs'[o + q]? = some v := by
  refine ⟨_, (((((h.setCell o a0).setCell (o + 1) a1).setCell (o + 2) a2).setCell (o + 3) a3).setCell (o + 4) a4).setCell (o + 5) a5,
    (((((Upd.setCell w ⟨g, o, none⟩ a0).trans (Upd.setCell _ ⟨g, o + 1, none⟩ a1)).trans (Upd.setCell _ ⟨g, o + 2, none⟩ a2)).trans (Upd.setCell _ ⟨g, o + 3, none⟩ a3)).trans (Upd.setCell _ ⟨g, o + 4, none⟩ a4)).trans (Upd.setCell _ ⟨g, o + 5, none⟩ a5), by simp, fun p hp => ?_, fun q v hq => ?_⟩
  · rw [List.getElem?_set_ne (by omega), List.getElem?_set_ne (by omega), List.getElem?_set_ne (by omega), List.getElem?_set_ne (by omega), List.getElem?_set_ne (by omega), List.getElem?_set_ne (by omega)]
  · match q, hq with
    | 0, hq => simp at hq; subst hq; show (_ : List Value)[o]? = _; rw [List.getElem?_set_ne (by omega), List.getElem?_set_ne (by omega), List.getElem?_set_ne (by omega), List.getElem?_set_ne (by omega), List.getElem?_set_ne (by omega), List.getElem?_set_self (by omega)]
    | 1, hq => simp at hq; subst hq; rw [List.getElem?_set_ne (by omega), List.getElem?_set_ne (by omega), List.getElem?_set_ne (by omega), List.getElem?_set_ne (by omega), List.getElem?_set_self (by simp only [List.length_set]; omega)]
    | 2, hq => simp at hq; subst hq; rw [List.getElem?_set_ne (by omega), List.getElem?_set_ne (by omega), List.getElem?_set_ne (by omega), List.getElem?_set_self (by simp only [List.length_set]; omega)]
    | 3, hq => simp at hq; subst hq; rw [List.getElem?_set_ne (by omega), List.getElem?_set_ne (by omega), List.getElem?_set_self (by simp only [List.length_set]; omega)]
    | 4, hq => simp at hq; subst hq; rw [List.getElem?_set_ne (by omega), List.getElem?_set_self (by simp only [List.length_set]; omega)]
    | 5, hq => simp at hq; subst hq; rw [List.getElem?_set_self (by simp only [List.length_set]; omega)]
    | q + 6, hq => simp at hq
def spT (k : T) (B : Nat) : SP := ⟨fun v w => ∃ c : List Value, v = .agg c.toArray ∧ RT (B ≤ ·) w k c, fun _ _ _ h ⟨c, e, hr⟩ => ⟨c, e, hr.ext h⟩⟩
def Turned (S : Nat → Prop) (w : World) (kids : List T) (A : Option Addr) (j : Nat) (B : Nat) (wr : World) : Prop :=
  0 < kids.length → ∃ g cs, A = some ⟨g, 0, none⟩ ∧ B ≤ g ∧ Blk wr g cs 54 ∧ kids.length * 6 ≤ cs.length ∧
    ∀ i k, kids[i]? = some k → ∃ d, (∀ q v, d[q]? = some v → cs[i * 6 + q]? = some v) ∧ (i < j → RT (g < ·) wr k d) ∧ (j ≤ i → RT S w k d)
theorem Turned.ext {S : Nat → Prop} {w wr w' : World} {kids : List T} {A : Option Addr} {j B : Nat} (hx : Ext wr w') (h : Turned S w kids A j B wr) : Turned S w kids A j B w' := fun hp => by
  obtain ⟨g, cs, h1, h2, h3, h4, h5⟩ := h hp
  refine ⟨g, cs, h1, h2, h3.ext hx, h4, fun i k hi => ?_⟩
  obtain ⟨d, d1, d2, d3⟩ := h5 i k hi
  exact ⟨d, d1, fun hh => (d2 hh).ext hx, d3⟩
theorem RT.upd {S : Nat → Prop} {w w' : World} {g : Nat} (hu : Upd w w' g) (hs : ¬ S g) {t : T} {c : List Value} (h : RT S w t c) : RT S w' t c :=
  h.keep fun b off v hb hc => ⟨hb, by
    have hne : b ≠ g := fun e => hs (e ▸ hb)
    have : w'.cell? ⟨b, off, none⟩ = w.cell? ⟨b, off, none⟩ := World.cell?_of_block (hu.block b hne)
    rw [this]; exact hc⟩
theorem Turned.upd {S : Nat → Prop} {w wr w' : World} {kids : List T} {A : Option Addr} {j B p : Nat} (hu : Upd wr w' p) (hp : p < B) (h : Turned S w kids A j B wr) : Turned S w kids A j B w' := fun hpos => by
  obtain ⟨g, cs, h1, h2, h3, h4, h5⟩ := h hpos
  refine ⟨g, cs, h1, h2, hu.blk (by omega) h3, h4, fun i k hi => ?_⟩
  obtain ⟨d, d1, d2, d3⟩ := h5 i k hi
  exact ⟨d, d1, fun hh => (d2 hh).upd hu (by omega), d3⟩
theorem Turned.step {S : Nat → Prop} {w wr w' : World} {kids : List T} {j B g : Nat} {cs cs' : List Value} {k : T} {d : List Value} (hk : kids[j]? = some k) (h : Turned S w kids (some ⟨g, 0, none⟩) j B wr)
    (hcs : Blk wr g cs 54) (hu : Upd wr w' g) (hb : Blk w' g cs' 54) (hl : cs'.length = cs.length) (ho : ∀ p, p < j * 6 ∨ j * 6 + 6 ≤ p → cs'[p]? = cs[p]?) (hd : ∀ q v, d[q]? = some v → cs'[j * 6 + q]? = some v) (hr : RT (g < ·) wr k d) :
    Turned S w kids (some ⟨g, 0, none⟩) (j + 1) B w' := fun hpos => by
  obtain ⟨g', cs0, h1, h2, h3, h4, h5⟩ := h hpos
  simp only [Option.some.injEq, Addr.mk.injEq, and_true] at h1
  subst h1
  obtain rfl := h3.inj hcs
  refine ⟨g, cs', rfl, h2, hb, by rw [hl]; exact h4, fun i x hi => ?_⟩
  by_cases hij : i = j
  · subst hij
    rw [hk] at hi
    cases hi
    exact ⟨d, hd, fun _ => hr.upd hu (Nat.lt_irrefl _), fun h => absurd h (by omega)⟩
  · obtain ⟨e, d1, d2, d3⟩ := h5 i x hi
    have h6 : e.length = 6 := by
      by_cases hlt : i < j
      · exact (d2 hlt).len
      · exact (d3 (by omega)).len
    refine ⟨e, fun q v hv => ?_, fun hh => (d2 (by omega)).upd hu (Nat.lt_irrefl _), fun hh => d3 (by omega)⟩
    have hq := (List.getElem?_eq_some_iff.1 hv).1
    rw [ho _ (by omega)]
    exact d1 q v hv
theorem Turned.row {S : Nat → Prop} {w wr : World} {kids : List T} {A : Option Addr} {B cap : Nat} (hl : kids.length ≤ 1048576) (hc : kids.length ≤ cap) (hn : A = none → cap = 0) (h : Turned S w kids A kids.length B wr) : RRow (B ≤ ·) wr A kids cap := by
  refine ⟨hc, hl, hn, fun i k hi => ?_⟩
  have hlt := (List.getElem?_eq_some_iff.1 hi).1
  obtain ⟨g, cs, h1, h2, h3, h4, h5⟩ := h (by omega)
  obtain ⟨d, d1, d2, _⟩ := h5 i k hi
  refine ⟨g, 0, d, h1, h2, (d2 hlt).mono (fun b _ hb => by omega), fun q v hv => ?_⟩
  rw [h3.cell, Nat.zero_add]
  exact d1 q v hv
theorem Turned.start {S : Nat → Prop} {w wr : World} {kids : List T} {css : List (List Value)} {A : Option Addr} {B : Nat} (h1 : css.length = kids.length) (h2 : ∀ c ∈ css, c.length = 6) (h3 : ∀ (i : Nat) k c, kids[i]? = some k → css[i]? = some c → RT S w k c)
    (h4 : 0 < kids.length → ∃ g sp, A = some ⟨g, 0, none⟩ ∧ B ≤ g ∧ Blk wr g (css.flatten ++ sp) 54) : Turned S w kids A 0 B wr := fun hpos => by
  obtain ⟨g, sp, e1, e2, e3⟩ := h4 hpos
  refine ⟨g, _, e1, e2, e3, by rw [List.length_append, flatten_len css h2, h1]; omega, fun i k hi => ?_⟩
  have hlt : i < css.length := by rw [h1]; exact (List.getElem?_eq_some_iff.1 hi).1
  refine ⟨css[i], fun q v hv => ?_, fun h => absurd h (by omega), fun _ => h3 i k _ hi (List.getElem?_eq_getElem hlt)⟩
  have := flatten_get css h2 i _ (List.getElem?_eq_getElem hlt) q v hv
  rw [List.getElem?_append_left (List.getElem?_eq_some_iff.1 this).1]
  exact this
def ClPost (t : T) (w w' : World) (v : Value) : Prop := ∃ c : List Value, v = .agg c.toArray ∧ RT (w.heap.size ≤ ·) w' t c ∧ Ext w w'
set_option maxRecDepth 100000 in
set_option maxHeartbeats 4000000 in
theorem tree_clone : ∀ (N : Nat) (t : T) (S : Nat → Prop) (w : World) (c : List Value), t.deep ≤ N → RT S w t c → Calls Try.prog 114 #[.agg c.toArray] w (Ret (ClPost t w))
  | 0, t, S, w, c, hn, _ => by rw [t.deep_eq] at hn; omega
  | N + 1, t, S, w, c, hn, h => by
    obtain ⟨K, kc, rfl, hrow⟩ := h.row
    have kn := Hd.mk (show deepL t.kids ≤ N by rw [T.deep_eq] at hn; omega)
    have ih := Hd.mk (tree_clone N)
    have hlb := hrow.len
    have kr := Hd.mk hrow
    clear hrow h hn
    simp only [cT]
    go_enter Try.func114, Try.ntmps114
    go_wp2_with fail
    have kx := Hd.mk ((Ext.alloc w (.cells #[.string t.name, .string t.key, .int .i64 t.kind, .int .u64 t.num, .string t.text, .slice K t.kids.length kc] 54)).trans (Ext.alloc _ (.cells #[.string ⟨#[]⟩, .string ⟨#[]⟩, .int .i64 0, .int .u64 0, .string ⟨#[]⟩, .slice none 0 0] 54)))
    have kA := Hd.mk ((Blk.new w #[.string t.name, .string t.key, .int .i64 t.kind, .int .u64 t.num, .string t.text, .slice K t.kids.length kc] 54).alloc (.cells #[.string ⟨#[]⟩, .string ⟨#[]⟩, .int .i64 0, .int .u64 0, .string ⟨#[]⟩, .slice none 0 0] 54))
    have kR := Hd.mk (Blk.new2 w (.cells #[.string t.name, .string t.key, .int .i64 t.kind, .int .u64 t.num, .string t.text, .slice K t.kids.length kc] 54) #[.string ⟨#[]⟩, .string ⟨#[]⟩, .int .i64 0, .int .u64 0, .string ⟨#[]⟩, .slice none 0 0] 54)
    have hsz := Hd.mk (show ((w.alloc (.cells #[.string t.name, .string t.key, .int .i64 t.kind, .int .u64 t.num, .string t.text, .slice K t.kids.length kc] 54)).alloc (.cells #[.string ⟨#[]⟩, .string ⟨#[]⟩, .int .i64 0, .int .u64 0, .string ⟨#[]⟩, .slice none 0 0] 54)).heap.size = w.heap.size + 2 by simp)
    generalize (w.alloc _).alloc _ = W at *
    refine Calls.mono (clone_nodes kr.out kx.out) ?_
    rintro e w1 ⟨_, rfl, css, h1, h2, h3, hown, hx1⟩
    obtain ⟨A, cap, rfl, hcap, hnul, hrows⟩ := own_slice hown
    rw [hsz.out] at hrows
    have hT0 := Hd.mk (Turned.start (B := w.heap.size + 2) h1 h2 h3 hrows)
    have kA1 := Hd.mk (kA.out.ext hx1)
    have kR1 := Hd.mk (kR.out.ext hx1)
    have kx1 := Hd.mk (kx.out.trans hx1)
    have hcap := Hd.mk hcap
    have hnul := Hd.mk hnul
    clear h1 h2 h3 hown hx1 hrows
    have gA := kA1.out.cell
    have fA := kA1.out.free
    go_wp2_with fail
    have kA2 := Hd.mk (kA1.out.setCell 5 (.slice A t.kids.length cap))
    have hu := Hd.mk (Upd.setCell w1 ⟨w.heap.size, 5, none⟩ (.slice A t.kids.length cap))
    have kR2 := Hd.mk (hu.out.blk (by simp) kR1.out)
    have hT1 := Hd.mk (Turned.upd hu.out (by simp) hT0.out)
    have kx2 := Hd.mk (show Ext w _ from Below.trans kx1.out (hu.out.below (Nat.le_refl _)))
    clear gA fA hu kA1 kR1 kx1 hT0 kA kR
    generalize w1.setCell _ _ = W1 at *
    go_loopg [12] (t.kids.length + 1) (fun q i wr => ∃ j : Nat, j ≤ t.kids.length ∧ Hd (q = t.kids.length + 1 - j) ∧ i = .int .i64 j ∧ Hd (Ext w wr) ∧ Hd (Turned S w t.kids A j (w.heap.size + 2) wr) ∧
      Hd (Blk wr w.heap.size [.string t.name, .string t.key, .int .i64 t.kind, .int .u64 t.num, .string t.text, .slice A t.kids.length cap] 54) ∧ Hd (Blk wr (w.heap.size + 1) [.string ⟨#[]⟩, .string ⟨#[]⟩, .int .i64 0, .int .u64 0, .string ⟨#[]⟩, .slice none 0 0] 54))
    case atStart => exact ⟨0, by omega, ⟨by omega⟩, rfl, kx2, hT1, kA2, kR2⟩
    case round =>
    obtain ⟨j, hj, hq, rfl, hxr, hT, kA, kR⟩ := hrel
    by_cases hlt : j < t.kids.length
    · have hkj := List.getElem?_eq_getElem hlt
      generalize t.kids[j] = k at hkj
      have hkj := Hd.mk hkj
      obtain ⟨g, cs, rfl, hge, hcs, hlen, hall⟩ := hT.out (by omega)
      obtain ⟨d, hd1, _, hd2⟩ := hall j k hkj.out
      have hrk := hd2 (Nat.le_refl _)
      obtain ⟨K', kc', rfl, _⟩ := hrk.row
      have hkd := Hd.mk (show k.deep ≤ N by have := deepL_mem hkj.out; have := kn.out; omega)
      have hcs := Hd.mk hcs
      have hlen := Hd.mk hlen
      have hd1' : ∀ (q : Nat) v, (cT k.name k.key k.kind k.num k.text K' k.kids.length kc')[q]? = some v → wr.cell? ⟨g, j * 6 + q, none⟩ = some v := fun q v hv => by rw [hcs.out.cell]; exact hd1 q v hv
      obtain ⟨e0, e1, e2, e3, e4, e5⟩ := six (Ext.refl wr) hd1'
      have hrk := Hd.mk hrk
      have hglt := Hd.mk hcs.out.lt
      clear hall hd1 hd2 hd1'
      go_wp2_with fail
      have hxb := Hd.mk (Ext.alloc wr (.cells #[.string k.name, .string k.key, .int .i64 k.kind, .int .u64 k.num, .string k.text, .slice K' k.kids.length kc'] 54))
      have kB := Hd.mk (Blk.new wr #[.string k.name, .string k.key, .int .i64 k.kind, .int .u64 k.num, .string k.text, .slice K' k.kids.length kc'] 54)
      have kA' := Hd.mk (kA.out.ext hxb.out)
      have kR' := Hd.mk (kR.out.ext hxb.out)
      have hT' := Hd.mk (hT.out.ext hxb.out)
      have hcs' := Hd.mk (hcs.out.ext hxb.out)
      have hxr' := Hd.mk (hxr.out.trans hxb.out)
      have hrkV := Hd.mk (hrk.out)
      have hgl2 := Hd.mk (Nat.lt_of_lt_of_le hglt.out hxb.out.size)
      clear e0 e1 e2 e3 e4 e5 hxb kA kR hT hcs
      generalize wr.heap.size = pB at *
      generalize wr.alloc _ = V at *
      refine Flow.wp_region_flow_l (fun qq => match qq with
        | 17 => SP.eq (.pointer (some ⟨w.heap.size, 5, none⟩))
        | 18 => SP.eq (.slice (some ⟨g, 0, none⟩) t.kids.length cap)
        | 19 => SP.eq (.int .i64 (j : Nat))
        | 20 => SP.eq (.agg #[.string k.name, .string k.key, .int .i64 k.kind, .int .u64 k.num, .string k.text, .slice K' k.kids.length kc'])
        | 21 => spT k V.heap.size
        | 22 => SP.eq (.pointer (some ⟨g, j * 6, none⟩))
        | _ => SP.any) 6 (by kernel_rfl) 25 rfl (by kernel_rfl) ?_ ?_
      · skip
        refine ⟨?_, ?_, ?_, ?_, ?_, ?_, trivial⟩
        · intro act W2 hk
          refine Flow.does_intro rfl (fun K hK => ?_)
          have e1 : act.tmps[1]?.getD undef = .pointer (some ⟨w.heap.size, 0, none⟩) := hk.o 1 (by kernel_rfl)
          clear hk
          go_simp
          exact hK _ _ (Ext.refl _) (fun d hd => by cases hd; rfl)
        · intro act W2 hk
          refine Flow.does_intro rfl (fun K hK => ?_)
          have e17 : act.tmps[17]?.getD undef = .pointer (some ⟨w.heap.size, 5, none⟩) := hk.v 17 (by kernel_rfl)
          have g := ((kA'.out).ext ((Ext.drew V).trans hk.ext)).cell
          clear hk
          go_simp
          exact hK _ _ (Ext.refl _) (fun d hd => by cases hd; rfl)
        · intro act W2 hk
          refine Flow.does_intro rfl (fun K hK => ?_)
          have e3 : act.tmps[3]?.getD undef = .int .i64 (j : Nat) := hk.o 3 (by kernel_rfl)
          clear hk
          go_simp
          exact hK _ _ (Ext.refl _) (fun d hd => by cases hd; rfl)
        · intro act W2 hk
          refine Flow.does_intro rfl (fun K hK => ?_)
          have e4 : act.tmps[4]?.getD undef = .pointer (some ⟨pB, 0, none⟩) := hk.o 4 (by kernel_rfl)
          have g := ((kB.out).ext ((Ext.drew V).trans hk.ext)).cell
          clear hk
          go_simp
          exact hK _ _ (Ext.refl _) (fun d hd => by cases hd; rfl)
        · intro act W2 hk
          refine Flow.does_intro rfl (fun K hK => ?_)
          have e20 : act.tmps[20]?.getD undef = .agg #[.string k.name, .string k.key, .int .i64 k.kind, .int .u64 k.num, .string k.text, .slice K' k.kids.length kc'] := hk.v 20 (by kernel_rfl)
          have hx0 := Hd.mk ((Ext.drew V).trans hk.ext)
          have hsz0 := hx0.out.size
          clear hk
          go_simp
          refine Calls.mono (ih.out k S W2 _ hkd.out (hrkV.out.ext (hxr'.out.trans hx0.out))) ?_
          rintro e W3 ⟨_, rfl, c', rfl, hr', hx⟩
          exact hK _ _ hx (fun d hd => by cases hd; exact ⟨c', rfl, hr'.mono (fun b _ hb => Nat.le_trans hsz0 hb)⟩)
        · intro act W2 hk
          refine Flow.does_intro rfl (fun K hK => ?_)
          have e18 : act.tmps[18]?.getD undef = .slice (some ⟨g, 0, none⟩) t.kids.length cap := hk.v 18 (by kernel_rfl)
          have e19 : act.tmps[19]?.getD undef = .int .i64 (j : Nat) := hk.v 19 (by kernel_rfl)
          have hlt2 := hlt
          clear hk
          go_simp
          exact hK _ _ (Ext.refl _) (fun d hd => by cases hd; rfl)
      · intro act W2 he
        have hxW2 := Hd.mk ((Ext.drew V).trans he.ext)
        obtain ⟨us, hA, hF⟩ := he.out [17, 18, 19, 20, 21, 22] (by kernel_rfl)
        simp only [Flow.fillL, List.contains_cons, List.contains_nil, Nat.reduceBEq, Bool.or_false, Bool.false_or, Bool.or_true, Bool.true_or, ↓reduceIte, Nat.reduceAdd, Bool.false_eq_true] at hA
        subst hA
        have f21 : (spT k V.heap.size).p (us 21) W2 := hF 21 (by simp)
        have f22 : us 22 = .pointer (some ⟨g, j * 6, none⟩) := hF 22 (by simp)
        clear hF he
        rw [f22]
        clear f22
        obtain ⟨c', ec, hr'⟩ := (f21 : (spT _ _).p _ _)
        generalize us 17 = u17 at *
        generalize us 18 = u18 at *
        generalize us 19 = u19 at *
        generalize us 20 = u20 at *
        generalize us 21 = u21 at *
        subst ec
        obtain ⟨K2, kc2, rfl, _⟩ := hr'.row
        have hr' := Hd.mk hr'
        have hcs2 := Hd.mk (hcs'.out.ext hxW2.out)
        have kA2 := Hd.mk (kA'.out.ext hxW2.out)
        have kR2 := Hd.mk (kR'.out.ext hxW2.out)
        have hT2 := Hd.mk (hT'.out.ext hxW2.out)
        have hxr2 := Hd.mk (hxr'.out.trans hxW2.out)
        have hfr := hcs2.out.free
        have hl6 := hlen.out
        obtain ⟨v0, z0⟩ := cell_some hcs2.out (i := j * 6) (by omega)
        obtain ⟨v1, z1⟩ := cell_some hcs2.out (i := j * 6 + 1) (by omega)
        obtain ⟨v2, z2⟩ := cell_some hcs2.out (i := j * 6 + 2) (by omega)
        obtain ⟨v3, z3⟩ := cell_some hcs2.out (i := j * 6 + 3) (by omega)
        obtain ⟨v4, z4⟩ := cell_some hcs2.out (i := j * 6 + 4) (by omega)
        obtain ⟨v5, z5⟩ := cell_some hcs2.out (i := j * 6 + 5) (by omega)
        simp only [cT]
        refine (show wpList _ _ _ (⟨none, .store 54 (.tmp 22) (.tmp 21), _, _, _, none⟩ :: []) _ _ from ?_)
        go_wp2_with fail
        obtain ⟨cs', q1, q2, q3, q4, q5⟩ := set6 hcs2.out (o := j * 6) (by omega) (.string k.name) (.string k.key) (.int .i64 k.kind) (.int .u64 k.num) (.string k.text) (.slice K2 k.kids.length kc2)
        go_roundg (t.kids.length + 1 - (j + 1))
        case measure => have := hq.out; omega
        case rel => exact ⟨j + 1, by omega, ⟨rfl⟩, by go_num, ⟨Below.trans hxr2.out (q2.below (by omega))⟩, ⟨Turned.step hkj.out hT2.out hcs2.out q2 q1 q3 q4 q5 (hr'.out.mono (fun b _ hb => Nat.lt_of_lt_of_le hgl2.out hb))⟩, ⟨q2.blk (by omega) kA2.out⟩, ⟨q2.blk (by omega) kR2.out⟩⟩
    · have hjl : j = t.kids.length := by omega
      subst hjl
      have gA := kA.out.cell
      have gR := kR.out.cell
      have fR := kR.out.free
      go_wp2_with fail
      have hu := Hd.mk ((((((Upd.setCell wr ⟨w.heap.size + 1, 0, none⟩ (.string t.name)).trans (Upd.setCell _ ⟨w.heap.size + 1, 1, none⟩ (.string t.key))).trans (Upd.setCell _ ⟨w.heap.size + 1, 2, none⟩ (.int .i64 t.kind))).trans (Upd.setCell _ ⟨w.heap.size + 1, 3, none⟩ (.int .u64 t.num))).trans (Upd.setCell _ ⟨w.heap.size + 1, 4, none⟩ (.string t.text))).trans (Upd.setCell _ ⟨w.heap.size + 1, 5, none⟩ (.slice A t.kids.length cap)))
      have hrow := Hd.mk (Turned.row hlb hcap.out hnul.out (hT.out.upd hu.out (show w.heap.size + 1 < w.heap.size + 2 by omega)))
      exact ret_box rfl (w.heap.size + 1) _ 54 _ ((((((kR.out.setCell 0 (.string t.name)).setCell 1 (.string t.key)).setCell 2 (.int .i64 t.kind)).setCell 3 (.int .u64 t.num)).setCell 4 (.string t.text)).setCell 5 (.slice A t.kids.length cap)) rfl rfl Try.underlying54 rfl size54
        ⟨_, rfl, _, rfl, RT.of_row (hrow.out.keep (fun b off v hb hc => ⟨by omega, hc⟩)), Below.trans hxr.out (hu.out.below (Nat.le_succ _))⟩
end Go.Proofs.Ytgkgedjmnbjalaa
set_option linter.unusedSimpArgs false
namespace Go.Proofs.Ytgkgedjmnbjalaa
open Go.RowKit Go.Sort
set_option maxRecDepth 100000 in
set_option maxHeartbeats 1000000 in
theorem at_nil (p : Addr) (w : World) : Calls Try.prog 120 #[.pointer (some p), .slice none 0 0] w fun e w' => e = .returned (.pointer (some p)) ∧ w' = w := by
  go_enter Try.func120, Try.ntmps120
  go_wp2
  go_loopg [0, 10] 1 (fun q p0 i wr => wr = w ∧ p0 = .pointer (some p) ∧ i = .int .i64 0)
  case atStart => exact ⟨rfl, rfl, rfl⟩
  case round =>
  obtain ⟨rfl, rfl, rfl⟩ := hrel
  go_wp2
  go_ret
  exact ⟨rfl, rfl⟩
set_option maxRecDepth 100000 in
set_option maxHeartbeats 2000000 in
theorem get_nil (t : T) (S : Nat → Prop) (w : World) (c : List Value) (h : RT S w t c) :
    Calls Try.prog 68 #[.agg c.toArray, .slice none 0 0] w (Ret fun w' v => ∃ c' : List Value, v = .tuple #[.agg c'.toArray, .bool true] ∧ RT (w.heap.size ≤ ·) w' t c' ∧ Ext w w') := by
  obtain ⟨K, kc, rfl, hrow⟩ := h.row
  have kr := Hd.mk h
  clear hrow h
  simp only [cT] at kr ⊢
  go_enter Try.func68, Try.ntmps68
  go_wp2_with fail
  have kx := Hd.mk ((Ext.alloc w (.cells #[.string t.name, .string t.key, .int .i64 t.kind, .int .u64 t.num, .string t.text, .slice K t.kids.length kc] 54)).trans (Ext.alloc _ (.cells #[.string ⟨#[]⟩, .string ⟨#[]⟩, .int .i64 0, .int .u64 0, .string ⟨#[]⟩, .slice none 0 0] 54)))
  have kA := Hd.mk ((Blk.new w #[.string t.name, .string t.key, .int .i64 t.kind, .int .u64 t.num, .string t.text, .slice K t.kids.length kc] 54).alloc (.cells #[.string ⟨#[]⟩, .string ⟨#[]⟩, .int .i64 0, .int .u64 0, .string ⟨#[]⟩, .slice none 0 0] 54))
  have kR := Hd.mk (Blk.new2 w (.cells #[.string t.name, .string t.key, .int .i64 t.kind, .int .u64 t.num, .string t.text, .slice K t.kids.length kc] 54) #[.string ⟨#[]⟩, .string ⟨#[]⟩, .int .i64 0, .int .u64 0, .string ⟨#[]⟩, .slice none 0 0] 54)
  generalize (w.alloc _).alloc _ = W at *
  refine Calls.mono (at_nil _ _) ?_
  rintro e w1 ⟨rfl, rfl⟩
  have gA := kA.out.cell
  go_wp2_with fail
  refine Calls.mono (tree_clone _ t S _ _ (Nat.le_refl _) (kr.out.ext kx.out)) ?_
  rintro e w1 ⟨_, rfl, c', rfl, hr', hx⟩
  obtain ⟨K2, kc2, rfl, _⟩ := hr'.row
  have hr' := Hd.mk hr'
  have kR1 := Hd.mk (kR.out.ext hx)
  have kx1 := Hd.mk (kx.out.trans hx)
  have hsz := Hd.mk kx.out.size
  have hlt := Hd.mk kR.out.lt
  clear gA kA kR hx
  simp only [cT] at hr' ⊢
  have gR := kR1.out.cell
  have fR := kR1.out.free
  go_wp2_with fail
  have hu := Hd.mk ((((((Upd.setCell w1 ⟨w.heap.size + 1, 0, none⟩ (.string t.name)).trans (Upd.setCell _ ⟨w.heap.size + 1, 1, none⟩ (.string t.key))).trans (Upd.setCell _ ⟨w.heap.size + 1, 2, none⟩ (.int .i64 t.kind))).trans (Upd.setCell _ ⟨w.heap.size + 1, 3, none⟩ (.int .u64 t.num))).trans (Upd.setCell _ ⟨w.heap.size + 1, 4, none⟩ (.string t.text))).trans (Upd.setCell _ ⟨w.heap.size + 1, 5, none⟩ (.slice K2 t.kids.length kc2)))
  exact ret_box2 rfl (w.heap.size + 1) _ 54 _ ((((((kR1.out.setCell 0 (.string t.name)).setCell 1 (.string t.key)).setCell 2 (.int .i64 t.kind)).setCell 3 (.int .u64 t.num)).setCell 4 (.string t.text)).setCell 5 (.slice K2 t.kids.length kc2)) rfl rfl Try.underlying54 rfl size54
    ⟨_, rfl, _, rfl, (hr'.out.upd hu.out (Nat.not_le.2 hlt.out)).mono (fun b _ hb => Nat.le_trans hsz.out hb), Below.trans kx1.out (hu.out.below (Nat.le_succ _))⟩
set_option maxRecDepth 100000 in
set_option maxHeartbeats 2000000 in
theorem diff_clone (t : T) (S : Nat → Prop) (w : World) (c : List Value) (h : RT S w t c) : Calls Try.prog 96 #[.agg c.toArray] w (Ret (ClPost t w)) := by
  obtain ⟨K, kc, rfl, hrow⟩ := h.row
  have kr := Hd.mk h
  clear hrow h
  simp only [cT] at kr ⊢
  go_enter Try.func96, Try.ntmps96
  go_wp2_with fail
  have kx := Hd.mk ((Ext.alloc w (.cells #[.string t.name, .string t.key, .int .i64 t.kind, .int .u64 t.num, .string t.text, .slice K t.kids.length kc] 54)).trans (Ext.alloc _ (.cells #[.string ⟨#[]⟩, .string ⟨#[]⟩, .int .i64 0, .int .u64 0, .string ⟨#[]⟩, .slice none 0 0] 54)))
  have kR := Hd.mk (Blk.new2 w (.cells #[.string t.name, .string t.key, .int .i64 t.kind, .int .u64 t.num, .string t.text, .slice K t.kids.length kc] 54) #[.string ⟨#[]⟩, .string ⟨#[]⟩, .int .i64 0, .int .u64 0, .string ⟨#[]⟩, .slice none 0 0] 54)
  generalize (w.alloc _).alloc _ = W at *
  refine Calls.mono (get_nil t S _ _ (kr.out.ext kx.out)) ?_
  rintro e w1 ⟨_, rfl, c', rfl, hr', hx⟩
  obtain ⟨K2, kc2, rfl, _⟩ := hr'.row
  have hr' := Hd.mk hr'
  have kR1 := Hd.mk (kR.out.ext hx)
  have kx1 := Hd.mk (kx.out.trans hx)
  have hsz := Hd.mk kx.out.size
  have hlt := Hd.mk kR.out.lt
  clear kR hx
  simp only [cT] at hr' ⊢
  have kR2 := Hd.mk (kR1.out.alloc (.cells #[.string t.name, .string t.key, .int .i64 t.kind, .int .u64 t.num, .string t.text, .slice K2 t.kids.length kc2] 54))
  have kx2 := Hd.mk (kx1.out.trans (Ext.alloc w1 (.cells #[.string t.name, .string t.key, .int .i64 t.kind, .int .u64 t.num, .string t.text, .slice K2 t.kids.length kc2] 54)))
  have hr2 := Hd.mk (hr'.out.ext (Ext.alloc w1 (.cells #[.string t.name, .string t.key, .int .i64 t.kind, .int .u64 t.num, .string t.text, .slice K2 t.kids.length kc2] 54)))
  have gR := kR2.out.cell
  have fR := kR2.out.free
  go_wp2_with fail
  have hu := Hd.mk ((((((Upd.setCell (w1.alloc (.cells #[.string t.name, .string t.key, .int .i64 t.kind, .int .u64 t.num, .string t.text, .slice K2 t.kids.length kc2] 54)) ⟨w.heap.size + 1, 0, none⟩ (.string t.name)).trans (Upd.setCell _ ⟨w.heap.size + 1, 1, none⟩ (.string t.key))).trans (Upd.setCell _ ⟨w.heap.size + 1, 2, none⟩ (.int .i64 t.kind))).trans (Upd.setCell _ ⟨w.heap.size + 1, 3, none⟩ (.int .u64 t.num))).trans (Upd.setCell _ ⟨w.heap.size + 1, 4, none⟩ (.string t.text))).trans (Upd.setCell _ ⟨w.heap.size + 1, 5, none⟩ (.slice K2 t.kids.length kc2)))
  exact ret_box rfl (w.heap.size + 1) _ 54 _ ((((((kR2.out.setCell 0 (.string t.name)).setCell 1 (.string t.key)).setCell 2 (.int .i64 t.kind)).setCell 3 (.int .u64 t.num)).setCell 4 (.string t.text)).setCell 5 (.slice K2 t.kids.length kc2)) rfl rfl Try.underlying54 rfl size54
    ⟨_, rfl, _, rfl, (hr2.out.upd hu.out (Nat.not_le.2 hlt.out)).mono (fun b _ hb => Nat.le_trans hsz.out hb), Below.trans kx2.out (hu.out.below (Nat.le_succ _))⟩
end Go.Proofs.Ytgkgedjmnbjalaa
set_option linter.unusedSimpArgs false
namespace Go.Proofs.Ytgkgedjmnbjalaa
open Go.RowKit Go.Sort
abbrev Step := ByteArray × ByteArray
def wcells : List Step → List Value
  | [] => []
  | s :: l => .string s.1 :: .string s.2 :: wcells l
theorem wcells_len : ∀ l : List Step, (wcells l).length = l.length * 2
  | [] => rfl
  | s :: l => by simp [wcells, wcells_len l]; omega
theorem wcells_get : ∀ (l : List Step) (i : Nat) (s : Step), l[i]? = some s → (wcells l)[i * 2]? = some (.string s.1) ∧ (wcells l)[i * 2 + 1]? = some (.string s.2)
  | [], i, s, h => by simp at h
  | x :: l, 0, s, h => by simp at h; subst h; exact ⟨rfl, rfl⟩
  | x :: l, i + 1, s, h => by
    have := wcells_get l i s (by simpa using h)
    rw [show (i + 1) * 2 = i * 2 + 1 + 1 by omega]
    exact this
theorem wcells_append : ∀ (l m : List Step), wcells (l ++ m) = wcells l ++ wcells m
  | [], m => rfl
  | s :: l, m => by simp [wcells, wcells_append l m]
theorem wcells_one : ∀ l : List Step, (wcells l).all (·.oneCell') = true
  | [] => rfl
  | s :: l => by rw [wcells, List.all_cons, List.all_cons, wcells_one l]; rfl
structure WRow (S : Nat → Prop) (w : World) (A : Option Addr) (l : List Step) (c : Nat) : Prop where
  cap : l.length ≤ c
  len : l.length ≤ 1048576
  nul : A = none → c = 0
  row : l ≠ [] → ∃ b off, A = some ⟨b, off, none⟩ ∧ S b ∧ ∀ j v, (wcells l)[j]? = some v → w.cell? ⟨b, off + j, none⟩ = some v
theorem WRow.keep {S S' : Nat → Prop} {w w' : World} (hk : ∀ b off v, S b → w.cell? ⟨b, off, none⟩ = some v → S' b ∧ w'.cell? ⟨b, off, none⟩ = some v) {A : Option Addr} {l : List Step} {c : Nat} (h : WRow S w A l c) : WRow S' w' A l c :=
  ⟨h.cap, h.len, h.nul, fun hn => by
    obtain ⟨b, off, h1, h2, h3⟩ := h.row hn
    refine ⟨b, off, h1, ?_, fun j v hv => (hk b _ v h2 (h3 j v hv)).2⟩
    cases l with
    | nil => exact absurd rfl hn
    | cons s l => exact (hk b _ _ h2 (h3 0 _ rfl)).1⟩
theorem WRow.ext {S : Nat → Prop} {w w' : World} (hx : Ext w w') {A : Option Addr} {l : List Step} {c : Nat} (h : WRow S w A l c) : WRow S w' A l c := h.keep fun _ _ _ hb hc => ⟨hb, Ext.cell hx hc⟩
theorem WRow.mono {S S' : Nat → Prop} {w : World} (hs : ∀ b, b < w.heap.size → S b → S' b) {A : Option Addr} {l : List Step} {c : Nat} (h : WRow S w A l c) : WRow S' w A l c :=
  h.keep fun b _ _ hb hc => ⟨hs b (World.block_lt_of_cell? w _ hc) hb, hc⟩
theorem WRow.nil (S : Nat → Prop) (w : World) (A : Option Addr) (c : Nat) (h : A = none → c = 0) : WRow S w A [] c := ⟨Nat.zero_le _, Nat.zero_le _, h, fun h => absurd rfl h⟩
theorem WRow.of_own {w : World} {base n : Nat} {v : Value} {l : List Step} (hl : l.length ≤ 1048576) (hn : l.length = n) (h : w.ownsRow base 65 2 v n (wcells l)) : ∃ A c, v = .slice A n c ∧ WRow (base ≤ ·) w A l c := by
  subst hn
  obtain ⟨A, c, h1, h2, h3, h4⟩ := own_slice h
  refine ⟨A, c, h1, h2, hl, h3, fun hn => ?_⟩
  obtain ⟨g, sp, e1, e2, e3⟩ := h4 (List.length_pos_iff.2 hn)
  refine ⟨g, 0, e1, e2, fun j v hv => ?_⟩
  rw [e3.cell, Nat.zero_add, List.getElem?_append_left (List.getElem?_eq_some_iff.1 hv).1]
  exact hv
theorem own_base {w : World} {base : Nat} {e : TypeId} {sz n : Nat} {v : Value} {xs : List Value} (h : w.ownsRow base e sz v n xs) : ∀ k, v.ownBlock = some k → base ≤ k := fun k hk => by
  rcases h.2 with ⟨h1, _⟩ | ⟨g, cap, cur, hv, hb, _⟩
  · rw [h1] at hk; simp [Value.ownBlock] at hk
  · rw [hv] at hk; simp [Value.ownBlock] at hk; omega
theorem grownBy_blk' {w w' : World} {row : Option Nat} (hg : w.grownBy w' row) {g : Nat} (hne : some g ≠ row) {cs : List Value} {t : TypeId} (h : Blk w g cs t) : Blk w' g cs t := (hg.block g h.lt hne).trans h
set_option maxRecDepth 100000 in
set_option maxHeartbeats 1000000 in
theorem clone_steps {S : Nat → Prop} {w0 w : World} {K : Option Addr} {l : List Step} {c : Nat} (h : WRow S w0 K l c) (hx0 : Ext w0 w) :
    Calls Try.prog 103 #[.slice K l.length c] w (Ret fun w' v => w'.ownsRow w.heap.size 65 2 v l.length (wcells l) ∧ Ext w w') := by
  have hlen := h.len
  have hnul := h.nul
  have k3 := Hd.mk h.row
  have hfl := Hd.mk (wcells_len l)
  have hone := Hd.mk (wcells_one l)
  have kx0 := Hd.mk hx0
  clear h hx0
  have hq := fun W => Lib.run_eql_slice_nil (P := Try.prog) W 59 65 K l.length c 0 0 Try.underlying59
  cases K with
  | none =>
    have hc := hnul rfl
    subst hc
    simp only [Option.isNone_none] at hq
    have hl0 : l = [] := by
      cases l with
      | nil => rfl
      | cons x l => obtain ⟨b, off, h, _⟩ := k3.out (by simp); cases h
    subst hl0
    clear hnul hlen k3 hfl hone
    simp only [List.length_nil] at hq ⊢
    go_enter Try.func103, Try.ntmps103
    go_wp2_with fail
    go_ret
    exact ⟨_, rfl, ⟨rfl, .inl ⟨rfl, rfl⟩⟩, Ext.refl _⟩
  | some ad =>
    clear hnul
    simp only [Option.isNone_some] at hq
    go_enter Try.func103, Try.ntmps103
    go_wp2_with ((with_reducible refine stop_at (.call { callee := .builtin .append, args := #[.tmp 5, .tmp 6], argTypes := #[59, 59] }) ?_))
    refine Stop.mk ?_
    have hx := Hd.mk (Ext.alloc w (.cells #[] 65))
    have hlt : w.heap.size ≤ (w.alloc (.cells #[] 65)).heap.size := hx.out.size
    refine wpl_append' sl59 (by omega) (by omega) (.tmp 5) (.tmp 6) 7 _ _ _ w.heap.size (.slice (some ⟨w.heap.size, 0, none⟩) 0 0) 0 [] rfl
      (own_new (Nat.le_refl _) (Nat.zero_le _) rfl) ad l.length c (wcells l) rfl hfl.out (fun j u hj => ?_) hone.out (by omega) hlt ?_
    · have hne : l ≠ [] := by
        rintro rfl
        simp [wcells] at hj
      obtain ⟨b, off, he, _, hc⟩ := k3.out hne
      cases he
      rw [addr_add]
      exact Ext.cell (kx0.out.trans hx.out) (hc j u hj)
    intro v' w' hown hgr _
    have hown := Hd.mk hown
    have hgr := Hd.mk hgr
    go_wp2_with fail
    go_ret
    refine ⟨_, rfl, ?_, own_below hx.out hgr.out (Nat.le_refl _) hlt⟩
    have := hown.out
    rw [Nat.zero_add, List.nil_append] at this
    exact this
def spW (l : List Step) (B : Nat) : SP := ⟨fun v w => w.ownsRow B 65 2 v l.length (wcells l), fun _ _ _ h k => own_ext h k⟩
def spRow1 (cs : List Value) (t : TypeId) : SP := ⟨fun v w => ∃ D, v = .slice (some ⟨D, 0, none⟩) 1 1 ∧ Blk w D cs t, fun _ _ _ h ⟨D, e, hb⟩ => ⟨D, e, hb.ext h⟩⟩
def WPost (l : List Step) (w w' : World) (v : Value) : Prop := ∃ A c, v = .slice A l.length c ∧ WRow (w.heap.size ≤ ·) w' A l c ∧ Ext w w'
set_option maxRecDepth 100000 in
set_option maxHeartbeats 2000000 in
theorem diff_on (t : T) (K : Option Addr) (n kc : Nat) {S : Nat → Prop} {w0 w : World} {A : Option Addr} {l : List Step} {c : Nat} (h : WRow S w0 A l c) (hx0 : Ext w0 w) (hl : l.length + 1 ≤ 1048576) :
    Calls Try.prog 95 #[.slice A l.length c, .agg (cT t.name t.key t.kind t.num t.text K n kc).toArray] w (Ret (WPost (l ++ [(t.name, t.key)]) w)) := by
  have hcl := Hd.mk (fun w (hx : Ext w0 w) => clone_steps h hx)
  have kx0 := Hd.mk hx0
  clear h hx0
  simp only [cT]
  go_enter Try.func95, Try.ntmps95
  go_wp2_with fail
  have kA := Hd.mk (Blk.new w #[.string t.name, .string t.key, .int .i64 t.kind, .int .u64 t.num, .string t.text, .slice K n kc] 54)
  have kx := Hd.mk (Ext.alloc w (.cells #[.string t.name, .string t.key, .int .i64 t.kind, .int .u64 t.num, .string t.text, .slice K n kc] 54))
  have hsz := Hd.mk kx.out.size
  generalize hp : w.heap.size = pA at *
  have hp := Hd.mk hp
  generalize w.alloc _ = W at *
  refine Flow.wp_region_flow_l (fun qq => match qq with
    | 5 => SP.eq (.slice A l.length c)
    | 6 => spW l W.heap.size
    | 7 => SP.eq (.pointer (some ⟨pA, 0, none⟩))
    | 8 => SP.eq (.string t.name)
    | 9 => SP.eq (.pointer (some ⟨pA, 1, none⟩))
    | 10 => SP.eq (.string t.key)
    | 11 => SP.eq (.agg #[.string t.name, .string t.key])
    | 12 => spRow1 [.string t.name, .string t.key] 65
    | _ => SP.any) 8 (by kernel_rfl) 14 rfl (by kernel_rfl) ?_ ?_
  · skip
    refine ⟨?_, ?_, ?_, ?_, ?_, ?_, ?_, ?_, trivial⟩
    · intro act W2 hk
      refine Flow.does_intro rfl (fun K hK => ?_)
      have e0 : act.tmps[0]?.getD undef = .slice A l.length c := hk.o 0 (by kernel_rfl)
      clear hk
      go_simp
      exact hK _ _ (Ext.refl _) (fun d hd => by cases hd; rfl)
    · intro act W2 hk
      refine Flow.does_intro rfl (fun K hK => ?_)
      have e5 : act.tmps[5]?.getD undef = .slice A l.length c := hk.v 5 (by kernel_rfl)
      have hx0 := Hd.mk ((Ext.drew W).trans hk.ext)
      have hsz0 := hx0.out.size
      clear hk
      go_simp
      refine Calls.mono (hcl.out _ (kx0.out.trans (kx.out.trans hx0.out))) ?_
      rintro e W3 ⟨v, rfl, hv, hx⟩
      exact hK _ _ hx (fun d hd => by cases hd; exact ⟨hv.1, hv.2.imp id (fun ⟨g, cap, cur, a1, a2, a3⟩ => ⟨g, cap, cur, a1, Nat.le_trans hsz0 a2, a3⟩)⟩)
    · intro act W2 hk
      refine Flow.does_intro rfl (fun K hK => ?_)
      have e3 : act.tmps[3]?.getD undef = .pointer (some ⟨pA, 0, none⟩) := hk.o 3 (by kernel_rfl)
      clear hk
      go_simp
      exact hK _ _ (Ext.refl _) (fun d hd => by cases hd; rfl)
    · intro act W2 hk
      refine Flow.does_intro rfl (fun K hK => ?_)
      have e7 : act.tmps[7]?.getD undef = .pointer (some ⟨pA, 0, none⟩) := hk.v 7 (by kernel_rfl)
      have g := ((kA.out).ext ((Ext.drew W).trans hk.ext)).cell
      clear hk
      go_simp
      exact hK _ _ (Ext.refl _) (fun d hd => by cases hd; rfl)
    · intro act W2 hk
      refine Flow.does_intro rfl (fun K hK => ?_)
      have e3 : act.tmps[3]?.getD undef = .pointer (some ⟨pA, 0, none⟩) := hk.o 3 (by kernel_rfl)
      clear hk
      go_simp
      exact hK _ _ (Ext.refl _) (fun d hd => by cases hd; rfl)
    · intro act W2 hk
      refine Flow.does_intro rfl (fun K hK => ?_)
      have e9 : act.tmps[9]?.getD undef = .pointer (some ⟨pA, 1, none⟩) := hk.v 9 (by kernel_rfl)
      have g := ((kA.out).ext ((Ext.drew W).trans hk.ext)).cell
      clear hk
      go_simp
      exact hK _ _ (Ext.refl _) (fun d hd => by cases hd; rfl)
    · intro act W2 hk
      refine Flow.does_intro rfl (fun K hK => ?_)
      have e8 : act.tmps[8]?.getD undef = .string t.name := hk.v 8 (by kernel_rfl)
      have e10 : act.tmps[10]?.getD undef = .string t.key := hk.v 10 (by kernel_rfl)
      clear hk
      go_simp
      exact hK _ _ (Ext.refl _) (fun d hd => by cases hd; rfl)
    · intro act W2 hk
      refine Flow.does_intro rfl (fun K hK => ?_)
      have e11 : act.tmps[11]?.getD undef = .agg #[.string t.name, .string t.key] := hk.v 11 (by kernel_rfl)
      clear hk
      go_simp
      exact hK _ _ (Ext.alloc _ _) (fun d hd => by cases hd; exact ⟨_, rfl, Blk.new _ _ _⟩)
  · intro act W2 he
    have hxW2 := Hd.mk ((Ext.drew W).trans he.ext)
    obtain ⟨us, hA, hF⟩ := he.out [5, 6, 7, 8, 9, 10, 11, 12] (by kernel_rfl)
    simp only [Flow.fillL, List.contains_cons, List.contains_nil, Nat.reduceBEq, Bool.or_false, Bool.false_or, Bool.or_true, Bool.true_or, ↓reduceIte, Nat.reduceAdd, Bool.false_eq_true] at hA
    subst hA
    have f6 : (spW l W.heap.size).p (us 6) W2 := hF 6 (by simp)
    have f12 : (spRow1 [.string t.name, .string t.key] 65).p (us 12) W2 := hF 12 (by simp)
    clear hF he
    obtain ⟨D, e12, hD⟩ := (f12 : (spRow1 _ _).p _ _)
    have hD := Hd.mk hD
    have hown0 := Hd.mk (show W2.ownsRow W.heap.size 65 2 (us 6) l.length (wcells l) from f6)
    clear f6
    generalize us 5 = u5 at *
    generalize us 6 = u6 at *
    generalize us 7 = u7 at *
    generalize us 8 = u8 at *
    generalize us 9 = u9 at *
    generalize us 10 = u10 at *
    generalize us 11 = u11 at *
    generalize us 12 = u12 at *
    subst e12
    have hW2 := Hd.mk hxW2.out.size
    refine (show wpList _ _ _ (⟨some 13, .call { callee := .builtin .append, args := #[.tmp 6, .tmp 12], argTypes := #[59, 59] }, _, _, _, none⟩ :: _) _ _ from ?_)
    refine wpl_append sl59 (by omega) (by omega) (.tmp 6) (.tmp 12) 13 _ _ _ W.heap.size u6 l.length (wcells l) rfl hown0.out D 0 1 1 [.string t.name, .string t.key] rfl rfl (fun i u hi => by rw [Nat.zero_add, hD.out.cell]; exact hi) rfl (by omega) hW2.out ?_
    intro v' w' hown hgr _
    have hown := Hd.mk hown
    have hgr := Hd.mk hgr
    go_wp2_with fail
    go_ret
    have hx := Below.grown (hxW2.out) hgr.out hW2.out (own_base hown0.out)
    have ho := hown.out
    rw [show wcells l ++ [.string t.name, .string t.key] = wcells (l ++ [(t.name, t.key)]) from (wcells_append l [(t.name, t.key)]).symm] at ho
    obtain ⟨A', c', rfl, hw⟩ := WRow.of_own (l := l ++ [(t.name, t.key)]) (by simpa using hl) (by simp) ho
    exact ⟨_, rfl, A', c', by simp, hw.mono (fun b _ hb => by have := hsz.out; have := hp.out; omega), Ext.trans kx.out hx⟩
end Go.Proofs.Ytgkgedjmnbjalaa
set_option linter.unusedSimpArgs false
namespace Go.Proofs.Ytgkgedjmnbjalaa
open Go.RowKit Go.Sort
structure E where
  kind : Int
  way : List Step
  node : T
  old : T
abbrev stepT (t : T) : Step := (t.name, t.key)
def cutE (way : List Step) (x : T) : List E := [⟨2, way ++ [stepT x], zeroT, x⟩]
def setE (way : List Step) (y : T) : List E := [⟨1, way ++ [stepT y], y, zeroT⟩]
def bothE (rec : T → T → List Step → List E) (way : List Step) (x y : T) : List E :=
  if sameT x y = true then [] else if x.kind ≠ 0 ∧ y.kind ≠ 0 then [⟨3, way ++ [stepT x], y, x⟩] else if x.kind ≠ 0 ∨ y.kind ≠ 0 then cutE way x ++ setE way y else rec x y (way ++ [stepT x])
def mergeE (one other : T → List E) (both : T → T → List E) : Nat → List T → List T → List E
  | 0, _, _ => []
  | _ + 1, [], [] => []
  | n + 1, x :: xs, [] => one x ++ mergeE one other both n xs []
  | n + 1, [], y :: ys => other y ++ mergeE one other both n [] ys
  | n + 1, x :: xs, y :: ys => if lessT x y = true then one x ++ mergeE one other both n xs (y :: ys) else if lessT y x = true then other y ++ mergeE one other both n (x :: xs) ys else both x y ++ mergeE one other both n xs ys
def edits : Nat → T → T → List Step → List E
  | 0, _, _, _ => []
  | n + 1, a, b, way => mergeE (cutE way) (setE way) (bothE (edits n) way) (a.kids.length + b.kids.length) a.kids b.kids
theorem mergeE_len {one other : T → List E} {both : T → T → List E} (h1 : ∀ x, (one x).length ≤ x.size) (h2 : ∀ y, (other y).length ≤ y.size) (h3 : ∀ x y, (both x y).length ≤ x.size + y.size) :
    ∀ (n : Nat) (xs ys : List T), (mergeE one other both n xs ys).length ≤ sizeL xs + sizeL ys
  | 0, _, _ => by simp [mergeE]
  | n + 1, [], [] => by simp [mergeE]
  | n + 1, x :: xs, [] => by have := mergeE_len h1 h2 h3 n xs []; have := h1 x; simp only [mergeE, sizeL, List.length_append] at *; omega
  | n + 1, [], y :: ys => by have := mergeE_len h1 h2 h3 n [] ys; have := h2 y; simp only [mergeE, sizeL, List.length_append] at *; omega
  | n + 1, x :: xs, y :: ys => by
    have e1 := mergeE_len h1 h2 h3 n xs (y :: ys)
    have e2 := mergeE_len h1 h2 h3 n (x :: xs) ys
    have e3 := mergeE_len h1 h2 h3 n xs ys
    have := h1 x
    have := h2 y
    have := h3 x y
    simp only [mergeE, sizeL] at *
    split
    · simp only [List.length_append]; omega
    · split
      · simp only [List.length_append]; omega
      · simp only [List.length_append]; omega
theorem bothE_len {rec : T → T → List Step → List E} (h : ∀ x y w, (rec x y w).length ≤ x.size + y.size) (way : List Step) (x y : T) : (bothE rec way x y).length ≤ x.size + y.size := by
  have := size_pos x
  have := size_pos y
  unfold bothE
  split
  · simp
  · split
    · simp; omega
    · split
      · simp [cutE, setE]; omega
      · exact h _ _ _
theorem edits_len : ∀ (n : Nat) (a b : T) (way : List Step), (edits n a b way).length ≤ a.size + b.size
  | 0, a, b, way => by simp [edits]
  | n + 1, a, b, way => by
    have := mergeE_len (one := cutE way) (other := setE way) (both := bothE (edits n) way) (fun x => by have := size_pos x; simp [cutE]; omega) (fun y => by have := size_pos y; simp [setE]; omega)
      (bothE_len (edits_len n) way) (a.kids.length + b.kids.length) a.kids b.kids
    rw [edits, a.size_eq, b.size_eq]
    omega
def RE (S : Nat → Prop) (w : World) (e : E) (c : List Value) : Prop :=
  ∃ A ac Kn kn Ko ko, c = [.int .i64 e.kind, .slice A e.way.length ac] ++ cT e.node.name e.node.key e.node.kind e.node.num e.node.text Kn e.node.kids.length kn ++ cT e.old.name e.old.key e.old.kind e.old.num e.old.text Ko e.old.kids.length ko ∧
    WRow S w A e.way ac ∧ RRow S w Kn e.node.kids kn ∧ RRow S w Ko e.old.kids ko
theorem RE.keep {S S' : Nat → Prop} {w w' : World} (hk : ∀ b off v, S b → w.cell? ⟨b, off, none⟩ = some v → S' b ∧ w'.cell? ⟨b, off, none⟩ = some v) {e : E} {c : List Value} (h : RE S w e c) : RE S' w' e c := by
  obtain ⟨A, ac, Kn, kn, Ko, ko, h1, h2, h3, h4⟩ := h
  exact ⟨A, ac, Kn, kn, Ko, ko, h1, h2.keep hk, h3.keep hk, h4.keep hk⟩
theorem RE.ext {S : Nat → Prop} {w w' : World} (hx : Ext w w') {e : E} {c : List Value} (h : RE S w e c) : RE S w' e c := h.keep fun _ _ _ hb hc => ⟨hb, Ext.cell hx hc⟩
theorem RE.mono {S S' : Nat → Prop} {w : World} (hs : ∀ b, b < w.heap.size → S b → S' b) {e : E} {c : List Value} (h : RE S w e c) : RE S' w e c := h.keep fun b _ _ hb hc => ⟨hs b (World.block_lt_of_cell? w _ hc) hb, hc⟩
theorem RE.len {S : Nat → Prop} {w : World} {e : E} {c : List Value} (h : RE S w e c) : c.length = 14 := by obtain ⟨A, ac, Kn, kn, Ko, ko, rfl, _⟩ := h; rfl
theorem RE.one {S : Nat → Prop} {w : World} {e : E} {c : List Value} (h : RE S w e c) : c.all (·.oneCell') = true := by obtain ⟨A, ac, Kn, kn, Ko, ko, rfl, _⟩ := h; rfl
structure Outs (B O : Nat) (w : World) (v : Value) (css : List (List Value)) (es : List E) : Prop where
  box : Blk w O [v] 57
  ob : B ≤ O
  len : css.length = es.length
  c14 : ∀ c ∈ css, c.length = 14
  own : w.ownsRow B 68 14 v es.length css.flatten
  each : ∀ (i : Nat) e c, es[i]? = some e → css[i]? = some c → RE (fun b => b ≠ O ∧ v.ownBlock ≠ some b) w e c
  ne : v.ownBlock ≠ some O
structure Fr (O : Nat) (w : World) (v : Value) (w' : World) (v' : Value) : Prop where
  os : w'.os = w.os
  tape : w'.tape = w.tape
  output : w'.output = w.output
  size : w.heap.size ≤ w'.heap.size
  block : ∀ b, b < w.heap.size → b ≠ O → v.ownBlock ≠ some b → w'.heap[b]? = w.heap[b]?
  new : v'.ownBlock = v.ownBlock ∨ ∃ x, v'.ownBlock = some x ∧ w.heap.size ≤ x
theorem Fr.refl (O : Nat) (w : World) (v : Value) : Fr O w v w v := ⟨rfl, rfl, rfl, Nat.le_refl _, fun _ _ _ _ => rfl, .inl rfl⟩
theorem Fr.of_ext {O : Nat} {w w' : World} {v : Value} (hx : Ext w w') : Fr O w v w' v := ⟨hx.os, hx.tape, hx.output, hx.size, fun b hb _ _ => hx.block b hb, .inl rfl⟩
theorem Fr.trans {O : Nat} {w w1 w2 : World} {v v1 v2 : Value} (h : Fr O w v w1 v1) (k : Fr O w1 v1 w2 v2) : Fr O w v w2 v2 := by
  refine ⟨k.os.trans h.os, k.tape.trans h.tape, k.output.trans h.output, Nat.le_trans h.size k.size, fun b hb h1 h2 => ?_, ?_⟩
  · rw [k.block b (Nat.lt_of_lt_of_le hb h.size) h1 ?_, h.block b hb h1 h2]
    rcases h.new with e | ⟨x, e, hx⟩
    · rw [e]; exact h2
    · rw [e]; intro he; injection he; omega
  · rcases k.new with e | ⟨x, e, hx⟩
    · rw [e]; exact h.new
    · exact .inr ⟨x, e, Nat.le_trans h.size hx⟩
theorem Fr.below {O B : Nat} {w w' : World} {v v' : Value} (h : Fr O w v w' v') (hO : B ≤ O) (hw : B ≤ w.heap.size) (hv : ∀ k, v.ownBlock = some k → B ≤ k) : Below B w w' :=
  ⟨h.os, h.tape, h.output, h.size, fun b hb => h.block b (by omega) (by omega) (fun e => by have := hv b e; omega)⟩
theorem Fr.blk {O : Nat} {w w' : World} {v v' : Value} (h : Fr O w v w' v') {g : Nat} {cs : List Value} {t : TypeId} (hb : Blk w g cs t) (h1 : g ≠ O) (h2 : v.ownBlock ≠ some g) : Blk w' g cs t := (h.block g hb.lt h1 h2).trans hb
theorem Fr.keep {O : Nat} {w w' : World} {v v' : Value} (h : Fr O w v w' v') : ∀ b off u, (b ≠ O ∧ v.ownBlock ≠ some b) → w.cell? ⟨b, off, none⟩ = some u → (b ≠ O ∧ v'.ownBlock ≠ some b) ∧ w'.cell? ⟨b, off, none⟩ = some u := fun b off u hb hc => by
  have hlt := World.block_lt_of_cell? w _ hc
  refine ⟨⟨hb.1, ?_⟩, ?_⟩
  · rcases h.new with e | ⟨x, e, hx⟩
    · rw [e]; exact hb.2
    · rw [e]; intro he; injection he with he; simp only at hlt; omega
  · rw [← hc]; exact World.cell?_of_block (h.block b hlt hb.1 hb.2)
theorem Fr.ne {O : Nat} {w w' : World} {v v' : Value} (h : Fr O w v w' v') {g : Nat} (hg : g < w.heap.size) (h2 : v.ownBlock ≠ some g) : v'.ownBlock ≠ some g := by
  rcases h.new with e | ⟨x, e, hx⟩
  · rw [e]; exact h2
  · rw [e]; intro he; injection he with he; omega
theorem Fr.args {O B : Nat} {w w' : World} {v v' : Value} (h : Fr O w v w' v') (hO : B ≤ O) (hv : ∀ k, v.ownBlock = some k → B ≤ k) : ∀ b off u, b < B → w.cell? ⟨b, off, none⟩ = some u → b < B ∧ w'.cell? ⟨b, off, none⟩ = some u := fun b off u hb hc => by
  have hlt := World.block_lt_of_cell? w _ hc
  refine ⟨hb, ?_⟩
  rw [← hc]
  exact World.cell?_of_block (h.block b hlt (by omega) (fun e => by have := hv b e; omega))
theorem Outs.base {B O : Nat} {w : World} {v : Value} {css : List (List Value)} {es : List E} (h : Outs B O w v css es) : ∀ k, v.ownBlock = some k → B ≤ k := own_base h.own
theorem own_lt {w : World} {base : Nat} {e : TypeId} {sz n : Nat} {v : Value} {xs : List Value} (h : w.ownsRow base e sz v n xs) : ∀ k, v.ownBlock = some k → k < w.heap.size := fun k hk => by
  rcases h.2 with ⟨h1, _⟩ | ⟨g, cap, cur, hv, hb, hg, _⟩
  · rw [h1] at hk; simp [Value.ownBlock] at hk
  · rw [hv] at hk; simp [Value.ownBlock] at hk; subst hk; exact heap_lt hg
theorem Outs.ext {B O : Nat} {w w' : World} {v : Value} {css : List (List Value)} {es : List E} (hx : Ext w w') (h : Outs B O w v css es) : Outs B O w' v css es :=
  ⟨h.box.ext hx, h.ob, h.len, h.c14, own_ext hx h.own, fun i e c he hc => (h.each i e c he hc).ext hx, h.ne⟩
theorem Outs.push {B O : Nat} {w w' : World} {v v' : Value} {css : List (List Value)} {es : List E} {e : E} {c : List Value} (h : Outs B O w v css es)
    (hc : RE (fun b => b ≠ O ∧ v.ownBlock ≠ some b) w e c) (hown : w'.ownsRow B 68 14 v' (es.length + 1) (css.flatten ++ c)) (hg : w.grownBy w' v.ownBlock) (hat : v'.ownBlock = v.ownBlock ∨ v'.ownBlock = some w.heap.size) :
    Outs B O (w'.setCell ⟨O, 0, none⟩ v') v' (css ++ [c]) (es ++ [e]) ∧ Fr O w v (w'.setCell ⟨O, 0, none⟩ v') v' := by
  have hu := Upd.setCell w' ⟨O, 0, none⟩ v'
  have hlt := h.box.lt
  have hne : v'.ownBlock ≠ some O := by
    rcases hat with e | e
    · rw [e]; exact h.ne
    · rw [e]; intro he; injection he with he; omega
  have hfr : Fr O w v (w'.setCell ⟨O, 0, none⟩ v') v' := by
    refine ⟨hu.os.trans hg.os, hu.tape.trans hg.tape, hu.output.trans hg.output, by rw [hu.size]; exact hg.size, fun b hb h1 h2 => (hu.block b h1).trans (hg.block b hb (fun e => h2 e.symm)), ?_⟩
    rcases hat with e | e
    · exact .inl e
    · exact .inr ⟨_, e, Nat.le_refl _⟩
  have hbox : Blk w' O [v] 57 := (hg.block O hlt (fun e => h.ne e.symm)).trans h.box
  refine ⟨⟨hbox.setCell 0 v', h.ob, by simp [h.len], ?_, ?_, fun i e' c' he hc' => ?_, hne⟩, hfr⟩
  · intro d hd
    rcases List.mem_append.1 hd with hd | hd
    · exact h.c14 d hd
    · simp at hd; subst hd; exact hc.len
  · have h2 : (w'.setCell ⟨O, 0, none⟩ v').ownsRow B 68 14 v' (es.length + 1) (css.flatten ++ c) := by
      refine hown.kept (row := some O) ⟨hu.os, hu.tape, hu.output, Nat.le_of_eq hu.size.symm, fun k _ hk => hu.block k (fun e => hk (by rw [e]))⟩ ?_
      rcases hown.2 with ⟨h1, _⟩ | ⟨g, cap, cur, hv, _⟩
      · left; rw [h1]; rfl
      · right; exact hne
    simpa using h2
  · by_cases hi : i < es.length
    · rw [List.getElem?_append_left hi] at he
      rw [List.getElem?_append_left (by rw [h.len]; exact hi)] at hc'
      exact (h.each i e' c' he hc').keep hfr.keep
    · rw [List.getElem?_append_right (by omega)] at he
      rw [List.getElem?_append_right (by rw [h.len]; omega), h.len] at hc'
      have h0 : i - es.length = 0 := by
        have := (List.getElem?_eq_some_iff.1 he).1
        simp at this
        omega
      rw [h0] at he hc'
      simp at he hc'
      subst he hc'
      exact hc.keep hfr.keep
end Go.Proofs.Ytgkgedjmnbjalaa
set_option linter.unusedSimpArgs false
namespace Go.Proofs.Ytgkgedjmnbjalaa
open Go.RowKit Go.Sort
theorem WRow.at {S : Nat → Prop} {w : World} {A : Option Addr} {l : List Step} {c j : Nat} {x : Step} (h : WRow S w A l c) (hj : l[j]? = some x) :
    ∃ b off, A = some ⟨b, off, none⟩ ∧ S b ∧ ∀ (q : Nat) v, [Value.string x.1, .string x.2][q]? = some v → w.cell? ⟨b, off + j * 2 + q, none⟩ = some v := by
  obtain ⟨b, off, h1, h2, h3⟩ := h.row (by rintro rfl; simp at hj)
  refine ⟨b, off, h1, h2, fun q v hv => ?_⟩
  obtain ⟨e1, e2⟩ := wcells_get l j x hj
  match q, hv with
  | 0, hv => simp at hv; subst hv; have := h3 _ _ e1; rw [Nat.add_zero]; exact this
  | 1, hv => simp at hv; subst hv; have := h3 _ _ e2; rw [Nat.add_assoc]; exact this
  | q + 2, hv => simp at hv
theorem twoC {w w' : World} (hx : Ext w w') {b o : Nat} {x0 x1 : Value} (h : ∀ (j : Nat) v, [x0, x1][j]? = some v → w.cell? ⟨b, o + j, none⟩ = some v) : w'.cell? ⟨b, o, none⟩ = some x0 ∧ w'.cell? ⟨b, o + 1, none⟩ = some x1 :=
  ⟨Ext.cell hx (h 0 _ rfl), Ext.cell hx (h 1 _ rfl)⟩
end Go.Proofs.Ytgkgedjmnbjalaa
set_option linter.unusedSimpArgs false
namespace Go.Proofs.Ytgkgedjmnbjalaa
open Go.RowKit Go.Sort
def spWay (l : List Step) (B : Nat) : SP := ⟨fun v w => ∃ A c, v = .slice A l.length c ∧ WRow (B ≤ ·) w A l c, fun _ _ _ h ⟨A, c, e, hr⟩ => ⟨A, c, e, hr.ext h⟩⟩
def spEd (e : E) (B D : Nat) : SP := ⟨fun v w => ∃ c : List Value, v = .agg c.toArray ∧ RE (fun b => b < B ∨ D ≤ b) w e c, fun _ _ _ h ⟨c, e1, hr⟩ => ⟨c, e1, hr.ext h⟩⟩
def spEds (e : E) (B D : Nat) : SP := ⟨fun v w => ∃ (g : Nat) (c : List Value), v = .slice (some ⟨g, 0, none⟩) 1 1 ∧ Blk w g c 68 ∧ RE (fun b => b < B ∨ D ≤ b) w e c, fun _ _ _ h ⟨g, c, e1, hb, hr⟩ => ⟨g, c, e1, hb.ext h, hr.ext h⟩⟩
structure Env (B O Wy : Nat) (w : World) (v : Value) (css : List (List Value)) (es : List E) (way : List Step) (A : Option Addr) (c : Nat) : Prop where
  outs : Outs B O w v css es
  wayb : Blk w Wy [.slice A way.length c] 59
  ne1 : Wy ≠ O
  ne2 : v.ownBlock ≠ some Wy
  row : WRow (fun b => b ≠ O ∧ v.ownBlock ≠ some b) w A way c
theorem Env.ext {B O Wy : Nat} {w w' : World} {v : Value} {css : List (List Value)} {es : List E} {way : List Step} {A : Option Addr} {c : Nat} (hx : Ext w w') (h : Env B O Wy w v css es way A c) : Env B O Wy w' v css es way A c :=
  ⟨h.outs.ext hx, h.wayb.ext hx, h.ne1, h.ne2, h.row.ext hx⟩
theorem Env.fr {B O Wy : Nat} {w w' : World} {v v' : Value} {css css' : List (List Value)} {es es' : List E} {way : List Step} {A : Option Addr} {c : Nat} (h : Env B O Wy w v css es way A c) (ho : Outs B O w' v' css' es') (hf : Fr O w v w' v') : Env B O Wy w' v' css' es' way A c :=
  ⟨ho, hf.blk h.wayb h.ne1 h.ne2, h.ne1, hf.ne h.wayb.lt h.ne2, h.row.keep hf.keep⟩
def Laid (B O : Nat) (w : World) (v : Value) (es : List E) (w' : World) : Prop := ∃ v' css', Outs B O w' v' css' es ∧ Fr O w v w' v'
set_option maxRecDepth 100000 in
set_option maxHeartbeats 4000000 in
theorem cut_any {B O Wy : Nat} {w : World} {v : Value} {css : List (List Value)} {es : List E} {way : List Step} {A : Option Addr} {ac : Nat} {x : T} {c : List Value} (h : Env B O Wy w v css es way A ac) (hx : RT (· < B) w x c)
    (hw : way.length + 1 ≤ 1048576) (hes : es.length + 1 ≤ 1048576) :
    Calls Try.prog 94 #[.agg c.toArray, .pointer (some ⟨O, 0, none⟩), .pointer (some ⟨Wy, 0, none⟩)] w fun e w' => e = .returned (.tuple #[]) ∧ Laid B O w v (es ++ cutE way x) w' := by
  obtain ⟨K, kc, rfl, hrow⟩ := hx.row
  obtain ⟨V, vc, rfl, _⟩ := own_slice h.outs.own
  obtain ⟨wy, hwy⟩ : ∃ wy, Hd (way ++ [(x.name, x.key)] = wy) := ⟨_, ⟨rfl⟩⟩
  have hce : cutE way x = [⟨2, wy, zeroT, x⟩] := by rw [← hwy.out]; rfl
  rw [hce]
  clear hce
  have kr := Hd.mk hx
  have kh := Hd.mk h
  have hOlt := Hd.mk h.outs.box.lt
  clear hrow h hx
  simp only [cT] at kr ⊢
  go_enter Try.func94, Try.ntmps94
  go_wp2_with fail
  have kx := Hd.mk (Ext.alloc w (.cells #[.string x.name, .string x.key, .int .i64 x.kind, .int .u64 x.num, .string x.text, .slice K x.kids.length kc] 54))
  have kA := Hd.mk (Blk.new w #[.string x.name, .string x.key, .int .i64 x.kind, .int .u64 x.num, .string x.text, .slice K x.kids.length kc] 54)
  have kh2 := Hd.mk (kh.out.ext kx.out)
  have kO := Hd.mk kh2.out.outs.box
  have kW := Hd.mk kh2.out.wayb
  have hsz := Hd.mk kx.out.size
  generalize hpA : w.heap.size = pA at *
  have hpA := Hd.mk hpA
  generalize w.alloc _ = W at *
  refine Flow.wp_region_flow_l (fun qq => match qq with
    | 4 => SP.eq (.slice V es.length vc)
    | 5 => SP.eq (.slice A way.length ac)
    | 6 => SP.eq (.agg #[.string x.name, .string x.key, .int .i64 x.kind, .int .u64 x.num, .string x.text, .slice K x.kids.length kc])
    | 7 => spWay wy W.heap.size
    | 8 => SP.eq (.agg #[.string x.name, .string x.key, .int .i64 x.kind, .int .u64 x.num, .string x.text, .slice K x.kids.length kc])
    | 9 => spT x W.heap.size
    | 10 => spEd (⟨2, wy, zeroT, x⟩ : E) B W.heap.size
    | 11 => spEds (⟨2, wy, zeroT, x⟩ : E) B W.heap.size
    | _ => SP.any) 8 (by kernel_rfl) 13 rfl (by kernel_rfl) ?_ ?_
  · skip
    refine ⟨?_, ?_, ?_, ?_, ?_, ?_, ?_, ?_, trivial⟩
    · intro act W2 hk
      refine Flow.does_intro rfl (fun Kq hK => ?_)
      have e1 : act.tmps[1]?.getD undef = .pointer (some ⟨O, 0, none⟩) := hk.o 1 (by kernel_rfl)
      have g := ((kO.out).ext ((Ext.drew W).trans hk.ext)).cell
      clear hk
      go_simp
      exact hK _ _ (Ext.refl _) (fun d hd => by cases hd; rfl)
    · intro act W2 hk
      refine Flow.does_intro rfl (fun Kq hK => ?_)
      have e2 : act.tmps[2]?.getD undef = .pointer (some ⟨Wy, 0, none⟩) := hk.o 2 (by kernel_rfl)
      have g := ((kW.out).ext ((Ext.drew W).trans hk.ext)).cell
      clear hk
      go_simp
      exact hK _ _ (Ext.refl _) (fun d hd => by cases hd; rfl)
    · intro act W2 hk
      refine Flow.does_intro rfl (fun Kq hK => ?_)
      have e3 : act.tmps[3]?.getD undef = .pointer (some ⟨pA, 0, none⟩) := hk.o 3 (by kernel_rfl)
      have g := ((kA.out).ext ((Ext.drew W).trans hk.ext)).cell
      clear hk
      go_simp
      exact hK _ _ (Ext.refl _) (fun d hd => by cases hd; rfl)
    · intro act W2 hk
      refine Flow.does_intro rfl (fun Kq hK => ?_)
      have e5 : act.tmps[5]?.getD undef = .slice A way.length ac := hk.v 5 (by kernel_rfl)
      have e6 : act.tmps[6]?.getD undef = .agg #[.string x.name, .string x.key, .int .i64 x.kind, .int .u64 x.num, .string x.text, .slice K x.kids.length kc] := hk.v 6 (by kernel_rfl)
      have hx0 := Hd.mk ((Ext.drew W).trans hk.ext)
      have hsz0 := hx0.out.size
      have hon := Hd.mk (diff_on x K x.kids.length kc kh2.out.row hx0.out hw)
      rw [hwy.out] at hon
      clear hk
      go_simp
      refine Calls.mono (hon.out) ?_
      rintro e W3 ⟨_, rfl, A', c', rfl, hr', hx⟩
      exact hK _ _ hx (fun d hd => by cases hd; exact ⟨A', c', rfl, hr'.mono (fun b _ hb => Nat.le_trans hsz0 hb)⟩)
    · intro act W2 hk
      refine Flow.does_intro rfl (fun Kq hK => ?_)
      have e3 : act.tmps[3]?.getD undef = .pointer (some ⟨pA, 0, none⟩) := hk.o 3 (by kernel_rfl)
      have g := ((kA.out).ext ((Ext.drew W).trans hk.ext)).cell
      clear hk
      go_simp
      exact hK _ _ (Ext.refl _) (fun d hd => by cases hd; rfl)
    · intro act W2 hk
      refine Flow.does_intro rfl (fun Kq hK => ?_)
      have e8 : act.tmps[8]?.getD undef = .agg #[.string x.name, .string x.key, .int .i64 x.kind, .int .u64 x.num, .string x.text, .slice K x.kids.length kc] := hk.v 8 (by kernel_rfl)
      have hx0 := Hd.mk ((Ext.drew W).trans hk.ext)
      have hsz0 := hx0.out.size
      clear hk
      go_simp
      refine Calls.mono (diff_clone x _ _ _ ((kr.out.ext kx.out).ext hx0.out)) ?_
      rintro e W3 ⟨_, rfl, c', rfl, hr', hx⟩
      exact hK _ _ hx (fun d hd => by cases hd; exact ⟨c', rfl, hr'.mono (fun b _ hb => Nat.le_trans hsz0 hb)⟩)
    · intro act W2 hk
      refine Flow.does_intro rfl (fun Kq hK => ?_)
      obtain ⟨A', c', e7, h7⟩ := (hk.v 7 (by kernel_rfl) : (spWay _ _).p _ _)
      obtain ⟨d', e9, h9⟩ := (hk.v 9 (by kernel_rfl) : (spT _ _).p _ _)
      obtain ⟨K2, k2, rfl, h9r⟩ := h9.row
      simp only [cT] at e9
      have h7 := Hd.mk h7
      have h9r := Hd.mk h9r
      clear h9
      clear hk
      go_simp
      exact hK _ _ (Ext.refl _) (fun d hd => by cases hd; exact ⟨_, rfl, A', c', none, 0, K2, k2, by simp [cT, zeroT, T.name, T.key, T.kind, T.num, T.text, T.kids], h7.out.mono (fun b _ hb => .inr hb), RRow.nil _ _ _ _ (fun _ => rfl), h9r.out.keep (fun b off v hb hc => ⟨.inr hb, hc⟩)⟩)
    · intro act W2 hk
      refine Flow.does_intro rfl (fun Kq hK => ?_)
      obtain ⟨c', e10, h10⟩ := (hk.v 10 (by kernel_rfl) : (spEd _ _ _).p _ _)
      have h10' := h10
      obtain ⟨q1, q2, q3, q4, q5, q6, rfl, _⟩ := h10'
      simp only [cT, List.cons_append, List.nil_append] at e10
      have h10 := Hd.mk h10
      clear hk
      go_simp
      exact hK _ _ (Ext.alloc _ _) (fun d hd => by cases hd; exact ⟨_, _, rfl, Blk.new _ _ _, h10.out.ext (Ext.alloc _ _)⟩)
  · intro act W2 he
    have hxW2 := Hd.mk ((Ext.drew W).trans he.ext)
    obtain ⟨us, hA, hF⟩ := he.out [4, 5, 6, 7, 8, 9, 10, 11] (by kernel_rfl)
    simp only [Flow.fillL, List.contains_cons, List.contains_nil, Nat.reduceBEq, Bool.or_false, Bool.false_or, Bool.or_true, Bool.true_or, ↓reduceIte, Nat.reduceAdd, Bool.false_eq_true] at hA
    subst hA
    have f4 : us 4 = .slice V es.length vc := hF 4 (by simp)
    have f11 : (spEds (⟨2, wy, zeroT, x⟩ : E) B W.heap.size).p (us 11) W2 := hF 11 (by simp)
    clear hF he
    rw [f4]
    clear f4
    obtain ⟨D, c', e11, hD, hre⟩ := (f11 : (spEds _ _ _).p _ _)
    have hre' := hre
    obtain ⟨q1, q2, q3, q4, q5, q6, rfl, _⟩ := hre'
    have hD := Hd.mk hD
    have hre := Hd.mk hre
    generalize us 5 = u5 at *
    generalize us 6 = u6 at *
    generalize us 7 = u7 at *
    generalize us 8 = u8 at *
    generalize us 9 = u9 at *
    generalize us 10 = u10 at *
    generalize us 11 = u11 at *
    subst e11
    have kh3 := Hd.mk (kh2.out.ext hxW2.out)
    have hO2 := Hd.mk kh3.out.outs.box
    have hsz2 := Hd.mk (Nat.le_trans hsz.out hxW2.out.size)
    have hB := Hd.mk kh.out.outs.ob
    refine (show wpList _ _ _ (⟨some 12, .call { callee := .builtin .append, args := #[.tmp 4, .tmp 11], argTypes := #[57, 57] }, _, _, _, none⟩ :: _) _ _ from ?_)
    refine wpl_append sl57 (by omega) (by omega) (.tmp 4) (.tmp 11) 12 _ _ _ B (.slice V es.length vc) es.length css.flatten rfl kh3.out.outs.own D 0 1 1 _ rfl (by rw [hre.out.len]) (fun i u hi => by rw [Nat.zero_add, hD.out.cell]; exact hi) hre.out.one (by omega) (by have := hO2.out.lt; have := hB.out; omega) ?_
    intro v' w' hown hgr hat
    obtain ⟨V', vc', rfl, _⟩ := own_slice hown
    have hp := Hd.mk (Outs.push kh3.out.outs (hre.out.mono (fun b hb h => by have h1 := hOlt.out; have h2 := hB.out; have h3 := hpA.out; have h4 := hsz.out; refine ⟨by omega, fun hh => ?_⟩; have h5 := kh.out.outs.base b hh; have h6 := own_lt kh.out.outs.own b hh; omega)) hown hgr hat)
    have hbox := Hd.mk (grownBy_blk' hgr (fun e => kh3.out.outs.ne e.symm) hO2.out)
    clear hown hgr hat
    have gO := hbox.out.cell
    have fO := hbox.out.free
    go_wp2_with fail
    go_end0
    exact ⟨rfl, _, _, hp.out.1, (Fr.of_ext (kx.out.trans hxW2.out)).trans hp.out.2⟩
set_option maxRecDepth 100000 in
set_option maxHeartbeats 4000000 in
theorem set_any {B O Wy : Nat} {w : World} {v : Value} {css : List (List Value)} {es : List E} {way : List Step} {A : Option Addr} {ac : Nat} {x : T} {c : List Value} (h : Env B O Wy w v css es way A ac) (hx : RT (· < B) w x c)
    (hw : way.length + 1 ≤ 1048576) (hes : es.length + 1 ≤ 1048576) :
    Calls Try.prog 97 #[.agg c.toArray, .pointer (some ⟨O, 0, none⟩), .pointer (some ⟨Wy, 0, none⟩)] w fun e w' => e = .returned (.tuple #[]) ∧ Laid B O w v (es ++ setE way x) w' := by
  obtain ⟨K, kc, rfl, hrow⟩ := hx.row
  obtain ⟨V, vc, rfl, _⟩ := own_slice h.outs.own
  obtain ⟨wy, hwy⟩ : ∃ wy, Hd (way ++ [(x.name, x.key)] = wy) := ⟨_, ⟨rfl⟩⟩
  have hce : setE way x = [⟨1, wy, x, zeroT⟩] := by rw [← hwy.out]; rfl
  rw [hce]
  clear hce
  have kr := Hd.mk hx
  have kh := Hd.mk h
  have hOlt := Hd.mk h.outs.box.lt
  clear hrow h hx
  simp only [cT] at kr ⊢
  go_enter Try.func97, Try.ntmps97
  go_wp2_with fail
  have kx := Hd.mk (Ext.alloc w (.cells #[.string x.name, .string x.key, .int .i64 x.kind, .int .u64 x.num, .string x.text, .slice K x.kids.length kc] 54))
  have kA := Hd.mk (Blk.new w #[.string x.name, .string x.key, .int .i64 x.kind, .int .u64 x.num, .string x.text, .slice K x.kids.length kc] 54)
  have kh2 := Hd.mk (kh.out.ext kx.out)
  have kO := Hd.mk kh2.out.outs.box
  have kW := Hd.mk kh2.out.wayb
  have hsz := Hd.mk kx.out.size
  generalize hpA : w.heap.size = pA at *
  have hpA := Hd.mk hpA
  generalize w.alloc _ = W at *
  refine Flow.wp_region_flow_l (fun qq => match qq with
    | 4 => SP.eq (.slice V es.length vc)
    | 5 => SP.eq (.slice A way.length ac)
    | 6 => SP.eq (.agg #[.string x.name, .string x.key, .int .i64 x.kind, .int .u64 x.num, .string x.text, .slice K x.kids.length kc])
    | 7 => spWay wy W.heap.size
    | 8 => SP.eq (.agg #[.string x.name, .string x.key, .int .i64 x.kind, .int .u64 x.num, .string x.text, .slice K x.kids.length kc])
    | 9 => spT x W.heap.size
    | 10 => spEd (⟨1, wy, x, zeroT⟩ : E) B W.heap.size
    | 11 => spEds (⟨1, wy, x, zeroT⟩ : E) B W.heap.size
    | _ => SP.any) 8 (by kernel_rfl) 13 rfl (by kernel_rfl) ?_ ?_
  · skip
    refine ⟨?_, ?_, ?_, ?_, ?_, ?_, ?_, ?_, trivial⟩
    · intro act W2 hk
      refine Flow.does_intro rfl (fun Kq hK => ?_)
      have e1 : act.tmps[1]?.getD undef = .pointer (some ⟨O, 0, none⟩) := hk.o 1 (by kernel_rfl)
      have g := ((kO.out).ext ((Ext.drew W).trans hk.ext)).cell
      clear hk
      go_simp
      exact hK _ _ (Ext.refl _) (fun d hd => by cases hd; rfl)
    · intro act W2 hk
      refine Flow.does_intro rfl (fun Kq hK => ?_)
      have e2 : act.tmps[2]?.getD undef = .pointer (some ⟨Wy, 0, none⟩) := hk.o 2 (by kernel_rfl)
      have g := ((kW.out).ext ((Ext.drew W).trans hk.ext)).cell
      clear hk
      go_simp
      exact hK _ _ (Ext.refl _) (fun d hd => by cases hd; rfl)
    · intro act W2 hk
      refine Flow.does_intro rfl (fun Kq hK => ?_)
      have e3 : act.tmps[3]?.getD undef = .pointer (some ⟨pA, 0, none⟩) := hk.o 3 (by kernel_rfl)
      have g := ((kA.out).ext ((Ext.drew W).trans hk.ext)).cell
      clear hk
      go_simp
      exact hK _ _ (Ext.refl _) (fun d hd => by cases hd; rfl)
    · intro act W2 hk
      refine Flow.does_intro rfl (fun Kq hK => ?_)
      have e5 : act.tmps[5]?.getD undef = .slice A way.length ac := hk.v 5 (by kernel_rfl)
      have e6 : act.tmps[6]?.getD undef = .agg #[.string x.name, .string x.key, .int .i64 x.kind, .int .u64 x.num, .string x.text, .slice K x.kids.length kc] := hk.v 6 (by kernel_rfl)
      have hx0 := Hd.mk ((Ext.drew W).trans hk.ext)
      have hsz0 := hx0.out.size
      have hon := Hd.mk (diff_on x K x.kids.length kc kh2.out.row hx0.out hw)
      rw [hwy.out] at hon
      clear hk
      go_simp
      refine Calls.mono (hon.out) ?_
      rintro e W3 ⟨_, rfl, A', c', rfl, hr', hx⟩
      exact hK _ _ hx (fun d hd => by cases hd; exact ⟨A', c', rfl, hr'.mono (fun b _ hb => Nat.le_trans hsz0 hb)⟩)
    · intro act W2 hk
      refine Flow.does_intro rfl (fun Kq hK => ?_)
      have e3 : act.tmps[3]?.getD undef = .pointer (some ⟨pA, 0, none⟩) := hk.o 3 (by kernel_rfl)
      have g := ((kA.out).ext ((Ext.drew W).trans hk.ext)).cell
      clear hk
      go_simp
      exact hK _ _ (Ext.refl _) (fun d hd => by cases hd; rfl)
    · intro act W2 hk
      refine Flow.does_intro rfl (fun Kq hK => ?_)
      have e8 : act.tmps[8]?.getD undef = .agg #[.string x.name, .string x.key, .int .i64 x.kind, .int .u64 x.num, .string x.text, .slice K x.kids.length kc] := hk.v 8 (by kernel_rfl)
      have hx0 := Hd.mk ((Ext.drew W).trans hk.ext)
      have hsz0 := hx0.out.size
      clear hk
      go_simp
      refine Calls.mono (diff_clone x _ _ _ ((kr.out.ext kx.out).ext hx0.out)) ?_
      rintro e W3 ⟨_, rfl, c', rfl, hr', hx⟩
      exact hK _ _ hx (fun d hd => by cases hd; exact ⟨c', rfl, hr'.mono (fun b _ hb => Nat.le_trans hsz0 hb)⟩)
    · intro act W2 hk
      refine Flow.does_intro rfl (fun Kq hK => ?_)
      obtain ⟨A', c', e7, h7⟩ := (hk.v 7 (by kernel_rfl) : (spWay _ _).p _ _)
      obtain ⟨d', e9, h9⟩ := (hk.v 9 (by kernel_rfl) : (spT _ _).p _ _)
      obtain ⟨K2, k2, rfl, h9r⟩ := h9.row
      simp only [cT] at e9
      have h7 := Hd.mk h7
      have h9r := Hd.mk h9r
      clear h9
      clear hk
      go_simp
      exact hK _ _ (Ext.refl _) (fun d hd => by cases hd; exact ⟨_, rfl, A', c', K2, k2, none, 0, by simp [cT, zeroT, T.name, T.key, T.kind, T.num, T.text, T.kids], h7.out.mono (fun b _ hb => .inr hb), h9r.out.keep (fun b off v hb hc => ⟨.inr hb, hc⟩), RRow.nil _ _ _ _ (fun _ => rfl)⟩)
    · intro act W2 hk
      refine Flow.does_intro rfl (fun Kq hK => ?_)
      obtain ⟨c', e10, h10⟩ := (hk.v 10 (by kernel_rfl) : (spEd _ _ _).p _ _)
      have h10' := h10
      obtain ⟨q1, q2, q3, q4, q5, q6, rfl, _⟩ := h10'
      simp only [cT, List.cons_append, List.nil_append] at e10
      have h10 := Hd.mk h10
      clear hk
      go_simp
      exact hK _ _ (Ext.alloc _ _) (fun d hd => by cases hd; exact ⟨_, _, rfl, Blk.new _ _ _, h10.out.ext (Ext.alloc _ _)⟩)
  · intro act W2 he
    have hxW2 := Hd.mk ((Ext.drew W).trans he.ext)
    obtain ⟨us, hA, hF⟩ := he.out [4, 5, 6, 7, 8, 9, 10, 11] (by kernel_rfl)
    simp only [Flow.fillL, List.contains_cons, List.contains_nil, Nat.reduceBEq, Bool.or_false, Bool.false_or, Bool.or_true, Bool.true_or, ↓reduceIte, Nat.reduceAdd, Bool.false_eq_true] at hA
    subst hA
    have f4 : us 4 = .slice V es.length vc := hF 4 (by simp)
    have f11 : (spEds (⟨1, wy, x, zeroT⟩ : E) B W.heap.size).p (us 11) W2 := hF 11 (by simp)
    clear hF he
    rw [f4]
    clear f4
    obtain ⟨D, c', e11, hD, hre⟩ := (f11 : (spEds _ _ _).p _ _)
    have hre' := hre
    obtain ⟨q1, q2, q3, q4, q5, q6, rfl, _⟩ := hre'
    have hD := Hd.mk hD
    have hre := Hd.mk hre
    generalize us 5 = u5 at *
    generalize us 6 = u6 at *
    generalize us 7 = u7 at *
    generalize us 8 = u8 at *
    generalize us 9 = u9 at *
    generalize us 10 = u10 at *
    generalize us 11 = u11 at *
    subst e11
    have kh3 := Hd.mk (kh2.out.ext hxW2.out)
    have hO2 := Hd.mk kh3.out.outs.box
    have hsz2 := Hd.mk (Nat.le_trans hsz.out hxW2.out.size)
    have hB := Hd.mk kh.out.outs.ob
    refine (show wpList _ _ _ (⟨some 12, .call { callee := .builtin .append, args := #[.tmp 4, .tmp 11], argTypes := #[57, 57] }, _, _, _, none⟩ :: _) _ _ from ?_)
    refine wpl_append sl57 (by omega) (by omega) (.tmp 4) (.tmp 11) 12 _ _ _ B (.slice V es.length vc) es.length css.flatten rfl kh3.out.outs.own D 0 1 1 _ rfl (by rw [hre.out.len]) (fun i u hi => by rw [Nat.zero_add, hD.out.cell]; exact hi) hre.out.one (by omega) (by have := hO2.out.lt; have := hB.out; omega) ?_
    intro v' w' hown hgr hat
    obtain ⟨V', vc', rfl, _⟩ := own_slice hown
    have hp := Hd.mk (Outs.push kh3.out.outs (hre.out.mono (fun b hb h => by have h1 := hOlt.out; have h2 := hB.out; have h3 := hpA.out; have h4 := hsz.out; refine ⟨by omega, fun hh => ?_⟩; have h5 := kh.out.outs.base b hh; have h6 := own_lt kh.out.outs.own b hh; omega)) hown hgr hat)
    have hbox := Hd.mk (grownBy_blk' hgr (fun e => kh3.out.outs.ne e.symm) hO2.out)
    clear hown hgr hat
    have gO := hbox.out.cell
    have fO := hbox.out.free
    go_wp2_with fail
    go_end0
    exact ⟨rfl, _, _, hp.out.1, (Fr.of_ext (kx.out.trans hxW2.out)).trans hp.out.2⟩
end Go.Proofs.Ytgkgedjmnbjalaa
set_option linter.unusedSimpArgs false
namespace Go.Proofs.Ytgkgedjmnbjalaa
open Go.RowKit Go.Sort
theorem RRow.mono' {S S' : Nat → Prop} {w : World} (hs : ∀ b, b < w.heap.size → S b → S' b) {K : Option Addr} {l : List T} {kc : Nat} (h : RRow S w K l kc) : RRow S' w K l kc :=
  h.keep fun b _ _ hb hc => ⟨hs b (World.block_lt_of_cell? w _ hc) hb, hc⟩
structure Aside (O : Nat) (w : World) (v : Value) (g : Nat) (u : Value) (t : TypeId) : Prop where
  blk : Blk w g [u] t
  ne1 : g ≠ O
  ne2 : v.ownBlock ≠ some g
theorem Aside.ext {O : Nat} {w w' : World} {v : Value} {g : Nat} {u : Value} {t : TypeId} (hx : Ext w w') (h : Aside O w v g u t) : Aside O w' v g u t := ⟨h.blk.ext hx, h.ne1, h.ne2⟩
theorem Aside.fr {O : Nat} {w w' : World} {v v' : Value} {g : Nat} {u : Value} {t : TypeId} (h : Aside O w v g u t) (hf : Fr O w v w' v') : Aside O w' v' g u t := ⟨hf.blk h.blk h.ne1 h.ne2, h.ne1, hf.ne h.blk.lt h.ne2⟩
theorem Aside.new {B O : Nat} {w w' : World} {v : Value} {css : List (List Value)} {es : List E} {g : Nat} {u : Value} {t : TypeId} (h : Outs B O w v css es) (hg : w.heap.size ≤ g) (hb : Blk w' g [u] t) : Aside O w' v g u t :=
  ⟨hb, fun e => by have := h.box.lt; omega, fun e => by have := own_lt h.own g e; omega⟩
def EditsAt (N : Nat) : Prop := ∀ (B O Ed : Nat) (w : World) (v : Value) (css : List (List Value)) (es : List E) (way : List Step) (A : Option Addr) (c : Nat) (a b : T) (ca cb : List Value),
  a.deep ≤ N → Outs B O w v css es → Aside O w v Ed (.func (.func 93) #[] #[.pointer (some ⟨O, 0, none⟩), .pointer (some ⟨Ed, 0, none⟩)]) 113 →
  WRow (fun b => b ≠ O ∧ v.ownBlock ≠ some b) w A way c → RT (· < B) w a ca → RT (· < B) w b cb → way.length + a.deep ≤ 1000000 → es.length + a.size + b.size ≤ 1000000 →
  Calls Try.prog 93 #[.agg ca.toArray, .agg cb.toArray, .slice A way.length c, .pointer (some ⟨O, 0, none⟩), .pointer (some ⟨Ed, 0, none⟩)] w fun e w' => e = .returned (.tuple #[]) ∧ Laid B O w v (es ++ edits N a b way) w'
structure Env2 (B O Wy Cb Sb Ed : Nat) (w : World) (v : Value) (css : List (List Value)) (es : List E) (way : List Step) (A : Option Addr) (c : Nat) : Prop where
  env : Env B O Wy w v css es way A c
  cb : Aside O w v Cb (.func (.func 94) #[] #[.pointer (some ⟨O, 0, none⟩), .pointer (some ⟨Wy, 0, none⟩)]) 85
  sb : Aside O w v Sb (.func (.func 97) #[] #[.pointer (some ⟨O, 0, none⟩), .pointer (some ⟨Wy, 0, none⟩)]) 85
  ed : Aside O w v Ed (.func (.func 93) #[] #[.pointer (some ⟨O, 0, none⟩), .pointer (some ⟨Ed, 0, none⟩)]) 113
theorem Env2.ext {B O Wy Cb Sb Ed : Nat} {w w' : World} {v : Value} {css : List (List Value)} {es : List E} {way : List Step} {A : Option Addr} {c : Nat} (hx : Ext w w') (h : Env2 B O Wy Cb Sb Ed w v css es way A c) : Env2 B O Wy Cb Sb Ed w' v css es way A c :=
  ⟨h.env.ext hx, h.cb.ext hx, h.sb.ext hx, h.ed.ext hx⟩
theorem Env2.fr {B O Wy Cb Sb Ed : Nat} {w w' : World} {v v' : Value} {css css' : List (List Value)} {es es' : List E} {way : List Step} {A : Option Addr} {c : Nat} (h : Env2 B O Wy Cb Sb Ed w v css es way A c) (ho : Outs B O w' v' css' es') (hf : Fr O w v w' v') : Env2 B O Wy Cb Sb Ed w' v' css' es' way A c :=
  ⟨h.env.fr ho hf, h.cb.fr hf, h.sb.fr hf, h.ed.fr hf⟩
theorem Env2.args {B O Wy Cb Sb Ed : Nat} {w w' : World} {v v' : Value} {css : List (List Value)} {es : List E} {way : List Step} {A : Option Addr} {c : Nat} (h : Env2 B O Wy Cb Sb Ed w v css es way A c) (hf : Fr O w v w' v') {t : T} {cs : List Value} (ht : RT (· < B) w t cs) : RT (· < B) w' t cs :=
  ht.keep (hf.args h.env.outs.ob h.env.outs.base)
theorem Env2.argr {B O Wy Cb Sb Ed : Nat} {w w' : World} {v v' : Value} {css : List (List Value)} {es : List E} {way : List Step} {A : Option Addr} {c : Nat} (h : Env2 B O Wy Cb Sb Ed w v css es way A c) (hf : Fr O w v w' v') {K : Option Addr} {l : List T} {kc : Nat} (ht : RRow (· < B) w K l kc) : RRow (· < B) w' K l kc :=
  ht.keep (hf.args h.env.outs.ob h.env.outs.base)
set_option maxRecDepth 100000 in
set_option maxHeartbeats 4000000 in
theorem both_any (N : Nat) (ih0 : EditsAt N) {B O Wy Cb Sb Ed : Nat} {w : World} {v : Value} {css : List (List Value)} {es : List E} {way : List Step} {A : Option Addr} {ac : Nat} {x y : T} {c d : List Value} (h : Env2 B O Wy Cb Sb Ed w v css es way A ac)
    (hx : RT (· < B) w x c) (hy : RT (· < B) w y d) (hd : x.deep ≤ N) (hw : way.length + 1 + x.deep ≤ 1000000) (hes : es.length + x.size + y.size ≤ 1000000) :
    Calls Try.prog 99 #[.agg c.toArray, .agg d.toArray, .pointer (some ⟨O, 0, none⟩), .pointer (some ⟨Wy, 0, none⟩), .pointer (some ⟨Cb, 0, none⟩), .pointer (some ⟨Sb, 0, none⟩), .pointer (some ⟨Ed, 0, none⟩)] w
      fun e w' => e = .returned (.tuple #[]) ∧ Laid B O w v (es ++ bothE (edits N) way x y) w' := by
  obtain ⟨K, kc, rfl, hrow⟩ := hx.row
  obtain ⟨K', kc', rfl, hrow'⟩ := hy.row
  obtain ⟨V, vc, rfl, _⟩ := own_slice h.env.outs.own
  obtain ⟨wy, hwy⟩ : ∃ wy, Hd (way ++ [(x.name, x.key)] = wy) := ⟨_, ⟨rfl⟩⟩
  generalize hbe : bothE (edits N) way x y = be
  have hbe := Hd.mk hbe
  have hwl := Hd.mk (show wy.length = way.length + 1 by rw [← hwy.out]; simp)
  have ih := Hd.mk ih0
  have kr := Hd.mk hx
  have kr' := Hd.mk hy
  have kh := Hd.mk h
  have hOlt := Hd.mk h.env.outs.box.lt
  have hd := Hd.mk hd
  have hw := Hd.mk hw
  have hes := Hd.mk hes
  have hsx := Hd.mk (size_pos x)
  have hsy := Hd.mk (size_pos y)
  have hsm := Hd.mk (fun W (h : Ext w W) => tree_same N x y (· < B) W _ _ hd.out (kr.out.ext h) (kr'.out.ext h))
  have hlx := Hd.mk (fun W => diff_leaf x K x.kids.length kc W)
  have hly := Hd.mk (fun W => diff_leaf y K' y.kids.length kc' W)
  clear hrow hrow' h hx hy ih0
  simp only [cT] at kr kr' hsm hlx hly ⊢
  go_enter Try.func99, Try.ntmps99
  go_wp2_with fail
  have kx := Hd.mk ((Ext.alloc w (.cells #[.string x.name, .string x.key, .int .i64 x.kind, .int .u64 x.num, .string x.text, .slice K x.kids.length kc] 54)).trans (Ext.alloc _ (.cells #[.string y.name, .string y.key, .int .i64 y.kind, .int .u64 y.num, .string y.text, .slice K' y.kids.length kc'] 54)))
  have kA := Hd.mk ((Blk.new w #[.string x.name, .string x.key, .int .i64 x.kind, .int .u64 x.num, .string x.text, .slice K x.kids.length kc] 54).alloc (.cells #[.string y.name, .string y.key, .int .i64 y.kind, .int .u64 y.num, .string y.text, .slice K' y.kids.length kc'] 54))
  have kB := Hd.mk (Blk.new2 w (.cells #[.string x.name, .string x.key, .int .i64 x.kind, .int .u64 x.num, .string x.text, .slice K x.kids.length kc] 54) #[.string y.name, .string y.key, .int .i64 y.kind, .int .u64 y.num, .string y.text, .slice K' y.kids.length kc'] 54)
  have hsz := Hd.mk kx.out.size
  generalize hpA : w.heap.size = pA at *
  have hpA := Hd.mk hpA
  generalize (w.alloc _).alloc _ = W at *
  refine Calls.mono (hsm.out W kx.out) ?_
  rintro e w1 ⟨rfl, hx1⟩
  have kx1 := Hd.mk (kx.out.trans hx1)
  have kA1 := Hd.mk (kA.out.ext hx1)
  have kB1 := Hd.mk (kB.out.ext hx1)
  have hsz1 := Hd.mk (Nat.le_trans hsz.out hx1.size)
  clear hsm kA kB kx hx1 hsz
  cases hs : sameT x y with
  | true =>
    have hb : be = [] := by rw [← hbe.out, bothE, if_pos hs]
    subst hb
    go_wp2_with fail
    go_end0
    exact ⟨rfl, _, css, by rw [List.append_nil]; exact kh.out.env.outs.ext kx1.out, Fr.of_ext kx1.out⟩
  | false =>
    have hs := Hd.mk hs
    have gA := kA1.out.cell
    go_wp2_with fail
    refine Calls.mono (hlx.out _) ?_
    rintro e w2 ⟨rfl, hx2⟩
    have kx2 := Hd.mk (kx1.out.trans hx2)
    have kA2 := Hd.mk (kA1.out.ext hx2)
    have kB2 := Hd.mk (kB1.out.ext hx2)
    have hsz2 := Hd.mk (Nat.le_trans hsz1.out hx2.size)
    clear kA1 kB1 kx1 hx2 gA hsz1
    have gA := kA2.out.cell
    have gB := kB2.out.cell
    by_cases h1 : x.kind = 0
    · have h1' := Hd.mk (show (x.kind != 0) = false by simpa using h1)
      rw [h1'.out]
      replace h1 := Hd.mk h1
      go_wp2_with fail
      refine Calls.mono (hlx.out _) ?_
      rintro e w3 ⟨rfl, hx3⟩
      rw [h1'.out]
      have kx3 := Hd.mk (kx2.out.trans hx3)
      have kA3 := Hd.mk (kA2.out.ext hx3)
      have kB3 := Hd.mk (kB2.out.ext hx3)
      have hsz3 := Hd.mk (Nat.le_trans hsz2.out hx3.size)
      clear kA2 kB2 kx2 hx3 gA gB hsz2
      have gA := kA3.out.cell
      have gB := kB3.out.cell
      go_wp2_with fail
      refine Calls.mono (hly.out _) ?_
      rintro e w4 ⟨rfl, hx4⟩
      have kx4 := Hd.mk (kx3.out.trans hx4)
      have kA4 := Hd.mk (kA3.out.ext hx4)
      have kB4 := Hd.mk (kB3.out.ext hx4)
      have hsz4 := Hd.mk (Nat.le_trans hsz3.out hx4.size)
      clear kA3 kB3 kx3 hx4 gA gB hsz3
      by_cases h2 : y.kind = 0
      · have h2' := Hd.mk (show (y.kind != 0) = false by simpa using h2)
        rw [h2'.out]
        have hb : be = edits N x y wy := by rw [← hwy.out, ← hbe.out, bothE, if_neg (by rw [hs.out]; decide), if_neg (by simp [h1.out]), if_neg (by simp [h1.out, h2])]
        subst hb
        replace h2 := Hd.mk h2
        have kh4 := Hd.mk (kh.out.ext kx4.out)
        have kW := Hd.mk kh4.out.env.wayb
        have kE := Hd.mk kh4.out.ed.blk
        go_wp2_with fail
        refine Flow.wp_region_flow_l (fun qq => match qq with
          | 9 => SP.eq (.func (.func 93) #[] #[.pointer (some ⟨O, 0, none⟩), .pointer (some ⟨Ed, 0, none⟩)])
          | 10 => SP.eq (.agg #[.string x.name, .string x.key, .int .i64 x.kind, .int .u64 x.num, .string x.text, .slice K x.kids.length kc])
          | 11 => SP.eq (.agg #[.string y.name, .string y.key, .int .i64 y.kind, .int .u64 y.num, .string y.text, .slice K' y.kids.length kc'])
          | 12 => SP.eq (.slice A way.length ac)
          | 13 => SP.eq (.agg #[.string x.name, .string x.key, .int .i64 x.kind, .int .u64 x.num, .string x.text, .slice K x.kids.length kc])
          | 14 => spWay wy w4.heap.size
          | _ => SP.any) 6 (by kernel_rfl) 49 rfl (by kernel_rfl) ?_ ?_
        · skip
          refine ⟨?_, ?_, ?_, ?_, ?_, ?_, trivial⟩
          · intro act W2 hk
            refine Flow.does_intro rfl (fun Kq hK => ?_)
            have e6 : act.tmps[6]?.getD undef = .pointer (some ⟨Ed, 0, none⟩) := hk.o 6 (by kernel_rfl)
            have g := ((kE.out).ext ((Ext.drew w4).trans hk.ext)).cell
            clear hk
            go_simp
            exact hK _ _ (Ext.refl _) (fun d hd => by cases hd; rfl)
          · intro act W2 hk
            refine Flow.does_intro rfl (fun Kq hK => ?_)
            have e7 : act.tmps[7]?.getD undef = .pointer (some ⟨pA, 0, none⟩) := hk.o 7 (by kernel_rfl)
            have g := ((kA4.out).ext ((Ext.drew w4).trans hk.ext)).cell
            clear hk
            go_simp
            exact hK _ _ (Ext.refl _) (fun d hd => by cases hd; rfl)
          · intro act W2 hk
            refine Flow.does_intro rfl (fun Kq hK => ?_)
            have e8 : act.tmps[8]?.getD undef = .pointer (some ⟨(pA + 1), 0, none⟩) := hk.o 8 (by kernel_rfl)
            have g := ((kB4.out).ext ((Ext.drew w4).trans hk.ext)).cell
            clear hk
            go_simp
            exact hK _ _ (Ext.refl _) (fun d hd => by cases hd; rfl)
          · intro act W2 hk
            refine Flow.does_intro rfl (fun Kq hK => ?_)
            have e3 : act.tmps[3]?.getD undef = .pointer (some ⟨Wy, 0, none⟩) := hk.o 3 (by kernel_rfl)
            have g := ((kW.out).ext ((Ext.drew w4).trans hk.ext)).cell
            clear hk
            go_simp
            exact hK _ _ (Ext.refl _) (fun d hd => by cases hd; rfl)
          · intro act W2 hk
            refine Flow.does_intro rfl (fun Kq hK => ?_)
            have e7 : act.tmps[7]?.getD undef = .pointer (some ⟨pA, 0, none⟩) := hk.o 7 (by kernel_rfl)
            have g := ((kA4.out).ext ((Ext.drew w4).trans hk.ext)).cell
            clear hk
            go_simp
            exact hK _ _ (Ext.refl _) (fun d hd => by cases hd; rfl)
          · intro act W2 hk
            refine Flow.does_intro rfl (fun Kq hK => ?_)
            have e12 : act.tmps[12]?.getD undef = .slice A way.length ac := hk.v 12 (by kernel_rfl)
            have e13 : act.tmps[13]?.getD undef = .agg #[.string x.name, .string x.key, .int .i64 x.kind, .int .u64 x.num, .string x.text, .slice K x.kids.length kc] := hk.v 13 (by kernel_rfl)
            have hx0 := Hd.mk ((Ext.drew w4).trans hk.ext)
            have hsz0 := hx0.out.size
            have hon := Hd.mk (diff_on x K x.kids.length kc kh4.out.env.row hx0.out (by have := hw.out; omega))
            rw [hwy.out] at hon
            clear hk
            go_simp
            refine Calls.mono (hon.out) ?_
            rintro e W3 ⟨_, rfl, A', c', rfl, hr', hx⟩
            exact hK _ _ hx (fun d hd => by cases hd; exact ⟨A', c', rfl, hr'.mono (fun b _ hb => Nat.le_trans hsz0 hb)⟩)
        · intro act W2 he
          have hxW2 := Hd.mk ((Ext.drew w4).trans he.ext)
          obtain ⟨us, hA, hF⟩ := he.out [9, 10, 11, 12, 13, 14] (by kernel_rfl)
          simp only [Flow.fillL, List.contains_cons, List.contains_nil, Nat.reduceBEq, Bool.or_false, Bool.false_or, Bool.or_true, Bool.true_or, ↓reduceIte, Nat.reduceAdd, Bool.false_eq_true] at hA
          subst hA
          have f9 : us 9 = .func (.func 93) #[] #[.pointer (some ⟨O, 0, none⟩), .pointer (some ⟨Ed, 0, none⟩)] := hF 9 (by simp)
          have f10 : us 10 = .agg #[.string x.name, .string x.key, .int .i64 x.kind, .int .u64 x.num, .string x.text, .slice K x.kids.length kc] := hF 10 (by simp)
          have f11 : us 11 = .agg #[.string y.name, .string y.key, .int .i64 y.kind, .int .u64 y.num, .string y.text, .slice K' y.kids.length kc'] := hF 11 (by simp)
          have f14 : (spWay wy w4.heap.size).p (us 14) W2 := hF 14 (by simp)
          clear hF he
          rw [f9]
          clear f9
          rw [f10]
          clear f10
          rw [f11]
          clear f11
          obtain ⟨A', c', e14, hA'⟩ := (f14 : (spWay _ _).p _ _)
          have hA' := Hd.mk hA'
          generalize us 9 = u9 at *
          generalize us 10 = u10 at *
          generalize us 11 = u11 at *
          generalize us 12 = u12 at *
          generalize us 13 = u13 at *
          generalize us 14 = u14 at *
          subst e14
          have kh5 := Hd.mk (kh4.out.ext hxW2.out)
          refine (show wpList _ _ _ (⟨some 15, .call { callee := .value (.tmp 9), args := #[.tmp 10, .tmp 11, .tmp 14], argTypes := #[54, 54, 59] }, _, _, _, none⟩ :: []) _ _ from ?_)
          have hcall := Hd.mk (ih.out B O Ed W2 _ css es wy A' c' x y _ _ hd.out kh5.out.env.outs kh5.out.ed (hA'.out.mono (fun b _ hb => by have := hOlt.out; have := hsz4.out; have := hpA.out; refine ⟨by omega, fun e => ?_⟩; have := own_lt kh.out.env.outs.own _ e; omega)) ((kr.out.ext kx4.out).ext hxW2.out) ((kr'.out.ext kx4.out).ext hxW2.out) (by have := hw.out; have := hwl.out; omega) hes.out)
          go_wp2_with fail
          refine Calls.mono hcall.out ?_
          rintro e w6 ⟨rfl, v6, css6, ho6, hf6⟩
          have ho6 := Hd.mk ho6
          have hf6 := Hd.mk ((Fr.of_ext (kx4.out.trans hxW2.out)).trans hf6)
          clear hcall
          go_wp2_with fail
          go_end0
          exact ⟨rfl, v6, css6, ho6.out, hf6.out⟩
      · have h2' := Hd.mk (show (y.kind != 0) = true by simpa using h2)
        rw [h2'.out]
        have hb : be = cutE way x ++ setE way y := by rw [← hbe.out, bothE, if_neg (by rw [hs.out]; decide), if_neg (by simp [h1.out]), if_pos (.inr h2)]
        subst hb
        replace h2 := Hd.mk h2
        have kh4 := Hd.mk (kh.out.ext kx4.out)
        have gC := kh4.out.cb.blk.cell
        have gA := kA4.out.cell
        go_wp2_with fail
        refine Calls.mono (cut_any kh4.out.env (kr.out.ext kx4.out) (by have := hw.out; omega) (by have := hes.out; have := hsx.out; omega)) ?_
        rintro e w5 ⟨rfl, v5, css5, ho5, hf5⟩
        have kh5 := Hd.mk (kh4.out.fr ho5 hf5)
        have kB5 := Hd.mk (hf5.blk kB4.out (by have := hOlt.out; have := hpA.out; omega) (fun e => by have := own_lt kh.out.env.outs.own _ e; have := hpA.out; omega))
        have kry := Hd.mk (kh4.out.args hf5 (kr'.out.ext kx4.out))
        have hf5 := Hd.mk ((Fr.of_ext kx4.out).trans hf5)
        have gS := kh5.out.sb.blk.cell
        have gB := kB5.out.cell
        clear gC gA ho5
        go_wp2_with fail
        refine Calls.mono (set_any kh5.out.env kry.out (by have := hw.out; omega) (by have := hes.out; have := hsx.out; have := hsy.out; simp [cutE]; omega)) ?_
        rintro e w6 ⟨rfl, v6, css6, ho6, hf6⟩
        have ho6 := Hd.mk ho6
        have hf6 := Hd.mk (hf5.out.trans hf6)
        go_wp2_with fail
        go_end0
        exact ⟨rfl, v6, css6, by rw [← List.append_assoc]; exact ho6.out, hf6.out⟩
    · have h1' := Hd.mk (show (x.kind != 0) = true by simpa using h1)
      rw [h1'.out]
      replace h1 := Hd.mk h1
      go_wp2_with fail
      refine Calls.mono (hly.out _) ?_
      rintro e w3 ⟨rfl, hx3⟩
      have kx3 := Hd.mk (kx2.out.trans hx3)
      have kA3 := Hd.mk (kA2.out.ext hx3)
      have kB3 := Hd.mk (kB2.out.ext hx3)
      have hsz3 := Hd.mk (Nat.le_trans hsz2.out hx3.size)
      clear kA2 kB2 kx2 hx3 gA gB hsz2
      by_cases h2 : y.kind = 0
      · have h2' := Hd.mk (show (y.kind != 0) = false by simpa using h2)
        rw [h2'.out]
        have hb : be = cutE way x ++ setE way y := by rw [← hbe.out, bothE, if_neg (by rw [hs.out]; decide), if_neg (by simp [h2]), if_pos (.inl h1.out)]
        subst hb
        replace h2 := Hd.mk h2
        have gA := kA3.out.cell
        have gB := kB3.out.cell
        go_wp2_with fail
        refine Calls.mono (hlx.out _) ?_
        rintro e w4 ⟨rfl, hx4⟩
        rw [h1'.out]
        have kx4 := Hd.mk (kx3.out.trans hx4)
        have kA4 := Hd.mk (kA3.out.ext hx4)
        have kB4 := Hd.mk (kB3.out.ext hx4)
        have hsz4 := Hd.mk (Nat.le_trans hsz3.out hx4.size)
        clear kA3 kB3 kx3 hx4 gA gB hsz3
        have kh4 := Hd.mk (kh.out.ext kx4.out)
        have gC := kh4.out.cb.blk.cell
        have gA := kA4.out.cell
        go_wp2_with fail
        refine Calls.mono (cut_any kh4.out.env (kr.out.ext kx4.out) (by have := hw.out; omega) (by have := hes.out; have := hsx.out; omega)) ?_
        rintro e w5 ⟨rfl, v5, css5, ho5, hf5⟩
        have kh5 := Hd.mk (kh4.out.fr ho5 hf5)
        have kB5 := Hd.mk (hf5.blk kB4.out (by have := hOlt.out; have := hpA.out; omega) (fun e => by have := own_lt kh.out.env.outs.own _ e; have := hpA.out; omega))
        have kry := Hd.mk (kh4.out.args hf5 (kr'.out.ext kx4.out))
        have hf5 := Hd.mk ((Fr.of_ext kx4.out).trans hf5)
        have gS := kh5.out.sb.blk.cell
        have gB := kB5.out.cell
        clear gC gA ho5
        go_wp2_with fail
        refine Calls.mono (set_any kh5.out.env kry.out (by have := hw.out; omega) (by have := hes.out; have := hsx.out; have := hsy.out; simp [cutE]; omega)) ?_
        rintro e w6 ⟨rfl, v6, css6, ho6, hf6⟩
        have ho6 := Hd.mk ho6
        have hf6 := Hd.mk (hf5.out.trans hf6)
        go_wp2_with fail
        go_end0
        exact ⟨rfl, v6, css6, by rw [← List.append_assoc]; exact ho6.out, hf6.out⟩
      · have h2' := Hd.mk (show (y.kind != 0) = true by simpa using h2)
        rw [h2'.out]
        have hb : be = [⟨3, wy, y, x⟩] := by rw [← hwy.out, ← hbe.out, bothE, if_neg (by rw [hs.out]; decide), if_pos ⟨h1.out, h2⟩]
        subst hb
        have kh3 := Hd.mk (kh.out.ext kx3.out)
        have kW := Hd.mk kh3.out.env.wayb
        have kO := Hd.mk kh3.out.env.outs.box
        go_wp2_with fail
        obtain ⟨K9, kc9, e9, krow9⟩ := (kr.out.ext kx3.out).row
        obtain ⟨K8, kc8, e8, krow8⟩ := (kr'.out.ext kx3.out).row
        simp only [cT, List.cons.injEq, Value.slice.injEq, true_and, and_true] at e8 e9
        obtain ⟨rfl, rfl⟩ := e8
        obtain ⟨rfl, rfl⟩ := e9
        have krow := Hd.mk krow9
        have krow' := Hd.mk krow8
        clear krow9 krow8
        refine Flow.wp_region_flow_l (fun qq => match qq with
          | 27 => SP.eq (.slice V es.length vc)
          | 28 => SP.eq (.slice A way.length ac)
          | 29 => SP.eq (.agg #[.string x.name, .string x.key, .int .i64 x.kind, .int .u64 x.num, .string x.text, .slice K x.kids.length kc])
          | 30 => spWay wy w3.heap.size
          | 31 => SP.eq (.agg #[.string y.name, .string y.key, .int .i64 y.kind, .int .u64 y.num, .string y.text, .slice K' y.kids.length kc'])
          | 32 => SP.eq (.agg #[.string x.name, .string x.key, .int .i64 x.kind, .int .u64 x.num, .string x.text, .slice K x.kids.length kc])
          | 33 => spEd (⟨3, wy, y, x⟩ : E) B w3.heap.size
          | 34 => spEds (⟨3, wy, y, x⟩ : E) B w3.heap.size
          | _ => SP.any) 8 (by kernel_rfl) 49 rfl (by kernel_rfl) ?_ ?_
        · skip
          refine ⟨?_, ?_, ?_, ?_, ?_, ?_, ?_, ?_, trivial⟩
          · intro act W2 hk
            refine Flow.does_intro rfl (fun Kq hK => ?_)
            have e2 : act.tmps[2]?.getD undef = .pointer (some ⟨O, 0, none⟩) := hk.o 2 (by kernel_rfl)
            have g := ((kO.out).ext ((Ext.drew w3).trans hk.ext)).cell
            clear hk
            go_simp
            exact hK _ _ (Ext.refl _) (fun d hd => by cases hd; rfl)
          · intro act W2 hk
            refine Flow.does_intro rfl (fun Kq hK => ?_)
            have e3 : act.tmps[3]?.getD undef = .pointer (some ⟨Wy, 0, none⟩) := hk.o 3 (by kernel_rfl)
            have g := ((kW.out).ext ((Ext.drew w3).trans hk.ext)).cell
            clear hk
            go_simp
            exact hK _ _ (Ext.refl _) (fun d hd => by cases hd; rfl)
          · intro act W2 hk
            refine Flow.does_intro rfl (fun Kq hK => ?_)
            have e7 : act.tmps[7]?.getD undef = .pointer (some ⟨pA, 0, none⟩) := hk.o 7 (by kernel_rfl)
            have g := ((kA3.out).ext ((Ext.drew w3).trans hk.ext)).cell
            clear hk
            go_simp
            exact hK _ _ (Ext.refl _) (fun d hd => by cases hd; rfl)
          · intro act W2 hk
            refine Flow.does_intro rfl (fun Kq hK => ?_)
            have e28 : act.tmps[28]?.getD undef = .slice A way.length ac := hk.v 28 (by kernel_rfl)
            have e29 : act.tmps[29]?.getD undef = .agg #[.string x.name, .string x.key, .int .i64 x.kind, .int .u64 x.num, .string x.text, .slice K x.kids.length kc] := hk.v 29 (by kernel_rfl)
            have hx0 := Hd.mk ((Ext.drew w3).trans hk.ext)
            have hsz0 := hx0.out.size
            have hon := Hd.mk (diff_on x K x.kids.length kc kh3.out.env.row hx0.out (by have := hw.out; omega))
            rw [hwy.out] at hon
            clear hk
            go_simp
            refine Calls.mono (hon.out) ?_
            rintro e W3 ⟨_, rfl, A', c', rfl, hr', hx⟩
            exact hK _ _ hx (fun d hd => by cases hd; exact ⟨A', c', rfl, hr'.mono (fun b _ hb => Nat.le_trans hsz0 hb)⟩)
          · intro act W2 hk
            refine Flow.does_intro rfl (fun Kq hK => ?_)
            have e8 : act.tmps[8]?.getD undef = .pointer (some ⟨(pA + 1), 0, none⟩) := hk.o 8 (by kernel_rfl)
            have g := ((kB3.out).ext ((Ext.drew w3).trans hk.ext)).cell
            clear hk
            go_simp
            exact hK _ _ (Ext.refl _) (fun d hd => by cases hd; rfl)
          · intro act W2 hk
            refine Flow.does_intro rfl (fun Kq hK => ?_)
            have e7 : act.tmps[7]?.getD undef = .pointer (some ⟨pA, 0, none⟩) := hk.o 7 (by kernel_rfl)
            have g := ((kA3.out).ext ((Ext.drew w3).trans hk.ext)).cell
            clear hk
            go_simp
            exact hK _ _ (Ext.refl _) (fun d hd => by cases hd; rfl)
          · intro act W2 hk
            refine Flow.does_intro rfl (fun Kq hK => ?_)
            have e31 : act.tmps[31]?.getD undef = .agg #[.string y.name, .string y.key, .int .i64 y.kind, .int .u64 y.num, .string y.text, .slice K' y.kids.length kc'] := hk.v 31 (by kernel_rfl)
            have e32 : act.tmps[32]?.getD undef = .agg #[.string x.name, .string x.key, .int .i64 x.kind, .int .u64 x.num, .string x.text, .slice K x.kids.length kc] := hk.v 32 (by kernel_rfl)
            have hx0 := Hd.mk ((Ext.drew w3).trans hk.ext)
            obtain ⟨A', c', e30, h30⟩ := (hk.v 30 (by kernel_rfl) : (spWay _ _).p _ _)
            have h30 := Hd.mk h30
            clear hk
            go_simp
            exact hK _ _ (Ext.refl _) (fun d hd => by cases hd; exact ⟨_, rfl, A', c', K', kc', K, kc, rfl, h30.out.mono (fun b _ hb => .inr hb), ((krow'.out.ext hx0.out).mono' (fun b _ hb => .inl hb)), ((krow.out.ext hx0.out).mono' (fun b _ hb => .inl hb))⟩)
          · intro act W2 hk
            refine Flow.does_intro rfl (fun Kq hK => ?_)
            obtain ⟨c', e33, h33⟩ := (hk.v 33 (by kernel_rfl) : (spEd _ _ _).p _ _)
            have h33' := h33
            obtain ⟨q1, q2, q3, q4, q5, q6, rfl, _⟩ := h33'
            simp only [cT, List.cons_append, List.nil_append] at e33
            have h33 := Hd.mk h33
            clear hk
            go_simp
            exact hK _ _ (Ext.alloc _ _) (fun d hd => by cases hd; exact ⟨_, _, rfl, Blk.new _ _ _, h33.out.ext (Ext.alloc _ _)⟩)
        · intro act W2 he
          have hxW2 := Hd.mk ((Ext.drew w3).trans he.ext)
          obtain ⟨us, hA, hF⟩ := he.out [27, 28, 29, 30, 31, 32, 33, 34] (by kernel_rfl)
          simp only [Flow.fillL, List.contains_cons, List.contains_nil, Nat.reduceBEq, Bool.or_false, Bool.false_or, Bool.or_true, Bool.true_or, ↓reduceIte, Nat.reduceAdd, Bool.false_eq_true] at hA
          subst hA
          have f27 : us 27 = .slice V es.length vc := hF 27 (by simp)
          have f34 : (spEds (⟨3, wy, y, x⟩ : E) B w3.heap.size).p (us 34) W2 := hF 34 (by simp)
          clear hF he
          rw [f27]
          clear f27
          obtain ⟨D, c', e34, hD, hre⟩ := (f34 : (spEds _ _ _).p _ _)
          have hre' := hre
          obtain ⟨q1, q2, q3, q4, q5, q6, rfl, _⟩ := hre'
          have hD := Hd.mk hD
          have hre := Hd.mk hre
          generalize us 27 = u27 at *
          generalize us 28 = u28 at *
          generalize us 29 = u29 at *
          generalize us 30 = u30 at *
          generalize us 31 = u31 at *
          generalize us 32 = u32 at *
          generalize us 33 = u33 at *
          generalize us 34 = u34 at *
          subst e34
          have kh4 := Hd.mk (kh3.out.ext hxW2.out)
          have hO2 := Hd.mk kh4.out.env.outs.box
          have hsz4 := Hd.mk (Nat.le_trans hsz3.out hxW2.out.size)
          have hB := Hd.mk kh.out.env.outs.ob
          refine (show wpList _ _ _ (⟨some 35, .call { callee := .builtin .append, args := #[.tmp 27, .tmp 34], argTypes := #[57, 57] }, _, _, _, none⟩ :: _) _ _ from ?_)
          refine wpl_append sl57 (by omega) (by omega) (.tmp 27) (.tmp 34) 35 _ _ _ B (.slice V es.length vc) es.length css.flatten rfl kh4.out.env.outs.own D 0 1 1 _ rfl (by rw [hre.out.len]) (fun i u hi => by rw [Nat.zero_add, hD.out.cell]; exact hi) hre.out.one (by have := hes.out; have := hsx.out; omega) (by have := hO2.out.lt; have := hB.out; omega) ?_
          intro v' w' hown hgr hat
          obtain ⟨V', vc', rfl, _⟩ := own_slice hown
          have hp := Hd.mk (Outs.push kh4.out.env.outs (hre.out.mono (fun b hb h => by have h1 := hOlt.out; have h2 := hB.out; have h3 := hpA.out; have h4 := hsz3.out; refine ⟨by omega, fun hh => ?_⟩; have h5 := kh.out.env.outs.base b hh; have h6 := own_lt kh.out.env.outs.own b hh; omega)) hown hgr hat)
          have hbox := Hd.mk (grownBy_blk' hgr (fun e => kh4.out.env.outs.ne e.symm) hO2.out)
          clear hown hgr hat
          have gO := hbox.out.cell
          have fO := hbox.out.free
          go_wp2_with fail
          go_end0
          exact ⟨rfl, _, _, hp.out.1, (Fr.of_ext (kx3.out.trans hxW2.out)).trans hp.out.2⟩
end Go.Proofs.Ytgkgedjmnbjalaa
