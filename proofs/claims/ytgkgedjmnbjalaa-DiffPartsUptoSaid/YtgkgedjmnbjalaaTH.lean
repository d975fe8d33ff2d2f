/- clone: a tree in new memory.
   Conditions: none. -/
import Derived.Test.YtgkgedjmnbjalaaTG
set_option linter.unusedSimpArgs false
namespace Go.Proofs.Ytgkgedjmnbjalaa
open Go.RowKit Go.Sort

theorem own_slice {w : World} {base : Nat} {e : TypeId} {sz n : Nat} {v : Value} {xs : List Value} (h : w.ownsRow base e sz v n xs) :
    ∃ A cap, v = .slice A n cap ∧ n ≤ cap ∧ (A = none → cap = 0) ∧ (0 < n → ∃ g sp, A = some ⟨g, 0, none⟩ ∧ base ≤ g ∧ Blk w g (xs ++ sp) e) := by
  rcases Nat.eq_zero_or_pos n with h0 | h0
  · subst h0
    rcases h.2 with ⟨h1, _⟩ | ⟨g, cap, cur, hv, hb, hg, hc, hm, hs, ht⟩
    · exact ⟨none, 0, h1, Nat.le_refl _, fun _ => rfl, fun h => absurd h (Nat.lt_irrefl _)⟩
    · exact ⟨some ⟨g, 0, none⟩, cap, hv, Nat.zero_le _, fun h => (by cases h), fun h => absurd h (Nat.lt_irrefl _)⟩
  · obtain ⟨g, cap, sp, hv, hb, hg, hc, _⟩ := own_form h h0
    exact ⟨some ⟨g, 0, none⟩, cap, hv, hc, fun h => (by cases h), fun _ => ⟨g, sp, rfl, hb, hg⟩⟩

/-- Six stores, one per cell of a node. -/
theorem set6 {w : World} {g o : Nat} {cs : List Value} {t : TypeId} (h : Blk w g cs t) (ho : o + 6 ≤ cs.length) (a0 a1 a2 a3 a4 a5 : Value) :
    ∃ cs', Blk ((((((w.setCell ⟨g, o, none⟩ a0).setCell ⟨g, o + 1, none⟩ a1).setCell ⟨g, o + 2, none⟩ a2).setCell ⟨g, o + 3, none⟩ a3).setCell ⟨g, o + 4, none⟩ a4).setCell ⟨g, o + 5, none⟩ a5) g cs' t ∧
      Upd w ((((((w.setCell ⟨g, o, none⟩ a0).setCell ⟨g, o + 1, none⟩ a1).setCell ⟨g, o + 2, none⟩ a2).setCell ⟨g, o + 3, none⟩ a3).setCell ⟨g, o + 4, none⟩ a4).setCell ⟨g, o + 5, none⟩ a5) g ∧
      cs'.length = cs.length ∧ (∀ p, p < o ∨ o + 6 ≤ p → cs'[p]? = cs[p]?) ∧ ∀ q v, [a0, a1, a2, a3, a4, a5][q]? = some v → cs'[o + q]? = some v := by
  refine ⟨_, (((((h.setCell o a0).setCell (o + 1) a1).setCell (o + 2) a2).setCell (o + 3) a3).setCell (o + 4) a4).setCell (o + 5) a5,
    (((((Upd.setCell w ⟨g, o, none⟩ a0).trans (Upd.setCell _ ⟨g, o + 1, none⟩ a1)).trans (Upd.setCell _ ⟨g, o + 2, none⟩ a2)).trans (Upd.setCell _ ⟨g, o + 3, none⟩ a3)).trans (Upd.setCell _ ⟨g, o + 4, none⟩ a4)).trans (Upd.setCell _ ⟨g, o + 5, none⟩ a5), by simp, fun p hp => ?_, fun q v hq => ?_⟩
  · rw [List.getElem?_set_ne (by omega), List.getElem?_set_ne (by omega), List.getElem?_set_ne (by omega), List.getElem?_set_ne (by omega), List.getElem?_set_ne (by omega), List.getElem?_set_ne (by omega)]
  · match q, hq with
    | 0, hq => simp at hq; subst hq; show (_ : List Value)[o]? = _; rw [List.getElem?_set_ne (by omega), List.getElem?_set_ne (by omega), List.getElem?_set_ne (by omega), List.getElem?_set_ne (by omega), List.getElem?_set_ne (by omega), List.getElem?_set_self (by omega)]
    | 1, hq => simp at hq; subst hq; rw [List.getElem?_set_ne (by omega), List.getElem?_set_ne (by omega), List.getElem?_set_ne (by omega), List.getElem?_set_ne (by omega), List.getElem?_set_self (by simp only [List.length_set]; omega)]
    | 2, hq => simp at hq; subst hq; rw [List.getElem?_set_ne (by omega), List.getElem?_set_ne (by omega), List.getElem?_set_ne (by omega), List.getElem?_set_self (by simp only [List.length_set]; omega)]
    | 3, hq => simp at hq; subst hq; rw [List.getElem?_set_ne (by omega), List.getElem?_set_ne (by omega), List.getElem?_set_self (by simp only [List.length_set]; omega)]
    | 4, hq => simp at hq; subst hq; rw [List.getElem?_set_ne (by omega), List.getElem?_set_self (by simp only [List.length_set]; omega)]
    | 5, hq => simp at hq; subst hq; rw [List.getElem?_set_self (by simp only [List.length_set]; omega)]
    | q + 6, hq => simp at hq

/-- A tree has been told, in memory from a block on. -/
def spT (k : T) (B : Nat) : SP := ⟨fun v w => ∃ c : List Value, v = .agg c.toArray ∧ RT (B ≤ ·) w k c, fun _ _ _ h ⟨c, e, hr⟩ => ⟨c, e, hr.ext h⟩⟩

/-- How far the row has been turned. -/
def Turned (S : Nat → Prop) (w : World) (kids : List T) (A : Option Addr) (j : Nat) (B : Nat) (wr : World) : Prop :=
  0 < kids.length → ∃ g cs, A = some ⟨g, 0, none⟩ ∧ B ≤ g ∧ Blk wr g cs 54 ∧ kids.length * 6 ≤ cs.length ∧
    ∀ i k, kids[i]? = some k → ∃ d, (∀ q v, d[q]? = some v → cs[i * 6 + q]? = some v) ∧ (i < j → RT (g < ·) wr k d) ∧ (j ≤ i → RT S w k d)
theorem Turned.ext {S : Nat → Prop} {w wr w' : World} {kids : List T} {A : Option Addr} {j B : Nat} (hx : Ext wr w') (h : Turned S w kids A j B wr) : Turned S w kids A j B w' := fun hp => by
  obtain ⟨g, cs, h1, h2, h3, h4, h5⟩ := h hp
  refine ⟨g, cs, h1, h2, h3.ext hx, h4, fun i k hi => ?_⟩
  obtain ⟨d, d1, d2, d3⟩ := h5 i k hi
  exact ⟨d, d1, fun hh => (d2 hh).ext hx, d3⟩
theorem RT.upd {S : Nat → Prop} {w w' : World} {g : Nat} (hu : Upd w w' g) (hs : ¬ S g) {t : T} {c : List Value} (h : RT S w t c) : RT S w' t c :=
  h.keep fun b off v hb hc => ⟨hb, by
    have hne : b ≠ g := fun e => hs (e ▸ hb)
    have : w'.cell? ⟨b, off, none⟩ = w.cell? ⟨b, off, none⟩ := World.cell?_of_block (hu.block b hne)
    rw [this]; exact hc⟩
theorem Turned.upd {S : Nat → Prop} {w wr w' : World} {kids : List T} {A : Option Addr} {j B p : Nat} (hu : Upd wr w' p) (hp : p < B) (h : Turned S w kids A j B wr) : Turned S w kids A j B w' := fun hpos => by
  obtain ⟨g, cs, h1, h2, h3, h4, h5⟩ := h hpos
  refine ⟨g, cs, h1, h2, hu.blk (by omega) h3, h4, fun i k hi => ?_⟩
  obtain ⟨d, d1, d2, d3⟩ := h5 i k hi
  exact ⟨d, d1, fun hh => (d2 hh).upd hu (by omega), d3⟩
theorem Turned.step {S : Nat → Prop} {w wr w' : World} {kids : List T} {j B g : Nat} {cs cs' : List Value} {k : T} {d : List Value} (hk : kids[j]? = some k) (h : Turned S w kids (some ⟨g, 0, none⟩) j B wr)
    (hcs : Blk wr g cs 54) (hu : Upd wr w' g) (hb : Blk w' g cs' 54) (hl : cs'.length = cs.length) (ho : ∀ p, p < j * 6 ∨ j * 6 + 6 ≤ p → cs'[p]? = cs[p]?) (hd : ∀ q v, d[q]? = some v → cs'[j * 6 + q]? = some v) (hr : RT (g < ·) wr k d) :
    Turned S w kids (some ⟨g, 0, none⟩) (j + 1) B w' := fun hpos => by
  obtain ⟨g', cs0, h1, h2, h3, h4, h5⟩ := h hpos
  simp only [Option.some.injEq, Addr.mk.injEq, and_true] at h1
  subst h1
  obtain rfl := h3.inj hcs
  refine ⟨g, cs', rfl, h2, hb, by rw [hl]; exact h4, fun i x hi => ?_⟩
  by_cases hij : i = j
  · subst hij
    rw [hk] at hi
    cases hi
    exact ⟨d, hd, fun _ => hr.upd hu (Nat.lt_irrefl _), fun h => absurd h (by omega)⟩
  · obtain ⟨e, d1, d2, d3⟩ := h5 i x hi
    have h6 : e.length = 6 := by
      by_cases hlt : i < j
      · exact (d2 hlt).len
      · exact (d3 (by omega)).len
    refine ⟨e, fun q v hv => ?_, fun hh => (d2 (by omega)).upd hu (Nat.lt_irrefl _), fun hh => d3 (by omega)⟩
    have hq := (List.getElem?_eq_some_iff.1 hv).1
    rw [ho _ (by omega)]
    exact d1 q v hv
theorem Turned.row {S : Nat → Prop} {w wr : World} {kids : List T} {A : Option Addr} {B cap : Nat} (hl : kids.length ≤ 1048576) (hc : kids.length ≤ cap) (hn : A = none → cap = 0) (h : Turned S w kids A kids.length B wr) : RRow (B ≤ ·) wr A kids cap := by
  refine ⟨hc, hl, hn, fun i k hi => ?_⟩
  have hlt := (List.getElem?_eq_some_iff.1 hi).1
  obtain ⟨g, cs, h1, h2, h3, h4, h5⟩ := h (by omega)
  obtain ⟨d, d1, d2, _⟩ := h5 i k hi
  refine ⟨g, 0, d, h1, h2, (d2 hlt).mono (fun b _ hb => by omega), fun q v hv => ?_⟩
  rw [h3.cell, Nat.zero_add]
  exact d1 q v hv
theorem Turned.start {S : Nat → Prop} {w wr : World} {kids : List T} {css : List (List Value)} {A : Option Addr} {B : Nat} (h1 : css.length = kids.length) (h2 : ∀ c ∈ css, c.length = 6) (h3 : ∀ (i : Nat) k c, kids[i]? = some k → css[i]? = some c → RT S w k c)
    (h4 : 0 < kids.length → ∃ g sp, A = some ⟨g, 0, none⟩ ∧ B ≤ g ∧ Blk wr g (css.flatten ++ sp) 54) : Turned S w kids A 0 B wr := fun hpos => by
  obtain ⟨g, sp, e1, e2, e3⟩ := h4 hpos
  refine ⟨g, _, e1, e2, e3, by rw [List.length_append, flatten_len css h2, h1]; omega, fun i k hi => ?_⟩
  have hlt : i < css.length := by rw [h1]; exact (List.getElem?_eq_some_iff.1 hi).1
  refine ⟨css[i], fun q v hv => ?_, fun h => absurd h (by omega), fun _ => h3 i k _ hi (List.getElem?_eq_getElem hlt)⟩
  have := flatten_get css h2 i _ (List.getElem?_eq_getElem hlt) q v hv
  rw [List.getElem?_append_left (List.getElem?_eq_some_iff.1 this).1]
  exact this

/-- What clone tells. -/
def ClPost (t : T) (w w' : World) (v : Value) : Prop := ∃ c : List Value, v = .agg c.toArray ∧ RT (w.heap.size ≤ ·) w' t c ∧ Ext w w'

set_option maxRecDepth 100000 in
set_option maxHeartbeats 4000000 in
theorem tree_clone : ∀ (N : Nat) (t : T) (S : Nat → Prop) (w : World) (c : List Value), t.deep ≤ N → RT S w t c → Calls Try.prog 114 #[.agg c.toArray] w (Ret (ClPost t w))
  | 0, t, S, w, c, hn, _ => by rw [t.deep_eq] at hn; omega
  | N + 1, t, S, w, c, hn, h => by
    obtain ⟨K, kc, rfl, hrow⟩ := h.row
    have kn := Hd.mk (show deepL t.kids ≤ N by rw [T.deep_eq] at hn; omega)
    have ih := Hd.mk (tree_clone N)
    have hlb := hrow.len
    have kr := Hd.mk hrow
    clear hrow h hn
    simp only [cT]
    go_enter Try.func114, Try.ntmps114
    go_wp2_with fail
    have kx := Hd.mk ((Ext.alloc w (.cells #[.string t.name, .string t.key, .int .i64 t.kind, .int .u64 t.num, .string t.text, .slice K t.kids.length kc] 54)).trans (Ext.alloc _ (.cells #[.string ⟨#[]⟩, .string ⟨#[]⟩, .int .i64 0, .int .u64 0, .string ⟨#[]⟩, .slice none 0 0] 54)))
    have kA := Hd.mk ((Blk.new w #[.string t.name, .string t.key, .int .i64 t.kind, .int .u64 t.num, .string t.text, .slice K t.kids.length kc] 54).alloc (.cells #[.string ⟨#[]⟩, .string ⟨#[]⟩, .int .i64 0, .int .u64 0, .string ⟨#[]⟩, .slice none 0 0] 54))
    have kR := Hd.mk (Blk.new2 w (.cells #[.string t.name, .string t.key, .int .i64 t.kind, .int .u64 t.num, .string t.text, .slice K t.kids.length kc] 54) #[.string ⟨#[]⟩, .string ⟨#[]⟩, .int .i64 0, .int .u64 0, .string ⟨#[]⟩, .slice none 0 0] 54)
    have hsz := Hd.mk (show ((w.alloc (.cells #[.string t.name, .string t.key, .int .i64 t.kind, .int .u64 t.num, .string t.text, .slice K t.kids.length kc] 54)).alloc (.cells #[.string ⟨#[]⟩, .string ⟨#[]⟩, .int .i64 0, .int .u64 0, .string ⟨#[]⟩, .slice none 0 0] 54)).heap.size = w.heap.size + 2 by simp)
    generalize (w.alloc _).alloc _ = W at *
    refine Calls.mono (clone_nodes kr.out kx.out) ?_
    rintro e w1 ⟨_, rfl, css, h1, h2, h3, hown, hx1⟩
    obtain ⟨A, cap, rfl, hcap, hnul, hrows⟩ := own_slice hown
    rw [hsz.out] at hrows
    have hT0 := Hd.mk (Turned.start (B := w.heap.size + 2) h1 h2 h3 hrows)
    have kA1 := Hd.mk (kA.out.ext hx1)
    have kR1 := Hd.mk (kR.out.ext hx1)
    have kx1 := Hd.mk (kx.out.trans hx1)
    have hcap := Hd.mk hcap
    have hnul := Hd.mk hnul
    clear h1 h2 h3 hown hx1 hrows
    have gA := kA1.out.cell
    have fA := kA1.out.free
    go_wp2_with fail
    have kA2 := Hd.mk (kA1.out.setCell 5 (.slice A t.kids.length cap))
    have hu := Hd.mk (Upd.setCell w1 ⟨w.heap.size, 5, none⟩ (.slice A t.kids.length cap))
    have kR2 := Hd.mk (hu.out.blk (by simp) kR1.out)
    have hT1 := Hd.mk (Turned.upd hu.out (by simp) hT0.out)
    have kx2 := Hd.mk (show Ext w _ from Below.trans kx1.out (hu.out.below (Nat.le_refl _)))
    clear gA fA hu kA1 kR1 kx1 hT0 kA kR
    generalize w1.setCell _ _ = W1 at *
    go_loopg [12] (t.kids.length + 1) (fun q i wr => ∃ j : Nat, j ≤ t.kids.length ∧ Hd (q = t.kids.length + 1 - j) ∧ i = .int .i64 j ∧ Hd (Ext w wr) ∧ Hd (Turned S w t.kids A j (w.heap.size + 2) wr) ∧
      Hd (Blk wr w.heap.size [.string t.name, .string t.key, .int .i64 t.kind, .int .u64 t.num, .string t.text, .slice A t.kids.length cap] 54) ∧ Hd (Blk wr (w.heap.size + 1) [.string ⟨#[]⟩, .string ⟨#[]⟩, .int .i64 0, .int .u64 0, .string ⟨#[]⟩, .slice none 0 0] 54))
    case atStart => exact ⟨0, by omega, ⟨by omega⟩, rfl, kx2, hT1, kA2, kR2⟩
    case round =>
    obtain ⟨j, hj, hq, rfl, hxr, hT, kA, kR⟩ := hrel
    by_cases hlt : j < t.kids.length
    · have hkj := List.getElem?_eq_getElem hlt
      generalize t.kids[j] = k at hkj
      have hkj := Hd.mk hkj
      obtain ⟨g, cs, rfl, hge, hcs, hlen, hall⟩ := hT.out (by omega)
      obtain ⟨d, hd1, _, hd2⟩ := hall j k hkj.out
      have hrk := hd2 (Nat.le_refl _)
      obtain ⟨K', kc', rfl, _⟩ := hrk.row
      have hkd := Hd.mk (show k.deep ≤ N by have := deepL_mem hkj.out; have := kn.out; omega)
      have hcs := Hd.mk hcs
      have hlen := Hd.mk hlen
      have hd1' : ∀ (q : Nat) v, (cT k.name k.key k.kind k.num k.text K' k.kids.length kc')[q]? = some v → wr.cell? ⟨g, j * 6 + q, none⟩ = some v := fun q v hv => by rw [hcs.out.cell]; exact hd1 q v hv
      obtain ⟨e0, e1, e2, e3, e4, e5⟩ := six (Ext.refl wr) hd1'
      have hrk := Hd.mk hrk
      have hglt := Hd.mk hcs.out.lt
      clear hall hd1 hd2 hd1'
      go_wp2_with fail
      have hxb := Hd.mk (Ext.alloc wr (.cells #[.string k.name, .string k.key, .int .i64 k.kind, .int .u64 k.num, .string k.text, .slice K' k.kids.length kc'] 54))
      have kB := Hd.mk (Blk.new wr #[.string k.name, .string k.key, .int .i64 k.kind, .int .u64 k.num, .string k.text, .slice K' k.kids.length kc'] 54)
      have kA' := Hd.mk (kA.out.ext hxb.out)
      have kR' := Hd.mk (kR.out.ext hxb.out)
      have hT' := Hd.mk (hT.out.ext hxb.out)
      have hcs' := Hd.mk (hcs.out.ext hxb.out)
      have hxr' := Hd.mk (hxr.out.trans hxb.out)
      have hrkV := Hd.mk (hrk.out)
      have hgl2 := Hd.mk (Nat.lt_of_lt_of_le hglt.out hxb.out.size)
      clear e0 e1 e2 e3 e4 e5 hxb kA kR hT hcs
      generalize wr.heap.size = pB at *
      generalize wr.alloc _ = V at *
      refine Flow.wp_region_flow_l (fun qq => match qq with
        | 17 => SP.eq (.pointer (some ⟨w.heap.size, 5, none⟩))
        | 18 => SP.eq (.slice (some ⟨g, 0, none⟩) t.kids.length cap)
        | 19 => SP.eq (.int .i64 (j : Nat))
        | 20 => SP.eq (.agg #[.string k.name, .string k.key, .int .i64 k.kind, .int .u64 k.num, .string k.text, .slice K' k.kids.length kc'])
        | 21 => spT k V.heap.size
        | 22 => SP.eq (.pointer (some ⟨g, j * 6, none⟩))
        | _ => SP.any) 6 (by kernel_rfl) 25 rfl (by kernel_rfl) ?_ ?_
      · skip
        refine ⟨?_, ?_, ?_, ?_, ?_, ?_, trivial⟩
        · intro act W2 hk
          refine Flow.does_intro rfl (fun K hK => ?_)
          have e1 : act.tmps[1]?.getD undef = .pointer (some ⟨w.heap.size, 0, none⟩) := hk.o 1 (by kernel_rfl)
          clear hk
          go_simp
          exact hK _ _ (Ext.refl _) (fun d hd => by cases hd; rfl)
        · intro act W2 hk
          refine Flow.does_intro rfl (fun K hK => ?_)
          have e17 : act.tmps[17]?.getD undef = .pointer (some ⟨w.heap.size, 5, none⟩) := hk.v 17 (by kernel_rfl)
          have g := ((kA'.out).ext ((Ext.drew V).trans hk.ext)).cell
          clear hk
          go_simp
          exact hK _ _ (Ext.refl _) (fun d hd => by cases hd; rfl)
        · intro act W2 hk
          refine Flow.does_intro rfl (fun K hK => ?_)
          have e3 : act.tmps[3]?.getD undef = .int .i64 (j : Nat) := hk.o 3 (by kernel_rfl)
          clear hk
          go_simp
          exact hK _ _ (Ext.refl _) (fun d hd => by cases hd; rfl)
        · intro act W2 hk
          refine Flow.does_intro rfl (fun K hK => ?_)
          have e4 : act.tmps[4]?.getD undef = .pointer (some ⟨pB, 0, none⟩) := hk.o 4 (by kernel_rfl)
          have g := ((kB.out).ext ((Ext.drew V).trans hk.ext)).cell
          clear hk
          go_simp
          exact hK _ _ (Ext.refl _) (fun d hd => by cases hd; rfl)
        · intro act W2 hk
          refine Flow.does_intro rfl (fun K hK => ?_)
          have e20 : act.tmps[20]?.getD undef = .agg #[.string k.name, .string k.key, .int .i64 k.kind, .int .u64 k.num, .string k.text, .slice K' k.kids.length kc'] := hk.v 20 (by kernel_rfl)
          have hx0 := Hd.mk ((Ext.drew V).trans hk.ext)
          have hsz0 := hx0.out.size
          clear hk
          go_simp
          refine Calls.mono (ih.out k S W2 _ hkd.out (hrkV.out.ext (hxr'.out.trans hx0.out))) ?_
          rintro e W3 ⟨_, rfl, c', rfl, hr', hx⟩
          exact hK _ _ hx (fun d hd => by cases hd; exact ⟨c', rfl, hr'.mono (fun b _ hb => Nat.le_trans hsz0 hb)⟩)
        · intro act W2 hk
          refine Flow.does_intro rfl (fun K hK => ?_)
          have e18 : act.tmps[18]?.getD undef = .slice (some ⟨g, 0, none⟩) t.kids.length cap := hk.v 18 (by kernel_rfl)
          have e19 : act.tmps[19]?.getD undef = .int .i64 (j : Nat) := hk.v 19 (by kernel_rfl)
          have hlt2 := hlt
          clear hk
          go_simp
          exact hK _ _ (Ext.refl _) (fun d hd => by cases hd; rfl)
      · intro act W2 he
        have hxW2 := Hd.mk ((Ext.drew V).trans he.ext)
        obtain ⟨us, hA, hF⟩ := he.out [17, 18, 19, 20, 21, 22] (by kernel_rfl)
        simp only [Flow.fillL, List.contains_cons, List.contains_nil, Nat.reduceBEq, Bool.or_false, Bool.false_or, Bool.or_true, Bool.true_or, ↓reduceIte, Nat.reduceAdd, Bool.false_eq_true] at hA
        subst hA
        have f21 : (spT k V.heap.size).p (us 21) W2 := hF 21 (by simp)
        have f22 : us 22 = .pointer (some ⟨g, j * 6, none⟩) := hF 22 (by simp)
        clear hF he
        rw [f22]
        clear f22
        obtain ⟨c', ec, hr'⟩ := (f21 : (spT _ _).p _ _)
        generalize us 17 = u17 at *
        generalize us 18 = u18 at *
        generalize us 19 = u19 at *
        generalize us 20 = u20 at *
        generalize us 21 = u21 at *
        subst ec
        obtain ⟨K2, kc2, rfl, _⟩ := hr'.row
        have hr' := Hd.mk hr'
        have hcs2 := Hd.mk (hcs'.out.ext hxW2.out)
        have kA2 := Hd.mk (kA'.out.ext hxW2.out)
        have kR2 := Hd.mk (kR'.out.ext hxW2.out)
        have hT2 := Hd.mk (hT'.out.ext hxW2.out)
        have hxr2 := Hd.mk (hxr'.out.trans hxW2.out)
        have hfr := hcs2.out.free
        have hl6 := hlen.out
        obtain ⟨v0, z0⟩ := cell_some hcs2.out (i := j * 6) (by omega)
        obtain ⟨v1, z1⟩ := cell_some hcs2.out (i := j * 6 + 1) (by omega)
        obtain ⟨v2, z2⟩ := cell_some hcs2.out (i := j * 6 + 2) (by omega)
        obtain ⟨v3, z3⟩ := cell_some hcs2.out (i := j * 6 + 3) (by omega)
        obtain ⟨v4, z4⟩ := cell_some hcs2.out (i := j * 6 + 4) (by omega)
        obtain ⟨v5, z5⟩ := cell_some hcs2.out (i := j * 6 + 5) (by omega)
        simp only [cT]
        refine (show wpList _ _ _ (⟨none, .store 54 (.tmp 22) (.tmp 21), _, _, _, none⟩ :: []) _ _ from ?_)
        go_wp2_with fail
        obtain ⟨cs', q1, q2, q3, q4, q5⟩ := set6 hcs2.out (o := j * 6) (by omega) (.string k.name) (.string k.key) (.int .i64 k.kind) (.int .u64 k.num) (.string k.text) (.slice K2 k.kids.length kc2)
        go_roundg (t.kids.length + 1 - (j + 1))
        case measure => have := hq.out; omega
        case rel => exact ⟨j + 1, by omega, ⟨rfl⟩, by go_num, ⟨Below.trans hxr2.out (q2.below (by omega))⟩, ⟨Turned.step hkj.out hT2.out hcs2.out q2 q1 q3 q4 q5 (hr'.out.mono (fun b _ hb => Nat.lt_of_lt_of_le hgl2.out hb))⟩, ⟨q2.blk (by omega) kA2.out⟩, ⟨q2.blk (by omega) kR2.out⟩⟩
    · have hjl : j = t.kids.length := by omega
      subst hjl
      have gA := kA.out.cell
      have gR := kR.out.cell
      have fR := kR.out.free
      go_wp2_with fail
      have hu := Hd.mk ((((((Upd.setCell wr ⟨w.heap.size + 1, 0, none⟩ (.string t.name)).trans (Upd.setCell _ ⟨w.heap.size + 1, 1, none⟩ (.string t.key))).trans (Upd.setCell _ ⟨w.heap.size + 1, 2, none⟩ (.int .i64 t.kind))).trans (Upd.setCell _ ⟨w.heap.size + 1, 3, none⟩ (.int .u64 t.num))).trans (Upd.setCell _ ⟨w.heap.size + 1, 4, none⟩ (.string t.text))).trans (Upd.setCell _ ⟨w.heap.size + 1, 5, none⟩ (.slice A t.kids.length cap)))
      have hrow := Hd.mk (Turned.row hlb hcap.out hnul.out (hT.out.upd hu.out (show w.heap.size + 1 < w.heap.size + 2 by omega)))
      exact ret_box rfl (w.heap.size + 1) _ 54 _ ((((((kR.out.setCell 0 (.string t.name)).setCell 1 (.string t.key)).setCell 2 (.int .i64 t.kind)).setCell 3 (.int .u64 t.num)).setCell 4 (.string t.text)).setCell 5 (.slice A t.kids.length cap)) rfl rfl Try.underlying54 rfl size54
        ⟨_, rfl, _, rfl, RT.of_row (hrow.out.keep (fun b off v hb hc => ⟨by omega, hc⟩)), Below.trans hxr.out (hu.out.below (Nat.le_succ _))⟩
end Go.Proofs.Ytgkgedjmnbjalaa
