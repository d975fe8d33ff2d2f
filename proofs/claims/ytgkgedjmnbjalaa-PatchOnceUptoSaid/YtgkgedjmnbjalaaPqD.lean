/- Texts that the law needs, joined.
   Conditions: none. -/
import Derived.Test.YtgkgedjmnbjalaaPqC
import Derived.Laws.EntriesVeiled
set_option linter.unusedSimpArgs false
namespace Go.Proofs.Ytgkgedjmnbjalaa
open Go.RowKit Go.Sort
theorem own_slice {w : World} {base : Nat} {e : TypeId} {sz n : Nat} {v : Value} {xs : List Value} (h : w.ownsRow base e sz v n xs) :
    ∃ A cap, v = .slice A n cap ∧ n ≤ cap ∧ (A = none → cap = 0) ∧ (0 < n → ∃ g sp, A = some ⟨g, 0, none⟩ ∧ base ≤ g ∧ Blk w g (xs ++ sp) e) := by
  rcases Nat.eq_zero_or_pos n with h0 | h0
  · subst h0
    rcases h.2 with ⟨h1, _⟩ | ⟨g, cap, cur, hv, hb, hg, hc, hm, hs, ht⟩
    · exact ⟨none, 0, h1, Nat.le_refl _, fun _ => rfl, fun h => absurd h (Nat.lt_irrefl _)⟩
    · exact ⟨some ⟨g, 0, none⟩, cap, hv, Nat.zero_le _, fun h => (by cases h), fun h => absurd h (Nat.lt_irrefl _)⟩
  · obtain ⟨g, cap, sp, hv, hb, hg, hc, _⟩ := own_form h h0
    exact ⟨some ⟨g, 0, none⟩, cap, hv, hc, fun h => (by cases h), fun _ => ⟨g, sp, rfl, hb, hg⟩⟩
theorem set6 {w : World} {g o : Nat} {cs : List Value} {t : TypeId} (h : Blk w g cs t) (ho : o + 6 ≤ cs.length) (a0 a1 a2 a3 a4 a5 : Value) :
    ∃ cs', Blk ((((((w.setCell ⟨g, o, none⟩ a0).setCell ⟨g, o + 1, none⟩ a1).setCell ⟨g, o + 2, none⟩ a2).setCell ⟨g, o + 3, none⟩ a3).setCell ⟨g, o + 4, none⟩ a4).setCell ⟨g, o + 5, none⟩ a5) g cs' t ∧
      Upd w ((((((w.setCell ⟨g, o, none⟩ a0).setCell ⟨g, o + 1, none⟩ a1).setCell ⟨g, o + 2, none⟩ a2).setCell ⟨g, o + 3, none⟩ a3).setCell ⟨g, o + 4, none⟩ a4).setCell ⟨g, o + 5, none⟩ a5) g ∧
      cs'.length = cs.length ∧ (∀ p, p < o ∨ o + 6 ≤ p → cs'[p]? = cs[p]?) ∧ ∀ q v, [a0, a1, a2, a3, a4, a5][q]? = some v → cs'[o + q]? = some v := by
  refine ⟨_, (((((h.setCell o a0).setCell (o + 1) a1).setCell (o + 2) a2).setCell (o + 3) a3).setCell (o + 4) a4).setCell (o + 5) a5,
    (((((Upd.setCell w ⟨g, o, none⟩ a0).trans (Upd.setCell _ ⟨g, o + 1, none⟩ a1)).trans (Upd.setCell _ ⟨g, o + 2, none⟩ a2)).trans (Upd.setCell _ ⟨g, o + 3, none⟩ a3)).trans (Upd.setCell _ ⟨g, o + 4, none⟩ a4)).trans (Upd.setCell _ ⟨g, o + 5, none⟩ a5), by simp, fun p hp => ?_, fun q v hq => ?_⟩
  · rw [List.getElem?_set_ne (by omega), List.getElem?_set_ne (by omega), List.getElem?_set_ne (by omega), List.getElem?_set_ne (by omega), List.getElem?_set_ne (by omega), List.getElem?_set_ne (by omega)]
  · match q, hq with
    | 0, hq => simp at hq; subst hq; show (_ : List Value)[o]? = _; rw [List.getElem?_set_ne (by omega), List.getElem?_set_ne (by omega), List.getElem?_set_ne (by omega), List.getElem?_set_ne (by omega), List.getElem?_set_ne (by omega), List.getElem?_set_self (by omega)]
    | 1, hq => simp at hq; subst hq; rw [List.getElem?_set_ne (by omega), List.getElem?_set_ne (by omega), List.getElem?_set_ne (by omega), List.getElem?_set_ne (by omega), List.getElem?_set_self (by simp only [List.length_set]; omega)]
    | 2, hq => simp at hq; subst hq; rw [List.getElem?_set_ne (by omega), List.getElem?_set_ne (by omega), List.getElem?_set_ne (by omega), List.getElem?_set_self (by simp only [List.length_set]; omega)]
    | 3, hq => simp at hq; subst hq; rw [List.getElem?_set_ne (by omega), List.getElem?_set_ne (by omega), List.getElem?_set_self (by simp only [List.length_set]; omega)]
    | 4, hq => simp at hq; subst hq; rw [List.getElem?_set_ne (by omega), List.getElem?_set_self (by simp only [List.length_set]; omega)]
    | 5, hq => simp at hq; subst hq; rw [List.getElem?_set_self (by simp only [List.length_set]; omega)]
    | q + 6, hq => simp at hq
def spT (k : T) (B : Nat) : SP := ⟨fun v w => ∃ c : List Value, v = .agg c.toArray ∧ RT (B ≤ ·) w k c, fun _ _ _ h ⟨c, e, hr⟩ => ⟨c, e, hr.ext h⟩⟩
def Turned (S : Nat → Prop) (w : World) (kids : List T) (A : Option Addr) (j : Nat) (B : Nat) (wr : World) : Prop :=
  0 < kids.length → ∃ g cs, A = some ⟨g, 0, none⟩ ∧ B ≤ g ∧ Blk wr g cs 54 ∧ kids.length * 6 ≤ cs.length ∧
    ∀ i k, kids[i]? = some k → ∃ d, (∀ q v, d[q]? = some v → cs[i * 6 + q]? = some v) ∧ (i < j → RT (g < ·) wr k d) ∧ (j ≤ i → RT S w k d)
theorem Turned.ext {S : Nat → Prop} {w wr w' : World} {kids : List T} {A : Option Addr} {j B : Nat} (hx : Ext wr w') (h : Turned S w kids A j B wr) : Turned S w kids A j B w' := fun hp => by
  obtain ⟨g, cs, h1, h2, h3, h4, h5⟩ := h hp
  refine ⟨g, cs, h1, h2, h3.ext hx, h4, fun i k hi => ?_⟩
  obtain ⟨d, d1, d2, d3⟩ := h5 i k hi
  exact ⟨d, d1, fun hh => (d2 hh).ext hx, d3⟩
theorem RT.upd {S : Nat → Prop} {w w' : World} {g : Nat} (hu : Upd w w' g) (hs : ¬ S g) {t : T} {c : List Value} (h : RT S w t c) : RT S w' t c :=
  h.keep fun b off v hb hc => ⟨hb, by
    have hne : b ≠ g := fun e => hs (e ▸ hb)
    have : w'.cell? ⟨b, off, none⟩ = w.cell? ⟨b, off, none⟩ := World.cell?_of_block (hu.block b hne)
    rw [this]; exact hc⟩
theorem Turned.upd {S : Nat → Prop} {w wr w' : World} {kids : List T} {A : Option Addr} {j B p : Nat} (hu : Upd wr w' p) (hp : p < B) (h : Turned S w kids A j B wr) : Turned S w kids A j B w' := fun hpos => by
  obtain ⟨g, cs, h1, h2, h3, h4, h5⟩ := h hpos
  refine ⟨g, cs, h1, h2, hu.blk (by omega) h3, h4, fun i k hi => ?_⟩
  obtain ⟨d, d1, d2, d3⟩ := h5 i k hi
  exact ⟨d, d1, fun hh => (d2 hh).upd hu (by omega), d3⟩
theorem Turned.step {S : Nat → Prop} {w wr w' : World} {kids : List T} {j B g : Nat} {cs cs' : List Value} {k : T} {d : List Value} (hk : kids[j]? = some k) (h : Turned S w kids (some ⟨g, 0, none⟩) j B wr)
    (hcs : Blk wr g cs 54) (hu : Upd wr w' g) (hb : Blk w' g cs' 54) (hl : cs'.length = cs.length) (ho : ∀ p, p < j * 6 ∨ j * 6 + 6 ≤ p → cs'[p]? = cs[p]?) (hd : ∀ q v, d[q]? = some v → cs'[j * 6 + q]? = some v) (hr : RT (g < ·) wr k d) :
    Turned S w kids (some ⟨g, 0, none⟩) (j + 1) B w' := fun hpos => by
  obtain ⟨g', cs0, h1, h2, h3, h4, h5⟩ := h hpos
  simp only [Option.some.injEq, Addr.mk.injEq, and_true] at h1
  subst h1
  obtain rfl := h3.inj hcs
  refine ⟨g, cs', rfl, h2, hb, by rw [hl]; exact h4, fun i x hi => ?_⟩
  by_cases hij : i = j
  · subst hij
    rw [hk] at hi
    cases hi
    exact ⟨d, hd, fun _ => hr.upd hu (Nat.lt_irrefl _), fun h => absurd h (by omega)⟩
  · obtain ⟨e, d1, d2, d3⟩ := h5 i x hi
    have h6 : e.length = 6 := by
      by_cases hlt : i < j
      · exact (d2 hlt).len
      · exact (d3 (by omega)).len
    refine ⟨e, fun q v hv => ?_, fun hh => (d2 (by omega)).upd hu (Nat.lt_irrefl _), fun hh => d3 (by omega)⟩
    have hq := (List.getElem?_eq_some_iff.1 hv).1
    rw [ho _ (by omega)]
    exact d1 q v hv
theorem Turned.row {S : Nat → Prop} {w wr : World} {kids : List T} {A : Option Addr} {B cap : Nat} (hl : kids.length ≤ 1048576) (hc : kids.length ≤ cap) (hn : A = none → cap = 0) (h : Turned S w kids A kids.length B wr) : RRow (B ≤ ·) wr A kids cap := by
  refine ⟨hc, hl, hn, fun i k hi => ?_⟩
  have hlt := (List.getElem?_eq_some_iff.1 hi).1
  obtain ⟨g, cs, h1, h2, h3, h4, h5⟩ := h (by omega)
  obtain ⟨d, d1, d2, _⟩ := h5 i k hi
  refine ⟨g, 0, d, h1, h2, (d2 hlt).mono (fun b _ hb => by omega), fun q v hv => ?_⟩
  rw [h3.cell, Nat.zero_add]
  exact d1 q v hv
theorem Turned.start {S : Nat → Prop} {w wr : World} {kids : List T} {css : List (List Value)} {A : Option Addr} {B : Nat} (h1 : css.length = kids.length) (h2 : ∀ c ∈ css, c.length = 6) (h3 : ∀ (i : Nat) k c, kids[i]? = some k → css[i]? = some c → RT S w k c)
    (h4 : 0 < kids.length → ∃ g sp, A = some ⟨g, 0, none⟩ ∧ B ≤ g ∧ Blk wr g (css.flatten ++ sp) 54) : Turned S w kids A 0 B wr := fun hpos => by
  obtain ⟨g, sp, e1, e2, e3⟩ := h4 hpos
  refine ⟨g, _, e1, e2, e3, by rw [List.length_append, flatten_len css h2, h1]; omega, fun i k hi => ?_⟩
  have hlt : i < css.length := by rw [h1]; exact (List.getElem?_eq_some_iff.1 hi).1
  refine ⟨css[i], fun q v hv => ?_, fun h => absurd h (by omega), fun _ => h3 i k _ hi (List.getElem?_eq_getElem hlt)⟩
  have := flatten_get css h2 i _ (List.getElem?_eq_getElem hlt) q v hv
  rw [List.getElem?_append_left (List.getElem?_eq_some_iff.1 this).1]
  exact this
def ClPost (t : T) (w w' : World) (v : Value) : Prop := ∃ c : List Value, v = .agg c.toArray ∧ RT (w.heap.size ≤ ·) w' t c ∧ Ext w w'
set_option maxRecDepth 100000 in
set_option maxHeartbeats 4000000 in
theorem tree_clone : ∀ (N : Nat) (t : T) (S : Nat → Prop) (w : World) (c : List Value), t.deep ≤ N → RT S w t c → Calls Try.prog 114 #[.agg c.toArray] w (Ret (ClPost t w))
  | 0, t, S, w, c, hn, _ => by rw [t.deep_eq] at hn; omega
  | N + 1, t, S, w, c, hn, h => by
    obtain ⟨K, kc, rfl, hrow⟩ := h.row
    have kn := Hd.mk (show deepL t.kids ≤ N by rw [T.deep_eq] at hn; omega)
    have ih := Hd.mk (tree_clone N)
    have hlb := hrow.len
    have kr := Hd.mk hrow
    clear hrow h hn
    simp only [cT]
    go_enter Try.func114, Try.ntmps114
    go_wp2_with fail
    have kx := Hd.mk ((Ext.alloc w (.cells #[.string t.name, .string t.key, .int .i64 t.kind, .int .u64 t.num, .string t.text, .slice K t.kids.length kc] 54)).trans (Ext.alloc _ (.cells #[.string ⟨#[]⟩, .string ⟨#[]⟩, .int .i64 0, .int .u64 0, .string ⟨#[]⟩, .slice none 0 0] 54)))
    have kA := Hd.mk ((Blk.new w #[.string t.name, .string t.key, .int .i64 t.kind, .int .u64 t.num, .string t.text, .slice K t.kids.length kc] 54).alloc (.cells #[.string ⟨#[]⟩, .string ⟨#[]⟩, .int .i64 0, .int .u64 0, .string ⟨#[]⟩, .slice none 0 0] 54))
    have kR := Hd.mk (Blk.new2 w (.cells #[.string t.name, .string t.key, .int .i64 t.kind, .int .u64 t.num, .string t.text, .slice K t.kids.length kc] 54) #[.string ⟨#[]⟩, .string ⟨#[]⟩, .int .i64 0, .int .u64 0, .string ⟨#[]⟩, .slice none 0 0] 54)
    have hsz := Hd.mk (show ((w.alloc (.cells #[.string t.name, .string t.key, .int .i64 t.kind, .int .u64 t.num, .string t.text, .slice K t.kids.length kc] 54)).alloc (.cells #[.string ⟨#[]⟩, .string ⟨#[]⟩, .int .i64 0, .int .u64 0, .string ⟨#[]⟩, .slice none 0 0] 54)).heap.size = w.heap.size + 2 by simp)
    generalize (w.alloc _).alloc _ = W at *
    refine Calls.mono (clone_nodes kr.out kx.out) ?_
    rintro e w1 ⟨_, rfl, css, h1, h2, h3, hown, hx1⟩
    obtain ⟨A, cap, rfl, hcap, hnul, hrows⟩ := own_slice hown
    rw [hsz.out] at hrows
    have hT0 := Hd.mk (Turned.start (B := w.heap.size + 2) h1 h2 h3 hrows)
    have kA1 := Hd.mk (kA.out.ext hx1)
    have kR1 := Hd.mk (kR.out.ext hx1)
    have kx1 := Hd.mk (kx.out.trans hx1)
    have hcap := Hd.mk hcap
    have hnul := Hd.mk hnul
    clear h1 h2 h3 hown hx1 hrows
    have gA := kA1.out.cell
    have fA := kA1.out.free
    go_wp2_with fail
    have kA2 := Hd.mk (kA1.out.setCell 5 (.slice A t.kids.length cap))
    have hu := Hd.mk (Upd.setCell w1 ⟨w.heap.size, 5, none⟩ (.slice A t.kids.length cap))
    have kR2 := Hd.mk (hu.out.blk (by simp) kR1.out)
    have hT1 := Hd.mk (Turned.upd hu.out (by simp) hT0.out)
    have kx2 := Hd.mk (show Ext w _ from Below.trans kx1.out (hu.out.below (Nat.le_refl _)))
    clear gA fA hu kA1 kR1 kx1 hT0 kA kR
    generalize w1.setCell _ _ = W1 at *
    go_loopg [12] (t.kids.length + 1) (fun q i wr => ∃ j : Nat, j ≤ t.kids.length ∧ Hd (q = t.kids.length + 1 - j) ∧ i = .int .i64 j ∧ Hd (Ext w wr) ∧ Hd (Turned S w t.kids A j (w.heap.size + 2) wr) ∧
      Hd (Blk wr w.heap.size [.string t.name, .string t.key, .int .i64 t.kind, .int .u64 t.num, .string t.text, .slice A t.kids.length cap] 54) ∧ Hd (Blk wr (w.heap.size + 1) [.string ⟨#[]⟩, .string ⟨#[]⟩, .int .i64 0, .int .u64 0, .string ⟨#[]⟩, .slice none 0 0] 54))
    case atStart => exact ⟨0, by omega, ⟨by omega⟩, rfl, kx2, hT1, kA2, kR2⟩
    case round =>
    obtain ⟨j, hj, hq, rfl, hxr, hT, kA, kR⟩ := hrel
    by_cases hlt : j < t.kids.length
    · have hkj := List.getElem?_eq_getElem hlt
      generalize t.kids[j] = k at hkj
      have hkj := Hd.mk hkj
      obtain ⟨g, cs, rfl, hge, hcs, hlen, hall⟩ := hT.out (by omega)
      obtain ⟨d, hd1, _, hd2⟩ := hall j k hkj.out
      have hrk := hd2 (Nat.le_refl _)
      obtain ⟨K', kc', rfl, _⟩ := hrk.row
      have hkd := Hd.mk (show k.deep ≤ N by have := deepL_mem hkj.out; have := kn.out; omega)
      have hcs := Hd.mk hcs
      have hlen := Hd.mk hlen
      have hd1' : ∀ (q : Nat) v, (cT k.name k.key k.kind k.num k.text K' k.kids.length kc')[q]? = some v → wr.cell? ⟨g, j * 6 + q, none⟩ = some v := fun q v hv => by rw [hcs.out.cell]; exact hd1 q v hv
      obtain ⟨e0, e1, e2, e3, e4, e5⟩ := six (Ext.refl wr) hd1'
      have hrk := Hd.mk hrk
      have hglt := Hd.mk hcs.out.lt
      clear hall hd1 hd2 hd1'
      go_wp2_with fail
      have hxb := Hd.mk (Ext.alloc wr (.cells #[.string k.name, .string k.key, .int .i64 k.kind, .int .u64 k.num, .string k.text, .slice K' k.kids.length kc'] 54))
      have kB := Hd.mk (Blk.new wr #[.string k.name, .string k.key, .int .i64 k.kind, .int .u64 k.num, .string k.text, .slice K' k.kids.length kc'] 54)
      have kA' := Hd.mk (kA.out.ext hxb.out)
      have kR' := Hd.mk (kR.out.ext hxb.out)
      have hT' := Hd.mk (hT.out.ext hxb.out)
      have hcs' := Hd.mk (hcs.out.ext hxb.out)
      have hxr' := Hd.mk (hxr.out.trans hxb.out)
      have hrkV := Hd.mk (hrk.out)
      have hgl2 := Hd.mk (Nat.lt_of_lt_of_le hglt.out hxb.out.size)
      clear e0 e1 e2 e3 e4 e5 hxb kA kR hT hcs
      generalize wr.heap.size = pB at *
      generalize wr.alloc _ = V at *
      refine Flow.wp_region_flow_l (fun qq => match qq with
        | 17 => SP.eq (.pointer (some ⟨w.heap.size, 5, none⟩))
        | 18 => SP.eq (.slice (some ⟨g, 0, none⟩) t.kids.length cap)
        | 19 => SP.eq (.int .i64 (j : Nat))
        | 20 => SP.eq (.agg #[.string k.name, .string k.key, .int .i64 k.kind, .int .u64 k.num, .string k.text, .slice K' k.kids.length kc'])
        | 21 => spT k V.heap.size
        | 22 => SP.eq (.pointer (some ⟨g, j * 6, none⟩))
        | _ => SP.any) 6 (by kernel_rfl) 25 rfl (by kernel_rfl) ?_ ?_
      · skip
        refine ⟨?_, ?_, ?_, ?_, ?_, ?_, trivial⟩
        · intro act W2 hk
          refine Flow.does_intro rfl (fun K hK => ?_)
          have e1 : act.tmps[1]?.getD undef = .pointer (some ⟨w.heap.size, 0, none⟩) := hk.o 1 (by kernel_rfl)
          clear hk
          go_simp
          exact hK _ _ (Ext.refl _) (fun d hd => by cases hd; rfl)
        · intro act W2 hk
          refine Flow.does_intro rfl (fun K hK => ?_)
          have e17 : act.tmps[17]?.getD undef = .pointer (some ⟨w.heap.size, 5, none⟩) := hk.v 17 (by kernel_rfl)
          have g := ((kA'.out).ext ((Ext.drew V).trans hk.ext)).cell
          clear hk
          go_simp
          exact hK _ _ (Ext.refl _) (fun d hd => by cases hd; rfl)
        · intro act W2 hk
          refine Flow.does_intro rfl (fun K hK => ?_)
          have e3 : act.tmps[3]?.getD undef = .int .i64 (j : Nat) := hk.o 3 (by kernel_rfl)
          clear hk
          go_simp
          exact hK _ _ (Ext.refl _) (fun d hd => by cases hd; rfl)
        · intro act W2 hk
          refine Flow.does_intro rfl (fun K hK => ?_)
          have e4 : act.tmps[4]?.getD undef = .pointer (some ⟨pB, 0, none⟩) := hk.o 4 (by kernel_rfl)
          have g := ((kB.out).ext ((Ext.drew V).trans hk.ext)).cell
          clear hk
          go_simp
          exact hK _ _ (Ext.refl _) (fun d hd => by cases hd; rfl)
        · intro act W2 hk
          refine Flow.does_intro rfl (fun K hK => ?_)
          have e20 : act.tmps[20]?.getD undef = .agg #[.string k.name, .string k.key, .int .i64 k.kind, .int .u64 k.num, .string k.text, .slice K' k.kids.length kc'] := hk.v 20 (by kernel_rfl)
          have hx0 := Hd.mk ((Ext.drew V).trans hk.ext)
          have hsz0 := hx0.out.size
          clear hk
          go_simp
          refine Calls.mono (ih.out k S W2 _ hkd.out (hrkV.out.ext (hxr'.out.trans hx0.out))) ?_
          rintro e W3 ⟨_, rfl, c', rfl, hr', hx⟩
          exact hK _ _ hx (fun d hd => by cases hd; exact ⟨c', rfl, hr'.mono (fun b _ hb => Nat.le_trans hsz0 hb)⟩)
        · intro act W2 hk
          refine Flow.does_intro rfl (fun K hK => ?_)
          have e18 : act.tmps[18]?.getD undef = .slice (some ⟨g, 0, none⟩) t.kids.length cap := hk.v 18 (by kernel_rfl)
          have e19 : act.tmps[19]?.getD undef = .int .i64 (j : Nat) := hk.v 19 (by kernel_rfl)
          have hlt2 := hlt
          clear hk
          go_simp
          exact hK _ _ (Ext.refl _) (fun d hd => by cases hd; rfl)
      · intro act W2 he
        have hxW2 := Hd.mk ((Ext.drew V).trans he.ext)
        obtain ⟨us, hA, hF⟩ := he.out [17, 18, 19, 20, 21, 22] (by kernel_rfl)
        simp only [Flow.fillL, List.contains_cons, List.contains_nil, Nat.reduceBEq, Bool.or_false, Bool.false_or, Bool.or_true, Bool.true_or, ↓reduceIte, Nat.reduceAdd, Bool.false_eq_true] at hA
        subst hA
        have f21 : (spT k V.heap.size).p (us 21) W2 := hF 21 (by simp)
        have f22 : us 22 = .pointer (some ⟨g, j * 6, none⟩) := hF 22 (by simp)
        clear hF he
        rw [f22]
        clear f22
        obtain ⟨c', ec, hr'⟩ := (f21 : (spT _ _).p _ _)
        generalize us 17 = u17 at *
        generalize us 18 = u18 at *
        generalize us 19 = u19 at *
        generalize us 20 = u20 at *
        generalize us 21 = u21 at *
        subst ec
        obtain ⟨K2, kc2, rfl, _⟩ := hr'.row
        have hr' := Hd.mk hr'
        have hcs2 := Hd.mk (hcs'.out.ext hxW2.out)
        have kA2 := Hd.mk (kA'.out.ext hxW2.out)
        have kR2 := Hd.mk (kR'.out.ext hxW2.out)
        have hT2 := Hd.mk (hT'.out.ext hxW2.out)
        have hxr2 := Hd.mk (hxr'.out.trans hxW2.out)
        have hfr := hcs2.out.free
        have hl6 := hlen.out
        obtain ⟨v0, z0⟩ := cell_some hcs2.out (i := j * 6) (by omega)
        obtain ⟨v1, z1⟩ := cell_some hcs2.out (i := j * 6 + 1) (by omega)
        obtain ⟨v2, z2⟩ := cell_some hcs2.out (i := j * 6 + 2) (by omega)
        obtain ⟨v3, z3⟩ := cell_some hcs2.out (i := j * 6 + 3) (by omega)
        obtain ⟨v4, z4⟩ := cell_some hcs2.out (i := j * 6 + 4) (by omega)
        obtain ⟨v5, z5⟩ := cell_some hcs2.out (i := j * 6 + 5) (by omega)
        simp only [cT]
        refine (show wpList _ _ _ (⟨none, .store 54 (.tmp 22) (.tmp 21), _, _, _, none⟩ :: []) _ _ from ?_)
        go_wp2_with fail
        obtain ⟨cs', q1, q2, q3, q4, q5⟩ := set6 hcs2.out (o := j * 6) (by omega) (.string k.name) (.string k.key) (.int .i64 k.kind) (.int .u64 k.num) (.string k.text) (.slice K2 k.kids.length kc2)
        go_roundg (t.kids.length + 1 - (j + 1))
        case measure => have := hq.out; omega
        case rel => exact ⟨j + 1, by omega, ⟨rfl⟩, by go_num, ⟨Below.trans hxr2.out (q2.below (by omega))⟩, ⟨Turned.step hkj.out hT2.out hcs2.out q2 q1 q3 q4 q5 (hr'.out.mono (fun b _ hb => Nat.lt_of_lt_of_le hgl2.out hb))⟩, ⟨q2.blk (by omega) kA2.out⟩, ⟨q2.blk (by omega) kR2.out⟩⟩
    · have hjl : j = t.kids.length := by omega
      subst hjl
      have gA := kA.out.cell
      have gR := kR.out.cell
      have fR := kR.out.free
      go_wp2_with fail
      have hu := Hd.mk ((((((Upd.setCell wr ⟨w.heap.size + 1, 0, none⟩ (.string t.name)).trans (Upd.setCell _ ⟨w.heap.size + 1, 1, none⟩ (.string t.key))).trans (Upd.setCell _ ⟨w.heap.size + 1, 2, none⟩ (.int .i64 t.kind))).trans (Upd.setCell _ ⟨w.heap.size + 1, 3, none⟩ (.int .u64 t.num))).trans (Upd.setCell _ ⟨w.heap.size + 1, 4, none⟩ (.string t.text))).trans (Upd.setCell _ ⟨w.heap.size + 1, 5, none⟩ (.slice A t.kids.length cap)))
      have hrow := Hd.mk (Turned.row hlb hcap.out hnul.out (hT.out.upd hu.out (show w.heap.size + 1 < w.heap.size + 2 by omega)))
      exact ret_box rfl (w.heap.size + 1) _ 54 _ ((((((kR.out.setCell 0 (.string t.name)).setCell 1 (.string t.key)).setCell 2 (.int .i64 t.kind)).setCell 3 (.int .u64 t.num)).setCell 4 (.string t.text)).setCell 5 (.slice A t.kids.length cap)) rfl rfl Try.underlying54 rfl size54
        ⟨_, rfl, _, rfl, RT.of_row (hrow.out.keep (fun b off v hb hc => ⟨by omega, hc⟩)), Below.trans hxr.out (hu.out.below (Nat.le_succ _))⟩
end Go.Proofs.Ytgkgedjmnbjalaa
set_option linter.unusedSimpArgs false
namespace Go.Proofs.Ytgkgedjmnbjalaa
open Go.RowKit Go.Sort
theorem wpl_append_nil57 {ops : Array Oper} {rest : List Oper} {a : Act} {w : World} {Q : Exit → Act → World → Prop}
    (s x d : Tmp) (p1 : TypeId) (p2 : String) (p3 : Array Edge) (A : Option Addr) (n c : Nat) (hs : a.tmps[s]?.getD undef = .slice A n c) (hx : a.tmps[x]?.getD undef = .slice none 0 0) (hnc : n ≤ c)
    (h : wpList Try.prog ops Q rest (a.put (some d) (.slice A n c)) w) :
    wpList Try.prog ops Q (⟨some d, .call { callee := .builtin .append, args := #[.tmp s, .tmp x], argTypes := #[57, 57] }, p1, p2, p3, none⟩ :: rest) a w := by
  refine wpList_plain rfl fun K hK => ?_
  cases A with
  | none =>
    go_simp
    exact hK _ _ h
  | some b =>
    go_simp
    exact hK _ _ h
end Go.Proofs.Ytgkgedjmnbjalaa
set_option linter.unusedSimpArgs false
namespace Go.Proofs.Ytgkgedjmnbjalaa
open Go.RowKit Go.Sort
set_option maxRecDepth 100000 in
set_option maxHeartbeats 1000000 in
theorem at_nil (p : Addr) (w : World) : Calls Try.prog 120 #[.pointer (some p), .slice none 0 0] w fun e w' => e = .returned (.pointer (some p)) ∧ w' = w := by
  go_enter Try.func120, Try.ntmps120
  go_wp2
  go_loopg [0, 10] 1 (fun q p0 i wr => wr = w ∧ p0 = .pointer (some p) ∧ i = .int .i64 0)
  case atStart => exact ⟨rfl, rfl, rfl⟩
  case round =>
  obtain ⟨rfl, rfl, rfl⟩ := hrel
  go_wp2
  go_ret
  exact ⟨rfl, rfl⟩
set_option maxRecDepth 100000 in
set_option maxHeartbeats 2000000 in
theorem get_nil (t : T) (S : Nat → Prop) (w : World) (c : List Value) (h : RT S w t c) :
    Calls Try.prog 68 #[.agg c.toArray, .slice none 0 0] w (Ret fun w' v => ∃ c' : List Value, v = .tuple #[.agg c'.toArray, .bool true] ∧ RT (w.heap.size ≤ ·) w' t c' ∧ Ext w w') := by
  obtain ⟨K, kc, rfl, hrow⟩ := h.row
  have kr := Hd.mk h
  clear hrow h
  simp only [cT] at kr ⊢
  go_enter Try.func68, Try.ntmps68
  go_wp2_with fail
  have kx := Hd.mk ((Ext.alloc w (.cells #[.string t.name, .string t.key, .int .i64 t.kind, .int .u64 t.num, .string t.text, .slice K t.kids.length kc] 54)).trans (Ext.alloc _ (.cells #[.string ⟨#[]⟩, .string ⟨#[]⟩, .int .i64 0, .int .u64 0, .string ⟨#[]⟩, .slice none 0 0] 54)))
  have kA := Hd.mk ((Blk.new w #[.string t.name, .string t.key, .int .i64 t.kind, .int .u64 t.num, .string t.text, .slice K t.kids.length kc] 54).alloc (.cells #[.string ⟨#[]⟩, .string ⟨#[]⟩, .int .i64 0, .int .u64 0, .string ⟨#[]⟩, .slice none 0 0] 54))
  have kR := Hd.mk (Blk.new2 w (.cells #[.string t.name, .string t.key, .int .i64 t.kind, .int .u64 t.num, .string t.text, .slice K t.kids.length kc] 54) #[.string ⟨#[]⟩, .string ⟨#[]⟩, .int .i64 0, .int .u64 0, .string ⟨#[]⟩, .slice none 0 0] 54)
  generalize (w.alloc _).alloc _ = W at *
  refine Calls.mono (at_nil _ _) ?_
  rintro e w1 ⟨rfl, rfl⟩
  have gA := kA.out.cell
  go_wp2_with fail
  refine Calls.mono (tree_clone _ t S _ _ (Nat.le_refl _) (kr.out.ext kx.out)) ?_
  rintro e w1 ⟨_, rfl, c', rfl, hr', hx⟩
  obtain ⟨K2, kc2, rfl, _⟩ := hr'.row
  have hr' := Hd.mk hr'
  have kR1 := Hd.mk (kR.out.ext hx)
  have kx1 := Hd.mk (kx.out.trans hx)
  have hsz := Hd.mk kx.out.size
  have hlt := Hd.mk kR.out.lt
  clear gA kA kR hx
  simp only [cT] at hr' ⊢
  have gR := kR1.out.cell
  have fR := kR1.out.free
  go_wp2_with fail
  have hu := Hd.mk ((((((Upd.setCell w1 ⟨w.heap.size + 1, 0, none⟩ (.string t.name)).trans (Upd.setCell _ ⟨w.heap.size + 1, 1, none⟩ (.string t.key))).trans (Upd.setCell _ ⟨w.heap.size + 1, 2, none⟩ (.int .i64 t.kind))).trans (Upd.setCell _ ⟨w.heap.size + 1, 3, none⟩ (.int .u64 t.num))).trans (Upd.setCell _ ⟨w.heap.size + 1, 4, none⟩ (.string t.text))).trans (Upd.setCell _ ⟨w.heap.size + 1, 5, none⟩ (.slice K2 t.kids.length kc2)))
  exact ret_box2 rfl (w.heap.size + 1) _ 54 _ ((((((kR1.out.setCell 0 (.string t.name)).setCell 1 (.string t.key)).setCell 2 (.int .i64 t.kind)).setCell 3 (.int .u64 t.num)).setCell 4 (.string t.text)).setCell 5 (.slice K2 t.kids.length kc2)) rfl rfl Try.underlying54 rfl size54
    ⟨_, rfl, _, rfl, (hr'.out.upd hu.out (Nat.not_le.2 hlt.out)).mono (fun b _ hb => Nat.le_trans hsz.out hb), Below.trans kx1.out (hu.out.below (Nat.le_succ _))⟩
end Go.Proofs.Ytgkgedjmnbjalaa
set_option linter.unusedSimpArgs false
namespace Go.Proofs.Ytgkgedjmnbjalaa
open Go.RowKit Go.Sort
abbrev Step := ByteArray × ByteArray
def wcells : List Step → List Value
  | [] => []
  | s :: l => .string s.1 :: .string s.2 :: wcells l
theorem wcells_len : ∀ l : List Step, (wcells l).length = l.length * 2
  | [] => rfl
  | s :: l => by simp [wcells, wcells_len l]; omega
theorem wcells_get : ∀ (l : List Step) (i : Nat) (s : Step), l[i]? = some s → (wcells l)[i * 2]? = some (.string s.1) ∧ (wcells l)[i * 2 + 1]? = some (.string s.2)
  | [], i, s, h => by simp at h
  | x :: l, 0, s, h => by simp at h; subst h; exact ⟨rfl, rfl⟩
  | x :: l, i + 1, s, h => by
    have := wcells_get l i s (by simpa using h)
    rw [show (i + 1) * 2 = i * 2 + 1 + 1 by omega]
    exact this
theorem wcells_append : ∀ (l m : List Step), wcells (l ++ m) = wcells l ++ wcells m
  | [], m => rfl
  | s :: l, m => by simp [wcells, wcells_append l m]
theorem wcells_one : ∀ l : List Step, (wcells l).all (·.oneCell') = true
  | [] => rfl
  | s :: l => by rw [wcells, List.all_cons, List.all_cons, wcells_one l]; rfl
structure WRow (S : Nat → Prop) (w : World) (A : Option Addr) (l : List Step) (c : Nat) : Prop where
  cap : l.length ≤ c
  len : l.length ≤ 1048576
  nul : A = none → c = 0
  row : l ≠ [] → ∃ b off, A = some ⟨b, off, none⟩ ∧ S b ∧ ∀ j v, (wcells l)[j]? = some v → w.cell? ⟨b, off + j, none⟩ = some v
theorem WRow.keep {S S' : Nat → Prop} {w w' : World} (hk : ∀ b off v, S b → w.cell? ⟨b, off, none⟩ = some v → S' b ∧ w'.cell? ⟨b, off, none⟩ = some v) {A : Option Addr} {l : List Step} {c : Nat} (h : WRow S w A l c) : WRow S' w' A l c :=
  ⟨h.cap, h.len, h.nul, fun hn => by
    obtain ⟨b, off, h1, h2, h3⟩ := h.row hn
    refine ⟨b, off, h1, ?_, fun j v hv => (hk b _ v h2 (h3 j v hv)).2⟩
    cases l with
    | nil => exact absurd rfl hn
    | cons s l => exact (hk b _ _ h2 (h3 0 _ rfl)).1⟩
theorem WRow.ext {S : Nat → Prop} {w w' : World} (hx : Ext w w') {A : Option Addr} {l : List Step} {c : Nat} (h : WRow S w A l c) : WRow S w' A l c := h.keep fun _ _ _ hb hc => ⟨hb, Ext.cell hx hc⟩
theorem WRow.mono {S S' : Nat → Prop} {w : World} (hs : ∀ b, b < w.heap.size → S b → S' b) {A : Option Addr} {l : List Step} {c : Nat} (h : WRow S w A l c) : WRow S' w A l c :=
  h.keep fun b _ _ hb hc => ⟨hs b (World.block_lt_of_cell? w _ hc) hb, hc⟩
theorem WRow.nil (S : Nat → Prop) (w : World) (A : Option Addr) (c : Nat) (h : A = none → c = 0) : WRow S w A [] c := ⟨Nat.zero_le _, Nat.zero_le _, h, fun h => absurd rfl h⟩
theorem WRow.of_own {w : World} {base n : Nat} {v : Value} {l : List Step} (hl : l.length ≤ 1048576) (hn : l.length = n) (h : w.ownsRow base 65 2 v n (wcells l)) : ∃ A c, v = .slice A n c ∧ WRow (base ≤ ·) w A l c := by
  subst hn
  obtain ⟨A, c, h1, h2, h3, h4⟩ := own_slice h
  refine ⟨A, c, h1, h2, hl, h3, fun hn => ?_⟩
  obtain ⟨g, sp, e1, e2, e3⟩ := h4 (List.length_pos_iff.2 hn)
  refine ⟨g, 0, e1, e2, fun j v hv => ?_⟩
  rw [e3.cell, Nat.zero_add, List.getElem?_append_left (List.getElem?_eq_some_iff.1 hv).1]
  exact hv
theorem own_base {w : World} {base : Nat} {e : TypeId} {sz n : Nat} {v : Value} {xs : List Value} (h : w.ownsRow base e sz v n xs) : ∀ k, v.ownBlock = some k → base ≤ k := fun k hk => by
  rcases h.2 with ⟨h1, _⟩ | ⟨g, cap, cur, hv, hb, _⟩
  · rw [h1] at hk; simp [Value.ownBlock] at hk
  · rw [hv] at hk; simp [Value.ownBlock] at hk; omega
theorem grownBy_blk' {w w' : World} {row : Option Nat} (hg : w.grownBy w' row) {g : Nat} (hne : some g ≠ row) {cs : List Value} {t : TypeId} (h : Blk w g cs t) : Blk w' g cs t := (hg.block g h.lt hne).trans h
def WPost (l : List Step) (w w' : World) (v : Value) : Prop := ∃ A c, v = .slice A l.length c ∧ WRow (w.heap.size ≤ ·) w' A l c ∧ Ext w w'
set_option maxRecDepth 100000 in
set_option maxHeartbeats 2000000 in
theorem ref_way (t : T) (K : Option Addr) (n kc : Nat) {S : Nat → Prop} {w0 w : World} {A : Option Addr} {l : List Step} {c : Nat} (h : WRow S w0 A l c) (hx0 : Ext w0 w) (hl : l.length + 1 ≤ 1048576) :
    Calls Try.prog 140 #[.slice A l.length c, .agg (cT t.name t.key t.kind t.num t.text K n kc).toArray] w (Ret (WPost (l ++ [(t.name, t.key)]) w)) := by
  have k3 := Hd.mk h.row
  have hnul := h.nul
  have hlen := h.len
  have kx0 := Hd.mk hx0
  have hone := Hd.mk (wcells_one l)
  have hfl := Hd.mk (wcells_len l)
  clear h hx0
  simp only [cT]
  cases A with
  | none =>
    have hc := hnul rfl
    subst hc
    have hl0 : l = [] := by
      cases l with
      | nil => rfl
      | cons x l => obtain ⟨b, off, h, _⟩ := k3.out (by simp); cases h
    subst hl0
    clear hnul k3 hone hfl
    simp only [List.length_nil]
    go_enter Try.func140, Try.ntmps140
    go_wp2_with ((with_reducible refine stop_at (.call { callee := .builtin .append, args := #[.tmp 9, .tmp 15], argTypes := #[59, 59] }) ?_))
    refine Stop.mk ?_
    have kx2 := Hd.mk ((Ext.alloc w (.cells #[.string t.name, .string t.key, .int .i64 t.kind, .int .u64 t.num, .string t.text, .slice K n kc] 54)).trans (Ext.alloc (w.alloc (.cells #[.string t.name, .string t.key, .int .i64 t.kind, .int .u64 t.num, .string t.text, .slice K n kc] 54)) (.cells #[.string t.name, .string t.key] 65)))
    have hD := Hd.mk (Blk.new2 w (.cells #[.string t.name, .string t.key, .int .i64 t.kind, .int .u64 t.num, .string t.text, .slice K n kc] 54) #[.string t.name, .string t.key] 65)
    have hsz := Hd.mk (kx2.out.size)
    have hown0 := Hd.mk (own_ext (Ext.alloc (w.alloc (.cells #[.string t.name, .string t.key, .int .i64 t.kind, .int .u64 t.num, .string t.text, .slice K n kc] 54)) (.cells #[.string t.name, .string t.key] 65)) (show World.ownsRow _ w.heap.size 65 2 (.slice none 0 0) 0 [] from ⟨rfl, .inl ⟨rfl, rfl⟩⟩))
    refine wpl_append sl59 (by omega) (by omega) (.tmp 9) (.tmp 15) 16 _ _ _ w.heap.size _ 0 [] rfl hown0.out _ 0 1 1 [.string t.name, .string t.key] rfl rfl (fun i u hi => by rw [Nat.zero_add, hD.out.cell]; exact hi) rfl (by simp only [List.length_nil] at *; omega) hsz.out ?_
    intro v' w' hown hgr _
    have hown := Hd.mk hown
    have hgr := Hd.mk hgr
    go_wp2_with fail
    go_ret
    have hx := Below.grown (kx2.out) hgr.out hsz.out (own_base hown0.out)
    have ho := hown.out
    rw [Nat.zero_add, List.nil_append, show ([.string t.name, .string t.key] : List Value) = wcells [(t.name, t.key)] from rfl] at ho
    obtain ⟨A', c', rfl, hw⟩ := WRow.of_own (l := [(t.name, t.key)]) (by simp) rfl ho
    exact ⟨_, rfl, A', c', rfl, hw, hx⟩
  | some ad =>
    clear hnul
    go_enter Try.func140, Try.ntmps140
    go_wp2_with ((with_reducible refine stop_at (.call { callee := .builtin .append, args := #[.tmp 6, .tmp 7], argTypes := #[59, 59] }) ?_))
    refine Stop.mk ?_
    have hx1 := Hd.mk (Ext.alloc w (.cells #[.string t.name, .string t.key, .int .i64 t.kind, .int .u64 t.num, .string t.text, .slice K n kc] 54))
    have kA := Hd.mk (Blk.new w #[.string t.name, .string t.key, .int .i64 t.kind, .int .u64 t.num, .string t.text, .slice K n kc] 54)
    refine wpl_append' sl59 (by omega) (by omega) (.tmp 6) (.tmp 7) 8 _ _ _ w.heap.size (.slice none 0 0) 0 [] rfl
      ⟨rfl, .inl ⟨rfl, rfl⟩⟩ ad l.length c (wcells l) rfl hfl.out (fun j u hj => ?_) hone.out (by omega) hx1.out.size ?_
    · have hne : l ≠ [] := by
        rintro rfl
        simp [wcells] at hj
      obtain ⟨b, off, he, _, hc⟩ := k3.out hne
      cases he
      rw [addr_add]
      exact Ext.cell (kx0.out.trans hx1.out) (hc j u hj)
    intro v1 w1 hown1 hgr1 _
    rw [Nat.zero_add, List.nil_append] at hown1
    have hown1 := Hd.mk hown1
    have hx2 := Hd.mk (show Ext w w1 from Below.grown hx1.out hgr1 hx1.out.size (fun k hk => by simp [Value.ownBlock] at hk))
    have kA1 := Hd.mk (grownBy_blk' hgr1 (by simp [Value.ownBlock]) kA.out)
    clear hgr1
    have gA := kA1.out.cell
    go_wp2_with ((with_reducible refine stop_at (.call { callee := .builtin .append, args := #[.tmp 9, .tmp 15], argTypes := #[59, 59] }) ?_))
    refine Stop.mk ?_
    have kx2 := Hd.mk ((hx2.out).trans (Ext.alloc w1 (.cells #[.string t.name, .string t.key] 65)))
    have hD := Hd.mk (Blk.new w1 #[.string t.name, .string t.key] 65)
    have hsz := Hd.mk (kx2.out.size)
    have hown0 := Hd.mk (own_ext (Ext.alloc w1 (.cells #[.string t.name, .string t.key] 65)) hown1.out)
    refine wpl_append sl59 (by omega) (by omega) (.tmp 9) (.tmp 15) 16 _ _ _ w.heap.size _ l.length (wcells l) rfl hown0.out _ 0 1 1 [.string t.name, .string t.key] rfl rfl (fun i u hi => by rw [Nat.zero_add, hD.out.cell]; exact hi) rfl (by simp only [List.length_nil] at *; omega) hsz.out ?_
    intro v' w' hown hgr _
    have hown := Hd.mk hown
    have hgr := Hd.mk hgr
    go_wp2_with fail
    go_ret
    have hx := Below.grown (kx2.out) hgr.out hsz.out (own_base hown0.out)
    have ho := hown.out
    rw [show wcells l ++ [.string t.name, .string t.key] = wcells (l ++ [(t.name, t.key)]) from (wcells_append l [(t.name, t.key)]).symm] at ho
    obtain ⟨A', c', rfl, hw⟩ := WRow.of_own (l := l ++ [(t.name, t.key)]) (by simpa using hl) (by simp) ho
    exact ⟨_, rfl, A', c', by simp, hw, hx⟩
end Go.Proofs.Ytgkgedjmnbjalaa
set_option linter.unusedSimpArgs false
namespace Go.Proofs.Ytgkgedjmnbjalaa
open Go.RowKit Go.Sort
structure E where
  kind : Int
  way : List Step
  node : T
  old : T
abbrev stepT (t : T) : Step := (t.name, t.key)
def cutE (way : List Step) (x : T) : List E := [⟨2, way ++ [stepT x], zeroT, x⟩]
def setE (way : List Step) (y : T) : List E := [⟨1, way ++ [stepT y], y, zeroT⟩]
def bothE (rec : T → T → List Step → List E) (way : List Step) (x y : T) : List E :=
  if sameT x y = true then [] else if x.kind ≠ 0 ∧ y.kind ≠ 0 then [⟨3, way ++ [stepT x], y, x⟩] else if x.kind ≠ 0 ∨ y.kind ≠ 0 then cutE way x ++ setE way y else rec x y (way ++ [stepT x])
def mergeE (one other : T → List E) (both : T → T → List E) : Nat → List T → List T → List E
  | 0, _, _ => []
  | _ + 1, [], [] => []
  | n + 1, x :: xs, [] => one x ++ mergeE one other both n xs []
  | n + 1, [], y :: ys => other y ++ mergeE one other both n [] ys
  | n + 1, x :: xs, y :: ys => if lessT x y = true then one x ++ mergeE one other both n xs (y :: ys) else if lessT y x = true then other y ++ mergeE one other both n (x :: xs) ys else both x y ++ mergeE one other both n xs ys
def edits : Nat → T → T → List Step → List E
  | 0, _, _, _ => []
  | n + 1, a, b, way => mergeE (cutE way) (setE way) (bothE (edits n) way) (a.kids.length + b.kids.length) a.kids b.kids
theorem mergeE_len {one other : T → List E} {both : T → T → List E} (h1 : ∀ x, (one x).length ≤ x.size) (h2 : ∀ y, (other y).length ≤ y.size) (h3 : ∀ x y, (both x y).length ≤ x.size + y.size) :
    ∀ (n : Nat) (xs ys : List T), (mergeE one other both n xs ys).length ≤ sizeL xs + sizeL ys
  | 0, _, _ => by simp [mergeE]
  | n + 1, [], [] => by simp [mergeE]
  | n + 1, x :: xs, [] => by have := mergeE_len h1 h2 h3 n xs []; have := h1 x; simp only [mergeE, sizeL, List.length_append] at *; omega
  | n + 1, [], y :: ys => by have := mergeE_len h1 h2 h3 n [] ys; have := h2 y; simp only [mergeE, sizeL, List.length_append] at *; omega
  | n + 1, x :: xs, y :: ys => by
    have e1 := mergeE_len h1 h2 h3 n xs (y :: ys)
    have e2 := mergeE_len h1 h2 h3 n (x :: xs) ys
    have e3 := mergeE_len h1 h2 h3 n xs ys
    have := h1 x
    have := h2 y
    have := h3 x y
    simp only [mergeE, sizeL] at *
    split
    · simp only [List.length_append]; omega
    · split
      · simp only [List.length_append]; omega
      · simp only [List.length_append]; omega
theorem bothE_len {rec : T → T → List Step → List E} (h : ∀ x y w, (rec x y w).length ≤ x.size + y.size) (way : List Step) (x y : T) : (bothE rec way x y).length ≤ x.size + y.size := by
  have := size_pos x
  have := size_pos y
  unfold bothE
  split
  · simp
  · split
    · simp; omega
    · split
      · simp [cutE, setE]; omega
      · exact h _ _ _
theorem edits_len : ∀ (n : Nat) (a b : T) (way : List Step), (edits n a b way).length ≤ a.size + b.size
  | 0, a, b, way => by simp [edits]
  | n + 1, a, b, way => by
    have := mergeE_len (one := cutE way) (other := setE way) (both := bothE (edits n) way) (fun x => by have := size_pos x; simp [cutE]; omega) (fun y => by have := size_pos y; simp [setE]; omega)
      (bothE_len (edits_len n) way) (a.kids.length + b.kids.length) a.kids b.kids
    rw [edits, a.size_eq, b.size_eq]
    omega
def RE (S : Nat → Prop) (w : World) (e : E) (c : List Value) : Prop :=
  ∃ A ac Kn kn Ko ko, c = [.int .i64 e.kind, .slice A e.way.length ac] ++ cT e.node.name e.node.key e.node.kind e.node.num e.node.text Kn e.node.kids.length kn ++ cT e.old.name e.old.key e.old.kind e.old.num e.old.text Ko e.old.kids.length ko ∧
    WRow S w A e.way ac ∧ RRow S w Kn e.node.kids kn ∧ RRow S w Ko e.old.kids ko
theorem RE.keep {S S' : Nat → Prop} {w w' : World} (hk : ∀ b off v, S b → w.cell? ⟨b, off, none⟩ = some v → S' b ∧ w'.cell? ⟨b, off, none⟩ = some v) {e : E} {c : List Value} (h : RE S w e c) : RE S' w' e c := by
  obtain ⟨A, ac, Kn, kn, Ko, ko, h1, h2, h3, h4⟩ := h
  exact ⟨A, ac, Kn, kn, Ko, ko, h1, h2.keep hk, h3.keep hk, h4.keep hk⟩
theorem RE.ext {S : Nat → Prop} {w w' : World} (hx : Ext w w') {e : E} {c : List Value} (h : RE S w e c) : RE S w' e c := h.keep fun _ _ _ hb hc => ⟨hb, Ext.cell hx hc⟩
theorem RE.mono {S S' : Nat → Prop} {w : World} (hs : ∀ b, b < w.heap.size → S b → S' b) {e : E} {c : List Value} (h : RE S w e c) : RE S' w e c := h.keep fun b _ _ hb hc => ⟨hs b (World.block_lt_of_cell? w _ hc) hb, hc⟩
theorem RE.len {S : Nat → Prop} {w : World} {e : E} {c : List Value} (h : RE S w e c) : c.length = 14 := by obtain ⟨A, ac, Kn, kn, Ko, ko, rfl, _⟩ := h; rfl
theorem RE.one {S : Nat → Prop} {w : World} {e : E} {c : List Value} (h : RE S w e c) : c.all (·.oneCell') = true := by obtain ⟨A, ac, Kn, kn, Ko, ko, rfl, _⟩ := h; rfl
theorem own_lt {w : World} {base : Nat} {e : TypeId} {sz n : Nat} {v : Value} {xs : List Value} (h : w.ownsRow base e sz v n xs) : ∀ k, v.ownBlock = some k → k < w.heap.size := fun k hk => by
  rcases h.2 with ⟨h1, _⟩ | ⟨g, cap, cur, hv, hb, hg, _⟩
  · rw [h1] at hk; simp [Value.ownBlock] at hk
  · rw [hv] at hk; simp [Value.ownBlock] at hk; subst hk; exact heap_lt hg
end Go.Proofs.Ytgkgedjmnbjalaa
set_option linter.unusedSimpArgs false
namespace Go.Proofs.Ytgkgedjmnbjalaa
open Go.RowKit Go.Sort
def smallB (a b : T) : Bool := decide (a.size ≤ 300) && (decide (b.size ≤ 300) && (decide (a.kind = 0) && (decide (b.kind = 0) && (rightT a && rightT b))))
theorem WRow.at {S : Nat → Prop} {w : World} {A : Option Addr} {l : List Step} {c j : Nat} {x : Step} (h : WRow S w A l c) (hj : l[j]? = some x) :
    ∃ b off, A = some ⟨b, off, none⟩ ∧ S b ∧ ∀ (q : Nat) v, [Value.string x.1, .string x.2][q]? = some v → w.cell? ⟨b, off + j * 2 + q, none⟩ = some v := by
  obtain ⟨b, off, h1, h2, h3⟩ := h.row (by rintro rfl; simp at hj)
  refine ⟨b, off, h1, h2, fun q v hv => ?_⟩
  obtain ⟨e1, e2⟩ := wcells_get l j x hj
  match q, hv with
  | 0, hv => simp at hv; subst hv; have := h3 _ _ e1; rw [Nat.add_zero]; exact this
  | 1, hv => simp at hv; subst hv; have := h3 _ _ e2; rw [Nat.add_assoc]; exact this
  | q + 2, hv => simp at hv
theorem twoC {w w' : World} (hx : Ext w w') {b o : Nat} {x0 x1 : Value} (h : ∀ (j : Nat) v, [x0, x1][j]? = some v → w.cell? ⟨b, o + j, none⟩ = some v) : w'.cell? ⟨b, o, none⟩ = some x0 ∧ w'.cell? ⟨b, o + 1, none⟩ = some x1 :=
  ⟨Ext.cell hx (h 0 _ rfl), Ext.cell hx (h 1 _ rfl)⟩
end Go.Proofs.Ytgkgedjmnbjalaa
set_option linter.unusedSimpArgs false
namespace Go.Proofs.Ytgkgedjmnbjalaa
open Go.RowKit Go.Sort
def spWay (l : List Step) (B : Nat) : SP := ⟨fun v w => ∃ A c, v = .slice A l.length c ∧ WRow (B ≤ ·) w A l c, fun _ _ _ h ⟨A, c, e, hr⟩ => ⟨A, c, e, hr.ext h⟩⟩
end Go.Proofs.Ytgkgedjmnbjalaa
set_option linter.unusedSimpArgs false
namespace Go.Proofs.Ytgkgedjmnbjalaa
open Go.RowKit Go.Sort
theorem RRow.mono' {S S' : Nat → Prop} {w : World} (hs : ∀ b, b < w.heap.size → S b → S' b) {K : Option Addr} {l : List T} {kc : Nat} (h : RRow S w K l kc) : RRow S' w K l kc :=
  h.keep fun b _ _ hb hc => ⟨hs b (World.block_lt_of_cell? w _ hc) hb, hc⟩
end Go.Proofs.Ytgkgedjmnbjalaa
set_option linter.unusedSimpArgs false
namespace Go.Proofs.Ytgkgedjmnbjalaa
open Go.RowKit Go.Sort
theorem mergeE_x {one other : T → List E} {both : T → T → List E} (n : Nat) (x : T) (xs : List T) : mergeE one other both (n + 1) (x :: xs) [] = one x ++ mergeE one other both n xs [] := rfl
theorem mergeE_y {one other : T → List E} {both : T → T → List E} (n : Nat) (y : T) (ys : List T) : mergeE one other both (n + 1) [] (y :: ys) = other y ++ mergeE one other both n [] ys := rfl
theorem mergeE_lt {one other : T → List E} {both : T → T → List E} (n : Nat) {x y : T} (xs ys : List T) (h : lessT x y = true) : mergeE one other both (n + 1) (x :: xs) (y :: ys) = one x ++ mergeE one other both n xs (y :: ys) := by rw [mergeE, if_pos h]
theorem mergeE_gt {one other : T → List E} {both : T → T → List E} (n : Nat) {x y : T} (xs ys : List T) (h : lessT x y = false) (h2 : lessT y x = true) : mergeE one other both (n + 1) (x :: xs) (y :: ys) = other y ++ mergeE one other both n (x :: xs) ys := by rw [mergeE, if_neg (by rw [h]; decide), if_pos h2]
theorem mergeE_eq {one other : T → List E} {both : T → T → List E} (n : Nat) {x y : T} (xs ys : List T) (h : lessT x y = false) (h2 : lessT y x = false) : mergeE one other both (n + 1) (x :: xs) (y :: ys) = both x y ++ mergeE one other both n xs ys := by rw [mergeE, if_neg (by rw [h]; decide), if_neg (by rw [h2]; decide)]
theorem mergeE_none {one other : T → List E} {both : T → T → List E} : ∀ n, mergeE one other both n [] [] = []
  | 0 => rfl
  | _ + 1 => rfl
theorem mergeE_fuel {one other : T → List E} {both : T → T → List E} : ∀ (n m : Nat) (xs ys : List T), xs.length + ys.length ≤ n → xs.length + ys.length ≤ m → mergeE one other both n xs ys = mergeE one other both m xs ys
  | n, m, [], [], _, _ => by rw [mergeE_none, mergeE_none]
  | n + 1, m + 1, x :: xs, [], h1, h2 => by rw [mergeE_x, mergeE_x, mergeE_fuel n m xs [] (by simp at h1 ⊢; omega) (by simp at h2 ⊢; omega)]
  | n + 1, m + 1, [], y :: ys, h1, h2 => by rw [mergeE_y, mergeE_y, mergeE_fuel n m [] ys (by simp at h1 ⊢; omega) (by simp at h2 ⊢; omega)]
  | n + 1, m + 1, x :: xs, y :: ys, h1, h2 => by
    cases hl : lessT x y with
    | true => rw [mergeE_lt n xs ys hl, mergeE_lt m xs ys hl, mergeE_fuel n m xs (y :: ys) (by simp at h1 ⊢; omega) (by simp at h2 ⊢; omega)]
    | false =>
      cases hg : lessT y x with
      | true => rw [mergeE_gt n xs ys hl hg, mergeE_gt m xs ys hl hg, mergeE_fuel n m (x :: xs) ys (by simp at h1 ⊢; omega) (by simp at h2 ⊢; omega)]
      | false => rw [mergeE_eq n xs ys hl hg, mergeE_eq m xs ys hl hg, mergeE_fuel n m xs ys (by simp at h1 ⊢; omega) (by simp at h2 ⊢; omega)]
  | 0, _, x :: xs, _, h, _ => by simp at h
  | 0, _, [], y :: ys, h, _ => by simp at h
  | _ + 1, 0, x :: xs, _, _, h => by simp at h
  | _ + 1, 0, [], y :: ys, _, h => by simp at h
theorem sizeL_cons (x : T) (l : List T) : sizeL (x :: l) = x.size + sizeL l := rfl
end Go.Proofs.Ytgkgedjmnbjalaa
set_option linter.unusedSimpArgs false
namespace Go.Proofs.Ytgkgedjmnbjalaa
open Go.RowKit Go.Sort
theorem deepL_kids (t : T) : deepL t.kids + 1 = t.deep := by rw [t.deep_eq]; omega
structure ERow (S : Nat → Prop) (w : World) (A : Option Addr) (es : List E) (c : Nat) : Prop where
  cap : es.length ≤ c
  len : es.length ≤ 1048576
  nul : A = none → c = 0
  edit : ∀ (i : Nat) e, es[i]? = some e → ∃ b off d, A = some ⟨b, off, none⟩ ∧ S b ∧ RE S w e d ∧ ∀ j v, d[j]? = some v → w.cell? ⟨b, off + i * 14 + j, none⟩ = some v
theorem ERow.keep {S S' : Nat → Prop} {w w' : World} (hk : ∀ b off v, S b → w.cell? ⟨b, off, none⟩ = some v → S' b ∧ w'.cell? ⟨b, off, none⟩ = some v) {A : Option Addr} {l : List E} {c : Nat} (h : ERow S w A l c) : ERow S' w' A l c :=
  ⟨h.cap, h.len, h.nul, fun i e hi => by
    obtain ⟨b, off, d, h1, h2, h3, h4⟩ := h.edit i e hi
    have h14 := h3.len
    refine ⟨b, off, d, h1, ?_, h3.keep hk, fun j v hv => (hk b _ v h2 (h4 j v hv)).2⟩
    cases d with
    | nil => simp at h14
    | cons v d => exact (hk b _ v h2 (h4 0 v (by simp))).1⟩
theorem ERow.ext {S : Nat → Prop} {w w' : World} (hx : Ext w w') {A : Option Addr} {l : List E} {c : Nat} (h : ERow S w A l c) : ERow S w' A l c := h.keep fun _ _ _ hb hc => ⟨hb, Ext.cell hx hc⟩
def EdPost (es : List E) (w w' : World) (v : Value) : Prop := ∃ A c, v = .slice A es.length c ∧ ERow (fun _ => True) w' A es c ∧ Ext w w'
end Go.Proofs.Ytgkgedjmnbjalaa
set_option linter.unusedSimpArgs false
namespace Go.Proofs.Ytgkgedjmnbjalaa
open Go.RowKit Go.Sort
structure OutR (B : Nat) (G : Nat → Prop) (w : World) (v : Value) (css : List (List Value)) (es : List E) : Prop where
  len : css.length = es.length
  c14 : ∀ c ∈ css, c.length = 14
  own : w.ownsRow B 68 14 v es.length css.flatten
  each : ∀ (i : Nat) e c, es[i]? = some e → css[i]? = some c → RE (fun b => v.ownBlock ≠ some b ∧ G b) w e c
theorem OutR.ext {B : Nat} {G : Nat → Prop} {w w' : World} {v : Value} {css : List (List Value)} {es : List E} (hx : Ext w w') (h : OutR B G w v css es) : OutR B G w' v css es :=
  ⟨h.len, h.c14, own_ext hx h.own, fun i e c he hc => (h.each i e c he hc).ext hx⟩
theorem OutR.nil (B : Nat) (G : Nat → Prop) (w : World) : OutR B G w (.slice none 0 0) [] [] := ⟨rfl, by simp, ⟨rfl, .inl ⟨rfl, rfl⟩⟩, fun i e c h => by simp at h⟩
theorem RE.lt {S : Nat → Prop} {w : World} {e : E} {c : List Value} (h : RE S w e c) : RE (fun b => b < w.heap.size ∧ S b) w e c := h.mono fun _ hb h => ⟨hb, h⟩
theorem OutR.mono {B B' : Nat} {G : Nat → Prop} {w : World} {v : Value} {css : List (List Value)} {es : List E} (hB : B' ≤ B) (h : OutR B G w v css es) : OutR B' G w v css es :=
  ⟨h.len, h.c14, ⟨h.own.1, h.own.2.imp id (fun ⟨g, cap, cur, a1, a2, a3⟩ => ⟨g, cap, cur, a1, Nat.le_trans hB a2, a3⟩)⟩, h.each⟩
theorem OutR.imp {B : Nat} {G G' : Nat → Prop} {w : World} {v : Value} {css : List (List Value)} {es : List E} (hG : ∀ b, b < w.heap.size → G b → G' b) (h : OutR B G w v css es) : OutR B G' w v css es :=
  ⟨h.len, h.c14, h.own, fun i e c he hc => (h.each i e c he hc).mono fun b hb hh => ⟨hh.1, hG b hb hh.2⟩⟩
theorem OutR.new {B : Nat} {G : Nat → Prop} {w : World} {css : List (List Value)} {es : List E} {n : Nat} {cs : Array Value} (hB : B ≤ w.heap.size) (hn : es.length = n) (hl : css.length = es.length) (hcs : css.flatten = cs.toList) (h14 : ∀ c ∈ css, c.length = 14) (hm : n ≤ 1048576)
    (he : ∀ (i : Nat) e c, es[i]? = some e → css[i]? = some c → RE (fun b => b < w.heap.size ∧ G b) w e c) : OutR B G (w.alloc (.cells cs 68)) (.slice (some ⟨w.heap.size, 0, none⟩) n n) css es := by
  subst hn
  refine ⟨hl, h14, ?_, fun i e c h1 h2 => ?_⟩
  · have := own_new (w := w) (base := B) (e := 68) (sz := 14) (n := es.length) (cs := cs) hB (by simp only [maxLen]; omega) (by rw [← Array.length_toList, ← hcs, flatten_len css h14, hl])
    rw [hcs]
    exact this
  · exact ((he i e c h1 h2).ext (Ext.alloc _ _)).mono (fun b _ hb => ⟨fun e => by have := hb.1; simp [Value.ownBlock] at e; omega, hb.2⟩)
theorem OutR.push {B : Nat} {G : Nat → Prop} {w w' : World} {v v' : Value} {css css2 : List (List Value)} {es es2 : List E} (h : OutR B G w v css es) (h2l : css2.length = es2.length) (h2c : ∀ c ∈ css2, c.length = 14)
    (hc : ∀ (i : Nat) e c, es2[i]? = some e → css2[i]? = some c → RE (fun b => v.ownBlock ≠ some b ∧ G b) w e c) (hown : w'.ownsRow B 68 14 v' (es.length + es2.length) (css.flatten ++ css2.flatten)) (hg : w.grownBy w' v.ownBlock) (hat : v'.ownBlock = v.ownBlock ∨ v'.ownBlock = some w.heap.size) :
    OutR B G w' v' (css ++ css2) (es ++ es2) := by
  have keep : ∀ b off u, (v.ownBlock ≠ some b ∧ G b) → w.cell? ⟨b, off, none⟩ = some u → (v'.ownBlock ≠ some b ∧ G b) ∧ w'.cell? ⟨b, off, none⟩ = some u := fun b off u hb hc => by
    have hlt := World.block_lt_of_cell? w _ hc
    refine ⟨⟨?_, hb.2⟩, ?_⟩
    · rcases hat with e | e
      · rw [e]; exact hb.1
      · rw [e]; intro he; injection he with he; simp only at hlt; omega
    · rw [← hc]; exact World.cell?_of_block (hg.block b hlt (fun e => hb.1 e.symm))
  refine ⟨by simp [h.len, h2l], fun c hc' => ?_, by simpa using hown, fun i e c he hc' => ?_⟩
  · rcases List.mem_append.1 hc' with h' | h'
    · exact h.c14 c h'
    · exact h2c c h'
  · by_cases hi : i < es.length
    · rw [List.getElem?_append_left hi] at he
      rw [List.getElem?_append_left (by rw [h.len]; exact hi)] at hc'
      exact (h.each i e c he hc').keep keep
    · rw [List.getElem?_append_right (by omega)] at he
      rw [List.getElem?_append_right (by rw [h.len]; omega), h.len] at hc'
      exact (hc _ e c he hc').keep keep
theorem OutR.row {B : Nat} {G : Nat → Prop} {w : World} {v : Value} {css : List (List Value)} {es : List E} (hl : es.length ≤ 1048576) (h : OutR B G w v css es) : ∃ A c, v = .slice A es.length c ∧ ERow (fun _ => True) w A es c := by
  obtain ⟨A, c, h1, h2, h3, h4⟩ := own_slice h.own
  refine ⟨A, c, h1, h2, hl, h3, fun i e hi => ?_⟩
  have hlt := (List.getElem?_eq_some_iff.1 hi).1
  obtain ⟨g, sp, e1, e2, e3⟩ := h4 (by omega)
  have hlt' : i < css.length := by rw [h.len]; exact hlt
  have hci := List.getElem?_eq_getElem hlt'
  refine ⟨g, 0, css[i], e1, trivial, (h.each i e _ hi hci).mono (fun _ _ _ => trivial), fun j v hv => ?_⟩
  have h5 := flatten_get css h.c14 i _ hci j v hv
  rw [e3.cell, Nat.zero_add, List.getElem?_append_left (List.getElem?_eq_some_iff.1 h5).1]
  exact h5
theorem OutR.one {B : Nat} {G : Nat → Prop} {w : World} {v : Value} {css : List (List Value)} {es : List E} (h : OutR B G w v css es) : css.flatten.all (·.oneCell') = true := by
  rw [List.all_eq_true]
  intro u hu
  obtain ⟨c, hc, huc⟩ := List.mem_flatten.1 hu
  obtain ⟨i, hi⟩ := List.getElem?_of_mem hc
  have hlt := (List.getElem?_eq_some_iff.1 hi).1
  exact List.all_eq_true.1 (h.each i _ c (List.getElem?_eq_getElem (by rw [← h.len]; exact hlt)) hi).one u huc
def kidE (rec : T → T → List Step → List E) (x y : T) (wy : List Step) : List E :=
  if sameT x y = true then [] else if x.kind ≠ 0 ∧ y.kind ≠ 0 then [⟨3, wy, y, x⟩] else if x.kind = 0 ∧ y.kind = 0 then rec x y wy else [⟨2, wy, zeroT, x⟩, ⟨1, wy, y, zeroT⟩]
theorem kidE_both {rec : T → T → List Step → List E} {x y : T} {way : List Step} (h : stepT x = stepT y) : kidE rec x y (way ++ [stepT x]) = bothE rec way x y := by
  unfold kidE bothE cutE setE
  by_cases h1 : sameT x y = true
  · rw [if_pos h1, if_pos h1]
  · rw [if_neg h1, if_neg h1]
    by_cases h2 : x.kind = 0
    · by_cases h3 : y.kind = 0
      · simp [h2, h3]
      · simp [h2, h3, h]
    · by_cases h3 : y.kind = 0
      · simp [h2, h3, h]
      · simp [h2, h3]
def RfPost (S : Nat → Prop) (es : List E) (w w' : World) (v : Value) : Prop := ∃ css, OutR w.heap.size (fun b => S b ∨ w.heap.size ≤ b) w' v css es ∧ Ext w w'
def RefAt (N : Nat) : Prop := ∀ (S : Nat → Prop) (w : World) (way : List Step) (A : Option Addr) (c : Nat) (a b : T) (ca cb : List Value), a.deep ≤ N → WRow S w A way c → RT S w a ca → RT S w b cb →
  way.length + a.deep ≤ 1000000 → a.size + b.size ≤ 1000000 → Calls Try.prog 101 #[.agg ca.toArray, .agg cb.toArray, .slice A way.length c] w (Ret (RfPost S (edits N a b way) w))
set_option maxRecDepth 100000 in
set_option maxHeartbeats 4000000 in
theorem ref_kid (N : Nat) (ih0 : RefAt N) {S : Nat → Prop} {w : World} {wy : List Step} {A : Option Addr} {ac : Nat} {x y : T} {c d : List Value} (hd : x.deep ≤ N) (hw : WRow S w A wy ac) (hx : RT S w x c) (hy : RT S w y d)
    (hwl : wy.length + x.deep ≤ 1000000) (hes : x.size + y.size ≤ 1000000) : Calls Try.prog 141 #[.agg c.toArray, .agg d.toArray, .slice A wy.length ac] w (Ret (RfPost S (kidE (edits N) x y wy) w)) := by
  obtain ⟨K, kc, rfl, hrow⟩ := hx.row
  obtain ⟨K', kc', rfl, hrow'⟩ := hy.row
  generalize hbe : kidE (edits N) x y wy = be
  have hbe := Hd.mk hbe
  have kw := Hd.mk hw
  have hcall := Hd.mk (fun W (h : Ext w W) => ih0 S W wy A ac x y _ _ hd (hw.ext h) (hx.ext h) (hy.ext h) hwl hes)
  have hsm := Hd.mk (fun W (h : Ext w W) => ref_same N x y S W _ _ hd (hx.ext h) (hy.ext h))
  have hre3 := Hd.mk (show RE (fun b => b < w.heap.size ∧ S b) w ⟨3, wy, y, x⟩ _ from RE.lt (S := S) ⟨A, ac, K', kc', K, kc, rfl, hw, hrow', hrow⟩)
  have hre2 := Hd.mk (show RE (fun b => b < w.heap.size ∧ S b) w ⟨2, wy, zeroT, x⟩ _ from RE.lt (S := S) ⟨A, ac, none, 0, K, kc, rfl, hw, RRow.nil _ _ _ _ (fun _ => rfl), hrow⟩)
  have hre1 := Hd.mk (show RE (fun b => b < w.heap.size ∧ S b) w ⟨1, wy, y, zeroT⟩ _ from RE.lt (S := S) ⟨A, ac, K', kc', none, 0, rfl, hw, hrow', RRow.nil _ _ _ _ (fun _ => rfl)⟩)
  clear hrow hrow' hw hx hy ih0 hd hwl hes
  simp only [cT] at hcall hsm ⊢
  go_enter Try.func141, Try.ntmps141
  go_wp2_with fail
  have kx := Hd.mk ((Ext.alloc w (.cells #[.string x.name, .string x.key, .int .i64 x.kind, .int .u64 x.num, .string x.text, .slice K x.kids.length kc] 54)).trans (Ext.alloc _ (.cells #[.string y.name, .string y.key, .int .i64 y.kind, .int .u64 y.num, .string y.text, .slice K' y.kids.length kc'] 54)))
  have kA := Hd.mk ((Blk.new w #[.string x.name, .string x.key, .int .i64 x.kind, .int .u64 x.num, .string x.text, .slice K x.kids.length kc] 54).alloc (.cells #[.string y.name, .string y.key, .int .i64 y.kind, .int .u64 y.num, .string y.text, .slice K' y.kids.length kc'] 54))
  have kB := Hd.mk (Blk.new2 w (.cells #[.string x.name, .string x.key, .int .i64 x.kind, .int .u64 x.num, .string x.text, .slice K x.kids.length kc] 54) #[.string y.name, .string y.key, .int .i64 y.kind, .int .u64 y.num, .string y.text, .slice K' y.kids.length kc'] 54)
  generalize hpA : w.heap.size = pA at *
  have hpA := Hd.mk hpA
  generalize (w.alloc _).alloc _ = W at *
  refine Calls.mono (hsm.out W kx.out) ?_
  rintro e w1 ⟨rfl, hx1⟩
  have kx1 := Hd.mk (kx.out.trans hx1)
  have kA1 := Hd.mk (kA.out.ext hx1)
  have kB1 := Hd.mk (kB.out.ext hx1)
  clear hsm kA kB kx hx1
  have gA := kA1.out.cell
  have gB := kB1.out.cell
  have hsz := Hd.mk kx1.out.size
  cases hs : sameT x y with
  | true =>
    have hb : be = [] := by rw [← hbe.out, kidE, if_pos hs]
    subst hb
    go_wp2_with fail
    go_ret
    exact ⟨_, rfl, [], OutR.nil _ _ _, kx1.out⟩
  | false =>
    have hs := Hd.mk hs
    by_cases h1 : x.kind = 0
    · by_cases h2 : y.kind = 0
      · have hb : be = edits N x y wy := by rw [← hbe.out, kidE, if_neg (by rw [hs.out]; decide), if_neg (by simp [h1]), if_pos ⟨h1, h2⟩]
        subst hb
        have h1' : (x.kind != 0) = false := by simpa using h1
        have h2' : (y.kind != 0) = false := by simpa using h2
        have hcl := Hd.mk (hcall.out w1 kx1.out)
        clear h1 h2
        go_wp2_with fail
        refine Calls.mono hcl.out ?_
        rintro e w2 ⟨v2, rfl, css2, ho2, hx2⟩
        obtain ⟨V, vc, rfl, _⟩ := own_slice ho2.own
        have ho2 := Hd.mk ((ho2.imp (G' := fun b => S b ∨ w.heap.size ≤ b) (fun b _ h => h.imp id (fun h => by have := hpA.out; have := hsz.out; omega))).mono (by have := hpA.out; have := hsz.out; omega : w.heap.size ≤ w1.heap.size))
        have hx2 := Hd.mk (kx1.out.trans hx2)
        go_wp2_with fail
        go_ret
        exact ⟨_, rfl, css2, ho2.out, hx2.out⟩
      · have hb : be = [⟨2, wy, zeroT, x⟩, ⟨1, wy, y, zeroT⟩] := by rw [← hbe.out, kidE, if_neg (by rw [hs.out]; decide), if_neg (by simp [h1]), if_neg (by simp [h2])]
        subst hb
        have h1' : (x.kind != 0) = false := by simpa using h1
        have h2' : (y.kind != 0) = true := by simpa using h2
        clear h1 h2 hcall
        go_wp2_with fail
        go_ret
        refine ⟨_, rfl, [[.int .i64 2, .slice A wy.length ac, .string ⟨#[]⟩, .string ⟨#[]⟩, .int .i64 0, .int .u64 0, .string ⟨#[]⟩, .slice none 0 0, .string x.name, .string x.key, .int .i64 x.kind, .int .u64 x.num, .string x.text, .slice K x.kids.length kc], [.int .i64 1, .slice A wy.length ac, .string y.name, .string y.key, .int .i64 y.kind, .int .u64 y.num, .string y.text, .slice K' y.kids.length kc', .string ⟨#[]⟩, .string ⟨#[]⟩, .int .i64 0, .int .u64 0, .string ⟨#[]⟩, .slice none 0 0]], OutR.new (by have := hpA.out; have := hsz.out; omega) rfl rfl rfl (fun c hc => ?_) (by omega) (fun i e c he hc => ?_), kx1.out.trans (Ext.alloc _ _)⟩
        · simp at hc
          rcases hc with rfl | rfl <;> rfl
        · match i, he, hc with
          | 0, he, hc => simp at he hc; subst he hc; exact (hre2.out.ext kx1.out).mono (fun b _ hb => ⟨by have := hb.1; have := hsz.out; have := hpA.out; omega, .inl hb.2⟩)
          | 1, he, hc => simp at he hc; subst he hc; exact (hre1.out.ext kx1.out).mono (fun b _ hb => ⟨by have := hb.1; have := hsz.out; have := hpA.out; omega, .inl hb.2⟩)
          | i + 2, he, hc => simp at he
    · by_cases h2 : y.kind = 0
      · have hb : be = [⟨2, wy, zeroT, x⟩, ⟨1, wy, y, zeroT⟩] := by rw [← hbe.out, kidE, if_neg (by rw [hs.out]; decide), if_neg (by simp [h2]), if_neg (by simp [h1])]
        subst hb
        have h1' : (x.kind != 0) = true := by simpa using h1
        have h2' : (y.kind != 0) = false := by simpa using h2
        clear h1 h2 hcall
        go_wp2_with fail
        go_ret
        refine ⟨_, rfl, [[.int .i64 2, .slice A wy.length ac, .string ⟨#[]⟩, .string ⟨#[]⟩, .int .i64 0, .int .u64 0, .string ⟨#[]⟩, .slice none 0 0, .string x.name, .string x.key, .int .i64 x.kind, .int .u64 x.num, .string x.text, .slice K x.kids.length kc], [.int .i64 1, .slice A wy.length ac, .string y.name, .string y.key, .int .i64 y.kind, .int .u64 y.num, .string y.text, .slice K' y.kids.length kc', .string ⟨#[]⟩, .string ⟨#[]⟩, .int .i64 0, .int .u64 0, .string ⟨#[]⟩, .slice none 0 0]], OutR.new (by have := hpA.out; have := hsz.out; omega) rfl rfl rfl (fun c hc => ?_) (by omega) (fun i e c he hc => ?_), kx1.out.trans (Ext.alloc _ _)⟩
        · simp at hc
          rcases hc with rfl | rfl <;> rfl
        · match i, he, hc with
          | 0, he, hc => simp at he hc; subst he hc; exact (hre2.out.ext kx1.out).mono (fun b _ hb => ⟨by have := hb.1; have := hsz.out; have := hpA.out; omega, .inl hb.2⟩)
          | 1, he, hc => simp at he hc; subst he hc; exact (hre1.out.ext kx1.out).mono (fun b _ hb => ⟨by have := hb.1; have := hsz.out; have := hpA.out; omega, .inl hb.2⟩)
          | i + 2, he, hc => simp at he
      · have hb : be = [⟨3, wy, y, x⟩] := by rw [← hbe.out, kidE, if_neg (by rw [hs.out]; decide), if_pos ⟨h1, h2⟩]
        subst hb
        have h1' : (x.kind != 0) = true := by simpa using h1
        have h2' : (y.kind != 0) = true := by simpa using h2
        clear h1 h2 hcall
        go_wp2_with fail
        go_ret
        refine ⟨_, rfl, [[.int .i64 3, .slice A wy.length ac, .string y.name, .string y.key, .int .i64 y.kind, .int .u64 y.num, .string y.text, .slice K' y.kids.length kc', .string x.name, .string x.key, .int .i64 x.kind, .int .u64 x.num, .string x.text, .slice K x.kids.length kc]], OutR.new (by have := hpA.out; have := hsz.out; omega) rfl rfl rfl (fun c hc => ?_) (by omega) (fun i e c he hc => ?_), kx1.out.trans (Ext.alloc _ _)⟩
        · simp at hc
          subst hc
          rfl
        · match i, he, hc with
          | 0, he, hc => simp at he hc; subst he hc; exact (hre3.out.ext kx1.out).mono (fun b _ hb => ⟨by have := hb.1; have := hsz.out; have := hpA.out; omega, .inl hb.2⟩)
          | i + 1, he, hc => simp at he
end Go.Proofs.Ytgkgedjmnbjalaa
