/- Texts that the law needs, joined.
   Conditions: none. -/
import Derived.Test.YtgkgedjmnbjalaaTqD
import Derived.Laws.Externs
set_option linter.unusedSimpArgs false
set_option linter.unusedVariables false
namespace Go.Proofs.Ytgkgedjmnbjalaa
open Go.RowKit Go.Sort
def OwnPost (t : T) (w w' : World) (v : Value) : Prop := ∃ c : List Value, v = .agg c.toArray ∧ OT (fun b => w.heap.size ≤ b ∧ b < w'.heap.size) w' t c ∧ Ext w w'
def spO (k : T) (B : Nat) : SP := ⟨fun v w => ∃ (c : List Value) (lo hi : Nat), v = .agg c.toArray ∧ OT (fun b => lo ≤ b ∧ b < hi) w k c ∧ B ≤ lo ∧ hi ≤ w.heap.size, fun _ _ _ h ⟨c, lo, hi, e, hr, h1, h2⟩ => ⟨c, lo, hi, e, hr.ext (fun b hb => by omega) h, h1, Nat.le_trans h2 h.size⟩⟩
def Turned2 (S : Nat → Prop) (w : World) (kids : List T) (A : Option Addr) (cap j B N : Nat) (wr : World) : Prop :=
  ∃ (css : List (List Value)) (Si : Nat → Nat → Prop), css.length = kids.length ∧ (∀ c ∈ css, c.length = 6) ∧ wr.ownsRow B 54 6 (.slice A kids.length cap) kids.length css.flatten ∧
    (∀ i b, Si i b → B ≤ b ∧ b < N ∧ b < wr.heap.size ∧ (Value.slice A kids.length cap).ownBlock ≠ some b) ∧ (∀ i i' b, Si i b → Si i' b → i = i') ∧
    ∀ (i : Nat) k c, kids[i]? = some k → css[i]? = some c → (i < j → OT (Si i) wr k c) ∧ (j ≤ i → RT S w k c)
theorem Turned2.start {S : Nat → Prop} {w wr : World} {kids : List T} {css : List (List Value)} {A : Option Addr} {cap B N : Nat} (h1 : css.length = kids.length) (h2 : ∀ c ∈ css, c.length = 6) (h3 : ∀ (i : Nat) k c, kids[i]? = some k → css[i]? = some c → RT S w k c)
    (h4 : wr.ownsRow B 54 6 (.slice A kids.length cap) kids.length css.flatten) : Turned2 S w kids A cap 0 B N wr :=
  ⟨css, fun _ _ => False, h1, h2, h4, fun _ _ h => h.elim, fun _ _ _ h => h.elim, fun i k c hk hc => ⟨fun h => absurd h (by omega), fun _ => h3 i k c hk hc⟩⟩
theorem Turned2.bound {S : Nat → Prop} {w wr : World} {kids : List T} {A : Option Addr} {cap j B N N' : Nat} (hN : N ≤ N') (h : Turned2 S w kids A cap j B N wr) : Turned2 S w kids A cap j B N' wr := by
  obtain ⟨css, Si, h1, h2, h3, h4, h5, h6⟩ := h
  exact ⟨css, Si, h1, h2, h3, fun i b hb => ⟨(h4 i b hb).1, by have := (h4 i b hb).2.1; omega, (h4 i b hb).2.2⟩, h5, h6⟩
theorem Turned2.ext {S : Nat → Prop} {w wr w' : World} {kids : List T} {A : Option Addr} {cap j B N : Nat} (hx : Ext wr w') (h : Turned2 S w kids A cap j B N wr) : Turned2 S w kids A cap j B N w' := by
  obtain ⟨css, Si, h1, h2, h3, h4, h5, h6⟩ := h
  refine ⟨css, Si, h1, h2, own_ext hx h3, fun i b hb => ?_, h5, fun i k c hk hc => ⟨fun hij => ((h6 i k c hk hc).1 hij).ext (fun b hb => (h4 i b hb).2.2.1) hx, (h6 i k c hk hc).2⟩⟩
  obtain ⟨a, b', c, d⟩ := h4 i b hb
  exact ⟨a, b', Nat.lt_of_lt_of_le c hx.size, d⟩
theorem Turned2.upd {S : Nat → Prop} {w wr w' : World} {kids : List T} {A : Option Addr} {cap j B N p : Nat} (hu : Upd wr w' p) (hp : p < B) (h : Turned2 S w kids A cap j B N wr) : Turned2 S w kids A cap j B N w' := by
  obtain ⟨css, Si, h1, h2, h3, h4, h5, h6⟩ := h
  refine ⟨css, Si, h1, h2, own_keep h3 fun g hg => hu.block g (fun e => ?_), fun i b hb => ?_, h5, fun i k c hk hc => ⟨fun hij => ((h6 i k c hk hc).1 hij).keep fun b hb => hu.block b (fun e => ?_), (h6 i k c hk hc).2⟩⟩
  · subst e
    have := own_base h3 g hg
    omega
  · obtain ⟨a, b', c, d⟩ := h4 i b hb
    exact ⟨a, b', by rw [hu.size]; exact c, d⟩
  · subst e
    have := (h4 i b hb).1
    omega
theorem Turned2.at {S : Nat → Prop} {w wr : World} {kids : List T} {A : Option Addr} {cap j B N : Nat} {k : T} (hk : kids[j]? = some k) (h : Turned2 S w kids A cap j B N wr) :
    ∃ g cs d, A = some ⟨g, 0, none⟩ ∧ B ≤ g ∧ Blk wr g cs 54 ∧ kids.length * 6 ≤ cs.length ∧ (∀ q v, d[q]? = some v → cs[j * 6 + q]? = some v) ∧ RT S w k d := by
  obtain ⟨css, Si, h1, h2, h3, h4, h5, h6⟩ := h
  have hlt := (List.getElem?_eq_some_iff.1 hk).1
  obtain ⟨g, c', sp, hv, hB, hb, _⟩ := own_form h3 (by omega)
  simp only [Value.slice.injEq] at hv
  obtain ⟨rfl, _, rfl⟩ := hv
  have hjl : j < css.length := by omega
  have hci := List.getElem?_eq_getElem hjl
  refine ⟨g, _, css[j], rfl, hB, hb, by rw [List.length_append, flatten_len css h2, h1]; omega, fun q v hq => ?_, (h6 j k _ hk hci).2 (Nat.le_refl _)⟩
  have := flatten_get css h2 j _ hci q v hq
  rw [List.getElem?_append_left (List.getElem?_eq_some_iff.1 this).1]
  exact this
theorem Turned2.step {S : Nat → Prop} {w wr w' : World} {kids : List T} {cap j B N lo hi g : Nat} {cs cs' : List Value} {k : T} {d : List Value} (hk : kids[j]? = some k) (h : Turned2 S w kids (some ⟨g, 0, none⟩) cap j B N wr)
    (hcs : Blk wr g cs 54) (hu : Upd wr w' g) (hb : Blk w' g cs' 54) (hl : cs'.length = cs.length) (ho : ∀ p, p < j * 6 ∨ j * 6 + 6 ≤ p → cs'[p]? = cs[p]?) (hd : ∀ q v, d[q]? = some v → cs'[j * 6 + q]? = some v)
    (hr : OT (fun b => lo ≤ b ∧ b < hi) wr k d) (hlo : N ≤ lo) (hhi : hi ≤ w'.heap.size) (hgN : g < N) (hBN : B ≤ g) :
    Turned2 S w kids (some ⟨g, 0, none⟩) cap (j + 1) B w'.heap.size w' := by
  obtain ⟨css, Si, h1, h2, h3, h4, h5, h6⟩ := h
  have hlt := (List.getElem?_eq_some_iff.1 hk).1
  refine ⟨css.set j d, fun i b => if i = j then lo ≤ b ∧ b < hi else Si i b ∧ b < N, by simp [h1], fun c hc => ?_, own_set6 (cs' := cs') h2 h1 h3 hlt hr.len (fun c hc => ?_), fun i b hib => ?_, fun i i' b h7 h8 => ?_, fun i x c hx hc => ?_⟩
  · rcases List.mem_or_eq_of_mem_set hc with hc | hc
    · exact h2 c hc
    · rw [hc]; exact hr.len
  · obtain rfl := hc.inj hcs
    exact ⟨hb, hl, ho, hd⟩
  · simp only [Value.ownBlock, ne_eq, Option.some.injEq]
    dsimp only at hib
    split at hib
    · refine ⟨by omega, by omega, by omega, by omega⟩
    · obtain ⟨a, b', c, e⟩ := h4 i b hib.1
      simp only [Value.ownBlock, ne_eq, Option.some.injEq] at e
      exact ⟨a, by rw [hu.size]; exact c, by rw [hu.size]; exact c, e⟩
  · dsimp only at h7 h8
    split at h7 <;> split at h8
    · omega
    · have := h8.2; omega
    · have := h7.2; omega
    · exact h5 i i' b h7.1 h8.1
  · by_cases hij : i = j
    · subst hij
      rw [hk] at hx; cases hx
      rw [List.getElem?_set_self (by omega)] at hc; cases hc
      refine ⟨fun _ => ?_, fun h => absurd h (by omega)⟩
      simp only [if_pos]
      exact hr.keep fun b hb => hu.block b (by omega)
    · rw [List.getElem?_set_ne (fun e => hij e.symm)] at hc
      refine ⟨fun hh => ?_, fun hh => (h6 i x c hx hc).2 (by omega)⟩
      simp only [if_neg hij]
      have h9 := (h6 i x c hx hc).1 (by omega)
      have h10 : OT (Si i) w' x c := h9.keep fun b hb => hu.block b (fun e => by
        have := (h4 i b hb).2.2.2
        simp only [Value.ownBlock, ne_eq, Option.some.injEq] at this
        exact this e.symm)
      exact h10.mono fun b hb => ⟨hb, (h4 i b hb).2.1⟩
theorem Turned2.row {S : Nat → Prop} {w wr : World} {t : T} {A : Option Addr} {B B' cap N : Nat} (hl : t.kids.length ≤ 1048576) (h : Turned2 S w t.kids A cap t.kids.length B N wr) (hB : B' ≤ B) (hN : N ≤ wr.heap.size) :
    OT (fun b => B' ≤ b ∧ b < wr.heap.size) wr t (cT t.name t.key t.kind t.num t.text A t.kids.length cap) := by
  obtain ⟨css, Si, h1, h2, h3, h4, h5, h6⟩ := h
  refine OT.of_row (css := css) (Si := Si) ⟨h1, h2, hl, own_weak (Nat.zero_le _) h3, fun g hg => ⟨⟨?_, own_lt h3 g hg⟩, fun i hi => (h4 i g hi).2.2.2 hg⟩, fun i b hb => ⟨by have := (h4 i b hb).1; omega, (h4 i b hb).2.2.1⟩, h5, fun i k c hk hc => (h6 i k c hk hc).1 (List.getElem?_eq_some_iff.1 hk).1⟩
  have := own_base h3 g hg
  omega
set_option maxRecDepth 100000 in
set_option maxHeartbeats 4000000 in
theorem own_clone : ∀ (N : Nat) (t : T) (S : Nat → Prop) (w : World) (c : List Value), t.deep ≤ N → RT S w t c → Calls Try.prog 114 #[.agg c.toArray] w (Ret (OwnPost t w))
  | 0, t, S, w, c, hn, _ => by rw [t.deep_eq] at hn; omega
  | N + 1, t, S, w, c, hn, h => by
    obtain ⟨K, kc, rfl, hrow⟩ := h.row
    have kn := Hd.mk (show deepL t.kids ≤ N by rw [T.deep_eq] at hn; omega)
    have ih := Hd.mk (own_clone N)
    have hlb := hrow.len
    have kr := Hd.mk hrow
    clear hrow h hn
    simp only [cT]
    go_enter Try.func114, Try.ntmps114
    go_wp2_with fail
    have kx := Hd.mk ((Ext.alloc w (.cells #[.string t.name, .string t.key, .int .i64 t.kind, .int .u64 t.num, .string t.text, .slice K t.kids.length kc] 54)).trans (Ext.alloc _ (.cells #[.string ⟨#[]⟩, .string ⟨#[]⟩, .int .i64 0, .int .u64 0, .string ⟨#[]⟩, .slice none 0 0] 54)))
    have kA := Hd.mk ((Blk.new w #[.string t.name, .string t.key, .int .i64 t.kind, .int .u64 t.num, .string t.text, .slice K t.kids.length kc] 54).alloc (.cells #[.string ⟨#[]⟩, .string ⟨#[]⟩, .int .i64 0, .int .u64 0, .string ⟨#[]⟩, .slice none 0 0] 54))
    have kR := Hd.mk (Blk.new2 w (.cells #[.string t.name, .string t.key, .int .i64 t.kind, .int .u64 t.num, .string t.text, .slice K t.kids.length kc] 54) #[.string ⟨#[]⟩, .string ⟨#[]⟩, .int .i64 0, .int .u64 0, .string ⟨#[]⟩, .slice none 0 0] 54)
    have hsz := Hd.mk (show ((w.alloc (.cells #[.string t.name, .string t.key, .int .i64 t.kind, .int .u64 t.num, .string t.text, .slice K t.kids.length kc] 54)).alloc (.cells #[.string ⟨#[]⟩, .string ⟨#[]⟩, .int .i64 0, .int .u64 0, .string ⟨#[]⟩, .slice none 0 0] 54)).heap.size = w.heap.size + 2 by simp)
    generalize (w.alloc _).alloc _ = W at *
    refine Calls.mono (clone_nodes kr.out kx.out) ?_
    rintro e w1 ⟨_, rfl, css, h1, h2, h3, hown, hx1⟩
    obtain ⟨A, cap, rfl, hcap, hnul, hrows⟩ := own_slice hown
    rw [hsz.out] at hrows
    have hT0 := Hd.mk (Turned2.start (N := w1.heap.size) h1 h2 h3 (by rw [hsz.out] at hown; exact hown))
    have kA1 := Hd.mk (kA.out.ext hx1)
    have kR1 := Hd.mk (kR.out.ext hx1)
    have kx1 := Hd.mk (kx.out.trans hx1)
    have hcap := Hd.mk hcap
    have hnul := Hd.mk hnul
    clear h1 h2 h3 hown hx1 hrows
    have gA := kA1.out.cell
    have fA := kA1.out.free
    go_wp2_with fail
    have kA2 := Hd.mk (kA1.out.setCell 5 (.slice A t.kids.length cap))
    have hu := Hd.mk (Upd.setCell w1 ⟨w.heap.size, 5, none⟩ (.slice A t.kids.length cap))
    have kR2 := Hd.mk (hu.out.blk (by simp) kR1.out)
    have hT1 := Hd.mk (Turned2.upd hu.out (by simp) hT0.out)
    have hsz1 := Hd.mk (show w1.heap.size ≤ (w1.setCell ⟨w.heap.size, 5, none⟩ (.slice A t.kids.length cap)).heap.size by simp)
    replace hT1 := Hd.mk (hT1.out.bound hsz1.out)
    have kx2 := Hd.mk (show Ext w _ from Below.trans kx1.out (hu.out.below (Nat.le_refl _)))
    clear gA fA hu kA1 kR1 kx1 hT0 kA kR
    generalize w1.setCell _ _ = W1 at *
    go_loopg [12] (t.kids.length + 1) (fun q i wr => ∃ j : Nat, j ≤ t.kids.length ∧ Hd (q = t.kids.length + 1 - j) ∧ i = .int .i64 j ∧ Hd (Ext w wr) ∧ Hd (Turned2 S w t.kids A cap j (w.heap.size + 2) wr.heap.size wr) ∧
      Hd (Blk wr w.heap.size [.string t.name, .string t.key, .int .i64 t.kind, .int .u64 t.num, .string t.text, .slice A t.kids.length cap] 54) ∧ Hd (Blk wr (w.heap.size + 1) [.string ⟨#[]⟩, .string ⟨#[]⟩, .int .i64 0, .int .u64 0, .string ⟨#[]⟩, .slice none 0 0] 54))
    case atStart => exact ⟨0, by omega, ⟨by omega⟩, rfl, kx2, hT1, kA2, kR2⟩
    case round =>
    obtain ⟨j, hj, hq, rfl, hxr, hT, kA, kR⟩ := hrel
    by_cases hlt : j < t.kids.length
    · have hkj := List.getElem?_eq_getElem hlt
      generalize t.kids[j] = k at hkj
      have hkj := Hd.mk hkj
      obtain ⟨g, cs, d, rfl, hge, hcs, hlen, hd1, hrk⟩ := hT.out.at hkj.out
      obtain ⟨K', kc', rfl, _⟩ := hrk.row
      have hkd := Hd.mk (show k.deep ≤ N by have := deepL_mem hkj.out; have := kn.out; omega)
      have hcs := Hd.mk hcs
      have hlen := Hd.mk hlen
      have hd1' : ∀ (q : Nat) v, (cT k.name k.key k.kind k.num k.text K' k.kids.length kc')[q]? = some v → wr.cell? ⟨g, j * 6 + q, none⟩ = some v := fun q v hv => by rw [hcs.out.cell]; exact hd1 q v hv
      obtain ⟨e0, e1, e2, e3, e4, e5⟩ := six (Ext.refl wr) hd1'
      have hrk := Hd.mk hrk
      have hglt := Hd.mk hcs.out.lt
      clear hd1 hd1'
      go_wp2_with fail
      have hxb := Hd.mk (Ext.alloc wr (.cells #[.string k.name, .string k.key, .int .i64 k.kind, .int .u64 k.num, .string k.text, .slice K' k.kids.length kc'] 54))
      have kB := Hd.mk (Blk.new wr #[.string k.name, .string k.key, .int .i64 k.kind, .int .u64 k.num, .string k.text, .slice K' k.kids.length kc'] 54)
      have kA' := Hd.mk (kA.out.ext hxb.out)
      have kR' := Hd.mk (kR.out.ext hxb.out)
      have hT' := Hd.mk ((hT.out.ext hxb.out).bound hxb.out.size)
      have hcs' := Hd.mk (hcs.out.ext hxb.out)
      have hxr' := Hd.mk (hxr.out.trans hxb.out)
      have hrkV := Hd.mk (hrk.out)
      have hgl2 := Hd.mk (Nat.lt_of_lt_of_le hglt.out hxb.out.size)
      clear e0 e1 e2 e3 e4 e5 hxb kA kR hT hcs
      generalize wr.heap.size = pB at *
      generalize wr.alloc _ = V at *
      refine Flow.wp_region_flow_l (fun qq => match qq with
        | 17 => SP.eq (.pointer (some ⟨w.heap.size, 5, none⟩))
        | 18 => SP.eq (.slice (some ⟨g, 0, none⟩) t.kids.length cap)
        | 19 => SP.eq (.int .i64 (j : Nat))
        | 20 => SP.eq (.agg #[.string k.name, .string k.key, .int .i64 k.kind, .int .u64 k.num, .string k.text, .slice K' k.kids.length kc'])
        | 21 => spO k V.heap.size
        | 22 => SP.eq (.pointer (some ⟨g, j * 6, none⟩))
        | _ => SP.any) 6 (by kernel_rfl) 25 rfl (by kernel_rfl) ?_ ?_
      · skip
        refine ⟨?_, ?_, ?_, ?_, ?_, ?_, trivial⟩
        · intro act W2 hk
          refine Flow.does_intro rfl (fun K hK => ?_)
          have e1 : act.tmps[1]?.getD undef = .pointer (some ⟨w.heap.size, 0, none⟩) := hk.o 1 (by kernel_rfl)
          clear hk
          go_simp
          exact hK _ _ (Ext.refl _) (fun d hd => by cases hd; rfl)
        · intro act W2 hk
          refine Flow.does_intro rfl (fun K hK => ?_)
          have e17 : act.tmps[17]?.getD undef = .pointer (some ⟨w.heap.size, 5, none⟩) := hk.v 17 (by kernel_rfl)
          have g := ((kA'.out).ext ((Ext.drew V).trans hk.ext)).cell
          clear hk
          go_simp
          exact hK _ _ (Ext.refl _) (fun d hd => by cases hd; rfl)
        · intro act W2 hk
          refine Flow.does_intro rfl (fun K hK => ?_)
          have e3 : act.tmps[3]?.getD undef = .int .i64 (j : Nat) := hk.o 3 (by kernel_rfl)
          clear hk
          go_simp
          exact hK _ _ (Ext.refl _) (fun d hd => by cases hd; rfl)
        · intro act W2 hk
          refine Flow.does_intro rfl (fun K hK => ?_)
          have e4 : act.tmps[4]?.getD undef = .pointer (some ⟨pB, 0, none⟩) := hk.o 4 (by kernel_rfl)
          have g := ((kB.out).ext ((Ext.drew V).trans hk.ext)).cell
          clear hk
          go_simp
          exact hK _ _ (Ext.refl _) (fun d hd => by cases hd; rfl)
        · intro act W2 hk
          refine Flow.does_intro rfl (fun K hK => ?_)
          have e20 : act.tmps[20]?.getD undef = .agg #[.string k.name, .string k.key, .int .i64 k.kind, .int .u64 k.num, .string k.text, .slice K' k.kids.length kc'] := hk.v 20 (by kernel_rfl)
          have hx0 := Hd.mk ((Ext.drew V).trans hk.ext)
          have hsz0 := hx0.out.size
          clear hk
          go_simp
          refine Calls.mono (ih.out k S W2 _ hkd.out (hrkV.out.ext (hxr'.out.trans hx0.out))) ?_
          rintro e W3 ⟨_, rfl, c', rfl, hr', hx⟩
          exact hK _ _ hx (fun d hd => by cases hd; exact ⟨c', _, _, rfl, hr', hsz0, Nat.le_refl _⟩)
        · intro act W2 hk
          refine Flow.does_intro rfl (fun K hK => ?_)
          have e18 : act.tmps[18]?.getD undef = .slice (some ⟨g, 0, none⟩) t.kids.length cap := hk.v 18 (by kernel_rfl)
          have e19 : act.tmps[19]?.getD undef = .int .i64 (j : Nat) := hk.v 19 (by kernel_rfl)
          have hlt2 := hlt
          clear hk
          go_simp
          exact hK _ _ (Ext.refl _) (fun d hd => by cases hd; rfl)
      · intro act W2 he
        have hxW2 := Hd.mk ((Ext.drew V).trans he.ext)
        obtain ⟨us, hA, hF⟩ := he.out [17, 18, 19, 20, 21, 22] (by kernel_rfl)
        simp only [Flow.fillL, List.contains_cons, List.contains_nil, Nat.reduceBEq, Bool.or_false, Bool.false_or, Bool.or_true, Bool.true_or, ↓reduceIte, Nat.reduceAdd, Bool.false_eq_true] at hA
        subst hA
        have f21 : (spO k V.heap.size).p (us 21) W2 := hF 21 (by simp)
        have f22 : us 22 = .pointer (some ⟨g, j * 6, none⟩) := hF 22 (by simp)
        clear hF he
        rw [f22]
        clear f22
        obtain ⟨c', lo, hi, ec, hr', hlo, hhi⟩ := (f21 : (spO _ _).p _ _)
        generalize us 17 = u17 at *
        generalize us 18 = u18 at *
        generalize us 19 = u19 at *
        generalize us 20 = u20 at *
        generalize us 21 = u21 at *
        subst ec
        obtain ⟨K2, kc2, _, _, rfl, _⟩ := hr'.row
        have hr' := Hd.mk hr'
        have hcs2 := Hd.mk (hcs'.out.ext hxW2.out)
        have kA2 := Hd.mk (kA'.out.ext hxW2.out)
        have kR2 := Hd.mk (kR'.out.ext hxW2.out)
        have hT2 := Hd.mk (hT'.out.ext hxW2.out)
        have hxr2 := Hd.mk (hxr'.out.trans hxW2.out)
        have hfr := hcs2.out.free
        have hl6 := hlen.out
        obtain ⟨v0, z0⟩ := cell_some hcs2.out (i := j * 6) (by omega)
        obtain ⟨v1, z1⟩ := cell_some hcs2.out (i := j * 6 + 1) (by omega)
        obtain ⟨v2, z2⟩ := cell_some hcs2.out (i := j * 6 + 2) (by omega)
        obtain ⟨v3, z3⟩ := cell_some hcs2.out (i := j * 6 + 3) (by omega)
        obtain ⟨v4, z4⟩ := cell_some hcs2.out (i := j * 6 + 4) (by omega)
        obtain ⟨v5, z5⟩ := cell_some hcs2.out (i := j * 6 + 5) (by omega)
        simp only [cT]
        refine (show wpList _ _ _ (⟨none, .store 54 (.tmp 22) (.tmp 21), _, _, _, none⟩ :: []) _ _ from ?_)
        go_wp2_with fail
        obtain ⟨cs', q1, q2, q3, q4, q5⟩ := set6 hcs2.out (o := j * 6) (by omega) (.string k.name) (.string k.key) (.int .i64 k.kind) (.int .u64 k.num) (.string k.text) (.slice K2 k.kids.length kc2)
        go_roundg (t.kids.length + 1 - (j + 1))
        case measure => have := hq.out; omega
        case rel => exact ⟨j + 1, by omega, ⟨rfl⟩, by go_num, ⟨Below.trans hxr2.out (q2.below (by omega))⟩, ⟨Turned2.step hkj.out hT2.out hcs2.out q2 q1 q3 q4 q5 hr'.out hlo (by rw [q2.size]; exact hhi) hgl2.out (by omega)⟩, ⟨q2.blk (by omega) kA2.out⟩, ⟨q2.blk (by omega) kR2.out⟩⟩
    · have hjl : j = t.kids.length := by omega
      subst hjl
      have gA := kA.out.cell
      have gR := kR.out.cell
      have fR := kR.out.free
      go_wp2_with fail
      have hu := Hd.mk ((((((Upd.setCell wr ⟨w.heap.size + 1, 0, none⟩ (.string t.name)).trans (Upd.setCell _ ⟨w.heap.size + 1, 1, none⟩ (.string t.key))).trans (Upd.setCell _ ⟨w.heap.size + 1, 2, none⟩ (.int .i64 t.kind))).trans (Upd.setCell _ ⟨w.heap.size + 1, 3, none⟩ (.int .u64 t.num))).trans (Upd.setCell _ ⟨w.heap.size + 1, 4, none⟩ (.string t.text))).trans (Upd.setCell _ ⟨w.heap.size + 1, 5, none⟩ (.slice A t.kids.length cap)))
      have hrow := Hd.mk (Turned2.row hlb (hT.out.upd hu.out (show w.heap.size + 1 < w.heap.size + 2 by omega)) (by omega : w.heap.size ≤ w.heap.size + 2) (by rw [hu.out.size]; exact Nat.le_refl _))
      exact ret_box rfl (w.heap.size + 1) _ 54 _ ((((((kR.out.setCell 0 (.string t.name)).setCell 1 (.string t.key)).setCell 2 (.int .i64 t.kind)).setCell 3 (.int .u64 t.num)).setCell 4 (.string t.text)).setCell 5 (.slice A t.kids.length cap)) rfl rfl Try.underlying54 rfl size54
        ⟨_, rfl, _, rfl, hrow.out, Below.trans hxr.out (hu.out.below (Nat.le_succ _))⟩
end Go.Proofs.Ytgkgedjmnbjalaa
set_option linter.unusedSimpArgs false
namespace Go.Proofs.Ytgkgedjmnbjalaa
open Go.RowKit Go.Sort
def insR (x : T) : List T → List T
  | [] => [x]
  | y :: r => if lessT x y = true then y :: insR x r else x :: y :: r
def insSt (x : T) (l : List T) : List T := (insR x l.reverse).reverse
mutual
def sortT : T → T
  | .mk n k d m t l => .mk n k d m t (sortL [] l)
def sortL (acc : List T) : List T → List T
  | [] => acc
  | x :: l => sortL (insSt (sortT x) acc) l
end
theorem sortT_eq (t : T) : sortT t = t.wk (sortL [] t.kids) := by cases t; rw [sortT]; rfl
theorem sortL_cons (acc : List T) (x : T) (l : List T) : sortL acc (x :: l) = sortL (insSt (sortT x) acc) l := by rw [sortL]
theorem sortL_nil (acc : List T) : sortL acc [] = acc := by rw [sortL]
theorem insR_at (x : T) : ∀ (suf r : List T), (∀ e ∈ suf, lessT x e = true) → (∀ y r', r = y :: r' → lessT x y = false) → insR x (suf ++ r) = suf ++ x :: r
  | [], [], _, _ => rfl
  | [], y :: r, _, h => by
    rw [List.nil_append, insR, h y r rfl, if_neg (by simp)]; rfl
  | e :: suf, r, h1, h2 => by
    rw [List.cons_append, insR, if_pos (h1 e (by simp)), insR_at x suf r (fun e he => h1 e (by simp [he])) h2]; rfl
theorem insSt_at {x : T} {l : List T} {p : Nat} (hp : p ≤ l.length) (h1 : ∀ (i : Nat) e, p ≤ i → l[i]? = some e → lessT x e = true) (h2 : ∀ y, 0 < p → l[p - 1]? = some y → lessT x y = false) : insSt x l = l.take p ++ x :: l.drop p := by
  unfold insSt
  have hl : l.reverse = (l.drop p).reverse ++ (l.take p).reverse := by rw [← List.reverse_append, List.take_append_drop]
  rw [hl, insR_at x _ _ (fun e he => ?_) (fun y r' hr => ?_)]
  · simp
  · obtain ⟨i, hi⟩ := List.getElem?_of_mem (List.mem_reverse.1 he)
    rw [List.getElem?_drop] at hi
    exact h1 _ e (by omega) hi
  · have h3 : (l.take p).getLast? = some y := by rw [← List.head?_reverse, hr]; rfl
    rw [List.getLast?_eq_getElem?, List.length_take, List.getElem?_take] at h3
    split at h3
    · rename_i hlt
      refine h2 y (by omega) ?_
      rw [← h3]
      congr 1
      omega
    · cases h3
theorem insSt_end {x : T} {l : List T} (h : ∀ y ∈ l, lessT y x = true) : insSt x l = l ++ [x] := by
  rw [insSt_at (p := l.length) (Nat.le_refl _) (fun i e hi he => by have := (List.getElem?_eq_some_iff.1 he).1; omega) (fun y hp hy => lessT_asymm (h y (List.mem_of_getElem? hy)))]
  simp
mutual
/-- A tree that is right is sorted. -/
theorem sortT_right : ∀ t : T, rightT t = true → sortT t = t
  | .mk n k d m t l, h => by
    rw [sortT]
    by_cases h0 : d = 0
    · have h1 := (right_box (t := .mk n k d m t l) h0).1 h
      rw [sortL_right l [] h1.2.2.1 h1.2.2.2]
      rfl
    · have h1 : l = [] := right_leaf (x := .mk n k d m t l) h h0
      rw [h1, sortL]
theorem sortL_right : ∀ (l acc : List T), (∀ x ∈ l, rightT x = true) → Srt (acc ++ l) → sortL acc l = acc ++ l
  | [], acc, _, _ => by rw [sortL]; simp
  | x :: l, acc, h1, h2 => by
    have hx := sortT_right x (h1 x (by simp))
    have h3 := (srt_split h2).1
    rw [sortL, hx, insSt_end h3, sortL_right l (acc ++ [x]) (fun y hy => h1 y (by simp [hy])) (by rw [List.append_assoc]; exact h2)]
    simp
end
end Go.Proofs.Ytgkgedjmnbjalaa
set_option linter.unusedSimpArgs false
namespace Go.Proofs.Ytgkgedjmnbjalaa
open Go.RowKit Go.Sort
theorem rep_size {l : List T} {s : Step} {k : T} (x : T) (hk : kid l s = some k) : sizeL (repL l s x) + k.size = sizeL l + x.size := by
  obtain ⟨pre, suf, rfl, h1, h2⟩ := kid_some hk
  rw [rep_at h2 h1, sizeL_append, sizeL_append, sizeL_cons, sizeL_cons]
  omega
theorem ins_size (x : T) : ∀ l : List T, sizeL (insL l x) = sizeL l + x.size
  | [] => by simp [insL, sizeL_cons, sizeL]
  | y :: l => by
    rw [insL]
    split
    · rw [sizeL_cons, sizeL_cons, ins_size x l]; omega
    · rw [sizeL_cons, sizeL_cons]; omega
theorem setL_size (l : List T) (x : T) : sizeL (setL l x) ≤ sizeL l + x.size := by
  unfold setL
  split
  · rename_i h
    obtain ⟨k, hk⟩ := Option.isSome_iff_exists.1 h
    have := rep_size x hk
    omega
  · rw [ins_size]; omega
theorem setR_size : ∀ (way : List Step) (n x m : T), setR n way x = (m, 0) → m.size ≤ n.size + x.size
  | [], n, x, m, h => by simp [setR] at h
  | [s], n, x, m, h => by
    rw [setR_one] at h
    split at h
    · split at h
      · simp at h
      · simp at h
        subst h
        rw [wk_size, n.size_eq]
        have := setL_size n.kids x
        omega
    · simp at h
  | s :: q :: r, n, x, m, h => by
    rw [setR_cons] at h
    split at h
    · cases hk : kid n.kids s with
      | none => rw [hk] at h; simp at h
      | some k =>
        rw [hk] at h
        simp only at h
        by_cases hz : (setR k (q :: r) x).2 = 0
        · rw [if_pos hz] at h
          simp at h
          subst h
          have h1 : (setR k (q :: r) x).fst.size ≤ k.size + x.size := setR_size (q :: r) k x _ (Prod.ext rfl hz)
          have h2 := rep_size (setR k (q :: r) x).1 hk
          rw [wk_size, n.size_eq]
          omega
        · rw [if_neg hz] at h; rw [h] at hz; exact absurd rfl hz
    · simp at h
end Go.Proofs.Ytgkgedjmnbjalaa
set_option linter.unusedSimpArgs false
namespace Go.Proofs.Ytgkgedjmnbjalaa
open Go.RowKit Go.Sort
def putT : T → List Step → T → T
  | _, [], x => x
  | t, s :: r, x => match kid t.kids s with | none => t | some k => t.wk (repL t.kids s (putT k r x))
theorem setT_put : ∀ (init : List Step) (s : Step) (t p x : T), getT t init = some p → setT t (init ++ [s]) x = putT t init (p.wk (setL p.kids x))
  | [], s, t, p, x, h => by cases h; rfl
  | q :: init, s, t, p, x, h => by
    rw [getT_cons] at h
    cases hk : kid t.kids q with
    | none => rw [hk] at h; cases h
    | some k =>
      rw [hk] at h
      have h' : getT k init = some p := h
      have ih := setT_put init s k p x h'
      obtain ⟨y, l, hl⟩ : ∃ y l, init ++ [s] = y :: l := by cases init <;> exact ⟨_, _, rfl⟩
      rw [List.cons_append, hl]
      rw [hl] at ih
      simp only [setT, putT, hk, ih]
theorem cutT_put : ∀ (init : List Step) (s : Step) (t p : T), getT t init = some p → cutT t (init ++ [s]) = putT t init (p.wk (cutL p.kids s))
  | [], s, t, p, h => by cases h; rfl
  | q :: init, s, t, p, h => by
    rw [getT_cons] at h
    cases hk : kid t.kids q with
    | none => rw [hk] at h; cases h
    | some k =>
      rw [hk] at h
      have h' : getT k init = some p := h
      have ih := cutT_put init s k p h'
      obtain ⟨y, l, hl⟩ : ∃ y l, init ++ [s] = y :: l := by cases init <;> exact ⟨_, _, rfl⟩
      rw [List.cons_append, hl]
      rw [hl] at ih
      simp only [cutT, putT, hk, ih]
def Six (w w' : World) (b o : Nat) (c : List Value) : Prop := ∀ cs, Blk w b cs 54 → ∃ cs', Blk w' b cs' 54 ∧ cs'.length = cs.length ∧ (∀ p, p < o ∨ o + 6 ≤ p → cs'[p]? = cs[p]?) ∧ ∀ (q : Nat) v, c[q]? = some v → cs'[o + q]? = some v
theorem focus : ∀ (way : List Step) (S : Nat → Prop) (w : World) (b0 o0 : Nat) (t u : T) (c : List Value) (b o : Nat), OT S w t c → (∀ x, S x → x < w.heap.size) → ¬ S b0 → (∀ (q : Nat) v, c[q]? = some v → w.cell? ⟨b0, o0 + q, none⟩ = some v) →
    getT t way = some u → Pth w b0 o0 t way b o →
    ∃ Su cu, OT Su w u cu ∧ (∀ x, Su x → S x) ∧ ¬ Su b ∧ (∀ (q : Nat) v, cu[q]? = some v → w.cell? ⟨b, o + q, none⟩ = some v) ∧ ((way = [] ∧ b = b0 ∧ o = o0 ∧ cu = c) ∨ (way ≠ [] ∧ S b ∧ ∃ cs, Blk w b cs 54 ∧ o + 6 ≤ cs.length)) ∧
      ∀ (w' : World) (u' : T) (cu' : List Value) (Su' : Nat → Prop), (∀ x, S x → x ≠ b → ¬ Su x → w'.heap[x]? = w.heap[x]?) → (way ≠ [] → Six w w' b o cu') → OT Su' w' u' cu' → (∀ x, Su' x → Su x ∨ w.heap.size ≤ x) →
        ∃ c', OT (fun x => S x ∨ w.heap.size ≤ x) w' (putT t way u') c' ∧ (way = [] → c' = cu') ∧ (way ≠ [] → c' = c)
  | [], S, w, b0, o0, t, u, c, b, o, ht, hS, hb0, hc, hg, hp => by
    cases hg
    obtain ⟨rfl, rfl⟩ := hp
    exact ⟨S, c, ht, fun x h => h, hb0, hc, .inl ⟨rfl, rfl, rfl, rfl⟩, fun w' u' cu' Su' _ _ h3 h4 => ⟨cu', h3.mono fun x hx => h4 x hx, fun _ => rfl, fun h => absurd rfl h⟩⟩
  | s :: r, S, w, b0, o0, t, u, c, b, o, ht, hS, hb0, hc, hg, hp => by
    obtain ⟨i, k, g, f, n, cc, h1, h2, h3, h4⟩ := hp
    rcases findT_kid t.kids s with ⟨e1, _⟩ | ⟨i', k', e1, e2, e3, e4, _⟩
    · rw [e1] at h1; omega
    obtain rfl : i' = i := by rw [e1] at h1; exact Int.ofNat.inj h1
    rw [h2] at e2
    obtain rfl : k = k' := by cases e2; rfl
    obtain ⟨K, kc, css, Si, rfl, hrow⟩ := ht.row
    have h5 := hc 5 _ rfl
    rw [h3] at h5
    simp only [Option.some.injEq, Value.slice.injEq] at h5
    obtain ⟨rfl, _, _⟩ := h5
    have hlt := (List.getElem?_eq_some_iff.1 h2).1
    obtain ⟨g', cap, sp, hv, _, hbk, hcap, hmx, hsz⟩ := own_form hrow.own (by omega)
    simp only [Value.slice.injEq, Option.some.injEq, Addr.mk.injEq, and_true, true_and] at hv
    obtain ⟨⟨rfl, rfl⟩, rfl⟩ := hv
    have hcl : i' < css.length := by rw [hrow.hl]; exact hlt
    have hci := List.getElem?_eq_getElem hcl
    have hgg := hrow.g g rfl
    have hk6 := hrow.h6 _ (List.getElem_mem hcl)
    have hfl := flatten_len css hrow.h6
    rw [getT_cons, e3] at hg
    have hkc : ∀ (q : Nat) v, (css[i'])[q]? = some v → w.cell? ⟨g, 0 + i' * 6 + q, none⟩ = some v := fun q v hq => by
      have := flatten_get css hrow.h6 i' _ hci q v hq
      rw [hbk.cell, Nat.zero_add, List.getElem?_append_left (List.getElem?_eq_some_iff.1 this).1]
      exact this
    obtain ⟨Su, cu, f1, f2, f3, f4, f5, f6⟩ := focus r (Si i') w g (0 + i' * 6) k u (css[i']) b o (hrow.each i' k _ h2 hci) (fun x hx => hS x (hrow.sub i' x hx)) (hgg.2 i') hkc hg h4
    have hbS : S b ∧ ∃ cs, Blk w b cs 54 ∧ o + 6 ≤ cs.length := by
      rcases f5 with ⟨_, rfl, rfl, _⟩ | ⟨_, h, h'⟩
      · exact ⟨hgg.1, _, hbk, by rw [List.length_append, hfl]; omega⟩
      · exact ⟨hrow.sub i' b h, h'⟩
    refine ⟨Su, cu, f1, fun x hx => hrow.sub i' x (f2 x hx), f3, f4, .inr ⟨by simp, hbS.1, hbS.2⟩, fun w' u' cu' Su' k1 k2 k3 k4 => ?_⟩
    obtain ⟨c', l1, l2, l3⟩ := f6 w' u' cu' Su' (fun x hx => k1 x (hrow.sub i' x hx)) (fun _ => k2 (by simp)) k3 k4
    have hold : ∀ j, j ≠ i' → ∀ x, Si j x → w'.heap[x]? = w.heap[x]? := fun j hj x hx => by
      refine k1 x (hrow.sub j x hx) (fun e => ?_) (fun h => hj (hrow.dis j i' x hx (f2 x h)))
      subst e
      rcases f5 with ⟨_, e, _⟩ | ⟨_, h, _⟩
      · subst e; exact hgg.2 j hx
      · exact hj (hrow.dis j i' x hx h)
    have hown : w'.ownsRow 0 54 6 (.slice (some ⟨g, 0, none⟩) t.kids.length kc) t.kids.length (css.set i' c').flatten := by
      by_cases hr : r = []
      · rcases f5 with ⟨_, rfl, rfl, _⟩ | ⟨h, _⟩
        · rw [l2 hr]
          obtain ⟨cs', m1, m2, m3, m4⟩ := k2 (by simp) _ hbk
          rw [Nat.zero_add] at m3 m4
          exact own_set6 (cs' := cs') hrow.h6 hrow.hl hrow.own hlt k3.len fun cs hcs => by
            obtain rfl := hcs.inj hbk
            exact ⟨m1, m2, m3, m4⟩
        · exact absurd hr h
      · rw [l3 hr, List.set_getElem_self]
        refine own_keep hrow.own fun x hx => ?_
        obtain rfl : g = x := by simpa [Value.ownBlock] using hx
        refine k1 g hgg.1 (fun e => ?_) (fun h => hgg.2 i' (f2 g h))
        subst e
        rcases f5 with ⟨h, _⟩ | ⟨_, h, _⟩
        · exact hr h
        · exact hgg.2 i' h
    have hfin := hrow.set (N := w.heap.size) hS l1 (fun x hx => hx) hown hold
    have hfin2 : OT (fun x => S x ∨ w.heap.size ≤ x) w' (t.wk (t.kids.set i' (putT k r u'))) (cT t.name t.key t.kind t.num t.text (some ⟨g, 0, none⟩) (t.kids.set i' (putT k r u')).length kc) := OT.of_row (t := t.wk (t.kids.set i' (putT k r u'))) hfin
    rw [List.length_set] at hfin2
    refine ⟨cT t.name t.key t.kind t.num t.text (some ⟨g, 0, none⟩) t.kids.length kc, ?_, fun h => absurd h (by simp), fun _ => rfl⟩
    simp only [putT, e3, e4]
    exact hfin2
end Go.Proofs.Ytgkgedjmnbjalaa
set_option linter.unusedSimpArgs false
namespace Go.Proofs.Ytgkgedjmnbjalaa
open Go.RowKit Go.Sort
def InsPost (w : World) (K : Option Addr) (n kc : Nat) (xs : List Value) (e : Ending) (w' : World) : Prop :=
  ∃ K' kc', e = .returned (.slice K' n kc') ∧ w'.ownsRow 0 54 6 (.slice K' n kc') n xs ∧ w.grownBy w' (Value.slice K n kc).ownBlock ∧ ((Value.slice K' n kc').ownBlock = (Value.slice K n kc).ownBlock ∨ (Value.slice K' n kc').ownBlock = some w.heap.size ∨ ∃ g, (Value.slice K' n kc').ownBlock = some g ∧ w.heap.size ≤ g)
theorem grown_ext {w w' : World} {row : Option Nat} (h : Ext w w') : w.grownBy w' row := ⟨h.os, h.tape, h.output, h.size, fun k hk _ => h.block k hk⟩
theorem grown_upd {w w' : World} {g : Nat} (h : Upd w w' g) : w.grownBy w' (some g) := ⟨h.os, h.tape, h.output, Nat.le_of_eq h.size.symm, fun k _ hk => h.block k (fun e => hk (by rw [e]))⟩
theorem own_any_n {K : Option Addr} {n n' c c' : Nat} : (Value.slice K n c).ownBlock = (Value.slice K n' c').ownBlock := by cases K <;> rfl
theorem grown_trans {a b c : World} {row : Option Nat} (h : a.grownBy b row) (k : b.grownBy c row) : a.grownBy c row :=
  ⟨k.os.trans h.os, k.tape.trans h.tape, k.output.trans h.output, Nat.le_trans h.size k.size, fun i hi hne => (k.block i (Nat.lt_of_lt_of_le hi h.size) hne).trans (h.block i hi hne)⟩
theorem all_take {p : Value → Bool} {xs : List Value} (h : xs.all p = true) (k : Nat) : (xs.take k).all p = true ∧ (xs.drop k).all p = true := by
  rw [List.all_eq_true] at h
  exact ⟨List.all_eq_true.2 fun x hx => h x (List.mem_of_mem_take hx), List.all_eq_true.2 fun x hx => h x (List.mem_of_mem_drop hx)⟩
theorem splice1 {α : Type} (X sp xc : List α) {k : Nat} (h : X.length = k) : (X ++ sp).take k ++ xc ++ (X ++ sp).drop (k + xc.length) = X ++ xc ++ sp.drop xc.length := by
  subst h
  rw [List.take_left, List.drop_append]
  simp
theorem sizeof54 (w : World) : (Go.sizeOf 54).run Try.prog w = .ok 6 w := by
  obtain ⟨_, i, z, hi, _, h1, _⟩ := sl52
  simp [sizeOf, typeInfo, hi, h1]
theorem overlaps_no (w : World) (D g o : Nat) (xc cs : List Value) (lb cb : Nat) (hD : Blk w D xc 54) (hg : Blk w g cs 54) (hne : D ≠ g) (hcs : cs.length ≠ 0) :
    (callFunc 151 #[.slice (some ⟨D, 0, none⟩) 1 1, .slice (some ⟨g, o, none⟩) lb cb]).run Try.prog w = .ok (.value (.bool false)) w := by
  have h1 : w.shape? D = some (54, xc.length) := by unfold Blk at hD; simp [World.shape?, hD]
  have h2 : w.shape? g = some (54, cs.length) := by unfold Blk at hg; simp [World.shape?, hg]
  have h3 : w.frozen? ⟨D, 0, none⟩ = false := by unfold Blk at hD; simp [World.frozen?, hD]
  have h4 : w.frozen? ⟨D, xc.length, none⟩ = false := by unfold Blk at hD; simp [World.frozen?, hD]
  rw [run_callFunc_extern Try.func151 (by kernel_rfl) (by kernel_rfl) (by kernel_rfl) (e := Extern.SlicesOverlaps.overlaps #[52, 52] #[4]) (by kernel_rfl),
    Lib.run_overlaps_apart w 52 4 54 Try.underlying52 6 sizeof54 ⟨D, 0, none⟩ ⟨g, o, none⟩ 1 1 lb cb hne 54 54 _ _ h1 h2 hcs h3 h4]
  rfl
set_option maxRecDepth 100000 in
set_option maxHeartbeats 4000000 in
theorem insert_end {w : World} {K : Option Addr} {n kc : Nat} {xs xc : List Value} {D : Nat} (hown : w.ownsRow 0 54 6 (.slice K n kc) n xs) (hn : n + 1 ≤ 1048576) (hD : Blk w D xc 54) (hxl : xc.length = 6) (hx1 : xc.all (·.oneCell') = true) :
    Calls Try.prog 123 #[.slice K n kc, .int .i64 n, .slice (some ⟨D, 0, none⟩) 1 1] w (InsPost w K (n + 1) kc (xs ++ xc)) := by
  obtain ⟨c1, c2, c3, c4⟩ := own_cap hown
  have kown := Hd.mk hown
  have kD := Hd.mk hD
  have c2' : kc ≤ 9223372036854775807 := c2
  clear hown hD
  have fin : ∀ K0 kc0, (Value.slice K0 n kc0) = .slice K n kc → ∀ v' w', w'.ownsRow 0 54 6 v' (n + 1) (xs ++ xc) → w.grownBy w' (Value.slice K0 n kc0).ownBlock → (v'.ownBlock = (Value.slice K0 n kc0).ownBlock ∨ v'.ownBlock = some w.heap.size) → InsPost w K (n + 1) kc (xs ++ xc) (.returned v') w' := by
    intro K0 kc0 he v' w' h1 h2 h3
    obtain ⟨A, cap, rfl, _⟩ := own_slice h1
    rw [he] at h2 h3
    exact ⟨A, cap, rfl, h1, by rw [own_any_n (n' := n) (c' := kc)]; exact h2, by
      rcases h3 with h3 | h3
      · exact .inl (h3.trans own_any_n)
      · exact .inr (.inl h3)⟩
  replace fin := Hd.mk fin
  cases K with
  | none =>
    obtain rfl := c3 rfl
    obtain rfl : n = 0 := by omega
    go_enter Try.func123, Try.ntmps123
    go_wp2_with ((with_reducible refine stop_at (.call { callee := .builtin .append, args := #[.tmp 23, .tmp 24], argTypes := #[52, 52] }) ?_))
    refine Stop.mk ?_
    refine wpl_append sl52 (by omega) (by omega) (.tmp 23) (.tmp 24) 25 _ _ _ 0 _ 0 xs rfl kown.out D 0 1 1 xc rfl (by rw [hxl]) (fun j u hj => by rw [Nat.zero_add, kD.out.cell]; exact hj) hx1 (by omega) (Nat.zero_le _) fun v' w' h1 h2 h3 => ?_
    have hfin := Hd.mk (fin.out none 0 rfl v' w' h1 h2 h3)
    clear h1 h2 h3
    go_wp2_with fail
    go_ret
    exact hfin.out
  | some ad =>
    obtain ⟨g, rfl, _, hgl⟩ := c4 ad rfl
    by_cases hk : kc = n
    · subst hk
      go_enter Try.func123, Try.ntmps123
      go_wp2_with ((with_reducible refine stop_at (.call { callee := .builtin .append, args := #[.tmp 23, .tmp 24], argTypes := #[52, 52] }) ?_))
      refine Stop.mk ?_
      refine wpl_append sl52 (by omega) (by omega) (.tmp 23) (.tmp 24) 25 _ _ _ 0 _ kc xs rfl kown.out D 0 1 1 xc rfl (by rw [hxl]) (fun j u hj => by rw [Nat.zero_add, kD.out.cell]; exact hj) hx1 (by omega) (Nat.zero_le _) fun v' w' h1 h2 h3 => ?_
      have hfin := Hd.mk (fin.out _ _ rfl v' w' h1 h2 h3)
      clear h1 h2 h3
      go_wp2_with fail
      go_ret
      exact hfin.out
    · go_enter Try.func123, Try.ntmps123
      go_wp2_with ((with_reducible refine stop_at (.call { callee := .builtin .append, args := #[.tmp 23, .tmp 24], argTypes := #[52, 52] }) ?_))
      refine Stop.mk ?_
      refine wpl_append sl52 (by omega) (by omega) (.tmp 23) (.tmp 24) 25 _ _ _ 0 _ n xs rfl kown.out D 0 1 1 xc rfl (by rw [hxl]) (fun j u hj => by rw [Nat.zero_add, kD.out.cell]; exact hj) hx1 (by omega) (Nat.zero_le _) fun v' w' h1 h2 h3 => ?_
      have hfin := Hd.mk (fin.out _ _ rfl v' w' h1 h2 h3)
      clear h1 h2 h3
      go_wp2_with fail
      go_ret
      exact hfin.out
set_option maxRecDepth 100000 in
set_option maxHeartbeats 4000000 in
theorem insert_grow {w : World} {g n i : Nat} {xs xc : List Value} {D : Nat} (hg : Blk w g xs 54) (hxn : xs.length = n * 6) (hi : i < n) (hn : n + 1 ≤ 1048576) (hD : Blk w D xc 54) (hxl : xc.length = 6) (hx1 : xc.all (·.oneCell') = true) (h1 : xs.all (·.oneCell') = true) :
    Calls Try.prog 123 #[.slice (some ⟨g, 0, none⟩) n n, .int .i64 i, .slice (some ⟨D, 0, none⟩) 1 1] w (InsPost w (some ⟨g, 0, none⟩) (n + 1) n (xs.take (i * 6) ++ xc ++ xs.drop (i * 6))) := by
  have kg := Hd.mk hg
  have kD := Hd.mk hD
  have a1 : ¬ (n = i) := by omega
  have a2 : ¬ ((i : Int) = (n : Int)) := by omega
  have a3 : (i : Int) ≤ (n : Int) + 1 := by omega
  clear hg hD
  go_enter Try.func123, Try.ntmps123
  go_wp2_with ((with_reducible refine stop_at (.call { callee := .builtin .append, args := #[.tmp 34, .tmp 39], argTypes := #[52, 3] }) ?_))
  refine Stop.mk ?_
  refine wpl_append_zeros (sz := 6) (by_ := 88) sl52 (by omega) (by omega) Try.underlying3 (.tmp 34) (.tmp 39) 40 _ _ _ ⟨g, 0, none⟩ i n rfl .i64 (n + 1 - i) (show Value.int .i64 _ = _ by congr 1; omega) (xs.take (i * 6)) (by rw [List.length_take]; omega)
    (fun j v hj => by
      rw [addr_add, Nat.zero_add, kg.out.cell]
      rw [List.getElem?_take] at hj
      split at hj
      · exact hj
      · cases hj) (by omega) (by omega) (by omega) ?_
  intro cap sp w1 hx1' hsz hb hcl hcap hcm
  have e1 : i + (n + 1 - i) = n + 1 := by omega
  rw [e1] at hcap ⊢
  have kb := Hd.mk hb
  have kx := Hd.mk hx1'
  have kg1 := Hd.mk (kg.out.ext hx1')
  have kD1 := Hd.mk (kD.out.ext hx1')
  have hcl := Hd.mk hcl
  have hsz := Hd.mk hsz
  have hG := Hd.mk kg.out.lt
  generalize hGs : w.heap.size = G at *
  replace hGs := Hd.mk hGs
  have b1 : ¬ (cap = i) := by omega
  have b2 : ¬ (cap = i + 1) := by omega
  have b3 : cap ≤ 9223372036854775807 := hcm
  clear hb hx1'
  go_wp2_with ((with_reducible refine stop_at (.call { callee := .builtin .copy, args := #[.tmp 43, .tmp 44], argTypes := #[52, 52] }) ?_))
  refine Stop.mk ?_
  refine wpl_copy sl52 (.tmp 43) (.tmp 44) (some 45) 52 _ _ _ G _ _ _ rfl ⟨D, 0, none⟩ 1 1 rfl (xs.take (i * 6) ++ sp) 54 xc kb.out (by rw [hxl, show Nat.min 1 (n + 1 - i) = 1 from Nat.min_eq_left (by omega)]) (fun j v hj => by rw [addr_add, Nat.zero_add, kD1.out.cell]; exact hj) (by rw [hcl.out, hxl]; omega) hx1 ?_
  intro w2 hu2 hb2
  simp only [Act.put, List.setIfInBounds_toArray, List.set_cons_succ, List.set_cons_zero]
  rw [splice1 _ _ _ (by rw [List.length_take]; omega), hxl] at hb2
  have hgG : g ≠ G := by have := hG.out; omega
  have kg2 := Hd.mk (hu2.blk hgG kg1.out)
  have kx2 := Hd.mk (show Ext w w2 from Below.trans kx.out (hu2.below (by rw [hGs.out]; exact Nat.le_refl _)))
  have kb2 := Hd.mk hb2
  clear hu2 hb2 kg1 kD1 kb kx hgG
  have i1 : ((i : Int) + 1).toNat = i + 1 := by omega
  have i2 : (0 : Int) ≤ (i : Int) + 1 := by omega
  have i3 : (i : Int) + 1 ≤ (n : Int) + 1 := by omega
  have i4 : (i : Int) ≤ (n : Int) := by omega
  have i5 : IntKind.i64.wrap ((i : Int) + 1) = (i : Int) + 1 := by rw [IntKind.wrap_i64]; omega
  go_wp2_with fail
  refine Flow.wp_region_flow_l (fun qq => match qq with
    | 46 => SP.eq (.slice (some ⟨G, 0, none⟩) (n + 1) cap)
    | 47 => SP.eq (.int .i64 (i : Nat))
    | 48 => SP.eq (.int .i64 1)
    | 49 => SP.eq (.int .i64 ((i : Int) + 1))
    | 50 => SP.eq (.slice (some ⟨G, (i + 1) * 6, none⟩) (n - i) (cap - (i + 1)))
    | 51 => SP.eq (.slice (some ⟨g, 0, none⟩) n n)
    | 52 => SP.eq (.int .i64 (i : Nat))
    | 53 => SP.eq (.slice (some ⟨g, i * 6, none⟩) (n - i) (n - i))
    | _ => SP.any) 8 (by kernel_rfl) 95 rfl (by kernel_rfl) ?_ ?_
  · skip
    refine ⟨?_, ?_, ?_, ?_, ?_, ?_, ?_, ?_, trivial⟩
    · intro act W2 hk
      refine Flow.does_intro rfl (fun Kq hK => ?_)
      have e9 : act.tmps[9]?.getD undef = .slice (some ⟨G, 0, none⟩) (n + 1) cap := hk.o 9 (by kernel_rfl)
      clear hk
      go_simp
      exact hK _ _ (Ext.refl _) (fun d hd => by cases hd; rfl)
    · intro act W2 hk
      refine Flow.does_intro rfl (fun Kq hK => ?_)
      have e1 : act.tmps[1]?.getD undef = .int .i64 (i : Nat) := hk.o 1 (by kernel_rfl)
      clear hk
      go_simp
      exact hK _ _ (Ext.refl _) (fun d hd => by cases hd; rfl)
    · intro act W2 hk
      refine Flow.does_intro rfl (fun Kq hK => ?_)
      have e7 : act.tmps[7]?.getD undef = .int .i64 1 := hk.o 7 (by kernel_rfl)
      clear hk
      go_simp
      exact hK _ _ (Ext.refl _) (fun d hd => by cases hd; rfl)
    · intro act W2 hk
      refine Flow.does_intro rfl (fun Kq hK => ?_)
      have e47 : act.tmps[47]?.getD undef = .int .i64 (i : Nat) := hk.v 47 (by kernel_rfl)
      have e48 : act.tmps[48]?.getD undef = .int .i64 1 := hk.v 48 (by kernel_rfl)
      clear hk
      go_simp
      exact hK _ _ (Ext.refl _) (fun d hd => by cases hd; rfl)
    · intro act W2 hk
      refine Flow.does_intro rfl (fun Kq hK => ?_)
      have e46 : act.tmps[46]?.getD undef = .slice (some ⟨G, 0, none⟩) (n + 1) cap := hk.v 46 (by kernel_rfl)
      have e49 : act.tmps[49]?.getD undef = .int .i64 ((i : Int) + 1) := hk.v 49 (by kernel_rfl)
      clear hk
      go_simp
      exact hK _ _ (Ext.refl _) (fun d hd => by cases hd; simp [SP.eq])
    · intro act W2 hk
      refine Flow.does_intro rfl (fun Kq hK => ?_)
      have e0 : act.tmps[0]?.getD undef = .slice (some ⟨g, 0, none⟩) n n := hk.o 0 (by kernel_rfl)
      clear hk
      go_simp
      exact hK _ _ (Ext.refl _) (fun d hd => by cases hd; rfl)
    · intro act W2 hk
      refine Flow.does_intro rfl (fun Kq hK => ?_)
      have e1 : act.tmps[1]?.getD undef = .int .i64 (i : Nat) := hk.o 1 (by kernel_rfl)
      clear hk
      go_simp
      exact hK _ _ (Ext.refl _) (fun d hd => by cases hd; rfl)
    · intro act W2 hk
      refine Flow.does_intro rfl (fun Kq hK => ?_)
      have e51 : act.tmps[51]?.getD undef = .slice (some ⟨g, 0, none⟩) n n := hk.v 51 (by kernel_rfl)
      have e52 : act.tmps[52]?.getD undef = .int .i64 (i : Nat) := hk.v 52 (by kernel_rfl)
      clear hk
      go_simp
      exact hK _ _ (Ext.refl _) (fun d hd => by cases hd; simp [SP.eq])
  · intro act W2 he
    have hxW2 := Hd.mk ((Ext.drew w2).trans he.ext)
    obtain ⟨us, hA, hF⟩ := he.out [46, 47, 48, 49, 50, 51, 52, 53] (by kernel_rfl)
    simp only [Flow.fillL, List.contains_cons, List.contains_nil, Nat.reduceBEq, Bool.or_false, Bool.false_or, Bool.or_true, Bool.true_or, ↓reduceIte, Nat.reduceAdd, Bool.false_eq_true] at hA
    subst hA
    have f50 : us 50 = .slice (some ⟨G, (i + 1) * 6, none⟩) (n - i) (cap - (i + 1)) := hF 50 (by simp)
    have f53 : us 53 = .slice (some ⟨g, i * 6, none⟩) (n - i) (n - i) := hF 53 (by simp)
    clear hF he
    rw [f50]
    clear f50
    rw [f53]
    clear f53
    refine (show wpList _ _ _ (⟨some 54, .call { callee := .builtin .copy, args := #[.tmp 50, .tmp 53], argTypes := #[52, 52] }, _, _, _, none⟩ :: []) _ _ from ?_)
    have kg3 := Hd.mk (kg2.out.ext hxW2.out)
    have kb3 := Hd.mk (kb2.out.ext hxW2.out)
    have hxl1 : (xs.take (i * 6) ++ xc).length = (i + 1) * 6 := by rw [List.length_append, List.length_take, hxl]; omega
    have hspl : sp.length = cap * 6 - i * 6 := by have := hcl.out; rw [List.length_append, List.length_take] at this; omega
    have hdl : (xs.drop (i * 6)).length = (n - i) * 6 := by rw [List.length_drop, hxn]; omega
    refine wpl_copy sl52 (.tmp 50) (.tmp 53) (some 54) 52 _ _ _ G _ _ _ rfl ⟨g, i * 6, none⟩ (n - i) (n - i) rfl (xs.take (i * 6) ++ xc ++ sp.drop 6) 54 (xs.drop (i * 6)) kb3.out (by rw [hdl, show Nat.min (n - i) (n - i) = n - i from Nat.min_self _]) (fun j v hj => by rw [addr_add, kg3.out.cell]; rw [List.getElem?_drop] at hj; exact hj) (by rw [List.length_append, hxl1, hdl, List.length_drop, hspl]; omega) (all_take h1 _).2 ?_
    intro w3 hu3 hb3
    simp only [Act.put, List.setIfInBounds_toArray, List.set_cons_succ, List.set_cons_zero]
    rw [splice1 _ _ _ hxl1, hdl] at hb3
    have kx3 := Hd.mk (show Ext w w3 from Below.trans (kx2.out.trans hxW2.out) (hu3.below (by rw [hGs.out]; exact Nat.le_refl _)))
    have kb4 := Hd.mk hb3
    clear hb3 hu3 kb3 kg3
    refine (show wpList _ _ _ [] _ _ from ?_)
    go_wp2_with fail
    go_ret
    refine ⟨some ⟨G, 0, none⟩, cap, rfl, own_intro (Nat.zero_le _) kb4.out (by omega) hcm (by rw [List.length_append, List.length_append, hxl1, hdl, List.length_drop, List.length_drop, hspl]; omega) (by rw [List.length_append, hxl1, hdl]; omega), grown_ext kx3.out, .inr (.inl ?_)⟩
    rw [hGs.out]; rfl
theorem shift1 {α : Type} (A B sp xc : List α) {a : Nat} (hA : A.length = a) (h6 : xc.length = 6) (hB : 6 ≤ B.length) :
    ((A ++ B ++ sp).take (a + 6) ++ B ++ (A ++ B ++ sp).drop (a + 6 + B.length)).take a ++ xc ++ ((A ++ B ++ sp).take (a + 6) ++ B ++ (A ++ B ++ sp).drop (a + 6 + B.length)).drop (a + xc.length) = A ++ xc ++ B ++ sp.drop 6 := by
  subst hA
  have e1 : (A ++ B ++ sp).take (A.length + 6) = A ++ B.take 6 := by
    rw [List.append_assoc, List.take_append, List.take_of_length_le (by omega : A.length ≤ A.length + 6), show A.length + 6 - A.length = 6 by omega, List.take_append_of_le_length hB]
  have e2 : (A ++ B ++ sp).drop (A.length + 6 + B.length) = sp.drop 6 := by
    rw [List.drop_append, List.drop_of_length_le (by rw [List.length_append]; omega), List.nil_append]
    congr 1
    simp only [List.length_append]
    omega
  rw [e1, e2, h6]
  have e3 : (A ++ B.take 6 ++ B ++ sp.drop 6).take A.length = A := by simp [List.append_assoc]
  have e4 : (A ++ B.take 6 ++ B ++ sp.drop 6).drop (A.length + 6) = B ++ sp.drop 6 := by
    rw [List.append_assoc (A ++ B.take 6)]
    have : A.length + 6 = (A ++ B.take 6).length := by simp; omega
    rw [this, List.drop_left]
  rw [e3, e4]
  simp [List.append_assoc]
set_option maxRecDepth 100000 in
set_option maxHeartbeats 4000000 in
theorem insert_room {w : World} {g n kc i : Nat} {xs sp xc : List Value} {D : Nat} (hg : Blk w g (xs ++ sp) 54) (hxn : xs.length = n * 6) (hi : i < n) (hn : n + 1 ≤ 1048576) (hk : n + 1 ≤ kc) (hkm : kc ≤ maxLen) (hcl : (xs ++ sp).length = kc * 6)
    (hD : Blk w D xc 54) (hne : D ≠ g) (hxl : xc.length = 6) (hx1 : xc.all (·.oneCell') = true) (h1 : xs.all (·.oneCell') = true) :
    Calls Try.prog 123 #[.slice (some ⟨g, 0, none⟩) n kc, .int .i64 i, .slice (some ⟨D, 0, none⟩) 1 1] w (InsPost w (some ⟨g, 0, none⟩) (n + 1) kc (xs.take (i * 6) ++ xc ++ xs.drop (i * 6))) := by
  have kg := Hd.mk hg
  have kD := Hd.mk hD
  have hov : ∀ (o lb cb : Nat), (callFunc 151 #[.slice (some ⟨D, 0, none⟩) 1 1, .slice (some ⟨g, o, none⟩) lb cb]).run Try.prog w = .ok (.value (.bool false)) w := fun o lb cb => overlaps_no w D g o xc _ lb cb hD hg hne (by rw [hcl]; omega)
  have a1 : ¬ (kc = i) := by omega
  have a2 : ¬ ((i : Int) = (n : Int)) := by omega
  have a3 : (i : Int) ≤ (n : Int) + 1 := by omega
  have a4 : ¬ (kc = i + 1) := by omega
  have i1 : ((i : Int) + 1).toNat = i + 1 := by omega
  have i2 : (0 : Int) ≤ (i : Int) + 1 := by omega
  have i3 : (i : Int) + 1 ≤ (n : Int) + 1 := by omega
  have i4 : (i : Int) ≤ (n : Int) := by omega
  have i5 : IntKind.i64.wrap ((i : Int) + 1) = (i : Int) + 1 := by rw [IntKind.wrap_i64]; omega
  have a5 : kc ≤ 9223372036854775807 := hkm
  clear hg hD
  go_enter Try.func123, Try.ntmps123
  go_wp2_with (simp only [hov])
  refine Flow.wp_region_flow_l (fun qq => match qq with
    | 69 => SP.eq (.slice (some ⟨g, 0, none⟩) (n + 1) kc)
    | 70 => SP.eq (.int .i64 (i : Nat))
    | 71 => SP.eq (.int .i64 1)
    | 72 => SP.eq (.int .i64 ((i : Int) + 1))
    | 73 => SP.eq (.slice (some ⟨g, (i + 1) * 6, none⟩) (n - i) (kc - (i + 1)))
    | 74 => SP.eq (.slice (some ⟨g, 0, none⟩) (n + 1) kc)
    | 75 => SP.eq (.int .i64 (i : Nat))
    | 76 => SP.eq (.slice (some ⟨g, i * 6, none⟩) (n + 1 - i) (kc - i))
    | _ => SP.any) 8 (by kernel_rfl) 95 rfl (by kernel_rfl) ?_ ?_
  · skip
    refine ⟨?_, ?_, ?_, ?_, ?_, ?_, ?_, ?_, trivial⟩
    · intro act W2 hk
      refine Flow.does_intro rfl (fun Kq hK => ?_)
      have e0 : act.tmps[0]?.getD undef = .slice (some ⟨g, 0, none⟩) (n + 1) kc := hk.o 0 (by kernel_rfl)
      clear hk
      go_simp
      exact hK _ _ (Ext.refl _) (fun d hd => by cases hd; rfl)
    · intro act W2 hk
      refine Flow.does_intro rfl (fun Kq hK => ?_)
      have e1 : act.tmps[1]?.getD undef = .int .i64 (i : Nat) := hk.o 1 (by kernel_rfl)
      clear hk
      go_simp
      exact hK _ _ (Ext.refl _) (fun d hd => by cases hd; rfl)
    · intro act W2 hk
      refine Flow.does_intro rfl (fun Kq hK => ?_)
      have e7 : act.tmps[7]?.getD undef = .int .i64 1 := hk.o 7 (by kernel_rfl)
      clear hk
      go_simp
      exact hK _ _ (Ext.refl _) (fun d hd => by cases hd; rfl)
    · intro act W2 hk
      refine Flow.does_intro rfl (fun Kq hK => ?_)
      have e70 : act.tmps[70]?.getD undef = .int .i64 (i : Nat) := hk.v 70 (by kernel_rfl)
      have e71 : act.tmps[71]?.getD undef = .int .i64 1 := hk.v 71 (by kernel_rfl)
      clear hk
      go_simp
      exact hK _ _ (Ext.refl _) (fun d hd => by cases hd; rfl)
    · intro act W2 hk
      refine Flow.does_intro rfl (fun Kq hK => ?_)
      have e69 : act.tmps[69]?.getD undef = .slice (some ⟨g, 0, none⟩) (n + 1) kc := hk.v 69 (by kernel_rfl)
      have e72 : act.tmps[72]?.getD undef = .int .i64 ((i : Int) + 1) := hk.v 72 (by kernel_rfl)
      clear hk
      go_simp
      exact hK _ _ (Ext.refl _) (fun d hd => by cases hd; simp [SP.eq])
    · intro act W2 hk
      refine Flow.does_intro rfl (fun Kq hK => ?_)
      have e0 : act.tmps[0]?.getD undef = .slice (some ⟨g, 0, none⟩) (n + 1) kc := hk.o 0 (by kernel_rfl)
      clear hk
      go_simp
      exact hK _ _ (Ext.refl _) (fun d hd => by cases hd; rfl)
    · intro act W2 hk
      refine Flow.does_intro rfl (fun Kq hK => ?_)
      have e1 : act.tmps[1]?.getD undef = .int .i64 (i : Nat) := hk.o 1 (by kernel_rfl)
      clear hk
      go_simp
      exact hK _ _ (Ext.refl _) (fun d hd => by cases hd; rfl)
    · intro act W2 hk
      refine Flow.does_intro rfl (fun Kq hK => ?_)
      have e74 : act.tmps[74]?.getD undef = .slice (some ⟨g, 0, none⟩) (n + 1) kc := hk.v 74 (by kernel_rfl)
      have e75 : act.tmps[75]?.getD undef = .int .i64 (i : Nat) := hk.v 75 (by kernel_rfl)
      clear hk
      go_simp
      exact hK _ _ (Ext.refl _) (fun d hd => by cases hd; simp [SP.eq])
  · intro act W2 he
    have hxW2 := Hd.mk ((Ext.drew w).trans he.ext)
    obtain ⟨us, hA, hF⟩ := he.out [69, 70, 71, 72, 73, 74, 75, 76] (by kernel_rfl)
    simp only [Flow.fillL, List.contains_cons, List.contains_nil, Nat.reduceBEq, Bool.or_false, Bool.false_or, Bool.or_true, Bool.true_or, ↓reduceIte, Nat.reduceAdd, Bool.false_eq_true] at hA
    subst hA
    have f73 : us 73 = .slice (some ⟨g, (i + 1) * 6, none⟩) (n - i) (kc - (i + 1)) := hF 73 (by simp)
    have f76 : us 76 = .slice (some ⟨g, i * 6, none⟩) (n + 1 - i) (kc - i) := hF 76 (by simp)
    clear hF he
    rw [f73]
    clear f73
    rw [f76]
    clear f76
    refine (show wpList _ _ _ (⟨some 77, .call { callee := .builtin .copy, args := #[.tmp 73, .tmp 76], argTypes := #[52, 52] }, _, _, _, none⟩ :: []) _ _ from ?_)
    have kg3 := Hd.mk (kg.out.ext hxW2.out)
    have kD3 := Hd.mk (kD.out.ext hxW2.out)
    have hsp := Hd.mk (show sp.length = kc * 6 - n * 6 by rw [List.length_append] at hcl; omega)
    have hdl : (xs.drop (i * 6)).length = (n - i) * 6 := by rw [List.length_drop, hxn]; omega
    have htl : (xs.take (i * 6)).length = i * 6 := by rw [List.length_take, hxn]; omega
    refine wpl_copy sl52 (.tmp 73) (.tmp 76) (some 77) 52 _ _ _ g _ _ _ rfl ⟨g, i * 6, none⟩ (n + 1 - i) (kc - i) rfl (xs ++ sp) 54 (xs.drop (i * 6)) kg3.out (by rw [hdl, show Nat.min (n + 1 - i) (n - i) = n - i from Nat.min_eq_right (by omega)]) (fun j v hj => by rw [addr_add, kg3.out.cell, List.getElem?_append_left (by have := (List.getElem?_eq_some_iff.1 hj).1; rw [hdl] at this; omega)]; rw [List.getElem?_drop] at hj; exact hj) (by rw [hcl, hdl]; omega) (all_take h1 _).2 ?_
    intro w3 hu3 hb3
    simp only [Act.put, List.setIfInBounds_toArray, List.set_cons_succ, List.set_cons_zero]
    have kb3 := Hd.mk hb3
    have kD4 := Hd.mk (hu3.blk hne kD3.out)
    have kgr := Hd.mk (show w.grownBy w3 (some g) from grown_trans (grown_ext hxW2.out) (grown_upd hu3))
    clear hb3 hu3 hov kD3 kg3
    refine (show wpList _ _ _ [] _ _ from ?_)
    go_wp2_with ((with_reducible refine stop_at (.call { callee := .builtin .copy, args := #[.tmp 80, .tmp 81], argTypes := #[52, 52] }) ?_))
    refine Stop.mk ?_
    refine wpl_copy sl52 (.tmp 80) (.tmp 81) (some 82) 52 _ _ _ g _ _ _ rfl ⟨D, 0, none⟩ 1 1 rfl _ 54 xc kb3.out (by rw [hxl, show Nat.min 1 (n + 1 - i) = 1 from Nat.min_eq_left (by omega)]) (fun j v hj => by rw [addr_add, Nat.zero_add, kD4.out.cell]; exact hj) (by simp only [List.length_append, List.length_take, List.length_drop, hxn, hxl, hsp.out]; omega) hx1 ?_
    intro w4 hu4 hb4
    simp only [Act.put, List.setIfInBounds_toArray, List.set_cons_succ, List.set_cons_zero]
    have hsh := shift1 (xs.take (i * 6)) (xs.drop (i * 6)) sp xc htl hxl (by rw [hdl]; omega)
    rw [List.take_append_drop, show i * 6 + 6 = (i + 1) * 6 by omega] at hsh
    rw [hsh] at hb4
    have kb4 := Hd.mk hb4
    replace kgr := Hd.mk (grown_trans kgr.out (grown_upd hu4))
    clear hb4 hu4 hsh kb3 kD4
    refine (show wpList _ _ _ [] _ _ from ?_)
    go_wp2_with fail
    go_ret
    refine ⟨some ⟨g, 0, none⟩, kc, rfl, own_intro (Nat.zero_le _) kb4.out hk hkm (by rw [List.length_append, List.length_append, List.length_append, htl, hdl, hxl, List.length_drop, hsp.out]; omega) (by rw [List.length_append, List.length_append, htl, hdl, hxl]; omega), kgr.out, .inl rfl⟩
theorem slices_insert {w : World} {K : Option Addr} {n kc i : Nat} {xs xc : List Value} {D : Nat} (hown : w.ownsRow 0 54 6 (.slice K n kc) n xs) (hi : i ≤ n) (hn : n + 1 ≤ 1048576) (hD : Blk w D xc 54) (hne : (Value.slice K n kc).ownBlock ≠ some D)
    (hxl : xc.length = 6) (hx1 : xc.all (·.oneCell') = true) (h1 : xs.all (·.oneCell') = true) :
    Calls Try.prog 123 #[.slice K n kc, .int .i64 i, .slice (some ⟨D, 0, none⟩) 1 1] w (InsPost w K (n + 1) kc (xs.take (i * 6) ++ xc ++ xs.drop (i * 6))) := by
  have hxn := hown.1
  by_cases he : i = n
  · subst he
    rw [List.take_of_length_le (by omega), List.drop_of_length_le (by omega), List.append_nil]
    exact insert_end hown hn hD hxl hx1
  · obtain ⟨g, cap, sp, hv, _, hb, hc, hm, hs⟩ := own_form hown (by omega)
    simp only [Value.slice.injEq, true_and] at hv
    obtain ⟨rfl, rfl⟩ := hv
    have hDg : D ≠ g := fun e => hne (by rw [e]; rfl)
    by_cases hk : n + 1 ≤ kc
    · exact insert_room hb hxn (by omega) hn hk hm hs hD hDg hxl hx1 h1
    · obtain rfl : kc = n := by omega
      have hsp : sp = [] := List.eq_nil_of_length_eq_zero (by rw [List.length_append] at hs; omega)
      subst hsp
      rw [List.append_nil] at hb
      exact insert_grow hb hxn (by omega) hn hD hxl hx1 h1
end Go.Proofs.Ytgkgedjmnbjalaa
set_option linter.unusedSimpArgs false
namespace Go.Proofs.Ytgkgedjmnbjalaa
open Go.RowKit Go.Sort
theorem splice2 {α : Type} (A C R : List α) {a c : Nat} (hA : A.length = a) (hC : C.length = c) (zs : List α) :
    ((A ++ R).take a ++ C ++ (A ++ R).drop (a + c)).take (a + c) ++ zs ++ ((A ++ R).take a ++ C ++ (A ++ R).drop (a + c)).drop (a + c + 6) = A ++ C ++ (zs ++ ((A ++ R).drop (a + c)).drop 6) := by
  subst hA hC
  rw [List.take_left]
  have e1 : (A ++ C ++ (A ++ R).drop (A.length + C.length)).take (A.length + C.length) = A ++ C := by
    rw [show A.length + C.length = (A ++ C).length by simp, List.take_left]
  have e2 : (A ++ C ++ (A ++ R).drop (A.length + C.length)).drop (A.length + C.length + 6) = ((A ++ R).drop (A.length + C.length)).drop 6 := by
    rw [List.drop_append, List.drop_of_length_le (by rw [List.length_append]; omega), List.nil_append]
    congr 1
    rw [List.length_append]
    omega
  rw [e1, e2, List.append_assoc (A ++ C)]
set_option maxRecDepth 100000 in
set_option maxHeartbeats 4000000 in
theorem slices_delete {w : World} {g n kc i : Nat} {xs sp : List Value} (hg : Blk w g (xs ++ sp) 54) (hxn : xs.length = n * 6) (hi : i < n) (hn : n ≤ 1048576) (hk : n ≤ kc) (hkm : kc ≤ maxLen) (hcl : (xs ++ sp).length = kc * 6) (h1 : xs.all (·.oneCell') = true) :
    Calls Try.prog 125 #[.slice (some ⟨g, 0, none⟩) n kc, .int .i64 i, .int .i64 (i + 1 : Nat)] w fun e w' => e = .returned (.slice (some ⟨g, 0, none⟩) (n - 1) kc) ∧
      w'.ownsRow 0 54 6 (.slice (some ⟨g, 0, none⟩) (n - 1) kc) (n - 1) (xs.take (i * 6) ++ xs.drop ((i + 1) * 6)) ∧ w.grownBy w' (some g) := by
  have kg := Hd.mk hg
  have hkm2 : kc ≤ 9223372036854775807 := hkm
  have a1 : ¬ (n = i) := by omega
  have a2 : ¬ ((i : Int) = ((i + 1 : Nat) : Int)) := by omega
  have a3 : i ≤ i + 1 := by omega
  have a4 : i + 1 ≤ n := by omega
  have a5 : i + (n - (i + 1)) = n - 1 := by omega
  have a6 : n - 1 ≤ n := by omega
  have a7 : ¬ (kc = n - 1) := by omega
  have a8 : i ≤ kc := by omega
  have a9 : (i : Int) + 1 ≤ (n : Int) := by omega
  have b1 : ((i : Int) + 1).toNat = i + 1 := by omega
  have b2 : (0 : Int) ≤ (i : Int) + 1 := by omega
  have hsp := Hd.mk (show sp.length = kc * 6 - n * 6 by rw [List.length_append] at hcl; omega)
  have hdl : (xs.drop ((i + 1) * 6)).length = (n - (i + 1)) * 6 := by rw [List.length_drop, hxn]; omega
  have htl : (xs.take (i * 6)).length = i * 6 := by rw [List.length_take, hxn]; omega
  have hone := Hd.mk (all_take h1 ((i + 1) * 6)).2
  have hdl := Hd.mk hdl
  have htl := Hd.mk htl
  have hcl := Hd.mk hcl
  clear hg h1
  go_enter Try.func125, Try.ntmps125
  go_wp2_with fail
  refine Flow.wp_region_flow_l (fun qq => match qq with
    | 20 => SP.eq (.slice (some ⟨g, 0, none⟩) n kc)
    | 21 => SP.eq (.int .i64 (i : Nat))
    | 22 => SP.eq (.slice (some ⟨g, 0, none⟩) i kc)
    | 23 => SP.eq (.slice (some ⟨g, 0, none⟩) n kc)
    | 24 => SP.eq (.int .i64 (i + 1 : Nat))
    | 25 => SP.eq (.slice (if kc = i + 1 then some ⟨g, 0, none⟩ else some ⟨g, (i + 1) * 6, none⟩) (n - (i + 1)) (kc - (i + 1)))
    | _ => SP.any) 6 (by kernel_rfl) 33 rfl (by kernel_rfl) ?_ ?_
  · skip
    refine ⟨?_, ?_, ?_, ?_, ?_, ?_, trivial⟩
    · intro act W2 hk
      refine Flow.does_intro rfl (fun Kq hK => ?_)
      have e0 : act.tmps[0]?.getD undef = .slice (some ⟨g, 0, none⟩) n kc := hk.o 0 (by kernel_rfl)
      clear hk
      go_simp
      exact hK _ _ (Ext.refl _) (fun d hd => by cases hd; rfl)
    · intro act W2 hk
      refine Flow.does_intro rfl (fun Kq hK => ?_)
      have e1 : act.tmps[1]?.getD undef = .int .i64 (i : Nat) := hk.o 1 (by kernel_rfl)
      clear hk
      go_simp
      exact hK _ _ (Ext.refl _) (fun d hd => by cases hd; rfl)
    · intro act W2 hk
      refine Flow.does_intro rfl (fun Kq hK => ?_)
      have e20 : act.tmps[20]?.getD undef = .slice (some ⟨g, 0, none⟩) n kc := hk.v 20 (by kernel_rfl)
      have e21 : act.tmps[21]?.getD undef = .int .i64 (i : Nat) := hk.v 21 (by kernel_rfl)
      clear hk
      go_simp
      exact hK _ _ (Ext.refl _) (fun d hd => by cases hd; simp [SP.eq])
    · intro act W2 hk
      refine Flow.does_intro rfl (fun Kq hK => ?_)
      have e0 : act.tmps[0]?.getD undef = .slice (some ⟨g, 0, none⟩) n kc := hk.o 0 (by kernel_rfl)
      clear hk
      go_simp
      exact hK _ _ (Ext.refl _) (fun d hd => by cases hd; rfl)
    · intro act W2 hk
      refine Flow.does_intro rfl (fun Kq hK => ?_)
      have e2 : act.tmps[2]?.getD undef = .int .i64 (i + 1 : Nat) := hk.o 2 (by kernel_rfl)
      clear hk
      go_simp
      exact hK _ _ (Ext.refl _) (fun d hd => by cases hd; rfl)
    · intro act W2 hk
      refine Flow.does_intro rfl (fun Kq hK => ?_)
      have e23 : act.tmps[23]?.getD undef = .slice (some ⟨g, 0, none⟩) n kc := hk.v 23 (by kernel_rfl)
      have e24 : act.tmps[24]?.getD undef = .int .i64 (i + 1 : Nat) := hk.v 24 (by kernel_rfl)
      clear hk
      go_simp
      exact hK _ _ (Ext.refl _) (fun d hd => by cases hd; simp [SP.eq])
  · intro act W2 he
    have hxW2 := Hd.mk ((Ext.drew w).trans he.ext)
    obtain ⟨us, hA, hF⟩ := he.out [20, 21, 22, 23, 24, 25] (by kernel_rfl)
    simp only [Flow.fillL, List.contains_cons, List.contains_nil, Nat.reduceBEq, Bool.or_false, Bool.false_or, Bool.or_true, Bool.true_or, ↓reduceIte, Nat.reduceAdd, Bool.false_eq_true] at hA
    subst hA
    have f22 : us 22 = .slice (some ⟨g, 0, none⟩) i kc := hF 22 (by simp)
    have f25 : us 25 = .slice (if kc = i + 1 then some ⟨g, 0, none⟩ else some ⟨g, (i + 1) * 6, none⟩) (n - (i + 1)) (kc - (i + 1)) := hF 25 (by simp)
    clear hF he
    rw [f22]
    clear f22
    rw [f25]
    clear f25
    refine (show wpList _ _ _ (⟨some 26, .call { callee := .builtin .append, args := #[.tmp 22, .tmp 25], argTypes := #[52, 52] }, _, _, _, none⟩ :: _) _ _ from ?_)
    have kg3 := Hd.mk (kg.out.ext hxW2.out)
    have hdl1 := hdl.out
    have htl1 := htl.out
    have hcl1 := hcl.out
    obtain ⟨ad, had, hsrc⟩ : ∃ ad : Addr, (if kc = i + 1 then some ⟨g, 0, none⟩ else some ⟨g, (i + 1) * 6, none⟩ : Option Addr) = some ad ∧ ∀ (j : Nat) v, (xs.drop ((i + 1) * 6))[j]? = some v → W2.cell? (ad.add j) = some v := by
      by_cases hkc : kc = i + 1
      · exact ⟨_, if_pos hkc, fun j v hj => absurd (List.getElem?_eq_some_iff.1 hj).1 (by rw [hdl1]; omega)⟩
      · refine ⟨_, if_neg hkc, fun j v hj => ?_⟩
        rw [addr_add, kg3.out.cell, List.getElem?_append_left (by have := (List.getElem?_eq_some_iff.1 hj).1; rw [hdl1] at this; omega)]
        rw [List.getElem?_drop] at hj; exact hj
    rw [had]
    refine wpl_append_room sl52 (.tmp 22) (.tmp 25) 26 _ _ _ g i kc rfl ad _ _ rfl (xs ++ sp) (xs.drop ((i + 1) * 6)) kg3.out (by rw [hdl1]) hsrc (by omega) (by rw [hcl1, hdl1]; omega) hone.out ?_
    intro w3 hu3 hb3
    have kb3 := Hd.mk hb3
    have kgr := Hd.mk (show w.grownBy w3 (some g) from grown_trans (grown_ext hxW2.out) (grown_upd hu3))
    clear hb3 hu3 kg3 hsrc
    rw [a5]
    go_wp2_with ((with_reducible refine stop_at (.call { callee := .builtin .clear, args := #[.tmp 31], argTypes := #[52] }) ?_))
    refine Stop.mk ?_
    rw [show n - (n - 1) = 1 by omega]
    refine wpl_clear sl52 (.tmp 31) none _ _ _ g _ 1 _ rfl (by omega) _ 54 kb3.out (by simp only [List.length_append, List.length_take, List.length_drop, hxn, hsp.out]; omega) zero54 ?_
    intro w4 zs hzs hu4 hb4
    have hRR : (xs.take (i * 6)).length + (xs.drop (i * 6) ++ sp).length = kc * 6 := by rw [← List.length_append, ← List.append_assoc, List.take_append_drop]; exact hcl1
    have e1 : xs ++ sp = xs.take (i * 6) ++ (xs.drop (i * 6) ++ sp) := by rw [← List.append_assoc, List.take_append_drop]
    rw [e1] at hb4
    have e2 : (n - 1) * 6 = i * 6 + (n - (i + 1)) * 6 := by omega
    rw [hdl1, e2, show i * 6 + (n - (i + 1)) * 6 + 1 * 6 = i * 6 + (n - (i + 1)) * 6 + 6 by omega, splice2 _ _ _ htl1 hdl1] at hb4
    have kb4 := Hd.mk hb4
    replace kgr := Hd.mk (grown_trans kgr.out (grown_upd hu4))
    clear hb4 hu4 kb3
    simp only [Act.put]
    refine (show wpList _ _ _ [] _ _ from ?_)
    go_wp2_with fail
    go_ret
    exact ⟨rfl, own_intro (Nat.zero_le _) kb4.out (by omega) hkm (by simp only [List.length_append, List.length_drop, List.length_take, hzs, hxn, hsp.out]; omega) (by rw [List.length_append, htl1, hdl1]; omega), kgr.out⟩
def Stands (l : List T) (x : T) (i : Nat) : Prop := i ≤ l.length ∧ (∀ (p : Nat) y, p < i → l[p]? = some y → lessT y x = true) ∧ ∀ (p : Nat) y, i ≤ p → l[p]? = some y → lessT y x = false
theorem srt_get {l : List T} (h : Srt l) {p q : Nat} {y z : T} (hpq : p < q) (hp : l[p]? = some y) (hq : l[q]? = some z) : lessT y z = true := by
  obtain ⟨h1, rfl⟩ := List.getElem?_eq_some_iff.1 hp
  obtain ⟨h2, rfl⟩ := List.getElem?_eq_some_iff.1 hq
  exact List.pairwise_iff_getElem.1 h p q h1 h2 hpq
set_option maxRecDepth 100000 in
set_option maxHeartbeats 4000000 in
theorem nodes_search (l : List T) (x : T) (S : Nat → Prop) (w : World) (K : Option Addr) (c : Nat) (Kx : Option Addr) (cx : Nat) (hs : Srt l) (hr : RRow S w K l c) :
    Calls Try.prog 122 #[.slice K l.length c, .agg #[.string x.name, .string x.key, .int .i64 x.kind, .int .u64 x.num, .string x.text, .slice Kx x.kids.length cx], .func (.func 116) #[] #[]] w fun e w' => ∃ (i : Nat) (b : Bool), e = .returned (.tuple #[.int .i64 i, .bool b]) ∧ Stands l x i ∧ Ext w w' := by
  have kr := Hd.mk hr
  have hl := hr.len
  have hs := Hd.mk hs
  clear hr
  go_enter Try.func122, Try.ntmps122
  go_wp2_with fail
  have kx := Hd.mk (Ext.alloc w (.cells #[.string x.name, .string x.key, .int .i64 x.kind, .int .u64 x.num, .string x.text, .slice Kx x.kids.length cx] 54))
  have kX := Hd.mk (Blk.new w #[.string x.name, .string x.key, .int .i64 x.kind, .int .u64 x.num, .string x.text, .slice Kx x.kids.length cx] 54)
  generalize w.heap.size = pX at *
  generalize w.alloc _ = W at *
  go_loopg [9, 10] (l.length + 1) (fun q s9 s10 wr => ∃ (i j : Nat), i ≤ j ∧ j ≤ l.length ∧ Hd (q = j - i + 1) ∧ s9 = .int .i64 i ∧ s10 = .int .i64 j ∧ Hd (∀ (p : Nat) y, p < i → l[p]? = some y → lessT y x = true) ∧ Hd (∀ (p : Nat) y, j ≤ p → l[p]? = some y → lessT y x = false) ∧ Hd (Ext W wr))
  case atStart => exact ⟨0, l.length, by omega, by omega, ⟨by omega⟩, rfl, rfl, ⟨fun p y hp => absurd hp (by omega)⟩, ⟨fun p y hp hy => by have := (List.getElem?_eq_some_iff.1 hy).1; omega⟩, ⟨Ext.refl _⟩⟩
  case round =>
  obtain ⟨i, j, hij, hj, hq, rfl, rfl, hlo, hhi, hxr⟩ := hrel
  have qX := Hd.mk (kX.out.ext hxr.out)
  by_cases hlt : i < j
  · obtain ⟨h, hh⟩ : ∃ h, h = (i + j) / 2 := ⟨_, rfl⟩
    have hh1 : i ≤ h := by omega
    have hh2 : h < j := by omega
    have hh3 : h < l.length := by omega
    replace hh := Hd.mk hh
    have e1 : IntKind.i64.wrap ((i : Int) + (j : Int)) = ((i + j : Nat) : Int) := by rw [IntKind.wrap_i64]; omega
    have hx1 := List.getElem?_eq_getElem hh3
    generalize l[h] = y at hx1
    obtain ⟨b1, o1, ck, rfl, _, hrk, hck⟩ := kr.out.kid h y hx1
    obtain ⟨K3, c3, rfl, _⟩ := hrk.row
    have kcy := Hd.mk (fun (q : Nat) u hq => Ext.cell (kx.out.trans hxr.out) (hck q u hq))
    have hcmp := Hd.mk (fun W => tree_compare y x K3 Kx y.kids.length c3 x.kids.length cx W)
    have hng := Hd.mk (cmpT_neg y x)
    simp only [cT] at kcy hcmp
    have hx1 := Hd.mk hx1
    clear hck hrk
    go_wp2_with fail
    have e2 : ((i : Int) + (j : Int)) / 2 = (h : Int) := by have := hh.out; omega
    rw [e2]
    clear e2 e1
    refine Flow.wp_region_flow_l (fun qq => match qq with
      | 24 => SP.eq (.func (.func 116) #[] #[])
      | 25 => SP.eq (.slice (some ⟨b1, o1, none⟩) l.length c)
      | 26 => SP.eq (.int .i64 (h : Nat))
      | 27 => SP.eq (.pointer (some ⟨b1, o1 + h * 6, none⟩))
      | 28 => SP.eq (.agg #[.string y.name, .string y.key, .int .i64 y.kind, .int .u64 y.num, .string y.text, .slice K3 y.kids.length c3])
      | 29 => SP.eq (.agg #[.string x.name, .string x.key, .int .i64 x.kind, .int .u64 x.num, .string x.text, .slice Kx x.kids.length cx])
      | 30 => SP.eq (.int .i64 (cmpT y x))
      | 31 => SP.eq (.bool (lessT y x))
      | _ => SP.any) 8 (by kernel_rfl) 49 rfl (by kernel_rfl) ?_ ?_
    · skip
      refine ⟨?_, ?_, ?_, ?_, ?_, ?_, ?_, ?_, trivial⟩
      · intro act W2 hk
        refine Flow.does_intro rfl (fun Kq hK => ?_)
        have e2 : act.tmps[2]?.getD undef = .func (.func 116) #[] #[] := hk.o 2 (by kernel_rfl)
        clear hk
        go_simp
        exact hK _ _ (Ext.refl _) (fun d hd => by cases hd; rfl)
      · intro act W2 hk
        refine Flow.does_intro rfl (fun Kq hK => ?_)
        have e0 : act.tmps[0]?.getD undef = .slice (some ⟨b1, o1, none⟩) l.length c := hk.o 0 (by kernel_rfl)
        clear hk
        go_simp
        exact hK _ _ (Ext.refl _) (fun d hd => by cases hd; rfl)
      · intro act W2 hk
        refine Flow.does_intro rfl (fun Kq hK => ?_)
        have e11 : act.tmps[11]?.getD undef = .int .i64 (h : Nat) := hk.o 11 (by kernel_rfl)
        clear hk
        go_simp
        exact hK _ _ (Ext.refl _) (fun d hd => by cases hd; rfl)
      · intro act W2 hk
        refine Flow.does_intro rfl (fun Kq hK => ?_)
        have e25 : act.tmps[25]?.getD undef = .slice (some ⟨b1, o1, none⟩) l.length c := hk.v 25 (by kernel_rfl)
        have e26 : act.tmps[26]?.getD undef = .int .i64 (h : Nat) := hk.v 26 (by kernel_rfl)
        clear hk
        go_simp
        exact hK _ _ (Ext.refl _) (fun d hd => by cases hd; rfl)
      · intro act W2 hk
        refine Flow.does_intro rfl (fun Kq hK => ?_)
        have e27 : act.tmps[27]?.getD undef = .pointer (some ⟨b1, o1 + h * 6, none⟩) := hk.v 27 (by kernel_rfl)
        have g0 := Ext.cell ((Ext.drew wr).trans hk.ext) ((kcy.out) 0 _ rfl)
        rw [Nat.add_zero] at g0
        have g1 := Ext.cell ((Ext.drew wr).trans hk.ext) ((kcy.out) 1 _ rfl)
        have g2 := Ext.cell ((Ext.drew wr).trans hk.ext) ((kcy.out) 2 _ rfl)
        have g3 := Ext.cell ((Ext.drew wr).trans hk.ext) ((kcy.out) 3 _ rfl)
        have g4 := Ext.cell ((Ext.drew wr).trans hk.ext) ((kcy.out) 4 _ rfl)
        have g5 := Ext.cell ((Ext.drew wr).trans hk.ext) ((kcy.out) 5 _ rfl)
        clear hk
        go_simp
        exact hK _ _ (Ext.refl _) (fun d hd => by cases hd; rfl)
      · intro act W2 hk
        refine Flow.does_intro rfl (fun Kq hK => ?_)
        have e4 : act.tmps[4]?.getD undef = .pointer (some ⟨pX, 0, none⟩) := hk.o 4 (by kernel_rfl)
        have g := ((qX.out).ext ((Ext.drew wr).trans hk.ext)).cell
        clear hk
        go_simp
        exact hK _ _ (Ext.refl _) (fun d hd => by cases hd; rfl)
      · intro act W2 hk
        refine Flow.does_intro rfl (fun Kq hK => ?_)
        have e24 : act.tmps[24]?.getD undef = .func (.func 116) #[] #[] := hk.v 24 (by kernel_rfl)
        have e28 : act.tmps[28]?.getD undef = .agg #[.string y.name, .string y.key, .int .i64 y.kind, .int .u64 y.num, .string y.text, .slice K3 y.kids.length c3] := hk.v 28 (by kernel_rfl)
        have e29 : act.tmps[29]?.getD undef = .agg #[.string x.name, .string x.key, .int .i64 x.kind, .int .u64 x.num, .string x.text, .slice Kx x.kids.length cx] := hk.v 29 (by kernel_rfl)
        clear hk
        go_simp
        refine Calls.mono (hcmp.out _) ?_
        rintro e W3 ⟨rfl, hx⟩
        exact hK _ _ hx (fun d hd => by cases hd; rfl)
      · intro act W2 hk
        refine Flow.does_intro rfl (fun Kq hK => ?_)
        have e30 : act.tmps[30]?.getD undef = .int .i64 (cmpT y x) := hk.v 30 (by kernel_rfl)
        clear hk
        go_simp
        exact hK _ _ (Ext.refl _) (fun d hd => by cases hd; exact congrArg Value.bool hng.out)
    · intro act W2 he
      have hxW2 := Hd.mk ((Ext.drew wr).trans he.ext)
      obtain ⟨us, hA, hF⟩ := he.out [24, 25, 26, 27, 28, 29, 30, 31] (by kernel_rfl)
      simp only [Flow.fillL, List.contains_cons, List.contains_nil, Nat.reduceBEq, Bool.or_false, Bool.false_or, Bool.or_true, Bool.true_or, ↓reduceIte, Nat.reduceAdd, Bool.false_eq_true] at hA
      subst hA
      have f31 : us 31 = .bool (lessT y x) := hF 31 (by simp)
      clear hF he
      rw [f31]
      clear f31
      refine (show wpList _ _ _ [] _ _ from ?_)
      have hx2 := Hd.mk (hxr.out.trans hxW2.out)
      clear hxr hxW2 hcmp hng
      cases hb : lessT y x with
      | true =>
        go_wp2_with fail
        go_roundg (j - (h + 1) + 1)
        case measure => have := hq.out; omega
        case rel => exact ⟨h + 1, j, by omega, by omega, ⟨rfl⟩, by go_num, rfl, ⟨fun p z hp hz => by
            by_cases hph : p = h
            · subst hph; rw [hx1.out] at hz; cases hz; exact hb
            · exact lessT_trans (srt_get hs.out (by omega) hz hx1.out) hb⟩, hhi, hx2⟩
      | false =>
        go_wp2_with fail
        go_roundg (h - i + 1)
        case measure => have := hq.out; omega
        case rel => exact ⟨i, h, by omega, by omega, ⟨rfl⟩, rfl, rfl, hlo, ⟨fun p z hp hz => by
            by_cases hph : p = h
            · subst hph; rw [hx1.out] at hz; cases hz; exact hb
            · cases hc : lessT z x with
              | false => rfl
              | true => have := lessT_trans (srt_get hs.out (by omega) hx1.out hz) hc; rw [hb] at this; cases this⟩, hx2⟩
  · obtain rfl : i = j := by omega
    have hst := Hd.mk (show Stands l x i from ⟨hj, hlo.out, hhi.out⟩)
    clear hlo hhi hs
    by_cases hil : i < l.length
    · have hx1 := List.getElem?_eq_getElem hil
      generalize l[i] = y at hx1
      obtain ⟨b1, o1, ck, rfl, _, hrk, hck⟩ := kr.out.kid i y hx1
      obtain ⟨K3, c3, rfl, _⟩ := hrk.row
      have kcy := Hd.mk (fun (q : Nat) u hq => Ext.cell (kx.out.trans hxr.out) (hck q u hq))
      have hcmp := Hd.mk (fun W => tree_compare y x K3 Kx y.kids.length c3 x.kids.length cx W)
      simp only [cT] at kcy hcmp
      clear hck hrk hx1
      go_wp2_with fail
      refine Flow.wp_region_flow_l (fun qq => match qq with
        | 35 => SP.eq (.int .i64 (i : Nat))
        | 36 => SP.eq (.int .i64 (i : Nat))
        | 37 => SP.eq (.int .i64 (l.length : Nat))
        | 38 => SP.eq (.bool true)
        | 39 => SP.eq (.bool true)
        | 40 => SP.eq (.func (.func 116) #[] #[])
        | 41 => SP.eq (.slice (some ⟨b1, o1, none⟩) l.length c)
        | 42 => SP.eq (.int .i64 (i : Nat))
        | 43 => SP.eq (.pointer (some ⟨b1, o1 + i * 6, none⟩))
        | 44 => SP.eq (.agg #[.string y.name, .string y.key, .int .i64 y.kind, .int .u64 y.num, .string y.text, .slice K3 y.kids.length c3])
        | 45 => SP.eq (.agg #[.string x.name, .string x.key, .int .i64 x.kind, .int .u64 x.num, .string x.text, .slice Kx x.kids.length cx])
        | 46 => SP.eq (.int .i64 (cmpT y x))
        | 47 => SP.eq (.bool (cmpT y x == 0))
        | 48 => SP.eq (.bool (cmpT y x == 0))
        | 6 => SP.eq (.int .i64 (i : Nat))
        | 7 => SP.eq (.bool (cmpT y x == 0))
        | _ => SP.any) 16 (by kernel_rfl) 49 rfl (by kernel_rfl) ?_ ?_
      · skip
        refine ⟨?_, ?_, ?_, ?_, ?_, ?_, ?_, ?_, ?_, ?_, ?_, ?_, ?_, ?_, ?_, ?_, trivial⟩
        · intro act W2 hk
          refine Flow.does_intro rfl (fun Kq hK => ?_)
          have e9 : act.tmps[9]?.getD undef = .int .i64 (i : Nat) := hk.o 9 (by kernel_rfl)
          clear hk
          go_simp
          exact hK _ _ (Ext.refl _) (fun d hd => by cases hd; rfl)
        · intro act W2 hk
          refine Flow.does_intro rfl (fun Kq hK => ?_)
          have e9 : act.tmps[9]?.getD undef = .int .i64 (i : Nat) := hk.o 9 (by kernel_rfl)
          clear hk
          go_simp
          exact hK _ _ (Ext.refl _) (fun d hd => by cases hd; rfl)
        · intro act W2 hk
          refine Flow.does_intro rfl (fun Kq hK => ?_)
          have e8 : act.tmps[8]?.getD undef = .int .i64 (l.length : Nat) := hk.o 8 (by kernel_rfl)
          clear hk
          go_simp
          exact hK _ _ (Ext.refl _) (fun d hd => by cases hd; rfl)
        · intro act W2 hk
          refine Flow.does_intro rfl (fun Kq hK => ?_)
          have e36 : act.tmps[36]?.getD undef = .int .i64 (i : Nat) := hk.v 36 (by kernel_rfl)
          have e37 : act.tmps[37]?.getD undef = .int .i64 (l.length : Nat) := hk.v 37 (by kernel_rfl)
          clear hk
          go_simp
          exact hK _ _ (Ext.refl _) (fun d hd => by cases hd; rfl)
        · intro act W2 hk
          refine Flow.does_intro rfl (fun Kq hK => ?_)
          have e38 : act.tmps[38]?.getD undef = .bool true := hk.v 38 (by kernel_rfl)
          clear hk
          go_simp
          exact hK _ _ (Ext.refl _) (fun d hd => by cases hd; rfl)
        · intro act W2 hk
          have eg : act.tmps[39]?.getD undef = .bool true := hk.v 39 (by kernel_rfl)
          refine Flow.does_intro (wanted_yes rfl rfl eg) (fun Kq hK => ?_)
          clear eg
          have e2 : act.tmps[2]?.getD undef = .func (.func 116) #[] #[] := hk.o 2 (by kernel_rfl)
          clear hk
          go_simp
          exact hK _ _ (Ext.refl _) (fun d hd => by cases hd; rfl)
        · intro act W2 hk
          have eg : act.tmps[39]?.getD undef = .bool true := hk.v 39 (by kernel_rfl)
          refine Flow.does_intro (wanted_yes rfl rfl eg) (fun Kq hK => ?_)
          clear eg
          have e0 : act.tmps[0]?.getD undef = .slice (some ⟨b1, o1, none⟩) l.length c := hk.o 0 (by kernel_rfl)
          clear hk
          go_simp
          exact hK _ _ (Ext.refl _) (fun d hd => by cases hd; rfl)
        · intro act W2 hk
          have eg : act.tmps[39]?.getD undef = .bool true := hk.v 39 (by kernel_rfl)
          refine Flow.does_intro (wanted_yes rfl rfl eg) (fun Kq hK => ?_)
          clear eg
          have e9 : act.tmps[9]?.getD undef = .int .i64 (i : Nat) := hk.o 9 (by kernel_rfl)
          clear hk
          go_simp
          exact hK _ _ (Ext.refl _) (fun d hd => by cases hd; rfl)
        · intro act W2 hk
          have eg : act.tmps[39]?.getD undef = .bool true := hk.v 39 (by kernel_rfl)
          refine Flow.does_intro (wanted_yes rfl rfl eg) (fun Kq hK => ?_)
          clear eg
          have e41 : act.tmps[41]?.getD undef = .slice (some ⟨b1, o1, none⟩) l.length c := hk.v 41 (by kernel_rfl)
          have e42 : act.tmps[42]?.getD undef = .int .i64 (i : Nat) := hk.v 42 (by kernel_rfl)
          clear hk
          go_simp
          exact hK _ _ (Ext.refl _) (fun d hd => by cases hd; rfl)
        · intro act W2 hk
          have eg : act.tmps[39]?.getD undef = .bool true := hk.v 39 (by kernel_rfl)
          refine Flow.does_intro (wanted_yes rfl rfl eg) (fun Kq hK => ?_)
          clear eg
          have e43 : act.tmps[43]?.getD undef = .pointer (some ⟨b1, o1 + i * 6, none⟩) := hk.v 43 (by kernel_rfl)
          have g0 := Ext.cell ((Ext.drew wr).trans hk.ext) ((kcy.out) 0 _ rfl)
          rw [Nat.add_zero] at g0
          have g1 := Ext.cell ((Ext.drew wr).trans hk.ext) ((kcy.out) 1 _ rfl)
          have g2 := Ext.cell ((Ext.drew wr).trans hk.ext) ((kcy.out) 2 _ rfl)
          have g3 := Ext.cell ((Ext.drew wr).trans hk.ext) ((kcy.out) 3 _ rfl)
          have g4 := Ext.cell ((Ext.drew wr).trans hk.ext) ((kcy.out) 4 _ rfl)
          have g5 := Ext.cell ((Ext.drew wr).trans hk.ext) ((kcy.out) 5 _ rfl)
          clear hk
          go_simp
          exact hK _ _ (Ext.refl _) (fun d hd => by cases hd; rfl)
        · intro act W2 hk
          have eg : act.tmps[39]?.getD undef = .bool true := hk.v 39 (by kernel_rfl)
          refine Flow.does_intro (wanted_yes rfl rfl eg) (fun Kq hK => ?_)
          clear eg
          have e4 : act.tmps[4]?.getD undef = .pointer (some ⟨pX, 0, none⟩) := hk.o 4 (by kernel_rfl)
          have g := ((qX.out).ext ((Ext.drew wr).trans hk.ext)).cell
          clear hk
          go_simp
          exact hK _ _ (Ext.refl _) (fun d hd => by cases hd; rfl)
        · intro act W2 hk
          have eg : act.tmps[39]?.getD undef = .bool true := hk.v 39 (by kernel_rfl)
          refine Flow.does_intro (wanted_yes rfl rfl eg) (fun Kq hK => ?_)
          clear eg
          have e40 : act.tmps[40]?.getD undef = .func (.func 116) #[] #[] := hk.v 40 (by kernel_rfl)
          have e44 : act.tmps[44]?.getD undef = .agg #[.string y.name, .string y.key, .int .i64 y.kind, .int .u64 y.num, .string y.text, .slice K3 y.kids.length c3] := hk.v 44 (by kernel_rfl)
          have e45 : act.tmps[45]?.getD undef = .agg #[.string x.name, .string x.key, .int .i64 x.kind, .int .u64 x.num, .string x.text, .slice Kx x.kids.length cx] := hk.v 45 (by kernel_rfl)
          clear hk
          go_simp
          refine Calls.mono (hcmp.out _) ?_
          rintro e W3 ⟨rfl, hx⟩
          exact hK _ _ hx (fun d hd => by cases hd; rfl)
        · intro act W2 hk
          have eg : act.tmps[39]?.getD undef = .bool true := hk.v 39 (by kernel_rfl)
          refine Flow.does_intro (wanted_yes rfl rfl eg) (fun Kq hK => ?_)
          clear eg
          have e46 : act.tmps[46]?.getD undef = .int .i64 (cmpT y x) := hk.v 46 (by kernel_rfl)
          clear hk
          go_simp
          exact hK _ _ (Ext.refl _) (fun d hd => by cases hd; rfl)
        · intro act W2 hk
          refine Flow.does_intro rfl (fun Kq hK => ?_)
          have e39 : act.tmps[39]?.getD undef = .bool true := hk.v 39 (by kernel_rfl)
          have e47 : act.tmps[47]?.getD undef = .bool (cmpT y x == 0) := hk.v 47 (by kernel_rfl)
          clear hk
          go_simp
          exact hK _ _ (Ext.refl _) (fun d hd => by cases hd; rfl)
        · intro act W2 hk
          refine Flow.does_intro rfl (fun Kq hK => ?_)
          have e35 : act.tmps[35]?.getD undef = .int .i64 (i : Nat) := hk.v 35 (by kernel_rfl)
          clear hk
          go_simp
          exact hK _ _ (Ext.refl _) (fun d hd => by cases hd; rfl)
        · intro act W2 hk
          refine Flow.does_intro rfl (fun Kq hK => ?_)
          have e48 : act.tmps[48]?.getD undef = .bool (cmpT y x == 0) := hk.v 48 (by kernel_rfl)
          clear hk
          go_simp
          exact hK _ _ (Ext.refl _) (fun d hd => by cases hd; rfl)
      · intro act W2 he
        have hxW2 := Hd.mk ((Ext.drew wr).trans he.ext)
        obtain ⟨us, hA, hF⟩ := he.out [35, 36, 37, 38, 39, 40, 41, 42, 43, 44, 45, 46, 47, 48, 6, 7] (by kernel_rfl)
        simp only [Flow.fillL, List.contains_cons, List.contains_nil, Nat.reduceBEq, Bool.or_false, Bool.false_or, Bool.or_true, Bool.true_or, ↓reduceIte, Nat.reduceAdd, Bool.false_eq_true] at hA
        subst hA
        have f6 : us 6 = .int .i64 (i : Nat) := hF 6 (by simp)
        have f7 : us 7 = .bool (cmpT y x == 0) := hF 7 (by simp)
        clear hF he
        rw [f6]
        clear f6
        rw [f7]
        clear f7
        refine (show wpList _ _ _ [] _ _ from ?_)
        go_wp2_with fail
        go_ret2
        exact ⟨_, _, rfl, hst.out, (kx.out.trans hxr.out).trans hxW2.out⟩
    · obtain rfl : i = l.length := by omega
      go_wp2_with fail
      refine Flow.wp_region_flow_l (fun qq => match qq with
        | 35 => SP.eq (.int .i64 (l.length : Nat))
        | 36 => SP.eq (.int .i64 (l.length : Nat))
        | 37 => SP.eq (.int .i64 (l.length : Nat))
        | 38 => SP.eq (.bool false)
        | 39 => SP.eq (.bool false)
        | 40 => SP.eq (undef)
        | 41 => SP.eq (undef)
        | 42 => SP.eq (undef)
        | 43 => SP.eq (undef)
        | 44 => SP.eq (undef)
        | 45 => SP.eq (undef)
        | 46 => SP.eq (undef)
        | 47 => SP.eq (undef)
        | 48 => SP.eq (.bool false)
        | 6 => SP.eq (.int .i64 (l.length : Nat))
        | 7 => SP.eq (.bool false)
        | _ => SP.any) 16 (by kernel_rfl) 49 rfl (by kernel_rfl) ?_ ?_
      · skip
        refine ⟨?_, ?_, ?_, ?_, ?_, ?_, ?_, ?_, ?_, ?_, ?_, ?_, ?_, ?_, ?_, ?_, trivial⟩
        · intro act W2 hk
          refine Flow.does_intro rfl (fun Kq hK => ?_)
          have e9 : act.tmps[9]?.getD undef = .int .i64 (l.length : Nat) := hk.o 9 (by kernel_rfl)
          clear hk
          go_simp
          exact hK _ _ (Ext.refl _) (fun d hd => by cases hd; rfl)
        · intro act W2 hk
          refine Flow.does_intro rfl (fun Kq hK => ?_)
          have e9 : act.tmps[9]?.getD undef = .int .i64 (l.length : Nat) := hk.o 9 (by kernel_rfl)
          clear hk
          go_simp
          exact hK _ _ (Ext.refl _) (fun d hd => by cases hd; rfl)
        · intro act W2 hk
          refine Flow.does_intro rfl (fun Kq hK => ?_)
          have e8 : act.tmps[8]?.getD undef = .int .i64 (l.length : Nat) := hk.o 8 (by kernel_rfl)
          clear hk
          go_simp
          exact hK _ _ (Ext.refl _) (fun d hd => by cases hd; rfl)
        · intro act W2 hk
          refine Flow.does_intro rfl (fun Kq hK => ?_)
          have e36 : act.tmps[36]?.getD undef = .int .i64 (l.length : Nat) := hk.v 36 (by kernel_rfl)
          have e37 : act.tmps[37]?.getD undef = .int .i64 (l.length : Nat) := hk.v 37 (by kernel_rfl)
          clear hk
          go_simp
          exact hK _ _ (Ext.refl _) (fun d hd => by cases hd; rfl)
        · intro act W2 hk
          refine Flow.does_intro rfl (fun Kq hK => ?_)
          have e38 : act.tmps[38]?.getD undef = .bool false := hk.v 38 (by kernel_rfl)
          clear hk
          go_simp
          exact hK _ _ (Ext.refl _) (fun d hd => by cases hd; rfl)
        · intro act W2 hk
          have eg : act.tmps[39]?.getD undef = .bool false := hk.v 39 (by kernel_rfl)
          exact Flow.does_skip (wanted_no rfl rfl eg) (fun d hd => by cases hd; rfl)
        · intro act W2 hk
          have eg : act.tmps[39]?.getD undef = .bool false := hk.v 39 (by kernel_rfl)
          exact Flow.does_skip (wanted_no rfl rfl eg) (fun d hd => by cases hd; rfl)
        · intro act W2 hk
          have eg : act.tmps[39]?.getD undef = .bool false := hk.v 39 (by kernel_rfl)
          exact Flow.does_skip (wanted_no rfl rfl eg) (fun d hd => by cases hd; rfl)
        · intro act W2 hk
          have eg : act.tmps[39]?.getD undef = .bool false := hk.v 39 (by kernel_rfl)
          exact Flow.does_skip (wanted_no rfl rfl eg) (fun d hd => by cases hd; rfl)
        · intro act W2 hk
          have eg : act.tmps[39]?.getD undef = .bool false := hk.v 39 (by kernel_rfl)
          exact Flow.does_skip (wanted_no rfl rfl eg) (fun d hd => by cases hd; rfl)
        · intro act W2 hk
          have eg : act.tmps[39]?.getD undef = .bool false := hk.v 39 (by kernel_rfl)
          exact Flow.does_skip (wanted_no rfl rfl eg) (fun d hd => by cases hd; rfl)
        · intro act W2 hk
          have eg : act.tmps[39]?.getD undef = .bool false := hk.v 39 (by kernel_rfl)
          exact Flow.does_skip (wanted_no rfl rfl eg) (fun d hd => by cases hd; rfl)
        · intro act W2 hk
          have eg : act.tmps[39]?.getD undef = .bool false := hk.v 39 (by kernel_rfl)
          exact Flow.does_skip (wanted_no rfl rfl eg) (fun d hd => by cases hd; rfl)
        · intro act W2 hk
          refine Flow.does_intro rfl (fun Kq hK => ?_)
          have e39 : act.tmps[39]?.getD undef = .bool false := hk.v 39 (by kernel_rfl)
          clear hk
          go_simp
          exact hK _ _ (Ext.refl _) (fun d hd => by cases hd; rfl)
        · intro act W2 hk
          refine Flow.does_intro rfl (fun Kq hK => ?_)
          have e35 : act.tmps[35]?.getD undef = .int .i64 (l.length : Nat) := hk.v 35 (by kernel_rfl)
          clear hk
          go_simp
          exact hK _ _ (Ext.refl _) (fun d hd => by cases hd; rfl)
        · intro act W2 hk
          refine Flow.does_intro rfl (fun Kq hK => ?_)
          have e48 : act.tmps[48]?.getD undef = .bool false := hk.v 48 (by kernel_rfl)
          clear hk
          go_simp
          exact hK _ _ (Ext.refl _) (fun d hd => by cases hd; rfl)
      · intro act W2 he
        have hxW2 := Hd.mk ((Ext.drew wr).trans he.ext)
        obtain ⟨us, hA, hF⟩ := he.out [35, 36, 37, 38, 39, 40, 41, 42, 43, 44, 45, 46, 47, 48, 6, 7] (by kernel_rfl)
        simp only [Flow.fillL, List.contains_cons, List.contains_nil, Nat.reduceBEq, Bool.or_false, Bool.false_or, Bool.or_true, Bool.true_or, ↓reduceIte, Nat.reduceAdd, Bool.false_eq_true] at hA
        subst hA
        have f6 : us 6 = .int .i64 (l.length : Nat) := hF 6 (by simp)
        have f7 : us 7 = .bool false := hF 7 (by simp)
        clear hF he
        rw [f6]
        clear f6
        rw [f7]
        clear f7
        refine (show wpList _ _ _ [] _ _ from ?_)
        go_wp2_with fail
        go_ret2
        exact ⟨_, _, rfl, hst.out, (kx.out.trans hxr.out).trans hxW2.out⟩
end Go.Proofs.Ytgkgedjmnbjalaa
set_option linter.unusedSimpArgs false
namespace Go.Proofs.Ytgkgedjmnbjalaa
open Go.RowKit Go.Sort
theorem pth_cells : ∀ (way : List Step) (S : Nat → Prop) (w : World) (b0 o0 : Nat) (t u : T) (c : List Value) (b o : Nat), RT S w t c → (∀ (q : Nat) v, c[q]? = some v → w.cell? ⟨b0, o0 + q, none⟩ = some v) → getT t way = some u → Pth w b0 o0 t way b o →
    ∃ cu, RT S w u cu ∧ ∀ (q : Nat) v, cu[q]? = some v → w.cell? ⟨b, o + q, none⟩ = some v
  | [], S, w, b0, o0, t, u, c, b, o, h, hc, hg, hp => by
    cases hg
    obtain ⟨rfl, rfl⟩ := hp
    exact ⟨c, h, hc⟩
  | s :: r, S, w, b0, o0, t, u, c, b, o, h, hc, hg, hp => by
    obtain ⟨i, k, g, f, n, cc, h1, h2, h3, h4⟩ := hp
    rcases findT_kid t.kids s with ⟨e1, _⟩ | ⟨i', k', e1, e2, e3, _⟩
    · rw [e1] at h1; omega
    obtain rfl : i' = i := by rw [e1] at h1; exact Int.ofNat.inj h1
    rw [h2] at e2
    obtain rfl : k = k' := by cases e2; rfl
    obtain ⟨K, kc, rfl, hrow⟩ := h.row
    have h5 := hc 5 _ rfl
    rw [h3] at h5
    simp only [Option.some.injEq, Value.slice.injEq] at h5
    obtain ⟨rfl, _, _⟩ := h5
    obtain ⟨b1, o1, ck, hK, _, hrk, hck⟩ := hrow.kid i' k h2
    simp only [Option.some.injEq, Addr.mk.injEq, and_true] at hK
    obtain ⟨rfl, rfl⟩ := hK
    rw [getT_cons, e3] at hg
    exact pth_cells r S w g (f + i' * 6) k u ck b o hrk hck hg h4
def GetPost (o : Option T) (w w' : World) (v : Value) : Prop := Ext w w' ∧ ((o = none ∧ v = .tuple #[.agg #[.string ⟨#[]⟩, .string ⟨#[]⟩, .int .i64 0, .int .u64 0, .string ⟨#[]⟩, .slice none 0 0], .bool false]) ∨ ∃ u c, o = some u ∧ v = .tuple #[.agg (c : List Value).toArray, .bool true] ∧ OT (fun b => w.heap.size ≤ b ∧ b < w'.heap.size) w' u c)
set_option maxRecDepth 100000 in
set_option maxHeartbeats 2000000 in
theorem tree_get (t : T) (way : List Step) (S S' : Nat → Prop) (w : World) (c : List Value) (A : Option Addr) (ac : Nat) (h : RT S w t c) (hw : WRow S' w A way ac) :
    Calls Try.prog 68 #[.agg c.toArray, .slice A way.length ac] w (Ret (GetPost (getT t way) w)) := by
  obtain ⟨K, kc, rfl, hrow⟩ := h.row
  have kr := Hd.mk h
  have kw := Hd.mk hw
  clear hrow h hw
  simp only [cT] at kr ⊢
  generalize ho : getT t way = og
  replace ho := Hd.mk ho
  go_enter Try.func68, Try.ntmps68
  go_wp2_with fail
  have kx := Hd.mk ((Ext.alloc w (.cells #[.string t.name, .string t.key, .int .i64 t.kind, .int .u64 t.num, .string t.text, .slice K t.kids.length kc] 54)).trans (Ext.alloc _ (.cells #[.string ⟨#[]⟩, .string ⟨#[]⟩, .int .i64 0, .int .u64 0, .string ⟨#[]⟩, .slice none 0 0] 54)))
  have kA := Hd.mk ((Blk.new w #[.string t.name, .string t.key, .int .i64 t.kind, .int .u64 t.num, .string t.text, .slice K t.kids.length kc] 54).alloc (.cells #[.string ⟨#[]⟩, .string ⟨#[]⟩, .int .i64 0, .int .u64 0, .string ⟨#[]⟩, .slice none 0 0] 54))
  have kR := Hd.mk (Blk.new2 w (.cells #[.string t.name, .string t.key, .int .i64 t.kind, .int .u64 t.num, .string t.text, .slice K t.kids.length kc] 54) #[.string ⟨#[]⟩, .string ⟨#[]⟩, .int .i64 0, .int .u64 0, .string ⟨#[]⟩, .slice none 0 0] 54)
  generalize (w.alloc _).alloc _ = W at *
  have hat := Hd.mk (tree_at t way S S' W w.heap.size 0 _ A ac (kr.out.ext kx.out) (fun q v hq => by rw [Nat.zero_add, kA.out.cell]; exact hq) (kw.out.ext kx.out))
  refine Calls.mono hat.out ?_
  rintro e w1 ⟨hx, hres⟩
  have kx1 := Hd.mk (kx.out.trans hx)
  have kR1 := Hd.mk (kR.out.ext hx)
  have kA1 := Hd.mk (kA.out.ext hx)
  have hsz := Hd.mk kx1.out.size
  have hlt := Hd.mk kR1.out.lt
  clear kR hat
  rcases hres with ⟨hg, rfl⟩ | ⟨u, bu, ou, hg, rfl, hp⟩
  · have hog := Hd.mk (ho.out.symm.trans hg)
    clear hg hx ho kr kw kA kA1
    have gR := kR1.out.cell
    have fR := kR1.out.free
    go_wp2_with fail
    have hu := Hd.mk ((((((Upd.setCell w1 ⟨w.heap.size + 1, 0, none⟩ (.string ⟨#[]⟩)).trans (Upd.setCell _ ⟨w.heap.size + 1, 1, none⟩ (.string ⟨#[]⟩))).trans (Upd.setCell _ ⟨w.heap.size + 1, 2, none⟩ (.int .i64 0))).trans (Upd.setCell _ ⟨w.heap.size + 1, 3, none⟩ (.int .u64 0))).trans (Upd.setCell _ ⟨w.heap.size + 1, 4, none⟩ (.string ⟨#[]⟩))).trans (Upd.setCell _ ⟨w.heap.size + 1, 5, none⟩ (.slice none 0 0)))
    exact ret_box2 rfl (w.heap.size + 1) _ 54 _ ((((((kR1.out.setCell 0 (.string ⟨#[]⟩)).setCell 1 (.string ⟨#[]⟩)).setCell 2 (.int .i64 0)).setCell 3 (.int .u64 0)).setCell 4 (.string ⟨#[]⟩)).setCell 5 (.slice none 0 0)) rfl rfl Try.underlying54 rfl size54
      ⟨_, rfl, Below.trans kx1.out (hu.out.below (Nat.le_succ _)), .inl ⟨hog.out, rfl⟩⟩
  · obtain ⟨cu, hru, hcu⟩ := pth_cells way S W w.heap.size 0 t u _ bu ou (kr.out.ext kx.out) (fun q v hq => by
      have hA0 : W.cell? ⟨w.heap.size, 0 + q, none⟩ = [.string t.name, .string t.key, .int .i64 t.kind, .int .u64 t.num, .string t.text, .slice K t.kids.length kc][q]? := by
        rw [Nat.zero_add]
        have hb : Blk W w.heap.size [.string t.name, .string t.key, .int .i64 t.kind, .int .u64 t.num, .string t.text, .slice K t.kids.length kc] 54 := kA.out
        exact hb.cell q
      rw [hA0]; exact hq) hg hp
    have hog := Hd.mk (ho.out.symm.trans hg)
    obtain ⟨Ku, cku, rfl, _⟩ := hru.row
    obtain ⟨e0, e1, e2, e3, e4, e5⟩ := six hx hcu
    have lt1 := World.block_lt_of_cell? w1 _ e0
    have hcl := Hd.mk (own_clone _ u S w1 _ (Nat.le_refl _) (hru.ext hx))
    clear hg hx hp hcu hru ho kr kw kA1 kA
    simp only [cT] at hcl
    go_wp2_with fail
    refine Calls.mono hcl.out ?_
    rintro e w2 ⟨_, rfl, c', rfl, hr', hx⟩
    obtain ⟨K2, kc2, _, _, rfl, _⟩ := hr'.row
    have hr' := Hd.mk hr'
    have kR2 := Hd.mk (kR1.out.ext hx)
    have kx2 := Hd.mk (kx1.out.trans hx)
    have hs2 := Hd.mk hx.size
    clear hx kR1 hcl e0 e1 e2 e3 e4 e5 lt1
    simp only [cT] at hr' ⊢
    have gR := kR2.out.cell
    have fR := kR2.out.free
    go_wp2_with fail
    have hu := Hd.mk ((((((Upd.setCell w2 ⟨w.heap.size + 1, 0, none⟩ (.string u.name)).trans (Upd.setCell _ ⟨w.heap.size + 1, 1, none⟩ (.string u.key))).trans (Upd.setCell _ ⟨w.heap.size + 1, 2, none⟩ (.int .i64 u.kind))).trans (Upd.setCell _ ⟨w.heap.size + 1, 3, none⟩ (.int .u64 u.num))).trans (Upd.setCell _ ⟨w.heap.size + 1, 4, none⟩ (.string u.text))).trans (Upd.setCell _ ⟨w.heap.size + 1, 5, none⟩ (.slice K2 u.kids.length kc2)))
    exact ret_box2 rfl (w.heap.size + 1) _ 54 _ ((((((kR2.out.setCell 0 (.string u.name)).setCell 1 (.string u.key)).setCell 2 (.int .i64 u.kind)).setCell 3 (.int .u64 u.num)).setCell 4 (.string u.text)).setCell 5 (.slice K2 u.kids.length kc2)) rfl rfl Try.underlying54 rfl size54
      ⟨_, rfl, Below.trans kx2.out (hu.out.below (Nat.le_succ _)), .inr ⟨u, _, hog.out, rfl, (hr'.out.keep fun b hb => hu.out.block b (by have := hlt.out; have := hsz.out; show b ≠ w.heap.size + 1; omega)).mono fun b hb => ⟨Nat.le_trans hsz.out hb.1, by rw [hu.out.size]; exact hb.2⟩⟩⟩
end Go.Proofs.Ytgkgedjmnbjalaa
set_option linter.unusedSimpArgs false
namespace Go.Proofs.Ytgkgedjmnbjalaa
open Go.RowKit Go.Sort
abbrev It := T × Option Addr × Nat
def cI (x : It) : List Value := [.string x.1.name, .string x.1.key, .int .i64 x.1.kind, .int .u64 x.1.num, .string x.1.text, .slice x.2.1 x.1.kids.length x.2.2]
def rowI (l : List It) : List Value := (l.map cI).flatten
theorem cI_len (x : It) : (cI x).length = 6 := rfl
theorem rowI_len (l : List It) : (rowI l).length = l.length * 6 := by
  unfold rowI
  rw [flatten_len (l.map cI) (n := 6) (fun c hc => by obtain ⟨x, _, rfl⟩ := List.mem_map.1 hc; rfl), List.length_map]
theorem rowI_get {l : List It} {i : Nat} {x : It} (h : l[i]? = some x) {q : Nat} {v : Value} (hv : (cI x)[q]? = some v) : (rowI l)[i * 6 + q]? = some v :=
  flatten_get (l.map cI) (fun c hc => by obtain ⟨x, _, rfl⟩ := List.mem_map.1 hc; rfl) i (cI x) (by rw [List.getElem?_map, h]; rfl) q v hv
theorem rowI_cell {w : World} {g : Nat} {l : List It} {sp : List Value} {i : Nat} {x : It} (h : Blk w g (rowI l ++ sp) 54) (hi : l[i]? = some x) : ∀ (q : Nat) v, (cI x)[q]? = some v → w.cell? ⟨g, i * 6 + q, none⟩ = some v := fun q v hv => by
  have h1 := rowI_get hi hv
  rw [h.cell, List.getElem?_append_left (List.getElem?_eq_some_iff.1 h1).1]
  exact h1
theorem rowI_set {l : List It} {sp cs' : List Value} {i : Nat} {x : It} (hi : i < l.length) (hl : cs'.length = (rowI l ++ sp).length) (ho : ∀ p, p < i * 6 ∨ i * 6 + 6 ≤ p → cs'[p]? = (rowI l ++ sp)[p]?) (hv : ∀ (q : Nat) v, (cI x)[q]? = some v → cs'[i * 6 + q]? = some v) : cs' = rowI (l.set i x) ++ sp := by
  refine List.ext_getElem? fun p => ?_
  have hset : (l.set i x).length = l.length := List.length_set
  by_cases h1 : p < i * 6 ∨ i * 6 + 6 ≤ p
  · rw [ho p h1]
    by_cases h2 : p < l.length * 6
    · rw [List.getElem?_append_left (by rw [rowI_len]; exact h2), List.getElem?_append_left (by rw [rowI_len, hset]; exact h2)]
      have hk : p / 6 < l.length := by omega
      have hne : p / 6 ≠ i := by omega
      have e1 := List.getElem?_eq_getElem hk
      have e2 : (l.set i x)[p / 6]? = some l[p / 6] := by rw [List.getElem?_set_ne (Ne.symm hne)]; exact e1
      generalize l[p / 6] = y at e1 e2
      have hq : p % 6 < (cI y).length := by rw [cI_len]; omega
      have e3 := List.getElem?_eq_getElem hq
      have hp : p = p / 6 * 6 + p % 6 := by omega
      rw [hp, rowI_get e1 e3, rowI_get e2 e3]
    · rw [List.getElem?_append_right (by rw [rowI_len]; omega), List.getElem?_append_right (by rw [rowI_len, hset]; omega), rowI_len, rowI_len, hset]
  · obtain ⟨q, hq⟩ : ∃ q, p = i * 6 + q := ⟨p - i * 6, by omega⟩
    have hq6 : q < (cI x).length := by rw [cI_len]; omega
    have e3 := List.getElem?_eq_getElem hq6
    have e2 : (l.set i x)[i]? = some x := List.getElem?_set_self hi
    have e4 := rowI_get e2 e3
    rw [hq, hv q _ e3, List.getElem?_append_left (List.getElem?_eq_some_iff.1 e4).1, e4]
theorem rowI_store {w : World} {g : Nat} {l : List It} {sp : List Value} {i : Nat} (h : Blk w g (rowI l ++ sp) 54) (hi : i < l.length) (x : It) :
    Blk ((((((w.setCell ⟨g, i * 6, none⟩ (.string x.1.name)).setCell ⟨g, i * 6 + 1, none⟩ (.string x.1.key)).setCell ⟨g, i * 6 + 2, none⟩ (.int .i64 x.1.kind)).setCell ⟨g, i * 6 + 3, none⟩ (.int .u64 x.1.num)).setCell ⟨g, i * 6 + 4, none⟩ (.string x.1.text)).setCell ⟨g, i * 6 + 5, none⟩ (.slice x.2.1 x.1.kids.length x.2.2)) g (rowI (l.set i x) ++ sp) 54 ∧
    Upd w ((((((w.setCell ⟨g, i * 6, none⟩ (.string x.1.name)).setCell ⟨g, i * 6 + 1, none⟩ (.string x.1.key)).setCell ⟨g, i * 6 + 2, none⟩ (.int .i64 x.1.kind)).setCell ⟨g, i * 6 + 3, none⟩ (.int .u64 x.1.num)).setCell ⟨g, i * 6 + 4, none⟩ (.string x.1.text)).setCell ⟨g, i * 6 + 5, none⟩ (.slice x.2.1 x.1.kids.length x.2.2)) g := by
  obtain ⟨cs', q1, q2, q3, q4, q5⟩ := set6 h (o := i * 6) (by rw [List.length_append, rowI_len]; omega) (.string x.1.name) (.string x.1.key) (.int .i64 x.1.kind) (.int .u64 x.1.num) (.string x.1.text) (.slice x.2.1 x.1.kids.length x.2.2)
  refine ⟨?_, q2⟩
  rw [← rowI_set hi q3 q4 q5]
  exact q1
theorem rowI_old {w : World} {g : Nat} {l : List It} {sp : List Value} {i : Nat} (h : Blk w g (rowI l ++ sp) 54) (hi : i < l.length) :
    ∃ v0 v1 v2 v3 v4 v5, w.cell? ⟨g, i * 6, none⟩ = some v0 ∧ w.cell? ⟨g, i * 6 + 1, none⟩ = some v1 ∧ w.cell? ⟨g, i * 6 + 2, none⟩ = some v2 ∧ w.cell? ⟨g, i * 6 + 3, none⟩ = some v3 ∧ w.cell? ⟨g, i * 6 + 4, none⟩ = some v4 ∧ w.cell? ⟨g, i * 6 + 5, none⟩ = some v5 := by
  have hl : (rowI l ++ sp).length = l.length * 6 + sp.length := by rw [List.length_append, rowI_len]
  obtain ⟨v0, z0⟩ := cell_some h (i := i * 6) (by omega)
  obtain ⟨v1, z1⟩ := cell_some h (i := i * 6 + 1) (by omega)
  obtain ⟨v2, z2⟩ := cell_some h (i := i * 6 + 2) (by omega)
  obtain ⟨v3, z3⟩ := cell_some h (i := i * 6 + 3) (by omega)
  obtain ⟨v4, z4⟩ := cell_some h (i := i * 6 + 4) (by omega)
  obtain ⟨v5, z5⟩ := cell_some h (i := i * 6 + 5) (by omega)
  exact ⟨v0, v1, v2, v3, v4, v5, z0, z1, z2, z3, z4, z5⟩
theorem swap_list {α : Type} (A : List α) (x y : α) (B : List α) : ((A ++ y :: x :: B).set (A.length + 1) y).set A.length x = A ++ x :: y :: B := by
  induction A with
  | nil => rfl
  | cons z A ih => simp only [List.cons_append, List.length_cons, List.set_cons_succ]; rw [ih]
theorem at_len {α : Type} (A : List α) (x : α) (B : List α) : (A ++ x :: B)[A.length]? = some x := by
  rw [List.getElem?_append_right (Nat.le_refl _), Nat.sub_self]; rfl
theorem at_len1 {α : Type} (A : List α) (x y : α) (B : List α) : (A ++ y :: x :: B)[A.length + 1]? = some x := by
  rw [List.getElem?_append_right (by omega), show A.length + 1 - A.length = 1 by omega]; rfl
section
variable {α β : Type}
def insRG (lt : α → α → Bool) (x : α) : List α → List α
  | [] => [x]
  | y :: r => if lt x y = true then y :: insRG lt x r else x :: y :: r
def insG (lt : α → α → Bool) (x : α) (l : List α) : List α := (insRG lt x l.reverse).reverse
def isortG (lt : α → α → Bool) (l : List α) : List α := l.foldl (fun acc x => insG lt x acc) []
theorem insRG_at (lt : α → α → Bool) (x : α) : ∀ (suf r : List α), (∀ e ∈ suf, lt x e = true) → (∀ y r', r = y :: r' → lt x y = false) → insRG lt x (suf ++ r) = suf ++ x :: r
  | [], [], _, _ => rfl
  | [], y :: r, _, h => by
    rw [List.nil_append, insRG, h y r rfl, if_neg (by simp)]; rfl
  | e :: suf, r, h1, h2 => by
    rw [List.cons_append, insRG, if_pos (h1 e (by simp)), insRG_at lt x suf r (fun e he => h1 e (by simp [he])) h2]; rfl
theorem insG_at {lt : α → α → Bool} {x : α} {P Q : List α} (h1 : ∀ e ∈ Q, lt x e = true) (h2 : ∀ P' y, P = P' ++ [y] → lt x y = false) : insG lt x (P ++ Q) = P ++ x :: Q := by
  unfold insG
  rw [List.reverse_append, insRG_at lt x _ _ (fun e he => h1 e (List.mem_reverse.1 he)) (fun y r' hr => ?_)]
  · simp
  · refine h2 r'.reverse y ?_
    have := congrArg List.reverse hr
    simpa using this
theorem insG_len (lt : α → α → Bool) (x : α) (l : List α) : (insG lt x l).length = l.length + 1 := by
  have h : ∀ r : List α, (insRG lt x r).length = r.length + 1 := by
    intro r
    induction r with
    | nil => rfl
    | cons y r ih => rw [insRG]; split <;> simp [ih]
  unfold insG
  rw [List.length_reverse, h, List.length_reverse]
theorem isortG_snoc (lt : α → α → Bool) (l : List α) (x : α) : isortG lt (l ++ [x]) = insG lt x (isortG lt l) := by
  unfold isortG
  rw [List.foldl_append]; rfl
theorem isortG_take (lt : α → α → Bool) {l : List α} {k : Nat} {x : α} (h : l[k]? = some x) : isortG lt (l.take (k + 1)) = insG lt x (isortG lt (l.take k)) := by
  rw [List.take_add_one, h]
  exact isortG_snoc lt _ x
theorem isortG_len (lt : α → α → Bool) : ∀ l : List α, (isortG lt l).length = l.length := by
  have h : ∀ (l acc : List α), (l.foldl (fun acc x => insG lt x acc) acc).length = acc.length + l.length := by
    intro l
    induction l with
    | nil => intro acc; rfl
    | cons x l ih => intro acc; rw [List.foldl_cons, ih, insG_len, List.length_cons]; omega
  intro l
  unfold isortG
  rw [h]; simp
theorem insG_map {lt : α → α → Bool} {lt' : β → β → Bool} {f : α → β} (h : ∀ x y, lt' (f x) (f y) = lt x y) (x : α) (l : List α) : (insG lt x l).map f = insG lt' (f x) (l.map f) := by
  have hr : ∀ r : List α, (insRG lt x r).map f = insRG lt' (f x) (r.map f) := by
    intro r
    induction r with
    | nil => rfl
    | cons y r ih => 
      rw [insRG, List.map_cons, insRG, h]
      split
      · rw [List.map_cons, ih]
      · rfl
  unfold insG
  rw [List.map_reverse, hr, List.map_reverse]
theorem isortG_map {lt : α → α → Bool} {lt' : β → β → Bool} {f : α → β} (h : ∀ x y, lt' (f x) (f y) = lt x y) : ∀ l : List α, (isortG lt l).map f = isortG lt' (l.map f) := by
  have hh : ∀ (l acc : List α), (l.foldl (fun acc x => insG lt x acc) acc).map f = (l.map f).foldl (fun acc x => insG lt' x acc) (acc.map f) := by
    intro l
    induction l with
    | nil => intro acc; rfl
    | cons x l ih => intro acc; rw [List.foldl_cons, ih, List.map_cons, List.foldl_cons, insG_map h]
  intro l
  exact hh l []
end
def ltI (x y : It) : Bool := lessT x.1 y.1
theorem insSt_eq (x : T) (l : List T) : insSt x l = insG lessT x l := by
  have h : ∀ r : List T, insR x r = insRG lessT x r := by
    intro r
    induction r with
    | nil => rfl
    | cons y r ih => rw [insR, insRG, ih]
  unfold insSt insG
  rw [h]
theorem sortL_isort : ∀ (l acc : List T), sortL acc l = (l.map sortT).foldl (fun acc x => insG lessT x acc) acc
  | [], acc => by rw [sortL_nil]; rfl
  | x :: l, acc => by rw [sortL_cons, sortL_isort l, List.map_cons, List.foldl_cons, insSt_eq]
theorem sortT_isort (t : T) : sortT t = t.wk (isortG lessT (t.kids.map sortT)) := by rw [sortT_eq, sortL_isort]; rfl
end Go.Proofs.Ytgkgedjmnbjalaa
