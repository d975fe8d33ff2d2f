/- Texts that the law needs, joined.
   Conditions: none. -/
import Derived.Test.YtgkgedjmnbjalaaPtD
set_option linter.unusedSimpArgs false
set_option linter.unusedVariables false
namespace Go.Proofs.Ytgkgedjmnbjalaa
open Go.RowKit Go.Sort
def putT : T → List Step → T → T
  | _, [], x => x
  | t, s :: r, x => match kid t.kids s with | none => t | some k => t.wk (repL t.kids s (putT k r x))
theorem setT_put : ∀ (init : List Step) (s : Step) (t p x : T), getT t init = some p → setT t (init ++ [s]) x = putT t init (p.wk (setL p.kids x))
  | [], s, t, p, x, h => by cases h; rfl
  | q :: init, s, t, p, x, h => by
    rw [getT_cons] at h
    cases hk : kid t.kids q with
    | none => rw [hk] at h; cases h
    | some k =>
      rw [hk] at h
      have h' : getT k init = some p := h
      have ih := setT_put init s k p x h'
      obtain ⟨y, l, hl⟩ : ∃ y l, init ++ [s] = y :: l := by cases init <;> exact ⟨_, _, rfl⟩
      rw [List.cons_append, hl]
      rw [hl] at ih
      simp only [setT, putT, hk, ih]
theorem cutT_put : ∀ (init : List Step) (s : Step) (t p : T), getT t init = some p → cutT t (init ++ [s]) = putT t init (p.wk (cutL p.kids s))
  | [], s, t, p, h => by cases h; rfl
  | q :: init, s, t, p, h => by
    rw [getT_cons] at h
    cases hk : kid t.kids q with
    | none => rw [hk] at h; cases h
    | some k =>
      rw [hk] at h
      have h' : getT k init = some p := h
      have ih := cutT_put init s k p h'
      obtain ⟨y, l, hl⟩ : ∃ y l, init ++ [s] = y :: l := by cases init <;> exact ⟨_, _, rfl⟩
      rw [List.cons_append, hl]
      rw [hl] at ih
      simp only [cutT, putT, hk, ih]
def Six (w w' : World) (b o : Nat) (c : List Value) : Prop := ∀ cs, Blk w b cs 54 → ∃ cs', Blk w' b cs' 54 ∧ cs'.length = cs.length ∧ (∀ p, p < o ∨ o + 6 ≤ p → cs'[p]? = cs[p]?) ∧ ∀ (q : Nat) v, c[q]? = some v → cs'[o + q]? = some v
theorem focus : ∀ (way : List Step) (S : Nat → Prop) (w : World) (b0 o0 : Nat) (t u : T) (c : List Value) (b o : Nat), OT S w t c → (∀ x, S x → x < w.heap.size) → ¬ S b0 → (∀ (q : Nat) v, c[q]? = some v → w.cell? ⟨b0, o0 + q, none⟩ = some v) →
    getT t way = some u → Pth w b0 o0 t way b o →
    ∃ Su cu, OT Su w u cu ∧ (∀ x, Su x → S x) ∧ ¬ Su b ∧ (∀ (q : Nat) v, cu[q]? = some v → w.cell? ⟨b, o + q, none⟩ = some v) ∧ ((way = [] ∧ b = b0 ∧ o = o0 ∧ cu = c) ∨ (way ≠ [] ∧ S b ∧ ∃ cs, Blk w b cs 54 ∧ o + 6 ≤ cs.length)) ∧
      ∀ (w' : World) (u' : T) (cu' : List Value) (Su' : Nat → Prop), (∀ x, S x → x ≠ b → ¬ Su x → w'.heap[x]? = w.heap[x]?) → (way ≠ [] → Six w w' b o cu') → OT Su' w' u' cu' → (∀ x, Su' x → Su x ∨ w.heap.size ≤ x) →
        ∃ c', OT (fun x => S x ∨ w.heap.size ≤ x) w' (putT t way u') c' ∧ (way = [] → c' = cu') ∧ (way ≠ [] → c' = c)
  | [], S, w, b0, o0, t, u, c, b, o, ht, hS, hb0, hc, hg, hp => by
    cases hg
    obtain ⟨rfl, rfl⟩ := hp
    exact ⟨S, c, ht, fun x h => h, hb0, hc, .inl ⟨rfl, rfl, rfl, rfl⟩, fun w' u' cu' Su' _ _ h3 h4 => ⟨cu', h3.mono fun x hx => h4 x hx, fun _ => rfl, fun h => absurd rfl h⟩⟩
  | s :: r, S, w, b0, o0, t, u, c, b, o, ht, hS, hb0, hc, hg, hp => by
    obtain ⟨i, k, g, f, n, cc, h1, h2, h3, h4⟩ := hp
    rcases findT_kid t.kids s with ⟨e1, _⟩ | ⟨i', k', e1, e2, e3, e4, _⟩
    · rw [e1] at h1; omega
    obtain rfl : i' = i := by rw [e1] at h1; exact Int.ofNat.inj h1
    rw [h2] at e2
    obtain rfl : k = k' := by cases e2; rfl
    obtain ⟨K, kc, css, Si, rfl, hrow⟩ := ht.row
    have h5 := hc 5 _ rfl
    rw [h3] at h5
    simp only [Option.some.injEq, Value.slice.injEq] at h5
    obtain ⟨rfl, _, _⟩ := h5
    have hlt := (List.getElem?_eq_some_iff.1 h2).1
    obtain ⟨g', cap, sp, hv, _, hbk, hcap, hmx, hsz⟩ := own_form hrow.own (by omega)
    simp only [Value.slice.injEq, Option.some.injEq, Addr.mk.injEq, and_true, true_and] at hv
    obtain ⟨⟨rfl, rfl⟩, rfl⟩ := hv
    have hcl : i' < css.length := by rw [hrow.hl]; exact hlt
    have hci := List.getElem?_eq_getElem hcl
    have hgg := hrow.g g rfl
    have hk6 := hrow.h6 _ (List.getElem_mem hcl)
    have hfl := flatten_len css hrow.h6
    rw [getT_cons, e3] at hg
    have hkc : ∀ (q : Nat) v, (css[i'])[q]? = some v → w.cell? ⟨g, 0 + i' * 6 + q, none⟩ = some v := fun q v hq => by
      have := flatten_get css hrow.h6 i' _ hci q v hq
      rw [hbk.cell, Nat.zero_add, List.getElem?_append_left (List.getElem?_eq_some_iff.1 this).1]
      exact this
    obtain ⟨Su, cu, f1, f2, f3, f4, f5, f6⟩ := focus r (Si i') w g (0 + i' * 6) k u (css[i']) b o (hrow.each i' k _ h2 hci) (fun x hx => hS x (hrow.sub i' x hx)) (hgg.2 i') hkc hg h4
    have hbS : S b ∧ ∃ cs, Blk w b cs 54 ∧ o + 6 ≤ cs.length := by
      rcases f5 with ⟨_, rfl, rfl, _⟩ | ⟨_, h, h'⟩
      · exact ⟨hgg.1, _, hbk, by rw [List.length_append, hfl]; omega⟩
      · exact ⟨hrow.sub i' b h, h'⟩
    refine ⟨Su, cu, f1, fun x hx => hrow.sub i' x (f2 x hx), f3, f4, .inr ⟨by simp, hbS.1, hbS.2⟩, fun w' u' cu' Su' k1 k2 k3 k4 => ?_⟩
    obtain ⟨c', l1, l2, l3⟩ := f6 w' u' cu' Su' (fun x hx => k1 x (hrow.sub i' x hx)) (fun _ => k2 (by simp)) k3 k4
    have hold : ∀ j, j ≠ i' → ∀ x, Si j x → w'.heap[x]? = w.heap[x]? := fun j hj x hx => by
      refine k1 x (hrow.sub j x hx) (fun e => ?_) (fun h => hj (hrow.dis j i' x hx (f2 x h)))
      subst e
      rcases f5 with ⟨_, e, _⟩ | ⟨_, h, _⟩
      · subst e; exact hgg.2 j hx
      · exact hj (hrow.dis j i' x hx h)
    have hown : w'.ownsRow 0 54 6 (.slice (some ⟨g, 0, none⟩) t.kids.length kc) t.kids.length (css.set i' c').flatten := by
      by_cases hr : r = []
      · rcases f5 with ⟨_, rfl, rfl, _⟩ | ⟨h, _⟩
        · rw [l2 hr]
          obtain ⟨cs', m1, m2, m3, m4⟩ := k2 (by simp) _ hbk
          rw [Nat.zero_add] at m3 m4
          exact own_set6 (cs' := cs') hrow.h6 hrow.hl hrow.own hlt k3.len fun cs hcs => by
            obtain rfl := hcs.inj hbk
            exact ⟨m1, m2, m3, m4⟩
        · exact absurd hr h
      · rw [l3 hr, List.set_getElem_self]
        refine own_keep hrow.own fun x hx => ?_
        obtain rfl : g = x := by simpa [Value.ownBlock] using hx
        refine k1 g hgg.1 (fun e => ?_) (fun h => hgg.2 i' (f2 g h))
        subst e
        rcases f5 with ⟨h, _⟩ | ⟨_, h, _⟩
        · exact hr h
        · exact hgg.2 i' h
    have hfin := hrow.set (N := w.heap.size) hS l1 (fun x hx => hx) hown hold
    have hfin2 : OT (fun x => S x ∨ w.heap.size ≤ x) w' (t.wk (t.kids.set i' (putT k r u'))) (cT t.name t.key t.kind t.num t.text (some ⟨g, 0, none⟩) (t.kids.set i' (putT k r u')).length kc) := OT.of_row (t := t.wk (t.kids.set i' (putT k r u'))) hfin
    rw [List.length_set] at hfin2
    refine ⟨cT t.name t.key t.kind t.num t.text (some ⟨g, 0, none⟩) t.kids.length kc, ?_, fun h => absurd h (by simp), fun _ => rfl⟩
    simp only [putT, e3, e4]
    exact hfin2
end Go.Proofs.Ytgkgedjmnbjalaa
set_option linter.unusedSimpArgs false
namespace Go.Proofs.Ytgkgedjmnbjalaa
open Go.RowKit Go.Sort
def OwnPost (t : T) (w w' : World) (v : Value) : Prop := ∃ c : List Value, v = .agg c.toArray ∧ OT (fun b => w.heap.size ≤ b ∧ b < w'.heap.size) w' t c ∧ Ext w w'
def spO (k : T) (B : Nat) : SP := ⟨fun v w => ∃ (c : List Value) (lo hi : Nat), v = .agg c.toArray ∧ OT (fun b => lo ≤ b ∧ b < hi) w k c ∧ B ≤ lo ∧ hi ≤ w.heap.size, fun _ _ _ h ⟨c, lo, hi, e, hr, h1, h2⟩ => ⟨c, lo, hi, e, hr.ext (fun b hb => by omega) h, h1, Nat.le_trans h2 h.size⟩⟩
def Turned2 (S : Nat → Prop) (w : World) (kids : List T) (A : Option Addr) (cap j B N : Nat) (wr : World) : Prop :=
  ∃ (css : List (List Value)) (Si : Nat → Nat → Prop), css.length = kids.length ∧ (∀ c ∈ css, c.length = 6) ∧ wr.ownsRow B 54 6 (.slice A kids.length cap) kids.length css.flatten ∧
    (∀ i b, Si i b → B ≤ b ∧ b < N ∧ b < wr.heap.size ∧ (Value.slice A kids.length cap).ownBlock ≠ some b) ∧ (∀ i i' b, Si i b → Si i' b → i = i') ∧
    ∀ (i : Nat) k c, kids[i]? = some k → css[i]? = some c → (i < j → OT (Si i) wr k c) ∧ (j ≤ i → RT S w k c)
theorem Turned2.start {S : Nat → Prop} {w wr : World} {kids : List T} {css : List (List Value)} {A : Option Addr} {cap B N : Nat} (h1 : css.length = kids.length) (h2 : ∀ c ∈ css, c.length = 6) (h3 : ∀ (i : Nat) k c, kids[i]? = some k → css[i]? = some c → RT S w k c)
    (h4 : wr.ownsRow B 54 6 (.slice A kids.length cap) kids.length css.flatten) : Turned2 S w kids A cap 0 B N wr :=
  ⟨css, fun _ _ => False, h1, h2, h4, fun _ _ h => h.elim, fun _ _ _ h => h.elim, fun i k c hk hc => ⟨fun h => absurd h (by omega), fun _ => h3 i k c hk hc⟩⟩
theorem Turned2.bound {S : Nat → Prop} {w wr : World} {kids : List T} {A : Option Addr} {cap j B N N' : Nat} (hN : N ≤ N') (h : Turned2 S w kids A cap j B N wr) : Turned2 S w kids A cap j B N' wr := by
  obtain ⟨css, Si, h1, h2, h3, h4, h5, h6⟩ := h
  exact ⟨css, Si, h1, h2, h3, fun i b hb => ⟨(h4 i b hb).1, by have := (h4 i b hb).2.1; omega, (h4 i b hb).2.2⟩, h5, h6⟩
theorem Turned2.ext {S : Nat → Prop} {w wr w' : World} {kids : List T} {A : Option Addr} {cap j B N : Nat} (hx : Ext wr w') (h : Turned2 S w kids A cap j B N wr) : Turned2 S w kids A cap j B N w' := by
  obtain ⟨css, Si, h1, h2, h3, h4, h5, h6⟩ := h
  refine ⟨css, Si, h1, h2, own_ext hx h3, fun i b hb => ?_, h5, fun i k c hk hc => ⟨fun hij => ((h6 i k c hk hc).1 hij).ext (fun b hb => (h4 i b hb).2.2.1) hx, (h6 i k c hk hc).2⟩⟩
  obtain ⟨a, b', c, d⟩ := h4 i b hb
  exact ⟨a, b', Nat.lt_of_lt_of_le c hx.size, d⟩
theorem Turned2.upd {S : Nat → Prop} {w wr w' : World} {kids : List T} {A : Option Addr} {cap j B N p : Nat} (hu : Upd wr w' p) (hp : p < B) (h : Turned2 S w kids A cap j B N wr) : Turned2 S w kids A cap j B N w' := by
  obtain ⟨css, Si, h1, h2, h3, h4, h5, h6⟩ := h
  refine ⟨css, Si, h1, h2, own_keep h3 fun g hg => hu.block g (fun e => ?_), fun i b hb => ?_, h5, fun i k c hk hc => ⟨fun hij => ((h6 i k c hk hc).1 hij).keep fun b hb => hu.block b (fun e => ?_), (h6 i k c hk hc).2⟩⟩
  · subst e
    have := own_base h3 g hg
    omega
  · obtain ⟨a, b', c, d⟩ := h4 i b hb
    exact ⟨a, b', by rw [hu.size]; exact c, d⟩
  · subst e
    have := (h4 i b hb).1
    omega
theorem Turned2.at {S : Nat → Prop} {w wr : World} {kids : List T} {A : Option Addr} {cap j B N : Nat} {k : T} (hk : kids[j]? = some k) (h : Turned2 S w kids A cap j B N wr) :
    ∃ g cs d, A = some ⟨g, 0, none⟩ ∧ B ≤ g ∧ Blk wr g cs 54 ∧ kids.length * 6 ≤ cs.length ∧ (∀ q v, d[q]? = some v → cs[j * 6 + q]? = some v) ∧ RT S w k d := by
  obtain ⟨css, Si, h1, h2, h3, h4, h5, h6⟩ := h
  have hlt := (List.getElem?_eq_some_iff.1 hk).1
  obtain ⟨g, c', sp, hv, hB, hb, _⟩ := own_form h3 (by omega)
  simp only [Value.slice.injEq] at hv
  obtain ⟨rfl, _, rfl⟩ := hv
  have hjl : j < css.length := by omega
  have hci := List.getElem?_eq_getElem hjl
  refine ⟨g, _, css[j], rfl, hB, hb, by rw [List.length_append, flatten_len css h2, h1]; omega, fun q v hq => ?_, (h6 j k _ hk hci).2 (Nat.le_refl _)⟩
  have := flatten_get css h2 j _ hci q v hq
  rw [List.getElem?_append_left (List.getElem?_eq_some_iff.1 this).1]
  exact this
theorem Turned2.step {S : Nat → Prop} {w wr w' : World} {kids : List T} {cap j B N lo hi g : Nat} {cs cs' : List Value} {k : T} {d : List Value} (hk : kids[j]? = some k) (h : Turned2 S w kids (some ⟨g, 0, none⟩) cap j B N wr)
    (hcs : Blk wr g cs 54) (hu : Upd wr w' g) (hb : Blk w' g cs' 54) (hl : cs'.length = cs.length) (ho : ∀ p, p < j * 6 ∨ j * 6 + 6 ≤ p → cs'[p]? = cs[p]?) (hd : ∀ q v, d[q]? = some v → cs'[j * 6 + q]? = some v)
    (hr : OT (fun b => lo ≤ b ∧ b < hi) wr k d) (hlo : N ≤ lo) (hhi : hi ≤ w'.heap.size) (hgN : g < N) (hBN : B ≤ g) :
    Turned2 S w kids (some ⟨g, 0, none⟩) cap (j + 1) B w'.heap.size w' := by
  obtain ⟨css, Si, h1, h2, h3, h4, h5, h6⟩ := h
  have hlt := (List.getElem?_eq_some_iff.1 hk).1
  refine ⟨css.set j d, fun i b => if i = j then lo ≤ b ∧ b < hi else Si i b ∧ b < N, by simp [h1], fun c hc => ?_, own_set6 (cs' := cs') h2 h1 h3 hlt hr.len (fun c hc => ?_), fun i b hib => ?_, fun i i' b h7 h8 => ?_, fun i x c hx hc => ?_⟩
  · rcases List.mem_or_eq_of_mem_set hc with hc | hc
    · exact h2 c hc
    · rw [hc]; exact hr.len
  · obtain rfl := hc.inj hcs
    exact ⟨hb, hl, ho, hd⟩
  · simp only [Value.ownBlock, ne_eq, Option.some.injEq]
    dsimp only at hib
    split at hib
    · refine ⟨by omega, by omega, by omega, by omega⟩
    · obtain ⟨a, b', c, e⟩ := h4 i b hib.1
      simp only [Value.ownBlock, ne_eq, Option.some.injEq] at e
      exact ⟨a, by rw [hu.size]; exact c, by rw [hu.size]; exact c, e⟩
  · dsimp only at h7 h8
    split at h7 <;> split at h8
    · omega
    · have := h8.2; omega
    · have := h7.2; omega
    · exact h5 i i' b h7.1 h8.1
  · by_cases hij : i = j
    · subst hij
      rw [hk] at hx; cases hx
      rw [List.getElem?_set_self (by omega)] at hc; cases hc
      refine ⟨fun _ => ?_, fun h => absurd h (by omega)⟩
      simp only [if_pos]
      exact hr.keep fun b hb => hu.block b (by omega)
    · rw [List.getElem?_set_ne (fun e => hij e.symm)] at hc
      refine ⟨fun hh => ?_, fun hh => (h6 i x c hx hc).2 (by omega)⟩
      simp only [if_neg hij]
      have h9 := (h6 i x c hx hc).1 (by omega)
      have h10 : OT (Si i) w' x c := h9.keep fun b hb => hu.block b (fun e => by
        have := (h4 i b hb).2.2.2
        simp only [Value.ownBlock, ne_eq, Option.some.injEq] at this
        exact this e.symm)
      exact h10.mono fun b hb => ⟨hb, (h4 i b hb).2.1⟩
theorem Turned2.row {S : Nat → Prop} {w wr : World} {t : T} {A : Option Addr} {B B' cap N : Nat} (hl : t.kids.length ≤ 1048576) (h : Turned2 S w t.kids A cap t.kids.length B N wr) (hB : B' ≤ B) (hN : N ≤ wr.heap.size) :
    OT (fun b => B' ≤ b ∧ b < wr.heap.size) wr t (cT t.name t.key t.kind t.num t.text A t.kids.length cap) := by
  obtain ⟨css, Si, h1, h2, h3, h4, h5, h6⟩ := h
  refine OT.of_row (css := css) (Si := Si) ⟨h1, h2, hl, own_weak (Nat.zero_le _) h3, fun g hg => ⟨⟨?_, own_lt h3 g hg⟩, fun i hi => (h4 i g hi).2.2.2 hg⟩, fun i b hb => ⟨by have := (h4 i b hb).1; omega, (h4 i b hb).2.2.1⟩, h5, fun i k c hk hc => (h6 i k c hk hc).1 (List.getElem?_eq_some_iff.1 hk).1⟩
  have := own_base h3 g hg
  omega
set_option maxRecDepth 100000 in
set_option maxHeartbeats 4000000 in
theorem own_clone : ∀ (N : Nat) (t : T) (S : Nat → Prop) (w : World) (c : List Value), t.deep ≤ N → RT S w t c → Calls Try.prog 114 #[.agg c.toArray] w (Ret (OwnPost t w))
  | 0, t, S, w, c, hn, _ => by rw [t.deep_eq] at hn; omega
  | N + 1, t, S, w, c, hn, h => by
    obtain ⟨K, kc, rfl, hrow⟩ := h.row
    have kn := Hd.mk (show deepL t.kids ≤ N by rw [T.deep_eq] at hn; omega)
    have ih := Hd.mk (own_clone N)
    have hlb := hrow.len
    have kr := Hd.mk hrow
    clear hrow h hn
    simp only [cT]
    go_enter Try.func114, Try.ntmps114
    go_wp2_with fail
    have kx := Hd.mk ((Ext.alloc w (.cells #[.string t.name, .string t.key, .int .i64 t.kind, .int .u64 t.num, .string t.text, .slice K t.kids.length kc] 54)).trans (Ext.alloc _ (.cells #[.string ⟨#[]⟩, .string ⟨#[]⟩, .int .i64 0, .int .u64 0, .string ⟨#[]⟩, .slice none 0 0] 54)))
    have kA := Hd.mk ((Blk.new w #[.string t.name, .string t.key, .int .i64 t.kind, .int .u64 t.num, .string t.text, .slice K t.kids.length kc] 54).alloc (.cells #[.string ⟨#[]⟩, .string ⟨#[]⟩, .int .i64 0, .int .u64 0, .string ⟨#[]⟩, .slice none 0 0] 54))
    have kR := Hd.mk (Blk.new2 w (.cells #[.string t.name, .string t.key, .int .i64 t.kind, .int .u64 t.num, .string t.text, .slice K t.kids.length kc] 54) #[.string ⟨#[]⟩, .string ⟨#[]⟩, .int .i64 0, .int .u64 0, .string ⟨#[]⟩, .slice none 0 0] 54)
    have hsz := Hd.mk (show ((w.alloc (.cells #[.string t.name, .string t.key, .int .i64 t.kind, .int .u64 t.num, .string t.text, .slice K t.kids.length kc] 54)).alloc (.cells #[.string ⟨#[]⟩, .string ⟨#[]⟩, .int .i64 0, .int .u64 0, .string ⟨#[]⟩, .slice none 0 0] 54)).heap.size = w.heap.size + 2 by simp)
    generalize (w.alloc _).alloc _ = W at *
    refine Calls.mono (clone_nodes kr.out kx.out) ?_
    rintro e w1 ⟨_, rfl, css, h1, h2, h3, hown, hx1⟩
    obtain ⟨A, cap, rfl, hcap, hnul, hrows⟩ := own_slice hown
    rw [hsz.out] at hrows
    have hT0 := Hd.mk (Turned2.start (N := w1.heap.size) h1 h2 h3 (by rw [hsz.out] at hown; exact hown))
    have kA1 := Hd.mk (kA.out.ext hx1)
    have kR1 := Hd.mk (kR.out.ext hx1)
    have kx1 := Hd.mk (kx.out.trans hx1)
    have hcap := Hd.mk hcap
    have hnul := Hd.mk hnul
    clear h1 h2 h3 hown hx1 hrows
    have gA := kA1.out.cell
    have fA := kA1.out.free
    go_wp2_with fail
    have kA2 := Hd.mk (kA1.out.setCell 5 (.slice A t.kids.length cap))
    have hu := Hd.mk (Upd.setCell w1 ⟨w.heap.size, 5, none⟩ (.slice A t.kids.length cap))
    have kR2 := Hd.mk (hu.out.blk (by simp) kR1.out)
    have hT1 := Hd.mk (Turned2.upd hu.out (by simp) hT0.out)
    have hsz1 := Hd.mk (show w1.heap.size ≤ (w1.setCell ⟨w.heap.size, 5, none⟩ (.slice A t.kids.length cap)).heap.size by simp)
    replace hT1 := Hd.mk (hT1.out.bound hsz1.out)
    have kx2 := Hd.mk (show Ext w _ from Below.trans kx1.out (hu.out.below (Nat.le_refl _)))
    clear gA fA hu kA1 kR1 kx1 hT0 kA kR
    generalize w1.setCell _ _ = W1 at *
    go_loopg [12] (t.kids.length + 1) (fun q i wr => ∃ j : Nat, j ≤ t.kids.length ∧ Hd (q = t.kids.length + 1 - j) ∧ i = .int .i64 j ∧ Hd (Ext w wr) ∧ Hd (Turned2 S w t.kids A cap j (w.heap.size + 2) wr.heap.size wr) ∧
      Hd (Blk wr w.heap.size [.string t.name, .string t.key, .int .i64 t.kind, .int .u64 t.num, .string t.text, .slice A t.kids.length cap] 54) ∧ Hd (Blk wr (w.heap.size + 1) [.string ⟨#[]⟩, .string ⟨#[]⟩, .int .i64 0, .int .u64 0, .string ⟨#[]⟩, .slice none 0 0] 54))
    case atStart => exact ⟨0, by omega, ⟨by omega⟩, rfl, kx2, hT1, kA2, kR2⟩
    case round =>
    obtain ⟨j, hj, hq, rfl, hxr, hT, kA, kR⟩ := hrel
    by_cases hlt : j < t.kids.length
    · have hkj := List.getElem?_eq_getElem hlt
      generalize t.kids[j] = k at hkj
      have hkj := Hd.mk hkj
      obtain ⟨g, cs, d, rfl, hge, hcs, hlen, hd1, hrk⟩ := hT.out.at hkj.out
      obtain ⟨K', kc', rfl, _⟩ := hrk.row
      have hkd := Hd.mk (show k.deep ≤ N by have := deepL_mem hkj.out; have := kn.out; omega)
      have hcs := Hd.mk hcs
      have hlen := Hd.mk hlen
      have hd1' : ∀ (q : Nat) v, (cT k.name k.key k.kind k.num k.text K' k.kids.length kc')[q]? = some v → wr.cell? ⟨g, j * 6 + q, none⟩ = some v := fun q v hv => by rw [hcs.out.cell]; exact hd1 q v hv
      obtain ⟨e0, e1, e2, e3, e4, e5⟩ := six (Ext.refl wr) hd1'
      have hrk := Hd.mk hrk
      have hglt := Hd.mk hcs.out.lt
      clear hd1 hd1'
      go_wp2_with fail
      have hxb := Hd.mk (Ext.alloc wr (.cells #[.string k.name, .string k.key, .int .i64 k.kind, .int .u64 k.num, .string k.text, .slice K' k.kids.length kc'] 54))
      have kB := Hd.mk (Blk.new wr #[.string k.name, .string k.key, .int .i64 k.kind, .int .u64 k.num, .string k.text, .slice K' k.kids.length kc'] 54)
      have kA' := Hd.mk (kA.out.ext hxb.out)
      have kR' := Hd.mk (kR.out.ext hxb.out)
      have hT' := Hd.mk ((hT.out.ext hxb.out).bound hxb.out.size)
      have hcs' := Hd.mk (hcs.out.ext hxb.out)
      have hxr' := Hd.mk (hxr.out.trans hxb.out)
      have hrkV := Hd.mk (hrk.out)
      have hgl2 := Hd.mk (Nat.lt_of_lt_of_le hglt.out hxb.out.size)
      clear e0 e1 e2 e3 e4 e5 hxb kA kR hT hcs
      generalize wr.heap.size = pB at *
      generalize wr.alloc _ = V at *
      refine Flow.wp_region_flow_l (fun qq => match qq with
        | 17 => SP.eq (.pointer (some ⟨w.heap.size, 5, none⟩))
        | 18 => SP.eq (.slice (some ⟨g, 0, none⟩) t.kids.length cap)
        | 19 => SP.eq (.int .i64 (j : Nat))
        | 20 => SP.eq (.agg #[.string k.name, .string k.key, .int .i64 k.kind, .int .u64 k.num, .string k.text, .slice K' k.kids.length kc'])
        | 21 => spO k V.heap.size
        | 22 => SP.eq (.pointer (some ⟨g, j * 6, none⟩))
        | _ => SP.any) 6 (by kernel_rfl) 25 rfl (by kernel_rfl) ?_ ?_
      · skip
        refine ⟨?_, ?_, ?_, ?_, ?_, ?_, trivial⟩
        · intro act W2 hk
          refine Flow.does_intro rfl (fun K hK => ?_)
          have e1 : act.tmps[1]?.getD undef = .pointer (some ⟨w.heap.size, 0, none⟩) := hk.o 1 (by kernel_rfl)
          clear hk
          go_simp
          exact hK _ _ (Ext.refl _) (fun d hd => by cases hd; rfl)
        · intro act W2 hk
          refine Flow.does_intro rfl (fun K hK => ?_)
          have e17 : act.tmps[17]?.getD undef = .pointer (some ⟨w.heap.size, 5, none⟩) := hk.v 17 (by kernel_rfl)
          have g := ((kA'.out).ext ((Ext.drew V).trans hk.ext)).cell
          clear hk
          go_simp
          exact hK _ _ (Ext.refl _) (fun d hd => by cases hd; rfl)
        · intro act W2 hk
          refine Flow.does_intro rfl (fun K hK => ?_)
          have e3 : act.tmps[3]?.getD undef = .int .i64 (j : Nat) := hk.o 3 (by kernel_rfl)
          clear hk
          go_simp
          exact hK _ _ (Ext.refl _) (fun d hd => by cases hd; rfl)
        · intro act W2 hk
          refine Flow.does_intro rfl (fun K hK => ?_)
          have e4 : act.tmps[4]?.getD undef = .pointer (some ⟨pB, 0, none⟩) := hk.o 4 (by kernel_rfl)
          have g := ((kB.out).ext ((Ext.drew V).trans hk.ext)).cell
          clear hk
          go_simp
          exact hK _ _ (Ext.refl _) (fun d hd => by cases hd; rfl)
        · intro act W2 hk
          refine Flow.does_intro rfl (fun K hK => ?_)
          have e20 : act.tmps[20]?.getD undef = .agg #[.string k.name, .string k.key, .int .i64 k.kind, .int .u64 k.num, .string k.text, .slice K' k.kids.length kc'] := hk.v 20 (by kernel_rfl)
          have hx0 := Hd.mk ((Ext.drew V).trans hk.ext)
          have hsz0 := hx0.out.size
          clear hk
          go_simp
          refine Calls.mono (ih.out k S W2 _ hkd.out (hrkV.out.ext (hxr'.out.trans hx0.out))) ?_
          rintro e W3 ⟨_, rfl, c', rfl, hr', hx⟩
          exact hK _ _ hx (fun d hd => by cases hd; exact ⟨c', _, _, rfl, hr', hsz0, Nat.le_refl _⟩)
        · intro act W2 hk
          refine Flow.does_intro rfl (fun K hK => ?_)
          have e18 : act.tmps[18]?.getD undef = .slice (some ⟨g, 0, none⟩) t.kids.length cap := hk.v 18 (by kernel_rfl)
          have e19 : act.tmps[19]?.getD undef = .int .i64 (j : Nat) := hk.v 19 (by kernel_rfl)
          have hlt2 := hlt
          clear hk
          go_simp
          exact hK _ _ (Ext.refl _) (fun d hd => by cases hd; rfl)
      · intro act W2 he
        have hxW2 := Hd.mk ((Ext.drew V).trans he.ext)
        obtain ⟨us, hA, hF⟩ := he.out [17, 18, 19, 20, 21, 22] (by kernel_rfl)
        simp only [Flow.fillL, List.contains_cons, List.contains_nil, Nat.reduceBEq, Bool.or_false, Bool.false_or, Bool.or_true, Bool.true_or, ↓reduceIte, Nat.reduceAdd, Bool.false_eq_true] at hA
        subst hA
        have f21 : (spO k V.heap.size).p (us 21) W2 := hF 21 (by simp)
        have f22 : us 22 = .pointer (some ⟨g, j * 6, none⟩) := hF 22 (by simp)
        clear hF he
        rw [f22]
        clear f22
        obtain ⟨c', lo, hi, ec, hr', hlo, hhi⟩ := (f21 : (spO _ _).p _ _)
        generalize us 17 = u17 at *
        generalize us 18 = u18 at *
        generalize us 19 = u19 at *
        generalize us 20 = u20 at *
        generalize us 21 = u21 at *
        subst ec
        obtain ⟨K2, kc2, _, _, rfl, _⟩ := hr'.row
        have hr' := Hd.mk hr'
        have hcs2 := Hd.mk (hcs'.out.ext hxW2.out)
        have kA2 := Hd.mk (kA'.out.ext hxW2.out)
        have kR2 := Hd.mk (kR'.out.ext hxW2.out)
        have hT2 := Hd.mk (hT'.out.ext hxW2.out)
        have hxr2 := Hd.mk (hxr'.out.trans hxW2.out)
        have hfr := hcs2.out.free
        have hl6 := hlen.out
        obtain ⟨v0, z0⟩ := cell_some hcs2.out (i := j * 6) (by omega)
        obtain ⟨v1, z1⟩ := cell_some hcs2.out (i := j * 6 + 1) (by omega)
        obtain ⟨v2, z2⟩ := cell_some hcs2.out (i := j * 6 + 2) (by omega)
        obtain ⟨v3, z3⟩ := cell_some hcs2.out (i := j * 6 + 3) (by omega)
        obtain ⟨v4, z4⟩ := cell_some hcs2.out (i := j * 6 + 4) (by omega)
        obtain ⟨v5, z5⟩ := cell_some hcs2.out (i := j * 6 + 5) (by omega)
        simp only [cT]
        refine (show wpList _ _ _ (⟨none, .store 54 (.tmp 22) (.tmp 21), _, _, _, none⟩ :: []) _ _ from ?_)
        go_wp2_with fail
        obtain ⟨cs', q1, q2, q3, q4, q5⟩ := set6 hcs2.out (o := j * 6) (by omega) (.string k.name) (.string k.key) (.int .i64 k.kind) (.int .u64 k.num) (.string k.text) (.slice K2 k.kids.length kc2)
        go_roundg (t.kids.length + 1 - (j + 1))
        case measure => have := hq.out; omega
        case rel => exact ⟨j + 1, by omega, ⟨rfl⟩, by go_num, ⟨Below.trans hxr2.out (q2.below (by omega))⟩, ⟨Turned2.step hkj.out hT2.out hcs2.out q2 q1 q3 q4 q5 hr'.out hlo (by rw [q2.size]; exact hhi) hgl2.out (by omega)⟩, ⟨q2.blk (by omega) kA2.out⟩, ⟨q2.blk (by omega) kR2.out⟩⟩
    · have hjl : j = t.kids.length := by omega
      subst hjl
      have gA := kA.out.cell
      have gR := kR.out.cell
      have fR := kR.out.free
      go_wp2_with fail
      have hu := Hd.mk ((((((Upd.setCell wr ⟨w.heap.size + 1, 0, none⟩ (.string t.name)).trans (Upd.setCell _ ⟨w.heap.size + 1, 1, none⟩ (.string t.key))).trans (Upd.setCell _ ⟨w.heap.size + 1, 2, none⟩ (.int .i64 t.kind))).trans (Upd.setCell _ ⟨w.heap.size + 1, 3, none⟩ (.int .u64 t.num))).trans (Upd.setCell _ ⟨w.heap.size + 1, 4, none⟩ (.string t.text))).trans (Upd.setCell _ ⟨w.heap.size + 1, 5, none⟩ (.slice A t.kids.length cap)))
      have hrow := Hd.mk (Turned2.row hlb (hT.out.upd hu.out (show w.heap.size + 1 < w.heap.size + 2 by omega)) (by omega : w.heap.size ≤ w.heap.size + 2) (by rw [hu.out.size]; exact Nat.le_refl _))
      exact ret_box rfl (w.heap.size + 1) _ 54 _ ((((((kR.out.setCell 0 (.string t.name)).setCell 1 (.string t.key)).setCell 2 (.int .i64 t.kind)).setCell 3 (.int .u64 t.num)).setCell 4 (.string t.text)).setCell 5 (.slice A t.kids.length cap)) rfl rfl Try.underlying54 rfl size54
        ⟨_, rfl, _, rfl, hrow.out, Below.trans hxr.out (hu.out.below (Nat.le_succ _))⟩
end Go.Proofs.Ytgkgedjmnbjalaa
set_option linter.unusedSimpArgs false
namespace Go.Proofs.Ytgkgedjmnbjalaa
open Go.RowKit Go.Sort
theorem pth_cells : ∀ (way : List Step) (S : Nat → Prop) (w : World) (b0 o0 : Nat) (t u : T) (c : List Value) (b o : Nat), RT S w t c → (∀ (q : Nat) v, c[q]? = some v → w.cell? ⟨b0, o0 + q, none⟩ = some v) → getT t way = some u → Pth w b0 o0 t way b o →
    ∃ cu, RT S w u cu ∧ ∀ (q : Nat) v, cu[q]? = some v → w.cell? ⟨b, o + q, none⟩ = some v
  | [], S, w, b0, o0, t, u, c, b, o, h, hc, hg, hp => by
    cases hg
    obtain ⟨rfl, rfl⟩ := hp
    exact ⟨c, h, hc⟩
  | s :: r, S, w, b0, o0, t, u, c, b, o, h, hc, hg, hp => by
    obtain ⟨i, k, g, f, n, cc, h1, h2, h3, h4⟩ := hp
    rcases findT_kid t.kids s with ⟨e1, _⟩ | ⟨i', k', e1, e2, e3, _⟩
    · rw [e1] at h1; omega
    obtain rfl : i' = i := by rw [e1] at h1; exact Int.ofNat.inj h1
    rw [h2] at e2
    obtain rfl : k = k' := by cases e2; rfl
    obtain ⟨K, kc, rfl, hrow⟩ := h.row
    have h5 := hc 5 _ rfl
    rw [h3] at h5
    simp only [Option.some.injEq, Value.slice.injEq] at h5
    obtain ⟨rfl, _, _⟩ := h5
    obtain ⟨b1, o1, ck, hK, _, hrk, hck⟩ := hrow.kid i' k h2
    simp only [Option.some.injEq, Addr.mk.injEq, and_true] at hK
    obtain ⟨rfl, rfl⟩ := hK
    rw [getT_cons, e3] at hg
    exact pth_cells r S w g (f + i' * 6) k u ck b o hrk hck hg h4
def GetPost (o : Option T) (w w' : World) (v : Value) : Prop := Ext w w' ∧ ((o = none ∧ v = .tuple #[.agg #[.string ⟨#[]⟩, .string ⟨#[]⟩, .int .i64 0, .int .u64 0, .string ⟨#[]⟩, .slice none 0 0], .bool false]) ∨ ∃ u c, o = some u ∧ v = .tuple #[.agg (c : List Value).toArray, .bool true] ∧ OT (fun b => w.heap.size ≤ b ∧ b < w'.heap.size) w' u c)
set_option maxRecDepth 100000 in
set_option maxHeartbeats 2000000 in
theorem tree_get (t : T) (way : List Step) (S S' : Nat → Prop) (w : World) (c : List Value) (A : Option Addr) (ac : Nat) (h : RT S w t c) (hw : WRow S' w A way ac) :
    Calls Try.prog 68 #[.agg c.toArray, .slice A way.length ac] w (Ret (GetPost (getT t way) w)) := by
  obtain ⟨K, kc, rfl, hrow⟩ := h.row
  have kr := Hd.mk h
  have kw := Hd.mk hw
  clear hrow h hw
  simp only [cT] at kr ⊢
  generalize ho : getT t way = og
  replace ho := Hd.mk ho
  go_enter Try.func68, Try.ntmps68
  go_wp2_with fail
  have kx := Hd.mk ((Ext.alloc w (.cells #[.string t.name, .string t.key, .int .i64 t.kind, .int .u64 t.num, .string t.text, .slice K t.kids.length kc] 54)).trans (Ext.alloc _ (.cells #[.string ⟨#[]⟩, .string ⟨#[]⟩, .int .i64 0, .int .u64 0, .string ⟨#[]⟩, .slice none 0 0] 54)))
  have kA := Hd.mk ((Blk.new w #[.string t.name, .string t.key, .int .i64 t.kind, .int .u64 t.num, .string t.text, .slice K t.kids.length kc] 54).alloc (.cells #[.string ⟨#[]⟩, .string ⟨#[]⟩, .int .i64 0, .int .u64 0, .string ⟨#[]⟩, .slice none 0 0] 54))
  have kR := Hd.mk (Blk.new2 w (.cells #[.string t.name, .string t.key, .int .i64 t.kind, .int .u64 t.num, .string t.text, .slice K t.kids.length kc] 54) #[.string ⟨#[]⟩, .string ⟨#[]⟩, .int .i64 0, .int .u64 0, .string ⟨#[]⟩, .slice none 0 0] 54)
  generalize (w.alloc _).alloc _ = W at *
  have hat := Hd.mk (tree_at t way S S' W w.heap.size 0 _ A ac (kr.out.ext kx.out) (fun q v hq => by rw [Nat.zero_add, kA.out.cell]; exact hq) (kw.out.ext kx.out))
  refine Calls.mono hat.out ?_
  rintro e w1 ⟨hx, hres⟩
  have kx1 := Hd.mk (kx.out.trans hx)
  have kR1 := Hd.mk (kR.out.ext hx)
  have kA1 := Hd.mk (kA.out.ext hx)
  have hsz := Hd.mk kx1.out.size
  have hlt := Hd.mk kR1.out.lt
  clear kR hat
  rcases hres with ⟨hg, rfl⟩ | ⟨u, bu, ou, hg, rfl, hp⟩
  · have hog := Hd.mk (ho.out.symm.trans hg)
    clear hg hx ho kr kw kA kA1
    have gR := kR1.out.cell
    have fR := kR1.out.free
    go_wp2_with fail
    have hu := Hd.mk ((((((Upd.setCell w1 ⟨w.heap.size + 1, 0, none⟩ (.string ⟨#[]⟩)).trans (Upd.setCell _ ⟨w.heap.size + 1, 1, none⟩ (.string ⟨#[]⟩))).trans (Upd.setCell _ ⟨w.heap.size + 1, 2, none⟩ (.int .i64 0))).trans (Upd.setCell _ ⟨w.heap.size + 1, 3, none⟩ (.int .u64 0))).trans (Upd.setCell _ ⟨w.heap.size + 1, 4, none⟩ (.string ⟨#[]⟩))).trans (Upd.setCell _ ⟨w.heap.size + 1, 5, none⟩ (.slice none 0 0)))
    exact ret_box2 rfl (w.heap.size + 1) _ 54 _ ((((((kR1.out.setCell 0 (.string ⟨#[]⟩)).setCell 1 (.string ⟨#[]⟩)).setCell 2 (.int .i64 0)).setCell 3 (.int .u64 0)).setCell 4 (.string ⟨#[]⟩)).setCell 5 (.slice none 0 0)) rfl rfl Try.underlying54 rfl size54
      ⟨_, rfl, Below.trans kx1.out (hu.out.below (Nat.le_succ _)), .inl ⟨hog.out, rfl⟩⟩
  · obtain ⟨cu, hru, hcu⟩ := pth_cells way S W w.heap.size 0 t u _ bu ou (kr.out.ext kx.out) (fun q v hq => by
      have hA0 : W.cell? ⟨w.heap.size, 0 + q, none⟩ = [.string t.name, .string t.key, .int .i64 t.kind, .int .u64 t.num, .string t.text, .slice K t.kids.length kc][q]? := by
        rw [Nat.zero_add]
        have hb : Blk W w.heap.size [.string t.name, .string t.key, .int .i64 t.kind, .int .u64 t.num, .string t.text, .slice K t.kids.length kc] 54 := kA.out
        exact hb.cell q
      rw [hA0]; exact hq) hg hp
    have hog := Hd.mk (ho.out.symm.trans hg)
    obtain ⟨Ku, cku, rfl, _⟩ := hru.row
    obtain ⟨e0, e1, e2, e3, e4, e5⟩ := six hx hcu
    have lt1 := World.block_lt_of_cell? w1 _ e0
    have hcl := Hd.mk (own_clone _ u S w1 _ (Nat.le_refl _) (hru.ext hx))
    clear hg hx hp hcu hru ho kr kw kA1 kA
    simp only [cT] at hcl
    go_wp2_with fail
    refine Calls.mono hcl.out ?_
    rintro e w2 ⟨_, rfl, c', rfl, hr', hx⟩
    obtain ⟨K2, kc2, _, _, rfl, _⟩ := hr'.row
    have hr' := Hd.mk hr'
    have kR2 := Hd.mk (kR1.out.ext hx)
    have kx2 := Hd.mk (kx1.out.trans hx)
    have hs2 := Hd.mk hx.size
    clear hx kR1 hcl e0 e1 e2 e3 e4 e5 lt1
    simp only [cT] at hr' ⊢
    have gR := kR2.out.cell
    have fR := kR2.out.free
    go_wp2_with fail
    have hu := Hd.mk ((((((Upd.setCell w2 ⟨w.heap.size + 1, 0, none⟩ (.string u.name)).trans (Upd.setCell _ ⟨w.heap.size + 1, 1, none⟩ (.string u.key))).trans (Upd.setCell _ ⟨w.heap.size + 1, 2, none⟩ (.int .i64 u.kind))).trans (Upd.setCell _ ⟨w.heap.size + 1, 3, none⟩ (.int .u64 u.num))).trans (Upd.setCell _ ⟨w.heap.size + 1, 4, none⟩ (.string u.text))).trans (Upd.setCell _ ⟨w.heap.size + 1, 5, none⟩ (.slice K2 u.kids.length kc2)))
    exact ret_box2 rfl (w.heap.size + 1) _ 54 _ ((((((kR2.out.setCell 0 (.string u.name)).setCell 1 (.string u.key)).setCell 2 (.int .i64 u.kind)).setCell 3 (.int .u64 u.num)).setCell 4 (.string u.text)).setCell 5 (.slice K2 u.kids.length kc2)) rfl rfl Try.underlying54 rfl size54
      ⟨_, rfl, Below.trans kx2.out (hu.out.below (Nat.le_succ _)), .inr ⟨u, _, hog.out, rfl, (hr'.out.keep fun b hb => hu.out.block b (by have := hlt.out; have := hsz.out; show b ≠ w.heap.size + 1; omega)).mono fun b hb => ⟨Nat.le_trans hsz.out hb.1, by rw [hu.out.size]; exact hb.2⟩⟩⟩
end Go.Proofs.Ytgkgedjmnbjalaa
set_option linter.unusedSimpArgs false
set_option linter.unusedVariables false
namespace Go.Proofs.Ytgkgedjmnbjalaa
open Go.RowKit
namespace FlowS
open Flow (certB closedB fitB depB oldB depsB rangeB tailB flowB fillL marked left ahead_listed getD_set put_getD put_getD_ge put_size put_defers' mem_ready' marked_size marked_getD unlisted left_set wpAny_fuel_ready upto wpAny_tail marked_range fillL_length fillL_get countP_set countP_other upto_getD upto_size upto_set)
variable {P : Program} {ops : Array Oper} {Q : Exit → Act → World → Prop}
structure Known (R : World → World → Prop) (s : Nat) (ops : Array Oper) (C : Array Nat) (L : List Nat) (F : Tmp → SP) (a0 : Act) (w0 : World) (i : Nat) (a : Act) (w : World) : Prop where
  ext : R w0 w
  early : (i = s ∨ (C.getD s 0).testBit i = true) → Ext w0 w
  size : a.tmps.size = a0.tmps.size
  dep : ∀ t, depB ops C L i t = true → (F t).p (a.tmps.getD t undef) w
  old : ∀ t, oldB ops C L i t = true → a.tmps.getD t undef = a0.tmps.getD t undef
theorem Known.v {R : World → World → Prop} {s : Nat} {C : Array Nat} {L : List Nat} {F : Tmp → SP} {a0 : Act} {w0 : World} {i : Nat} {a : Act} {w : World} (h : Known R s ops C L F a0 w0 i a w) (t : Tmp) (hd : depB ops C L i t = true) : (F t).p (a.tmps[t]?.getD undef) w := by
  have := h.dep t hd
  rwa [Array.getD_eq_getD_getElem?] at this
theorem Known.o {R : World → World → Prop} {s : Nat} {C : Array Nat} {L : List Nat} {F : Tmp → SP} {a0 : Act} {w0 : World} {i : Nat} {a : Act} {w : World} (h : Known R s ops C L F a0 w0 i a w) (t : Tmp) (hd : oldB ops C L i t = true) : a.tmps[t]?.getD undef = a0.tmps.getD t undef := by
  have := h.old t hd
  rwa [Array.getD_eq_getD_getElem?] at this
def Does (Rl : World → World → Prop) (P : Program) (ops : Array Oper) (Q : Exit → Act → World → Prop) (F : Tmp → SP) (o : Oper) (a : Act) (w : World) : Prop :=
  if Region.wanted o (yielded ops a.tmps) then o.wp P a w (fun a' w' => ∃ v, a' = a.put o.dst v ∧ Rl w w' ∧ ∀ d, o.dst = some d → (F d).p v w') Q
  else ∀ d, o.dst = some d → (F d).p undef w
structure Ends (R : World → World → Prop) (ops : Array Oper) (L : List Nat) (F : Tmp → SP) (a0 : Act) (w0 : World) (a : Act) (w : World) : Prop where
  ext : R w0 w
  size : a.tmps.size = a0.tmps.size
  defers : a.defers = a0.defers
  new : ∀ j ∈ L, ∀ t, (ops[j]?).bind (·.dst) = some t → (F t).p (a.tmps.getD t undef) w
  old : ∀ t, (L.all fun j => ((ops[j]?).bind (·.dst)) != some t) = true → a.tmps.getD t undef = a0.tmps.getD t undef
structure Inv (R : World → World → Prop) (s : Nat) (ops : Array Oper) (L : List Nat) (F : Tmp → SP) (a0 : Act) (w0 : World) (l0 l : Array Bool) (a : Act) (w : World) : Prop where
  ext : R w0 w
  early : l.getD s false = false → Ext w0 w
  size : a.tmps.size = a0.tmps.size
  defers : a.defers = a0.defers
  lsize : l.size = ops.size
  closed : ∀ j o, ops[j]? = some o → l.getD j false = true → ∀ e ∈ o.after, Region.binds .any e = true → l.getD e.on false = true
  out : ∀ j, j ∉ L → l.getD j false = l0.getD j false
  new : ∀ j ∈ L, l.getD j false = true → ∀ t, (ops[j]?).bind (·.dst) = some t → (F t).p (a.tmps.getD t undef) w
  old : ∀ t, (∀ j ∈ L, l.getD j false = true → (ops[j]?).bind (·.dst) ≠ some t) → a.tmps.getD t undef = a0.tmps.getD t undef
theorem Inv.step {R : World → World → Prop} {s : Nat} {L : List Nat} {F : Tmp → SP} {C : Array Nat} {a0 : Act} {w0 : World} {l0 l : Array Bool} {a : Act} {w : World} (hfit : fitB ops C l0 L = true)
    (h : Inv R s ops L F a0 w0 l0 l a w) {i : Nat} {o : Oper} (hi : i ∈ L) (ho : ops[i]? = some o) (hr : ∀ e ∈ o.after, Region.binds .any e = true → l.getD e.on false = true)
    {v : Value} {w' : World} (hx : R w0 w') (hex : i ≠ s → Ext w w') (hmn : ∀ t, o.dst ≠ some t → ∀ u, (F t).p u w → (F t).p u w') (hv : ∀ d, o.dst = some d → (F d).p v w') (hu : ∀ d, o.dst = some d → a.tmps.size ≤ d → v = undef) :
    Inv R s ops L F a0 w0 l0 (l.setIfInBounds i true) (a.put o.dst v) w' := by
  have hlt : i < ops.size := (Array.getElem?_eq_some_iff.1 ho).1
  have hli : i < l.size := by rw [h.lsize]; exact hlt
  have hone : ∀ j ∈ L, ∀ d, (ops[j]?).bind (·.dst) = some d → o.dst = some d → j = i := by
    intro j hj d h1 h2
    simp only [fitB, Bool.and_eq_true] at hfit
    have hfit := hfit.2
    rw [List.all_eq_true] at hfit
    have hjlt : j < ops.size := by
      rcases Nat.lt_or_ge j ops.size with hh | hh
      · exact hh
      · simp [Array.getElem?_eq_none hh] at h1
    have h3 := hfit j (List.mem_range.2 hjlt)
    rw [List.all_eq_true] at h3
    have h4 := h3 i (List.mem_range.2 hlt)
    simp only [ho, Option.bind_some, h2, h1, Bool.or_eq_true, beq_iff_eq, Bool.not_eq_true', bne_iff_ne, ne_eq, not_true_eq_false, or_false] at h4
    rcases h4 with (h4 | h4) | h4
    · exact h4.symm
    · simp [hi] at h4
    · simp [hj] at h4
  refine ⟨hx, fun hls => ?_, by rw [put_size]; exact h.size, by rw [put_defers']; exact h.defers, by simp [h.lsize], ?_, ?_, ?_, ?_⟩
  · rw [getD_set _ _ _ hli] at hls
    simp only [Bool.or_eq_false_iff, beq_eq_false_iff_ne] at hls
    exact (h.early hls.2).trans (hex (fun e => hls.1 e.symm))
  · intro j oj hoj hlj e he hb
    rw [getD_set _ _ _ hli] at hlj ⊢
    by_cases hji : j = i
    · subst hji
      rw [ho] at hoj
      injection hoj with hoj
      subst hoj
      simp [hr e he hb]
    · simp only [beq_iff_eq, hji, Bool.or_eq_true, false_or] at hlj
      simp [h.closed j oj hoj hlj e he hb]
  · intro j hj
    rw [getD_set _ _ _ hli]
    have hji : j ≠ i := fun e => hj (e ▸ hi)
    simp [hji, h.out j hj]
  · intro j hj hlj t ht
    rw [getD_set _ _ _ hli] at hlj
    by_cases hd : o.dst = some t
    · have := hone j hj t ht hd
      subst this
      rw [hd]
      rcases Nat.lt_or_ge t a.tmps.size with hs | hs
      · rw [put_getD _ _ _ _ hs, if_pos rfl]
        exact hv t hd
      · rw [put_getD_ge _ _ _ _ hs, Array.getD_eq_getD_getElem?, Array.getElem?_eq_none hs, Option.getD_none, ← hu t hd hs]
        exact hv t hd
    · have hji : j ≠ i := by
        intro e
        subst e
        rw [ho, Option.bind_some] at ht
        exact hd ht
      simp only [beq_iff_eq, hji, Bool.or_eq_true, false_or] at hlj
      have hold := hmn t hd _ (h.new j hj hlj t ht)
      cases hdd : o.dst with
      | none => exact hold
      | some d =>
        have hne : t ≠ d := fun e => hd (by rw [hdd, e])
        rcases Nat.lt_or_ge d a.tmps.size with hs | hs
        · rw [put_getD _ _ _ _ hs, if_neg hne]; exact hold
        · rw [put_getD_ge _ _ _ _ hs]; exact hold
  · intro t ht
    have hne : o.dst ≠ some t := by
      intro e
      refine ht i hi ?_ (by rw [ho, Option.bind_some, e])
      rw [getD_set _ _ _ hli]
      simp
    have hold : a.tmps.getD t undef = a0.tmps.getD t undef := h.old t fun j hj hlj => ht j hj (by rw [getD_set _ _ _ hli, hlj]; simp)
    rw [← hold]
    cases hdd : o.dst with
    | none => rfl
    | some d =>
      have hne : t ≠ d := fun e => hne (by rw [hdd, e])
      rcases Nat.lt_or_ge d a.tmps.size with hs | hs
      · rw [put_getD _ _ _ _ hs, if_neg hne]
      · rw [put_getD_ge _ _ _ _ hs]
theorem wpAny_flow_aux {R : World → World → Prop} {s : Nat} (hRE : ∀ w w', Ext w w' → R w w') (hRT : ∀ {a b c}, R a b → R b c → R a c) (hs : s < ops.size) {L : List Nat} {F : Tmp → SP} {C : Array Nat} {a0 : Act} {w0 : World} {l0 : Array Bool} (hC : certB ops C = true) (hfit : fitB ops C l0 L = true) (hdeps : depsB ops l0 L = true)
    (hrg : rangeB ops a0.tmps.size = true) (hnd : L.Nodup) (rest : Nat)
    (hmono : ∀ t, (ops[s]?).bind (·.dst) ≠ some t → ∀ u w w', R w w' → (F t).p u w → (F t).p u w')
    (hop : ∀ i ∈ L, ∀ o, ops[i]? = some o → ∀ a w, Known R s ops C L F a0 w0 i a w → Does (if i = s then R else Ext) P ops Q F o a w)
    (hend : ∀ a w, Ends R ops L F a0 w0 a w → wpAny P .any ops Q rest (marked l0 L) a w) :
    ∀ (m : Nat) (l : Array Bool) (a : Act) (w : World), left l L = m → Inv R s ops L F a0 w0 l0 l a w → wpAny P .any ops Q (m + rest) l a w := by
  have hLlt : ∀ i ∈ L, i < ops.size := by
    intro i hi
    simp only [fitB, Bool.and_eq_true, List.all_eq_true] at hfit
    have := hfit.1.1.2 i hi
    simp only [decide_eq_true_eq] at this
    exact this.1
  have hl0s : l0.size = ops.size := by
    simp only [fitB, Bool.and_eq_true, beq_iff_eq] at hfit
    exact hfit.1.1.1
  intro m
  induction m with
  | zero =>
    intro l a w hm h
    have hall : ∀ i ∈ L, l.getD i false = true := by
      intro i hi
      cases hb : l.getD i false with
      | true => rfl
      | false =>
        have := List.countP_eq_zero.1 hm i hi
        rw [hb] at this
        simp at this
    have hl : l = marked l0 L := by
      apply Array.ext
      · rw [marked_size, h.lsize, hl0s]
      · intro j h1 h2
        have hj := marked_getD L l0 (fun i hi => by rw [hl0s]; exact hLlt i hi) j
        have e1 : l.getD j false = l[j] := by rw [Array.getD_eq_getD_getElem?, Array.getElem?_eq_getElem h1, Option.getD_some]
        have e2 : (marked l0 L).getD j false = (marked l0 L)[j] := by rw [Array.getD_eq_getD_getElem?, Array.getElem?_eq_getElem h2, Option.getD_some]
        rw [← e1, ← e2, hj]
        by_cases hjL : j ∈ L
        · simp [hjL, hall j hjL]
        · simp [hjL, h.out j hjL]
    rw [Nat.zero_add, hl]
    refine hend a w ⟨h.ext, h.size, h.defers, fun j hj t ht => h.new j hj (hall j hj) t ht, fun t ht => h.old t fun j hj _ e => ?_⟩
    rw [List.all_eq_true] at ht
    have := ht j hj
    rw [e] at this
    simp at this
  | succ m ih =>
    intro l a w hm h
    have hun : ∃ i ∈ L, l.getD i false = false ∧ ∀ j ∈ L, j < i → l.getD j false = true := by
      rcases unlisted l L with h1 | h1
      · have : left l L = 0 := by
          unfold left
          rw [List.countP_eq_zero]
          intro i hi
          rw [h1 i hi]
          simp
        omega
      · exact h1
    have hready : ∀ i ∈ Region.ready .any ops l, i ∈ L := by
      intro i hi
      obtain ⟨o, ho, hb, hd⟩ := mem_ready' hi h.lsize
      apply Classical.byContradiction
      intro hnL
      obtain ⟨k, hk, hkb, _⟩ := hun
      have hilt : i < ops.size := (Array.getElem?_eq_some_iff.1 ho).1
      have hb0 : l0.getD i false = false := by rw [← h.out i hnL]; exact hb
      have hbit : (C.getD i 0).testBit k = true := by
        simp only [fitB, Bool.and_eq_true, List.all_eq_true] at hfit
        have h1 := hfit.1.2 i (List.mem_range.2 hilt)
        simp only [hb0, Bool.false_or, Bool.or_eq_true, List.contains_iff_mem, hnL, false_or, List.all_eq_true] at h1
        exact h1 k hk
      have := ahead_listed hC h.closed k (hLlt k hk) i hilt (fun o' ho' e he hbb => by rw [ho] at ho'; injection ho' with ho'; subst ho'; exact hd e he hbb) hbit
      rw [this] at hkb
      cases hkb
    have hne : Region.ready .any ops l ≠ [] := by
      obtain ⟨k, hk, hkb, hmin⟩ := hun
      have hklt := hLlt k hk
      have hmem : k ∈ Region.ready .any ops l := by
        refine mem_ready.2 ⟨?_, ops[k], Array.getElem?_eq_getElem hklt, fun e he hb => ?_⟩
        · have hkl : k < l.size := by rw [h.lsize]; exact hklt
          rw [Array.getD_eq_getD_getElem?, Array.getElem?_eq_getElem hkl, Option.getD_some] at hkb ⊢
          exact hkb
        · simp only [depsB, List.all_eq_true] at hdeps
          have h1 := hdeps k hk
          rw [Array.getElem?_eq_getElem hklt] at h1
          simp only [Option.map_some, Option.getD_some, Array.all_eq_true_iff_forall_mem] at h1
          have h2 := h1 e he
          simp only [hb, Bool.not_true, Bool.false_or, Bool.or_eq_true, Bool.and_eq_true, List.contains_iff_mem, decide_eq_true_eq] at h2
          rcases h2 with h2 | ⟨h2, h3⟩
          · by_cases hel : e.on ∈ L
            · have helt := hLlt e.on hel
              simp only [fitB, Bool.and_eq_true, List.all_eq_true] at hfit
              have h4 := hfit.1.1.2 e.on hel
              simp [h2] at h4
            · rw [h.out e.on hel]; exact h2
          · exact hmin e.on h2 h3
      intro hnil
      rw [hnil] at hmem
      cases hmem
    rw [show m + 1 + rest = (m + rest) + 1 from by omega]
    refine wpAny_fuel_ready hne fun i hi => ?_
    have hiL := hready i hi
    obtain ⟨o, ho, hb, hd⟩ := mem_ready' hi h.lsize
    have hilt : i < ops.size := (Array.getElem?_eq_some_iff.1 ho).1
    have hleft : left (l.setIfInBounds i true) L = m := by
      have h1 := left_set l i (by rw [h.lsize]; exact hilt) L hnd hiL hb
      omega
    have hdstlt : ∀ d, o.dst = some d → d < a0.tmps.size := by
      intro d hd'
      simp only [rangeB, Array.all_eq_true_iff_forall_mem] at hrg
      have := hrg o (Array.mem_of_getElem? ho)
      rw [hd'] at this
      simpa using this
    have hknown : Known R s ops C L F a0 w0 i a w := by
      refine ⟨h.ext, fun hes => h.early ?_, h.size, fun t ht => ?_, fun t ht => ?_⟩
      · rcases hes with rfl | hes
        · exact hb
        · cases hls : l.getD s false with
          | false => rfl
          | true =>
            have := ahead_listed hC h.closed i hilt s hs (fun o' ho' e he hbb => h.closed s o' ho' hls e he hbb) hes
            rw [hb] at this; cases this
      · simp only [depB, List.any_eq_true, Bool.and_eq_true, beq_iff_eq] at ht
        obtain ⟨j, hj, hbit, hdst⟩ := ht
        exact h.new j hj (ahead_listed hC h.closed j (hLlt j hj) i hilt (fun o' ho' e he hbb => by rw [ho] at ho'; injection ho' with ho'; subst ho'; exact hd e he hbb) hbit) t hdst
      · refine h.old t fun j hj hlj hdst => ?_
        simp only [oldB, List.all_eq_true] at ht
        have h1 := ht j hj
        simp only [hdst, bne_self_eq_false, Bool.false_or, Bool.or_eq_true, beq_iff_eq] at h1
        rcases h1 with rfl | h1
        · rw [hb] at hlj; cases hlj
        · have hjlt := hLlt j hj
          have := ahead_listed hC h.closed i hilt j hjlt (fun o' ho' e he hbb => h.closed j o' ho' hlj e he hbb) h1
          rw [hb] at this; cases this
    have hdoes := hop i hiL o ho a w hknown
    unfold wpOp
    rw [ho]
    unfold Does at hdoes
    show if Region.wanted o (yielded ops a.tmps) = true then _ else _
    split
    · rename_i hw
      rw [if_pos hw] at hdoes
      refine .inl (Oper.wp_mono (fun a' w' hk => ?_) hdoes)
      obtain ⟨v, rfl, hx, hv⟩ := hk
      have hxR : R w w' := by
        split at hx
        · exact hx
        · exact hRE _ _ hx
      refine ih _ _ _ hleft (h.step hfit hiL ho hd (hRT h.ext hxR) (fun hne => by rw [if_neg hne] at hx; exact hx) (fun t ht u hu => ?_) hv fun d hd' hge => absurd (hdstlt d hd') (Nat.not_lt.2 (h.size ▸ hge)))
      by_cases his : i = s
      · subst his
        exact hmono t (by rw [ho]; exact ht) u _ _ hxR hu
      · rw [if_neg his] at hx
        exact (F t).mono _ _ _ hx hu
    · rename_i hw
      rw [if_neg hw] at hdoes
      exact ih _ _ _ hleft (h.step hfit hiL ho hd h.ext (fun _ => Ext.refl w) (fun t ht u hu => hu) hdoes fun d hd' hge => rfl)
theorem wpAny_flow {R : World → World → Prop} {s : Nat} (hRE : ∀ w w', Ext w w' → R w w') (hRT : ∀ {a b c}, R a b → R b c → R a c) (hs : s < ops.size) {L : List Nat} {F : Tmp → SP} {C : Array Nat} {a0 : Act} {w0 : World} {l0 : Array Bool} (hC : certB ops C = true) (hcl : closedB ops l0 = true) (hfit : fitB ops C l0 L = true) (hdeps : depsB ops l0 L = true)
    (hrg : rangeB ops a0.tmps.size = true) (hnd : L.Nodup) (rest : Nat)
    (hmono : ∀ t, (ops[s]?).bind (·.dst) ≠ some t → ∀ u w w', R w w' → (F t).p u w → (F t).p u w')
    (hop : ∀ i ∈ L, ∀ o, ops[i]? = some o → ∀ a w, Known R s ops C L F a0 w0 i a w → Does (if i = s then R else Ext) P ops Q F o a w)
    (hend : ∀ a w, Ends R ops L F a0 w0 a w → wpAny P .any ops Q rest (marked l0 L) a w) : wpAny P .any ops Q (L.length + rest) l0 a0 w0 := by
  have hl0 : ∀ i ∈ L, l0.getD i false = false := by
    intro i hi
    simp only [fitB, Bool.and_eq_true, List.all_eq_true] at hfit
    have := hfit.1.1.2 i hi
    simp only [Bool.not_eq_true'] at this
    exact this.2
  have hl0s : l0.size = ops.size := by
    simp only [fitB, Bool.and_eq_true, beq_iff_eq] at hfit
    exact hfit.1.1.1
  have hleft : left l0 L = L.length := by
    unfold left
    rw [List.countP_eq_length]
    intro i hi
    rw [hl0 i hi]; rfl
  refine wpAny_flow_aux hRE hRT hs hC hfit hdeps hrg hnd rest hmono hop hend L.length l0 a0 w0 hleft ⟨hRE _ _ (Ext.refl _), fun _ => Ext.refl _, rfl, rfl, hl0s, ?_, fun _ _ => rfl, fun j hj hlj => ?_, fun _ _ => rfl⟩
  · intro j o ho hlj e he hb
    have hjlt : j < ops.size := (Array.getElem?_eq_some_iff.1 ho).1
    simp only [closedB, List.all_eq_true] at hcl
    have h1 := hcl j (List.mem_range.2 hjlt)
    rw [ho] at h1
    simp only [hlj, Bool.not_true, Bool.false_or, Option.map_some, Option.getD_some, Array.all_eq_true_iff_forall_mem, Bool.or_eq_true, Bool.not_eq_true'] at h1
    rcases h1 e he with h2 | h2
    · rw [hb] at h2; cases h2
    · exact h2
  · rw [hl0 j hj] at hlj; cases hlj
theorem wp_region_flow_tail {R : World → World → Prop} {s : Nat} (hRE : ∀ w w', Ext w w' → R w w') (hRT : ∀ {a b c}, R a b → R b c → R a c) (hs : s < ops.size) {id : Nat} {F : Tmp → SP} (C : Array Nat) (m : Nat) {a0 : Act} {w0 : World} (hm : P.follows .mixedOrders = true) (hmn : m ≤ ops.size) (hC : certB ops C = true) (ht : tailB ops C m = true)
    (hfit : fitB ops C (Array.replicate ops.size false) (List.range m) = true) (hdeps : depsB ops (Array.replicate ops.size false) (List.range m) = true) (hrg : rangeB ops a0.tmps.size = true)
    (hmono : ∀ t, (ops[s]?).bind (·.dst) ≠ some t → ∀ u w w', R w w' → (F t).p u w → (F t).p u w')
    (hop : ∀ i, i < m → ∀ o, ops[i]? = some o → ∀ a w, Known R s ops C (List.range m) F a0 { w0 with drawn := w0.drawn + 1 } i a w → Does (if i = s then R else Ext) P ops Q F o a w)
    (hend : ∀ a w, Ends R ops (List.range m) F a0 { w0 with drawn := w0.drawn + 1 } a w → wpList P ops Q (ops.toList.drop m) a w) : (Code.region id ops true).wp P Q a0 w0 := by
  refine wp_region_any hm ?_
  have h := wpAny_flow hRE hRT hs (P := P) (Q := Q) (ops := ops) (L := List.range m) (F := F) (C := C) (a0 := a0) (w0 := { w0 with drawn := w0.drawn + 1 }) (l0 := Array.replicate ops.size false) hC ?_ hfit hdeps hrg List.nodup_range (ops.size - m) hmono
    (fun i hi o ho a w hk => hop i (List.mem_range.1 hi) o ho a w hk) ?_
  · simpa [show m + (ops.size - m) = ops.size from by omega] using h
  · simp only [closedB, List.all_eq_true]
    intro j _
    have : (Array.replicate ops.size false).getD j false = false := by
      rw [Array.getD_eq_getD_getElem?, Array.getElem?_replicate]
      split <;> rfl
    rw [this]; rfl
  · intro a w he
    rw [marked_range _ _ hmn]
    exact wpAny_tail hC ht _ m (by omega) (Nat.le_refl _) a w (hend a w he)
theorem Ends.out {R : World → World → Prop} {L : List Nat} {F : Tmp → SP} {a0 : Act} {w0 : World} {a : Act} {w : World} (h : Ends R ops L F a0 w0 a w) (ds : List Nat) (hd : (L.filterMap fun j => (ops[j]?).bind (·.dst)) = ds) :
    ∃ us : Nat → Value, a = ⟨(fillL ds us 0 a0.tmps.toList).toArray, a0.defers⟩ ∧ ∀ t ∈ ds, (F t).p (us t) w := by
  refine ⟨fun t => a.tmps.getD t undef, ?_, fun t ht => ?_⟩
  · obtain ⟨tmps, defers⟩ := a
    have h1 := h.size
    have h2 := h.defers
    have h3 := h.old
    simp only at h1 h2 h3
    subst h2
    congr 1
    apply Array.ext
    · simp [fillL_length, h1]
    · intro j j1 j2
      have e : (fillL ds (fun t => tmps.getD t undef) 0 a0.tmps.toList)[j]? = some tmps[j] := by
        rw [fillL_get, Nat.zero_add]
        have hj : j < a0.tmps.size := by rw [← h1]; exact j1
        rw [Array.getElem?_toList, Array.getElem?_eq_getElem hj, Option.map_some]
        have e1 : tmps.getD j undef = tmps[j] := by rw [Array.getD_eq_getD_getElem?, Array.getElem?_eq_getElem j1, Option.getD_some]
        by_cases hc : ds.contains j = true
        · rw [if_pos hc, e1]
        · rw [if_neg hc]
          have h4 := h3 j (by
            rw [List.all_eq_true]
            intro q hq
            rw [bne_iff_ne]
            intro he
            apply hc
            rw [List.contains_iff_mem, ← hd]
            exact List.mem_filterMap.2 ⟨q, hq, he⟩)
          rw [e1, Array.getD_eq_getD_getElem?, Array.getElem?_eq_getElem hj, Option.getD_some] at h4
          rw [h4]
      rw [List.getElem_toArray]
      have := (List.getElem?_eq_some_iff.1 e).2
      exact this.symm
  · rw [← hd] at ht
    obtain ⟨j, hj, hjd⟩ := List.mem_filterMap.1 ht
    exact h.new j hj t hjd
def OpsDo (R : World → World → Prop) (s : Nat) (P : Program) (ops : Array Oper) (Q : Exit → Act → World → Prop) (C : Array Nat) (L : List Nat) (F : Tmp → SP) (a0 : Act) (w0 : World) : Nat → List Oper → Prop
  | _, [] => True
  | i, o :: l => (∀ a w, Known R s ops C L F a0 w0 i a w → Does (if i = s then R else Ext) P ops Q F o a w) ∧ OpsDo R s P ops Q C L F a0 w0 (i + 1) l
theorem OpsDo.at_ {R : World → World → Prop} {s : Nat} {C : Array Nat} {L : List Nat} {F : Tmp → SP} {a0 : Act} {w0 : World} : ∀ (l : List Oper) (k : Nat), OpsDo R s P ops Q C L F a0 w0 k l → ∀ i o, l[i]? = some o → ∀ a w, Known R s ops C L F a0 w0 (k + i) a w → Does (if k + i = s then R else Ext) P ops Q F o a w
  | [], _, _, i, o, h => by simp at h
  | x :: l, k, h, 0, o, ho => by
    intro a w hk
    obtain rfl : x = o := by simpa using ho
    exact h.1 a w hk
  | x :: l, k, h, i + 1, o, ho => by
    intro a w hk
    have := OpsDo.at_ l (k + 1) h.2 i o (by simpa using ho) a w (by rw [Nat.add_right_comm]; exact hk)
    rw [Nat.add_right_comm] at this; exact this
theorem wp_region_flow_l {R : World → World → Prop} (s : Nat) (hRE : ∀ w w', Ext w w' → R w w') (hRT : ∀ {a b c}, R a b → R b c → R a c) {id : Nat} (F : Tmp → SP) (m : Nat) {a0 : Act} {w0 : World} (hm : P.follows .mixedOrders = true) (n : Nat) (hn : a0.tmps.size = n) (hB : flowB ops m n = true)
    (hs : s < ops.size) (hmono : ∀ t, (ops[s]?).bind (·.dst) ≠ some t → ∀ u w w', R w w' → (F t).p u w → (F t).p u w')
    (hop : OpsDo R s P ops Q (Region.before ops) (List.range m) F a0 w0.drew 0 (ops.toList.take m))
    (hend : ∀ a w, Ends R ops (List.range m) F a0 w0.drew a w → wpList P ops Q (ops.toList.drop m) a w) : (Code.region id ops true).wp P Q a0 w0 := by
  simp only [flowB, Bool.and_eq_true, decide_eq_true_eq] at hB
  obtain ⟨⟨⟨⟨⟨h1, h2⟩, h3⟩, h4⟩, h5⟩, h6⟩ := hB
  exact wp_region_flow_tail hRE hRT hs (Region.before ops) m hm h1 h2 h3 h4 h5 (by rw [hn]; exact h6) hmono (fun i hi o ho a w hk => by have := OpsDo.at_ (ops.toList.take m) 0 hop i o (by rw [List.getElem?_take]; simpa [hi] using ho) a w (by rw [Nat.zero_add]; exact hk); rw [Nat.zero_add] at this; exact this) hend
theorem does_intro {Rl : World → World → Prop} {F : Tmp → SP} {o : Oper} {a : Act} {w : World} (hg : Region.wanted o (yielded ops a.tmps) = true)
    (h : ∀ K : Act → World → Prop, (∀ v w', Rl w w' → (∀ d, o.dst = some d → (F d).p v w') → K (a.put o.dst v) w') → o.wp P a w K Q) : Does Rl P ops Q F o a w := by
  unfold Does
  rw [if_pos hg]
  exact h _ fun v w' h1 h2 => ⟨v, rfl, h1, h2⟩
end FlowS
end Go.Proofs.Ytgkgedjmnbjalaa
set_option linter.unusedSimpArgs false
namespace Go.Proofs.Ytgkgedjmnbjalaa
open Go.RowKit Go.Sort
theorem setL_facts {l : List T} {x : T} (h : Srt l) : Srt (setL l x) ∧ kid (setL l x) (stepT x) = some x ∧ (∀ y ∈ setL l x, y = x ∨ y ∈ l) := by
  cases hk : kid l (stepT x) with
  | none =>
    obtain ⟨pre, suf, e, h1, h2, h3, h4⟩ := setL_new h hk
    rw [h1]
    refine ⟨h4, kid_at (fun p hp => less_ne (h2 p hp)) rfl, fun y hy => ?_⟩
    subst e
    simp at hy ⊢
    rcases hy with h | h | h
    · exact .inr (.inl h)
    · exact .inl h
    · exact .inr (.inr h)
  | some k =>
    obtain ⟨pre, suf, e, h1, h2, h3⟩ := setL_old hk
    rw [h1]
    subst e
    refine ⟨(srt_split h).2.2.2 x h2.symm, kid_at h3 rfl, fun y hy => ?_⟩
    simp at hy ⊢
    rcases hy with h | h | h
    · exact .inr (.inl h)
    · exact .inl h
    · exact .inr (.inr (.inr h))
theorem cutL_facts {l : List T} {s : Step} (h : Srt l) : Srt (cutL l s) ∧ kid (cutL l s) s = none ∧ (∀ y ∈ cutL l s, y ∈ l) := by
  cases hk : kid l s with
  | none =>
    have : cutL l s = l := by
      have := cut_pre (kid_none.1 hk) []
      simpa [cutL] using this
    rw [this]
    exact ⟨h, hk, fun y hy => hy⟩
  | some k =>
    obtain ⟨pre, suf, e, h2, h3⟩ := kid_some hk
    subst e
    rw [cut_at h3 h2]
    obtain ⟨h4, h5, h6, _⟩ := srt_split h
    refine ⟨h6, kid_none.2 fun y hy => ?_, fun y hy => by simp at hy ⊢; rcases hy with h | h; exact .inl h; exact .inr (.inr h)⟩
    rcases List.mem_append.1 hy with hy | hy
    · exact h3 y hy
    · rw [← h2]; exact (less_ne (h5 y hy)).symm
theorem repL_facts {l : List T} {s : Step} {k x : T} (h : Srt l) (hk : kid l s = some k) (hx : stepT x = s) : Srt (repL l s x) ∧ kid (repL l s x) s = some x ∧ (∀ y ∈ repL l s x, y = x ∨ y ∈ l) ∧ (∀ y, repL (repL l s x) s y = repL l s y) ∧ repL l s k = l := by
  obtain ⟨pre, suf, e, h2, h3⟩ := kid_some hk
  subst e
  rw [rep_at h3 h2]
  refine ⟨(srt_split h).2.2.2 x (hx.trans h2.symm), kid_at h3 hx, fun y hy => ?_, fun y => by rw [rep_at h3 hx, rep_at h3 h2], rep_at h3 h2⟩
  simp at hy ⊢
  rcases hy with h | h | h
  · exact .inr (.inl h)
  · exact .inl h
  · exact .inr (.inr (.inr h))
theorem right_wk {t : T} {l : List T} (h : rightT t = true) (h0 : t.kind = 0) (h1 : ∀ x ∈ l, rightT x = true) (h2 : Srt l) : rightT (t.wk l) = true :=
  (right_box (t := t.wk l) h0).2 ⟨((right_box h0).1 h).1, ((right_box h0).1 h).2.1, h1, h2⟩
theorem right_has {t x : T} {s : Step} (h : rightT t = true) (hk : kid t.kids s = some x) : t.kind = 0 ∧ rightT x = true ∧ Srt t.kids ∧ stepT x = s := by
  obtain ⟨pre, suf, e, h2, h3⟩ := kid_some hk
  have hx : x ∈ t.kids := by rw [e]; simp
  obtain ⟨h0, h1⟩ := right_kid' h hx
  exact ⟨h0, h1, ((right_box h0).1 h).2.2.2, h2⟩
theorem setR_right : ∀ (way : List Step) (n x m : T), rightT n = true → rightT x = true → setR n way x = (m, 0) → rightT m = true ∧ stepT m = stepT n ∧ m.kind = n.kind
  | [], n, x, m, _, _, h => by simp [setR] at h
  | [s], n, x, m, hn, hx, h => by
    rw [setR_one] at h
    split at h
    · split at h
      · simp at h
      · rename_i h1 h2
        have h0 : n.kind = 0 := Classical.byContradiction h2
        simp at h
        subst h
        obtain ⟨a1, a2, a3, a4⟩ := (right_box h0).1 hn
        obtain ⟨b1, b2, b3⟩ := setL_facts (x := x) a4
        refine ⟨right_wk hn h0 (fun y hy => ?_) b1, rfl, rfl⟩
        rcases b3 y hy with rfl | hy
        · exact hx
        · exact a3 y hy
    · simp at h
  | s :: q :: r, n, x, m, hn, hx, h => by
    rw [setR_cons] at h
    split at h
    · cases hk : kid n.kids s with
      | none => rw [hk] at h; simp at h
      | some k =>
        rw [hk] at h
        simp only at h
        obtain ⟨h0, h1, h2, h3⟩ := right_has hn hk
        by_cases hz : (setR k (q :: r) x).2 = 0
        · rw [if_pos hz] at h
          simp at h
          subst h
          obtain ⟨e1, e2, e3⟩ := setR_right (q :: r) k x _ h1 hx (Prod.ext rfl hz)
          obtain ⟨f1, f2, f3, _⟩ := repL_facts h2 hk (e2.trans h3)
          refine ⟨right_wk hn h0 (fun y hy => ?_) f1, rfl, rfl⟩
          rcases f3 y hy with rfl | hy
          · exact e1
          · exact ((right_box h0).1 hn).2.2.1 y hy
        · rw [if_neg hz] at h; rw [h] at hz; exact absurd rfl hz
    · simp at h
theorem cutR_right : ∀ (way : List Step) (n m : T), rightT n = true → cutR n way = (m, 0) → rightT m = true ∧ stepT m = stepT n ∧ m.kind = n.kind
  | [], n, m, _, h => by simp [cutR] at h
  | [s], n, m, hn, h => by
    rw [cutR_one] at h
    cases hk : kid n.kids s with
    | none => rw [hk] at h; simp at h
    | some k =>
      rw [hk] at h
      simp at h
      subst h
      obtain ⟨h0, h1, h2, h3⟩ := right_has hn hk
      obtain ⟨b1, b2, b3⟩ := cutL_facts (s := s) h2
      exact ⟨right_wk hn h0 (fun y hy => ((right_box h0).1 hn).2.2.1 y (b3 y hy)) b1, rfl, rfl⟩
  | s :: q :: r, n, m, hn, h => by
    rw [cutR_cons] at h
    cases hk : kid n.kids s with
    | none => rw [hk] at h; simp at h
    | some k =>
      rw [hk] at h
      simp only at h
      obtain ⟨h0, h1, h2, h3⟩ := right_has hn hk
      by_cases hz : (cutR k (q :: r)).2 = 0
      · rw [if_pos hz] at h
        simp at h
        subst h
        obtain ⟨e1, e2, e3⟩ := cutR_right (q :: r) k _ h1 (Prod.ext rfl hz)
        obtain ⟨f1, f2, f3, _⟩ := repL_facts h2 hk (e2.trans h3)
        refine ⟨right_wk hn h0 (fun y hy => ?_) f1, rfl, rfl⟩
        rcases f3 y hy with rfl | hy
        · exact e1
        · exact ((right_box h0).1 hn).2.2.1 y hy
      · rw [if_neg hz] at h; rw [h] at hz; exact absurd rfl hz
theorem oneT_right {n m : T} {e : E} (hn : rightT n = true) (he : e.kind ≠ 2 → rightT e.node = true) (h : oneT n e = (m, 0)) : rightT m = true ∧ stepT m = stepT n ∧ m.kind = n.kind := by
  unfold oneT at h
  split at h
  · simp at h
  · split at h
    · rename_i h1
      split at h
      · simp at h
      · exact setR_right _ _ _ _ hn (he (by omega)) h
    · split at h
      · simp at h
      · split at h
        · simp at h
        · split at h
          · exact cutR_right _ _ _ hn h
          · split at h
            · simp at h
            · rename_i h1 _ _ _ h2 _
              exact setR_right _ _ _ _ hn (he h2) h
end Go.Proofs.Ytgkgedjmnbjalaa
