/- What stands at the end of names can be written over: the plain law, and what of it lies where in memory.
   Conditions: none. -/
import Derived.Test.YtgkgedjmnbjalaaSqB
set_option linter.unusedSimpArgs false
namespace Go.Proofs.Ytgkgedjmnbjalaa
open Go.RowKit Go.Sort

abbrev nEdge : ByteArray := ⟨#[101, 100, 103, 101]⟩
/-- The kids' names are apart; names are none, or three and the first is edge; a leaf has no kids, all else has some. -/
def OwnP (s : Sp) : Bool := decide (s.kids.map Sp.name).Nodup && (s.names.isEmpty || (decide (s.names.length = 3) && decide (s.names[0]? = some nEdge))) && (decide (s.kind = 1) == s.kids.isEmpty)
def ownB : Nat → Sp → Bool
  | 0, _ => false
  | n + 1, s => OwnP s && s.kids.all (ownB n)

theorem ownp_at {x : Sp} : ∀ (n : Nat) (l : List ByteArray) (a : Sp), ownB n a = true → atSp a l = some x → OwnP x = true
  | 0, _, _, h, _ => by simp [ownB] at h
  | n + 1, l, a, h, hx => by
    rw [ownB, Bool.and_eq_true] at h
    cases l with
    | nil =>
      simp only [atSp, Option.some.injEq] at hx
      subst hx
      exact h.1
    | cons m l =>
      rcases atSp_some a m l with ⟨_, hno⟩ | ⟨i, k, hf, hk, hyes⟩
      · rw [hno] at hx; cases hx
      · rw [hyes] at hx
        exact ownp_at n l k (List.all_eq_true.1 h.2 k (List.mem_of_getElem? hk)) hx
theorem own0 : ownB 6 (rootSp 0) = true := by decide +kernel
theorem own1 : ownB 6 (rootSp 1) = true := by decide +kernel
theorem own2 : ownB 6 (rootSp 2) = true := by decide +kernel

/-- Either something stands there, and it is well; or nothing is told. -/
theorem own_law (v : Int) (l : List ByteArray) : (∃ x, specAt v l = (x, 0) ∧ OwnP x = true) ∨ ∃ e : Int, e ≠ 0 ∧ specAt v l = (zeroSp, e) := by
  by_cases hr : v < 1 ∨ 3 < v
  · right
    have h : specRoot v = (zeroSp, 28) := by unfold specRoot; rw [if_pos hr]
    exact ⟨28, by decide, by rw [specAt_err v l (by rw [h]; decide), h]⟩
  · have key : ∀ r, specRoot v = (r, 0) → ownB 6 r = true → (∃ x, specAt v l = (x, 0) ∧ OwnP x = true) ∨ ∃ e : Int, e ≠ 0 ∧ specAt v l = (zeroSp, e) := by
      intro r h1 h2
      rw [specAt_of h1]
      cases ha : atSp r l with
      | none => exact .inr ⟨22, by decide, rfl⟩
      | some k => exact .inl ⟨k, rfl, ownp_at 6 l r h2 ha⟩
    have hv : v = 1 ∨ v = 2 ∨ v = 3 := by omega
    rcases hv with rfl | rfl | rfl
    · exact key (rootSp 0) rfl own0
    · exact key (rootSp 1) rfl own1
    · exact key (rootSp 2) rfl own2

theorem OwnP.apart {s : Sp} (h : OwnP s = true) {i k : Nat} {x y : Sp} (hx : s.kids[i]? = some x) (hy : s.kids[k]? = some y) (hne : k < i) : x.name ≠ y.name := by
  simp only [OwnP, Bool.and_eq_true, decide_eq_true_eq] at h
  have hn := h.1.1
  intro he
  have hi : (s.kids.map Sp.name)[i]? = some x.name := by simp [hx]
  have hk : (s.kids.map Sp.name)[k]? = some x.name := by simp [hy, he]
  obtain ⟨h1, h2⟩ := List.getElem?_eq_some_iff.1 hi
  obtain ⟨h3, h4⟩ := List.getElem?_eq_some_iff.1 hk
  have := (List.pairwise_iff_getElem.1 hn) k i h3 h1 hne
  rw [h2, h4] at this
  exact this rfl
theorem OwnP.three {s : Sp} (h : OwnP s = true) (hn : s.names ≠ []) : s.names.length = 3 ∧ s.names[0]? = some nEdge := by
  simp only [OwnP, Bool.and_eq_true, decide_eq_true_eq, Bool.or_eq_true, List.isEmpty_iff] at h
  rcases h.1.2 with h | h
  · exact absurd h hn
  · exact h
theorem OwnP.leaf {s : Sp} (h : OwnP s = true) : (s.kind == 1) = (((s.kids.length : Nat) : Int) == 0) := by
  simp only [OwnP, Bool.and_eq_true] at h
  have h2 := h.2
  rw [beq_iff_eq] at h2
  rw [show (s.kind == 1) = decide (s.kind = 1) from rfl, h2]
  cases hk : s.kids with
  | nil => rfl
  | cons a l => simp; omega

/-- Where a spec's rows lie. -/
theorem RepS.own {base : Nat} {w : World} {s : Sp} {c : List Value} (h : RepS 27 base w s c) : ∃ N nc K kc, c = cSpec s.name s.kind s.ty s.mn s.mx N s.names.length nc s.must s.most K s.kids.length kc ∧ s.kids.length ≤ 100 ∧ s.names.length ≤ 100 ∧
    (s.names ≠ [] → ∃ b cs, N = some ⟨b, 0, none⟩ ∧ base ≤ b ∧ Blk w b cs 9 ∧ ∀ (i : Nat) (x : ByteArray), s.names[i]? = some x → cs[i]? = some (Value.string x)) ∧
    (s.kids ≠ [] → ∃ b cs, K = some ⟨b, 0, none⟩ ∧ base ≤ b ∧ Blk w b cs 27 ∧ s.kids.length * 9 ≤ cs.length ∧ ∀ (i : Nat) (k : Sp), s.kids[i]? = some k → cs[i * 9]? = some (Value.string k.name)) := by
  cases h with
  | mk nm kind ty mn mx names must most kids N nc K kc css hN hK h9 hl hr hb =>
    refine ⟨N, nc, K, kc, rfl, hb.2, hb.1, fun hn => ?_, fun hn => ?_⟩
    · obtain ⟨b, sp, h1, h2, h3⟩ := hN hn
      refine ⟨b, _, h1, h2 rfl, h3, fun i x hi => ?_⟩
      have hi' : names[i]? = some x := hi
      rw [List.getElem?_append_left (by simpa using (List.getElem?_eq_some_iff.1 hi').1), List.getElem?_map, hi']
      rfl
    · obtain ⟨b, sp, h1, h2, h3⟩ := hK hn
      have hlen : ∀ l : List (List Value), (∀ c ∈ l, c.length = 9) → l.flatten.length = l.length * 9 := by
        intro l
        induction l with
        | nil => intro _; rfl
        | cons x l ih =>
          intro hx
          rw [List.flatten_cons, List.length_append, ih (fun c hc => hx c (List.mem_cons_of_mem _ hc)), hx x List.mem_cons_self, List.length_cons]
          omega
      refine ⟨b, _, h1, h2, h3, ?_, fun i k hi => ?_⟩
      · rw [List.length_append, hlen css h9, hl]
        exact Nat.le_add_right _ _
      · have hi' : kids[i]? = some k := hi
        have hlt : i < css.length := by rw [hl]; exact (List.getElem?_eq_some_iff.1 hi').1
        have hci := List.getElem?_eq_getElem hlt
        obtain ⟨kind', ty', mn', mx', N', nl', nc', must', most', K', kc', he⟩ := (hr i k _ hi' hci).form
        have h4 := flatten_get css h9 i _ hci 0 (.string k.name) (by rw [he]; rfl)
        rw [Nat.add_zero] at h4
        rw [List.getElem?_append_left (List.getElem?_eq_some_iff.1 h4).1]
        exact h4

/-- One block (if any) has been written over; all others are as they were. -/
structure Wr (base : Nat) (w w' : World) (g : Option Nat) (t : TypeId) (n : Nat) : Prop where
  grown : w.grownBy w' g
  own : ∀ x, g = some x → base ≤ x ∧ (∃ cs, Blk w x cs t) ∧ ∃ cs, Blk w' x cs t ∧ n ≤ cs.length
theorem Wr.refl {base : Nat} {w w' : World} {g : Option Nat} {t : TypeId} {n : Nat} (hx : Ext w w') (h : ∀ x, g = some x → base ≤ x ∧ ∃ cs, Blk w x cs t ∧ n ≤ cs.length) : Wr base w w' g t n :=
  ⟨⟨hx.os, hx.tape, hx.output, hx.size, fun k hk _ => hx.block k hk⟩, fun x hg => by
    obtain ⟨h1, cs, h2, h3⟩ := h x hg
    exact ⟨h1, ⟨cs, h2⟩, cs, h2.ext hx, h3⟩⟩
theorem Wr.blk {base : Nat} {w w' : World} {g : Option Nat} {t : TypeId} {n : Nat} (h : Wr base w w' g t n) {k : Nat} {cs : List Value} {u : TypeId} (hb : Blk w k cs u) (hne : g ≠ some k) : Blk w' k cs u :=
  (h.grown.block k hb.lt (fun e => hne e.symm)).trans hb
theorem Wr.blk_ty {base : Nat} {w w' : World} {g : Option Nat} {t : TypeId} {n : Nat} (h : Wr base w w' g t n) {k : Nat} {cs : List Value} {u : TypeId} (hb : Blk w k cs u) (hne : u ≠ t) : Blk w' k cs u :=
  h.blk hb fun e => by
    obtain ⟨_, ⟨ds, hd⟩, _⟩ := h.own k e
    exact hne (hb.ty hd)
theorem Wr.below {base : Nat} {w w' : World} {g : Option Nat} {t : TypeId} {n : Nat} (h : Wr base w w' g t n) (hb : base ≤ w.heap.size) : Below base w w' :=
  ⟨h.grown.os, h.grown.tape, h.grown.output, h.grown.size, fun k hk => h.grown.block k (by omega) fun e => by have := (h.own k e.symm).1; omega⟩
theorem Wr.upd {base : Nat} {w w' w2 : World} {b : Nat} {t : TypeId} {n : Nat} (h : Wr base w w' (some b) t n) (hu : Upd w' w2 b) (hb : ∃ cs, Blk w2 b cs t ∧ n ≤ cs.length) : Wr base w w2 (some b) t n := by
  refine ⟨⟨hu.os.trans h.grown.os, hu.tape.trans h.grown.tape, hu.output.trans h.grown.output, by rw [hu.size]; exact h.grown.size, fun k hk hne => (hu.block k (fun e => hne (by rw [e]))).trans (h.grown.block k hk hne)⟩, fun x hx => ?_⟩
  obtain ⟨h1, h2, _⟩ := h.own x hx
  cases hx
  exact ⟨h1, h2, hb⟩
theorem SRow.below {B : Nat} {w w' : World} (hx : Below B w w') (hB : w.heap.size ≤ B) {A : Option Addr} {l : List ByteArray} (h : SRow w A l) : SRow w' A l := fun i x hi => by
  obtain ⟨b, off, h1, h2⟩ := h i x hi
  exact ⟨b, off, h1, (Below.cell hx (by have := World.block_lt_of_cell? w _ h2; simp only at this ⊢; omega)).trans h2⟩

/-- A row of one's own: where it lies, if it holds anything. -/
structure OwnRow (base : Nat) (w : World) (K : Option Addr) (n len : Nat) (t : TypeId) (g : Option Nat) : Prop where
  own : ∀ x, g = some x → base ≤ x ∧ ∃ cs, Blk w x cs t ∧ len ≤ cs.length
  some_ : 0 < n → ∃ b, g = some b ∧ K = some ⟨b, 0, none⟩
  none_ : n = 0 → g = none
theorem RepS.own2 {base : Nat} {w : World} {s : Sp} {c : List Value} (h : RepS 27 base w s c) : ∃ N nc K kc gN gK, c = cSpec s.name s.kind s.ty s.mn s.mx N s.names.length nc s.must s.most K s.kids.length kc ∧ s.kids.length ≤ 100 ∧ s.names.length ≤ 100 ∧
    OwnRow base w N s.names.length s.names.length 9 gN ∧ (∀ i x, s.names[i]? = some x → ∃ b, N = some ⟨b, 0, none⟩ ∧ w.cell? ⟨b, i, none⟩ = some (.string x)) ∧
    OwnRow base w K s.kids.length (s.kids.length * 9) 27 gK ∧ (∀ i k, s.kids[i]? = some k → ∃ b, K = some ⟨b, 0, none⟩ ∧ w.cell? ⟨b, i * 9, none⟩ = some (.string k.name)) := by
  obtain ⟨N, nc, K, kc, hc, hk, hn, hN, hK⟩ := h.own
  have h1 : ∃ gN, OwnRow base w N s.names.length s.names.length 9 gN ∧ (∀ i x, s.names[i]? = some x → ∃ b, N = some ⟨b, 0, none⟩ ∧ w.cell? ⟨b, i, none⟩ = some (.string x)) := by
    by_cases he : s.names = []
    · refine ⟨none, ⟨fun _ h => (by cases h), fun h => (by simp [he] at h), fun _ => rfl⟩, fun i x hi => by simp [he] at hi⟩
    · obtain ⟨b, cs, h1, h2, h3, h4⟩ := hN he
      have hpos := List.length_pos_iff.2 he
      refine ⟨some b, ⟨fun x hx => (?_ : base ≤ x ∧ ∃ cs, Blk w x cs 9 ∧ s.names.length ≤ cs.length), fun _ => ⟨b, rfl, h1⟩, fun h => (by omega)⟩, fun i x hi => ⟨b, h1, by rw [h3.cell]; exact h4 i x hi⟩⟩
      cases hx
      refine ⟨h2, cs, h3, ?_⟩
      have h5 := h4 (s.names.length - 1) _ (List.getElem?_eq_getElem (by omega))
      have := (List.getElem?_eq_some_iff.1 h5).1
      omega
  have h2 : ∃ gK, OwnRow base w K s.kids.length (s.kids.length * 9) 27 gK ∧ (∀ i k, s.kids[i]? = some k → ∃ b, K = some ⟨b, 0, none⟩ ∧ w.cell? ⟨b, i * 9, none⟩ = some (.string k.name)) := by
    by_cases he : s.kids = []
    · refine ⟨none, ⟨fun _ h => (by cases h), fun h => (by simp [he] at h), fun _ => rfl⟩, fun i x hi => by simp [he] at hi⟩
    · obtain ⟨b, cs, h1, h2, h3, h4, h5⟩ := hK he
      have hpos := List.length_pos_iff.2 he
      exact ⟨some b, ⟨fun x hx => (by cases hx; exact ⟨h2, cs, h3, h4⟩), fun _ => ⟨b, rfl, h1⟩, fun h => (by omega)⟩, fun i x hi => ⟨b, h1, by rw [h3.cell]; exact h5 i x hi⟩⟩
  obtain ⟨gN, a1, a2⟩ := h1
  obtain ⟨gK, b1, b2⟩ := h2
  exact ⟨N, nc, K, kc, gN, gK, hc, hk, hn, a1, a2, b1, b2⟩
theorem OwnRow.ext {base : Nat} {w w' : World} {K : Option Addr} {n len : Nat} {t : TypeId} {g : Option Nat} (hx : Ext w w') (h : OwnRow base w K n len t g) : OwnRow base w' K n len t g :=
  ⟨fun x hg => by obtain ⟨h1, cs, h2, h3⟩ := h.own x hg; exact ⟨h1, cs, h2.ext hx, h3⟩, h.some_, h.none_⟩
theorem OwnRow.wr {base b2 : Nat} {w w' : World} {K : Option Addr} {n len m : Nat} {t u : TypeId} {g g' : Option Nat} (hw : Wr b2 w w' g' u m) (hne : t ≠ u) (h : OwnRow base w K n len t g) : OwnRow base w' K n len t g :=
  ⟨fun x hg => by obtain ⟨h1, cs, h2, h3⟩ := h.own x hg; exact ⟨h1, cs, hw.blk_ty h2 hne, h3⟩, h.some_, h.none_⟩
theorem OwnRow.lt {base : Nat} {w : World} {K : Option Addr} {n len : Nat} {t : TypeId} {g : Option Nat} (h : OwnRow base w K n len t g) {b : Nat} (hb : g = some b) : b < w.heap.size := by
  obtain ⟨_, cs, h2, _⟩ := h.own b hb
  exact h2.lt
theorem OwnRow.start {base : Nat} {w : World} {K : Option Addr} {n len : Nat} {t : TypeId} {g : Option Nat} (h : OwnRow base w K n len t g) : Wr base w w g t len := Wr.refl (Ext.refl w) h.own
theorem Wr.ext {base : Nat} {w w' : World} {t : TypeId} {n : Nat} (h : Wr base w w' none t n) : Ext w w' := ⟨h.grown.os, h.grown.tape, h.grown.output, h.grown.size, fun k hk => h.grown.block k hk (by simp)⟩
theorem Wr.rep {base b2 : Nat} {w w' : World} {g : Option Nat} {n : Nat} (h : Wr b2 w w' g 27 n) {s : Sp} {c : List Value} (hr : RepS 33 base w s c) : RepS 33 base w' s c :=
  hr.keep (fun _ _ hb => h.blk_ty hb (by decide)) (fun _ _ _ hb => h.blk_ty hb (by decide))
theorem Wr.cells {base : Nat} {w w' : World} {b : Nat} {t : TypeId} {n : Nat} (h : Wr base w w' (some b) t n) : ∃ cs, Blk w' b cs t ∧ n ≤ cs.length := (h.own b rfl).2.2
theorem cell_some {w : World} {b : Nat} {cs : List Value} {t : TypeId} (h : Blk w b cs t) {i : Nat} (hi : i < cs.length) : ∃ u, w.cell? ⟨b, i, none⟩ = some u := ⟨_, by rw [h.cell]; exact List.getElem?_eq_getElem hi⟩

theorem kidc_ext {w w' : World} (hx : Ext w w') {K : Option Addr} {l : List Sp} (h : ∀ (i : Nat) (k : Sp), l[i]? = some k → ∃ b, K = some ⟨b, 0, none⟩ ∧ w.cell? ⟨b, i * 9, none⟩ = some (.string k.name)) :
    ∀ (i : Nat) (k : Sp), l[i]? = some k → ∃ b, K = some ⟨b, 0, none⟩ ∧ w'.cell? ⟨b, i * 9, none⟩ = some (.string k.name) := fun i k hi => by
  obtain ⟨b, h1, h2⟩ := h i k hi
  exact ⟨b, h1, Ext.cell hx h2⟩
theorem namec_ext {w w' : World} (hx : Ext w w') {K : Option Addr} {l : List ByteArray} (h : ∀ (i : Nat) (k : ByteArray), l[i]? = some k → ∃ b, K = some ⟨b, 0, none⟩ ∧ w.cell? ⟨b, i, none⟩ = some (.string k)) :
    ∀ (i : Nat) (k : ByteArray), l[i]? = some k → ∃ b, K = some ⟨b, 0, none⟩ ∧ w'.cell? ⟨b, i, none⟩ = some (.string k) := fun i k hi => by
  obtain ⟨b, h1, h2⟩ := h i k hi
  exact ⟨b, h1, Ext.cell hx h2⟩
theorem apart_law {s : Sp} {e : Int} (h : (∃ x, (s, e) = (x, (0 : Int)) ∧ OwnP x = true) ∨ ∃ e' : Int, e' ≠ 0 ∧ (s, e) = (zeroSp, e')) (i k : Nat) (x y : Sp) (hx : s.kids[i]? = some x) (hy : s.kids[k]? = some y) (hne : k < i) : x.name ≠ y.name := by
  rcases h with ⟨x', h1, h2⟩ | ⟨e', _, h2⟩
  · injection h1 with h1
    subst h1
    exact OwnP.apart h2 hx hy hne
  · injection h2 with h2
    subst h2
    simp [zeroSp, Sp.kids] at hx
end Go.Proofs.Ytgkgedjmnbjalaa
