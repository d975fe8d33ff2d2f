/- Trees, and what it means that cells read as one.
   Conditions: none. -/
import Derived.Test.YtgkgedjmnbjalaaMem
import Derived.Lib.QuietBelow
import Derived.BigQuiet
import Derived.Maps.AppendAt
set_option linter.unusedSimpArgs false
namespace Go.Proofs.Ytgkgedjmnbjalaa
open Go.RowKit Go.Sort

theorem ext_regrown (w : World) (d : Nat) (os : Array Obj) : Ext w (grow (redrawn w d) os) := below_regrown w d os
/-- A value is told. -/
def Ret (R : World → Value → Prop) (e : Ending) (w' : World) : Prop := ∃ v, e = .returned v ∧ R w' v
theorem Blk.ty {w : World} {g : Nat} {cs ds : List Value} {t t' : TypeId} (h : Blk w g cs t) (k : Blk w g ds t') : t = t' := by
  unfold Blk at h k
  rw [h] at k
  simp only [Option.some.injEq, Obj.cells.injEq] at k
  exact k.2.1
theorem cell_some {w : World} {b : Nat} {cs : List Value} {t : TypeId} (h : Blk w b cs t) {i : Nat} (hi : i < cs.length) : ∃ u, w.cell? ⟨b, i, none⟩ = some u := ⟨_, by rw [h.cell]; exact List.getElem?_eq_getElem hi⟩
theorem wanted_yes {ops : Array Oper} {o : Oper} {a : Act} {j : Nat} {t : Tmp} {b : Bool} (hg : o.guard = some (j, b)) (hd : (ops[j]?).bind (·.dst) = some t) (he : a.tmps[t]?.getD undef = .bool b) : Region.wanted o (yielded ops a.tmps) = true := by
  have h : a.tmps[t]? = some (.bool b) := by
    cases h : a.tmps[t]? with
    | none => rw [h] at he; simp [undef] at he
    | some v => rw [h] at he; simpa using he
  simp [Region.wanted, hg, yielded, hd, h]
theorem wanted_no {ops : Array Oper} {o : Oper} {a : Act} {j : Nat} {t : Tmp} {b c : Bool} (hg : o.guard = some (j, b)) (hd : (ops[j]?).bind (·.dst) = some t) (he : a.tmps[t]?.getD undef = .bool c) (hbc : (c == b) = false := by rfl) : Region.wanted o (yielded ops a.tmps) = false := by
  have h : a.tmps[t]? = some (.bool c) := by
    cases h : a.tmps[t]? with
    | none => rw [h] at he; simp [undef] at he
    | some v => rw [h] at he; simpa using he
  simp only [Region.wanted, hg, yielded, hd, h, Option.bind_some]
  cases b <;> cases c <;> first | rfl | simp_all
/-- A guard that did not run guards nothing further. -/
theorem wanted_off {ops : Array Oper} {o : Oper} {a : Act} {j : Nat} {t : Tmp} {b : Bool} (hg : o.guard = some (j, b)) (hd : (ops[j]?).bind (·.dst) = some t) (he : a.tmps[t]?.getD undef = undef) : Region.wanted o (yielded ops a.tmps) = false := by
  have h : a.tmps[t]? ≠ some (.bool b) := by
    intro h
    rw [h] at he
    simp [undef] at he
  simp only [Region.wanted, hg, yielded, hd, Option.bind_some]
  cases h2 : a.tmps[t]? with
  | none => rfl
  | some v => 
    rw [h2] at he h
    simp only [Option.getD_some] at he
    subst he
    rfl

theorem flatten_get {n : Nat} : ∀ (cs : List (List Value)), (∀ c ∈ cs, c.length = n) → ∀ (i : Nat) (c : List Value), cs[i]? = some c → ∀ (j : Nat) (v : Value), c[j]? = some v → cs.flatten[i * n + j]? = some v
  | [], _, i, c, h, _, _, _ => by simp at h
  | d :: cs, hl, 0, c, h, j, v, hv => by
    simp at h
    subst h
    rw [List.flatten_cons, Nat.zero_mul, Nat.zero_add, List.getElem?_append_left (List.getElem?_eq_some_iff.1 hv).1]
    exact hv
  | d :: cs, hl, i + 1, c, h, j, v, hv => by
    have h0 := hl d (by simp)
    rw [List.flatten_cons, List.getElem?_append_right (by rw [h0, Nat.add_mul]; omega), h0]
    have := flatten_get cs (fun c hc => hl c (by simp [hc])) i c (by simpa using h) j v hv
    rw [show (i + 1) * n + j - n = i * n + j by rw [Nat.add_mul]; omega]
    exact this
theorem flatten_len {n : Nat} : ∀ (cs : List (List Value)), (∀ c ∈ cs, c.length = n) → cs.flatten.length = cs.length * n
  | [], _ => by simp
  | d :: cs, hl => by
    rw [List.flatten_cons, List.length_append, flatten_len cs (fun c hc => hl c (by simp [hc])), hl d (by simp), List.length_cons, Nat.add_mul]
    omega

/-- A configuration. -/
inductive T where
  | mk (name key : ByteArray) (kind num : Int) (text : ByteArray) (kids : List T)
def T.name : T → ByteArray | .mk n .. => n
def T.key : T → ByteArray | .mk _ k .. => k
def T.kind : T → Int | .mk _ _ k .. => k
def T.num : T → Int | .mk _ _ _ n .. => n
def T.text : T → ByteArray | .mk _ _ _ _ t _ => t
def T.kids : T → List T | .mk _ _ _ _ _ l => l
def zeroT : T := .mk ⟨#[]⟩ ⟨#[]⟩ 0 0 ⟨#[]⟩ []

mutual
/-- How many nodes. -/
def T.size : T → Nat
  | .mk _ _ _ _ _ kids => 1 + sizeL kids
def sizeL : List T → Nat
  | [] => 0
  | t :: l => t.size + sizeL l
end
mutual
/-- How deep. -/
def T.deep : T → Nat
  | .mk _ _ _ _ _ kids => 1 + deepL kids
def deepL : List T → Nat
  | [] => 0
  | t :: l => max t.deep (deepL l)
end
theorem T.size_eq (t : T) : t.size = 1 + sizeL t.kids := by cases t; rfl
theorem T.deep_eq (t : T) : t.deep = 1 + deepL t.kids := by cases t; rfl
theorem size_pos (t : T) : 0 < t.size := by rw [t.size_eq]; omega
theorem sizeL_append : ∀ (l m : List T), sizeL (l ++ m) = sizeL l + sizeL m
  | [], m => by simp [sizeL]
  | t :: l, m => by simp [sizeL, sizeL_append l m]; omega
theorem sizeL_len : ∀ (l : List T), l.length ≤ sizeL l
  | [] => by simp
  | t :: l => by have := sizeL_len l; have := size_pos t; simp [sizeL]; omega
theorem sizeL_mem : ∀ {l : List T} {i : Nat} {t : T}, l[i]? = some t → t.size ≤ sizeL l
  | [], _, _, h => by simp at h
  | x :: l, 0, t, h => by simp at h; subst h; simp [sizeL]
  | x :: l, i + 1, t, h => by have := sizeL_mem (l := l) (i := i) (t := t) (by simpa using h); simp [sizeL]; omega
theorem deepL_mem : ∀ {l : List T} {i : Nat} {t : T}, l[i]? = some t → t.deep ≤ deepL l
  | [], _, _, h => by simp at h
  | x :: l, 0, t, h => by simp at h; subst h; simp [deepL]; omega
  | x :: l, i + 1, t, h => by have := deepL_mem (l := l) (i := i) (t := t) (by simpa using h); simp [deepL]; omega
mutual
theorem T.deep_le : ∀ t : T, t.deep ≤ t.size
  | .mk _ _ _ _ _ kids => by have := deepL_le kids; simp [T.deep, T.size]; omega
theorem deepL_le : ∀ l : List T, deepL l ≤ sizeL l
  | [] => by simp [deepL]
  | t :: l => by have := T.deep_le t; have := deepL_le l; simp [deepL, sizeL]; omega
end
theorem kid_size {t k : T} {i : Nat} (h : t.kids[i]? = some k) : k.size < t.size := by have := sizeL_mem h; rw [t.size_eq]; omega
theorem kid_deep {t k : T} {i : Nat} (h : t.kids[i]? = some k) : k.deep < t.deep := by have := deepL_mem h; rw [t.deep_eq]; omega

/-- The six cells of a node. -/
def cT (name key : ByteArray) (kind num : Int) (text : ByteArray) (K : Option Addr) (kl kc : Nat) : List Value := [.string name, .string key, .int .i64 kind, .int .u64 num, .string text, .slice K kl kc]

/-- These cells read as a tree; its rows lie in blocks of S. -/
inductive RT (S : Nat → Prop) (w : World) : T → List Value → Prop where
  | mk (name key : ByteArray) (kind num : Int) (text : ByteArray) (kids : List T) (K : Option Addr) (kc : Nat) (css : List (List Value))
    (hl : css.length = kids.length) (h6 : ∀ c ∈ css, c.length = 6)
    (hK : kids ≠ [] → ∃ b off, K = some ⟨b, off, none⟩ ∧ S b ∧ ∀ j v, css.flatten[j]? = some v → w.cell? ⟨b, off + j, none⟩ = some v)
    (hr : ∀ (i : Nat) k c, kids[i]? = some k → css[i]? = some c → RT S w k c)
    (hb : kids.length ≤ kc ∧ kids.length ≤ 1048576 ∧ (K = none → kc = 0)) :
    RT S w (.mk name key kind num text kids) (cT name key kind num text K kids.length kc)

/-- A row of trees lies in memory. -/
structure RRow (S : Nat → Prop) (w : World) (K : Option Addr) (kids : List T) (kc : Nat) : Prop where
  cap : kids.length ≤ kc
  len : kids.length ≤ 1048576
  nul : K = none → kc = 0
  kid : ∀ (i : Nat) k, kids[i]? = some k → ∃ b off c, K = some ⟨b, off, none⟩ ∧ S b ∧ RT S w k c ∧ ∀ j v, c[j]? = some v → w.cell? ⟨b, off + i * 6 + j, none⟩ = some v

theorem RT.row {S : Nat → Prop} {w : World} {t : T} {c : List Value} (h : RT S w t c) : ∃ K kc, c = cT t.name t.key t.kind t.num t.text K t.kids.length kc ∧ RRow S w K t.kids kc := by
  cases h with
  | mk name key kind num text kids K kc css hl h6 hK hr hb =>
    refine ⟨K, kc, rfl, hb.1, hb.2.1, hb.2.2, fun i k hi => ?_⟩
    have hi' : kids[i]? = some k := hi
    have hne : kids ≠ [] := by rintro rfl; simp at hi'
    obtain ⟨b, off, h1, h2, h3⟩ := hK hne
    have hlt : i < css.length := by rw [hl]; exact (List.getElem?_eq_some_iff.1 hi').1
    have hci := List.getElem?_eq_getElem hlt
    refine ⟨b, off, _, h1, h2, hr i k _ hi' hci, fun j v hv => ?_⟩
    rw [Nat.add_assoc]
    exact h3 _ _ (flatten_get css h6 i _ hci j v hv)
theorem RT.ext {S : Nat → Prop} {w w' : World} (hx : Ext w w') {t : T} {c : List Value} (h : RT S w t c) : RT S w' t c := by
  induction h with
  | mk name key kind num text kids K kc css hl h6 hK hr hb ih =>
    refine .mk name key kind num text kids K kc css hl h6 (fun hn => ?_) ih hb
    obtain ⟨b, off, h1, h2, h3⟩ := hK hn
    exact ⟨b, off, h1, h2, fun j v hv => Ext.cell hx (h3 j v hv)⟩
/-- It stays where its blocks stay. -/
theorem RT.keep {S S' : Nat → Prop} {w w' : World} (hk : ∀ b off v, S b → w.cell? ⟨b, off, none⟩ = some v → S' b ∧ w'.cell? ⟨b, off, none⟩ = some v) {t : T} {c : List Value} (h : RT S w t c) : RT S' w' t c := by
  induction h with
  | mk name key kind num text kids K kc css hl h6 hK hr hb ih =>
    refine .mk name key kind num text kids K kc css hl h6 (fun hn => ?_) ih hb
    obtain ⟨b, off, h1, h2, h3⟩ := hK hn
    refine ⟨b, off, h1, ?_, fun j v hv => (hk b _ v h2 (h3 j v hv)).2⟩
    cases css with
    | nil => simp at hl; exact absurd (List.eq_nil_of_length_eq_zero hl.symm) hn
    | cons d css =>
      have hd := h6 d (by simp)
      cases d with
      | nil => simp at hd
      | cons v d => exact (hk b _ v h2 (h3 0 v (by simp))).1
theorem RT.mono {S S' : Nat → Prop} {w : World} (hs : ∀ b, b < w.heap.size → S b → S' b) {t : T} {c : List Value} (h : RT S w t c) : RT S' w t c :=
  h.keep fun b _ _ hb hc => ⟨hs b (World.block_lt_of_cell? w _ hc) hb, hc⟩
theorem RRow.ext {S : Nat → Prop} {w w' : World} (hx : Ext w w') {K : Option Addr} {l : List T} {kc : Nat} (h : RRow S w K l kc) : RRow S w' K l kc :=
  ⟨h.cap, h.len, h.nul, fun i k hi => by
    obtain ⟨b, off, c, h1, h2, h3, h4⟩ := h.kid i k hi
    exact ⟨b, off, c, h1, h2, h3.ext hx, fun j v hv => Ext.cell hx (h4 j v hv)⟩⟩
theorem RT.len {S : Nat → Prop} {w : World} {t : T} {c : List Value} (h : RT S w t c) : c.length = 6 := by cases h; rfl
theorem RRow.keep {S S' : Nat → Prop} {w w' : World} (hk : ∀ b off v, S b → w.cell? ⟨b, off, none⟩ = some v → S' b ∧ w'.cell? ⟨b, off, none⟩ = some v) {K : Option Addr} {l : List T} {kc : Nat} (h : RRow S w K l kc) : RRow S' w' K l kc :=
  ⟨h.cap, h.len, h.nul, fun i k hi => by
    obtain ⟨b, off, c, h1, h2, h3, h4⟩ := h.kid i k hi
    have h6 := h3.len
    refine ⟨b, off, c, h1, ?_, h3.keep hk, fun j v hv => (hk b _ v h2 (h4 j v hv)).2⟩
    cases c with
    | nil => simp at h6
    | cons v c => exact (hk b _ v h2 (h4 0 v (by simp))).1⟩
theorem RRow.tail {S : Nat → Prop} {w : World} {b off : Nat} {x : T} {l : List T} {kc : Nat} (h : RRow S w (some ⟨b, off, none⟩) (x :: l) kc) : RRow S w (some ⟨b, off + 6, none⟩) l (kc - 1) := by
  refine ⟨by have := h.cap; simp at this; omega, by have := h.len; simp at this; omega, fun h => (by cases h), fun i k hi => ?_⟩
  obtain ⟨b', off', c, h1, h2, h3, h4⟩ := h.kid (i + 1) k (by simpa using hi)
  simp only [Option.some.injEq, Addr.mk.injEq, and_true] at h1
  obtain ⟨rfl, rfl⟩ := h1
  refine ⟨b, off + 6, c, rfl, h2, h3, fun j v hv => ?_⟩
  have := h4 j v hv
  rw [show off + 6 + i * 6 + j = off + (i + 1) * 6 + j by omega]
  exact this
theorem RRow.nil (S : Nat → Prop) (w : World) (K : Option Addr) (kc : Nat) (h : K = none → kc = 0) : RRow S w K [] kc := ⟨by simp, by simp, h, fun i k hi => by simp at hi⟩
theorem RT.of_row {S : Nat → Prop} {w : World} {t : T} {K : Option Addr} {kc : Nat} (h : RRow S w K t.kids kc) : RT S w t (cT t.name t.key t.kind t.num t.text K t.kids.length kc) := by
  obtain ⟨name, key, kind, num, text, kids⟩ := t
  have h' : RRow S w K kids kc := h
  clear h
  by_cases hn : kids = []
  · subst hn
    exact .mk name key kind num text [] K kc [] rfl (by simp) (fun h => absurd rfl h) (fun i k c h => by simp at h) ⟨h'.cap, h'.len, h'.nul⟩
  · obtain ⟨x, l, rfl⟩ := List.exists_cons_of_ne_nil hn
    obtain ⟨b, off, _, h1, h2, _, _⟩ := h'.kid 0 x rfl
    subst h1
    have key2 : ∀ i k, (x :: l)[i]? = some k → ∃ c, RT S w k c ∧ ∀ j v, c[j]? = some v → w.cell? ⟨b, off + i * 6 + j, none⟩ = some v := by
      intro i k hi
      obtain ⟨b', off', c, e, _, h3, h4⟩ := h'.kid i k hi
      simp only [Option.some.injEq, Addr.mk.injEq, and_true] at e
      obtain ⟨rfl, rfl⟩ := e
      exact ⟨c, h3, h4⟩
    have hex : ∀ (m : List T) (s : Nat), (∀ i k, m[i]? = some k → ∃ c, RT S w k c ∧ ∀ j v, c[j]? = some v → w.cell? ⟨b, off + (s + i) * 6 + j, none⟩ = some v) →
        ∃ css : List (List Value), css.length = m.length ∧ (∀ c ∈ css, c.length = 6) ∧ (∀ (i : Nat) k c, m[i]? = some k → css[i]? = some c → RT S w k c) ∧ ∀ j v, css.flatten[j]? = some v → w.cell? ⟨b, off + s * 6 + j, none⟩ = some v := by
      intro m
      induction m with
      | nil => intro s _; exact ⟨[], rfl, by simp, by simp, by simp⟩
      | cons y m ih =>
        intro s hm
        obtain ⟨c, hc1, hc2⟩ := hm 0 y rfl
        obtain ⟨css, e1, e2, e3, e4⟩ := ih (s + 1) (fun i k hi => by
          obtain ⟨c, h1, h2⟩ := hm (i + 1) k (by simpa using hi)
          exact ⟨c, h1, fun j v hv => by have := h2 j v hv; rw [show s + 1 + i = s + (i + 1) by omega]; exact this⟩)
        refine ⟨c :: css, by simp [e1], fun d hd => ?_, fun i k d hi hd => ?_, fun j v hv => ?_⟩
        · rcases List.mem_cons.1 hd with rfl | hd
          · exact hc1.len
          · exact e2 d hd
        · cases i with
          | zero => simp at hi hd; subst hi hd; exact hc1
          | succ i => exact e3 i k d (by simpa using hi) (by simpa using hd)
        · rw [List.flatten_cons] at hv
          by_cases hj : j < c.length
          · rw [List.getElem?_append_left hj] at hv
            have := hc2 j v hv
            rwa [Nat.add_zero] at this
          · rw [List.getElem?_append_right (by omega), hc1.len] at hv
            have := e4 _ v hv
            have h6 := hc1.len
            rw [show off + (s + 1) * 6 + (j - 6) = off + s * 6 + j by omega] at this
            exact this
    obtain ⟨css, e1, e2, e3, e4⟩ := hex (x :: l) 0 (fun i k hi => by rw [Nat.zero_add]; exact key2 i k hi)
    exact .mk name key kind num text (x :: l) (some ⟨b, off, none⟩) kc css e1 e2 (fun _ => ⟨b, off, rfl, h2, fun j v hv => by have := e4 j v hv; rwa [Nat.zero_mul, Nat.add_zero] at this⟩) e3 ⟨h'.cap, h'.len, h'.nul⟩
/-- The first of a row. -/
theorem RRow.head {S : Nat → Prop} {w : World} {K : Option Addr} {x : T} {l : List T} {kc : Nat} (h : RRow S w K (x :: l) kc) : ∃ b off c, K = some ⟨b, off, none⟩ ∧ S b ∧ RT S w x c ∧ ∀ j v, c[j]? = some v → w.cell? ⟨b, off + j, none⟩ = some v := by
  obtain ⟨b, off, c, h1, h2, h3, h4⟩ := h.kid 0 x rfl
  refine ⟨b, off, c, h1, h2, h3, fun j v hv => ?_⟩
  have := h4 j v hv
  rwa [Nat.zero_mul, Nat.add_zero] at this
/-- A tree in a box of its own. -/
theorem tboxed {S : Nat → Prop} {w : World} {t : T} {c : List Value} (h : RT S w t c) : Blk (w.alloc (.cells c.toArray 54)) w.heap.size c 54 ∧ RT S (w.alloc (.cells c.toArray 54)) t c ∧ Ext w (w.alloc (.cells c.toArray 54)) :=
  ⟨Blk.new _ _ _, h.ext (Ext.alloc _ _), Ext.alloc _ _⟩
end Go.Proofs.Ytgkgedjmnbjalaa
