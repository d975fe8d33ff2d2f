/- The tables of versions 2 and 3, as the two changes of spec.later make them.
   Conditions: none. -/
import Derived.Test.YtgkgedjmnbjalaaSpD
set_option linter.unusedSimpArgs false
namespace Go.Proofs.Ytgkgedjmnbjalaa
open Go.RowKit Go.Sort

theorem flatten_get {n : Nat} : ∀ (cs : List (List Value)), (∀ c ∈ cs, c.length = n) → ∀ (i : Nat) (c : List Value), cs[i]? = some c → ∀ (j : Nat) (v : Value), c[j]? = some v → cs.flatten[i * n + j]? = some v
  | [], _, i, c, h, _, _, _ => by simp at h
  | x :: cs, hl, 0, c, h, j, v, hv => by
    obtain rfl : x = c := by simpa using h
    have hj : j < x.length := (List.getElem?_eq_some_iff.1 hv).1
    rw [List.flatten_cons, Nat.zero_mul, Nat.zero_add, List.getElem?_append_left hj]
    exact hv
  | x :: cs, hl, i + 1, c, h, j, v, hv => by
    have hx : x.length = n := hl x (by simp)
    have := flatten_get cs (fun c hc => hl c (by simp [hc])) i c (by simpa using h) j v hv
    rw [List.flatten_cons, List.getElem?_append_right (by rw [hx, Nat.succ_mul]; omega), hx]
    rw [show (i + 1) * n + j - n = i * n + j by rw [Nat.succ_mul]; omega]
    exact this

theorem nrow_of_blk {w : World} {B : Nat} {cs : List (List Value)} {sp : List Value} {t : TypeId} (h : Blk w B (cs.flatten ++ sp) t) (hl : ∀ c ∈ cs, c.length = 9) (nms : List ByteArray)
    (hn : ∀ (i : Nat) nm, nms[i]? = some nm → ∃ c, cs[i]? = some (.string nm :: c)) : NRow w (some ⟨B, 0, none⟩) nms := by
  intro i nm hi
  obtain ⟨c, hc⟩ := hn i nm hi
  have h9 := hl _ (List.mem_of_getElem? hc)
  match c, h9, hc with
  | [x1, x2, x3, x4, x5, x6, x7, x8], _, hc =>
    have g : ∀ j v, ([.string nm, x1, x2, x3, x4, x5, x6, x7, x8] : List Value)[j]? = some v → w.cell? ⟨B, 0 + i * 9 + j, none⟩ = some v := by
      intro j v hv
      have h1 := flatten_get cs hl i _ hc j v hv
      rw [Nat.zero_add, h.cell, List.getElem?_append_left (List.getElem?_eq_some_iff.1 h1).1]
      exact h1
    exact ⟨B, 0, x1, x2, x3, x4, x5, x6, x7, x8, rfl, g 0 _ rfl, g 1 _ rfl, g 2 _ rfl, g 3 _ rfl, g 4 _ rfl, g 5 _ rfl, g 6 _ rfl, g 7 _ rfl, g 8 _ rfl⟩

/-- The first steps of a way: at (B, i*9) a list stands whose row is at K. -/
theorem ats_cons {w : World} {B off K n c i b' off' : Nat} {nm : ByteArray} {rest : List ByteArray} {cs : List (List Value)} {sp : List Value} {cell : List Value} {t t' : TypeId} (hb : Blk w B cell t) (nms : List ByteArray)
    (x0 x1 x2 x3 x4 x5 x6 x7 : Value) (hc : (cell.drop off).take 9 = [x0, x1, x2, x3, x4, x5, x6, x7, .slice (some ⟨K, 0, none⟩) n c]) (hk : Blk w K (cs.flatten ++ sp) t') (hl : ∀ c ∈ cs, c.length = 9) (hnl : nms.length = n)
    (hn : ∀ (i : Nat) nm, nms[i]? = some nm → ∃ c, cs[i]? = some (.string nm :: c)) (hn2 : n ≤ 1000) (hi : idxOf nm nms = (i : Int)) (hlt : i < nms.length) (h : AtS w K (i * 9) rest b' off') : AtS w B off (nm :: rest) b' off' := by
  subst hnl
  have g : ∀ j v, ([x0, x1, x2, x3, x4, x5, x6, x7, .slice (some ⟨K, 0, none⟩) nms.length c] : List Value)[j]? = some v → w.cell? ⟨B, off + j, none⟩ = some v := by
    intro j v hv
    rw [hb.cell, ← hv, ← hc, List.getElem?_take]
    have hj : j < 9 := by
      have := (List.getElem?_eq_some_iff.1 hv).1
      simpa using this
    rw [if_pos hj, List.getElem?_drop]
  exact .cons B off nm rest K 0 c i nms x0 x1 x2 x3 x4 x5 x6 x7 b' off' (g 0 _ rfl) (g 1 _ rfl) (g 2 _ rfl) (g 3 _ rfl) (g 4 _ rfl) (g 5 _ rfl) (g 6 _ rfl) (g 7 _ rfl) (g 8 _ rfl)
    (nrow_of_blk hk hl nms hn) (by omega) hi hlt (by rw [Nat.zero_add]; exact h)

/-- The table of version 1, in box X. -/
structure St1 (w : World) (X Bk Bp Bc Br : Nat) : Prop where
  o1 : Bc < Br
  o2 : Br < Bp
  o3 : Bp < Bk
  o4 : Bk < X
  x : Blk w X (cRoot Bk 2 2) 27
  k : Blk w Bk (cLeaf nSystem 5 0 0 false ++ cList nPort 4 Bp 4 4) 27
  p : Blk w Bp (cPort Bc Br) 27
  c : Blk w Bc cClass1 27
  r : Blk w Br cRule 27

theorem St1.ext {w w' : World} (hx : Ext w w') {X Bk Bp Bc Br : Nat} (h : St1 w X Bk Bp Bc Br) : St1 w' X Bk Bp Bc Br := ⟨h.o1, h.o2, h.o3, h.o4, h.x.ext hx, h.k.ext hx, h.p.ext hx, h.c.ext hx, h.r.ext hx⟩
theorem St1.at_port {w : World} {X Bk Bp Bc Br : Nat} (h : St1 w X Bk Bp Bc Br) : AtS w X 0 [nPort] Bk 9 :=
  ats_cons (cs := [cLeaf nSystem 5 0 0 false, cList nPort 4 Bp 4 4]) (sp := []) (i := 1) h.x [nSystem, nPort] _ _ _ _ _ _ _ _ rfl h.k (by simp [cLeaf, cList]) rfl
    (fun i nm hi => by match i, hi with | 0, hi => simp at hi; subst hi; exact ⟨_, rfl⟩ | 1, hi => simp at hi; subst hi; exact ⟨_, rfl⟩ | i + 2, hi => simp at hi) (by omega) (by decide +kernel) (by simp) (.nil _ _)
theorem St1.at_class {w : World} {X Bk Bp Bc Br : Nat} (h : St1 w X Bk Bp Bc Br) : AtS w X 0 [nPort, nClass] Bp 9 :=
  ats_cons (cs := [cLeaf nSystem 5 0 0 false, cList nPort 4 Bp 4 4]) (sp := []) (i := 1) h.x [nSystem, nPort] _ _ _ _ _ _ _ _ rfl h.k (by simp [cLeaf, cList]) rfl
    (fun i nm hi => by match i, hi with | 0, hi => simp at hi; subst hi; exact ⟨_, rfl⟩ | 1, hi => simp at hi; subst hi; exact ⟨_, rfl⟩ | i + 2, hi => simp at hi) (by omega) (by decide +kernel) (by simp)
    (ats_cons (cs := [cLeaf nUp 3 0 0 false, cList nClass 8 Bc 4 4, cList nRule 16 Br 3 3, cLeaf nDefault 6 0 0 true]) (sp := []) (i := 1) h.k [nUp, nClass, nRule, nDefault] _ _ _ _ _ _ _ _ rfl h.p (by simp [cLeaf, cList]) rfl
      (fun i nm hi => by match i, hi with | 0, hi => simp at hi; subst hi; exact ⟨_, rfl⟩ | 1, hi => simp at hi; subst hi; exact ⟨_, rfl⟩ | 2, hi => simp at hi; subst hi; exact ⟨_, rfl⟩ | 3, hi => simp at hi; subst hi; exact ⟨_, rfl⟩ | i + 4, hi => simp at hi) (by omega) (by decide +kernel) (by simp) (.nil _ _))

theorem sp_kid1 (n1 : ByteArray) (B b off b' off' : Nat) (w : World) (h0 : w.cell? ⟨B, 0, none⟩ = some (.string n1)) (h : AtS w b off [n1] b' off') :
    Calls Try.prog 136 #[.pointer (some ⟨b, off, none⟩), .slice (some ⟨B, 0, none⟩) 1 1] w fun e w' => e = .returned (.pointer (some ⟨b', off', none⟩)) ∧ Ext w w' :=
  sp_kid [n1] (some ⟨B, 0, none⟩) 1 b off b' off' w (by simp) (fun i nm hi => by match i, hi with | 0, hi => simp at hi; subst hi; exact ⟨B, 0, rfl, h0⟩ | i + 1, hi => simp at hi) h
theorem sp_kid2 (n1 n2 : ByteArray) (B b off b' off' : Nat) (w : World) (h0 : w.cell? ⟨B, 0, none⟩ = some (.string n1)) (h1 : w.cell? ⟨B, 1, none⟩ = some (.string n2)) (h : AtS w b off [n1, n2] b' off') :
    Calls Try.prog 136 #[.pointer (some ⟨b, off, none⟩), .slice (some ⟨B, 0, none⟩) 2 2] w fun e w' => e = .returned (.pointer (some ⟨b', off', none⟩)) ∧ Ext w w' :=
  sp_kid [n1, n2] (some ⟨B, 0, none⟩) 2 b off b' off' w (by simp) (fun i nm hi => by match i, hi with | 0, hi => simp at hi; subst hi; exact ⟨B, 0, rfl, h0⟩ | 1, hi => simp at hi; subst hi; exact ⟨B, 0, rfl, h1⟩ | i + 2, hi => simp at hi) h
theorem sp_kid3 (n1 n2 n3 : ByteArray) (B b off b' off' : Nat) (w : World) (h0 : w.cell? ⟨B, 0, none⟩ = some (.string n1)) (h1 : w.cell? ⟨B, 1, none⟩ = some (.string n2)) (h2 : w.cell? ⟨B, 2, none⟩ = some (.string n3)) (h : AtS w b off [n1, n2, n3] b' off') :
    Calls Try.prog 136 #[.pointer (some ⟨b, off, none⟩), .slice (some ⟨B, 0, none⟩) 3 3] w fun e w' => e = .returned (.pointer (some ⟨b', off', none⟩)) ∧ Ext w w' :=
  sp_kid [n1, n2, n3] (some ⟨B, 0, none⟩) 3 b off b' off' w (by simp) (fun i nm hi => by match i, hi with | 0, hi => simp at hi; subst hi; exact ⟨B, 0, rfl, h0⟩ | 1, hi => simp at hi; subst hi; exact ⟨B, 0, rfl, h1⟩ | 2, hi => simp at hi; subst hi; exact ⟨B, 0, rfl, h2⟩ | i + 3, hi => simp at hi) h

def cPort' (Bc n c Br : Nat) : List Value := cLeaf nUp 3 0 0 false ++ cList nClass 8 Bc n c ++ cList nRule 16 Br 3 3 ++ cLeaf nDefault 6 0 0 true
abbrev nShaped : ByteArray := ⟨#[115, 104, 97, 112, 101, 100]⟩
abbrev nKind : ByteArray := ⟨#[107, 105, 110, 100]⟩
def cShaped : List Value := cLeaf nShaped 3 0 0 true
def cKind (N : Nat) : List Value := [.string nKind, .int .i64 1, .int .i64 4, .int .u64 0, .int .u64 0, .slice (some ⟨N, 0, none⟩) 3 3, .bool false, .int .i64 0, .slice none 0 0]
def cNames : List Value := [.string ⟨#[101, 100, 103, 101]⟩, .string ⟨#[99, 111, 114, 101]⟩, .string ⟨#[108, 97, 98]⟩]

/-- Between the two changes of version 2: the classes have one kid more. -/
structure St1b (w : World) (base X Bk Bp N Br cap : Nat) (sp : List Value) : Prop where
  b1 : base ≤ N
  b2 : base ≤ Bp
  n1 : N ≠ Bp
  n2 : N ≠ Bk
  n3 : N ≠ X
  n4 : N ≠ Br
  o2 : Br < Bp
  o3 : Bp < Bk
  o4 : Bk < X
  x : Blk w X (cRoot Bk 2 2) 27
  k : Blk w Bk (cLeaf nSystem 5 0 0 false ++ cList nPort 4 Bp 4 4) 27
  p : Blk w Bp (cPort' N 5 cap Br) 27
  c : Blk w N (cClass1 ++ cShaped ++ sp) 27
  r : Blk w Br cRule 27
theorem St1b.ext {w w' : World} (hx : Ext w w') {base X Bk Bp N Br cap : Nat} {sp : List Value} (h : St1b w base X Bk Bp N Br cap sp) : St1b w' base X Bk Bp N Br cap sp :=
  ⟨h.b1, h.b2, h.n1, h.n2, h.n3, h.n4, h.o2, h.o3, h.o4, h.x.ext hx, h.k.ext hx, h.p.ext hx, h.c.ext hx, h.r.ext hx⟩

theorem grownBy_blk {w w' : World} {row : Option Nat} (hg : w.grownBy w' row) {g : Nat} (hne : some g ≠ row) {cs : List Value} {t : TypeId} (h : Blk w g cs t) : Blk w' g cs t := (hg.block g h.lt hne).trans h

theorem Blk.ty {w : World} {g : Nat} {cs ds : List Value} {t t' : TypeId} (h : Blk w g cs t) (k : Blk w g ds t') : t = t' := by
  unfold Blk at h k
  rw [h] at k
  simp only [Option.some.injEq, Obj.cells.injEq] at k
  exact k.2.1

/-- What is no row of specs stays. -/
def Keep27 (w w' : World) : Prop := ∀ k cs t, t ≠ 27 → Blk w k cs t → Blk w' k cs t
theorem Keep27.trans {a b c : World} (h : Keep27 a b) (k : Keep27 b c) : Keep27 a c := fun g cs t ht hb => k g cs t ht (h g cs t ht hb)
theorem Keep27.ext {w w' : World} (h : Ext w w') : Keep27 w w' := fun _ _ _ _ hb => hb.ext h
theorem AddPost.keep {b off n B : Nat} {xs ds cs1 cs2 : List Value} {w w' : World} (h1 : Blk w b cs1 27) (h2 : Blk w B cs2 27) (ha : AddPost b off n B xs ds w w') : Keep27 w w' := by
  obtain ⟨w1, N, cap, sp, rfl, hg, hN, hor⟩ := ha
  intro k cs t ht hb
  have m1 : k ≠ b := by rintro rfl; exact ht (hb.ty h1)
  have m2 : k ≠ B := by rintro rfl; exact ht (hb.ty h2)
  exact (grownBy_blk hg (by simpa using m2) hb).setCell_other (by simpa using m1) _

theorem AddPost.st1b {w w' : World} {base X Bk Bp Bc Br : Nat} (h : St1 w X Bk Bp Bc Br) (hb : base ≤ Bc) (ha : AddPost Bp 9 4 Bc cClass1 cShaped w w') :
    ∃ N cap sp, St1b w' base X Bk Bp N Br cap sp ∧ Below base w w' := by
  obtain ⟨w1, N, cap, sp, rfl, hg, hN, hor⟩ := ha
  have o1 := h.o1
  have o2 := h.o2
  have o3 := h.o3
  have o4 := h.o4
  have l4 := h.x.lt
  have hNp : N ≠ Bp := by rcases hor with h | h <;> omega
  refine ⟨N, cap, sp, ⟨by rcases hor with h | h <;> omega, by omega, hNp, by rcases hor with h | h <;> omega, by rcases hor with h | h <;> omega, by rcases hor with h | h <;> omega, o2, o3, o4, ?_, ?_, ?_, ?_, ?_⟩, ?_⟩
  · exact (grownBy_blk hg (by simp; omega) h.x).setCell_other (by simp; omega) _
  · exact (grownBy_blk hg (by simp; omega) h.k).setCell_other (by simp; omega) _
  · exact (grownBy_blk hg (by simp; omega) h.p).setCell 17 _
  · exact hN.setCell_other (by simpa using hNp) _
  · exact (grownBy_blk hg (by simp; omega) h.r).setCell_other (by simp; omega) _
  · exact ((Below.refl _ _).grown hg (by omega) (fun k hk => by injection hk with hk; omega)).setCell (by simp; omega) _

theorem St1b.at_port {w : World} {base X Bk Bp N Br cap : Nat} {sp : List Value} (h : St1b w base X Bk Bp N Br cap sp) : AtS w X 0 [nPort] Bk 9 :=
  ats_cons (cs := [cLeaf nSystem 5 0 0 false, cList nPort 4 Bp 4 4]) (sp := []) (i := 1) h.x [nSystem, nPort] _ _ _ _ _ _ _ _ rfl h.k (by simp [cLeaf, cList]) rfl
    (fun i nm hi => by match i, hi with | 0, hi => simp at hi; subst hi; exact ⟨_, rfl⟩ | 1, hi => simp at hi; subst hi; exact ⟨_, rfl⟩ | i + 2, hi => simp at hi) (by omega) (by decide +kernel) (by simp) (.nil _ _)

/-- The table of version 2. -/
structure St2 (w : World) (base X Bk Bp Bc Br Nn cap cap2 : Nat) (sp sp2 : List Value) : Prop where
  b1 : base ≤ Bc
  b2 : base ≤ Bp
  b3 : base ≤ Br
  b4 : base ≤ Bk
  b5 : base ≤ Nn
  b6 : base ≤ X
  n1 : Bc ≠ Bp
  n2 : Bc ≠ Bk
  n3 : Bc ≠ X
  n4 : Bc ≠ Br
  n5 : Bp ≠ Bk
  n6 : Bp ≠ X
  n7 : Bp ≠ Br
  n8 : Bk ≠ X
  n9 : Bk ≠ Br
  n10 : Br ≠ X
  x : Blk w X (cRoot Bk 2 2) 27
  k : Blk w Bk (cLeaf nSystem 5 0 0 false ++ cList nPort 4 Bp 5 cap2) 27
  p : Blk w Bp (cPort' Bc 5 cap Br ++ cKind Nn ++ sp2) 27
  c : Blk w Bc (cClass1 ++ cShaped ++ sp) 27
  r : Blk w Br cRule 27
  n : Blk w Nn cNames 9
theorem St2.ext {w w' : World} (hx : Ext w w') {base X Bk Bp Bc Br Nn cap cap2 : Nat} {sp sp2 : List Value} (h : St2 w base X Bk Bp Bc Br Nn cap cap2 sp sp2) : St2 w' base X Bk Bp Bc Br Nn cap cap2 sp sp2 :=
  ⟨h.b1, h.b2, h.b3, h.b4, h.b5, h.b6, h.n1, h.n2, h.n3, h.n4, h.n5, h.n6, h.n7, h.n8, h.n9, h.n10, h.x.ext hx, h.k.ext hx, h.p.ext hx, h.c.ext hx, h.r.ext hx, h.n.ext hx⟩

theorem AddPost.st2 {w w' : World} {base X Bk Bp N Br cap Nn : Nat} {sp : List Value} (h : St1b w base X Bk Bp N Br cap sp) (hr : base ≤ Br) (hn : Blk w Nn cNames 9) (hnb : base ≤ Nn) (ha : AddPost Bk 9 4 Bp (cPort' N 5 cap Br) (cKind Nn) w w') :
    ∃ Bp' cap2 sp2, St2 w' base X Bk Bp' N Br Nn cap cap2 sp sp2 ∧ Below base w w' := by
  obtain ⟨w1, M, cap2, sp2, rfl, hg, hM, hor⟩ := ha
  have b1 := h.b1
  have b2 := h.b2
  have n1 := h.n1
  have n2 := h.n2
  have n3 := h.n3
  have n4 := h.n4
  have o2 := h.o2
  have o3 := h.o3
  have o4 := h.o4
  have l4 := h.x.lt
  have l5 := h.c.lt
  have l6 := hn.lt
  have m1 : Nn ≠ Bp := by rintro rfl; have := hn.ty h.p; cases this
  have m2 : Nn ≠ Bk := by rintro rfl; have := hn.ty h.k; cases this
  have hMk : M ≠ Bk := by rcases hor with h | h <;> omega
  refine ⟨M, cap2, sp2, ⟨b1, by rcases hor with h | h <;> omega, hr, by omega, hnb, by omega, by rcases hor with h | h <;> omega, n2, n3, n4, hMk, by rcases hor with h | h <;> omega, by rcases hor with h | h <;> omega, by omega, by omega, by omega, ?_, ?_, ?_, ?_, ?_, ?_⟩, ?_⟩
  · exact (grownBy_blk hg (by simp; omega) h.x).setCell_other (by simp; omega) _
  · exact (grownBy_blk hg (by simp; omega) h.k).setCell 17 _
  · exact hM.setCell_other (by simpa using hMk) _
  · exact (grownBy_blk hg (by simp; omega) h.c).setCell_other (by simp; omega) _
  · exact (grownBy_blk hg (by simp; omega) h.r).setCell_other (by simp; omega) _
  · exact (grownBy_blk hg (by simpa using m1) hn).setCell_other (by simpa using m2) _
  · exact ((Below.refl _ _).grown hg (by omega) (fun k hk => by injection hk with hk; omega)).setCell (by simp; omega) _

/-- What the first change gives. -/
def Later1 (base X Bk Br : Nat) (w w' : World) : Prop := ∃ Bp Bc Nn cap cap2 sp sp2, St2 w' base X Bk Bp Bc Br Nn cap cap2 sp sp2 ∧ Below base w w' ∧ Keep27 w w'

set_option maxHeartbeats 1000000 in
theorem sp_later1 (base X Bk Bp Bc Br : Nat) (w : World) (h : St1 w X Bk Bp Bc Br) (hb : base ≤ Bc) :
    Calls Try.prog 135 #[.pointer (some ⟨X, 0, none⟩)] w fun e w' => e = .returned (.tuple #[]) ∧ Later1 base X Bk Br w w' := by
  have h1 := Hd.mk h
  have hb' := Hd.mk hb
  clear h hb
  go_enter Try.func135, Try.ntmps135
  go_wp2_with fail
  refine Calls.mono (sp_kid2 nPort nClass _ X 0 Bp 9 _ ?_ ?_ ((h1.out.ext (Ext.alloc _ _)).at_class)) ?_
  · go_simp
  · go_simp
  rintro e w1 ⟨rfl, hx⟩
  have hx1 := Hd.mk ((Ext.alloc _ _).trans hx)
  clear hx
  go_wp2_with fail
  refine Calls.mono (sp_leafM _ _ _ _ ?_) ?_
  · go_simp
  rintro e w2 ⟨rfl, hx⟩
  have hx2 := Hd.mk (hx1.out.trans ((Ext.alloc _ _).trans hx))
  clear hx hx1
  go_wp2_with fail
  have hs : St1 (w2.alloc (.cells cShaped.toArray 27)) X Bk Bp Bc Br := h1.out.ext (hx2.out.trans (Ext.alloc _ _))
  have hD : Blk (w2.alloc (.cells cShaped.toArray 27)) w2.heap.size cShaped 27 := Blk.new _ _ _
  refine Calls.mono (sp_add Bp 9 Bc 4 w2.heap.size 1 cClass1 cShaped (w2.alloc (.cells cShaped.toArray 27)) (hs.p.cell _) (hs.p.free _) hs.c rfl (by have := hs.o1; have := hs.o2; omega) hD rfl rfl (by omega)) ?_
  rintro e w3 ⟨rfl, ha⟩
  obtain ⟨N, cap, sp, hst, hbl⟩ := ha.st1b hs hb'.out
  have hst2 := Hd.mk hst
  have hbl2 := Hd.mk (((hx2.out.trans (Ext.alloc w2 (.cells cShaped.toArray 27))).mono (Nat.le_trans hb'.out (Nat.le_of_lt h1.out.c.lt))).trans hbl)
  have hbr := Hd.mk (show base ≤ Br by have := hb'.out; have := hs.o1; omega)
  have hk1 := Hd.mk ((Keep27.ext (hx2.out.trans (Ext.alloc w2 (.cells cShaped.toArray 27)))).trans (ha.keep hs.p hs.c))
  clear hs hD ha hst hbl hx2 h1 hb'
  go_wp2_with fail
  refine Calls.mono (sp_kid1 nPort _ X 0 Bk 9 _ ?_ ((hst2.out.ext (Ext.alloc _ _)).at_port)) ?_
  · go_simp
  rintro e w4 ⟨rfl, hx⟩
  have hx1 := Hd.mk ((Ext.alloc _ _).trans hx)
  clear hx
  go_wp2_with fail
  refine Calls.mono (sp_of _ _ _ _) ?_
  rintro e _ ⟨rfl, rfl⟩
  go_wp2_with fail
  refine Calls.mono (sp_leafN _ _ (some ⟨w4.heap.size, 0, none⟩) 3 3 _ (w4.heap.size + 1) _ ?_ ?_) ?_
  · go_simp
  · go_simp
  rintro e w5 ⟨rfl, hx⟩
  have hn := Hd.mk ((Blk.new w4 cNames.toArray 9).ext ((Ext.alloc _ _).trans ((Ext.alloc _ _).trans hx)))
  have hx2 := Hd.mk (hx1.out.trans ((Ext.alloc _ _).trans ((Ext.alloc _ _).trans ((Ext.alloc _ _).trans hx))))
  have hnb := Hd.mk (show base ≤ w4.heap.size from Nat.le_trans (Nat.le_trans hbr.out (Nat.le_of_lt hst2.out.r.lt)) hx1.out.size)
  clear hx hx1
  go_wp2_with fail
  have hs : St1b (w5.alloc (.cells (cKind w4.heap.size).toArray 27)) base X Bk Bp N Br cap sp := hst2.out.ext (hx2.out.trans (Ext.alloc _ _))
  have hD : Blk (w5.alloc (.cells (cKind w4.heap.size).toArray 27)) w5.heap.size (cKind w4.heap.size) 27 := Blk.new _ _ _
  have hN : Blk (w5.alloc (.cells (cKind w4.heap.size).toArray 27)) w4.heap.size cNames 9 := hn.out.alloc _
  refine Calls.mono (sp_add Bk 9 Bp 4 w5.heap.size 1 (cPort' N 5 cap Br) (cKind w4.heap.size) (w5.alloc (.cells (cKind w4.heap.size).toArray 27)) (hs.k.cell _) (hs.k.free _) hs.p rfl (by have := hs.o3; omega) hD rfl rfl (by omega)) ?_
  rintro e w6 ⟨rfl, ha⟩
  obtain ⟨Bp', cap2, sp2, hst3, hbl3⟩ := ha.st2 hs hbr.out hN hnb.out
  have hfin := Hd.mk (show Later1 base X Bk Br w w6 from ⟨Bp', N, _, cap, cap2, sp, sp2, hst3, hbl2.out.trans (((hx2.out.trans (Ext.alloc w5 (.cells (cKind w4.heap.size).toArray 27))).mono (Nat.le_trans hbr.out (Nat.le_of_lt hst2.out.r.lt))).trans hbl3), hk1.out.trans ((Keep27.ext (hx2.out.trans (Ext.alloc w5 (.cells (cKind w4.heap.size).toArray 27)))).trans (ha.keep hs.k hs.p))⟩)
  clear hs hD hN ha hk1 hst3 hbl3 hbl2 hx2 hnb hn hst2 hbr
  go_wp2_with fail
  go_end0
  exact ⟨rfl, hfin.out⟩

abbrev nQuantum : ByteArray := ⟨#[113, 117, 97, 110, 116, 117, 109]⟩
abbrev nRate : ByteArray := ⟨#[114, 97, 116, 101]⟩
abbrev nBurst : ByteArray := ⟨#[98, 117, 114, 115, 116]⟩
abbrev nLimit : ByteArray := ⟨#[108, 105, 109, 105, 116]⟩
abbrev nDepth : ByteArray := ⟨#[100, 101, 112, 116, 104]⟩
abbrev nWait : ByteArray := ⟨#[119, 97, 105, 116]⟩
def cClass3 : List Value := cLeaf nQuantum 1 1500 100000 true ++ cLeaf nRate 2 0 1000000 true ++ cLeaf nBurst 1 1500 1000000 true ++ cLeaf nDepth 1 1 64 true
def cWait : List Value := cLeaf nWait 1 1 1000 false

/-- The table of version 3. -/
structure St3 (w : World) (base X Bk Bp Bc Br Nn cap cap2 cap3 : Nat) (sp sp2 sp3 : List Value) : Prop where
  b1 : base ≤ Bc
  b2 : base ≤ Bp
  b3 : base ≤ Br
  b4 : base ≤ Bk
  b5 : base ≤ Nn
  x : Blk w X (cRoot Bk 3 cap3) 27
  k : Blk w Bk (cLeaf nSystem 5 0 0 false ++ cList nPort 4 Bp 5 cap2 ++ cWait ++ sp3) 27
  p : Blk w Bp (cPort' Bc 5 cap Br ++ cKind Nn ++ sp2) 27
  c : Blk w Bc (cClass3 ++ cShaped ++ sp) 27
  r : Blk w Br cRule 27
  n : Blk w Nn cNames 9

theorem St2.at_limit {w : World} {base X Bk Bp Bc Br Nn cap cap2 : Nat} {sp sp2 : List Value} (h : St2 w base X Bk Bp Bc Br Nn cap cap2 sp sp2) : AtS w X 0 [nPort, nClass, nLimit] Bc 27 :=
  ats_cons (cs := [cLeaf nSystem 5 0 0 false, cList nPort 4 Bp 5 cap2]) (sp := []) (i := 1) h.x [nSystem, nPort] _ _ _ _ _ _ _ _ rfl h.k (by simp [cLeaf, cList]) rfl
    (fun i nm hi => by match i, hi with | 0, hi => simp at hi; subst hi; exact ⟨_, rfl⟩ | 1, hi => simp at hi; subst hi; exact ⟨_, rfl⟩ | i + 2, hi => simp at hi) (by omega) (by decide +kernel) (by simp)
    (ats_cons (cs := [cLeaf nUp 3 0 0 false, cList nClass 8 Bc 5 cap, cList nRule 16 Br 3 3, cLeaf nDefault 6 0 0 true, cKind Nn]) (sp := sp2) (i := 1) h.k [nUp, nClass, nRule, nDefault, nKind] _ _ _ _ _ _ _ _ rfl h.p (by simp [cLeaf, cList, cKind]) rfl
      (fun i nm hi => by match i, hi with | 0, hi => simp at hi; subst hi; exact ⟨_, rfl⟩ | 1, hi => simp at hi; subst hi; exact ⟨_, rfl⟩ | 2, hi => simp at hi; subst hi; exact ⟨_, rfl⟩ | 3, hi => simp at hi; subst hi; exact ⟨_, rfl⟩ | 4, hi => simp at hi; subst hi; exact ⟨_, rfl⟩ | i + 5, hi => simp at hi) (by omega) (by decide +kernel) (by simp)
      (ats_cons (cs := [cLeaf nQuantum 1 1500 100000 true, cLeaf nRate 2 0 1000000 true, cLeaf nBurst 1 1500 1000000 true, cLeaf nLimit 1 1 64 true, cShaped]) (sp := sp) (i := 3) h.p [nQuantum, nRate, nBurst, nLimit, nShaped] _ _ _ _ _ _ _ _ rfl h.c (by simp [cLeaf, cShaped]) rfl
        (fun i nm hi => by match i, hi with | 0, hi => simp at hi; subst hi; exact ⟨_, rfl⟩ | 1, hi => simp at hi; subst hi; exact ⟨_, rfl⟩ | 2, hi => simp at hi; subst hi; exact ⟨_, rfl⟩ | 3, hi => simp at hi; subst hi; exact ⟨_, rfl⟩ | 4, hi => simp at hi; subst hi; exact ⟨_, rfl⟩ | i + 5, hi => simp at hi) (by omega) (by decide +kernel) (by simp) (.nil _ _)))

/-- What the second change gives. -/
def Later2 (base X : Nat) (w w' : World) : Prop := ∃ Bk Bp Bc Br Nn cap cap2 cap3 sp sp2 sp3, St3 w' base X Bk Bp Bc Br Nn cap cap2 cap3 sp sp2 sp3 ∧ Below base w w'

/-- The table of version 2, with limit named anew. -/
structure St2b (w : World) (base X Bk Bp Bc Br Nn cap cap2 : Nat) (sp sp2 : List Value) : Prop where
  b1 : base ≤ Bc
  b2 : base ≤ Bp
  b3 : base ≤ Br
  b4 : base ≤ Bk
  b5 : base ≤ Nn
  b6 : base ≤ X
  n2 : Bc ≠ Bk
  n3 : Bc ≠ X
  n5 : Bp ≠ Bk
  n6 : Bp ≠ X
  n8 : Bk ≠ X
  n9 : Bk ≠ Br
  n10 : Br ≠ X
  x : Blk w X (cRoot Bk 2 2) 27
  k : Blk w Bk (cLeaf nSystem 5 0 0 false ++ cList nPort 4 Bp 5 cap2) 27
  p : Blk w Bp (cPort' Bc 5 cap Br ++ cKind Nn ++ sp2) 27
  c : Blk w Bc (cClass3 ++ cShaped ++ sp) 27
  r : Blk w Br cRule 27
  n : Blk w Nn cNames 9
theorem St2b.ext {w w' : World} (hx : Ext w w') {base X Bk Bp Bc Br Nn cap cap2 : Nat} {sp sp2 : List Value} (h : St2b w base X Bk Bp Bc Br Nn cap cap2 sp sp2) : St2b w' base X Bk Bp Bc Br Nn cap cap2 sp sp2 :=
  ⟨h.b1, h.b2, h.b3, h.b4, h.b5, h.b6, h.n2, h.n3, h.n5, h.n6, h.n8, h.n9, h.n10, h.x.ext hx, h.k.ext hx, h.p.ext hx, h.c.ext hx, h.r.ext hx, h.n.ext hx⟩
theorem St2.depth {w : World} {base X Bk Bp Bc Br Nn cap cap2 : Nat} {sp sp2 : List Value} (h : St2 w base X Bk Bp Bc Br Nn cap cap2 sp sp2) : St2b (w.setCell ⟨Bc, 27, none⟩ (.string nDepth)) base X Bk Bp Bc Br Nn cap cap2 sp sp2 := by
  have m1 : Nn ≠ Bc := by rintro rfl; have := h.n.ty h.c; cases this
  exact ⟨h.b1, h.b2, h.b3, h.b4, h.b5, h.b6, h.n2, h.n3, h.n5, h.n6, h.n8, h.n9, h.n10, h.x.setCell_other h.n3.symm _, h.k.setCell_other h.n2.symm _, h.p.setCell_other h.n1.symm _, h.c.setCell 27 _, h.r.setCell_other h.n4.symm _, h.n.setCell_other m1 _⟩

theorem AddPost.st3 {w w' : World} {base X Bk Bp Bc Br Nn cap cap2 : Nat} {sp sp2 : List Value} (h : St2b w base X Bk Bp Bc Br Nn cap cap2 sp sp2)
    (ha : AddPost X 0 2 Bk (cLeaf nSystem 5 0 0 false ++ cList nPort 4 Bp 5 cap2) cWait w w') : ∃ Bk' cap3 sp3, St3 w' base X Bk' Bp Bc Br Nn cap cap2 cap3 sp sp2 sp3 ∧ Below base w w' := by
  obtain ⟨w1, M, cap3, sp3, rfl, hg, hM, hor⟩ := ha
  have b4 := h.b4
  have b6 := h.b6
  have l4 := h.x.lt
  have n8 := h.n8
  have m1 : Nn ≠ Bk := by rintro rfl; have := h.n.ty h.k; cases this
  have m2 : Nn ≠ X := by rintro rfl; have := h.n.ty h.x; cases this
  refine ⟨M, cap3, sp3, ⟨h.b1, h.b2, h.b3, by rcases hor with h | h <;> omega, h.b5, ?_, ?_, ?_, ?_, ?_, ?_⟩, ?_⟩
  · exact (grownBy_blk hg (by simpa using n8.symm) h.x).setCell 8 _
  · exact hM.setCell_other (by simp; rcases hor with h | h <;> omega) _
  · exact (grownBy_blk hg (by simpa using h.n5) h.p).setCell_other (by simpa using h.n6) _
  · exact (grownBy_blk hg (by simpa using h.n2) h.c).setCell_other (by simpa using h.n3) _
  · exact (grownBy_blk hg (by simpa using h.n9.symm) h.r).setCell_other (by simpa using h.n10) _
  · exact (grownBy_blk hg (by simpa using m1) h.n).setCell_other (by simpa using m2) _
  · exact ((Below.refl _ _).grown hg (by omega) (fun k hk => by injection hk with hk; omega)).setCell (by simp; omega) _

set_option maxHeartbeats 1000000 in
theorem sp_later2 (base X Bk Bp Bc Br Nn cap cap2 : Nat) (sp sp2 : List Value) (w : World) (h : St2 w base X Bk Bp Bc Br Nn cap cap2 sp sp2) :
    Calls Try.prog 139 #[.pointer (some ⟨X, 0, none⟩)] w fun e w' => e = .returned (.tuple #[]) ∧ Later2 base X w w' := by
  have h1 := Hd.mk h
  clear h
  go_enter Try.func139, Try.ntmps139
  go_wp2_with fail
  refine Calls.mono (sp_kid3 nPort nClass nLimit _ X 0 Bc 27 _ ?_ ?_ ?_ ((h1.out.ext (Ext.alloc _ _)).at_limit)) ?_
  · go_simp
  · go_simp
  · go_simp
  rintro e w1 ⟨rfl, hx⟩
  have hx1 := Hd.mk ((Ext.alloc _ _).trans hx)
  have h2 := Hd.mk (h1.out.ext hx1.out)
  have g := h2.out.c.cell
  have gf := h2.out.c.free
  have g27 : w1.cell? ⟨Bc, 27, none⟩ = some (.string nLimit) := by rw [g]; rfl
  have hbase := Hd.mk (show base ≤ w.heap.size from Nat.le_trans h1.out.b1 (Nat.le_of_lt h1.out.c.lt))
  clear hx g h1
  go_wp2_with fail
  have h3 := Hd.mk h2.out.depth
  have hbl := Hd.mk ((hx1.out.mono hbase.out).trans ((Below.refl base w1).setCell (p := ⟨Bc, 27, none⟩) h2.out.b1 (.string nDepth)))
  clear h2 gf g27 hx1 hbase
  generalize w1.setCell ⟨Bc, 27, none⟩ (.string nDepth) = w2 at *
  refine (sp_from _ _ _).mono ?_
  rintro e _ ⟨rfl, rfl⟩
  go_wp2_with fail
  refine Calls.mono (sp_leafB _ _ 1 1000 _ (w2.heap.size) (w2.heap.size + 1) _ ?_ ?_ ?_) ?_
  · go_simp
  · go_simp
  · go_simp
  rintro e w3 ⟨rfl, hx⟩
  have hx2 := Hd.mk (((Ext.alloc _ _).trans ((Ext.alloc _ _).trans (Ext.alloc _ _))).trans hx)
  clear hx
  go_wp2_with fail
  have hs : St2b (w3.alloc (.cells cWait.toArray 27)) base X Bk Bp Bc Br Nn cap cap2 sp sp2 := h3.out.ext (hx2.out.trans (Ext.alloc _ _))
  have hD : Blk (w3.alloc (.cells cWait.toArray 27)) w3.heap.size cWait 27 := Blk.new _ _ _
  refine Calls.mono (sp_add X 0 Bk 2 w3.heap.size 1 (cLeaf nSystem 5 0 0 false ++ cList nPort 4 Bp 5 cap2) cWait (w3.alloc (.cells cWait.toArray 27)) (hs.x.cell _) (hs.x.free _) hs.k rfl hs.n8.symm hD rfl rfl (by omega)) ?_
  rintro e w4 ⟨rfl, ha⟩
  obtain ⟨Bk', cap3, sp3, hst, hbl2⟩ := ha.st3 hs
  have hbase2 : base ≤ w2.heap.size := Nat.le_trans h3.out.b1 (Nat.le_of_lt h3.out.c.lt)
  have hfin := Hd.mk (show Later2 base X w w4 from ⟨Bk', Bp, Bc, Br, Nn, cap, cap2, cap3, sp, sp2, sp3, hst, hbl.out.trans (((hx2.out.trans (Ext.alloc w3 (.cells cWait.toArray 27))).mono hbase2).trans hbl2)⟩)
  clear hs hD ha hst hbl hbl2 hx2 h3 hbase2
  go_wp2_with fail
  go_end0
  exact ⟨rfl, hfin.out⟩

end Go.Proofs.Ytgkgedjmnbjalaa
