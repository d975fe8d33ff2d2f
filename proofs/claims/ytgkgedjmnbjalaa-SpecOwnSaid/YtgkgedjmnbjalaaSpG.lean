/- The tables as trees, and what it means that a value reads as one.
   Conditions: none. -/
import Derived.Test.YtgkgedjmnbjalaaSpF
set_option linter.unusedSimpArgs false
namespace Go.Proofs.Ytgkgedjmnbjalaa
open Go.RowKit Go.Sort

/-- What a configuration may have. -/
inductive Sp where
  | mk (nm : ByteArray) (kind ty mn mx : Int) (names : List ByteArray) (must : Bool) (most : Int) (kids : List Sp)
def Sp.name : Sp → ByteArray | .mk nm .. => nm
def Sp.kind : Sp → Int | .mk _ k .. => k
def Sp.kids : Sp → List Sp | .mk _ _ _ _ _ _ _ _ ks => ks
def Sp.names : Sp → List ByteArray | .mk _ _ _ _ _ ns .. => ns

def cSpec (nm : ByteArray) (kind ty mn mx : Int) (N : Option Addr) (nl nc : Nat) (must : Bool) (most : Int) (K : Option Addr) (kl kc : Nat) : List Value :=
  [.string nm, .int .i64 kind, .int .i64 ty, .int .u64 mn, .int .u64 mx, .slice N nl nc, .bool must, .int .i64 most, .slice K kl kc]

/-- These cells read as a spec; its rows are of type E, from block base on. -/
inductive RepS (E : TypeId) (base : Nat) (w : World) : Sp → List Value → Prop where
  | mk (nm : ByteArray) (kind ty mn mx : Int) (names : List ByteArray) (must : Bool) (most : Int) (kids : List Sp) (N : Option Addr) (nc : Nat) (K : Option Addr) (kc : Nat) (css : List (List Value))
    (hN : names ≠ [] → ∃ b sp, N = some ⟨b, 0, none⟩ ∧ (E = 27 → base ≤ b) ∧ Blk w b (names.map Value.string ++ sp) 9)
    (hK : kids ≠ [] → ∃ b sp, K = some ⟨b, 0, none⟩ ∧ base ≤ b ∧ Blk w b (css.flatten ++ sp) E)
    (h9 : ∀ c ∈ css, c.length = 9) (hl : css.length = kids.length)
    (hr : ∀ (i : Nat) k c, kids[i]? = some k → css[i]? = some c → RepS E base w k c)
    (hb : names.length ≤ 100 ∧ kids.length ≤ 100) :
    RepS E base w (.mk nm kind ty mn mx names must most kids) (cSpec nm kind ty mn mx N names.length nc must most K kids.length kc)

theorem RepS.ext {E : TypeId} {base : Nat} {w w' : World} (hx : Ext w w') {s : Sp} {c : List Value} (h : RepS E base w s c) : RepS E base w' s c := by
  induction h with
  | mk nm kind ty mn mx names must most kids N nc K kc css hN hK h9 hl hr hb ih =>
    refine .mk nm kind ty mn mx names must most kids N nc K kc css (fun hn => ?_) (fun hn => ?_) h9 hl ih hb
    · obtain ⟨b, sp, h1, h2, h3⟩ := hN hn; exact ⟨b, sp, h1, h2, h3.ext hx⟩
    · obtain ⟨b, sp, h1, h2, h3⟩ := hK hn; exact ⟨b, sp, h1, h2, h3.ext hx⟩

/-- It stays, where the rows of names, and those of type E from base on, stay. -/
theorem RepS.keep {E : TypeId} {base : Nat} {w w' : World} (h9 : ∀ b cs, Blk w b cs 9 → Blk w' b cs 9) (hE : ∀ b cs, base ≤ b → Blk w b cs E → Blk w' b cs E) {s : Sp} {c : List Value} (h : RepS E base w s c) : RepS E base w' s c := by
  induction h with
  | mk nm kind ty mn mx names must most kids N nc K kc css hN hK h9' hl hr hb ih =>
    refine .mk nm kind ty mn mx names must most kids N nc K kc css (fun hn => ?_) (fun hn => ?_) h9' hl ih hb
    · obtain ⟨b, sp, h1, h2, h3⟩ := hN hn; exact ⟨b, sp, h1, h2, h9 _ _ h3⟩
    · obtain ⟨b, sp, h1, h2, h3⟩ := hK hn; exact ⟨b, sp, h1, h2, hE _ _ h2 h3⟩
theorem RepS.mono {E : TypeId} {base base' : Nat} {w : World} (hb : base' ≤ base) {s : Sp} {c : List Value} (h : RepS E base w s c) : RepS E base' w s c := by
  induction h with
  | mk nm kind ty mn mx names must most kids N nc K kc css hN hK h9' hl hr hb' ih =>
    refine .mk nm kind ty mn mx names must most kids N nc K kc css (fun hn => ?_) (fun hn => ?_) h9' hl ih hb'
    · obtain ⟨b, sp, h1, h2, h3⟩ := hN hn; exact ⟨b, sp, h1, fun he => Nat.le_trans hb (h2 he), h3⟩
    · obtain ⟨b, sp, h1, h2, h3⟩ := hK hn; exact ⟨b, sp, h1, Nat.le_trans hb h2, h3⟩

def sLeaf (nm : ByteArray) (ty mn mx : Int) (must : Bool) : Sp := .mk nm 1 ty mn mx [] must 0 []
def sList (nm : ByteArray) (most : Int) (kids : List Sp) : Sp := .mk nm 3 0 0 0 [] false most kids
theorem rep_leaf (E : TypeId) (base : Nat) (w : World) (nm : ByteArray) (ty mn mx : Int) (must : Bool) : RepS E base w (sLeaf nm ty mn mx must) (cLeaf nm ty mn mx must) :=
  .mk nm 1 ty mn mx [] must 0 [] none 0 none 0 [] (fun h => absurd rfl h) (fun h => absurd rfl h) (by simp) rfl (by simp) (by simp)
theorem rep_list {E : TypeId} {base : Nat} {w : World} (nm : ByteArray) (most : Int) (kids : List Sp) (B kc : Nat) (css : List (List Value)) (sp : List Value) (n : Nat) (hn : kids.length = n)
    (hB : base ≤ B) (hb : Blk w B (css.flatten ++ sp) E) (h9 : ∀ c ∈ css, c.length = 9) (hl : css.length = kids.length) (hk : kids.length ≤ 100)
    (hr : ∀ (i : Nat) k c, kids[i]? = some k → css[i]? = some c → RepS E base w k c) : RepS E base w (sList nm most kids) (cList nm most B n kc) := by
  subst hn
  exact .mk nm 3 0 0 0 [] false most kids none 0 (some ⟨B, 0, none⟩) kc css (fun h => absurd rfl h) (fun _ => ⟨B, sp, rfl, hB, hb⟩) h9 hl hr ⟨by simp, hk⟩
theorem rep_root {E : TypeId} {base : Nat} {w : World} (kids : List Sp) (B kc : Nat) (css : List (List Value)) (sp : List Value) (n : Nat) (hn : kids.length = n)
    (hB : base ≤ B) (hb : Blk w B (css.flatten ++ sp) E) (h9 : ∀ c ∈ css, c.length = 9) (hl : css.length = kids.length) (hk : kids.length ≤ 100)
    (hr : ∀ (i : Nat) k c, kids[i]? = some k → css[i]? = some c → RepS E base w k c) : RepS E base w (.mk ⟨#[]⟩ 2 0 0 0 [] false 0 kids) (cRoot B n kc) := by
  subst hn
  exact .mk ⟨#[]⟩ 2 0 0 0 [] false 0 kids none 0 (some ⟨B, 0, none⟩) kc css (fun h => absurd rfl h) (fun _ => ⟨B, sp, rfl, hB, hb⟩) h9 hl hr ⟨by simp, hk⟩
def sKind : Sp := .mk nKind 1 4 0 0 [⟨#[101, 100, 103, 101]⟩, ⟨#[99, 111, 114, 101]⟩, ⟨#[108, 97, 98]⟩] false 0 []
theorem rep_kind (E : TypeId) (base : Nat) (w : World) (N : Nat) (hb : E = 27 → base ≤ N) (hN : Blk w N cNames 9) : RepS E base w sKind (cKind N) :=
  .mk nKind 1 4 0 0 [⟨#[101, 100, 103, 101]⟩, ⟨#[99, 111, 114, 101]⟩, ⟨#[108, 97, 98]⟩] false 0 [] (some ⟨N, 0, none⟩) 3 none 0 [] (fun _ => ⟨N, [], rfl, hb, hN⟩) (fun h => absurd rfl h) (by simp) rfl (by simp) (by simp)

/-- Pairs of rows, one by one. -/
def All2 (R : Sp → List Value → Prop) : List Sp → List (List Value) → Prop
  | [], [] => True
  | k :: ks, c :: cs => R k c ∧ All2 R ks cs
  | _, _ => False
theorem All2.get {R : Sp → List Value → Prop} : ∀ {ks : List Sp} {cs : List (List Value)}, All2 R ks cs → ∀ (i : Nat) k c, ks[i]? = some k → cs[i]? = some c → R k c
  | [], [], _, i, k, c, h, _ => by simp at h
  | x :: ks, y :: cs, h, 0, k, c, h1, h2 => by
    simp at h1 h2
    subst h1 h2
    exact h.1
  | x :: ks, y :: cs, h, i + 1, k, c, h1, h2 => All2.get h.2 i k c (by simpa using h1) (by simpa using h2)
  | [], _ :: _, h, _, _, _, _, _ => h.elim
  | _ :: _, [], h, _, _, _, _, _ => h.elim

def sClass1 : List Sp := [sLeaf nQuantum 1 1500 100000 true, sLeaf nRate 2 0 1000000 true, sLeaf nBurst 1 1500 1000000 true, sLeaf nLimit 1 1 64 true]
def sClass3 : List Sp := [sLeaf nQuantum 1 1500 100000 true, sLeaf nRate 2 0 1000000 true, sLeaf nBurst 1 1500 1000000 true, sLeaf nDepth 1 1 64 true]
def sShaped : Sp := sLeaf nShaped 3 0 0 true
def sRule : List Sp := [sLeaf ⟨#[108, 111, 119]⟩ 1 0 65535 true, sLeaf ⟨#[104, 105, 103, 104]⟩ 1 0 65535 true, sLeaf nClass 6 0 0 true]
def sPort (cl : List Sp) : List Sp := [sLeaf nUp 3 0 0 false, sList nClass 8 cl, sList nRule 16 sRule, sLeaf nDefault 6 0 0 true]
/-- The root of a version: 0 for the first one. -/
def rootSp : Nat → Sp
  | 0 => .mk ⟨#[]⟩ 2 0 0 0 [] false 0 [sLeaf nSystem 5 0 0 false, sList nPort 4 (sPort sClass1)]
  | 1 => .mk ⟨#[]⟩ 2 0 0 0 [] false 0 [sLeaf nSystem 5 0 0 false, sList nPort 4 (sPort (sClass1 ++ [sShaped]) ++ [sKind])]
  | _ => .mk ⟨#[]⟩ 2 0 0 0 [] false 0 [sLeaf nSystem 5 0 0 false, sList nPort 4 (sPort (sClass3 ++ [sShaped]) ++ [sKind]), sLeaf nWait 1 1 1000 false]

theorem rep_rule {w : World} {base B : Nat} (hB : base ≤ B) (h : Blk w B cRule 27) : RepS 27 base w (sList nRule 16 sRule) (cList nRule 16 B 3 3) :=
  rep_list _ _ _ B 3 [cLeaf ⟨#[108, 111, 119]⟩ 1 0 65535 true, cLeaf ⟨#[104, 105, 103, 104]⟩ 1 0 65535 true, cLeaf nClass 6 0 0 true] [] 3 rfl hB h (by simp [cLeaf]) rfl (by decide)
    (All2.get (ks := sRule) ⟨rep_leaf _ _ _ _ _ _ _ _, rep_leaf _ _ _ _ _ _ _ _, rep_leaf _ _ _ _ _ _ _ _, trivial⟩)

theorem StAt.rep {w : World} {base X n : Nat} (hn : n ≤ 2) (h : StAt w base X n) : ∃ c, Blk w X c 27 ∧ RepS 27 base w (rootSp n) c := by
  match n, hn, h with
  | 0, _, h =>
    obtain ⟨Bk, Bp, Bc, Br, h, hb⟩ := h
    have o1 := h.o1
    have o2 := h.o2
    have o3 := h.o3
    refine ⟨_, h.x, rep_root _ Bk 2 [cLeaf nSystem 5 0 0 false, cList nPort 4 Bp 4 4] [] 2 rfl (by omega) h.k (by simp [cLeaf, cList]) rfl (by simp) (All2.get (ks := [_, _]) ⟨rep_leaf _ _ _ _ _ _ _ _, ?_, trivial⟩)⟩
    refine rep_list _ _ _ Bp 4 [cLeaf nUp 3 0 0 false, cList nClass 8 Bc 4 4, cList nRule 16 Br 3 3, cLeaf nDefault 6 0 0 true] [] 4 rfl (by omega) h.p (by simp [cLeaf, cList]) rfl (by decide) (All2.get (ks := [_, _, _, _]) ⟨rep_leaf _ _ _ _ _ _ _ _, ?_, rep_rule (by omega) h.r, rep_leaf _ _ _ _ _ _ _ _, trivial⟩)
    exact rep_list _ _ _ Bc 4 [cLeaf nQuantum 1 1500 100000 true, cLeaf nRate 2 0 1000000 true, cLeaf nBurst 1 1500 1000000 true, cLeaf nLimit 1 1 64 true] [] 4 rfl (by omega) h.c (by simp [cLeaf]) rfl (by decide)
      (All2.get (ks := sClass1) ⟨rep_leaf _ _ _ _ _ _ _ _, rep_leaf _ _ _ _ _ _ _ _, rep_leaf _ _ _ _ _ _ _ _, rep_leaf _ _ _ _ _ _ _ _, trivial⟩)
  | 1, _, h =>
    obtain ⟨Bk, Bp, Bc, Br, Nn, cap, cap2, sp, sp2, h⟩ := h
    refine ⟨_, h.x, rep_root _ Bk 2 [cLeaf nSystem 5 0 0 false, cList nPort 4 Bp 5 cap2] [] 2 rfl h.b4 h.k (by simp [cLeaf, cList]) rfl (by simp) (All2.get (ks := [_, _]) ⟨rep_leaf _ _ _ _ _ _ _ _, ?_, trivial⟩)⟩
    refine rep_list _ _ _ Bp cap2 [cLeaf nUp 3 0 0 false, cList nClass 8 Bc 5 cap, cList nRule 16 Br 3 3, cLeaf nDefault 6 0 0 true, cKind Nn] sp2 5 rfl h.b2 h.p (by simp [cLeaf, cList, cKind]) rfl (by decide) (All2.get (ks := [_, _, _, _, _]) ⟨rep_leaf _ _ _ _ _ _ _ _, ?_, rep_rule h.b3 h.r, rep_leaf _ _ _ _ _ _ _ _, rep_kind _ _ _ _ (fun _ => h.b5) h.n, trivial⟩)
    exact rep_list _ _ _ Bc cap [cLeaf nQuantum 1 1500 100000 true, cLeaf nRate 2 0 1000000 true, cLeaf nBurst 1 1500 1000000 true, cLeaf nLimit 1 1 64 true, cShaped] sp 5 rfl h.b1 h.c (by simp [cLeaf, cShaped]) rfl (by decide)
      (All2.get (ks := [_, _, _, _, _]) ⟨rep_leaf _ _ _ _ _ _ _ _, rep_leaf _ _ _ _ _ _ _ _, rep_leaf _ _ _ _ _ _ _ _, rep_leaf _ _ _ _ _ _ _ _, rep_leaf _ _ _ _ _ _ _ _, trivial⟩)
  | 2, _, h =>
    obtain ⟨Bk, Bp, Bc, Br, Nn, cap, cap2, cap3, sp, sp2, sp3, h⟩ := h
    refine ⟨_, h.x, rep_root _ Bk cap3 [cLeaf nSystem 5 0 0 false, cList nPort 4 Bp 5 cap2, cWait] sp3 3 rfl h.b4 h.k (by simp [cLeaf, cList, cWait]) rfl (by simp) (All2.get (ks := [_, _, _]) ⟨rep_leaf _ _ _ _ _ _ _ _, ?_, rep_leaf _ _ _ _ _ _ _ _, trivial⟩)⟩
    refine rep_list _ _ _ Bp cap2 [cLeaf nUp 3 0 0 false, cList nClass 8 Bc 5 cap, cList nRule 16 Br 3 3, cLeaf nDefault 6 0 0 true, cKind Nn] sp2 5 rfl h.b2 h.p (by simp [cLeaf, cList, cKind]) rfl (by decide) (All2.get (ks := [_, _, _, _, _]) ⟨rep_leaf _ _ _ _ _ _ _ _, ?_, rep_rule h.b3 h.r, rep_leaf _ _ _ _ _ _ _ _, rep_kind _ _ _ _ (fun _ => h.b5) h.n, trivial⟩)
    exact rep_list _ _ _ Bc cap [cLeaf nQuantum 1 1500 100000 true, cLeaf nRate 2 0 1000000 true, cLeaf nBurst 1 1500 1000000 true, cLeaf nDepth 1 1 64 true, cShaped] sp 5 rfl h.b1 h.c (by simp [cLeaf, cShaped]) rfl (by decide)
      (All2.get (ks := [_, _, _, _, _]) ⟨rep_leaf _ _ _ _ _ _ _ _, rep_leaf _ _ _ _ _ _ _ _, rep_leaf _ _ _ _ _ _ _ _, rep_leaf _ _ _ _ _ _ _ _, rep_leaf _ _ _ _ _ _ _ _, trivial⟩)

def zeroSp : Sp := .mk ⟨#[]⟩ 0 0 0 0 [] false 0 []
theorem rep_zero (E : TypeId) (base : Nat) (w : World) : RepS E base w zeroSp (cSpec ⟨#[]⟩ 0 0 0 0 none 0 0 false 0 none 0 0) :=
  .mk _ 0 0 0 0 [] false 0 [] none 0 none 0 [] (fun h => absurd rfl h) (fun h => absurd rfl h) (by simp) rfl (by simp) (by simp)

/-- The document's root of a version, and its error. -/
def specRoot (v : Int) : Sp × Int := if v < 1 ∨ 3 < v then (zeroSp, 28) else (rootSp (v - 1).toNat, 0)

/-- A spec and an error are told: in new memory, and nothing else has turned. -/
def SpPost (E : TypeId) (r : Sp × Int) (w w' : World) (v : Value) : Prop := ∃ c, v = .tuple #[.agg c.toArray, .int .i64 r.2] ∧ RepS E w.heap.size w' r.1 c ∧ Ext w w'

theorem root_any (v : Int) (w : World) : Calls Try.prog 25 #[.int .i64 v] w (Ret (SpPost 27 (specRoot v) w)) := by
  by_cases h : v < 1 ∨ 3 < v
  · refine (sp_root_no v w h).mono ?_
    rintro e w' ⟨rfl, hx⟩
    rw [specRoot, if_pos h]
    exact ⟨_, rfl, _, rfl, rep_zero _ _ _, hx⟩
  · obtain ⟨n, hn, rfl⟩ : ∃ n : Nat, n ≤ 2 ∧ v = (n : Int) + 1 := ⟨(v - 1).toNat, by omega, by omega⟩
    refine (sp_root n hn w).mono ?_
    rintro e w' ⟨_, rfl, X, cells, hst, hb, rfl, hx⟩
    obtain ⟨c, h1, h2⟩ := hst.rep hn
    obtain rfl := hb.inj h1
    rw [specRoot, if_neg h]
    refine ⟨_, rfl, _, rfl, ?_, hx⟩
    have e1 : ((n : Int) + 1 - 1).toNat = n := by omega
    simp only [e1]
    exact h2.mono (Nat.le_succ _)

end Go.Proofs.Ytgkgedjmnbjalaa
