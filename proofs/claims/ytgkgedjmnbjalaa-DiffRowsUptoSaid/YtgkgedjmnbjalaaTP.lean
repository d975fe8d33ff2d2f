/- The document's edits: a kid that both trees have.
   Conditions: none. -/
import Derived.Test.YtgkgedjmnbjalaaTO
set_option linter.unusedSimpArgs false
namespace Go.Proofs.Ytgkgedjmnbjalaa
open Go.RowKit Go.Sort

/-- A row of edits of one's own. -/
structure OutR (B : Nat) (G : Nat → Prop) (w : World) (v : Value) (css : List (List Value)) (es : List E) : Prop where
  len : css.length = es.length
  c14 : ∀ c ∈ css, c.length = 14
  own : w.ownsRow B 68 14 v es.length css.flatten
  each : ∀ (i : Nat) e c, es[i]? = some e → css[i]? = some c → RE (fun b => v.ownBlock ≠ some b ∧ G b) w e c
theorem OutR.ext {B : Nat} {G : Nat → Prop} {w w' : World} {v : Value} {css : List (List Value)} {es : List E} (hx : Ext w w') (h : OutR B G w v css es) : OutR B G w' v css es :=
  ⟨h.len, h.c14, own_ext hx h.own, fun i e c he hc => (h.each i e c he hc).ext hx⟩
theorem OutR.nil (B : Nat) (G : Nat → Prop) (w : World) : OutR B G w (.slice none 0 0) [] [] := ⟨rfl, by simp, ⟨rfl, .inl ⟨rfl, rfl⟩⟩, fun i e c h => by simp at h⟩
theorem RE.lt {S : Nat → Prop} {w : World} {e : E} {c : List Value} (h : RE S w e c) : RE (fun b => b < w.heap.size ∧ S b) w e c := h.mono fun _ hb h => ⟨hb, h⟩
theorem OutR.mono {B B' : Nat} {G : Nat → Prop} {w : World} {v : Value} {css : List (List Value)} {es : List E} (hB : B' ≤ B) (h : OutR B G w v css es) : OutR B' G w v css es :=
  ⟨h.len, h.c14, ⟨h.own.1, h.own.2.imp id (fun ⟨g, cap, cur, a1, a2, a3⟩ => ⟨g, cap, cur, a1, Nat.le_trans hB a2, a3⟩)⟩, h.each⟩
theorem OutR.imp {B : Nat} {G G' : Nat → Prop} {w : World} {v : Value} {css : List (List Value)} {es : List E} (hG : ∀ b, b < w.heap.size → G b → G' b) (h : OutR B G w v css es) : OutR B G' w v css es :=
  ⟨h.len, h.c14, h.own, fun i e c he hc => (h.each i e c he hc).mono fun b hb hh => ⟨hh.1, hG b hb hh.2⟩⟩
/-- A new row of edits. -/
theorem OutR.new {B : Nat} {G : Nat → Prop} {w : World} {css : List (List Value)} {es : List E} {n : Nat} {cs : Array Value} (hB : B ≤ w.heap.size) (hn : es.length = n) (hl : css.length = es.length) (hcs : css.flatten = cs.toList) (h14 : ∀ c ∈ css, c.length = 14) (hm : n ≤ 1048576)
    (he : ∀ (i : Nat) e c, es[i]? = some e → css[i]? = some c → RE (fun b => b < w.heap.size ∧ G b) w e c) : OutR B G (w.alloc (.cells cs 68)) (.slice (some ⟨w.heap.size, 0, none⟩) n n) css es := by
  subst hn
  refine ⟨hl, h14, ?_, fun i e c h1 h2 => ?_⟩
  · have := own_new (w := w) (base := B) (e := 68) (sz := 14) (n := es.length) (cs := cs) hB (by simp only [maxLen]; omega) (by rw [← Array.length_toList, ← hcs, flatten_len css h14, hl])
    rw [hcs]
    exact this
  · exact ((he i e c h1 h2).ext (Ext.alloc _ _)).mono (fun b _ hb => ⟨fun e => by have := hb.1; simp [Value.ownBlock] at e; omega, hb.2⟩)
/-- More edits are laid behind. -/
theorem OutR.push {B : Nat} {G : Nat → Prop} {w w' : World} {v v' : Value} {css css2 : List (List Value)} {es es2 : List E} (h : OutR B G w v css es) (h2l : css2.length = es2.length) (h2c : ∀ c ∈ css2, c.length = 14)
    (hc : ∀ (i : Nat) e c, es2[i]? = some e → css2[i]? = some c → RE (fun b => v.ownBlock ≠ some b ∧ G b) w e c) (hown : w'.ownsRow B 68 14 v' (es.length + es2.length) (css.flatten ++ css2.flatten)) (hg : w.grownBy w' v.ownBlock) (hat : v'.ownBlock = v.ownBlock ∨ v'.ownBlock = some w.heap.size) :
    OutR B G w' v' (css ++ css2) (es ++ es2) := by
  have keep : ∀ b off u, (v.ownBlock ≠ some b ∧ G b) → w.cell? ⟨b, off, none⟩ = some u → (v'.ownBlock ≠ some b ∧ G b) ∧ w'.cell? ⟨b, off, none⟩ = some u := fun b off u hb hc => by
    have hlt := World.block_lt_of_cell? w _ hc
    refine ⟨⟨?_, hb.2⟩, ?_⟩
    · rcases hat with e | e
      · rw [e]; exact hb.1
      · rw [e]; intro he; injection he with he; simp only at hlt; omega
    · rw [← hc]; exact World.cell?_of_block (hg.block b hlt (fun e => hb.1 e.symm))
  refine ⟨by simp [h.len, h2l], fun c hc' => ?_, by simpa using hown, fun i e c he hc' => ?_⟩
  · rcases List.mem_append.1 hc' with h' | h'
    · exact h.c14 c h'
    · exact h2c c h'
  · by_cases hi : i < es.length
    · rw [List.getElem?_append_left hi] at he
      rw [List.getElem?_append_left (by rw [h.len]; exact hi)] at hc'
      exact (h.each i e c he hc').keep keep
    · rw [List.getElem?_append_right (by omega)] at he
      rw [List.getElem?_append_right (by rw [h.len]; omega), h.len] at hc'
      exact (hc _ e c he hc').keep keep
theorem OutR.row {B : Nat} {G : Nat → Prop} {w : World} {v : Value} {css : List (List Value)} {es : List E} (hl : es.length ≤ 1048576) (h : OutR B G w v css es) : ∃ A c, v = .slice A es.length c ∧ ERow (fun _ => True) w A es c := by
  obtain ⟨A, c, h1, h2, h3, h4⟩ := own_slice h.own
  refine ⟨A, c, h1, h2, hl, h3, fun i e hi => ?_⟩
  have hlt := (List.getElem?_eq_some_iff.1 hi).1
  obtain ⟨g, sp, e1, e2, e3⟩ := h4 (by omega)
  have hlt' : i < css.length := by rw [h.len]; exact hlt
  have hci := List.getElem?_eq_getElem hlt'
  refine ⟨g, 0, css[i], e1, trivial, (h.each i e _ hi hci).mono (fun _ _ _ => trivial), fun j v hv => ?_⟩
  have h5 := flatten_get css h.c14 i _ hci j v hv
  rw [e3.cell, Nat.zero_add, List.getElem?_append_left (List.getElem?_eq_some_iff.1 h5).1]
  exact h5
theorem OutR.one {B : Nat} {G : Nat → Prop} {w : World} {v : Value} {css : List (List Value)} {es : List E} (h : OutR B G w v css es) : css.flatten.all (·.oneCell') = true := by
  rw [List.all_eq_true]
  intro u hu
  obtain ⟨c, hc, huc⟩ := List.mem_flatten.1 hu
  obtain ⟨i, hi⟩ := List.getElem?_of_mem hc
  have hlt := (List.getElem?_eq_some_iff.1 hi).1
  exact List.all_eq_true.1 (h.each i _ c (List.getElem?_eq_getElem (by rw [← h.len]; exact hlt)) hi).one u huc

/-- The document's edits of a kid that both have. -/
def kidE (rec : T → T → List Step → List E) (x y : T) (wy : List Step) : List E :=
  if sameT x y = true then [] else if x.kind ≠ 0 ∧ y.kind ≠ 0 then [⟨3, wy, y, x⟩] else if x.kind = 0 ∧ y.kind = 0 then rec x y wy else [⟨2, wy, zeroT, x⟩, ⟨1, wy, y, zeroT⟩]
theorem kidE_both {rec : T → T → List Step → List E} {x y : T} {way : List Step} (h : stepT x = stepT y) : kidE rec x y (way ++ [stepT x]) = bothE rec way x y := by
  unfold kidE bothE cutE setE
  by_cases h1 : sameT x y = true
  · rw [if_pos h1, if_pos h1]
  · rw [if_neg h1, if_neg h1]
    by_cases h2 : x.kind = 0
    · by_cases h3 : y.kind = 0
      · simp [h2, h3]
      · simp [h2, h3, h]
    · by_cases h3 : y.kind = 0
      · simp [h2, h3, h]
      · simp [h2, h3]

/-- What the document's edits tell. -/
def RfPost (S : Nat → Prop) (es : List E) (w w' : World) (v : Value) : Prop := ∃ css, OutR w.heap.size (fun b => S b ∨ w.heap.size ≤ b) w' v css es ∧ Ext w w'
def RefAt (N : Nat) : Prop := ∀ (S : Nat → Prop) (w : World) (way : List Step) (A : Option Addr) (c : Nat) (a b : T) (ca cb : List Value), a.deep ≤ N → WRow S w A way c → RT S w a ca → RT S w b cb →
  way.length + a.deep ≤ 1000000 → a.size + b.size ≤ 1000000 → Calls Try.prog 101 #[.agg ca.toArray, .agg cb.toArray, .slice A way.length c] w (Ret (RfPost S (edits N a b way) w))

set_option maxRecDepth 100000 in
set_option maxHeartbeats 4000000 in
theorem ref_kid (N : Nat) (ih0 : RefAt N) {S : Nat → Prop} {w : World} {wy : List Step} {A : Option Addr} {ac : Nat} {x y : T} {c d : List Value} (hd : x.deep ≤ N) (hw : WRow S w A wy ac) (hx : RT S w x c) (hy : RT S w y d)
    (hwl : wy.length + x.deep ≤ 1000000) (hes : x.size + y.size ≤ 1000000) : Calls Try.prog 141 #[.agg c.toArray, .agg d.toArray, .slice A wy.length ac] w (Ret (RfPost S (kidE (edits N) x y wy) w)) := by
  obtain ⟨K, kc, rfl, hrow⟩ := hx.row
  obtain ⟨K', kc', rfl, hrow'⟩ := hy.row
  generalize hbe : kidE (edits N) x y wy = be
  have hbe := Hd.mk hbe
  have kw := Hd.mk hw
  have hcall := Hd.mk (fun W (h : Ext w W) => ih0 S W wy A ac x y _ _ hd (hw.ext h) (hx.ext h) (hy.ext h) hwl hes)
  have hsm := Hd.mk (fun W (h : Ext w W) => ref_same N x y S W _ _ hd (hx.ext h) (hy.ext h))
  have hre3 := Hd.mk (show RE (fun b => b < w.heap.size ∧ S b) w ⟨3, wy, y, x⟩ _ from RE.lt (S := S) ⟨A, ac, K', kc', K, kc, rfl, hw, hrow', hrow⟩)
  have hre2 := Hd.mk (show RE (fun b => b < w.heap.size ∧ S b) w ⟨2, wy, zeroT, x⟩ _ from RE.lt (S := S) ⟨A, ac, none, 0, K, kc, rfl, hw, RRow.nil _ _ _ _ (fun _ => rfl), hrow⟩)
  have hre1 := Hd.mk (show RE (fun b => b < w.heap.size ∧ S b) w ⟨1, wy, y, zeroT⟩ _ from RE.lt (S := S) ⟨A, ac, K', kc', none, 0, rfl, hw, hrow', RRow.nil _ _ _ _ (fun _ => rfl)⟩)
  clear hrow hrow' hw hx hy ih0 hd hwl hes
  simp only [cT] at hcall hsm ⊢
  go_enter Try.func141, Try.ntmps141
  go_wp2_with fail
  have kx := Hd.mk ((Ext.alloc w (.cells #[.string x.name, .string x.key, .int .i64 x.kind, .int .u64 x.num, .string x.text, .slice K x.kids.length kc] 54)).trans (Ext.alloc _ (.cells #[.string y.name, .string y.key, .int .i64 y.kind, .int .u64 y.num, .string y.text, .slice K' y.kids.length kc'] 54)))
  have kA := Hd.mk ((Blk.new w #[.string x.name, .string x.key, .int .i64 x.kind, .int .u64 x.num, .string x.text, .slice K x.kids.length kc] 54).alloc (.cells #[.string y.name, .string y.key, .int .i64 y.kind, .int .u64 y.num, .string y.text, .slice K' y.kids.length kc'] 54))
  have kB := Hd.mk (Blk.new2 w (.cells #[.string x.name, .string x.key, .int .i64 x.kind, .int .u64 x.num, .string x.text, .slice K x.kids.length kc] 54) #[.string y.name, .string y.key, .int .i64 y.kind, .int .u64 y.num, .string y.text, .slice K' y.kids.length kc'] 54)
  generalize hpA : w.heap.size = pA at *
  have hpA := Hd.mk hpA
  generalize (w.alloc _).alloc _ = W at *
  refine Calls.mono (hsm.out W kx.out) ?_
  rintro e w1 ⟨rfl, hx1⟩
  have kx1 := Hd.mk (kx.out.trans hx1)
  have kA1 := Hd.mk (kA.out.ext hx1)
  have kB1 := Hd.mk (kB.out.ext hx1)
  clear hsm kA kB kx hx1
  have gA := kA1.out.cell
  have gB := kB1.out.cell
  have hsz := Hd.mk kx1.out.size
  cases hs : sameT x y with
  | true =>
    have hb : be = [] := by rw [← hbe.out, kidE, if_pos hs]
    subst hb
    go_wp2_with fail
    go_ret
    exact ⟨_, rfl, [], OutR.nil _ _ _, kx1.out⟩
  | false =>
    have hs := Hd.mk hs
    by_cases h1 : x.kind = 0
    · by_cases h2 : y.kind = 0
      · have hb : be = edits N x y wy := by rw [← hbe.out, kidE, if_neg (by rw [hs.out]; decide), if_neg (by simp [h1]), if_pos ⟨h1, h2⟩]
        subst hb
        have h1' : (x.kind != 0) = false := by simpa using h1
        have h2' : (y.kind != 0) = false := by simpa using h2
        have hcl := Hd.mk (hcall.out w1 kx1.out)
        clear h1 h2
        go_wp2_with fail
        refine Calls.mono hcl.out ?_
        rintro e w2 ⟨v2, rfl, css2, ho2, hx2⟩
        obtain ⟨V, vc, rfl, _⟩ := own_slice ho2.own
        have ho2 := Hd.mk ((ho2.imp (G' := fun b => S b ∨ w.heap.size ≤ b) (fun b _ h => h.imp id (fun h => by have := hpA.out; have := hsz.out; omega))).mono (by have := hpA.out; have := hsz.out; omega : w.heap.size ≤ w1.heap.size))
        have hx2 := Hd.mk (kx1.out.trans hx2)
        go_wp2_with fail
        go_ret
        exact ⟨_, rfl, css2, ho2.out, hx2.out⟩
      · have hb : be = [⟨2, wy, zeroT, x⟩, ⟨1, wy, y, zeroT⟩] := by rw [← hbe.out, kidE, if_neg (by rw [hs.out]; decide), if_neg (by simp [h1]), if_neg (by simp [h2])]
        subst hb
        have h1' : (x.kind != 0) = false := by simpa using h1
        have h2' : (y.kind != 0) = true := by simpa using h2
        clear h1 h2 hcall
        go_wp2_with fail
        go_ret
        refine ⟨_, rfl, [[.int .i64 2, .slice A wy.length ac, .string ⟨#[]⟩, .string ⟨#[]⟩, .int .i64 0, .int .u64 0, .string ⟨#[]⟩, .slice none 0 0, .string x.name, .string x.key, .int .i64 x.kind, .int .u64 x.num, .string x.text, .slice K x.kids.length kc], [.int .i64 1, .slice A wy.length ac, .string y.name, .string y.key, .int .i64 y.kind, .int .u64 y.num, .string y.text, .slice K' y.kids.length kc', .string ⟨#[]⟩, .string ⟨#[]⟩, .int .i64 0, .int .u64 0, .string ⟨#[]⟩, .slice none 0 0]], OutR.new (by have := hpA.out; have := hsz.out; omega) rfl rfl rfl (fun c hc => ?_) (by omega) (fun i e c he hc => ?_), kx1.out.trans (Ext.alloc _ _)⟩
        · simp at hc
          rcases hc with rfl | rfl <;> rfl
        · match i, he, hc with
          | 0, he, hc => simp at he hc; subst he hc; exact (hre2.out.ext kx1.out).mono (fun b _ hb => ⟨by have := hb.1; have := hsz.out; have := hpA.out; omega, .inl hb.2⟩)
          | 1, he, hc => simp at he hc; subst he hc; exact (hre1.out.ext kx1.out).mono (fun b _ hb => ⟨by have := hb.1; have := hsz.out; have := hpA.out; omega, .inl hb.2⟩)
          | i + 2, he, hc => simp at he
    · by_cases h2 : y.kind = 0
      · have hb : be = [⟨2, wy, zeroT, x⟩, ⟨1, wy, y, zeroT⟩] := by rw [← hbe.out, kidE, if_neg (by rw [hs.out]; decide), if_neg (by simp [h2]), if_neg (by simp [h1])]
        subst hb
        have h1' : (x.kind != 0) = true := by simpa using h1
        have h2' : (y.kind != 0) = false := by simpa using h2
        clear h1 h2 hcall
        go_wp2_with fail
        go_ret
        refine ⟨_, rfl, [[.int .i64 2, .slice A wy.length ac, .string ⟨#[]⟩, .string ⟨#[]⟩, .int .i64 0, .int .u64 0, .string ⟨#[]⟩, .slice none 0 0, .string x.name, .string x.key, .int .i64 x.kind, .int .u64 x.num, .string x.text, .slice K x.kids.length kc], [.int .i64 1, .slice A wy.length ac, .string y.name, .string y.key, .int .i64 y.kind, .int .u64 y.num, .string y.text, .slice K' y.kids.length kc', .string ⟨#[]⟩, .string ⟨#[]⟩, .int .i64 0, .int .u64 0, .string ⟨#[]⟩, .slice none 0 0]], OutR.new (by have := hpA.out; have := hsz.out; omega) rfl rfl rfl (fun c hc => ?_) (by omega) (fun i e c he hc => ?_), kx1.out.trans (Ext.alloc _ _)⟩
        · simp at hc
          rcases hc with rfl | rfl <;> rfl
        · match i, he, hc with
          | 0, he, hc => simp at he hc; subst he hc; exact (hre2.out.ext kx1.out).mono (fun b _ hb => ⟨by have := hb.1; have := hsz.out; have := hpA.out; omega, .inl hb.2⟩)
          | 1, he, hc => simp at he hc; subst he hc; exact (hre1.out.ext kx1.out).mono (fun b _ hb => ⟨by have := hb.1; have := hsz.out; have := hpA.out; omega, .inl hb.2⟩)
          | i + 2, he, hc => simp at he
      · have hb : be = [⟨3, wy, y, x⟩] := by rw [← hbe.out, kidE, if_neg (by rw [hs.out]; decide), if_pos ⟨h1, h2⟩]
        subst hb
        have h1' : (x.kind != 0) = true := by simpa using h1
        have h2' : (y.kind != 0) = true := by simpa using h2
        clear h1 h2 hcall
        go_wp2_with fail
        go_ret
        refine ⟨_, rfl, [[.int .i64 3, .slice A wy.length ac, .string y.name, .string y.key, .int .i64 y.kind, .int .u64 y.num, .string y.text, .slice K' y.kids.length kc', .string x.name, .string x.key, .int .i64 x.kind, .int .u64 x.num, .string x.text, .slice K x.kids.length kc]], OutR.new (by have := hpA.out; have := hsz.out; omega) rfl rfl rfl (fun c hc => ?_) (by omega) (fun i e c he hc => ?_), kx1.out.trans (Ext.alloc _ _)⟩
        · simp at hc
          subst hc
          rfl
        · match i, he, hc with
          | 0, he, hc => simp at he hc; subst he hc; exact (hre3.out.ext kx1.out).mono (fun b _ hb => ⟨by have := hb.1; have := hsz.out; have := hpA.out; omega, .inl hb.2⟩)
          | i + 1, he, hc => simp at he
end Go.Proofs.Ytgkgedjmnbjalaa
