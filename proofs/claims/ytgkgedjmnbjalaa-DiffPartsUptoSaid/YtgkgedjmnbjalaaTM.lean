/- The edits of a kid that both trees have.
   Conditions: none. -/
import Derived.Test.YtgkgedjmnbjalaaTL
set_option linter.unusedSimpArgs false
namespace Go.Proofs.Ytgkgedjmnbjalaa
open Go.RowKit Go.Sort

theorem RT.of_row' {S : Nat → Prop} {w : World} {t : T} {K : Option Addr} {kc : Nat} (h : RRow S w K t.kids kc) : RT S w t [.string t.name, .string t.key, .int .i64 t.kind, .int .u64 t.num, .string t.text, .slice K t.kids.length kc] := RT.of_row h
theorem RRow.mono' {S S' : Nat → Prop} {w : World} (hs : ∀ b, b < w.heap.size → S b → S' b) {K : Option Addr} {l : List T} {kc : Nat} (h : RRow S w K l kc) : RRow S' w K l kc :=
  h.keep fun b _ _ hb hc => ⟨hs b (World.block_lt_of_cell? w _ hc) hb, hc⟩
/-- A value that lies in a box of its own, apart from out. -/
structure Aside (O : Nat) (w : World) (v : Value) (g : Nat) (u : Value) (t : TypeId) : Prop where
  blk : Blk w g [u] t
  ne1 : g ≠ O
  ne2 : v.ownBlock ≠ some g
theorem Aside.ext {O : Nat} {w w' : World} {v : Value} {g : Nat} {u : Value} {t : TypeId} (hx : Ext w w') (h : Aside O w v g u t) : Aside O w' v g u t := ⟨h.blk.ext hx, h.ne1, h.ne2⟩
theorem Aside.fr {O : Nat} {w w' : World} {v v' : Value} {g : Nat} {u : Value} {t : TypeId} (h : Aside O w v g u t) (hf : Fr O w v w' v') : Aside O w' v' g u t := ⟨hf.blk h.blk h.ne1 h.ne2, h.ne1, hf.ne h.blk.lt h.ne2⟩
theorem Aside.new {B O : Nat} {w w' : World} {v : Value} {css : List (List Value)} {es : List E} {g : Nat} {u : Value} {t : TypeId} (h : Outs B O w v css es) (hg : w.heap.size ≤ g) (hb : Blk w' g [u] t) : Aside O w' v g u t :=
  ⟨hb, fun e => by have := h.box.lt; omega, fun e => by have := own_lt h.own g e; omega⟩

/-- What the edits of two trees of a depth lay. -/
def EditsAt (N : Nat) : Prop := ∀ (B O Ed : Nat) (w : World) (v : Value) (css : List (List Value)) (es : List E) (way : List Step) (A : Option Addr) (c : Nat) (a b : T) (ca cb : List Value),
  a.deep ≤ N → Outs B O w v css es → Aside O w v Ed (.func (.func 93) #[] #[.pointer (some ⟨O, 0, none⟩), .pointer (some ⟨Ed, 0, none⟩)]) 113 →
  WRow (fun b => b ≠ O ∧ v.ownBlock ≠ some b) w A way c → RT (· < B) w a ca → RT (· < B) w b cb → way.length + a.deep ≤ 1000000 → es.length + a.size + b.size ≤ 1000000 →
  Calls Try.prog 93 #[.agg ca.toArray, .agg cb.toArray, .slice A way.length c, .pointer (some ⟨O, 0, none⟩), .pointer (some ⟨Ed, 0, none⟩)] w fun e w' => e = .returned (.tuple #[]) ∧ Laid B O w v (es ++ edits N a b way) w'

/-- The surroundings of pairs. -/
structure Env2 (B O Wy Cb Sb Ed : Nat) (w : World) (v : Value) (css : List (List Value)) (es : List E) (way : List Step) (A : Option Addr) (c : Nat) : Prop where
  env : Env B O Wy w v css es way A c
  cb : Aside O w v Cb (.func (.func 94) #[] #[.pointer (some ⟨O, 0, none⟩), .pointer (some ⟨Wy, 0, none⟩)]) 85
  sb : Aside O w v Sb (.func (.func 97) #[] #[.pointer (some ⟨O, 0, none⟩), .pointer (some ⟨Wy, 0, none⟩)]) 85
  ed : Aside O w v Ed (.func (.func 93) #[] #[.pointer (some ⟨O, 0, none⟩), .pointer (some ⟨Ed, 0, none⟩)]) 113
theorem Env2.ext {B O Wy Cb Sb Ed : Nat} {w w' : World} {v : Value} {css : List (List Value)} {es : List E} {way : List Step} {A : Option Addr} {c : Nat} (hx : Ext w w') (h : Env2 B O Wy Cb Sb Ed w v css es way A c) : Env2 B O Wy Cb Sb Ed w' v css es way A c :=
  ⟨h.env.ext hx, h.cb.ext hx, h.sb.ext hx, h.ed.ext hx⟩
theorem Env2.fr {B O Wy Cb Sb Ed : Nat} {w w' : World} {v v' : Value} {css css' : List (List Value)} {es es' : List E} {way : List Step} {A : Option Addr} {c : Nat} (h : Env2 B O Wy Cb Sb Ed w v css es way A c) (ho : Outs B O w' v' css' es') (hf : Fr O w v w' v') : Env2 B O Wy Cb Sb Ed w' v' css' es' way A c :=
  ⟨h.env.fr ho hf, h.cb.fr hf, h.sb.fr hf, h.ed.fr hf⟩
theorem Env2.args {B O Wy Cb Sb Ed : Nat} {w w' : World} {v v' : Value} {css : List (List Value)} {es : List E} {way : List Step} {A : Option Addr} {c : Nat} (h : Env2 B O Wy Cb Sb Ed w v css es way A c) (hf : Fr O w v w' v') {t : T} {cs : List Value} (ht : RT (· < B) w t cs) : RT (· < B) w' t cs :=
  ht.keep (hf.args h.env.outs.ob h.env.outs.base)
theorem Env2.argr {B O Wy Cb Sb Ed : Nat} {w w' : World} {v v' : Value} {css : List (List Value)} {es : List E} {way : List Step} {A : Option Addr} {c : Nat} (h : Env2 B O Wy Cb Sb Ed w v css es way A c) (hf : Fr O w v w' v') {K : Option Addr} {l : List T} {kc : Nat} (ht : RRow (· < B) w K l kc) : RRow (· < B) w' K l kc :=
  ht.keep (hf.args h.env.outs.ob h.env.outs.base)

set_option maxRecDepth 100000 in
set_option maxHeartbeats 4000000 in
theorem both_any (N : Nat) (ih0 : EditsAt N) {B O Wy Cb Sb Ed : Nat} {w : World} {v : Value} {css : List (List Value)} {es : List E} {way : List Step} {A : Option Addr} {ac : Nat} {x y : T} {c d : List Value} (h : Env2 B O Wy Cb Sb Ed w v css es way A ac)
    (hx : RT (· < B) w x c) (hy : RT (· < B) w y d) (hd : x.deep ≤ N) (hw : way.length + 1 + x.deep ≤ 1000000) (hes : es.length + x.size + y.size ≤ 1000000) :
    Calls Try.prog 99 #[.agg c.toArray, .agg d.toArray, .pointer (some ⟨O, 0, none⟩), .pointer (some ⟨Wy, 0, none⟩), .pointer (some ⟨Cb, 0, none⟩), .pointer (some ⟨Sb, 0, none⟩), .pointer (some ⟨Ed, 0, none⟩)] w
      fun e w' => e = .returned (.tuple #[]) ∧ Laid B O w v (es ++ bothE (edits N) way x y) w' := by
  obtain ⟨K, kc, rfl, hrow⟩ := hx.row
  obtain ⟨K', kc', rfl, hrow'⟩ := hy.row
  obtain ⟨V, vc, rfl, _⟩ := own_slice h.env.outs.own
  obtain ⟨wy, hwy⟩ : ∃ wy, Hd (way ++ [(x.name, x.key)] = wy) := ⟨_, ⟨rfl⟩⟩
  generalize hbe : bothE (edits N) way x y = be
  have hbe := Hd.mk hbe
  have hwl := Hd.mk (show wy.length = way.length + 1 by rw [← hwy.out]; simp)
  have ih := Hd.mk ih0
  have kr := Hd.mk hx
  have kr' := Hd.mk hy
  have kh := Hd.mk h
  have hOlt := Hd.mk h.env.outs.box.lt
  have hd := Hd.mk hd
  have hw := Hd.mk hw
  have hes := Hd.mk hes
  have hsx := Hd.mk (size_pos x)
  have hsy := Hd.mk (size_pos y)
  have hsm := Hd.mk (fun W (h : Ext w W) => tree_same N x y (· < B) W _ _ hd.out (kr.out.ext h) (kr'.out.ext h))
  have hlx := Hd.mk (fun W => diff_leaf x K x.kids.length kc W)
  have hly := Hd.mk (fun W => diff_leaf y K' y.kids.length kc' W)
  clear hrow hrow' h hx hy ih0
  simp only [cT] at kr kr' hsm hlx hly ⊢
  go_enter Try.func99, Try.ntmps99
  go_wp2_with fail
  have kx := Hd.mk ((Ext.alloc w (.cells #[.string x.name, .string x.key, .int .i64 x.kind, .int .u64 x.num, .string x.text, .slice K x.kids.length kc] 54)).trans (Ext.alloc _ (.cells #[.string y.name, .string y.key, .int .i64 y.kind, .int .u64 y.num, .string y.text, .slice K' y.kids.length kc'] 54)))
  have kA := Hd.mk ((Blk.new w #[.string x.name, .string x.key, .int .i64 x.kind, .int .u64 x.num, .string x.text, .slice K x.kids.length kc] 54).alloc (.cells #[.string y.name, .string y.key, .int .i64 y.kind, .int .u64 y.num, .string y.text, .slice K' y.kids.length kc'] 54))
  have kB := Hd.mk (Blk.new2 w (.cells #[.string x.name, .string x.key, .int .i64 x.kind, .int .u64 x.num, .string x.text, .slice K x.kids.length kc] 54) #[.string y.name, .string y.key, .int .i64 y.kind, .int .u64 y.num, .string y.text, .slice K' y.kids.length kc'] 54)
  have hsz := Hd.mk kx.out.size
  generalize hpA : w.heap.size = pA at *
  have hpA := Hd.mk hpA
  generalize (w.alloc _).alloc _ = W at *
  refine Calls.mono (hsm.out W kx.out) ?_
  rintro e w1 ⟨rfl, hx1⟩
  have kx1 := Hd.mk (kx.out.trans hx1)
  have kA1 := Hd.mk (kA.out.ext hx1)
  have kB1 := Hd.mk (kB.out.ext hx1)
  have hsz1 := Hd.mk (Nat.le_trans hsz.out hx1.size)
  clear hsm kA kB kx hx1 hsz
  cases hs : sameT x y with
  | true =>
    have hb : be = [] := by rw [← hbe.out, bothE, if_pos hs]
    subst hb
    go_wp2_with fail
    go_end0
    exact ⟨rfl, _, css, by rw [List.append_nil]; exact kh.out.env.outs.ext kx1.out, Fr.of_ext kx1.out⟩
  | false =>
    have hs := Hd.mk hs
    have gA := kA1.out.cell
    go_wp2_with fail
    refine Calls.mono (hlx.out _) ?_
    rintro e w2 ⟨rfl, hx2⟩
    have kx2 := Hd.mk (kx1.out.trans hx2)
    have kA2 := Hd.mk (kA1.out.ext hx2)
    have kB2 := Hd.mk (kB1.out.ext hx2)
    have hsz2 := Hd.mk (Nat.le_trans hsz1.out hx2.size)
    clear kA1 kB1 kx1 hx2 gA hsz1
    have gA := kA2.out.cell
    have gB := kB2.out.cell
    by_cases h1 : x.kind = 0
    · have h1' := Hd.mk (show (x.kind != 0) = false by simpa using h1)
      rw [h1'.out]
      replace h1 := Hd.mk h1
      go_wp2_with fail
      refine Calls.mono (hlx.out _) ?_
      rintro e w3 ⟨rfl, hx3⟩
      rw [h1'.out]
      have kx3 := Hd.mk (kx2.out.trans hx3)
      have kA3 := Hd.mk (kA2.out.ext hx3)
      have kB3 := Hd.mk (kB2.out.ext hx3)
      have hsz3 := Hd.mk (Nat.le_trans hsz2.out hx3.size)
      clear kA2 kB2 kx2 hx3 gA gB hsz2
      have gA := kA3.out.cell
      have gB := kB3.out.cell
      go_wp2_with fail
      refine Calls.mono (hly.out _) ?_
      rintro e w4 ⟨rfl, hx4⟩
      have kx4 := Hd.mk (kx3.out.trans hx4)
      have kA4 := Hd.mk (kA3.out.ext hx4)
      have kB4 := Hd.mk (kB3.out.ext hx4)
      have hsz4 := Hd.mk (Nat.le_trans hsz3.out hx4.size)
      clear kA3 kB3 kx3 hx4 gA gB hsz3
      by_cases h2 : y.kind = 0
      · have h2' := Hd.mk (show (y.kind != 0) = false by simpa using h2)
        rw [h2'.out]
        have hb : be = edits N x y wy := by rw [← hwy.out, ← hbe.out, bothE, if_neg (by rw [hs.out]; decide), if_neg (by simp [h1.out]), if_neg (by simp [h1.out, h2])]
        subst hb
        replace h2 := Hd.mk h2
        have kh4 := Hd.mk (kh.out.ext kx4.out)
        have kW := Hd.mk kh4.out.env.wayb
        have kE := Hd.mk kh4.out.ed.blk
        go_wp2_with fail
        refine Flow.wp_region_flow_l (fun qq => match qq with
          | 9 => SP.eq (.func (.func 93) #[] #[.pointer (some ⟨O, 0, none⟩), .pointer (some ⟨Ed, 0, none⟩)])
          | 10 => SP.eq (.agg #[.string x.name, .string x.key, .int .i64 x.kind, .int .u64 x.num, .string x.text, .slice K x.kids.length kc])
          | 11 => SP.eq (.agg #[.string y.name, .string y.key, .int .i64 y.kind, .int .u64 y.num, .string y.text, .slice K' y.kids.length kc'])
          | 12 => SP.eq (.slice A way.length ac)
          | 13 => SP.eq (.agg #[.string x.name, .string x.key, .int .i64 x.kind, .int .u64 x.num, .string x.text, .slice K x.kids.length kc])
          | 14 => spWay wy w4.heap.size
          | _ => SP.any) 6 (by kernel_rfl) 49 rfl (by kernel_rfl) ?_ ?_
        · skip
          refine ⟨?_, ?_, ?_, ?_, ?_, ?_, trivial⟩
          · intro act W2 hk
            refine Flow.does_intro rfl (fun Kq hK => ?_)
            have e6 : act.tmps[6]?.getD undef = .pointer (some ⟨Ed, 0, none⟩) := hk.o 6 (by kernel_rfl)
            have g := ((kE.out).ext ((Ext.drew w4).trans hk.ext)).cell
            clear hk
            go_simp
            exact hK _ _ (Ext.refl _) (fun d hd => by cases hd; rfl)
          · intro act W2 hk
            refine Flow.does_intro rfl (fun Kq hK => ?_)
            have e7 : act.tmps[7]?.getD undef = .pointer (some ⟨pA, 0, none⟩) := hk.o 7 (by kernel_rfl)
            have g := ((kA4.out).ext ((Ext.drew w4).trans hk.ext)).cell
            clear hk
            go_simp
            exact hK _ _ (Ext.refl _) (fun d hd => by cases hd; rfl)
          · intro act W2 hk
            refine Flow.does_intro rfl (fun Kq hK => ?_)
            have e8 : act.tmps[8]?.getD undef = .pointer (some ⟨(pA + 1), 0, none⟩) := hk.o 8 (by kernel_rfl)
            have g := ((kB4.out).ext ((Ext.drew w4).trans hk.ext)).cell
            clear hk
            go_simp
            exact hK _ _ (Ext.refl _) (fun d hd => by cases hd; rfl)
          · intro act W2 hk
            refine Flow.does_intro rfl (fun Kq hK => ?_)
            have e3 : act.tmps[3]?.getD undef = .pointer (some ⟨Wy, 0, none⟩) := hk.o 3 (by kernel_rfl)
            have g := ((kW.out).ext ((Ext.drew w4).trans hk.ext)).cell
            clear hk
            go_simp
            exact hK _ _ (Ext.refl _) (fun d hd => by cases hd; rfl)
          · intro act W2 hk
            refine Flow.does_intro rfl (fun Kq hK => ?_)
            have e7 : act.tmps[7]?.getD undef = .pointer (some ⟨pA, 0, none⟩) := hk.o 7 (by kernel_rfl)
            have g := ((kA4.out).ext ((Ext.drew w4).trans hk.ext)).cell
            clear hk
            go_simp
            exact hK _ _ (Ext.refl _) (fun d hd => by cases hd; rfl)
          · intro act W2 hk
            refine Flow.does_intro rfl (fun Kq hK => ?_)
            have e12 : act.tmps[12]?.getD undef = .slice A way.length ac := hk.v 12 (by kernel_rfl)
            have e13 : act.tmps[13]?.getD undef = .agg #[.string x.name, .string x.key, .int .i64 x.kind, .int .u64 x.num, .string x.text, .slice K x.kids.length kc] := hk.v 13 (by kernel_rfl)
            have hx0 := Hd.mk ((Ext.drew w4).trans hk.ext)
            have hsz0 := hx0.out.size
            have hon := Hd.mk (diff_on x K x.kids.length kc kh4.out.env.row hx0.out (by have := hw.out; omega))
            rw [hwy.out] at hon
            clear hk
            go_simp
            refine Calls.mono (hon.out) ?_
            rintro e W3 ⟨_, rfl, A', c', rfl, hr', hx⟩
            exact hK _ _ hx (fun d hd => by cases hd; exact ⟨A', c', rfl, hr'.mono (fun b _ hb => Nat.le_trans hsz0 hb)⟩)
        · intro act W2 he
          have hxW2 := Hd.mk ((Ext.drew w4).trans he.ext)
          obtain ⟨us, hA, hF⟩ := he.out [9, 10, 11, 12, 13, 14] (by kernel_rfl)
          simp only [Flow.fillL, List.contains_cons, List.contains_nil, Nat.reduceBEq, Bool.or_false, Bool.false_or, Bool.or_true, Bool.true_or, ↓reduceIte, Nat.reduceAdd, Bool.false_eq_true] at hA
          subst hA
          have f9 : us 9 = .func (.func 93) #[] #[.pointer (some ⟨O, 0, none⟩), .pointer (some ⟨Ed, 0, none⟩)] := hF 9 (by simp)
          have f10 : us 10 = .agg #[.string x.name, .string x.key, .int .i64 x.kind, .int .u64 x.num, .string x.text, .slice K x.kids.length kc] := hF 10 (by simp)
          have f11 : us 11 = .agg #[.string y.name, .string y.key, .int .i64 y.kind, .int .u64 y.num, .string y.text, .slice K' y.kids.length kc'] := hF 11 (by simp)
          have f14 : (spWay wy w4.heap.size).p (us 14) W2 := hF 14 (by simp)
          clear hF he
          rw [f9]
          clear f9
          rw [f10]
          clear f10
          rw [f11]
          clear f11
          obtain ⟨A', c', e14, hA'⟩ := (f14 : (spWay _ _).p _ _)
          have hA' := Hd.mk hA'
          generalize us 9 = u9 at *
          generalize us 10 = u10 at *
          generalize us 11 = u11 at *
          generalize us 12 = u12 at *
          generalize us 13 = u13 at *
          generalize us 14 = u14 at *
          subst e14
          have kh5 := Hd.mk (kh4.out.ext hxW2.out)
          refine (show wpList _ _ _ (⟨some 15, .call { callee := .value (.tmp 9), args := #[.tmp 10, .tmp 11, .tmp 14], argTypes := #[54, 54, 59] }, _, _, _, none⟩ :: []) _ _ from ?_)
          have hcall := Hd.mk (ih.out B O Ed W2 _ css es wy A' c' x y _ _ hd.out kh5.out.env.outs kh5.out.ed (hA'.out.mono (fun b _ hb => by have := hOlt.out; have := hsz4.out; have := hpA.out; refine ⟨by omega, fun e => ?_⟩; have := own_lt kh.out.env.outs.own _ e; omega)) ((kr.out.ext kx4.out).ext hxW2.out) ((kr'.out.ext kx4.out).ext hxW2.out) (by have := hw.out; have := hwl.out; omega) hes.out)
          go_wp2_with fail
          refine Calls.mono hcall.out ?_
          rintro e w6 ⟨rfl, v6, css6, ho6, hf6⟩
          have ho6 := Hd.mk ho6
          have hf6 := Hd.mk ((Fr.of_ext (kx4.out.trans hxW2.out)).trans hf6)
          clear hcall
          go_wp2_with fail
          go_end0
          exact ⟨rfl, v6, css6, ho6.out, hf6.out⟩
      · have h2' := Hd.mk (show (y.kind != 0) = true by simpa using h2)
        rw [h2'.out]
        have hb : be = cutE way x ++ setE way y := by rw [← hbe.out, bothE, if_neg (by rw [hs.out]; decide), if_neg (by simp [h1.out]), if_pos (.inr h2)]
        subst hb
        replace h2 := Hd.mk h2
        have kh4 := Hd.mk (kh.out.ext kx4.out)
        have gC := kh4.out.cb.blk.cell
        have gA := kA4.out.cell
        go_wp2_with fail
        refine Calls.mono (cut_any kh4.out.env (kr.out.ext kx4.out) (by have := hw.out; omega) (by have := hes.out; have := hsx.out; omega)) ?_
        rintro e w5 ⟨rfl, v5, css5, ho5, hf5⟩
        have kh5 := Hd.mk (kh4.out.fr ho5 hf5)
        have kB5 := Hd.mk (hf5.blk kB4.out (by have := hOlt.out; have := hpA.out; omega) (fun e => by have := own_lt kh.out.env.outs.own _ e; have := hpA.out; omega))
        have kry := Hd.mk (kh4.out.args hf5 (kr'.out.ext kx4.out))
        have hf5 := Hd.mk ((Fr.of_ext kx4.out).trans hf5)
        have gS := kh5.out.sb.blk.cell
        have gB := kB5.out.cell
        clear gC gA ho5
        go_wp2_with fail
        refine Calls.mono (set_any kh5.out.env kry.out (by have := hw.out; omega) (by have := hes.out; have := hsx.out; have := hsy.out; simp [cutE]; omega)) ?_
        rintro e w6 ⟨rfl, v6, css6, ho6, hf6⟩
        have ho6 := Hd.mk ho6
        have hf6 := Hd.mk (hf5.out.trans hf6)
        go_wp2_with fail
        go_end0
        exact ⟨rfl, v6, css6, by rw [← List.append_assoc]; exact ho6.out, hf6.out⟩
    · have h1' := Hd.mk (show (x.kind != 0) = true by simpa using h1)
      rw [h1'.out]
      replace h1 := Hd.mk h1
      go_wp2_with fail
      refine Calls.mono (hly.out _) ?_
      rintro e w3 ⟨rfl, hx3⟩
      have kx3 := Hd.mk (kx2.out.trans hx3)
      have kA3 := Hd.mk (kA2.out.ext hx3)
      have kB3 := Hd.mk (kB2.out.ext hx3)
      have hsz3 := Hd.mk (Nat.le_trans hsz2.out hx3.size)
      clear kA2 kB2 kx2 hx3 gA gB hsz2
      by_cases h2 : y.kind = 0
      · have h2' := Hd.mk (show (y.kind != 0) = false by simpa using h2)
        rw [h2'.out]
        have hb : be = cutE way x ++ setE way y := by rw [← hbe.out, bothE, if_neg (by rw [hs.out]; decide), if_neg (by simp [h2]), if_pos (.inl h1.out)]
        subst hb
        replace h2 := Hd.mk h2
        have gA := kA3.out.cell
        have gB := kB3.out.cell
        go_wp2_with fail
        refine Calls.mono (hlx.out _) ?_
        rintro e w4 ⟨rfl, hx4⟩
        rw [h1'.out]
        have kx4 := Hd.mk (kx3.out.trans hx4)
        have kA4 := Hd.mk (kA3.out.ext hx4)
        have kB4 := Hd.mk (kB3.out.ext hx4)
        have hsz4 := Hd.mk (Nat.le_trans hsz3.out hx4.size)
        clear kA3 kB3 kx3 hx4 gA gB hsz3
        have kh4 := Hd.mk (kh.out.ext kx4.out)
        have gC := kh4.out.cb.blk.cell
        have gA := kA4.out.cell
        go_wp2_with fail
        refine Calls.mono (cut_any kh4.out.env (kr.out.ext kx4.out) (by have := hw.out; omega) (by have := hes.out; have := hsx.out; omega)) ?_
        rintro e w5 ⟨rfl, v5, css5, ho5, hf5⟩
        have kh5 := Hd.mk (kh4.out.fr ho5 hf5)
        have kB5 := Hd.mk (hf5.blk kB4.out (by have := hOlt.out; have := hpA.out; omega) (fun e => by have := own_lt kh.out.env.outs.own _ e; have := hpA.out; omega))
        have kry := Hd.mk (kh4.out.args hf5 (kr'.out.ext kx4.out))
        have hf5 := Hd.mk ((Fr.of_ext kx4.out).trans hf5)
        have gS := kh5.out.sb.blk.cell
        have gB := kB5.out.cell
        clear gC gA ho5
        go_wp2_with fail
        refine Calls.mono (set_any kh5.out.env kry.out (by have := hw.out; omega) (by have := hes.out; have := hsx.out; have := hsy.out; simp [cutE]; omega)) ?_
        rintro e w6 ⟨rfl, v6, css6, ho6, hf6⟩
        have ho6 := Hd.mk ho6
        have hf6 := Hd.mk (hf5.out.trans hf6)
        go_wp2_with fail
        go_end0
        exact ⟨rfl, v6, css6, by rw [← List.append_assoc]; exact ho6.out, hf6.out⟩
      · have h2' := Hd.mk (show (y.kind != 0) = true by simpa using h2)
        rw [h2'.out]
        have hb : be = [⟨3, wy, y, x⟩] := by rw [← hwy.out, ← hbe.out, bothE, if_neg (by rw [hs.out]; decide), if_pos ⟨h1.out, h2⟩]
        subst hb
        have kh3 := Hd.mk (kh.out.ext kx3.out)
        have kW := Hd.mk kh3.out.env.wayb
        have kO := Hd.mk kh3.out.env.outs.box
        go_wp2_with fail
        obtain ⟨K9, kc9, e9, krow9⟩ := (kr.out.ext kx3.out).row
        obtain ⟨K8, kc8, e8, krow8⟩ := (kr'.out.ext kx3.out).row
        simp only [cT, List.cons.injEq, Value.slice.injEq, true_and, and_true] at e8 e9
        obtain ⟨rfl, rfl⟩ := e8
        obtain ⟨rfl, rfl⟩ := e9
        have krow := Hd.mk krow9
        have krow' := Hd.mk krow8
        clear krow9 krow8
        refine Flow.wp_region_flow_l (fun qq => match qq with
          | 27 => SP.eq (.slice V es.length vc)
          | 28 => SP.eq (.slice A way.length ac)
          | 29 => SP.eq (.agg #[.string x.name, .string x.key, .int .i64 x.kind, .int .u64 x.num, .string x.text, .slice K x.kids.length kc])
          | 30 => spWay wy w3.heap.size
          | 31 => SP.eq (.agg #[.string y.name, .string y.key, .int .i64 y.kind, .int .u64 y.num, .string y.text, .slice K' y.kids.length kc'])
          | 32 => SP.eq (.agg #[.string x.name, .string x.key, .int .i64 x.kind, .int .u64 x.num, .string x.text, .slice K x.kids.length kc])
          | 33 => spEd (⟨3, wy, y, x⟩ : E) B w3.heap.size
          | 34 => spEds (⟨3, wy, y, x⟩ : E) B w3.heap.size
          | _ => SP.any) 8 (by kernel_rfl) 49 rfl (by kernel_rfl) ?_ ?_
        · skip
          refine ⟨?_, ?_, ?_, ?_, ?_, ?_, ?_, ?_, trivial⟩
          · intro act W2 hk
            refine Flow.does_intro rfl (fun Kq hK => ?_)
            have e2 : act.tmps[2]?.getD undef = .pointer (some ⟨O, 0, none⟩) := hk.o 2 (by kernel_rfl)
            have g := ((kO.out).ext ((Ext.drew w3).trans hk.ext)).cell
            clear hk
            go_simp
            exact hK _ _ (Ext.refl _) (fun d hd => by cases hd; rfl)
          · intro act W2 hk
            refine Flow.does_intro rfl (fun Kq hK => ?_)
            have e3 : act.tmps[3]?.getD undef = .pointer (some ⟨Wy, 0, none⟩) := hk.o 3 (by kernel_rfl)
            have g := ((kW.out).ext ((Ext.drew w3).trans hk.ext)).cell
            clear hk
            go_simp
            exact hK _ _ (Ext.refl _) (fun d hd => by cases hd; rfl)
          · intro act W2 hk
            refine Flow.does_intro rfl (fun Kq hK => ?_)
            have e7 : act.tmps[7]?.getD undef = .pointer (some ⟨pA, 0, none⟩) := hk.o 7 (by kernel_rfl)
            have g := ((kA3.out).ext ((Ext.drew w3).trans hk.ext)).cell
            clear hk
            go_simp
            exact hK _ _ (Ext.refl _) (fun d hd => by cases hd; rfl)
          · intro act W2 hk
            refine Flow.does_intro rfl (fun Kq hK => ?_)
            have e28 : act.tmps[28]?.getD undef = .slice A way.length ac := hk.v 28 (by kernel_rfl)
            have e29 : act.tmps[29]?.getD undef = .agg #[.string x.name, .string x.key, .int .i64 x.kind, .int .u64 x.num, .string x.text, .slice K x.kids.length kc] := hk.v 29 (by kernel_rfl)
            have hx0 := Hd.mk ((Ext.drew w3).trans hk.ext)
            have hsz0 := hx0.out.size
            have hon := Hd.mk (diff_on x K x.kids.length kc kh3.out.env.row hx0.out (by have := hw.out; omega))
            rw [hwy.out] at hon
            clear hk
            go_simp
            refine Calls.mono (hon.out) ?_
            rintro e W3 ⟨_, rfl, A', c', rfl, hr', hx⟩
            exact hK _ _ hx (fun d hd => by cases hd; exact ⟨A', c', rfl, hr'.mono (fun b _ hb => Nat.le_trans hsz0 hb)⟩)
          · intro act W2 hk
            refine Flow.does_intro rfl (fun Kq hK => ?_)
            have e8 : act.tmps[8]?.getD undef = .pointer (some ⟨(pA + 1), 0, none⟩) := hk.o 8 (by kernel_rfl)
            have g := ((kB3.out).ext ((Ext.drew w3).trans hk.ext)).cell
            clear hk
            go_simp
            exact hK _ _ (Ext.refl _) (fun d hd => by cases hd; rfl)
          · intro act W2 hk
            refine Flow.does_intro rfl (fun Kq hK => ?_)
            have e7 : act.tmps[7]?.getD undef = .pointer (some ⟨pA, 0, none⟩) := hk.o 7 (by kernel_rfl)
            have g := ((kA3.out).ext ((Ext.drew w3).trans hk.ext)).cell
            clear hk
            go_simp
            exact hK _ _ (Ext.refl _) (fun d hd => by cases hd; rfl)
          · intro act W2 hk
            refine Flow.does_intro rfl (fun Kq hK => ?_)
            have e31 : act.tmps[31]?.getD undef = .agg #[.string y.name, .string y.key, .int .i64 y.kind, .int .u64 y.num, .string y.text, .slice K' y.kids.length kc'] := hk.v 31 (by kernel_rfl)
            have e32 : act.tmps[32]?.getD undef = .agg #[.string x.name, .string x.key, .int .i64 x.kind, .int .u64 x.num, .string x.text, .slice K x.kids.length kc] := hk.v 32 (by kernel_rfl)
            have hx0 := Hd.mk ((Ext.drew w3).trans hk.ext)
            obtain ⟨A', c', e30, h30⟩ := (hk.v 30 (by kernel_rfl) : (spWay _ _).p _ _)
            have h30 := Hd.mk h30
            clear hk
            go_simp
            exact hK _ _ (Ext.refl _) (fun d hd => by cases hd; exact ⟨_, rfl, A', c', K', kc', K, kc, rfl, h30.out.mono (fun b _ hb => .inr hb), ((krow'.out.ext hx0.out).mono' (fun b _ hb => .inl hb)), ((krow.out.ext hx0.out).mono' (fun b _ hb => .inl hb))⟩)
          · intro act W2 hk
            refine Flow.does_intro rfl (fun Kq hK => ?_)
            obtain ⟨c', e33, h33⟩ := (hk.v 33 (by kernel_rfl) : (spEd _ _ _).p _ _)
            have h33' := h33
            obtain ⟨q1, q2, q3, q4, q5, q6, rfl, _⟩ := h33'
            simp only [cT, List.cons_append, List.nil_append] at e33
            have h33 := Hd.mk h33
            clear hk
            go_simp
            exact hK _ _ (Ext.alloc _ _) (fun d hd => by cases hd; exact ⟨_, _, rfl, Blk.new _ _ _, h33.out.ext (Ext.alloc _ _)⟩)
        · intro act W2 he
          have hxW2 := Hd.mk ((Ext.drew w3).trans he.ext)
          obtain ⟨us, hA, hF⟩ := he.out [27, 28, 29, 30, 31, 32, 33, 34] (by kernel_rfl)
          simp only [Flow.fillL, List.contains_cons, List.contains_nil, Nat.reduceBEq, Bool.or_false, Bool.false_or, Bool.or_true, Bool.true_or, ↓reduceIte, Nat.reduceAdd, Bool.false_eq_true] at hA
          subst hA
          have f27 : us 27 = .slice V es.length vc := hF 27 (by simp)
          have f34 : (spEds (⟨3, wy, y, x⟩ : E) B w3.heap.size).p (us 34) W2 := hF 34 (by simp)
          clear hF he
          rw [f27]
          clear f27
          obtain ⟨D, c', e34, hD, hre⟩ := (f34 : (spEds _ _ _).p _ _)
          have hre' := hre
          obtain ⟨q1, q2, q3, q4, q5, q6, rfl, _⟩ := hre'
          have hD := Hd.mk hD
          have hre := Hd.mk hre
          generalize us 27 = u27 at *
          generalize us 28 = u28 at *
          generalize us 29 = u29 at *
          generalize us 30 = u30 at *
          generalize us 31 = u31 at *
          generalize us 32 = u32 at *
          generalize us 33 = u33 at *
          generalize us 34 = u34 at *
          subst e34
          have kh4 := Hd.mk (kh3.out.ext hxW2.out)
          have hO2 := Hd.mk kh4.out.env.outs.box
          have hsz4 := Hd.mk (Nat.le_trans hsz3.out hxW2.out.size)
          have hB := Hd.mk kh.out.env.outs.ob
          refine (show wpList _ _ _ (⟨some 35, .call { callee := .builtin .append, args := #[.tmp 27, .tmp 34], argTypes := #[57, 57] }, _, _, _, none⟩ :: _) _ _ from ?_)
          refine wpl_append sl57 (by omega) (by omega) (.tmp 27) (.tmp 34) 35 _ _ _ B (.slice V es.length vc) es.length css.flatten rfl kh4.out.env.outs.own D 0 1 1 _ rfl (by rw [hre.out.len]) (fun i u hi => by rw [Nat.zero_add, hD.out.cell]; exact hi) hre.out.one (by have := hes.out; have := hsx.out; omega) (by have := hO2.out.lt; have := hB.out; omega) ?_
          intro v' w' hown hgr hat
          obtain ⟨V', vc', rfl, _⟩ := own_slice hown
          have hp := Hd.mk (Outs.push kh4.out.env.outs (hre.out.mono (fun b hb h => by have h1 := hOlt.out; have h2 := hB.out; have h3 := hpA.out; have h4 := hsz3.out; refine ⟨by omega, fun hh => ?_⟩; have h5 := kh.out.env.outs.base b hh; have h6 := own_lt kh.out.env.outs.own b hh; omega)) hown hgr hat)
          have hbox := Hd.mk (grownBy_blk' hgr (fun e => kh4.out.env.outs.ne e.symm) hO2.out)
          clear hown hgr hat
          have gO := hbox.out.cell
          have fO := hbox.out.free
          go_wp2_with fail
          go_end0
          exact ⟨rfl, _, _, hp.out.1, (Fr.of_ext (kx3.out.trans hxW2.out)).trans hp.out.2⟩
end Go.Proofs.Ytgkgedjmnbjalaa
