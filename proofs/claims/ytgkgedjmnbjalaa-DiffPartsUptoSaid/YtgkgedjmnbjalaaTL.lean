/- The edit of a kid that only one of two trees has.
   Conditions: none. -/
import Derived.Test.YtgkgedjmnbjalaaTK
set_option linter.unusedSimpArgs false
namespace Go.Proofs.Ytgkgedjmnbjalaa
open Go.RowKit Go.Sort

/-- A way that has been told. -/
def spWay (l : List Step) (B : Nat) : SP := ⟨fun v w => ∃ A c, v = .slice A l.length c ∧ WRow (B ≤ ·) w A l c, fun _ _ _ h ⟨A, c, e, hr⟩ => ⟨A, c, e, hr.ext h⟩⟩
/-- An edit, what it holds lying below B or from block D on. -/
def spEd (e : E) (B D : Nat) : SP := ⟨fun v w => ∃ c : List Value, v = .agg c.toArray ∧ RE (fun b => b < B ∨ D ≤ b) w e c, fun _ _ _ h ⟨c, e1, hr⟩ => ⟨c, e1, hr.ext h⟩⟩
def spEds (e : E) (B D : Nat) : SP := ⟨fun v w => ∃ (g : Nat) (c : List Value), v = .slice (some ⟨g, 0, none⟩) 1 1 ∧ Blk w g c 68 ∧ RE (fun b => b < B ∨ D ≤ b) w e c, fun _ _ _ h ⟨g, c, e1, hb, hr⟩ => ⟨g, c, e1, hb.ext h, hr.ext h⟩⟩

/-- The surroundings in which edits are laid: out, and the way. -/
structure Env (B O Wy : Nat) (w : World) (v : Value) (css : List (List Value)) (es : List E) (way : List Step) (A : Option Addr) (c : Nat) : Prop where
  outs : Outs B O w v css es
  wayb : Blk w Wy [.slice A way.length c] 59
  ne1 : Wy ≠ O
  ne2 : v.ownBlock ≠ some Wy
  row : WRow (fun b => b ≠ O ∧ v.ownBlock ≠ some b) w A way c
theorem Env.ext {B O Wy : Nat} {w w' : World} {v : Value} {css : List (List Value)} {es : List E} {way : List Step} {A : Option Addr} {c : Nat} (hx : Ext w w') (h : Env B O Wy w v css es way A c) : Env B O Wy w' v css es way A c :=
  ⟨h.outs.ext hx, h.wayb.ext hx, h.ne1, h.ne2, h.row.ext hx⟩
theorem Env.fr {B O Wy : Nat} {w w' : World} {v v' : Value} {css css' : List (List Value)} {es es' : List E} {way : List Step} {A : Option Addr} {c : Nat} (h : Env B O Wy w v css es way A c) (ho : Outs B O w' v' css' es') (hf : Fr O w v w' v') : Env B O Wy w' v' css' es' way A c :=
  ⟨ho, hf.blk h.wayb h.ne1 h.ne2, h.ne1, hf.ne h.wayb.lt h.ne2, h.row.keep hf.keep⟩
/-- More edits have been laid. -/
def Laid (B O : Nat) (w : World) (v : Value) (es : List E) (w' : World) : Prop := ∃ v' css', Outs B O w' v' css' es ∧ Fr O w v w' v'

set_option maxRecDepth 100000 in
set_option maxHeartbeats 4000000 in
theorem cut_any {B O Wy : Nat} {w : World} {v : Value} {css : List (List Value)} {es : List E} {way : List Step} {A : Option Addr} {ac : Nat} {x : T} {c : List Value} (h : Env B O Wy w v css es way A ac) (hx : RT (· < B) w x c)
    (hw : way.length + 1 ≤ 1048576) (hes : es.length + 1 ≤ 1048576) :
    Calls Try.prog 94 #[.agg c.toArray, .pointer (some ⟨O, 0, none⟩), .pointer (some ⟨Wy, 0, none⟩)] w fun e w' => e = .returned (.tuple #[]) ∧ Laid B O w v (es ++ cutE way x) w' := by
  obtain ⟨K, kc, rfl, hrow⟩ := hx.row
  obtain ⟨V, vc, rfl, _⟩ := own_slice h.outs.own
  obtain ⟨wy, hwy⟩ : ∃ wy, Hd (way ++ [(x.name, x.key)] = wy) := ⟨_, ⟨rfl⟩⟩
  have hce : cutE way x = [⟨2, wy, zeroT, x⟩] := by rw [← hwy.out]; rfl
  rw [hce]
  clear hce
  have kr := Hd.mk hx
  have kh := Hd.mk h
  have hOlt := Hd.mk h.outs.box.lt
  clear hrow h hx
  simp only [cT] at kr ⊢
  go_enter Try.func94, Try.ntmps94
  go_wp2_with fail
  have kx := Hd.mk (Ext.alloc w (.cells #[.string x.name, .string x.key, .int .i64 x.kind, .int .u64 x.num, .string x.text, .slice K x.kids.length kc] 54))
  have kA := Hd.mk (Blk.new w #[.string x.name, .string x.key, .int .i64 x.kind, .int .u64 x.num, .string x.text, .slice K x.kids.length kc] 54)
  have kh2 := Hd.mk (kh.out.ext kx.out)
  have kO := Hd.mk kh2.out.outs.box
  have kW := Hd.mk kh2.out.wayb
  have hsz := Hd.mk kx.out.size
  generalize hpA : w.heap.size = pA at *
  have hpA := Hd.mk hpA
  generalize w.alloc _ = W at *
  refine Flow.wp_region_flow_l (fun qq => match qq with
    | 4 => SP.eq (.slice V es.length vc)
    | 5 => SP.eq (.slice A way.length ac)
    | 6 => SP.eq (.agg #[.string x.name, .string x.key, .int .i64 x.kind, .int .u64 x.num, .string x.text, .slice K x.kids.length kc])
    | 7 => spWay wy W.heap.size
    | 8 => SP.eq (.agg #[.string x.name, .string x.key, .int .i64 x.kind, .int .u64 x.num, .string x.text, .slice K x.kids.length kc])
    | 9 => spT x W.heap.size
    | 10 => spEd (⟨2, wy, zeroT, x⟩ : E) B W.heap.size
    | 11 => spEds (⟨2, wy, zeroT, x⟩ : E) B W.heap.size
    | _ => SP.any) 8 (by kernel_rfl) 13 rfl (by kernel_rfl) ?_ ?_
  · skip
    refine ⟨?_, ?_, ?_, ?_, ?_, ?_, ?_, ?_, trivial⟩
    · intro act W2 hk
      refine Flow.does_intro rfl (fun Kq hK => ?_)
      have e1 : act.tmps[1]?.getD undef = .pointer (some ⟨O, 0, none⟩) := hk.o 1 (by kernel_rfl)
      have g := ((kO.out).ext ((Ext.drew W).trans hk.ext)).cell
      clear hk
      go_simp
      exact hK _ _ (Ext.refl _) (fun d hd => by cases hd; rfl)
    · intro act W2 hk
      refine Flow.does_intro rfl (fun Kq hK => ?_)
      have e2 : act.tmps[2]?.getD undef = .pointer (some ⟨Wy, 0, none⟩) := hk.o 2 (by kernel_rfl)
      have g := ((kW.out).ext ((Ext.drew W).trans hk.ext)).cell
      clear hk
      go_simp
      exact hK _ _ (Ext.refl _) (fun d hd => by cases hd; rfl)
    · intro act W2 hk
      refine Flow.does_intro rfl (fun Kq hK => ?_)
      have e3 : act.tmps[3]?.getD undef = .pointer (some ⟨pA, 0, none⟩) := hk.o 3 (by kernel_rfl)
      have g := ((kA.out).ext ((Ext.drew W).trans hk.ext)).cell
      clear hk
      go_simp
      exact hK _ _ (Ext.refl _) (fun d hd => by cases hd; rfl)
    · intro act W2 hk
      refine Flow.does_intro rfl (fun Kq hK => ?_)
      have e5 : act.tmps[5]?.getD undef = .slice A way.length ac := hk.v 5 (by kernel_rfl)
      have e6 : act.tmps[6]?.getD undef = .agg #[.string x.name, .string x.key, .int .i64 x.kind, .int .u64 x.num, .string x.text, .slice K x.kids.length kc] := hk.v 6 (by kernel_rfl)
      have hx0 := Hd.mk ((Ext.drew W).trans hk.ext)
      have hsz0 := hx0.out.size
      have hon := Hd.mk (diff_on x K x.kids.length kc kh2.out.row hx0.out hw)
      rw [hwy.out] at hon
      clear hk
      go_simp
      refine Calls.mono (hon.out) ?_
      rintro e W3 ⟨_, rfl, A', c', rfl, hr', hx⟩
      exact hK _ _ hx (fun d hd => by cases hd; exact ⟨A', c', rfl, hr'.mono (fun b _ hb => Nat.le_trans hsz0 hb)⟩)
    · intro act W2 hk
      refine Flow.does_intro rfl (fun Kq hK => ?_)
      have e3 : act.tmps[3]?.getD undef = .pointer (some ⟨pA, 0, none⟩) := hk.o 3 (by kernel_rfl)
      have g := ((kA.out).ext ((Ext.drew W).trans hk.ext)).cell
      clear hk
      go_simp
      exact hK _ _ (Ext.refl _) (fun d hd => by cases hd; rfl)
    · intro act W2 hk
      refine Flow.does_intro rfl (fun Kq hK => ?_)
      have e8 : act.tmps[8]?.getD undef = .agg #[.string x.name, .string x.key, .int .i64 x.kind, .int .u64 x.num, .string x.text, .slice K x.kids.length kc] := hk.v 8 (by kernel_rfl)
      have hx0 := Hd.mk ((Ext.drew W).trans hk.ext)
      have hsz0 := hx0.out.size
      clear hk
      go_simp
      refine Calls.mono (diff_clone x _ _ _ ((kr.out.ext kx.out).ext hx0.out)) ?_
      rintro e W3 ⟨_, rfl, c', rfl, hr', hx⟩
      exact hK _ _ hx (fun d hd => by cases hd; exact ⟨c', rfl, hr'.mono (fun b _ hb => Nat.le_trans hsz0 hb)⟩)
    · intro act W2 hk
      refine Flow.does_intro rfl (fun Kq hK => ?_)
      obtain ⟨A', c', e7, h7⟩ := (hk.v 7 (by kernel_rfl) : (spWay _ _).p _ _)
      obtain ⟨d', e9, h9⟩ := (hk.v 9 (by kernel_rfl) : (spT _ _).p _ _)
      obtain ⟨K2, k2, rfl, h9r⟩ := h9.row
      simp only [cT] at e9
      have h7 := Hd.mk h7
      have h9r := Hd.mk h9r
      clear h9
      clear hk
      go_simp
      exact hK _ _ (Ext.refl _) (fun d hd => by cases hd; exact ⟨_, rfl, A', c', none, 0, K2, k2, by simp [cT, zeroT, T.name, T.key, T.kind, T.num, T.text, T.kids], h7.out.mono (fun b _ hb => .inr hb), RRow.nil _ _ _ _ (fun _ => rfl), h9r.out.keep (fun b off v hb hc => ⟨.inr hb, hc⟩)⟩)
    · intro act W2 hk
      refine Flow.does_intro rfl (fun Kq hK => ?_)
      obtain ⟨c', e10, h10⟩ := (hk.v 10 (by kernel_rfl) : (spEd _ _ _).p _ _)
      have h10' := h10
      obtain ⟨q1, q2, q3, q4, q5, q6, rfl, _⟩ := h10'
      simp only [cT, List.cons_append, List.nil_append] at e10
      have h10 := Hd.mk h10
      clear hk
      go_simp
      exact hK _ _ (Ext.alloc _ _) (fun d hd => by cases hd; exact ⟨_, _, rfl, Blk.new _ _ _, h10.out.ext (Ext.alloc _ _)⟩)
  · intro act W2 he
    have hxW2 := Hd.mk ((Ext.drew W).trans he.ext)
    obtain ⟨us, hA, hF⟩ := he.out [4, 5, 6, 7, 8, 9, 10, 11] (by kernel_rfl)
    simp only [Flow.fillL, List.contains_cons, List.contains_nil, Nat.reduceBEq, Bool.or_false, Bool.false_or, Bool.or_true, Bool.true_or, ↓reduceIte, Nat.reduceAdd, Bool.false_eq_true] at hA
    subst hA
    have f4 : us 4 = .slice V es.length vc := hF 4 (by simp)
    have f11 : (spEds (⟨2, wy, zeroT, x⟩ : E) B W.heap.size).p (us 11) W2 := hF 11 (by simp)
    clear hF he
    rw [f4]
    clear f4
    obtain ⟨D, c', e11, hD, hre⟩ := (f11 : (spEds _ _ _).p _ _)
    have hre' := hre
    obtain ⟨q1, q2, q3, q4, q5, q6, rfl, _⟩ := hre'
    have hD := Hd.mk hD
    have hre := Hd.mk hre
    generalize us 5 = u5 at *
    generalize us 6 = u6 at *
    generalize us 7 = u7 at *
    generalize us 8 = u8 at *
    generalize us 9 = u9 at *
    generalize us 10 = u10 at *
    generalize us 11 = u11 at *
    subst e11
    have kh3 := Hd.mk (kh2.out.ext hxW2.out)
    have hO2 := Hd.mk kh3.out.outs.box
    have hsz2 := Hd.mk (Nat.le_trans hsz.out hxW2.out.size)
    have hB := Hd.mk kh.out.outs.ob
    refine (show wpList _ _ _ (⟨some 12, .call { callee := .builtin .append, args := #[.tmp 4, .tmp 11], argTypes := #[57, 57] }, _, _, _, none⟩ :: _) _ _ from ?_)
    refine wpl_append sl57 (by omega) (by omega) (.tmp 4) (.tmp 11) 12 _ _ _ B (.slice V es.length vc) es.length css.flatten rfl kh3.out.outs.own D 0 1 1 _ rfl (by rw [hre.out.len]) (fun i u hi => by rw [Nat.zero_add, hD.out.cell]; exact hi) hre.out.one (by omega) (by have := hO2.out.lt; have := hB.out; omega) ?_
    intro v' w' hown hgr hat
    obtain ⟨V', vc', rfl, _⟩ := own_slice hown
    have hp := Hd.mk (Outs.push kh3.out.outs (hre.out.mono (fun b hb h => by have h1 := hOlt.out; have h2 := hB.out; have h3 := hpA.out; have h4 := hsz.out; refine ⟨by omega, fun hh => ?_⟩; have h5 := kh.out.outs.base b hh; have h6 := own_lt kh.out.outs.own b hh; omega)) hown hgr hat)
    have hbox := Hd.mk (grownBy_blk' hgr (fun e => kh3.out.outs.ne e.symm) hO2.out)
    clear hown hgr hat
    have gO := hbox.out.cell
    have fO := hbox.out.free
    go_wp2_with fail
    go_end0
    exact ⟨rfl, _, _, hp.out.1, (Fr.of_ext (kx.out.trans hxW2.out)).trans hp.out.2⟩

set_option maxRecDepth 100000 in
set_option maxHeartbeats 4000000 in
theorem set_any {B O Wy : Nat} {w : World} {v : Value} {css : List (List Value)} {es : List E} {way : List Step} {A : Option Addr} {ac : Nat} {x : T} {c : List Value} (h : Env B O Wy w v css es way A ac) (hx : RT (· < B) w x c)
    (hw : way.length + 1 ≤ 1048576) (hes : es.length + 1 ≤ 1048576) :
    Calls Try.prog 97 #[.agg c.toArray, .pointer (some ⟨O, 0, none⟩), .pointer (some ⟨Wy, 0, none⟩)] w fun e w' => e = .returned (.tuple #[]) ∧ Laid B O w v (es ++ setE way x) w' := by
  obtain ⟨K, kc, rfl, hrow⟩ := hx.row
  obtain ⟨V, vc, rfl, _⟩ := own_slice h.outs.own
  obtain ⟨wy, hwy⟩ : ∃ wy, Hd (way ++ [(x.name, x.key)] = wy) := ⟨_, ⟨rfl⟩⟩
  have hce : setE way x = [⟨1, wy, x, zeroT⟩] := by rw [← hwy.out]; rfl
  rw [hce]
  clear hce
  have kr := Hd.mk hx
  have kh := Hd.mk h
  have hOlt := Hd.mk h.outs.box.lt
  clear hrow h hx
  simp only [cT] at kr ⊢
  go_enter Try.func97, Try.ntmps97
  go_wp2_with fail
  have kx := Hd.mk (Ext.alloc w (.cells #[.string x.name, .string x.key, .int .i64 x.kind, .int .u64 x.num, .string x.text, .slice K x.kids.length kc] 54))
  have kA := Hd.mk (Blk.new w #[.string x.name, .string x.key, .int .i64 x.kind, .int .u64 x.num, .string x.text, .slice K x.kids.length kc] 54)
  have kh2 := Hd.mk (kh.out.ext kx.out)
  have kO := Hd.mk kh2.out.outs.box
  have kW := Hd.mk kh2.out.wayb
  have hsz := Hd.mk kx.out.size
  generalize hpA : w.heap.size = pA at *
  have hpA := Hd.mk hpA
  generalize w.alloc _ = W at *
  refine Flow.wp_region_flow_l (fun qq => match qq with
    | 4 => SP.eq (.slice V es.length vc)
    | 5 => SP.eq (.slice A way.length ac)
    | 6 => SP.eq (.agg #[.string x.name, .string x.key, .int .i64 x.kind, .int .u64 x.num, .string x.text, .slice K x.kids.length kc])
    | 7 => spWay wy W.heap.size
    | 8 => SP.eq (.agg #[.string x.name, .string x.key, .int .i64 x.kind, .int .u64 x.num, .string x.text, .slice K x.kids.length kc])
    | 9 => spT x W.heap.size
    | 10 => spEd (⟨1, wy, x, zeroT⟩ : E) B W.heap.size
    | 11 => spEds (⟨1, wy, x, zeroT⟩ : E) B W.heap.size
    | _ => SP.any) 8 (by kernel_rfl) 13 rfl (by kernel_rfl) ?_ ?_
  · skip
    refine ⟨?_, ?_, ?_, ?_, ?_, ?_, ?_, ?_, trivial⟩
    · intro act W2 hk
      refine Flow.does_intro rfl (fun Kq hK => ?_)
      have e1 : act.tmps[1]?.getD undef = .pointer (some ⟨O, 0, none⟩) := hk.o 1 (by kernel_rfl)
      have g := ((kO.out).ext ((Ext.drew W).trans hk.ext)).cell
      clear hk
      go_simp
      exact hK _ _ (Ext.refl _) (fun d hd => by cases hd; rfl)
    · intro act W2 hk
      refine Flow.does_intro rfl (fun Kq hK => ?_)
      have e2 : act.tmps[2]?.getD undef = .pointer (some ⟨Wy, 0, none⟩) := hk.o 2 (by kernel_rfl)
      have g := ((kW.out).ext ((Ext.drew W).trans hk.ext)).cell
      clear hk
      go_simp
      exact hK _ _ (Ext.refl _) (fun d hd => by cases hd; rfl)
    · intro act W2 hk
      refine Flow.does_intro rfl (fun Kq hK => ?_)
      have e3 : act.tmps[3]?.getD undef = .pointer (some ⟨pA, 0, none⟩) := hk.o 3 (by kernel_rfl)
      have g := ((kA.out).ext ((Ext.drew W).trans hk.ext)).cell
      clear hk
      go_simp
      exact hK _ _ (Ext.refl _) (fun d hd => by cases hd; rfl)
    · intro act W2 hk
      refine Flow.does_intro rfl (fun Kq hK => ?_)
      have e5 : act.tmps[5]?.getD undef = .slice A way.length ac := hk.v 5 (by kernel_rfl)
      have e6 : act.tmps[6]?.getD undef = .agg #[.string x.name, .string x.key, .int .i64 x.kind, .int .u64 x.num, .string x.text, .slice K x.kids.length kc] := hk.v 6 (by kernel_rfl)
      have hx0 := Hd.mk ((Ext.drew W).trans hk.ext)
      have hsz0 := hx0.out.size
      have hon := Hd.mk (diff_on x K x.kids.length kc kh2.out.row hx0.out hw)
      rw [hwy.out] at hon
      clear hk
      go_simp
      refine Calls.mono (hon.out) ?_
      rintro e W3 ⟨_, rfl, A', c', rfl, hr', hx⟩
      exact hK _ _ hx (fun d hd => by cases hd; exact ⟨A', c', rfl, hr'.mono (fun b _ hb => Nat.le_trans hsz0 hb)⟩)
    · intro act W2 hk
      refine Flow.does_intro rfl (fun Kq hK => ?_)
      have e3 : act.tmps[3]?.getD undef = .pointer (some ⟨pA, 0, none⟩) := hk.o 3 (by kernel_rfl)
      have g := ((kA.out).ext ((Ext.drew W).trans hk.ext)).cell
      clear hk
      go_simp
      exact hK _ _ (Ext.refl _) (fun d hd => by cases hd; rfl)
    · intro act W2 hk
      refine Flow.does_intro rfl (fun Kq hK => ?_)
      have e8 : act.tmps[8]?.getD undef = .agg #[.string x.name, .string x.key, .int .i64 x.kind, .int .u64 x.num, .string x.text, .slice K x.kids.length kc] := hk.v 8 (by kernel_rfl)
      have hx0 := Hd.mk ((Ext.drew W).trans hk.ext)
      have hsz0 := hx0.out.size
      clear hk
      go_simp
      refine Calls.mono (diff_clone x _ _ _ ((kr.out.ext kx.out).ext hx0.out)) ?_
      rintro e W3 ⟨_, rfl, c', rfl, hr', hx⟩
      exact hK _ _ hx (fun d hd => by cases hd; exact ⟨c', rfl, hr'.mono (fun b _ hb => Nat.le_trans hsz0 hb)⟩)
    · intro act W2 hk
      refine Flow.does_intro rfl (fun Kq hK => ?_)
      obtain ⟨A', c', e7, h7⟩ := (hk.v 7 (by kernel_rfl) : (spWay _ _).p _ _)
      obtain ⟨d', e9, h9⟩ := (hk.v 9 (by kernel_rfl) : (spT _ _).p _ _)
      obtain ⟨K2, k2, rfl, h9r⟩ := h9.row
      simp only [cT] at e9
      have h7 := Hd.mk h7
      have h9r := Hd.mk h9r
      clear h9
      clear hk
      go_simp
      exact hK _ _ (Ext.refl _) (fun d hd => by cases hd; exact ⟨_, rfl, A', c', K2, k2, none, 0, by simp [cT, zeroT, T.name, T.key, T.kind, T.num, T.text, T.kids], h7.out.mono (fun b _ hb => .inr hb), h9r.out.keep (fun b off v hb hc => ⟨.inr hb, hc⟩), RRow.nil _ _ _ _ (fun _ => rfl)⟩)
    · intro act W2 hk
      refine Flow.does_intro rfl (fun Kq hK => ?_)
      obtain ⟨c', e10, h10⟩ := (hk.v 10 (by kernel_rfl) : (spEd _ _ _).p _ _)
      have h10' := h10
      obtain ⟨q1, q2, q3, q4, q5, q6, rfl, _⟩ := h10'
      simp only [cT, List.cons_append, List.nil_append] at e10
      have h10 := Hd.mk h10
      clear hk
      go_simp
      exact hK _ _ (Ext.alloc _ _) (fun d hd => by cases hd; exact ⟨_, _, rfl, Blk.new _ _ _, h10.out.ext (Ext.alloc _ _)⟩)
  · intro act W2 he
    have hxW2 := Hd.mk ((Ext.drew W).trans he.ext)
    obtain ⟨us, hA, hF⟩ := he.out [4, 5, 6, 7, 8, 9, 10, 11] (by kernel_rfl)
    simp only [Flow.fillL, List.contains_cons, List.contains_nil, Nat.reduceBEq, Bool.or_false, Bool.false_or, Bool.or_true, Bool.true_or, ↓reduceIte, Nat.reduceAdd, Bool.false_eq_true] at hA
    subst hA
    have f4 : us 4 = .slice V es.length vc := hF 4 (by simp)
    have f11 : (spEds (⟨1, wy, x, zeroT⟩ : E) B W.heap.size).p (us 11) W2 := hF 11 (by simp)
    clear hF he
    rw [f4]
    clear f4
    obtain ⟨D, c', e11, hD, hre⟩ := (f11 : (spEds _ _ _).p _ _)
    have hre' := hre
    obtain ⟨q1, q2, q3, q4, q5, q6, rfl, _⟩ := hre'
    have hD := Hd.mk hD
    have hre := Hd.mk hre
    generalize us 5 = u5 at *
    generalize us 6 = u6 at *
    generalize us 7 = u7 at *
    generalize us 8 = u8 at *
    generalize us 9 = u9 at *
    generalize us 10 = u10 at *
    generalize us 11 = u11 at *
    subst e11
    have kh3 := Hd.mk (kh2.out.ext hxW2.out)
    have hO2 := Hd.mk kh3.out.outs.box
    have hsz2 := Hd.mk (Nat.le_trans hsz.out hxW2.out.size)
    have hB := Hd.mk kh.out.outs.ob
    refine (show wpList _ _ _ (⟨some 12, .call { callee := .builtin .append, args := #[.tmp 4, .tmp 11], argTypes := #[57, 57] }, _, _, _, none⟩ :: _) _ _ from ?_)
    refine wpl_append sl57 (by omega) (by omega) (.tmp 4) (.tmp 11) 12 _ _ _ B (.slice V es.length vc) es.length css.flatten rfl kh3.out.outs.own D 0 1 1 _ rfl (by rw [hre.out.len]) (fun i u hi => by rw [Nat.zero_add, hD.out.cell]; exact hi) hre.out.one (by omega) (by have := hO2.out.lt; have := hB.out; omega) ?_
    intro v' w' hown hgr hat
    obtain ⟨V', vc', rfl, _⟩ := own_slice hown
    have hp := Hd.mk (Outs.push kh3.out.outs (hre.out.mono (fun b hb h => by have h1 := hOlt.out; have h2 := hB.out; have h3 := hpA.out; have h4 := hsz.out; refine ⟨by omega, fun hh => ?_⟩; have h5 := kh.out.outs.base b hh; have h6 := own_lt kh.out.outs.own b hh; omega)) hown hgr hat)
    have hbox := Hd.mk (grownBy_blk' hgr (fun e => kh3.out.outs.ne e.symm) hO2.out)
    clear hown hgr hat
    have gO := hbox.out.cell
    have fO := hbox.out.free
    go_wp2_with fail
    go_end0
    exact ⟨rfl, _, _, hp.out.1, (Fr.of_ext (kx.out.trans hxW2.out)).trans hp.out.2⟩
end Go.Proofs.Ytgkgedjmnbjalaa
