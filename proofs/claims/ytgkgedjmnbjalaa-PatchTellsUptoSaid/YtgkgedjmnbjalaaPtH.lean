/- Texts that the law needs, joined.
   Conditions: none. -/
import Derived.Test.YtgkgedjmnbjalaaPtG
set_option linter.unusedSimpArgs false
set_option linter.unusedVariables false
namespace Go.Proofs.Ytgkgedjmnbjalaa
open Go.RowKit Go.Sort
theorem rrow_one {S : Nat → Prop} {w : World} {D : Nat} {x : T} {c : List Value} {t : TypeId} (hb : Blk w D c t) (hx : RT S w x c) (hD : S D) : RRow S w (some ⟨D, 0, none⟩) [x] 1 :=
  ⟨Nat.le_refl _, by simp, fun h => (by cases h), fun i k hi => by
    cases i with
    | zero =>
      cases hi
      exact ⟨D, 0, c, rfl, hD, hx, fun j v hj => by rw [show 0 + 0 * 6 + j = j by omega, hb.cell]; exact hj⟩
    | succ i => simp at hi⟩
theorem ins_first {l : List T} {x : T} {i : Nat} (h1 : i ≤ l.length) (h2 : ∀ (p : Nat) y, p < i → l[p]? = some y → lessT y x = true) (h3 : ∀ y, l[i]? = some y → lessT y x = false) : insL l x = l.take i ++ [x] ++ l.drop (i + 0) := by
  rw [Nat.add_zero]
  conv => lhs; rw [← List.take_append_drop i l]
  rw [ins_pre (fun q hq => by
    obtain ⟨k, hk⟩ := List.getElem?_of_mem hq
    have hki : k < i := by have := (List.getElem?_eq_some_iff.1 hk).1; simp at this; omega
    rw [List.getElem?_take, if_pos hki] at hk
    exact h2 k q hki hk), List.append_assoc]
  congr 1
  by_cases hi : i < l.length
  · rw [List.drop_eq_getElem_cons hi, insL, if_neg (by rw [h3 _ (List.getElem?_eq_getElem hi)]; simp)]
    rfl
  · rw [List.drop_of_length_le (by omega)]; rfl
theorem set_take {l : List T} {x : T} {i : Nat} (hi : i < l.length) : l.set i x = l.take i ++ [x] ++ l.drop (i + 1) := by
  rw [List.set_eq_take_append_cons_drop, if_pos hi, List.append_assoc]; rfl
theorem kidn_size {t : T} {s : Step} {k : T} (h : kid t.kids s = some k) : k.size < t.size := by
  obtain ⟨pre, suf, e, _⟩ := kid_some h
  rw [t.size_eq, e, sizeL_append]; simp only [sizeL]; omega
theorem kids_lt (t : T) : t.kids.length + 1 ≤ t.size := by rw [t.size_eq]; have := sizeL_len t.kids; omega
def spTRow (S : Nat → Prop) (t : T) (B : Nat) : SP := ⟨fun v w => ∃ (D : Nat) (c : List Value), v = .slice (some ⟨D, 0, none⟩) 1 1 ∧ B ≤ D ∧ Blk w D c 54 ∧ RT S w t c, fun _ _ _ h ⟨D, c, e, h1, hb, hr⟩ => ⟨D, c, e, h1, hb.ext h, hr.ext h⟩⟩
set_option maxRecDepth 100000 in
set_option maxHeartbeats 8000000 in
theorem ref_set : ∀ (way : List Step) (t x : T) (S S' : Nat → Prop) (w : World) (c cx : List Value) (A : Option Addr) (ac : Nat), way.getLast? = some (stepT x) → (getT t way.dropLast).isSome = true → RT S w t c → RT S w x cx → WRow S' w A way ac → t.size + x.size ≤ 1048576 →
    Calls Try.prog 124 #[.agg c.toArray, .slice A way.length ac, .agg cx.toArray] w (Ret (TPost S (setT t way x) w))
  | [], t, x, S, S', w, c, cx, A, ac, hne, _, _, _, _, _ => by cases hne
  | [s], t, x, S, S', w, c, cx, A, ac, hlast, _, h, hx, hw, hsz => by
    obtain ⟨K, kc, rfl, hrow⟩ := h.row
    obtain ⟨Kx, kcx, rfl, _⟩ := hx.row
    have hwc := hw.cap
    obtain ⟨b2, o2, rfl, _, hdk⟩ := WRow.at hw (j := 0) (x := s) rfl
    have hfd := Hd.mk (fun W (hx : Ext w W) => ref_find t s _ W _ (h.ext hx))
    have kr := Hd.mk (h.mono (S' := fun b => S b ∧ b < w.heap.size) (fun b hb hs => ⟨hs, hb⟩))
    have krx := Hd.mk (hx.mono (S' := fun b => S b ∧ b < w.heap.size) (fun b hb hs => ⟨hs, hb⟩))
    have hrow := Hd.mk hrow
    have hkl := kids_lt t
    have hxp := size_pos x
    have hkb : t.kids.length + 1 ≤ 1048576 := by omega
    have hn := hrow.out.len
    have hg : setT t [s] x = t.wk (setL t.kids x) := rfl
    have hsx : Hd (s = stepT x) := ⟨by simpa using hlast⟩
    rw [hg]
    clear h hx hw hsz hkl hxp hg
    simp only [List.length_cons, List.length_nil, Nat.zero_add] at hwc ⊢
    simp only [cT] at kr krx hfd ⊢
    obtain ⟨s1, s2⟩ := s
    generalize hro : t.wk (setL t.kids x) = ro
    replace hro := Hd.mk hro
    go_enter Try.func124, Try.ntmps124
    go_wp2_with fail
    have kx := Hd.mk (((Ext.alloc w (.cells #[.string t.name, .string t.key, .int .i64 t.kind, .int .u64 t.num, .string t.text, .slice K t.kids.length kc] 54)).trans (Ext.alloc _ (.cells #[.string x.name, .string x.key, .int .i64 x.kind, .int .u64 x.num, .string x.text, .slice Kx x.kids.length kcx] 54))).trans (Ext.alloc _ (.cells #[.string ⟨#[]⟩, .string ⟨#[]⟩, .int .i64 0, .int .u64 0, .string ⟨#[]⟩, .slice none 0 0] 54)))
    have kA := Hd.mk (((Blk.new w #[.string t.name, .string t.key, .int .i64 t.kind, .int .u64 t.num, .string t.text, .slice K t.kids.length kc] 54).alloc (.cells #[.string x.name, .string x.key, .int .i64 x.kind, .int .u64 x.num, .string x.text, .slice Kx x.kids.length kcx] 54)).alloc (.cells #[.string ⟨#[]⟩, .string ⟨#[]⟩, .int .i64 0, .int .u64 0, .string ⟨#[]⟩, .slice none 0 0] 54))
    have kX := Hd.mk ((Blk.new2 w (.cells #[.string t.name, .string t.key, .int .i64 t.kind, .int .u64 t.num, .string t.text, .slice K t.kids.length kc] 54) #[.string x.name, .string x.key, .int .i64 x.kind, .int .u64 x.num, .string x.text, .slice Kx x.kids.length kcx] 54).alloc (.cells #[.string ⟨#[]⟩, .string ⟨#[]⟩, .int .i64 0, .int .u64 0, .string ⟨#[]⟩, .slice none 0 0] 54))
    have kR := Hd.mk (Blk.new3 w (.cells #[.string t.name, .string t.key, .int .i64 t.kind, .int .u64 t.num, .string t.text, .slice K t.kids.length kc] 54) (.cells #[.string x.name, .string x.key, .int .i64 x.kind, .int .u64 x.num, .string x.text, .slice Kx x.kids.length kcx] 54) #[.string ⟨#[]⟩, .string ⟨#[]⟩, .int .i64 0, .int .u64 0, .string ⟨#[]⟩, .slice none 0 0] 54)
    generalize ((w.alloc _).alloc _).alloc _ = W at *
    generalize hp : w.heap.size = p at *
    replace hp := Hd.mk hp
    have kcy := Hd.mk (fun (q : Nat) u hq => Ext.cell kx.out (hdk q u hq))
    refine Flow.wp_region_flow_l (fun qq => match qq with
      | 9 => SP.eq (.agg #[.string t.name, .string t.key, .int .i64 t.kind, .int .u64 t.num, .string t.text, .slice K t.kids.length kc])
      | 10 => SP.eq (.slice (some ⟨b2, o2, none⟩) 1 ac)
      | 11 => SP.eq (.pointer (some ⟨b2, o2 + 0 * 2, none⟩))
      | 12 => SP.eq (.agg #[.string s1, .string s2])
      | 13 => SP.eq (.int .i64 (findT t.kids (s1, s2)))
      | 7 => SP.eq (.int .i64 (findT t.kids (s1, s2)))
      | _ => SP.any) 6 (by kernel_rfl) 58 rfl (by kernel_rfl) ?_ ?_
    · skip
      refine ⟨?_, ?_, ?_, ?_, ?_, ?_, trivial⟩
      · intro act W2 hk
        refine Flow.does_intro rfl (fun Kq hK => ?_)
        have e3 : act.tmps[3]?.getD undef = .pointer (some ⟨p, 0, none⟩) := hk.o 3 (by kernel_rfl)
        have g := ((kA.out).ext ((Ext.drew W).trans hk.ext)).cell
        clear hk
        go_simp
        exact hK _ _ (Ext.refl _) (fun d hd => by cases hd; rfl)
      · intro act W2 hk
        refine Flow.does_intro rfl (fun Kq hK => ?_)
        have e1 : act.tmps[1]?.getD undef = .slice (some ⟨b2, o2, none⟩) 1 ac := hk.o 1 (by kernel_rfl)
        clear hk
        go_simp
        exact hK _ _ (Ext.refl _) (fun d hd => by cases hd; rfl)
      · intro act W2 hk
        refine Flow.does_intro rfl (fun Kq hK => ?_)
        have e10 : act.tmps[10]?.getD undef = .slice (some ⟨b2, o2, none⟩) 1 ac := hk.v 10 (by kernel_rfl)
        clear hk
        go_simp
        exact hK _ _ (Ext.refl _) (fun d hd => by cases hd; simp [SP.eq])
      · intro act W2 hk
        refine Flow.does_intro rfl (fun Kq hK => ?_)
        have e11 : act.tmps[11]?.getD undef = .pointer (some ⟨b2, o2 + 0 * 2, none⟩) := hk.v 11 (by kernel_rfl)
        have g0 := Ext.cell ((Ext.drew W).trans hk.ext) ((kcy.out) 0 _ rfl)
        rw [Nat.add_zero] at g0
        have g1 := Ext.cell ((Ext.drew W).trans hk.ext) ((kcy.out) 1 _ rfl)
        clear hk
        go_simp
        exact hK _ _ (Ext.refl _) (fun d hd => by cases hd; rfl)
      · intro act W2 hk
        refine Flow.does_intro rfl (fun Kq hK => ?_)
        have e9 : act.tmps[9]?.getD undef = .agg #[.string t.name, .string t.key, .int .i64 t.kind, .int .u64 t.num, .string t.text, .slice K t.kids.length kc] := hk.v 9 (by kernel_rfl)
        have e12 : act.tmps[12]?.getD undef = .agg #[.string s1, .string s2] := hk.v 12 (by kernel_rfl)
        have hx0 := Hd.mk ((Ext.drew W).trans hk.ext)
        clear hk
        go_simp
        refine Calls.mono (hfd.out _ (kx.out.trans hx0.out)) ?_
        rintro e W3 ⟨rfl, hx⟩
        exact hK _ _ hx (fun d hd => by cases hd; rfl)
      · intro act W2 hk
        refine Flow.does_intro rfl (fun Kq hK => ?_)
        have e13 : act.tmps[13]?.getD undef = .int .i64 (findT t.kids (s1, s2)) := hk.v 13 (by kernel_rfl)
        clear hk
        go_simp
        exact hK _ _ (Ext.refl _) (fun d hd => by cases hd; rfl)
    · intro act V he
      have hxV := Hd.mk ((Ext.drew W).trans he.ext)
      obtain ⟨us, hA, hF⟩ := he.out [9, 10, 11, 12, 13, 7] (by kernel_rfl)
      simp only [Flow.fillL, List.contains_cons, List.contains_nil, Nat.reduceBEq, Bool.or_false, Bool.false_or, Bool.or_true, Bool.true_or, ↓reduceIte, Nat.reduceAdd, Bool.false_eq_true] at hA
      subst hA
      have f7 : us 7 = .int .i64 (findT t.kids (s1, s2)) := hF 7 (by simp)
      clear hF he
      rw [f7]
      clear f7
      refine (show wpList _ _ _ [] _ _ from ?_)
      replace kx := Hd.mk (kx.out.trans hxV.out)
      replace kA := Hd.mk (kA.out.ext hxV.out)
      replace kX := Hd.mk (kX.out.ext hxV.out)
      replace kR := Hd.mk (kR.out.ext hxV.out)
      clear hxV hfd kcy
      rcases findT_kid t.kids (s1, s2) with ⟨hf, hk⟩ | ⟨i, k, hf, hi, hk, hrep, _⟩
      · rw [hf]
        have hkn := Hd.mk hk
        clear hf hk
        have kA0 := kA
        have kX0 := kX
        have kR0 := kR
        go_wp2_with fail
        go_loopg [8] (t.kids.length + 1) (fun q s8 wz => ∃ j : Nat, j ≤ t.kids.length ∧ Hd (q = t.kids.length + 1 - j) ∧ s8 = .int .i64 j ∧ Hd (∀ (p : Nat) y, p < j → t.kids[p]? = some y → lessT y x = true) ∧ Hd (Ext V wz))
        case atStart => exact ⟨0, by omega, ⟨by omega⟩, rfl, ⟨fun p y hp => absurd hp (by omega)⟩, ⟨Ext.refl _⟩⟩
        case round =>
        obtain ⟨j, hj, hq, rfl, hlo, hxr⟩ := hrel
        have qA := Hd.mk (kA0.out.ext hxr.out)
        have qX := Hd.mk (kX0.out.ext hxr.out)
        have qR := Hd.mk (kR0.out.ext hxr.out)
        by_cases hlt : j < t.kids.length
        · have hx1 := List.getElem?_eq_getElem hlt
          generalize t.kids[j] = y at hx1
          obtain ⟨b1, o1, ck, rfl, _, hrk, hck⟩ := hrow.out.kid j y hx1
          obtain ⟨K3, c3, rfl, _⟩ := hrk.row
          have kcy2 := Hd.mk (fun (q : Nat) u hq => Ext.cell (kx.out.trans hxr.out) (hck q u hq))
          have hls := Hd.mk (fun W => ref_less y x K3 Kx y.kids.length c3 x.kids.length kcx W)
          simp only [cT] at kcy2 hls
          have hx1 := Hd.mk hx1
          clear hck hrk
          go_wp2_with fail
          refine Flow.wp_region_flow_l (fun qq => match qq with
            | 37 => SP.eq (.int .i64 (j : Nat))
            | 38 => SP.eq (.pointer (some ⟨p, 5, none⟩))
            | 39 => SP.eq (.slice (some ⟨b1, o1, none⟩) t.kids.length kc)
            | 40 => SP.eq (.int .i64 (t.kids.length : Nat))
            | 41 => SP.eq (.bool true)
            | 42 => SP.eq (.bool true)
            | 43 => SP.eq (.pointer (some ⟨p, 5, none⟩))
            | 44 => SP.eq (.slice (some ⟨b1, o1, none⟩) t.kids.length kc)
            | 45 => SP.eq (.int .i64 (j : Nat))
            | 46 => SP.eq (.pointer (some ⟨b1, o1 + j * 6, none⟩))
            | 47 => SP.eq (.agg #[.string y.name, .string y.key, .int .i64 y.kind, .int .u64 y.num, .string y.text, .slice K3 y.kids.length c3])
            | 48 => SP.eq (.agg #[.string x.name, .string x.key, .int .i64 x.kind, .int .u64 x.num, .string x.text, .slice Kx x.kids.length kcx])
            | 49 => SP.eq (.bool (lessT y x))
            | 50 => SP.eq (.bool (lessT y x))
            | _ => SP.any) 14 (by kernel_rfl) 58 rfl (by kernel_rfl) ?_ ?_
          · skip
            refine ⟨?_, ?_, ?_, ?_, ?_, ?_, ?_, ?_, ?_, ?_, ?_, ?_, ?_, ?_, trivial⟩
            · intro act W2 hk
              refine Flow.does_intro rfl (fun Kq hK => ?_)
              have e8 : act.tmps[8]?.getD undef = .int .i64 (j : Nat) := hk.o 8 (by kernel_rfl)
              clear hk
              go_simp
              exact hK _ _ (Ext.refl _) (fun d hd => by cases hd; rfl)
            · intro act W2 hk
              refine Flow.does_intro rfl (fun Kq hK => ?_)
              have e3 : act.tmps[3]?.getD undef = .pointer (some ⟨p, 0, none⟩) := hk.o 3 (by kernel_rfl)
              clear hk
              go_simp
              exact hK _ _ (Ext.refl _) (fun d hd => by cases hd; rfl)
            · intro act W2 hk
              refine Flow.does_intro rfl (fun Kq hK => ?_)
              have e38 : act.tmps[38]?.getD undef = .pointer (some ⟨p, 5, none⟩) := hk.v 38 (by kernel_rfl)
              have g := ((qA.out).ext ((Ext.drew wr).trans hk.ext)).cell
              clear hk
              go_simp
              exact hK _ _ (Ext.refl _) (fun d hd => by cases hd; rfl)
            · intro act W2 hk
              refine Flow.does_intro rfl (fun Kq hK => ?_)
              have e39 : act.tmps[39]?.getD undef = .slice (some ⟨b1, o1, none⟩) t.kids.length kc := hk.v 39 (by kernel_rfl)
              clear hk
              go_simp
              exact hK _ _ (Ext.refl _) (fun d hd => by cases hd; rfl)
            · intro act W2 hk
              refine Flow.does_intro rfl (fun Kq hK => ?_)
              have e37 : act.tmps[37]?.getD undef = .int .i64 (j : Nat) := hk.v 37 (by kernel_rfl)
              have e40 : act.tmps[40]?.getD undef = .int .i64 (t.kids.length : Nat) := hk.v 40 (by kernel_rfl)
              clear hk
              go_simp
              exact hK _ _ (Ext.refl _) (fun d hd => by cases hd; rfl)
            · intro act W2 hk
              refine Flow.does_intro rfl (fun Kq hK => ?_)
              have e41 : act.tmps[41]?.getD undef = .bool true := hk.v 41 (by kernel_rfl)
              clear hk
              go_simp
              exact hK _ _ (Ext.refl _) (fun d hd => by cases hd; rfl)
            · intro act W2 hk
              have eg : act.tmps[42]?.getD undef = .bool true := hk.v 42 (by kernel_rfl)
              refine Flow.does_intro (wanted_yes rfl rfl eg) (fun Kq hK => ?_)
              clear eg
              have e3 : act.tmps[3]?.getD undef = .pointer (some ⟨p, 0, none⟩) := hk.o 3 (by kernel_rfl)
              clear hk
              go_simp
              exact hK _ _ (Ext.refl _) (fun d hd => by cases hd; rfl)
            · intro act W2 hk
              have eg : act.tmps[42]?.getD undef = .bool true := hk.v 42 (by kernel_rfl)
              refine Flow.does_intro (wanted_yes rfl rfl eg) (fun Kq hK => ?_)
              clear eg
              have e43 : act.tmps[43]?.getD undef = .pointer (some ⟨p, 5, none⟩) := hk.v 43 (by kernel_rfl)
              have g := ((qA.out).ext ((Ext.drew wr).trans hk.ext)).cell
              clear hk
              go_simp
              exact hK _ _ (Ext.refl _) (fun d hd => by cases hd; rfl)
            · intro act W2 hk
              have eg : act.tmps[42]?.getD undef = .bool true := hk.v 42 (by kernel_rfl)
              refine Flow.does_intro (wanted_yes rfl rfl eg) (fun Kq hK => ?_)
              clear eg
              have e8 : act.tmps[8]?.getD undef = .int .i64 (j : Nat) := hk.o 8 (by kernel_rfl)
              clear hk
              go_simp
              exact hK _ _ (Ext.refl _) (fun d hd => by cases hd; rfl)
            · intro act W2 hk
              have eg : act.tmps[42]?.getD undef = .bool true := hk.v 42 (by kernel_rfl)
              refine Flow.does_intro (wanted_yes rfl rfl eg) (fun Kq hK => ?_)
              clear eg
              have e44 : act.tmps[44]?.getD undef = .slice (some ⟨b1, o1, none⟩) t.kids.length kc := hk.v 44 (by kernel_rfl)
              have e45 : act.tmps[45]?.getD undef = .int .i64 (j : Nat) := hk.v 45 (by kernel_rfl)
              clear hk
              go_simp
              exact hK _ _ (Ext.refl _) (fun d hd => by cases hd; rfl)
            · intro act W2 hk
              have eg : act.tmps[42]?.getD undef = .bool true := hk.v 42 (by kernel_rfl)
              refine Flow.does_intro (wanted_yes rfl rfl eg) (fun Kq hK => ?_)
              clear eg
              have e46 : act.tmps[46]?.getD undef = .pointer (some ⟨b1, o1 + j * 6, none⟩) := hk.v 46 (by kernel_rfl)
              have g0 := Ext.cell ((Ext.drew wr).trans hk.ext) ((kcy2.out) 0 _ rfl)
              rw [Nat.add_zero] at g0
              have g1 := Ext.cell ((Ext.drew wr).trans hk.ext) ((kcy2.out) 1 _ rfl)
              have g2 := Ext.cell ((Ext.drew wr).trans hk.ext) ((kcy2.out) 2 _ rfl)
              have g3 := Ext.cell ((Ext.drew wr).trans hk.ext) ((kcy2.out) 3 _ rfl)
              have g4 := Ext.cell ((Ext.drew wr).trans hk.ext) ((kcy2.out) 4 _ rfl)
              have g5 := Ext.cell ((Ext.drew wr).trans hk.ext) ((kcy2.out) 5 _ rfl)
              clear hk
              go_simp
              exact hK _ _ (Ext.refl _) (fun d hd => by cases hd; rfl)
            · intro act W2 hk
              have eg : act.tmps[42]?.getD undef = .bool true := hk.v 42 (by kernel_rfl)
              refine Flow.does_intro (wanted_yes rfl rfl eg) (fun Kq hK => ?_)
              clear eg
              have e5 : act.tmps[5]?.getD undef = .pointer (some ⟨p + 1, 0, none⟩) := hk.o 5 (by kernel_rfl)
              have g := ((qX.out).ext ((Ext.drew wr).trans hk.ext)).cell
              clear hk
              go_simp
              exact hK _ _ (Ext.refl _) (fun d hd => by cases hd; rfl)
            · intro act W2 hk
              have eg : act.tmps[42]?.getD undef = .bool true := hk.v 42 (by kernel_rfl)
              refine Flow.does_intro (wanted_yes rfl rfl eg) (fun Kq hK => ?_)
              clear eg
              have e47 : act.tmps[47]?.getD undef = .agg #[.string y.name, .string y.key, .int .i64 y.kind, .int .u64 y.num, .string y.text, .slice K3 y.kids.length c3] := hk.v 47 (by kernel_rfl)
              have e48 : act.tmps[48]?.getD undef = .agg #[.string x.name, .string x.key, .int .i64 x.kind, .int .u64 x.num, .string x.text, .slice Kx x.kids.length kcx] := hk.v 48 (by kernel_rfl)
              clear hk
              go_simp
              refine Calls.mono (hls.out _) ?_
              rintro e W3 ⟨rfl, hx⟩
              exact hK _ _ hx (fun d hd => by cases hd; rfl)
            · intro act W2 hk
              refine Flow.does_intro rfl (fun Kq hK => ?_)
              have e42 : act.tmps[42]?.getD undef = .bool true := hk.v 42 (by kernel_rfl)
              have e49 : act.tmps[49]?.getD undef = .bool (lessT y x) := hk.v 49 (by kernel_rfl)
              clear hk
              go_simp
              exact hK _ _ (Ext.refl _) (fun d hd => by cases hd; rfl)
          · intro act V2 he
            have hxV2 := Hd.mk ((Ext.drew wr).trans he.ext)
            obtain ⟨us, hA, hF⟩ := he.out [37, 38, 39, 40, 41, 42, 43, 44, 45, 46, 47, 48, 49, 50] (by kernel_rfl)
            simp only [Flow.fillL, List.contains_cons, List.contains_nil, Nat.reduceBEq, Bool.or_false, Bool.false_or, Bool.or_true, Bool.true_or, ↓reduceIte, Nat.reduceAdd, Bool.false_eq_true] at hA
            subst hA
            have f50 : us 50 = .bool (lessT y x) := hF 50 (by simp)
            clear hF he
            rw [f50]
            clear f50
            refine (show wpList _ _ _ [] _ _ from ?_)
            cases hb : lessT y x with
            | true =>
              clear qA qX qR
              have hxr2 := Hd.mk (hxr.out.trans hxV2.out)
              go_wp2_with fail
              go_roundg (t.kids.length + 1 - (j + 1))
              case measure => have := hq.out; omega
              case rel => exact ⟨j + 1, by omega, ⟨rfl⟩, by go_num, ⟨fun p z hp hz => by
                  by_cases hpj : p = j
                  · subst hpj; rw [hx1.out] at hz; cases hz; exact hb
                  · exact hlo.out p z (by omega) hz⟩, hxr2⟩
            | false =>
              have hro2 : t.wk (t.kids.take j ++ [x] ++ t.kids.drop (j + 0)) = ro := by rw [← hro.out, setL, ← hsx.out, hkn.out, if_neg (by simp), ins_first (i := j) (by omega) hlo.out (fun z hz => by rw [hx1.out] at hz; cases hz; exact hb)]
              have kA := Hd.mk (qA.out.ext hxV2.out)
              have kX := Hd.mk (qX.out.ext hxV2.out)
              have kR := Hd.mk (qR.out.ext hxV2.out)
              replace kx := Hd.mk (kx.out.trans (hxr.out.trans hxV2.out))
              have gA := kA.out.cell
              have gX := kX.out.cell
              go_wp2_with fail
              clear gA gX
              have hVs := Hd.mk kR.out.lt
              refine Calls.mono (ref_with t [x] (fun b => (S b ∧ b < p) ∨ V2.heap.size ≤ b) _ _ (some ⟨V2.heap.size, 0, none⟩) 1 j 0 ((kr.out.mono (fun _ _ h => .inl h)).ext (kx.out.trans (Ext.alloc V2 (.cells #[.string x.name, .string x.key, .int .i64 x.kind, .int .u64 x.num, .string x.text, .slice Kx x.kids.length kcx] 54)))) (rrow_one (Blk.new V2 #[.string x.name, .string x.key, .int .i64 x.kind, .int .u64 x.num, .string x.text, .slice Kx x.kids.length kcx] 54) ((krx.out.mono (fun _ _ h => .inl h)).ext (kx.out.trans (Ext.alloc V2 (.cells #[.string x.name, .string x.key, .int .i64 x.kind, .int .u64 x.num, .string x.text, .slice Kx x.kids.length kcx] 54)))) (.inr (Nat.le_refl _))) (by omega) (by simpa using hkb)) ?_
              rintro e w9 ⟨_, rfl, c9, rfl, hr9, hx9⟩
              rw [hro2] at hr9
              obtain ⟨Km, km, rfl, _⟩ := hr9.row
              have hr9 := Hd.mk hr9
              have hx9s := Hd.mk hx9.size
              simp only [cT] at hr9 ⊢
              replace kx := Hd.mk (show Ext w w9 from kx.out.trans ((Ext.alloc V2 (.cells #[.string x.name, .string x.key, .int .i64 x.kind, .int .u64 x.num, .string x.text, .slice Kx x.kids.length kcx] 54)).trans hx9))
              replace kR := Hd.mk (kR.out.ext ((Ext.alloc V2 (.cells #[.string x.name, .string x.key, .int .i64 x.kind, .int .u64 x.num, .string x.text, .slice Kx x.kids.length kcx] 54)).trans hx9))
              clear hx9
              have gR := kR.out.cell
              have fR := kR.out.free
              go_wp2_with fail
              have hu := Hd.mk ((((((Upd.setCell w9 ⟨p + 1 + 1, 0, none⟩ (.string ro.name)).trans (Upd.setCell _ ⟨p + 1 + 1, 1, none⟩ (.string ro.key))).trans (Upd.setCell _ ⟨p + 1 + 1, 2, none⟩ (.int .i64 ro.kind))).trans (Upd.setCell _ ⟨p + 1 + 1, 3, none⟩ (.int .u64 ro.num))).trans (Upd.setCell _ ⟨p + 1 + 1, 4, none⟩ (.string ro.text))).trans (Upd.setCell _ ⟨p + 1 + 1, 5, none⟩ (.slice Km ro.kids.length km)))
              exact ret_box rfl (p + 1 + 1) _ 54 _ ((((((kR.out.setCell 0 (.string ro.name)).setCell 1 (.string ro.key)).setCell 2 (.int .i64 ro.kind)).setCell 3 (.int .u64 ro.num)).setCell 4 (.string ro.text)).setCell 5 (.slice Km ro.kids.length km)) rfl rfl Try.underlying54 rfl size54
                ⟨_, rfl, _, rfl, RT.keep (S' := fun b => S b ∨ w.heap.size ≤ b) (fun b off v hb hc => ⟨by have := hp.out; have := hVs.out; have := hx9s.out; rcases hb with (⟨h1, _⟩ | h) | h; exact .inl h1; all_goals exact .inr (by (try simp at h); omega), by rw [← hc]; exact World.cell?_of_block (hu.out.block b (by have := hp.out; have := hVs.out; have := hx9s.out; show b ≠ p + 1 + 1; rcases hb with (⟨_, h⟩ | h) | h <;> (try simp at h) <;> omega))⟩) hr9.out, Below.trans kx.out (hu.out.below (by rw [hp.out]; show p ≤ p + 1 + 1; omega))⟩
        · obtain rfl : j = t.kids.length := by omega
          go_wp2_with fail
          refine Flow.wp_region_flow_l (fun qq => match qq with
            | 37 => SP.eq (.int .i64 (t.kids.length : Nat))
            | 38 => SP.eq (.pointer (some ⟨p, 5, none⟩))
            | 39 => SP.eq (.slice K t.kids.length kc)
            | 40 => SP.eq (.int .i64 (t.kids.length : Nat))
            | 41 => SP.eq (.bool false)
            | 42 => SP.eq (.bool false)
            | 43 => SP.eq (undef)
            | 44 => SP.eq (undef)
            | 45 => SP.eq (undef)
            | 46 => SP.eq (undef)
            | 47 => SP.eq (undef)
            | 48 => SP.eq (undef)
            | 49 => SP.eq (undef)
            | 50 => SP.eq (.bool false)
            | _ => SP.any) 14 (by kernel_rfl) 58 rfl (by kernel_rfl) ?_ ?_
          · skip
            refine ⟨?_, ?_, ?_, ?_, ?_, ?_, ?_, ?_, ?_, ?_, ?_, ?_, ?_, ?_, trivial⟩
            · intro act W2 hk
              refine Flow.does_intro rfl (fun Kq hK => ?_)
              have e8 : act.tmps[8]?.getD undef = .int .i64 (t.kids.length : Nat) := hk.o 8 (by kernel_rfl)
              clear hk
              go_simp
              exact hK _ _ (Ext.refl _) (fun d hd => by cases hd; rfl)
            · intro act W2 hk
              refine Flow.does_intro rfl (fun Kq hK => ?_)
              have e3 : act.tmps[3]?.getD undef = .pointer (some ⟨p, 0, none⟩) := hk.o 3 (by kernel_rfl)
              clear hk
              go_simp
              exact hK _ _ (Ext.refl _) (fun d hd => by cases hd; rfl)
            · intro act W2 hk
              refine Flow.does_intro rfl (fun Kq hK => ?_)
              have e38 : act.tmps[38]?.getD undef = .pointer (some ⟨p, 5, none⟩) := hk.v 38 (by kernel_rfl)
              have g := ((qA.out).ext ((Ext.drew wr).trans hk.ext)).cell
              clear hk
              go_simp
              exact hK _ _ (Ext.refl _) (fun d hd => by cases hd; rfl)
            · intro act W2 hk
              refine Flow.does_intro rfl (fun Kq hK => ?_)
              have e39 : act.tmps[39]?.getD undef = .slice K t.kids.length kc := hk.v 39 (by kernel_rfl)
              clear hk
              go_simp
              exact hK _ _ (Ext.refl _) (fun d hd => by cases hd; rfl)
            · intro act W2 hk
              refine Flow.does_intro rfl (fun Kq hK => ?_)
              have e37 : act.tmps[37]?.getD undef = .int .i64 (t.kids.length : Nat) := hk.v 37 (by kernel_rfl)
              have e40 : act.tmps[40]?.getD undef = .int .i64 (t.kids.length : Nat) := hk.v 40 (by kernel_rfl)
              clear hk
              go_simp
              exact hK _ _ (Ext.refl _) (fun d hd => by cases hd; rfl)
            · intro act W2 hk
              refine Flow.does_intro rfl (fun Kq hK => ?_)
              have e41 : act.tmps[41]?.getD undef = .bool false := hk.v 41 (by kernel_rfl)
              clear hk
              go_simp
              exact hK _ _ (Ext.refl _) (fun d hd => by cases hd; rfl)
            · intro act W2 hk
              have eg : act.tmps[42]?.getD undef = .bool false := hk.v 42 (by kernel_rfl)
              exact Flow.does_skip (wanted_no rfl rfl eg) (fun d hd => by cases hd; rfl)
            · intro act W2 hk
              have eg : act.tmps[42]?.getD undef = .bool false := hk.v 42 (by kernel_rfl)
              exact Flow.does_skip (wanted_no rfl rfl eg) (fun d hd => by cases hd; rfl)
            · intro act W2 hk
              have eg : act.tmps[42]?.getD undef = .bool false := hk.v 42 (by kernel_rfl)
              exact Flow.does_skip (wanted_no rfl rfl eg) (fun d hd => by cases hd; rfl)
            · intro act W2 hk
              have eg : act.tmps[42]?.getD undef = .bool false := hk.v 42 (by kernel_rfl)
              exact Flow.does_skip (wanted_no rfl rfl eg) (fun d hd => by cases hd; rfl)
            · intro act W2 hk
              have eg : act.tmps[42]?.getD undef = .bool false := hk.v 42 (by kernel_rfl)
              exact Flow.does_skip (wanted_no rfl rfl eg) (fun d hd => by cases hd; rfl)
            · intro act W2 hk
              have eg : act.tmps[42]?.getD undef = .bool false := hk.v 42 (by kernel_rfl)
              exact Flow.does_skip (wanted_no rfl rfl eg) (fun d hd => by cases hd; rfl)
            · intro act W2 hk
              have eg : act.tmps[42]?.getD undef = .bool false := hk.v 42 (by kernel_rfl)
              exact Flow.does_skip (wanted_no rfl rfl eg) (fun d hd => by cases hd; rfl)
            · intro act W2 hk
              refine Flow.does_intro rfl (fun Kq hK => ?_)
              have e42 : act.tmps[42]?.getD undef = .bool false := hk.v 42 (by kernel_rfl)
              clear hk
              go_simp
              exact hK _ _ (Ext.refl _) (fun d hd => by cases hd; rfl)
          · intro act V2 he
            have hxV2 := Hd.mk ((Ext.drew wr).trans he.ext)
            obtain ⟨us, hA, hF⟩ := he.out [37, 38, 39, 40, 41, 42, 43, 44, 45, 46, 47, 48, 49, 50] (by kernel_rfl)
            simp only [Flow.fillL, List.contains_cons, List.contains_nil, Nat.reduceBEq, Bool.or_false, Bool.false_or, Bool.or_true, Bool.true_or, ↓reduceIte, Nat.reduceAdd, Bool.false_eq_true] at hA
            subst hA
            have f50 : us 50 = .bool false := hF 50 (by simp)
            clear hF he
            rw [f50]
            clear f50
            refine (show wpList _ _ _ [] _ _ from ?_)
            have hro2 : t.wk (t.kids.take t.kids.length ++ [x] ++ t.kids.drop (t.kids.length + 0)) = ro := by rw [← hro.out, setL, ← hsx.out, hkn.out, if_neg (by simp), ins_first (i := t.kids.length) (Nat.le_refl _) hlo.out (fun z hz => by have := (List.getElem?_eq_some_iff.1 hz).1; omega)]
            have kA := Hd.mk (qA.out.ext hxV2.out)
            have kX := Hd.mk (qX.out.ext hxV2.out)
            have kR := Hd.mk (qR.out.ext hxV2.out)
            replace kx := Hd.mk (kx.out.trans (hxr.out.trans hxV2.out))
            have gA := kA.out.cell
            have gX := kX.out.cell
            go_wp2_with fail
            clear gA gX
            have hVs := Hd.mk kR.out.lt
            refine Calls.mono (ref_with t [x] (fun b => (S b ∧ b < p) ∨ V2.heap.size ≤ b) _ _ (some ⟨V2.heap.size, 0, none⟩) 1 t.kids.length 0 ((kr.out.mono (fun _ _ h => .inl h)).ext (kx.out.trans (Ext.alloc V2 (.cells #[.string x.name, .string x.key, .int .i64 x.kind, .int .u64 x.num, .string x.text, .slice Kx x.kids.length kcx] 54)))) (rrow_one (Blk.new V2 #[.string x.name, .string x.key, .int .i64 x.kind, .int .u64 x.num, .string x.text, .slice Kx x.kids.length kcx] 54) ((krx.out.mono (fun _ _ h => .inl h)).ext (kx.out.trans (Ext.alloc V2 (.cells #[.string x.name, .string x.key, .int .i64 x.kind, .int .u64 x.num, .string x.text, .slice Kx x.kids.length kcx] 54)))) (.inr (Nat.le_refl _))) (Nat.le_refl _) (by simpa using hkb)) ?_
            rintro e w9 ⟨_, rfl, c9, rfl, hr9, hx9⟩
            rw [hro2] at hr9
            obtain ⟨Km, km, rfl, _⟩ := hr9.row
            have hr9 := Hd.mk hr9
            have hx9s := Hd.mk hx9.size
            simp only [cT] at hr9 ⊢
            replace kx := Hd.mk (show Ext w w9 from kx.out.trans ((Ext.alloc V2 (.cells #[.string x.name, .string x.key, .int .i64 x.kind, .int .u64 x.num, .string x.text, .slice Kx x.kids.length kcx] 54)).trans hx9))
            replace kR := Hd.mk (kR.out.ext ((Ext.alloc V2 (.cells #[.string x.name, .string x.key, .int .i64 x.kind, .int .u64 x.num, .string x.text, .slice Kx x.kids.length kcx] 54)).trans hx9))
            clear hx9
            have gR := kR.out.cell
            have fR := kR.out.free
            go_wp2_with fail
            have hu := Hd.mk ((((((Upd.setCell w9 ⟨p + 1 + 1, 0, none⟩ (.string ro.name)).trans (Upd.setCell _ ⟨p + 1 + 1, 1, none⟩ (.string ro.key))).trans (Upd.setCell _ ⟨p + 1 + 1, 2, none⟩ (.int .i64 ro.kind))).trans (Upd.setCell _ ⟨p + 1 + 1, 3, none⟩ (.int .u64 ro.num))).trans (Upd.setCell _ ⟨p + 1 + 1, 4, none⟩ (.string ro.text))).trans (Upd.setCell _ ⟨p + 1 + 1, 5, none⟩ (.slice Km ro.kids.length km)))
            exact ret_box rfl (p + 1 + 1) _ 54 _ ((((((kR.out.setCell 0 (.string ro.name)).setCell 1 (.string ro.key)).setCell 2 (.int .i64 ro.kind)).setCell 3 (.int .u64 ro.num)).setCell 4 (.string ro.text)).setCell 5 (.slice Km ro.kids.length km)) rfl rfl Try.underlying54 rfl size54
              ⟨_, rfl, _, rfl, RT.keep (S' := fun b => S b ∨ w.heap.size ≤ b) (fun b off v hb hc => ⟨by have := hp.out; have := hVs.out; have := hx9s.out; rcases hb with (⟨h1, _⟩ | h) | h; exact .inl h1; all_goals exact .inr (by (try simp at h); omega), by rw [← hc]; exact World.cell?_of_block (hu.out.block b (by have := hp.out; have := hVs.out; have := hx9s.out; show b ≠ p + 1 + 1; rcases hb with (⟨_, h⟩ | h) | h <;> (try simp at h) <;> omega))⟩) hr9.out, Below.trans kx.out (hu.out.below (by rw [hp.out]; show p ≤ p + 1 + 1; omega))⟩
      · rw [hf]
        have hil := (List.getElem?_eq_some_iff.1 hi).1
        have hro2 : t.wk (t.kids.take i ++ [x] ++ t.kids.drop (i + 1)) = ro := by rw [← hro.out, setL, ← hsx.out, hk, if_pos (by simp), hrep, set_take hil]
        replace hro2 := Hd.mk hro2
        clear hf hk hi hrep
        have gA := kA.out.cell
        have gX := kX.out.cell
        go_wp2_with fail
        clear gA gX
        have hVs := Hd.mk kR.out.lt
        refine Calls.mono (ref_with t [x] (fun b => (S b ∧ b < p) ∨ V.heap.size ≤ b) _ _ (some ⟨V.heap.size, 0, none⟩) 1 i 1 ((kr.out.mono (fun _ _ h => .inl h)).ext (kx.out.trans (Ext.alloc V (.cells #[.string x.name, .string x.key, .int .i64 x.kind, .int .u64 x.num, .string x.text, .slice Kx x.kids.length kcx] 54)))) (rrow_one (Blk.new V #[.string x.name, .string x.key, .int .i64 x.kind, .int .u64 x.num, .string x.text, .slice Kx x.kids.length kcx] 54) ((krx.out.mono (fun _ _ h => .inl h)).ext (kx.out.trans (Ext.alloc V (.cells #[.string x.name, .string x.key, .int .i64 x.kind, .int .u64 x.num, .string x.text, .slice Kx x.kids.length kcx] 54)))) (.inr (Nat.le_refl _))) (by omega) (by simpa using hkb)) ?_
        rintro e w9 ⟨_, rfl, c9, rfl, hr9, hx9⟩
        rw [hro2.out] at hr9
        obtain ⟨Km, km, rfl, _⟩ := hr9.row
        have hr9 := Hd.mk hr9
        have hx9s := Hd.mk hx9.size
        simp only [cT] at hr9 ⊢
        replace kx := Hd.mk (show Ext w w9 from kx.out.trans ((Ext.alloc V (.cells #[.string x.name, .string x.key, .int .i64 x.kind, .int .u64 x.num, .string x.text, .slice Kx x.kids.length kcx] 54)).trans hx9))
        replace kR := Hd.mk (kR.out.ext ((Ext.alloc V (.cells #[.string x.name, .string x.key, .int .i64 x.kind, .int .u64 x.num, .string x.text, .slice Kx x.kids.length kcx] 54)).trans hx9))
        clear hx9
        have gR := kR.out.cell
        have fR := kR.out.free
        go_wp2_with fail
        have hu := Hd.mk ((((((Upd.setCell w9 ⟨p + 1 + 1, 0, none⟩ (.string ro.name)).trans (Upd.setCell _ ⟨p + 1 + 1, 1, none⟩ (.string ro.key))).trans (Upd.setCell _ ⟨p + 1 + 1, 2, none⟩ (.int .i64 ro.kind))).trans (Upd.setCell _ ⟨p + 1 + 1, 3, none⟩ (.int .u64 ro.num))).trans (Upd.setCell _ ⟨p + 1 + 1, 4, none⟩ (.string ro.text))).trans (Upd.setCell _ ⟨p + 1 + 1, 5, none⟩ (.slice Km ro.kids.length km)))
        exact ret_box rfl (p + 1 + 1) _ 54 _ ((((((kR.out.setCell 0 (.string ro.name)).setCell 1 (.string ro.key)).setCell 2 (.int .i64 ro.kind)).setCell 3 (.int .u64 ro.num)).setCell 4 (.string ro.text)).setCell 5 (.slice Km ro.kids.length km)) rfl rfl Try.underlying54 rfl size54
          ⟨_, rfl, _, rfl, RT.keep (S' := fun b => S b ∨ w.heap.size ≤ b) (fun b off v hb hc => ⟨by have := hp.out; have := hVs.out; have := hx9s.out; rcases hb with (⟨h1, _⟩ | h) | h; exact .inl h1; all_goals exact .inr (by (try simp at h); omega), by rw [← hc]; exact World.cell?_of_block (hu.out.block b (by have := hp.out; have := hVs.out; have := hx9s.out; show b ≠ p + 1 + 1; rcases hb with (⟨_, h⟩ | h) | h <;> (try simp at h) <;> omega))⟩) hr9.out, Below.trans kx.out (hu.out.below (by rw [hp.out]; show p ≤ p + 1 + 1; omega))⟩
  | s :: q :: r, t, x, S, S', w, c, cx, A, ac, hlast, hsome, h, hx, hw, hsz => by
    obtain ⟨K, kc, rfl, hrow⟩ := h.row
    obtain ⟨Kx, kcx, rfl, _⟩ := hx.row
    have hwc := hw.cap
    obtain ⟨b2, o2, rfl, _, hdk⟩ := WRow.at hw (j := 0) (x := s) rfl
    have hfd := Hd.mk (fun W (hx : Ext w W) => ref_find t s _ W _ (h.ext hx))
    have kr := Hd.mk (h.mono (S' := fun b => S b ∧ b < w.heap.size) (fun b hb hs => ⟨hs, hb⟩))
    have krx := Hd.mk (hx.mono (S' := fun b => S b ∧ b < w.heap.size) (fun b hb hs => ⟨hs, hb⟩))
    have hrow := Hd.mk (hrow.mono' (S' := fun b => S b ∧ b < w.heap.size) (fun b hb hs => ⟨hs, hb⟩))
    have hkl := kids_lt t
    have hxp := size_pos x
    have hkb : t.kids.length + 1 ≤ 1048576 := by omega
    have hn := hrow.out.len
    obtain ⟨k, hk0, hgk⟩ : ∃ k, kid t.kids s = some k ∧ (getT k (q :: r).dropLast).isSome = true := by
      rw [List.dropLast_cons_cons, getT_cons] at hsome
      cases hk : kid t.kids s with
      | none => rw [hk] at hsome; cases hsome
      | some k => rw [hk] at hsome; exact ⟨k, rfl, hsome⟩
    have hg : setT t (s :: q :: r) x = t.wk (repL t.kids s (setT k (q :: r) x)) := by simp only [setT, hk0]
    have hks := kidn_size hk0
    have ih := Hd.mk (fun (Sx : Nat → Prop) W c1 c2 A1 a1 (g1 : RT Sx W k c1) (g2 : RT Sx W x c2) (g3 : WRow S' W A1 (q :: r) a1) => ref_set (q :: r) k x Sx S' W c1 c2 A1 a1 (by rw [List.getLast?_cons_cons] at hlast; exact hlast) hgk g1 g2 g3 (by omega))
    have kwt := Hd.mk hw.tail'
    rw [hg]
    clear h hx hw hsz hkl hxp hg hgk hlast hsome hks
    simp only [List.length_cons] at hwc ⊢
    simp only [cT] at kr krx hfd ⊢
    obtain ⟨s1, s2⟩ := s
    generalize hro : t.wk (repL t.kids (s1, s2) (setT k (q :: r) x)) = ro
    generalize hL : r.length = L at *
    replace hL := Hd.mk hL
    replace hro := Hd.mk hro
    go_enter Try.func124, Try.ntmps124
    go_wp2_with fail
    have kx := Hd.mk (((Ext.alloc w (.cells #[.string t.name, .string t.key, .int .i64 t.kind, .int .u64 t.num, .string t.text, .slice K t.kids.length kc] 54)).trans (Ext.alloc _ (.cells #[.string x.name, .string x.key, .int .i64 x.kind, .int .u64 x.num, .string x.text, .slice Kx x.kids.length kcx] 54))).trans (Ext.alloc _ (.cells #[.string ⟨#[]⟩, .string ⟨#[]⟩, .int .i64 0, .int .u64 0, .string ⟨#[]⟩, .slice none 0 0] 54)))
    have kA := Hd.mk (((Blk.new w #[.string t.name, .string t.key, .int .i64 t.kind, .int .u64 t.num, .string t.text, .slice K t.kids.length kc] 54).alloc (.cells #[.string x.name, .string x.key, .int .i64 x.kind, .int .u64 x.num, .string x.text, .slice Kx x.kids.length kcx] 54)).alloc (.cells #[.string ⟨#[]⟩, .string ⟨#[]⟩, .int .i64 0, .int .u64 0, .string ⟨#[]⟩, .slice none 0 0] 54))
    have kX := Hd.mk ((Blk.new2 w (.cells #[.string t.name, .string t.key, .int .i64 t.kind, .int .u64 t.num, .string t.text, .slice K t.kids.length kc] 54) #[.string x.name, .string x.key, .int .i64 x.kind, .int .u64 x.num, .string x.text, .slice Kx x.kids.length kcx] 54).alloc (.cells #[.string ⟨#[]⟩, .string ⟨#[]⟩, .int .i64 0, .int .u64 0, .string ⟨#[]⟩, .slice none 0 0] 54))
    have kR := Hd.mk (Blk.new3 w (.cells #[.string t.name, .string t.key, .int .i64 t.kind, .int .u64 t.num, .string t.text, .slice K t.kids.length kc] 54) (.cells #[.string x.name, .string x.key, .int .i64 x.kind, .int .u64 x.num, .string x.text, .slice Kx x.kids.length kcx] 54) #[.string ⟨#[]⟩, .string ⟨#[]⟩, .int .i64 0, .int .u64 0, .string ⟨#[]⟩, .slice none 0 0] 54)
    generalize ((w.alloc _).alloc _).alloc _ = W at *
    generalize hp : w.heap.size = p at *
    replace hp := Hd.mk hp
    have kcy := Hd.mk (fun (q : Nat) u hq => Ext.cell kx.out (hdk q u hq))
    have hL0 : (0 : Int) < (L : Int) + 1 + 1 := by omega
    have hL1 : (1 : Int) ≤ (L : Int) + 1 + 1 := by omega
    have hL2 : (1 : Int) < (L : Int) + 1 + 1 := by omega
    refine Flow.wp_region_flow_l (fun qq => match qq with
      | 9 => SP.eq (.agg #[.string t.name, .string t.key, .int .i64 t.kind, .int .u64 t.num, .string t.text, .slice K t.kids.length kc])
      | 10 => SP.eq (.slice (some ⟨b2, o2, none⟩) (L + 1 + 1) ac)
      | 11 => SP.eq (.pointer (some ⟨b2, o2 + 0 * 2, none⟩))
      | 12 => SP.eq (.agg #[.string s1, .string s2])
      | 13 => SP.eq (.int .i64 (findT t.kids (s1, s2)))
      | 7 => SP.eq (.int .i64 (findT t.kids (s1, s2)))
      | _ => SP.any) 6 (by kernel_rfl) 58 rfl (by kernel_rfl) ?_ ?_
    · skip
      refine ⟨?_, ?_, ?_, ?_, ?_, ?_, trivial⟩
      · intro act W2 hk
        refine Flow.does_intro rfl (fun Kq hK => ?_)
        have e3 : act.tmps[3]?.getD undef = .pointer (some ⟨p, 0, none⟩) := hk.o 3 (by kernel_rfl)
        have g := ((kA.out).ext ((Ext.drew W).trans hk.ext)).cell
        clear hk
        go_simp
        exact hK _ _ (Ext.refl _) (fun d hd => by cases hd; rfl)
      · intro act W2 hk
        refine Flow.does_intro rfl (fun Kq hK => ?_)
        have e1 : act.tmps[1]?.getD undef = .slice (some ⟨b2, o2, none⟩) (L + 1 + 1) ac := hk.o 1 (by kernel_rfl)
        clear hk
        go_simp
        exact hK _ _ (Ext.refl _) (fun d hd => by cases hd; rfl)
      · intro act W2 hk
        refine Flow.does_intro rfl (fun Kq hK => ?_)
        have e10 : act.tmps[10]?.getD undef = .slice (some ⟨b2, o2, none⟩) (L + 1 + 1) ac := hk.v 10 (by kernel_rfl)
        clear hk
        go_simp
        exact hK _ _ (Ext.refl _) (fun d hd => by cases hd; simp [SP.eq])
      · intro act W2 hk
        refine Flow.does_intro rfl (fun Kq hK => ?_)
        have e11 : act.tmps[11]?.getD undef = .pointer (some ⟨b2, o2 + 0 * 2, none⟩) := hk.v 11 (by kernel_rfl)
        have g0 := Ext.cell ((Ext.drew W).trans hk.ext) ((kcy.out) 0 _ rfl)
        rw [Nat.add_zero] at g0
        have g1 := Ext.cell ((Ext.drew W).trans hk.ext) ((kcy.out) 1 _ rfl)
        clear hk
        go_simp
        exact hK _ _ (Ext.refl _) (fun d hd => by cases hd; rfl)
      · intro act W2 hk
        refine Flow.does_intro rfl (fun Kq hK => ?_)
        have e9 : act.tmps[9]?.getD undef = .agg #[.string t.name, .string t.key, .int .i64 t.kind, .int .u64 t.num, .string t.text, .slice K t.kids.length kc] := hk.v 9 (by kernel_rfl)
        have e12 : act.tmps[12]?.getD undef = .agg #[.string s1, .string s2] := hk.v 12 (by kernel_rfl)
        have hx0 := Hd.mk ((Ext.drew W).trans hk.ext)
        clear hk
        go_simp
        refine Calls.mono (hfd.out _ (kx.out.trans hx0.out)) ?_
        rintro e W3 ⟨rfl, hx⟩
        exact hK _ _ hx (fun d hd => by cases hd; rfl)
      · intro act W2 hk
        refine Flow.does_intro rfl (fun Kq hK => ?_)
        have e13 : act.tmps[13]?.getD undef = .int .i64 (findT t.kids (s1, s2)) := hk.v 13 (by kernel_rfl)
        clear hk
        go_simp
        exact hK _ _ (Ext.refl _) (fun d hd => by cases hd; rfl)
    · intro act V he
      have hxV := Hd.mk ((Ext.drew W).trans he.ext)
      obtain ⟨us, hA, hF⟩ := he.out [9, 10, 11, 12, 13, 7] (by kernel_rfl)
      simp only [Flow.fillL, List.contains_cons, List.contains_nil, Nat.reduceBEq, Bool.or_false, Bool.false_or, Bool.or_true, Bool.true_or, ↓reduceIte, Nat.reduceAdd, Bool.false_eq_true] at hA
      subst hA
      have f7 : us 7 = .int .i64 (findT t.kids (s1, s2)) := hF 7 (by simp)
      clear hF he
      rw [f7]
      clear f7
      refine (show wpList _ _ _ [] _ _ from ?_)
      replace kx := Hd.mk (kx.out.trans hxV.out)
      replace kA := Hd.mk (kA.out.ext hxV.out)
      replace kX := Hd.mk (kX.out.ext hxV.out)
      replace kR := Hd.mk (kR.out.ext hxV.out)
      clear hxV hfd kcy
      rcases findT_kid t.kids (s1, s2) with ⟨hf, hk⟩ | ⟨i, k2, hf, hi, hk, hrep, _⟩
      · rw [hk] at hk0; cases hk0
      · rw [hk] at hk0
        obtain rfl : k2 = k := by cases hk0; rfl
        rw [hf]
        obtain ⟨b1, o1, ck, rfl, _, hrk, hck⟩ := hrow.out.kid i k2 hi
        have hil := (List.getElem?_eq_some_iff.1 hi).1
        have hro2 : t.wk (t.kids.take i ++ [setT k2 (q :: r) x] ++ t.kids.drop (i + 1)) = ro := by rw [← hro.out, hrep, set_take hil]
        replace hro2 := Hd.mk hro2
        obtain ⟨K9, c9, rfl, _⟩ := hrk.row
        have hrec := Hd.mk (fun W (h : Ext V W) => ih.out (fun b => S b ∧ b < p) W _ _ _ _ (hrk.ext (kx.out.trans h)) (krx.out.ext (kx.out.trans h)) (kwt.out.ext (kx.out.trans h)))
        have kck := Hd.mk (fun (q : Nat) u hq => Ext.cell kx.out (hck q u hq))
        simp only [cT, List.length_cons] at hrec kck
        rw [hL.out] at hrec
        generalize setT k2 (q :: r) x = k1 at *
        clear hf hk hi hrep hk0 ih kwt hrk hck
        go_wp2_with fail
        refine Flow.wp_region_flow_l (fun qq => match qq with
          | 17 => SP.eq (.agg #[.string t.name, .string t.key, .int .i64 t.kind, .int .u64 t.num, .string t.text, .slice (some ⟨b1, o1, none⟩) t.kids.length kc])
          | 18 => SP.eq (.int .i64 (i : Nat))
          | 19 => SP.eq (.pointer (some ⟨p, 5, none⟩))
          | 20 => SP.eq (.slice (some ⟨b1, o1, none⟩) t.kids.length kc)
          | 21 => SP.eq (.int .i64 (i : Nat))
          | 22 => SP.eq (.pointer (some ⟨b1, o1 + i * 6, none⟩))
          | 23 => SP.eq (.agg #[.string k2.name, .string k2.key, .int .i64 k2.kind, .int .u64 k2.num, .string k2.text, .slice K9 k2.kids.length c9])
          | 24 => SP.eq (.slice (some ⟨b2, o2, none⟩) (L + 1 + 1) ac)
          | 25 => SP.eq (.slice (if ac = 1 then some ⟨b2, o2, none⟩ else some ⟨b2, o2 + 2, none⟩) (L + 1) (ac - 1))
          | 26 => SP.eq (.agg #[.string x.name, .string x.key, .int .i64 x.kind, .int .u64 x.num, .string x.text, .slice Kx x.kids.length kcx])
          | 27 => spTS (fun b => (S b ∧ b < p) ∨ V.heap.size ≤ b) k1
          | 28 => spTRow (fun b => (S b ∧ b < p) ∨ V.heap.size ≤ b) k1 V.heap.size
          | 29 => spTS (fun b => (S b ∧ b < p) ∨ V.heap.size ≤ b) ro
          | _ => SP.any) 13 (by kernel_rfl) 58 rfl (by kernel_rfl) ?_ ?_
        · skip
          refine ⟨?_, ?_, ?_, ?_, ?_, ?_, ?_, ?_, ?_, ?_, ?_, ?_, ?_, trivial⟩
          · intro act W2 hk
            refine Flow.does_intro rfl (fun Kq hK => ?_)
            have e3 : act.tmps[3]?.getD undef = .pointer (some ⟨p, 0, none⟩) := hk.o 3 (by kernel_rfl)
            have g := ((kA.out).ext ((Ext.drew V).trans hk.ext)).cell
            clear hk
            go_simp
            exact hK _ _ (Ext.refl _) (fun d hd => by cases hd; rfl)
          · intro act W2 hk
            refine Flow.does_intro rfl (fun Kq hK => ?_)
            have e7 : act.tmps[7]?.getD undef = .int .i64 (i : Nat) := hk.o 7 (by kernel_rfl)
            clear hk
            go_simp
            exact hK _ _ (Ext.refl _) (fun d hd => by cases hd; rfl)
          · intro act W2 hk
            refine Flow.does_intro rfl (fun Kq hK => ?_)
            have e3 : act.tmps[3]?.getD undef = .pointer (some ⟨p, 0, none⟩) := hk.o 3 (by kernel_rfl)
            clear hk
            go_simp
            exact hK _ _ (Ext.refl _) (fun d hd => by cases hd; rfl)
          · intro act W2 hk
            refine Flow.does_intro rfl (fun Kq hK => ?_)
            have e19 : act.tmps[19]?.getD undef = .pointer (some ⟨p, 5, none⟩) := hk.v 19 (by kernel_rfl)
            have g := ((kA.out).ext ((Ext.drew V).trans hk.ext)).cell
            clear hk
            go_simp
            exact hK _ _ (Ext.refl _) (fun d hd => by cases hd; rfl)
          · intro act W2 hk
            refine Flow.does_intro rfl (fun Kq hK => ?_)
            have e7 : act.tmps[7]?.getD undef = .int .i64 (i : Nat) := hk.o 7 (by kernel_rfl)
            clear hk
            go_simp
            exact hK _ _ (Ext.refl _) (fun d hd => by cases hd; rfl)
          · intro act W2 hk
            refine Flow.does_intro rfl (fun Kq hK => ?_)
            have e20 : act.tmps[20]?.getD undef = .slice (some ⟨b1, o1, none⟩) t.kids.length kc := hk.v 20 (by kernel_rfl)
            have e21 : act.tmps[21]?.getD undef = .int .i64 (i : Nat) := hk.v 21 (by kernel_rfl)
            clear hk
            go_simp
            exact hK _ _ (Ext.refl _) (fun d hd => by cases hd; rfl)
          · intro act W2 hk
            refine Flow.does_intro rfl (fun Kq hK => ?_)
            have e22 : act.tmps[22]?.getD undef = .pointer (some ⟨b1, o1 + i * 6, none⟩) := hk.v 22 (by kernel_rfl)
            have g0 := Ext.cell ((Ext.drew V).trans hk.ext) ((kck.out) 0 _ rfl)
            rw [Nat.add_zero] at g0
            have g1 := Ext.cell ((Ext.drew V).trans hk.ext) ((kck.out) 1 _ rfl)
            have g2 := Ext.cell ((Ext.drew V).trans hk.ext) ((kck.out) 2 _ rfl)
            have g3 := Ext.cell ((Ext.drew V).trans hk.ext) ((kck.out) 3 _ rfl)
            have g4 := Ext.cell ((Ext.drew V).trans hk.ext) ((kck.out) 4 _ rfl)
            have g5 := Ext.cell ((Ext.drew V).trans hk.ext) ((kck.out) 5 _ rfl)
            clear hk
            go_simp
            exact hK _ _ (Ext.refl _) (fun d hd => by cases hd; rfl)
          · intro act W2 hk
            refine Flow.does_intro rfl (fun Kq hK => ?_)
            have e1 : act.tmps[1]?.getD undef = .slice (some ⟨b2, o2, none⟩) (L + 1 + 1) ac := hk.o 1 (by kernel_rfl)
            clear hk
            go_simp
            exact hK _ _ (Ext.refl _) (fun d hd => by cases hd; rfl)
          · intro act W2 hk
            refine Flow.does_intro rfl (fun Kq hK => ?_)
            have e24 : act.tmps[24]?.getD undef = .slice (some ⟨b2, o2, none⟩) (L + 1 + 1) ac := hk.v 24 (by kernel_rfl)
            clear hk
            go_simp
            exact hK _ _ (Ext.refl _) (fun d hd => by cases hd; simp [SP.eq])
          · intro act W2 hk
            refine Flow.does_intro rfl (fun Kq hK => ?_)
            have e5 : act.tmps[5]?.getD undef = .pointer (some ⟨p + 1, 0, none⟩) := hk.o 5 (by kernel_rfl)
            have g := ((kX.out).ext ((Ext.drew V).trans hk.ext)).cell
            clear hk
            go_simp
            exact hK _ _ (Ext.refl _) (fun d hd => by cases hd; rfl)
          · intro act W2 hk
            refine Flow.does_intro rfl (fun Kq hK => ?_)
            have e23 : act.tmps[23]?.getD undef = .agg #[.string k2.name, .string k2.key, .int .i64 k2.kind, .int .u64 k2.num, .string k2.text, .slice K9 k2.kids.length c9] := hk.v 23 (by kernel_rfl)
            have e25 : act.tmps[25]?.getD undef = .slice (if ac = 1 then some ⟨b2, o2, none⟩ else some ⟨b2, o2 + 2, none⟩) (L + 1) (ac - 1) := hk.v 25 (by kernel_rfl)
            have e26 : act.tmps[26]?.getD undef = .agg #[.string x.name, .string x.key, .int .i64 x.kind, .int .u64 x.num, .string x.text, .slice Kx x.kids.length kcx] := hk.v 26 (by kernel_rfl)
            have hx0 := Hd.mk ((Ext.drew V).trans hk.ext)
            clear hk
            go_simp
            refine Calls.mono (hrec.out _ hx0.out) ?_
            rintro e W3 ⟨_, rfl, c8, rfl, hr8, hx⟩
            exact hK _ _ hx (fun d hd => by cases hd; exact ⟨c8, rfl, hr8.mono (fun b _ hb => by rcases hb with h | h; exact .inl h; exact .inr (Nat.le_trans hx0.out.size h))⟩)
          · intro act W2 hk
            refine Flow.does_intro rfl (fun Kq hK => ?_)
            obtain ⟨c8, e27, hr8⟩ := (hk.v 27 (by kernel_rfl) : (spTS _ _).p _ _)
            obtain ⟨Kq1, kq1, rfl, _⟩ := hr8.row
            simp only [cT] at e27 hr8
            have hr8 := Hd.mk hr8
            have hx0 := Hd.mk ((Ext.drew V).trans hk.ext)
            clear hk
            go_simp
            exact hK _ _ (Ext.alloc _ _) (fun d hd => by cases hd; exact ⟨_, _, rfl, hx0.out.size, Blk.new _ _ _, hr8.out.ext (Ext.alloc _ _)⟩)
          · intro act W2 hk
            refine Flow.does_intro rfl (fun Kq hK => ?_)
            have e17 : act.tmps[17]?.getD undef = .agg #[.string t.name, .string t.key, .int .i64 t.kind, .int .u64 t.num, .string t.text, .slice (some ⟨b1, o1, none⟩) t.kids.length kc] := hk.v 17 (by kernel_rfl)
            have e18 : act.tmps[18]?.getD undef = .int .i64 (i : Nat) := hk.v 18 (by kernel_rfl)
            obtain ⟨D, c8, e28, hD, hbD, hr8⟩ := (hk.v 28 (by kernel_rfl) : (spTRow _ _ _).p _ _)
            have hx0 := Hd.mk ((Ext.drew V).trans hk.ext)
            have hcw := ref_with t [k1] (fun b => (S b ∧ b < p) ∨ V.heap.size ≤ b) W2 _ (some ⟨D, 0, none⟩) 1 i 1 ((kr.out.mono (fun _ _ h => .inl h)).ext (kx.out.trans hx0.out)) (rrow_one hbD hr8 (.inr hD)) (by omega) (by simpa using hkb)
            rw [hro2.out] at hcw
            have hcw := Hd.mk hcw
            clear hk
            go_simp
            refine Calls.mono (hcw.out) ?_
            rintro e W3 ⟨_, rfl, c9, rfl, hr9, hx⟩
            exact hK _ _ hx (fun d hd => by cases hd; exact ⟨c9, rfl, hr9.mono (fun b _ hb => by rcases hb with h | h; exact h; exact .inr (Nat.le_trans hx0.out.size h))⟩)
        · intro act V2 he
          have hxV2 := Hd.mk ((Ext.drew V).trans he.ext)
          obtain ⟨us, hA, hF⟩ := he.out [17, 18, 19, 20, 21, 22, 23, 24, 25, 26, 27, 28, 29] (by kernel_rfl)
          simp only [Flow.fillL, List.contains_cons, List.contains_nil, Nat.reduceBEq, Bool.or_false, Bool.false_or, Bool.or_true, Bool.true_or, ↓reduceIte, Nat.reduceAdd, Bool.false_eq_true] at hA
          subst hA
          have f29 : (spTS (fun b => (S b ∧ b < p) ∨ V.heap.size ≤ b) ro).p (us 29) V2 := hF 29 (by simp)
          clear hF he
          obtain ⟨c9, e9, hr9⟩ := (f29 : (spTS _ _).p _ _)
          obtain ⟨Km, km, rfl, _⟩ := hr9.row
          rw [e9]
          clear e9
          have hr9 := Hd.mk hr9
          simp only [cT] at hr9 ⊢
          have hVs := Hd.mk kR.out.lt
          replace kx := Hd.mk (kx.out.trans hxV2.out)
          replace kR := Hd.mk (kR.out.ext hxV2.out)
          clear hxV2
          have gR := kR.out.cell
          have fR := kR.out.free
          refine (show wpList _ _ _ (⟨none, .store 54 (.tmp 6) (.tmp 29), _, _, _, none⟩ :: _) _ _ from ?_)
          go_wp2_with fail
          have hu := Hd.mk ((((((Upd.setCell V2 ⟨p + 1 + 1, 0, none⟩ (.string ro.name)).trans (Upd.setCell _ ⟨p + 1 + 1, 1, none⟩ (.string ro.key))).trans (Upd.setCell _ ⟨p + 1 + 1, 2, none⟩ (.int .i64 ro.kind))).trans (Upd.setCell _ ⟨p + 1 + 1, 3, none⟩ (.int .u64 ro.num))).trans (Upd.setCell _ ⟨p + 1 + 1, 4, none⟩ (.string ro.text))).trans (Upd.setCell _ ⟨p + 1 + 1, 5, none⟩ (.slice Km ro.kids.length km)))
          exact ret_box rfl (p + 1 + 1) _ 54 _ ((((((kR.out.setCell 0 (.string ro.name)).setCell 1 (.string ro.key)).setCell 2 (.int .i64 ro.kind)).setCell 3 (.int .u64 ro.num)).setCell 4 (.string ro.text)).setCell 5 (.slice Km ro.kids.length km)) rfl rfl Try.underlying54 rfl size54
            ⟨_, rfl, _, rfl, RT.keep (S' := fun b => S b ∨ w.heap.size ≤ b) (fun b off v hb hc => ⟨by have := hp.out; have := hVs.out; rcases hb with ⟨h1, _⟩ | h; exact .inl h1; exact .inr (by omega), by rw [← hc]; exact World.cell?_of_block (hu.out.block b (by have := hVs.out; show b ≠ p + 1 + 1; rcases hb with ⟨_, h⟩ | h <;> omega))⟩) hr9.out, Below.trans kx.out (hu.out.below (by rw [hp.out]; show p ≤ p + 1 + 1; omega))⟩
end Go.Proofs.Ytgkgedjmnbjalaa
set_option linter.unusedSimpArgs false
namespace Go.Proofs.Ytgkgedjmnbjalaa
open Go.RowKit Go.Sort
set_option maxRecDepth 100000 in
set_option maxHeartbeats 2000000 in
theorem ref_cut : ∀ (way : List Step) (t : T) (S S' : Nat → Prop) (w : World) (c : List Value) (A : Option Addr) (ac : Nat), way ≠ [] → (getT t way).isSome = true → RT S w t c → WRow S' w A way ac → t.size ≤ 1048576 →
    Calls Try.prog 126 #[.agg c.toArray, .slice A way.length ac] w (Ret (TPost S (cutT t way) w))
  | [], t, S, S', w, c, A, ac, hne, _, _, _, _ => absurd rfl hne
  | [s], t, S, S', w, c, A, ac, _, hsome, h, hw, hsz => by
    obtain ⟨K, kc, rfl, hrow⟩ := h.row
    have hwc := hw.cap
    obtain ⟨b2, o2, rfl, _, hdk⟩ := WRow.at hw (j := 0) (x := s) rfl
    have hfd := Hd.mk (fun W (hx : Ext w W) => ref_find t s _ W _ (h.ext hx))
    have kr := Hd.mk (h.mono (S' := fun b => S b ∧ b < w.heap.size) (fun b hb hs => ⟨hs, hb⟩))
    have hrow := Hd.mk (hrow.mono' (S' := fun b => S b ∧ b < w.heap.size) (fun b hb hs => ⟨hs, hb⟩))
    have hkl := kids_lt t
    have hkb : t.kids.length + 1 ≤ 1048576 := by omega
    have hn := hrow.out.len
    obtain ⟨k, hk0⟩ : ∃ k, kid t.kids s = some k := by
      rw [getT_one] at hsome
      cases hk : kid t.kids s with
      | none => rw [hk] at hsome; cases hsome
      | some k => exact ⟨k, rfl⟩
    have hg : cutT t [s] = t.wk (cutL t.kids s) := rfl
    rw [hg]
    clear h hw hsz hkl hg hsome
    simp only [List.length_cons, List.length_nil, Nat.zero_add] at hwc ⊢
    simp only [cT] at kr hfd ⊢
    obtain ⟨s1, s2⟩ := s
    generalize hro : t.wk (cutL t.kids (s1, s2)) = ro
    replace hro := Hd.mk hro
    go_enter Try.func126, Try.ntmps126
    go_wp2_with fail
    have kx := Hd.mk ((Ext.alloc w (.cells #[.string t.name, .string t.key, .int .i64 t.kind, .int .u64 t.num, .string t.text, .slice K t.kids.length kc] 54)).trans (Ext.alloc _ (.cells #[.string ⟨#[]⟩, .string ⟨#[]⟩, .int .i64 0, .int .u64 0, .string ⟨#[]⟩, .slice none 0 0] 54)))
    have kA := Hd.mk ((Blk.new w #[.string t.name, .string t.key, .int .i64 t.kind, .int .u64 t.num, .string t.text, .slice K t.kids.length kc] 54).alloc (.cells #[.string ⟨#[]⟩, .string ⟨#[]⟩, .int .i64 0, .int .u64 0, .string ⟨#[]⟩, .slice none 0 0] 54))
    have kR := Hd.mk (Blk.new2 w (.cells #[.string t.name, .string t.key, .int .i64 t.kind, .int .u64 t.num, .string t.text, .slice K t.kids.length kc] 54) #[.string ⟨#[]⟩, .string ⟨#[]⟩, .int .i64 0, .int .u64 0, .string ⟨#[]⟩, .slice none 0 0] 54)
    generalize (w.alloc _).alloc _ = W at *
    generalize hp : w.heap.size = p at *
    replace hp := Hd.mk hp
    have kcy := Hd.mk (fun (q : Nat) u hq => Ext.cell kx.out (hdk q u hq))
    refine Flow.wp_region_flow_l (fun qq => match qq with
      | 6 => SP.eq (.agg #[.string t.name, .string t.key, .int .i64 t.kind, .int .u64 t.num, .string t.text, .slice K t.kids.length kc])
      | 7 => SP.eq (.slice (some ⟨b2, o2, none⟩) 1 ac)
      | 8 => SP.eq (.pointer (some ⟨b2, o2 + 0 * 2, none⟩))
      | 9 => SP.eq (.agg #[.string s1, .string s2])
      | 10 => SP.eq (.int .i64 (findT t.kids (s1, s2)))
      | 5 => SP.eq (.int .i64 (findT t.kids (s1, s2)))
      | _ => SP.any) 6 (by kernel_rfl) 29 rfl (by kernel_rfl) ?_ ?_
    · skip
      refine ⟨?_, ?_, ?_, ?_, ?_, ?_, trivial⟩
      · intro act W2 hk
        refine Flow.does_intro rfl (fun Kq hK => ?_)
        have e2 : act.tmps[2]?.getD undef = .pointer (some ⟨p, 0, none⟩) := hk.o 2 (by kernel_rfl)
        have g := ((kA.out).ext ((Ext.drew W).trans hk.ext)).cell
        clear hk
        go_simp
        exact hK _ _ (Ext.refl _) (fun d hd => by cases hd; rfl)
      · intro act W2 hk
        refine Flow.does_intro rfl (fun Kq hK => ?_)
        have e1 : act.tmps[1]?.getD undef = .slice (some ⟨b2, o2, none⟩) 1 ac := hk.o 1 (by kernel_rfl)
        clear hk
        go_simp
        exact hK _ _ (Ext.refl _) (fun d hd => by cases hd; rfl)
      · intro act W2 hk
        refine Flow.does_intro rfl (fun Kq hK => ?_)
        have e7 : act.tmps[7]?.getD undef = .slice (some ⟨b2, o2, none⟩) 1 ac := hk.v 7 (by kernel_rfl)
        clear hk
        go_simp
        exact hK _ _ (Ext.refl _) (fun d hd => by cases hd; simp [SP.eq])
      · intro act W2 hk
        refine Flow.does_intro rfl (fun Kq hK => ?_)
        have e8 : act.tmps[8]?.getD undef = .pointer (some ⟨b2, o2 + 0 * 2, none⟩) := hk.v 8 (by kernel_rfl)
        have g0 := Ext.cell ((Ext.drew W).trans hk.ext) ((kcy.out) 0 _ rfl)
        rw [Nat.add_zero] at g0
        have g1 := Ext.cell ((Ext.drew W).trans hk.ext) ((kcy.out) 1 _ rfl)
        clear hk
        go_simp
        exact hK _ _ (Ext.refl _) (fun d hd => by cases hd; rfl)
      · intro act W2 hk
        refine Flow.does_intro rfl (fun Kq hK => ?_)
        have e6 : act.tmps[6]?.getD undef = .agg #[.string t.name, .string t.key, .int .i64 t.kind, .int .u64 t.num, .string t.text, .slice K t.kids.length kc] := hk.v 6 (by kernel_rfl)
        have e9 : act.tmps[9]?.getD undef = .agg #[.string s1, .string s2] := hk.v 9 (by kernel_rfl)
        have hx0 := Hd.mk ((Ext.drew W).trans hk.ext)
        clear hk
        go_simp
        refine Calls.mono (hfd.out _ (kx.out.trans hx0.out)) ?_
        rintro e W3 ⟨rfl, hx⟩
        exact hK _ _ hx (fun d hd => by cases hd; rfl)
      · intro act W2 hk
        refine Flow.does_intro rfl (fun Kq hK => ?_)
        have e10 : act.tmps[10]?.getD undef = .int .i64 (findT t.kids (s1, s2)) := hk.v 10 (by kernel_rfl)
        clear hk
        go_simp
        exact hK _ _ (Ext.refl _) (fun d hd => by cases hd; rfl)
    · intro act V he
      have hxV := Hd.mk ((Ext.drew W).trans he.ext)
      obtain ⟨us, hA, hF⟩ := he.out [6, 7, 8, 9, 10, 5] (by kernel_rfl)
      simp only [Flow.fillL, List.contains_cons, List.contains_nil, Nat.reduceBEq, Bool.or_false, Bool.false_or, Bool.or_true, Bool.true_or, ↓reduceIte, Nat.reduceAdd, Bool.false_eq_true] at hA
      subst hA
      have f5 : us 5 = .int .i64 (findT t.kids (s1, s2)) := hF 5 (by simp)
      clear hF he
      rw [f5]
      clear f5
      refine (show wpList _ _ _ [] _ _ from ?_)
      replace kx := Hd.mk (kx.out.trans hxV.out)
      replace kA := Hd.mk (kA.out.ext hxV.out)
      replace kR := Hd.mk (kR.out.ext hxV.out)
      clear hxV hfd kcy
      rcases findT_kid t.kids (s1, s2) with ⟨hf, hk⟩ | ⟨i, k2, hf, hi, hk, _, hcl⟩
      · rw [hk] at hk0; cases hk0
      · rw [hf]
        have hil := (List.getElem?_eq_some_iff.1 hi).1
        have hcw := ref_with t [] (fun b => (S b ∧ b < p) ∨ V.heap.size ≤ b) V _ none 0 i 1 ((kr.out.mono (fun _ _ h => .inl h)).ext kx.out) (RRow.nil _ _ _ _ (fun _ => rfl)) (by omega) (by simpa using hn)
        rw [show t.wk (t.kids.take i ++ [] ++ t.kids.drop (i + 1)) = ro by rw [← hro.out, hcl, List.eraseIdx_eq_take_drop_succ, List.append_nil]] at hcw
        replace hcw := Hd.mk hcw
        clear hf hk hi hcl hk0
        have gA := kA.out.cell
        go_wp2_with fail
        clear gA
        have hVs := Hd.mk kR.out.lt
        refine Calls.mono hcw.out ?_
        rintro e w9 ⟨_, rfl, c9, rfl, hr9, hx9⟩
        obtain ⟨Km, km, rfl, _⟩ := hr9.row
        have hr9 := Hd.mk hr9
        simp only [cT] at hr9 ⊢
        replace kx := Hd.mk (kx.out.trans hx9)
        replace kR := Hd.mk (kR.out.ext hx9)
        clear hx9 hcw
        have gR := kR.out.cell
        have fR := kR.out.free
        go_wp2_with fail
        have hu := Hd.mk ((((((Upd.setCell w9 ⟨p + 1, 0, none⟩ (.string ro.name)).trans (Upd.setCell _ ⟨p + 1, 1, none⟩ (.string ro.key))).trans (Upd.setCell _ ⟨p + 1, 2, none⟩ (.int .i64 ro.kind))).trans (Upd.setCell _ ⟨p + 1, 3, none⟩ (.int .u64 ro.num))).trans (Upd.setCell _ ⟨p + 1, 4, none⟩ (.string ro.text))).trans (Upd.setCell _ ⟨p + 1, 5, none⟩ (.slice Km ro.kids.length km)))
        exact ret_box rfl (p + 1) _ 54 _ ((((((kR.out.setCell 0 (.string ro.name)).setCell 1 (.string ro.key)).setCell 2 (.int .i64 ro.kind)).setCell 3 (.int .u64 ro.num)).setCell 4 (.string ro.text)).setCell 5 (.slice Km ro.kids.length km)) rfl rfl Try.underlying54 rfl size54
          ⟨_, rfl, _, rfl, RT.keep (S' := fun b => S b ∨ w.heap.size ≤ b) (fun b off v hb hc => ⟨by have := hp.out; have := hVs.out; rcases hb with (⟨h1, _⟩ | h) | h; exact .inl h1; all_goals exact .inr (by omega), by rw [← hc]; exact World.cell?_of_block (hu.out.block b (by have := hVs.out; show b ≠ p + 1; rcases hb with (⟨_, h⟩ | h) | h <;> omega))⟩) hr9.out, Below.trans kx.out (hu.out.below (by rw [hp.out]; show p ≤ p + 1; omega))⟩
  | s :: q :: r, t, S, S', w, c, A, ac, _, hsome, h, hw, hsz => by
    obtain ⟨K, kc, rfl, hrow⟩ := h.row
    have hwc := hw.cap
    obtain ⟨b2, o2, rfl, _, hdk⟩ := WRow.at hw (j := 0) (x := s) rfl
    have hfd := Hd.mk (fun W (hx : Ext w W) => ref_find t s _ W _ (h.ext hx))
    have kr := Hd.mk (h.mono (S' := fun b => S b ∧ b < w.heap.size) (fun b hb hs => ⟨hs, hb⟩))
    have hrow := Hd.mk (hrow.mono' (S' := fun b => S b ∧ b < w.heap.size) (fun b hb hs => ⟨hs, hb⟩))
    have hkl := kids_lt t
    have hkb : t.kids.length + 1 ≤ 1048576 := by omega
    have hn := hrow.out.len
    obtain ⟨k, hk0, hgk⟩ : ∃ k, kid t.kids s = some k ∧ (getT k (q :: r)).isSome = true := by
      rw [getT_cons] at hsome
      cases hk : kid t.kids s with
      | none => rw [hk] at hsome; cases hsome
      | some k => rw [hk] at hsome; exact ⟨k, rfl, hsome⟩
    have hg : cutT t (s :: q :: r) = t.wk (repL t.kids s (cutT k (q :: r))) := by simp only [cutT, hk0]
    have hks := kidn_size hk0
    have ih := Hd.mk (fun (Sx : Nat → Prop) W c1 A1 a1 (g1 : RT Sx W k c1) (g3 : WRow S' W A1 (q :: r) a1) => ref_cut (q :: r) k Sx S' W c1 A1 a1 (by simp) hgk g1 g3 (by omega))
    have kwt := Hd.mk hw.tail'
    rw [hg]
    clear h hw hsz hkl hg hgk hsome hks
    simp only [List.length_cons] at hwc ⊢
    simp only [cT] at kr hfd ⊢
    obtain ⟨s1, s2⟩ := s
    generalize hro : t.wk (repL t.kids (s1, s2) (cutT k (q :: r))) = ro
    generalize hL : r.length = L at *
    replace hL := Hd.mk hL
    replace hro := Hd.mk hro
    go_enter Try.func126, Try.ntmps126
    go_wp2_with fail
    have kx := Hd.mk ((Ext.alloc w (.cells #[.string t.name, .string t.key, .int .i64 t.kind, .int .u64 t.num, .string t.text, .slice K t.kids.length kc] 54)).trans (Ext.alloc _ (.cells #[.string ⟨#[]⟩, .string ⟨#[]⟩, .int .i64 0, .int .u64 0, .string ⟨#[]⟩, .slice none 0 0] 54)))
    have kA := Hd.mk ((Blk.new w #[.string t.name, .string t.key, .int .i64 t.kind, .int .u64 t.num, .string t.text, .slice K t.kids.length kc] 54).alloc (.cells #[.string ⟨#[]⟩, .string ⟨#[]⟩, .int .i64 0, .int .u64 0, .string ⟨#[]⟩, .slice none 0 0] 54))
    have kR := Hd.mk (Blk.new2 w (.cells #[.string t.name, .string t.key, .int .i64 t.kind, .int .u64 t.num, .string t.text, .slice K t.kids.length kc] 54) #[.string ⟨#[]⟩, .string ⟨#[]⟩, .int .i64 0, .int .u64 0, .string ⟨#[]⟩, .slice none 0 0] 54)
    generalize (w.alloc _).alloc _ = W at *
    generalize hp : w.heap.size = p at *
    replace hp := Hd.mk hp
    have kcy := Hd.mk (fun (q : Nat) u hq => Ext.cell kx.out (hdk q u hq))
    have hL0 : (0 : Int) < (L : Int) + 1 + 1 := by omega
    have hL1 : (1 : Int) ≤ (L : Int) + 1 + 1 := by omega
    have hL2 : ¬ ((L : Int) + 1 + 1 = 1) := by omega
    have hL3 : ((L : Int) + 1 + 1 == 1) = false := by rw [beq_eq_false_iff_ne]; omega
    refine Flow.wp_region_flow_l (fun qq => match qq with
      | 6 => SP.eq (.agg #[.string t.name, .string t.key, .int .i64 t.kind, .int .u64 t.num, .string t.text, .slice K t.kids.length kc])
      | 7 => SP.eq (.slice (some ⟨b2, o2, none⟩) (L + 1 + 1) ac)
      | 8 => SP.eq (.pointer (some ⟨b2, o2 + 0 * 2, none⟩))
      | 9 => SP.eq (.agg #[.string s1, .string s2])
      | 10 => SP.eq (.int .i64 (findT t.kids (s1, s2)))
      | 5 => SP.eq (.int .i64 (findT t.kids (s1, s2)))
      | _ => SP.any) 6 (by kernel_rfl) 29 rfl (by kernel_rfl) ?_ ?_
    · skip
      refine ⟨?_, ?_, ?_, ?_, ?_, ?_, trivial⟩
      · intro act W2 hk
        refine Flow.does_intro rfl (fun Kq hK => ?_)
        have e2 : act.tmps[2]?.getD undef = .pointer (some ⟨p, 0, none⟩) := hk.o 2 (by kernel_rfl)
        have g := ((kA.out).ext ((Ext.drew W).trans hk.ext)).cell
        clear hk
        go_simp
        exact hK _ _ (Ext.refl _) (fun d hd => by cases hd; rfl)
      · intro act W2 hk
        refine Flow.does_intro rfl (fun Kq hK => ?_)
        have e1 : act.tmps[1]?.getD undef = .slice (some ⟨b2, o2, none⟩) (L + 1 + 1) ac := hk.o 1 (by kernel_rfl)
        clear hk
        go_simp
        exact hK _ _ (Ext.refl _) (fun d hd => by cases hd; rfl)
      · intro act W2 hk
        refine Flow.does_intro rfl (fun Kq hK => ?_)
        have e7 : act.tmps[7]?.getD undef = .slice (some ⟨b2, o2, none⟩) (L + 1 + 1) ac := hk.v 7 (by kernel_rfl)
        clear hk
        go_simp
        exact hK _ _ (Ext.refl _) (fun d hd => by cases hd; simp [SP.eq])
      · intro act W2 hk
        refine Flow.does_intro rfl (fun Kq hK => ?_)
        have e8 : act.tmps[8]?.getD undef = .pointer (some ⟨b2, o2 + 0 * 2, none⟩) := hk.v 8 (by kernel_rfl)
        have g0 := Ext.cell ((Ext.drew W).trans hk.ext) ((kcy.out) 0 _ rfl)
        rw [Nat.add_zero] at g0
        have g1 := Ext.cell ((Ext.drew W).trans hk.ext) ((kcy.out) 1 _ rfl)
        clear hk
        go_simp
        exact hK _ _ (Ext.refl _) (fun d hd => by cases hd; rfl)
      · intro act W2 hk
        refine Flow.does_intro rfl (fun Kq hK => ?_)
        have e6 : act.tmps[6]?.getD undef = .agg #[.string t.name, .string t.key, .int .i64 t.kind, .int .u64 t.num, .string t.text, .slice K t.kids.length kc] := hk.v 6 (by kernel_rfl)
        have e9 : act.tmps[9]?.getD undef = .agg #[.string s1, .string s2] := hk.v 9 (by kernel_rfl)
        have hx0 := Hd.mk ((Ext.drew W).trans hk.ext)
        clear hk
        go_simp
        refine Calls.mono (hfd.out _ (kx.out.trans hx0.out)) ?_
        rintro e W3 ⟨rfl, hx⟩
        exact hK _ _ hx (fun d hd => by cases hd; rfl)
      · intro act W2 hk
        refine Flow.does_intro rfl (fun Kq hK => ?_)
        have e10 : act.tmps[10]?.getD undef = .int .i64 (findT t.kids (s1, s2)) := hk.v 10 (by kernel_rfl)
        clear hk
        go_simp
        exact hK _ _ (Ext.refl _) (fun d hd => by cases hd; rfl)
    · intro act V he
      have hxV := Hd.mk ((Ext.drew W).trans he.ext)
      obtain ⟨us, hA, hF⟩ := he.out [6, 7, 8, 9, 10, 5] (by kernel_rfl)
      simp only [Flow.fillL, List.contains_cons, List.contains_nil, Nat.reduceBEq, Bool.or_false, Bool.false_or, Bool.or_true, Bool.true_or, ↓reduceIte, Nat.reduceAdd, Bool.false_eq_true] at hA
      subst hA
      have f5 : us 5 = .int .i64 (findT t.kids (s1, s2)) := hF 5 (by simp)
      clear hF he
      rw [f5]
      clear f5
      refine (show wpList _ _ _ [] _ _ from ?_)
      replace kx := Hd.mk (kx.out.trans hxV.out)
      replace kA := Hd.mk (kA.out.ext hxV.out)
      replace kR := Hd.mk (kR.out.ext hxV.out)
      clear hxV hfd kcy
      rcases findT_kid t.kids (s1, s2) with ⟨hf, hk⟩ | ⟨i, k2, hf, hi, hk, hrep, _⟩
      · rw [hk] at hk0; cases hk0
      · rw [hk] at hk0
        obtain rfl : k2 = k := by cases hk0; rfl
        rw [hf]
        obtain ⟨b1, o1, ck, rfl, _, hrk, hck⟩ := hrow.out.kid i k2 hi
        have hil := (List.getElem?_eq_some_iff.1 hi).1
        have hro2 : t.wk (t.kids.take i ++ [cutT k2 (q :: r)] ++ t.kids.drop (i + 1)) = ro := by rw [← hro.out, hrep, set_take hil]
        replace hro2 := Hd.mk hro2
        obtain ⟨K9, c9, rfl, _⟩ := hrk.row
        have hrec := Hd.mk (fun W (h : Ext V W) => ih.out (fun b => S b ∧ b < p) W _ _ _ (hrk.ext (kx.out.trans h)) (kwt.out.ext (kx.out.trans h)))
        have kck := Hd.mk (fun (q : Nat) u hq => Ext.cell kx.out (hck q u hq))
        simp only [cT, List.length_cons] at hrec kck
        rw [hL.out] at hrec
        generalize cutT k2 (q :: r) = k1 at *
        clear hf hk hi hrep hk0 ih kwt hrk hck
        go_wp2_with fail
        refine Flow.wp_region_flow_l (fun qq => match qq with
          | 17 => SP.eq (.agg #[.string t.name, .string t.key, .int .i64 t.kind, .int .u64 t.num, .string t.text, .slice (some ⟨b1, o1, none⟩) t.kids.length kc])
          | 18 => SP.eq (.int .i64 (i : Nat))
          | 19 => SP.eq (.pointer (some ⟨p, 5, none⟩))
          | 20 => SP.eq (.slice (some ⟨b1, o1, none⟩) t.kids.length kc)
          | 21 => SP.eq (.int .i64 (i : Nat))
          | 22 => SP.eq (.pointer (some ⟨b1, o1 + i * 6, none⟩))
          | 23 => SP.eq (.agg #[.string k2.name, .string k2.key, .int .i64 k2.kind, .int .u64 k2.num, .string k2.text, .slice K9 k2.kids.length c9])
          | 24 => SP.eq (.slice (some ⟨b2, o2, none⟩) (L + 1 + 1) ac)
          | 25 => SP.eq (.slice (if ac = 1 then some ⟨b2, o2, none⟩ else some ⟨b2, o2 + 2, none⟩) (L + 1) (ac - 1))
          | 26 => spTS (fun b => (S b ∧ b < p) ∨ V.heap.size ≤ b) k1
          | 27 => spTRow (fun b => (S b ∧ b < p) ∨ V.heap.size ≤ b) k1 V.heap.size
          | 28 => spTS (fun b => (S b ∧ b < p) ∨ V.heap.size ≤ b) ro
          | _ => SP.any) 12 (by kernel_rfl) 29 rfl (by kernel_rfl) ?_ ?_
        · skip
          refine ⟨?_, ?_, ?_, ?_, ?_, ?_, ?_, ?_, ?_, ?_, ?_, ?_, trivial⟩
          · intro act W2 hk
            refine Flow.does_intro rfl (fun Kq hK => ?_)
            have e2 : act.tmps[2]?.getD undef = .pointer (some ⟨p, 0, none⟩) := hk.o 2 (by kernel_rfl)
            have g := ((kA.out).ext ((Ext.drew V).trans hk.ext)).cell
            clear hk
            go_simp
            exact hK _ _ (Ext.refl _) (fun d hd => by cases hd; rfl)
          · intro act W2 hk
            refine Flow.does_intro rfl (fun Kq hK => ?_)
            have e5 : act.tmps[5]?.getD undef = .int .i64 (i : Nat) := hk.o 5 (by kernel_rfl)
            clear hk
            go_simp
            exact hK _ _ (Ext.refl _) (fun d hd => by cases hd; rfl)
          · intro act W2 hk
            refine Flow.does_intro rfl (fun Kq hK => ?_)
            have e2 : act.tmps[2]?.getD undef = .pointer (some ⟨p, 0, none⟩) := hk.o 2 (by kernel_rfl)
            clear hk
            go_simp
            exact hK _ _ (Ext.refl _) (fun d hd => by cases hd; rfl)
          · intro act W2 hk
            refine Flow.does_intro rfl (fun Kq hK => ?_)
            have e19 : act.tmps[19]?.getD undef = .pointer (some ⟨p, 5, none⟩) := hk.v 19 (by kernel_rfl)
            have g := ((kA.out).ext ((Ext.drew V).trans hk.ext)).cell
            clear hk
            go_simp
            exact hK _ _ (Ext.refl _) (fun d hd => by cases hd; rfl)
          · intro act W2 hk
            refine Flow.does_intro rfl (fun Kq hK => ?_)
            have e5 : act.tmps[5]?.getD undef = .int .i64 (i : Nat) := hk.o 5 (by kernel_rfl)
            clear hk
            go_simp
            exact hK _ _ (Ext.refl _) (fun d hd => by cases hd; rfl)
          · intro act W2 hk
            refine Flow.does_intro rfl (fun Kq hK => ?_)
            have e20 : act.tmps[20]?.getD undef = .slice (some ⟨b1, o1, none⟩) t.kids.length kc := hk.v 20 (by kernel_rfl)
            have e21 : act.tmps[21]?.getD undef = .int .i64 (i : Nat) := hk.v 21 (by kernel_rfl)
            clear hk
            go_simp
            exact hK _ _ (Ext.refl _) (fun d hd => by cases hd; rfl)
          · intro act W2 hk
            refine Flow.does_intro rfl (fun Kq hK => ?_)
            have e22 : act.tmps[22]?.getD undef = .pointer (some ⟨b1, o1 + i * 6, none⟩) := hk.v 22 (by kernel_rfl)
            have g0 := Ext.cell ((Ext.drew V).trans hk.ext) ((kck.out) 0 _ rfl)
            rw [Nat.add_zero] at g0
            have g1 := Ext.cell ((Ext.drew V).trans hk.ext) ((kck.out) 1 _ rfl)
            have g2 := Ext.cell ((Ext.drew V).trans hk.ext) ((kck.out) 2 _ rfl)
            have g3 := Ext.cell ((Ext.drew V).trans hk.ext) ((kck.out) 3 _ rfl)
            have g4 := Ext.cell ((Ext.drew V).trans hk.ext) ((kck.out) 4 _ rfl)
            have g5 := Ext.cell ((Ext.drew V).trans hk.ext) ((kck.out) 5 _ rfl)
            clear hk
            go_simp
            exact hK _ _ (Ext.refl _) (fun d hd => by cases hd; rfl)
          · intro act W2 hk
            refine Flow.does_intro rfl (fun Kq hK => ?_)
            have e1 : act.tmps[1]?.getD undef = .slice (some ⟨b2, o2, none⟩) (L + 1 + 1) ac := hk.o 1 (by kernel_rfl)
            clear hk
            go_simp
            exact hK _ _ (Ext.refl _) (fun d hd => by cases hd; rfl)
          · intro act W2 hk
            refine Flow.does_intro rfl (fun Kq hK => ?_)
            have e24 : act.tmps[24]?.getD undef = .slice (some ⟨b2, o2, none⟩) (L + 1 + 1) ac := hk.v 24 (by kernel_rfl)
            clear hk
            go_simp
            exact hK _ _ (Ext.refl _) (fun d hd => by cases hd; simp [SP.eq])
          · intro act W2 hk
            refine Flow.does_intro rfl (fun Kq hK => ?_)
            have e23 : act.tmps[23]?.getD undef = .agg #[.string k2.name, .string k2.key, .int .i64 k2.kind, .int .u64 k2.num, .string k2.text, .slice K9 k2.kids.length c9] := hk.v 23 (by kernel_rfl)
            have e25 : act.tmps[25]?.getD undef = .slice (if ac = 1 then some ⟨b2, o2, none⟩ else some ⟨b2, o2 + 2, none⟩) (L + 1) (ac - 1) := hk.v 25 (by kernel_rfl)
            have hx0 := Hd.mk ((Ext.drew V).trans hk.ext)
            clear hk
            go_simp
            refine Calls.mono (hrec.out _ hx0.out) ?_
            rintro e W3 ⟨_, rfl, c8, rfl, hr8, hx⟩
            exact hK _ _ hx (fun d hd => by cases hd; exact ⟨c8, rfl, hr8.mono (fun b _ hb => by rcases hb with h | h; exact .inl h; exact .inr (Nat.le_trans hx0.out.size h))⟩)
          · intro act W2 hk
            refine Flow.does_intro rfl (fun Kq hK => ?_)
            obtain ⟨c8, e26, hr8⟩ := (hk.v 26 (by kernel_rfl) : (spTS _ _).p _ _)
            obtain ⟨Kq1, kq1, rfl, _⟩ := hr8.row
            simp only [cT] at e26 hr8
            have hr8 := Hd.mk hr8
            have hx0 := Hd.mk ((Ext.drew V).trans hk.ext)
            clear hk
            go_simp
            exact hK _ _ (Ext.alloc _ _) (fun d hd => by cases hd; exact ⟨_, _, rfl, hx0.out.size, Blk.new _ _ _, hr8.out.ext (Ext.alloc _ _)⟩)
          · intro act W2 hk
            refine Flow.does_intro rfl (fun Kq hK => ?_)
            have e17 : act.tmps[17]?.getD undef = .agg #[.string t.name, .string t.key, .int .i64 t.kind, .int .u64 t.num, .string t.text, .slice (some ⟨b1, o1, none⟩) t.kids.length kc] := hk.v 17 (by kernel_rfl)
            have e18 : act.tmps[18]?.getD undef = .int .i64 (i : Nat) := hk.v 18 (by kernel_rfl)
            obtain ⟨D, c8, e27, hD, hbD, hr8⟩ := (hk.v 27 (by kernel_rfl) : (spTRow _ _ _).p _ _)
            have hx0 := Hd.mk ((Ext.drew V).trans hk.ext)
            have hcw := ref_with t [k1] (fun b => (S b ∧ b < p) ∨ V.heap.size ≤ b) W2 _ (some ⟨D, 0, none⟩) 1 i 1 ((kr.out.mono (fun _ _ h => .inl h)).ext (kx.out.trans hx0.out)) (rrow_one hbD hr8 (.inr hD)) (by omega) (by simpa using hkb)
            rw [hro2.out] at hcw
            have hcw := Hd.mk hcw
            clear hk
            go_simp
            refine Calls.mono (hcw.out) ?_
            rintro e W3 ⟨_, rfl, c9, rfl, hr9, hx⟩
            exact hK _ _ hx (fun d hd => by cases hd; exact ⟨c9, rfl, hr9.mono (fun b _ hb => by rcases hb with h | h; exact h; exact .inr (Nat.le_trans hx0.out.size h))⟩)
        · intro act V2 he
          have hxV2 := Hd.mk ((Ext.drew V).trans he.ext)
          obtain ⟨us, hA, hF⟩ := he.out [17, 18, 19, 20, 21, 22, 23, 24, 25, 26, 27, 28] (by kernel_rfl)
          simp only [Flow.fillL, List.contains_cons, List.contains_nil, Nat.reduceBEq, Bool.or_false, Bool.false_or, Bool.or_true, Bool.true_or, ↓reduceIte, Nat.reduceAdd, Bool.false_eq_true] at hA
          subst hA
          have f28 : (spTS (fun b => (S b ∧ b < p) ∨ V.heap.size ≤ b) ro).p (us 28) V2 := hF 28 (by simp)
          clear hF he
          obtain ⟨c9, e9, hr9⟩ := (f28 : (spTS _ _).p _ _)
          obtain ⟨Km, km, rfl, _⟩ := hr9.row
          rw [e9]
          clear e9
          have hr9 := Hd.mk hr9
          simp only [cT] at hr9 ⊢
          have hVs := Hd.mk kR.out.lt
          replace kx := Hd.mk (kx.out.trans hxV2.out)
          replace kR := Hd.mk (kR.out.ext hxV2.out)
          clear hxV2
          have gR := kR.out.cell
          have fR := kR.out.free
          refine (show wpList _ _ _ (⟨none, .store 54 (.tmp 4) (.tmp 28), _, _, _, none⟩ :: _) _ _ from ?_)
          go_wp2_with fail
          have hu := Hd.mk ((((((Upd.setCell V2 ⟨p + 1, 0, none⟩ (.string ro.name)).trans (Upd.setCell _ ⟨p + 1, 1, none⟩ (.string ro.key))).trans (Upd.setCell _ ⟨p + 1, 2, none⟩ (.int .i64 ro.kind))).trans (Upd.setCell _ ⟨p + 1, 3, none⟩ (.int .u64 ro.num))).trans (Upd.setCell _ ⟨p + 1, 4, none⟩ (.string ro.text))).trans (Upd.setCell _ ⟨p + 1, 5, none⟩ (.slice Km ro.kids.length km)))
          exact ret_box rfl (p + 1) _ 54 _ ((((((kR.out.setCell 0 (.string ro.name)).setCell 1 (.string ro.key)).setCell 2 (.int .i64 ro.kind)).setCell 3 (.int .u64 ro.num)).setCell 4 (.string ro.text)).setCell 5 (.slice Km ro.kids.length km)) rfl rfl Try.underlying54 rfl size54
            ⟨_, rfl, _, rfl, RT.keep (S' := fun b => S b ∨ w.heap.size ≤ b) (fun b off v hb hc => ⟨by have := hp.out; have := hVs.out; rcases hb with ⟨h1, _⟩ | h; exact .inl h1; exact .inr (by omega), by rw [← hc]; exact World.cell?_of_block (hu.out.block b (by have := hVs.out; show b ≠ p + 1; rcases hb with ⟨_, h⟩ | h <;> omega))⟩) hr9.out, Below.trans kx.out (hu.out.below (by rw [hp.out]; show p ≤ p + 1; omega))⟩
end Go.Proofs.Ytgkgedjmnbjalaa
set_option linter.unusedSimpArgs false
set_option linter.unusedVariables false
namespace Go.Proofs.Ytgkgedjmnbjalaa
open Go.RowKit
namespace FlowG
open Flow (certB closedB fitB depB oldB depsB rangeB tailB flowB fillL marked left ahead_listed getD_set put_getD put_getD_ge put_size put_defers' mem_ready' marked_size marked_getD unlisted left_set wpAny_fuel_ready upto wpAny_tail marked_range fillL_length fillL_get countP_set countP_other upto_getD upto_size upto_set)
variable {P : Program} {ops : Array Oper} {Q : Exit → Act → World → Prop}
structure Known (R : World → World → Prop) (s : Nat) (ops : Array Oper) (C : Array Nat) (L : List Nat) (F : Tmp → SP) (a0 : Act) (w0 : World) (i : Nat) (a : Act) (w : World) : Prop where
  ext : R w0 w
  early : (i = s ∨ (C.getD s 0).testBit i = true) → Ext w0 w
  size : a.tmps.size = a0.tmps.size
  dep : ∀ t, depB ops C L i t = true → (F t).p (a.tmps.getD t undef) w
  old : ∀ t, oldB ops C L i t = true → a.tmps.getD t undef = a0.tmps.getD t undef
theorem Known.v {R : World → World → Prop} {s : Nat} {C : Array Nat} {L : List Nat} {F : Tmp → SP} {a0 : Act} {w0 : World} {i : Nat} {a : Act} {w : World} (h : Known R s ops C L F a0 w0 i a w) (t : Tmp) (hd : depB ops C L i t = true) : (F t).p (a.tmps[t]?.getD undef) w := by
  have := h.dep t hd
  rwa [Array.getD_eq_getD_getElem?] at this
theorem Known.o {R : World → World → Prop} {s : Nat} {C : Array Nat} {L : List Nat} {F : Tmp → SP} {a0 : Act} {w0 : World} {i : Nat} {a : Act} {w : World} (h : Known R s ops C L F a0 w0 i a w) (t : Tmp) (hd : oldB ops C L i t = true) : a.tmps[t]?.getD undef = a0.tmps.getD t undef := by
  have := h.old t hd
  rwa [Array.getD_eq_getD_getElem?] at this
def Does (Rl : World → World → Prop) (G : Act → World → Prop) (P : Program) (ops : Array Oper) (Q : Exit → Act → World → Prop) (F : Tmp → SP) (o : Oper) (a : Act) (w : World) : Prop :=
  if Region.wanted o (yielded ops a.tmps) then o.wp P a w (fun a' w' => ∃ v, a' = a.put o.dst v ∧ Rl w w' ∧ G a w' ∧ ∀ d, o.dst = some d → (F d).p v w') Q
  else G a w ∧ ∀ d, o.dst = some d → (F d).p undef w
structure Ends (R : World → World → Prop) (G : Act → World → Prop) (s : Nat) (C : Array Nat) (ops : Array Oper) (L : List Nat) (F : Tmp → SP) (a0 : Act) (w0 : World) (a : Act) (w : World) : Prop where
  ext : R w0 w
  size : a.tmps.size = a0.tmps.size
  defers : a.defers = a0.defers
  post : ∃ a1, G a1 w ∧ ∀ t, depB ops C L s t = true → a1.tmps.getD t undef = a.tmps.getD t undef
  new : ∀ j ∈ L, ∀ t, (ops[j]?).bind (·.dst) = some t → (F t).p (a.tmps.getD t undef) w
  old : ∀ t, (L.all fun j => ((ops[j]?).bind (·.dst)) != some t) = true → a.tmps.getD t undef = a0.tmps.getD t undef
structure Inv (R : World → World → Prop) (G : Act → World → Prop) (s : Nat) (C : Array Nat) (ops : Array Oper) (L : List Nat) (F : Tmp → SP) (a0 : Act) (w0 : World) (l0 l : Array Bool) (a : Act) (w : World) : Prop where
  ext : R w0 w
  early : l.getD s false = false → Ext w0 w
  post : l.getD s false = true → ∃ a1, G a1 w ∧ ∀ t, depB ops C L s t = true → a1.tmps.getD t undef = a.tmps.getD t undef
  size : a.tmps.size = a0.tmps.size
  defers : a.defers = a0.defers
  lsize : l.size = ops.size
  closed : ∀ j o, ops[j]? = some o → l.getD j false = true → ∀ e ∈ o.after, Region.binds .any e = true → l.getD e.on false = true
  out : ∀ j, j ∉ L → l.getD j false = l0.getD j false
  new : ∀ j ∈ L, l.getD j false = true → ∀ t, (ops[j]?).bind (·.dst) = some t → (F t).p (a.tmps.getD t undef) w
  old : ∀ t, (∀ j ∈ L, l.getD j false = true → (ops[j]?).bind (·.dst) ≠ some t) → a.tmps.getD t undef = a0.tmps.getD t undef
theorem Inv.step {R : World → World → Prop} {G : Act → World → Prop} (hGE : ∀ a w w', Ext w w' → G a w → G a w') {s : Nat} {L : List Nat} {F : Tmp → SP} {C : Array Nat} (hC : certB ops C = true) (hLlt : ∀ j ∈ L, j < ops.size) (hss : s < ops.size) (hself : (C.getD s 0).testBit s = false) {a0 : Act} {w0 : World} {l0 l : Array Bool} {a : Act} {w : World} (hfit : fitB ops C l0 L = true)
    (h : Inv R G s C ops L F a0 w0 l0 l a w) {i : Nat} {o : Oper} (hi : i ∈ L) (ho : ops[i]? = some o) (hr : ∀ e ∈ o.after, Region.binds .any e = true → l.getD e.on false = true)
    {v : Value} {w' : World} (hx : R w0 w') (hex : i ≠ s → Ext w w') (hGs : i = s → G a w') (hun : l.getD i false = false) (hmn : ∀ t, o.dst ≠ some t → ∀ u, (F t).p u w → (F t).p u w') (hv : ∀ d, o.dst = some d → (F d).p v w') (hu : ∀ d, o.dst = some d → a.tmps.size ≤ d → v = undef) :
    Inv R G s C ops L F a0 w0 l0 (l.setIfInBounds i true) (a.put o.dst v) w' := by
  have hlt : i < ops.size := (Array.getElem?_eq_some_iff.1 ho).1
  have hli : i < l.size := by rw [h.lsize]; exact hlt
  have hone : ∀ j ∈ L, ∀ d, (ops[j]?).bind (·.dst) = some d → o.dst = some d → j = i := by
    intro j hj d h1 h2
    simp only [fitB, Bool.and_eq_true] at hfit
    have hfit := hfit.2
    rw [List.all_eq_true] at hfit
    have hjlt : j < ops.size := by
      rcases Nat.lt_or_ge j ops.size with hh | hh
      · exact hh
      · simp [Array.getElem?_eq_none hh] at h1
    have h3 := hfit j (List.mem_range.2 hjlt)
    rw [List.all_eq_true] at h3
    have h4 := h3 i (List.mem_range.2 hlt)
    simp only [ho, Option.bind_some, h2, h1, Bool.or_eq_true, beq_iff_eq, Bool.not_eq_true', bne_iff_ne, ne_eq, not_true_eq_false, or_false] at h4
    rcases h4 with (h4 | h4) | h4
    · exact h4.symm
    · simp [hi] at h4
    · simp [hj] at h4
  refine ⟨hx, fun hls => ?_, fun hls => ?_, by rw [put_size]; exact h.size, by rw [put_defers']; exact h.defers, by simp [h.lsize], ?_, ?_, ?_, ?_⟩
  · rw [getD_set _ _ _ hli] at hls
    simp only [Bool.or_eq_false_iff, beq_eq_false_iff_ne] at hls
    exact (h.early hls.2).trans (hex (fun e => hls.1 e.symm))
  · have hkeep : ∀ t, depB ops C L s t = true → (a.put o.dst v).tmps.getD t undef = a.tmps.getD t undef := by
      intro t ht
      simp only [depB, List.any_eq_true, Bool.and_eq_true, beq_iff_eq] at ht
      obtain ⟨j, hj, hbit, hdst⟩ := ht
      have hne : o.dst ≠ some t := by
        intro e
        have hji := hone j hj t hdst e
        subst hji
        -- j is ahead of s, and not listed
        rw [getD_set _ _ _ hli] at hls
        by_cases hjs : s = j
        · subst hjs
          rw [hself] at hbit; cases hbit
        · simp only [beq_iff_eq, hjs, Bool.or_eq_true, false_or] at hls
          have := ahead_listed hC h.closed j hlt s hss (fun o' ho' e' he' hbb => h.closed s o' ho' hls e' he' hbb) hbit
          rw [hun] at this; cases this
      cases hdd : o.dst with
      | none => rfl
      | some d =>
        have hnd : t ≠ d := fun e => hne (by rw [hdd, e])
        rcases Nat.lt_or_ge d a.tmps.size with hs | hs
        · rw [put_getD _ _ _ _ hs, if_neg hnd]
        · rw [put_getD_ge _ _ _ _ hs]
    rw [getD_set _ _ _ hli] at hls
    by_cases his : i = s
    · exact ⟨a, hGs his, fun t ht => (hkeep t ht).symm⟩
    · have hsi : (s == i) = false := by rw [beq_eq_false_iff_ne]; exact fun e => his e.symm
      rw [hsi, Bool.false_or] at hls
      obtain ⟨a1, g1, g2⟩ := h.post hls
      exact ⟨a1, hGE _ _ _ (hex his) g1, fun t ht => (g2 t ht).trans (hkeep t ht).symm⟩
  · intro j oj hoj hlj e he hb
    rw [getD_set _ _ _ hli] at hlj ⊢
    by_cases hji : j = i
    · subst hji
      rw [ho] at hoj
      injection hoj with hoj
      subst hoj
      simp [hr e he hb]
    · simp only [beq_iff_eq, hji, Bool.or_eq_true, false_or] at hlj
      simp [h.closed j oj hoj hlj e he hb]
  · intro j hj
    rw [getD_set _ _ _ hli]
    have hji : j ≠ i := fun e => hj (e ▸ hi)
    simp [hji, h.out j hj]
  · intro j hj hlj t ht
    rw [getD_set _ _ _ hli] at hlj
    by_cases hd : o.dst = some t
    · have := hone j hj t ht hd
      subst this
      rw [hd]
      rcases Nat.lt_or_ge t a.tmps.size with hs | hs
      · rw [put_getD _ _ _ _ hs, if_pos rfl]
        exact hv t hd
      · rw [put_getD_ge _ _ _ _ hs, Array.getD_eq_getD_getElem?, Array.getElem?_eq_none hs, Option.getD_none, ← hu t hd hs]
        exact hv t hd
    · have hji : j ≠ i := by
        intro e
        subst e
        rw [ho, Option.bind_some] at ht
        exact hd ht
      simp only [beq_iff_eq, hji, Bool.or_eq_true, false_or] at hlj
      have hold := hmn t hd _ (h.new j hj hlj t ht)
      cases hdd : o.dst with
      | none => exact hold
      | some d =>
        have hne : t ≠ d := fun e => hd (by rw [hdd, e])
        rcases Nat.lt_or_ge d a.tmps.size with hs | hs
        · rw [put_getD _ _ _ _ hs, if_neg hne]; exact hold
        · rw [put_getD_ge _ _ _ _ hs]; exact hold
  · intro t ht
    have hne : o.dst ≠ some t := by
      intro e
      refine ht i hi ?_ (by rw [ho, Option.bind_some, e])
      rw [getD_set _ _ _ hli]
      simp
    have hold : a.tmps.getD t undef = a0.tmps.getD t undef := h.old t fun j hj hlj => ht j hj (by rw [getD_set _ _ _ hli, hlj]; simp)
    rw [← hold]
    cases hdd : o.dst with
    | none => rfl
    | some d =>
      have hne : t ≠ d := fun e => hne (by rw [hdd, e])
      rcases Nat.lt_or_ge d a.tmps.size with hs | hs
      · rw [put_getD _ _ _ _ hs, if_neg hne]
      · rw [put_getD_ge _ _ _ _ hs]
theorem wpAny_flow_aux {G : Act → World → Prop} (hGE : ∀ a w w', Ext w w' → G a w → G a w') {R : World → World → Prop} {s : Nat} (hRE : ∀ w w', Ext w w' → R w w') (hRT : ∀ {a b c}, R a b → R b c → R a c) (hs : s < ops.size) {L : List Nat} {F : Tmp → SP} {C : Array Nat} {a0 : Act} {w0 : World} {l0 : Array Bool} (hC : certB ops C = true) (hfit : fitB ops C l0 L = true) (hdeps : depsB ops l0 L = true)
    (hrg : rangeB ops a0.tmps.size = true) (hnd : L.Nodup) (hsL : s ∈ L) (hself : (C.getD s 0).testBit s = false) (rest : Nat)
    (hmono : ∀ t, (ops[s]?).bind (·.dst) ≠ some t → ∀ u w w', R w w' → (F t).p u w → (F t).p u w')
    (hop : ∀ i ∈ L, ∀ o, ops[i]? = some o → ∀ a w, Known R s ops C L F a0 w0 i a w → Does (if i = s then R else Ext) (fun a w => i = s → G a w) P ops Q F o a w)
    (hend : ∀ a w, Ends R G s C ops L F a0 w0 a w → wpAny P .any ops Q rest (marked l0 L) a w) :
    ∀ (m : Nat) (l : Array Bool) (a : Act) (w : World), left l L = m → Inv R G s C ops L F a0 w0 l0 l a w → wpAny P .any ops Q (m + rest) l a w := by
  have hLlt : ∀ i ∈ L, i < ops.size := by
    intro i hi
    simp only [fitB, Bool.and_eq_true, List.all_eq_true] at hfit
    have := hfit.1.1.2 i hi
    simp only [decide_eq_true_eq] at this
    exact this.1
  have hl0s : l0.size = ops.size := by
    simp only [fitB, Bool.and_eq_true, beq_iff_eq] at hfit
    exact hfit.1.1.1
  intro m
  induction m with
  | zero =>
    intro l a w hm h
    have hall : ∀ i ∈ L, l.getD i false = true := by
      intro i hi
      cases hb : l.getD i false with
      | true => rfl
      | false =>
        have := List.countP_eq_zero.1 hm i hi
        rw [hb] at this
        simp at this
    have hl : l = marked l0 L := by
      apply Array.ext
      · rw [marked_size, h.lsize, hl0s]
      · intro j h1 h2
        have hj := marked_getD L l0 (fun i hi => by rw [hl0s]; exact hLlt i hi) j
        have e1 : l.getD j false = l[j] := by rw [Array.getD_eq_getD_getElem?, Array.getElem?_eq_getElem h1, Option.getD_some]
        have e2 : (marked l0 L).getD j false = (marked l0 L)[j] := by rw [Array.getD_eq_getD_getElem?, Array.getElem?_eq_getElem h2, Option.getD_some]
        rw [← e1, ← e2, hj]
        by_cases hjL : j ∈ L
        · simp [hjL, hall j hjL]
        · simp [hjL, h.out j hjL]
    rw [Nat.zero_add, hl]
    refine hend a w ⟨h.ext, h.size, h.defers, h.post (hall s hsL), fun j hj t ht => h.new j hj (hall j hj) t ht, fun t ht => h.old t fun j hj _ e => ?_⟩
    rw [List.all_eq_true] at ht
    have := ht j hj
    rw [e] at this
    simp at this
  | succ m ih =>
    intro l a w hm h
    have hun : ∃ i ∈ L, l.getD i false = false ∧ ∀ j ∈ L, j < i → l.getD j false = true := by
      rcases unlisted l L with h1 | h1
      · have : left l L = 0 := by
          unfold left
          rw [List.countP_eq_zero]
          intro i hi
          rw [h1 i hi]
          simp
        omega
      · exact h1
    have hready : ∀ i ∈ Region.ready .any ops l, i ∈ L := by
      intro i hi
      obtain ⟨o, ho, hb, hd⟩ := mem_ready' hi h.lsize
      apply Classical.byContradiction
      intro hnL
      obtain ⟨k, hk, hkb, _⟩ := hun
      have hilt : i < ops.size := (Array.getElem?_eq_some_iff.1 ho).1
      have hb0 : l0.getD i false = false := by rw [← h.out i hnL]; exact hb
      have hbit : (C.getD i 0).testBit k = true := by
        simp only [fitB, Bool.and_eq_true, List.all_eq_true] at hfit
        have h1 := hfit.1.2 i (List.mem_range.2 hilt)
        simp only [hb0, Bool.false_or, Bool.or_eq_true, List.contains_iff_mem, hnL, false_or, List.all_eq_true] at h1
        exact h1 k hk
      have := ahead_listed hC h.closed k (hLlt k hk) i hilt (fun o' ho' e he hbb => by rw [ho] at ho'; injection ho' with ho'; subst ho'; exact hd e he hbb) hbit
      rw [this] at hkb
      cases hkb
    have hne : Region.ready .any ops l ≠ [] := by
      obtain ⟨k, hk, hkb, hmin⟩ := hun
      have hklt := hLlt k hk
      have hmem : k ∈ Region.ready .any ops l := by
        refine mem_ready.2 ⟨?_, ops[k], Array.getElem?_eq_getElem hklt, fun e he hb => ?_⟩
        · have hkl : k < l.size := by rw [h.lsize]; exact hklt
          rw [Array.getD_eq_getD_getElem?, Array.getElem?_eq_getElem hkl, Option.getD_some] at hkb ⊢
          exact hkb
        · simp only [depsB, List.all_eq_true] at hdeps
          have h1 := hdeps k hk
          rw [Array.getElem?_eq_getElem hklt] at h1
          simp only [Option.map_some, Option.getD_some, Array.all_eq_true_iff_forall_mem] at h1
          have h2 := h1 e he
          simp only [hb, Bool.not_true, Bool.false_or, Bool.or_eq_true, Bool.and_eq_true, List.contains_iff_mem, decide_eq_true_eq] at h2
          rcases h2 with h2 | ⟨h2, h3⟩
          · by_cases hel : e.on ∈ L
            · have helt := hLlt e.on hel
              simp only [fitB, Bool.and_eq_true, List.all_eq_true] at hfit
              have h4 := hfit.1.1.2 e.on hel
              simp [h2] at h4
            · rw [h.out e.on hel]; exact h2
          · exact hmin e.on h2 h3
      intro hnil
      rw [hnil] at hmem
      cases hmem
    rw [show m + 1 + rest = (m + rest) + 1 from by omega]
    refine wpAny_fuel_ready hne fun i hi => ?_
    have hiL := hready i hi
    obtain ⟨o, ho, hb, hd⟩ := mem_ready' hi h.lsize
    have hilt : i < ops.size := (Array.getElem?_eq_some_iff.1 ho).1
    have hleft : left (l.setIfInBounds i true) L = m := by
      have h1 := left_set l i (by rw [h.lsize]; exact hilt) L hnd hiL hb
      omega
    have hdstlt : ∀ d, o.dst = some d → d < a0.tmps.size := by
      intro d hd'
      simp only [rangeB, Array.all_eq_true_iff_forall_mem] at hrg
      have := hrg o (Array.mem_of_getElem? ho)
      rw [hd'] at this
      simpa using this
    have hknown : Known R s ops C L F a0 w0 i a w := by
      refine ⟨h.ext, fun hes => h.early ?_, h.size, fun t ht => ?_, fun t ht => ?_⟩
      · rcases hes with rfl | hes
        · exact hb
        · cases hls : l.getD s false with
          | false => rfl
          | true =>
            have := ahead_listed hC h.closed i hilt s hs (fun o' ho' e he hbb => h.closed s o' ho' hls e he hbb) hes
            rw [hb] at this; cases this
      · simp only [depB, List.any_eq_true, Bool.and_eq_true, beq_iff_eq] at ht
        obtain ⟨j, hj, hbit, hdst⟩ := ht
        exact h.new j hj (ahead_listed hC h.closed j (hLlt j hj) i hilt (fun o' ho' e he hbb => by rw [ho] at ho'; injection ho' with ho'; subst ho'; exact hd e he hbb) hbit) t hdst
      · refine h.old t fun j hj hlj hdst => ?_
        simp only [oldB, List.all_eq_true] at ht
        have h1 := ht j hj
        simp only [hdst, bne_self_eq_false, Bool.false_or, Bool.or_eq_true, beq_iff_eq] at h1
        rcases h1 with rfl | h1
        · rw [hb] at hlj; cases hlj
        · have hjlt := hLlt j hj
          have := ahead_listed hC h.closed i hilt j hjlt (fun o' ho' e he hbb => h.closed j o' ho' hlj e he hbb) h1
          rw [hb] at this; cases this
    have hdoes := hop i hiL o ho a w hknown
    unfold wpOp
    rw [ho]
    unfold Does at hdoes
    show if Region.wanted o (yielded ops a.tmps) = true then _ else _
    split
    · rename_i hw
      rw [if_pos hw] at hdoes
      refine .inl (Oper.wp_mono (fun a' w' hk => ?_) hdoes)
      obtain ⟨v, rfl, hx, hgs, hv⟩ := hk
      have hxR : R w w' := by
        split at hx
        · exact hx
        · exact hRE _ _ hx
      refine ih _ _ _ hleft (h.step hGE hC hLlt hs hself hfit hiL ho hd (hRT h.ext hxR) (fun hne => by rw [if_neg hne] at hx; exact hx) hgs hb (fun t ht u hu => ?_) hv fun d hd' hge => absurd (hdstlt d hd') (Nat.not_lt.2 (h.size ▸ hge)))
      by_cases his : i = s
      · subst his
        exact hmono t (by rw [ho]; exact ht) u _ _ hxR hu
      · rw [if_neg his] at hx
        exact (F t).mono _ _ _ hx hu
    · rename_i hw
      rw [if_neg hw] at hdoes
      exact ih _ _ _ hleft (h.step hGE hC hLlt hs hself hfit hiL ho hd h.ext (fun _ => Ext.refl w) hdoes.1 hb (fun t ht u hu => hu) hdoes.2 fun d hd' hge => rfl)
theorem wpAny_flow {G : Act → World → Prop} (hGE : ∀ a w w', Ext w w' → G a w → G a w') {R : World → World → Prop} {s : Nat} (hRE : ∀ w w', Ext w w' → R w w') (hRT : ∀ {a b c}, R a b → R b c → R a c) (hs : s < ops.size) {L : List Nat} {F : Tmp → SP} {C : Array Nat} {a0 : Act} {w0 : World} {l0 : Array Bool} (hC : certB ops C = true) (hcl : closedB ops l0 = true) (hfit : fitB ops C l0 L = true) (hdeps : depsB ops l0 L = true)
    (hrg : rangeB ops a0.tmps.size = true) (hnd : L.Nodup) (hsL : s ∈ L) (hself : (C.getD s 0).testBit s = false) (rest : Nat)
    (hmono : ∀ t, (ops[s]?).bind (·.dst) ≠ some t → ∀ u w w', R w w' → (F t).p u w → (F t).p u w')
    (hop : ∀ i ∈ L, ∀ o, ops[i]? = some o → ∀ a w, Known R s ops C L F a0 w0 i a w → Does (if i = s then R else Ext) (fun a w => i = s → G a w) P ops Q F o a w)
    (hend : ∀ a w, Ends R G s C ops L F a0 w0 a w → wpAny P .any ops Q rest (marked l0 L) a w) : wpAny P .any ops Q (L.length + rest) l0 a0 w0 := by
  have hl0 : ∀ i ∈ L, l0.getD i false = false := by
    intro i hi
    simp only [fitB, Bool.and_eq_true, List.all_eq_true] at hfit
    have := hfit.1.1.2 i hi
    simp only [Bool.not_eq_true'] at this
    exact this.2
  have hl0s : l0.size = ops.size := by
    simp only [fitB, Bool.and_eq_true, beq_iff_eq] at hfit
    exact hfit.1.1.1
  have hleft : left l0 L = L.length := by
    unfold left
    rw [List.countP_eq_length]
    intro i hi
    rw [hl0 i hi]; rfl
  refine wpAny_flow_aux hGE hRE hRT hs hC hfit hdeps hrg hnd hsL hself rest hmono hop hend L.length l0 a0 w0 hleft ⟨hRE _ _ (Ext.refl _), fun _ => Ext.refl _, fun h => absurd h (by rw [hl0 s hsL]; simp), rfl, rfl, hl0s, ?_, fun _ _ => rfl, fun j hj hlj => ?_, fun _ _ => rfl⟩
  · intro j o ho hlj e he hb
    have hjlt : j < ops.size := (Array.getElem?_eq_some_iff.1 ho).1
    simp only [closedB, List.all_eq_true] at hcl
    have h1 := hcl j (List.mem_range.2 hjlt)
    rw [ho] at h1
    simp only [hlj, Bool.not_true, Bool.false_or, Option.map_some, Option.getD_some, Array.all_eq_true_iff_forall_mem, Bool.or_eq_true, Bool.not_eq_true'] at h1
    rcases h1 e he with h2 | h2
    · rw [hb] at h2; cases h2
    · exact h2
  · rw [hl0 j hj] at hlj; cases hlj
theorem wp_region_flow_tail {G : Act → World → Prop} (hGE : ∀ a w w', Ext w w' → G a w → G a w') {R : World → World → Prop} {s : Nat} (hRE : ∀ w w', Ext w w' → R w w') (hRT : ∀ {a b c}, R a b → R b c → R a c) (hs : s < ops.size) {id : Nat} {F : Tmp → SP} (C : Array Nat) (m : Nat) {a0 : Act} {w0 : World} (hm : P.follows .mixedOrders = true) (hmn : m ≤ ops.size) (hsm : s < m) (hself : (C.getD s 0).testBit s = false) (hC : certB ops C = true) (ht : tailB ops C m = true)
    (hfit : fitB ops C (Array.replicate ops.size false) (List.range m) = true) (hdeps : depsB ops (Array.replicate ops.size false) (List.range m) = true) (hrg : rangeB ops a0.tmps.size = true)
    (hmono : ∀ t, (ops[s]?).bind (·.dst) ≠ some t → ∀ u w w', R w w' → (F t).p u w → (F t).p u w')
    (hop : ∀ i, i < m → ∀ o, ops[i]? = some o → ∀ a w, Known R s ops C (List.range m) F a0 { w0 with drawn := w0.drawn + 1 } i a w → Does (if i = s then R else Ext) (fun a w => i = s → G a w) P ops Q F o a w)
    (hend : ∀ a w, Ends R G s C ops (List.range m) F a0 { w0 with drawn := w0.drawn + 1 } a w → wpList P ops Q (ops.toList.drop m) a w) : (Code.region id ops true).wp P Q a0 w0 := by
  refine wp_region_any hm ?_
  have h := wpAny_flow hGE hRE hRT hs (P := P) (Q := Q) (ops := ops) (L := List.range m) (F := F) (C := C) (a0 := a0) (w0 := { w0 with drawn := w0.drawn + 1 }) (l0 := Array.replicate ops.size false) hC ?_ hfit hdeps hrg List.nodup_range (List.mem_range.2 hsm) hself (ops.size - m) hmono
    (fun i hi o ho a w hk => hop i (List.mem_range.1 hi) o ho a w hk) ?_
  · simpa [show m + (ops.size - m) = ops.size from by omega] using h
  · simp only [closedB, List.all_eq_true]
    intro j _
    have : (Array.replicate ops.size false).getD j false = false := by
      rw [Array.getD_eq_getD_getElem?, Array.getElem?_replicate]
      split <;> rfl
    rw [this]; rfl
  · intro a w he
    rw [marked_range _ _ hmn]
    exact wpAny_tail hC ht _ m (by omega) (Nat.le_refl _) a w (hend a w he)
theorem Ends.out {R : World → World → Prop} {G : Act → World → Prop} {s : Nat} {C : Array Nat} {L : List Nat} {F : Tmp → SP} {a0 : Act} {w0 : World} {a : Act} {w : World} (h : Ends R G s C ops L F a0 w0 a w) (ds : List Nat) (hd : (L.filterMap fun j => (ops[j]?).bind (·.dst)) = ds) :
    ∃ us : Nat → Value, a = ⟨(fillL ds us 0 a0.tmps.toList).toArray, a0.defers⟩ ∧ ∀ t ∈ ds, (F t).p (us t) w := by
  refine ⟨fun t => a.tmps.getD t undef, ?_, fun t ht => ?_⟩
  · obtain ⟨tmps, defers⟩ := a
    have h1 := h.size
    have h2 := h.defers
    have h3 := h.old
    simp only at h1 h2 h3
    subst h2
    congr 1
    apply Array.ext
    · simp [fillL_length, h1]
    · intro j j1 j2
      have e : (fillL ds (fun t => tmps.getD t undef) 0 a0.tmps.toList)[j]? = some tmps[j] := by
        rw [fillL_get, Nat.zero_add]
        have hj : j < a0.tmps.size := by rw [← h1]; exact j1
        rw [Array.getElem?_toList, Array.getElem?_eq_getElem hj, Option.map_some]
        have e1 : tmps.getD j undef = tmps[j] := by rw [Array.getD_eq_getD_getElem?, Array.getElem?_eq_getElem j1, Option.getD_some]
        by_cases hc : ds.contains j = true
        · rw [if_pos hc, e1]
        · rw [if_neg hc]
          have h4 := h3 j (by
            rw [List.all_eq_true]
            intro q hq
            rw [bne_iff_ne]
            intro he
            apply hc
            rw [List.contains_iff_mem, ← hd]
            exact List.mem_filterMap.2 ⟨q, hq, he⟩)
          rw [e1, Array.getD_eq_getD_getElem?, Array.getElem?_eq_getElem hj, Option.getD_some] at h4
          rw [h4]
      rw [List.getElem_toArray]
      have := (List.getElem?_eq_some_iff.1 e).2
      exact this.symm
  · rw [← hd] at ht
    obtain ⟨j, hj, hjd⟩ := List.mem_filterMap.1 ht
    exact h.new j hj t hjd
def OpsDo (G : Act → World → Prop) (R : World → World → Prop) (s : Nat) (P : Program) (ops : Array Oper) (Q : Exit → Act → World → Prop) (C : Array Nat) (L : List Nat) (F : Tmp → SP) (a0 : Act) (w0 : World) : Nat → List Oper → Prop
  | _, [] => True
  | i, o :: l => (∀ a w, Known R s ops C L F a0 w0 i a w → Does (if i = s then R else Ext) (fun a w => i = s → G a w) P ops Q F o a w) ∧ OpsDo G R s P ops Q C L F a0 w0 (i + 1) l
theorem OpsDo.at_ {G : Act → World → Prop} {R : World → World → Prop} {s : Nat} {C : Array Nat} {L : List Nat} {F : Tmp → SP} {a0 : Act} {w0 : World} : ∀ (l : List Oper) (k : Nat), OpsDo G R s P ops Q C L F a0 w0 k l → ∀ i o, l[i]? = some o → ∀ a w, Known R s ops C L F a0 w0 (k + i) a w → Does (if k + i = s then R else Ext) (fun a w => k + i = s → G a w) P ops Q F o a w
  | [], _, _, i, o, h => by simp at h
  | x :: l, k, h, 0, o, ho => by
    intro a w hk
    obtain rfl : x = o := by simpa using ho
    exact h.1 a w hk
  | x :: l, k, h, i + 1, o, ho => by
    intro a w hk
    have := OpsDo.at_ l (k + 1) h.2 i o (by simpa using ho) a w (by rw [Nat.add_right_comm]; exact hk)
    rw [Nat.add_right_comm] at this; exact this
theorem wp_region_flow_l {G : Act → World → Prop} (hGE : ∀ a w w', Ext w w' → G a w → G a w') {R : World → World → Prop} (s : Nat) (hRE : ∀ w w', Ext w w' → R w w') (hRT : ∀ {a b c}, R a b → R b c → R a c) {id : Nat} (F : Tmp → SP) (m : Nat) {a0 : Act} {w0 : World} (hm : P.follows .mixedOrders = true) (n : Nat) (hn : a0.tmps.size = n) (hB : flowB ops m n = true)
    (hs : s < ops.size) (hsm : s < m) (hself : ((Region.before ops).getD s 0).testBit s = false) (hmono : ∀ t, (ops[s]?).bind (·.dst) ≠ some t → ∀ u w w', R w w' → (F t).p u w → (F t).p u w')
    (hop : OpsDo G R s P ops Q (Region.before ops) (List.range m) F a0 w0.drew 0 (ops.toList.take m))
    (hend : ∀ a w, Ends R G s (Region.before ops) ops (List.range m) F a0 w0.drew a w → wpList P ops Q (ops.toList.drop m) a w) : (Code.region id ops true).wp P Q a0 w0 := by
  simp only [flowB, Bool.and_eq_true, decide_eq_true_eq] at hB
  obtain ⟨⟨⟨⟨⟨h1, h2⟩, h3⟩, h4⟩, h5⟩, h6⟩ := hB
  exact wp_region_flow_tail hGE hRE hRT hs (Region.before ops) m hm h1 hsm hself h2 h3 h4 h5 (by rw [hn]; exact h6) hmono (fun i hi o ho a w hk => by have := OpsDo.at_ (ops.toList.take m) 0 hop i o (by rw [List.getElem?_take]; simpa [hi] using ho) a w (by rw [Nat.zero_add]; exact hk); rw [Nat.zero_add] at this; exact this) hend
theorem does_intro {Rl : World → World → Prop} {G : Act → World → Prop} {F : Tmp → SP} {o : Oper} {a : Act} {w : World} (hg : Region.wanted o (yielded ops a.tmps) = true)
    (h : ∀ K : Act → World → Prop, (∀ v w', Rl w w' → G a w' → (∀ d, o.dst = some d → (F d).p v w') → K (a.put o.dst v) w') → o.wp P a w K Q) : Does Rl G P ops Q F o a w := by
  unfold Does
  rw [if_pos hg]
  exact h _ fun v w' h1 hg h2 => ⟨v, rfl, h1, hg, h2⟩
end FlowG
end Go.Proofs.Ytgkgedjmnbjalaa
