/- Texts that the law needs, joined.
   Conditions: none. -/
import Derived.Test.YtgkgedjmnbjalaaTqI
import Derived.Test.YtgkgedjmnbjalaaTqH
import Derived.Test.YtgkgedjmnbjalaaTqE
set_option linter.unusedSimpArgs false
set_option linter.unusedVariables false
namespace Go.Proofs.Ytgkgedjmnbjalaa
open Go.RowKit Go.Sort
theorem rrow_one {S : Nat → Prop} {w : World} {D : Nat} {x : T} {c : List Value} {t : TypeId} (hb : Blk w D c t) (hx : RT S w x c) (hD : S D) : RRow S w (some ⟨D, 0, none⟩) [x] 1 :=
  ⟨Nat.le_refl _, by simp, fun h => (by cases h), fun i k hi => by
    cases i with
    | zero =>
      cases hi
      exact ⟨D, 0, c, rfl, hD, hx, fun j v hj => by rw [show 0 + 0 * 6 + j = j by omega, hb.cell]; exact hj⟩
    | succ i => simp at hi⟩
theorem ins_first {l : List T} {x : T} {i : Nat} (h1 : i ≤ l.length) (h2 : ∀ (p : Nat) y, p < i → l[p]? = some y → lessT y x = true) (h3 : ∀ y, l[i]? = some y → lessT y x = false) : insL l x = l.take i ++ [x] ++ l.drop (i + 0) := by
  rw [Nat.add_zero]
  conv => lhs; rw [← List.take_append_drop i l]
  rw [ins_pre (fun q hq => by
    obtain ⟨k, hk⟩ := List.getElem?_of_mem hq
    have hki : k < i := by have := (List.getElem?_eq_some_iff.1 hk).1; simp at this; omega
    rw [List.getElem?_take, if_pos hki] at hk
    exact h2 k q hki hk), List.append_assoc]
  congr 1
  by_cases hi : i < l.length
  · rw [List.drop_eq_getElem_cons hi, insL, if_neg (by rw [h3 _ (List.getElem?_eq_getElem hi)]; simp)]
    rfl
  · rw [List.drop_of_length_le (by omega)]; rfl
theorem set_take {l : List T} {x : T} {i : Nat} (hi : i < l.length) : l.set i x = l.take i ++ [x] ++ l.drop (i + 1) := by
  rw [List.set_eq_take_append_cons_drop, if_pos hi, List.append_assoc]; rfl
theorem kidn_size {t : T} {s : Step} {k : T} (h : kid t.kids s = some k) : k.size < t.size := by
  obtain ⟨pre, suf, e, _⟩ := kid_some h
  rw [t.size_eq, e, sizeL_append]; simp only [sizeL]; omega
theorem kids_lt (t : T) : t.kids.length + 1 ≤ t.size := by rw [t.size_eq]; have := sizeL_len t.kids; omega
def spTRow (S : Nat → Prop) (t : T) (B : Nat) : SP := ⟨fun v w => ∃ (D : Nat) (c : List Value), v = .slice (some ⟨D, 0, none⟩) 1 1 ∧ B ≤ D ∧ Blk w D c 54 ∧ RT S w t c, fun _ _ _ h ⟨D, c, e, h1, hb, hr⟩ => ⟨D, c, e, h1, hb.ext h, hr.ext h⟩⟩
set_option maxRecDepth 100000 in
set_option maxHeartbeats 8000000 in
theorem ref_set : ∀ (way : List Step) (t x : T) (S S' : Nat → Prop) (w : World) (c cx : List Value) (A : Option Addr) (ac : Nat), way.getLast? = some (stepT x) → (getT t way.dropLast).isSome = true → RT S w t c → RT S w x cx → WRow S' w A way ac → t.size + x.size ≤ 1048576 →
    Calls Try.prog 124 #[.agg c.toArray, .slice A way.length ac, .agg cx.toArray] w (Ret (TPost S (setT t way x) w))
  | [], t, x, S, S', w, c, cx, A, ac, hne, _, _, _, _, _ => by cases hne
  | [s], t, x, S, S', w, c, cx, A, ac, hlast, _, h, hx, hw, hsz => by
    obtain ⟨K, kc, rfl, hrow⟩ := h.row
    obtain ⟨Kx, kcx, rfl, _⟩ := hx.row
    have hwc := hw.cap
    obtain ⟨b2, o2, rfl, _, hdk⟩ := WRow.at hw (j := 0) (x := s) rfl
    have hfd := Hd.mk (fun W (hx : Ext w W) => ref_find t s _ W _ (h.ext hx))
    have kr := Hd.mk (h.mono (S' := fun b => S b ∧ b < w.heap.size) (fun b hb hs => ⟨hs, hb⟩))
    have krx := Hd.mk (hx.mono (S' := fun b => S b ∧ b < w.heap.size) (fun b hb hs => ⟨hs, hb⟩))
    have hrow := Hd.mk hrow
    have hkl := kids_lt t
    have hxp := size_pos x
    have hkb : t.kids.length + 1 ≤ 1048576 := by omega
    have hn := hrow.out.len
    have hg : setT t [s] x = t.wk (setL t.kids x) := rfl
    have hsx : Hd (s = stepT x) := ⟨by simpa using hlast⟩
    rw [hg]
    clear h hx hw hsz hkl hxp hg
    simp only [List.length_cons, List.length_nil, Nat.zero_add] at hwc ⊢
    simp only [cT] at kr krx hfd ⊢
    obtain ⟨s1, s2⟩ := s
    generalize hro : t.wk (setL t.kids x) = ro
    replace hro := Hd.mk hro
    go_enter Try.func124, Try.ntmps124
    go_wp2_with fail
    have kx := Hd.mk (((Ext.alloc w (.cells #[.string t.name, .string t.key, .int .i64 t.kind, .int .u64 t.num, .string t.text, .slice K t.kids.length kc] 54)).trans (Ext.alloc _ (.cells #[.string x.name, .string x.key, .int .i64 x.kind, .int .u64 x.num, .string x.text, .slice Kx x.kids.length kcx] 54))).trans (Ext.alloc _ (.cells #[.string ⟨#[]⟩, .string ⟨#[]⟩, .int .i64 0, .int .u64 0, .string ⟨#[]⟩, .slice none 0 0] 54)))
    have kA := Hd.mk (((Blk.new w #[.string t.name, .string t.key, .int .i64 t.kind, .int .u64 t.num, .string t.text, .slice K t.kids.length kc] 54).alloc (.cells #[.string x.name, .string x.key, .int .i64 x.kind, .int .u64 x.num, .string x.text, .slice Kx x.kids.length kcx] 54)).alloc (.cells #[.string ⟨#[]⟩, .string ⟨#[]⟩, .int .i64 0, .int .u64 0, .string ⟨#[]⟩, .slice none 0 0] 54))
    have kX := Hd.mk ((Blk.new2 w (.cells #[.string t.name, .string t.key, .int .i64 t.kind, .int .u64 t.num, .string t.text, .slice K t.kids.length kc] 54) #[.string x.name, .string x.key, .int .i64 x.kind, .int .u64 x.num, .string x.text, .slice Kx x.kids.length kcx] 54).alloc (.cells #[.string ⟨#[]⟩, .string ⟨#[]⟩, .int .i64 0, .int .u64 0, .string ⟨#[]⟩, .slice none 0 0] 54))
    have kR := Hd.mk (Blk.new3 w (.cells #[.string t.name, .string t.key, .int .i64 t.kind, .int .u64 t.num, .string t.text, .slice K t.kids.length kc] 54) (.cells #[.string x.name, .string x.key, .int .i64 x.kind, .int .u64 x.num, .string x.text, .slice Kx x.kids.length kcx] 54) #[.string ⟨#[]⟩, .string ⟨#[]⟩, .int .i64 0, .int .u64 0, .string ⟨#[]⟩, .slice none 0 0] 54)
    generalize ((w.alloc _).alloc _).alloc _ = W at *
    generalize hp : w.heap.size = p at *
    replace hp := Hd.mk hp
    have kcy := Hd.mk (fun (q : Nat) u hq => Ext.cell kx.out (hdk q u hq))
    refine Flow.wp_region_flow_l (fun qq => match qq with
      | 9 => SP.eq (.agg #[.string t.name, .string t.key, .int .i64 t.kind, .int .u64 t.num, .string t.text, .slice K t.kids.length kc])
      | 10 => SP.eq (.slice (some ⟨b2, o2, none⟩) 1 ac)
      | 11 => SP.eq (.pointer (some ⟨b2, o2 + 0 * 2, none⟩))
      | 12 => SP.eq (.agg #[.string s1, .string s2])
      | 13 => SP.eq (.int .i64 (findT t.kids (s1, s2)))
      | 7 => SP.eq (.int .i64 (findT t.kids (s1, s2)))
      | _ => SP.any) 6 (by kernel_rfl) 58 rfl (by kernel_rfl) ?_ ?_
    · skip
      refine ⟨?_, ?_, ?_, ?_, ?_, ?_, trivial⟩
      · intro act W2 hk
        refine Flow.does_intro rfl (fun Kq hK => ?_)
        have e3 : act.tmps[3]?.getD undef = .pointer (some ⟨p, 0, none⟩) := hk.o 3 (by kernel_rfl)
        have g := ((kA.out).ext ((Ext.drew W).trans hk.ext)).cell
        clear hk
        go_simp
        exact hK _ _ (Ext.refl _) (fun d hd => by cases hd; rfl)
      · intro act W2 hk
        refine Flow.does_intro rfl (fun Kq hK => ?_)
        have e1 : act.tmps[1]?.getD undef = .slice (some ⟨b2, o2, none⟩) 1 ac := hk.o 1 (by kernel_rfl)
        clear hk
        go_simp
        exact hK _ _ (Ext.refl _) (fun d hd => by cases hd; rfl)
      · intro act W2 hk
        refine Flow.does_intro rfl (fun Kq hK => ?_)
        have e10 : act.tmps[10]?.getD undef = .slice (some ⟨b2, o2, none⟩) 1 ac := hk.v 10 (by kernel_rfl)
        clear hk
        go_simp
        exact hK _ _ (Ext.refl _) (fun d hd => by cases hd; simp [SP.eq])
      · intro act W2 hk
        refine Flow.does_intro rfl (fun Kq hK => ?_)
        have e11 : act.tmps[11]?.getD undef = .pointer (some ⟨b2, o2 + 0 * 2, none⟩) := hk.v 11 (by kernel_rfl)
        have g0 := Ext.cell ((Ext.drew W).trans hk.ext) ((kcy.out) 0 _ rfl)
        rw [Nat.add_zero] at g0
        have g1 := Ext.cell ((Ext.drew W).trans hk.ext) ((kcy.out) 1 _ rfl)
        clear hk
        go_simp
        exact hK _ _ (Ext.refl _) (fun d hd => by cases hd; rfl)
      · intro act W2 hk
        refine Flow.does_intro rfl (fun Kq hK => ?_)
        have e9 : act.tmps[9]?.getD undef = .agg #[.string t.name, .string t.key, .int .i64 t.kind, .int .u64 t.num, .string t.text, .slice K t.kids.length kc] := hk.v 9 (by kernel_rfl)
        have e12 : act.tmps[12]?.getD undef = .agg #[.string s1, .string s2] := hk.v 12 (by kernel_rfl)
        have hx0 := Hd.mk ((Ext.drew W).trans hk.ext)
        clear hk
        go_simp
        refine Calls.mono (hfd.out _ (kx.out.trans hx0.out)) ?_
        rintro e W3 ⟨rfl, hx⟩
        exact hK _ _ hx (fun d hd => by cases hd; rfl)
      · intro act W2 hk
        refine Flow.does_intro rfl (fun Kq hK => ?_)
        have e13 : act.tmps[13]?.getD undef = .int .i64 (findT t.kids (s1, s2)) := hk.v 13 (by kernel_rfl)
        clear hk
        go_simp
        exact hK _ _ (Ext.refl _) (fun d hd => by cases hd; rfl)
    · intro act V he
      have hxV := Hd.mk ((Ext.drew W).trans he.ext)
      obtain ⟨us, hA, hF⟩ := he.out [9, 10, 11, 12, 13, 7] (by kernel_rfl)
      simp only [Flow.fillL, List.contains_cons, List.contains_nil, Nat.reduceBEq, Bool.or_false, Bool.false_or, Bool.or_true, Bool.true_or, ↓reduceIte, Nat.reduceAdd, Bool.false_eq_true] at hA
      subst hA
      have f7 : us 7 = .int .i64 (findT t.kids (s1, s2)) := hF 7 (by simp)
      clear hF he
      rw [f7]
      clear f7
      refine (show wpList _ _ _ [] _ _ from ?_)
      replace kx := Hd.mk (kx.out.trans hxV.out)
      replace kA := Hd.mk (kA.out.ext hxV.out)
      replace kX := Hd.mk (kX.out.ext hxV.out)
      replace kR := Hd.mk (kR.out.ext hxV.out)
      clear hxV hfd kcy
      rcases findT_kid t.kids (s1, s2) with ⟨hf, hk⟩ | ⟨i, k, hf, hi, hk, hrep, _⟩
      · rw [hf]
        have hkn := Hd.mk hk
        clear hf hk
        have kA0 := kA
        have kX0 := kX
        have kR0 := kR
        go_wp2_with fail
        go_loopg [8] (t.kids.length + 1) (fun q s8 wz => ∃ j : Nat, j ≤ t.kids.length ∧ Hd (q = t.kids.length + 1 - j) ∧ s8 = .int .i64 j ∧ Hd (∀ (p : Nat) y, p < j → t.kids[p]? = some y → lessT y x = true) ∧ Hd (Ext V wz))
        case atStart => exact ⟨0, by omega, ⟨by omega⟩, rfl, ⟨fun p y hp => absurd hp (by omega)⟩, ⟨Ext.refl _⟩⟩
        case round =>
        obtain ⟨j, hj, hq, rfl, hlo, hxr⟩ := hrel
        have qA := Hd.mk (kA0.out.ext hxr.out)
        have qX := Hd.mk (kX0.out.ext hxr.out)
        have qR := Hd.mk (kR0.out.ext hxr.out)
        by_cases hlt : j < t.kids.length
        · have hx1 := List.getElem?_eq_getElem hlt
          generalize t.kids[j] = y at hx1
          obtain ⟨b1, o1, ck, rfl, _, hrk, hck⟩ := hrow.out.kid j y hx1
          obtain ⟨K3, c3, rfl, _⟩ := hrk.row
          have kcy2 := Hd.mk (fun (q : Nat) u hq => Ext.cell (kx.out.trans hxr.out) (hck q u hq))
          have hls := Hd.mk (fun W => ref_less y x K3 Kx y.kids.length c3 x.kids.length kcx W)
          simp only [cT] at kcy2 hls
          have hx1 := Hd.mk hx1
          clear hck hrk
          go_wp2_with fail
          refine Flow.wp_region_flow_l (fun qq => match qq with
            | 37 => SP.eq (.int .i64 (j : Nat))
            | 38 => SP.eq (.pointer (some ⟨p, 5, none⟩))
            | 39 => SP.eq (.slice (some ⟨b1, o1, none⟩) t.kids.length kc)
            | 40 => SP.eq (.int .i64 (t.kids.length : Nat))
            | 41 => SP.eq (.bool true)
            | 42 => SP.eq (.bool true)
            | 43 => SP.eq (.pointer (some ⟨p, 5, none⟩))
            | 44 => SP.eq (.slice (some ⟨b1, o1, none⟩) t.kids.length kc)
            | 45 => SP.eq (.int .i64 (j : Nat))
            | 46 => SP.eq (.pointer (some ⟨b1, o1 + j * 6, none⟩))
            | 47 => SP.eq (.agg #[.string y.name, .string y.key, .int .i64 y.kind, .int .u64 y.num, .string y.text, .slice K3 y.kids.length c3])
            | 48 => SP.eq (.agg #[.string x.name, .string x.key, .int .i64 x.kind, .int .u64 x.num, .string x.text, .slice Kx x.kids.length kcx])
            | 49 => SP.eq (.bool (lessT y x))
            | 50 => SP.eq (.bool (lessT y x))
            | _ => SP.any) 14 (by kernel_rfl) 58 rfl (by kernel_rfl) ?_ ?_
          · skip
            refine ⟨?_, ?_, ?_, ?_, ?_, ?_, ?_, ?_, ?_, ?_, ?_, ?_, ?_, ?_, trivial⟩
            · intro act W2 hk
              refine Flow.does_intro rfl (fun Kq hK => ?_)
              have e8 : act.tmps[8]?.getD undef = .int .i64 (j : Nat) := hk.o 8 (by kernel_rfl)
              clear hk
              go_simp
              exact hK _ _ (Ext.refl _) (fun d hd => by cases hd; rfl)
            · intro act W2 hk
              refine Flow.does_intro rfl (fun Kq hK => ?_)
              have e3 : act.tmps[3]?.getD undef = .pointer (some ⟨p, 0, none⟩) := hk.o 3 (by kernel_rfl)
              clear hk
              go_simp
              exact hK _ _ (Ext.refl _) (fun d hd => by cases hd; rfl)
            · intro act W2 hk
              refine Flow.does_intro rfl (fun Kq hK => ?_)
              have e38 : act.tmps[38]?.getD undef = .pointer (some ⟨p, 5, none⟩) := hk.v 38 (by kernel_rfl)
              have g := ((qA.out).ext ((Ext.drew wr).trans hk.ext)).cell
              clear hk
              go_simp
              exact hK _ _ (Ext.refl _) (fun d hd => by cases hd; rfl)
            · intro act W2 hk
              refine Flow.does_intro rfl (fun Kq hK => ?_)
              have e39 : act.tmps[39]?.getD undef = .slice (some ⟨b1, o1, none⟩) t.kids.length kc := hk.v 39 (by kernel_rfl)
              clear hk
              go_simp
              exact hK _ _ (Ext.refl _) (fun d hd => by cases hd; rfl)
            · intro act W2 hk
              refine Flow.does_intro rfl (fun Kq hK => ?_)
              have e37 : act.tmps[37]?.getD undef = .int .i64 (j : Nat) := hk.v 37 (by kernel_rfl)
              have e40 : act.tmps[40]?.getD undef = .int .i64 (t.kids.length : Nat) := hk.v 40 (by kernel_rfl)
              clear hk
              go_simp
              exact hK _ _ (Ext.refl _) (fun d hd => by cases hd; rfl)
            · intro act W2 hk
              refine Flow.does_intro rfl (fun Kq hK => ?_)
              have e41 : act.tmps[41]?.getD undef = .bool true := hk.v 41 (by kernel_rfl)
              clear hk
              go_simp
              exact hK _ _ (Ext.refl _) (fun d hd => by cases hd; rfl)
            · intro act W2 hk
              have eg : act.tmps[42]?.getD undef = .bool true := hk.v 42 (by kernel_rfl)
              refine Flow.does_intro (wanted_yes rfl rfl eg) (fun Kq hK => ?_)
              clear eg
              have e3 : act.tmps[3]?.getD undef = .pointer (some ⟨p, 0, none⟩) := hk.o 3 (by kernel_rfl)
              clear hk
              go_simp
              exact hK _ _ (Ext.refl _) (fun d hd => by cases hd; rfl)
            · intro act W2 hk
              have eg : act.tmps[42]?.getD undef = .bool true := hk.v 42 (by kernel_rfl)
              refine Flow.does_intro (wanted_yes rfl rfl eg) (fun Kq hK => ?_)
              clear eg
              have e43 : act.tmps[43]?.getD undef = .pointer (some ⟨p, 5, none⟩) := hk.v 43 (by kernel_rfl)
              have g := ((qA.out).ext ((Ext.drew wr).trans hk.ext)).cell
              clear hk
              go_simp
              exact hK _ _ (Ext.refl _) (fun d hd => by cases hd; rfl)
            · intro act W2 hk
              have eg : act.tmps[42]?.getD undef = .bool true := hk.v 42 (by kernel_rfl)
              refine Flow.does_intro (wanted_yes rfl rfl eg) (fun Kq hK => ?_)
              clear eg
              have e8 : act.tmps[8]?.getD undef = .int .i64 (j : Nat) := hk.o 8 (by kernel_rfl)
              clear hk
              go_simp
              exact hK _ _ (Ext.refl _) (fun d hd => by cases hd; rfl)
            · intro act W2 hk
              have eg : act.tmps[42]?.getD undef = .bool true := hk.v 42 (by kernel_rfl)
              refine Flow.does_intro (wanted_yes rfl rfl eg) (fun Kq hK => ?_)
              clear eg
              have e44 : act.tmps[44]?.getD undef = .slice (some ⟨b1, o1, none⟩) t.kids.length kc := hk.v 44 (by kernel_rfl)
              have e45 : act.tmps[45]?.getD undef = .int .i64 (j : Nat) := hk.v 45 (by kernel_rfl)
              clear hk
              go_simp
              exact hK _ _ (Ext.refl _) (fun d hd => by cases hd; rfl)
            · intro act W2 hk
              have eg : act.tmps[42]?.getD undef = .bool true := hk.v 42 (by kernel_rfl)
              refine Flow.does_intro (wanted_yes rfl rfl eg) (fun Kq hK => ?_)
              clear eg
              have e46 : act.tmps[46]?.getD undef = .pointer (some ⟨b1, o1 + j * 6, none⟩) := hk.v 46 (by kernel_rfl)
              have g0 := Ext.cell ((Ext.drew wr).trans hk.ext) ((kcy2.out) 0 _ rfl)
              rw [Nat.add_zero] at g0
              have g1 := Ext.cell ((Ext.drew wr).trans hk.ext) ((kcy2.out) 1 _ rfl)
              have g2 := Ext.cell ((Ext.drew wr).trans hk.ext) ((kcy2.out) 2 _ rfl)
              have g3 := Ext.cell ((Ext.drew wr).trans hk.ext) ((kcy2.out) 3 _ rfl)
              have g4 := Ext.cell ((Ext.drew wr).trans hk.ext) ((kcy2.out) 4 _ rfl)
              have g5 := Ext.cell ((Ext.drew wr).trans hk.ext) ((kcy2.out) 5 _ rfl)
              clear hk
              go_simp
              exact hK _ _ (Ext.refl _) (fun d hd => by cases hd; rfl)
            · intro act W2 hk
              have eg : act.tmps[42]?.getD undef = .bool true := hk.v 42 (by kernel_rfl)
              refine Flow.does_intro (wanted_yes rfl rfl eg) (fun Kq hK => ?_)
              clear eg
              have e5 : act.tmps[5]?.getD undef = .pointer (some ⟨p + 1, 0, none⟩) := hk.o 5 (by kernel_rfl)
              have g := ((qX.out).ext ((Ext.drew wr).trans hk.ext)).cell
              clear hk
              go_simp
              exact hK _ _ (Ext.refl _) (fun d hd => by cases hd; rfl)
            · intro act W2 hk
              have eg : act.tmps[42]?.getD undef = .bool true := hk.v 42 (by kernel_rfl)
              refine Flow.does_intro (wanted_yes rfl rfl eg) (fun Kq hK => ?_)
              clear eg
              have e47 : act.tmps[47]?.getD undef = .agg #[.string y.name, .string y.key, .int .i64 y.kind, .int .u64 y.num, .string y.text, .slice K3 y.kids.length c3] := hk.v 47 (by kernel_rfl)
              have e48 : act.tmps[48]?.getD undef = .agg #[.string x.name, .string x.key, .int .i64 x.kind, .int .u64 x.num, .string x.text, .slice Kx x.kids.length kcx] := hk.v 48 (by kernel_rfl)
              clear hk
              go_simp
              refine Calls.mono (hls.out _) ?_
              rintro e W3 ⟨rfl, hx⟩
              exact hK _ _ hx (fun d hd => by cases hd; rfl)
            · intro act W2 hk
              refine Flow.does_intro rfl (fun Kq hK => ?_)
              have e42 : act.tmps[42]?.getD undef = .bool true := hk.v 42 (by kernel_rfl)
              have e49 : act.tmps[49]?.getD undef = .bool (lessT y x) := hk.v 49 (by kernel_rfl)
              clear hk
              go_simp
              exact hK _ _ (Ext.refl _) (fun d hd => by cases hd; rfl)
          · intro act V2 he
            have hxV2 := Hd.mk ((Ext.drew wr).trans he.ext)
            obtain ⟨us, hA, hF⟩ := he.out [37, 38, 39, 40, 41, 42, 43, 44, 45, 46, 47, 48, 49, 50] (by kernel_rfl)
            simp only [Flow.fillL, List.contains_cons, List.contains_nil, Nat.reduceBEq, Bool.or_false, Bool.false_or, Bool.or_true, Bool.true_or, ↓reduceIte, Nat.reduceAdd, Bool.false_eq_true] at hA
            subst hA
            have f50 : us 50 = .bool (lessT y x) := hF 50 (by simp)
            clear hF he
            rw [f50]
            clear f50
            refine (show wpList _ _ _ [] _ _ from ?_)
            cases hb : lessT y x with
            | true =>
              clear qA qX qR
              have hxr2 := Hd.mk (hxr.out.trans hxV2.out)
              go_wp2_with fail
              go_roundg (t.kids.length + 1 - (j + 1))
              case measure => have := hq.out; omega
              case rel => exact ⟨j + 1, by omega, ⟨rfl⟩, by go_num, ⟨fun p z hp hz => by
                  by_cases hpj : p = j
                  · subst hpj; rw [hx1.out] at hz; cases hz; exact hb
                  · exact hlo.out p z (by omega) hz⟩, hxr2⟩
            | false =>
              have hro2 : t.wk (t.kids.take j ++ [x] ++ t.kids.drop (j + 0)) = ro := by rw [← hro.out, setL, ← hsx.out, hkn.out, if_neg (by simp), ins_first (i := j) (by omega) hlo.out (fun z hz => by rw [hx1.out] at hz; cases hz; exact hb)]
              have kA := Hd.mk (qA.out.ext hxV2.out)
              have kX := Hd.mk (qX.out.ext hxV2.out)
              have kR := Hd.mk (qR.out.ext hxV2.out)
              replace kx := Hd.mk (kx.out.trans (hxr.out.trans hxV2.out))
              have gA := kA.out.cell
              have gX := kX.out.cell
              go_wp2_with fail
              clear gA gX
              have hVs := Hd.mk kR.out.lt
              refine Calls.mono (ref_with t [x] (fun b => (S b ∧ b < p) ∨ V2.heap.size ≤ b) _ _ (some ⟨V2.heap.size, 0, none⟩) 1 j 0 ((kr.out.mono (fun _ _ h => .inl h)).ext (kx.out.trans (Ext.alloc V2 (.cells #[.string x.name, .string x.key, .int .i64 x.kind, .int .u64 x.num, .string x.text, .slice Kx x.kids.length kcx] 54)))) (rrow_one (Blk.new V2 #[.string x.name, .string x.key, .int .i64 x.kind, .int .u64 x.num, .string x.text, .slice Kx x.kids.length kcx] 54) ((krx.out.mono (fun _ _ h => .inl h)).ext (kx.out.trans (Ext.alloc V2 (.cells #[.string x.name, .string x.key, .int .i64 x.kind, .int .u64 x.num, .string x.text, .slice Kx x.kids.length kcx] 54)))) (.inr (Nat.le_refl _))) (by omega) (by simpa using hkb)) ?_
              rintro e w9 ⟨_, rfl, c9, rfl, hr9, hx9⟩
              rw [hro2] at hr9
              obtain ⟨Km, km, rfl, _⟩ := hr9.row
              have hr9 := Hd.mk hr9
              have hx9s := Hd.mk hx9.size
              simp only [cT] at hr9 ⊢
              replace kx := Hd.mk (show Ext w w9 from kx.out.trans ((Ext.alloc V2 (.cells #[.string x.name, .string x.key, .int .i64 x.kind, .int .u64 x.num, .string x.text, .slice Kx x.kids.length kcx] 54)).trans hx9))
              replace kR := Hd.mk (kR.out.ext ((Ext.alloc V2 (.cells #[.string x.name, .string x.key, .int .i64 x.kind, .int .u64 x.num, .string x.text, .slice Kx x.kids.length kcx] 54)).trans hx9))
              clear hx9
              have gR := kR.out.cell
              have fR := kR.out.free
              go_wp2_with fail
              have hu := Hd.mk ((((((Upd.setCell w9 ⟨p + 1 + 1, 0, none⟩ (.string ro.name)).trans (Upd.setCell _ ⟨p + 1 + 1, 1, none⟩ (.string ro.key))).trans (Upd.setCell _ ⟨p + 1 + 1, 2, none⟩ (.int .i64 ro.kind))).trans (Upd.setCell _ ⟨p + 1 + 1, 3, none⟩ (.int .u64 ro.num))).trans (Upd.setCell _ ⟨p + 1 + 1, 4, none⟩ (.string ro.text))).trans (Upd.setCell _ ⟨p + 1 + 1, 5, none⟩ (.slice Km ro.kids.length km)))
              exact ret_box rfl (p + 1 + 1) _ 54 _ ((((((kR.out.setCell 0 (.string ro.name)).setCell 1 (.string ro.key)).setCell 2 (.int .i64 ro.kind)).setCell 3 (.int .u64 ro.num)).setCell 4 (.string ro.text)).setCell 5 (.slice Km ro.kids.length km)) rfl rfl Try.underlying54 rfl size54
                ⟨_, rfl, _, rfl, RT.keep (S' := fun b => S b ∨ w.heap.size ≤ b) (fun b off v hb hc => ⟨by have := hp.out; have := hVs.out; have := hx9s.out; rcases hb with (⟨h1, _⟩ | h) | h; exact .inl h1; all_goals exact .inr (by (try simp at h); omega), by rw [← hc]; exact World.cell?_of_block (hu.out.block b (by have := hp.out; have := hVs.out; have := hx9s.out; show b ≠ p + 1 + 1; rcases hb with (⟨_, h⟩ | h) | h <;> (try simp at h) <;> omega))⟩) hr9.out, Below.trans kx.out (hu.out.below (by rw [hp.out]; show p ≤ p + 1 + 1; omega))⟩
        · obtain rfl : j = t.kids.length := by omega
          go_wp2_with fail
          refine Flow.wp_region_flow_l (fun qq => match qq with
            | 37 => SP.eq (.int .i64 (t.kids.length : Nat))
            | 38 => SP.eq (.pointer (some ⟨p, 5, none⟩))
            | 39 => SP.eq (.slice K t.kids.length kc)
            | 40 => SP.eq (.int .i64 (t.kids.length : Nat))
            | 41 => SP.eq (.bool false)
            | 42 => SP.eq (.bool false)
            | 43 => SP.eq (undef)
            | 44 => SP.eq (undef)
            | 45 => SP.eq (undef)
            | 46 => SP.eq (undef)
            | 47 => SP.eq (undef)
            | 48 => SP.eq (undef)
            | 49 => SP.eq (undef)
            | 50 => SP.eq (.bool false)
            | _ => SP.any) 14 (by kernel_rfl) 58 rfl (by kernel_rfl) ?_ ?_
          · skip
            refine ⟨?_, ?_, ?_, ?_, ?_, ?_, ?_, ?_, ?_, ?_, ?_, ?_, ?_, ?_, trivial⟩
            · intro act W2 hk
              refine Flow.does_intro rfl (fun Kq hK => ?_)
              have e8 : act.tmps[8]?.getD undef = .int .i64 (t.kids.length : Nat) := hk.o 8 (by kernel_rfl)
              clear hk
              go_simp
              exact hK _ _ (Ext.refl _) (fun d hd => by cases hd; rfl)
            · intro act W2 hk
              refine Flow.does_intro rfl (fun Kq hK => ?_)
              have e3 : act.tmps[3]?.getD undef = .pointer (some ⟨p, 0, none⟩) := hk.o 3 (by kernel_rfl)
              clear hk
              go_simp
              exact hK _ _ (Ext.refl _) (fun d hd => by cases hd; rfl)
            · intro act W2 hk
              refine Flow.does_intro rfl (fun Kq hK => ?_)
              have e38 : act.tmps[38]?.getD undef = .pointer (some ⟨p, 5, none⟩) := hk.v 38 (by kernel_rfl)
              have g := ((qA.out).ext ((Ext.drew wr).trans hk.ext)).cell
              clear hk
              go_simp
              exact hK _ _ (Ext.refl _) (fun d hd => by cases hd; rfl)
            · intro act W2 hk
              refine Flow.does_intro rfl (fun Kq hK => ?_)
              have e39 : act.tmps[39]?.getD undef = .slice K t.kids.length kc := hk.v 39 (by kernel_rfl)
              clear hk
              go_simp
              exact hK _ _ (Ext.refl _) (fun d hd => by cases hd; rfl)
            · intro act W2 hk
              refine Flow.does_intro rfl (fun Kq hK => ?_)
              have e37 : act.tmps[37]?.getD undef = .int .i64 (t.kids.length : Nat) := hk.v 37 (by kernel_rfl)
              have e40 : act.tmps[40]?.getD undef = .int .i64 (t.kids.length : Nat) := hk.v 40 (by kernel_rfl)
              clear hk
              go_simp
              exact hK _ _ (Ext.refl _) (fun d hd => by cases hd; rfl)
            · intro act W2 hk
              refine Flow.does_intro rfl (fun Kq hK => ?_)
              have e41 : act.tmps[41]?.getD undef = .bool false := hk.v 41 (by kernel_rfl)
              clear hk
              go_simp
              exact hK _ _ (Ext.refl _) (fun d hd => by cases hd; rfl)
            · intro act W2 hk
              have eg : act.tmps[42]?.getD undef = .bool false := hk.v 42 (by kernel_rfl)
              exact Flow.does_skip (wanted_no rfl rfl eg) (fun d hd => by cases hd; rfl)
            · intro act W2 hk
              have eg : act.tmps[42]?.getD undef = .bool false := hk.v 42 (by kernel_rfl)
              exact Flow.does_skip (wanted_no rfl rfl eg) (fun d hd => by cases hd; rfl)
            · intro act W2 hk
              have eg : act.tmps[42]?.getD undef = .bool false := hk.v 42 (by kernel_rfl)
              exact Flow.does_skip (wanted_no rfl rfl eg) (fun d hd => by cases hd; rfl)
            · intro act W2 hk
              have eg : act.tmps[42]?.getD undef = .bool false := hk.v 42 (by kernel_rfl)
              exact Flow.does_skip (wanted_no rfl rfl eg) (fun d hd => by cases hd; rfl)
            · intro act W2 hk
              have eg : act.tmps[42]?.getD undef = .bool false := hk.v 42 (by kernel_rfl)
              exact Flow.does_skip (wanted_no rfl rfl eg) (fun d hd => by cases hd; rfl)
            · intro act W2 hk
              have eg : act.tmps[42]?.getD undef = .bool false := hk.v 42 (by kernel_rfl)
              exact Flow.does_skip (wanted_no rfl rfl eg) (fun d hd => by cases hd; rfl)
            · intro act W2 hk
              have eg : act.tmps[42]?.getD undef = .bool false := hk.v 42 (by kernel_rfl)
              exact Flow.does_skip (wanted_no rfl rfl eg) (fun d hd => by cases hd; rfl)
            · intro act W2 hk
              refine Flow.does_intro rfl (fun Kq hK => ?_)
              have e42 : act.tmps[42]?.getD undef = .bool false := hk.v 42 (by kernel_rfl)
              clear hk
              go_simp
              exact hK _ _ (Ext.refl _) (fun d hd => by cases hd; rfl)
          · intro act V2 he
            have hxV2 := Hd.mk ((Ext.drew wr).trans he.ext)
            obtain ⟨us, hA, hF⟩ := he.out [37, 38, 39, 40, 41, 42, 43, 44, 45, 46, 47, 48, 49, 50] (by kernel_rfl)
            simp only [Flow.fillL, List.contains_cons, List.contains_nil, Nat.reduceBEq, Bool.or_false, Bool.false_or, Bool.or_true, Bool.true_or, ↓reduceIte, Nat.reduceAdd, Bool.false_eq_true] at hA
            subst hA
            have f50 : us 50 = .bool false := hF 50 (by simp)
            clear hF he
            rw [f50]
            clear f50
            refine (show wpList _ _ _ [] _ _ from ?_)
            have hro2 : t.wk (t.kids.take t.kids.length ++ [x] ++ t.kids.drop (t.kids.length + 0)) = ro := by rw [← hro.out, setL, ← hsx.out, hkn.out, if_neg (by simp), ins_first (i := t.kids.length) (Nat.le_refl _) hlo.out (fun z hz => by have := (List.getElem?_eq_some_iff.1 hz).1; omega)]
            have kA := Hd.mk (qA.out.ext hxV2.out)
            have kX := Hd.mk (qX.out.ext hxV2.out)
            have kR := Hd.mk (qR.out.ext hxV2.out)
            replace kx := Hd.mk (kx.out.trans (hxr.out.trans hxV2.out))
            have gA := kA.out.cell
            have gX := kX.out.cell
            go_wp2_with fail
            clear gA gX
            have hVs := Hd.mk kR.out.lt
            refine Calls.mono (ref_with t [x] (fun b => (S b ∧ b < p) ∨ V2.heap.size ≤ b) _ _ (some ⟨V2.heap.size, 0, none⟩) 1 t.kids.length 0 ((kr.out.mono (fun _ _ h => .inl h)).ext (kx.out.trans (Ext.alloc V2 (.cells #[.string x.name, .string x.key, .int .i64 x.kind, .int .u64 x.num, .string x.text, .slice Kx x.kids.length kcx] 54)))) (rrow_one (Blk.new V2 #[.string x.name, .string x.key, .int .i64 x.kind, .int .u64 x.num, .string x.text, .slice Kx x.kids.length kcx] 54) ((krx.out.mono (fun _ _ h => .inl h)).ext (kx.out.trans (Ext.alloc V2 (.cells #[.string x.name, .string x.key, .int .i64 x.kind, .int .u64 x.num, .string x.text, .slice Kx x.kids.length kcx] 54)))) (.inr (Nat.le_refl _))) (Nat.le_refl _) (by simpa using hkb)) ?_
            rintro e w9 ⟨_, rfl, c9, rfl, hr9, hx9⟩
            rw [hro2] at hr9
            obtain ⟨Km, km, rfl, _⟩ := hr9.row
            have hr9 := Hd.mk hr9
            have hx9s := Hd.mk hx9.size
            simp only [cT] at hr9 ⊢
            replace kx := Hd.mk (show Ext w w9 from kx.out.trans ((Ext.alloc V2 (.cells #[.string x.name, .string x.key, .int .i64 x.kind, .int .u64 x.num, .string x.text, .slice Kx x.kids.length kcx] 54)).trans hx9))
            replace kR := Hd.mk (kR.out.ext ((Ext.alloc V2 (.cells #[.string x.name, .string x.key, .int .i64 x.kind, .int .u64 x.num, .string x.text, .slice Kx x.kids.length kcx] 54)).trans hx9))
            clear hx9
            have gR := kR.out.cell
            have fR := kR.out.free
            go_wp2_with fail
            have hu := Hd.mk ((((((Upd.setCell w9 ⟨p + 1 + 1, 0, none⟩ (.string ro.name)).trans (Upd.setCell _ ⟨p + 1 + 1, 1, none⟩ (.string ro.key))).trans (Upd.setCell _ ⟨p + 1 + 1, 2, none⟩ (.int .i64 ro.kind))).trans (Upd.setCell _ ⟨p + 1 + 1, 3, none⟩ (.int .u64 ro.num))).trans (Upd.setCell _ ⟨p + 1 + 1, 4, none⟩ (.string ro.text))).trans (Upd.setCell _ ⟨p + 1 + 1, 5, none⟩ (.slice Km ro.kids.length km)))
            exact ret_box rfl (p + 1 + 1) _ 54 _ ((((((kR.out.setCell 0 (.string ro.name)).setCell 1 (.string ro.key)).setCell 2 (.int .i64 ro.kind)).setCell 3 (.int .u64 ro.num)).setCell 4 (.string ro.text)).setCell 5 (.slice Km ro.kids.length km)) rfl rfl Try.underlying54 rfl size54
              ⟨_, rfl, _, rfl, RT.keep (S' := fun b => S b ∨ w.heap.size ≤ b) (fun b off v hb hc => ⟨by have := hp.out; have := hVs.out; have := hx9s.out; rcases hb with (⟨h1, _⟩ | h) | h; exact .inl h1; all_goals exact .inr (by (try simp at h); omega), by rw [← hc]; exact World.cell?_of_block (hu.out.block b (by have := hp.out; have := hVs.out; have := hx9s.out; show b ≠ p + 1 + 1; rcases hb with (⟨_, h⟩ | h) | h <;> (try simp at h) <;> omega))⟩) hr9.out, Below.trans kx.out (hu.out.below (by rw [hp.out]; show p ≤ p + 1 + 1; omega))⟩
      · rw [hf]
        have hil := (List.getElem?_eq_some_iff.1 hi).1
        have hro2 : t.wk (t.kids.take i ++ [x] ++ t.kids.drop (i + 1)) = ro := by rw [← hro.out, setL, ← hsx.out, hk, if_pos (by simp), hrep, set_take hil]
        replace hro2 := Hd.mk hro2
        clear hf hk hi hrep
        have gA := kA.out.cell
        have gX := kX.out.cell
        go_wp2_with fail
        clear gA gX
        have hVs := Hd.mk kR.out.lt
        refine Calls.mono (ref_with t [x] (fun b => (S b ∧ b < p) ∨ V.heap.size ≤ b) _ _ (some ⟨V.heap.size, 0, none⟩) 1 i 1 ((kr.out.mono (fun _ _ h => .inl h)).ext (kx.out.trans (Ext.alloc V (.cells #[.string x.name, .string x.key, .int .i64 x.kind, .int .u64 x.num, .string x.text, .slice Kx x.kids.length kcx] 54)))) (rrow_one (Blk.new V #[.string x.name, .string x.key, .int .i64 x.kind, .int .u64 x.num, .string x.text, .slice Kx x.kids.length kcx] 54) ((krx.out.mono (fun _ _ h => .inl h)).ext (kx.out.trans (Ext.alloc V (.cells #[.string x.name, .string x.key, .int .i64 x.kind, .int .u64 x.num, .string x.text, .slice Kx x.kids.length kcx] 54)))) (.inr (Nat.le_refl _))) (by omega) (by simpa using hkb)) ?_
        rintro e w9 ⟨_, rfl, c9, rfl, hr9, hx9⟩
        rw [hro2.out] at hr9
        obtain ⟨Km, km, rfl, _⟩ := hr9.row
        have hr9 := Hd.mk hr9
        have hx9s := Hd.mk hx9.size
        simp only [cT] at hr9 ⊢
        replace kx := Hd.mk (show Ext w w9 from kx.out.trans ((Ext.alloc V (.cells #[.string x.name, .string x.key, .int .i64 x.kind, .int .u64 x.num, .string x.text, .slice Kx x.kids.length kcx] 54)).trans hx9))
        replace kR := Hd.mk (kR.out.ext ((Ext.alloc V (.cells #[.string x.name, .string x.key, .int .i64 x.kind, .int .u64 x.num, .string x.text, .slice Kx x.kids.length kcx] 54)).trans hx9))
        clear hx9
        have gR := kR.out.cell
        have fR := kR.out.free
        go_wp2_with fail
        have hu := Hd.mk ((((((Upd.setCell w9 ⟨p + 1 + 1, 0, none⟩ (.string ro.name)).trans (Upd.setCell _ ⟨p + 1 + 1, 1, none⟩ (.string ro.key))).trans (Upd.setCell _ ⟨p + 1 + 1, 2, none⟩ (.int .i64 ro.kind))).trans (Upd.setCell _ ⟨p + 1 + 1, 3, none⟩ (.int .u64 ro.num))).trans (Upd.setCell _ ⟨p + 1 + 1, 4, none⟩ (.string ro.text))).trans (Upd.setCell _ ⟨p + 1 + 1, 5, none⟩ (.slice Km ro.kids.length km)))
        exact ret_box rfl (p + 1 + 1) _ 54 _ ((((((kR.out.setCell 0 (.string ro.name)).setCell 1 (.string ro.key)).setCell 2 (.int .i64 ro.kind)).setCell 3 (.int .u64 ro.num)).setCell 4 (.string ro.text)).setCell 5 (.slice Km ro.kids.length km)) rfl rfl Try.underlying54 rfl size54
          ⟨_, rfl, _, rfl, RT.keep (S' := fun b => S b ∨ w.heap.size ≤ b) (fun b off v hb hc => ⟨by have := hp.out; have := hVs.out; have := hx9s.out; rcases hb with (⟨h1, _⟩ | h) | h; exact .inl h1; all_goals exact .inr (by (try simp at h); omega), by rw [← hc]; exact World.cell?_of_block (hu.out.block b (by have := hp.out; have := hVs.out; have := hx9s.out; show b ≠ p + 1 + 1; rcases hb with (⟨_, h⟩ | h) | h <;> (try simp at h) <;> omega))⟩) hr9.out, Below.trans kx.out (hu.out.below (by rw [hp.out]; show p ≤ p + 1 + 1; omega))⟩
  | s :: q :: r, t, x, S, S', w, c, cx, A, ac, hlast, hsome, h, hx, hw, hsz => by
    obtain ⟨K, kc, rfl, hrow⟩ := h.row
    obtain ⟨Kx, kcx, rfl, _⟩ := hx.row
    have hwc := hw.cap
    obtain ⟨b2, o2, rfl, _, hdk⟩ := WRow.at hw (j := 0) (x := s) rfl
    have hfd := Hd.mk (fun W (hx : Ext w W) => ref_find t s _ W _ (h.ext hx))
    have kr := Hd.mk (h.mono (S' := fun b => S b ∧ b < w.heap.size) (fun b hb hs => ⟨hs, hb⟩))
    have krx := Hd.mk (hx.mono (S' := fun b => S b ∧ b < w.heap.size) (fun b hb hs => ⟨hs, hb⟩))
    have hrow := Hd.mk (hrow.mono' (S' := fun b => S b ∧ b < w.heap.size) (fun b hb hs => ⟨hs, hb⟩))
    have hkl := kids_lt t
    have hxp := size_pos x
    have hkb : t.kids.length + 1 ≤ 1048576 := by omega
    have hn := hrow.out.len
    obtain ⟨k, hk0, hgk⟩ : ∃ k, kid t.kids s = some k ∧ (getT k (q :: r).dropLast).isSome = true := by
      rw [List.dropLast_cons_cons, getT_cons] at hsome
      cases hk : kid t.kids s with
      | none => rw [hk] at hsome; cases hsome
      | some k => rw [hk] at hsome; exact ⟨k, rfl, hsome⟩
    have hg : setT t (s :: q :: r) x = t.wk (repL t.kids s (setT k (q :: r) x)) := by simp only [setT, hk0]
    have hks := kidn_size hk0
    have ih := Hd.mk (fun (Sx : Nat → Prop) W c1 c2 A1 a1 (g1 : RT Sx W k c1) (g2 : RT Sx W x c2) (g3 : WRow S' W A1 (q :: r) a1) => ref_set (q :: r) k x Sx S' W c1 c2 A1 a1 (by rw [List.getLast?_cons_cons] at hlast; exact hlast) hgk g1 g2 g3 (by omega))
    have kwt := Hd.mk hw.tail'
    rw [hg]
    clear h hx hw hsz hkl hxp hg hgk hlast hsome hks
    simp only [List.length_cons] at hwc ⊢
    simp only [cT] at kr krx hfd ⊢
    obtain ⟨s1, s2⟩ := s
    generalize hro : t.wk (repL t.kids (s1, s2) (setT k (q :: r) x)) = ro
    generalize hL : r.length = L at *
    replace hL := Hd.mk hL
    replace hro := Hd.mk hro
    go_enter Try.func124, Try.ntmps124
    go_wp2_with fail
    have kx := Hd.mk (((Ext.alloc w (.cells #[.string t.name, .string t.key, .int .i64 t.kind, .int .u64 t.num, .string t.text, .slice K t.kids.length kc] 54)).trans (Ext.alloc _ (.cells #[.string x.name, .string x.key, .int .i64 x.kind, .int .u64 x.num, .string x.text, .slice Kx x.kids.length kcx] 54))).trans (Ext.alloc _ (.cells #[.string ⟨#[]⟩, .string ⟨#[]⟩, .int .i64 0, .int .u64 0, .string ⟨#[]⟩, .slice none 0 0] 54)))
    have kA := Hd.mk (((Blk.new w #[.string t.name, .string t.key, .int .i64 t.kind, .int .u64 t.num, .string t.text, .slice K t.kids.length kc] 54).alloc (.cells #[.string x.name, .string x.key, .int .i64 x.kind, .int .u64 x.num, .string x.text, .slice Kx x.kids.length kcx] 54)).alloc (.cells #[.string ⟨#[]⟩, .string ⟨#[]⟩, .int .i64 0, .int .u64 0, .string ⟨#[]⟩, .slice none 0 0] 54))
    have kX := Hd.mk ((Blk.new2 w (.cells #[.string t.name, .string t.key, .int .i64 t.kind, .int .u64 t.num, .string t.text, .slice K t.kids.length kc] 54) #[.string x.name, .string x.key, .int .i64 x.kind, .int .u64 x.num, .string x.text, .slice Kx x.kids.length kcx] 54).alloc (.cells #[.string ⟨#[]⟩, .string ⟨#[]⟩, .int .i64 0, .int .u64 0, .string ⟨#[]⟩, .slice none 0 0] 54))
    have kR := Hd.mk (Blk.new3 w (.cells #[.string t.name, .string t.key, .int .i64 t.kind, .int .u64 t.num, .string t.text, .slice K t.kids.length kc] 54) (.cells #[.string x.name, .string x.key, .int .i64 x.kind, .int .u64 x.num, .string x.text, .slice Kx x.kids.length kcx] 54) #[.string ⟨#[]⟩, .string ⟨#[]⟩, .int .i64 0, .int .u64 0, .string ⟨#[]⟩, .slice none 0 0] 54)
    generalize ((w.alloc _).alloc _).alloc _ = W at *
    generalize hp : w.heap.size = p at *
    replace hp := Hd.mk hp
    have kcy := Hd.mk (fun (q : Nat) u hq => Ext.cell kx.out (hdk q u hq))
    have hL0 : (0 : Int) < (L : Int) + 1 + 1 := by omega
    have hL1 : (1 : Int) ≤ (L : Int) + 1 + 1 := by omega
    have hL2 : (1 : Int) < (L : Int) + 1 + 1 := by omega
    refine Flow.wp_region_flow_l (fun qq => match qq with
      | 9 => SP.eq (.agg #[.string t.name, .string t.key, .int .i64 t.kind, .int .u64 t.num, .string t.text, .slice K t.kids.length kc])
      | 10 => SP.eq (.slice (some ⟨b2, o2, none⟩) (L + 1 + 1) ac)
      | 11 => SP.eq (.pointer (some ⟨b2, o2 + 0 * 2, none⟩))
      | 12 => SP.eq (.agg #[.string s1, .string s2])
      | 13 => SP.eq (.int .i64 (findT t.kids (s1, s2)))
      | 7 => SP.eq (.int .i64 (findT t.kids (s1, s2)))
      | _ => SP.any) 6 (by kernel_rfl) 58 rfl (by kernel_rfl) ?_ ?_
    · skip
      refine ⟨?_, ?_, ?_, ?_, ?_, ?_, trivial⟩
      · intro act W2 hk
        refine Flow.does_intro rfl (fun Kq hK => ?_)
        have e3 : act.tmps[3]?.getD undef = .pointer (some ⟨p, 0, none⟩) := hk.o 3 (by kernel_rfl)
        have g := ((kA.out).ext ((Ext.drew W).trans hk.ext)).cell
        clear hk
        go_simp
        exact hK _ _ (Ext.refl _) (fun d hd => by cases hd; rfl)
      · intro act W2 hk
        refine Flow.does_intro rfl (fun Kq hK => ?_)
        have e1 : act.tmps[1]?.getD undef = .slice (some ⟨b2, o2, none⟩) (L + 1 + 1) ac := hk.o 1 (by kernel_rfl)
        clear hk
        go_simp
        exact hK _ _ (Ext.refl _) (fun d hd => by cases hd; rfl)
      · intro act W2 hk
        refine Flow.does_intro rfl (fun Kq hK => ?_)
        have e10 : act.tmps[10]?.getD undef = .slice (some ⟨b2, o2, none⟩) (L + 1 + 1) ac := hk.v 10 (by kernel_rfl)
        clear hk
        go_simp
        exact hK _ _ (Ext.refl _) (fun d hd => by cases hd; simp [SP.eq])
      · intro act W2 hk
        refine Flow.does_intro rfl (fun Kq hK => ?_)
        have e11 : act.tmps[11]?.getD undef = .pointer (some ⟨b2, o2 + 0 * 2, none⟩) := hk.v 11 (by kernel_rfl)
        have g0 := Ext.cell ((Ext.drew W).trans hk.ext) ((kcy.out) 0 _ rfl)
        rw [Nat.add_zero] at g0
        have g1 := Ext.cell ((Ext.drew W).trans hk.ext) ((kcy.out) 1 _ rfl)
        clear hk
        go_simp
        exact hK _ _ (Ext.refl _) (fun d hd => by cases hd; rfl)
      · intro act W2 hk
        refine Flow.does_intro rfl (fun Kq hK => ?_)
        have e9 : act.tmps[9]?.getD undef = .agg #[.string t.name, .string t.key, .int .i64 t.kind, .int .u64 t.num, .string t.text, .slice K t.kids.length kc] := hk.v 9 (by kernel_rfl)
        have e12 : act.tmps[12]?.getD undef = .agg #[.string s1, .string s2] := hk.v 12 (by kernel_rfl)
        have hx0 := Hd.mk ((Ext.drew W).trans hk.ext)
        clear hk
        go_simp
        refine Calls.mono (hfd.out _ (kx.out.trans hx0.out)) ?_
        rintro e W3 ⟨rfl, hx⟩
        exact hK _ _ hx (fun d hd => by cases hd; rfl)
      · intro act W2 hk
        refine Flow.does_intro rfl (fun Kq hK => ?_)
        have e13 : act.tmps[13]?.getD undef = .int .i64 (findT t.kids (s1, s2)) := hk.v 13 (by kernel_rfl)
        clear hk
        go_simp
        exact hK _ _ (Ext.refl _) (fun d hd => by cases hd; rfl)
    · intro act V he
      have hxV := Hd.mk ((Ext.drew W).trans he.ext)
      obtain ⟨us, hA, hF⟩ := he.out [9, 10, 11, 12, 13, 7] (by kernel_rfl)
      simp only [Flow.fillL, List.contains_cons, List.contains_nil, Nat.reduceBEq, Bool.or_false, Bool.false_or, Bool.or_true, Bool.true_or, ↓reduceIte, Nat.reduceAdd, Bool.false_eq_true] at hA
      subst hA
      have f7 : us 7 = .int .i64 (findT t.kids (s1, s2)) := hF 7 (by simp)
      clear hF he
      rw [f7]
      clear f7
      refine (show wpList _ _ _ [] _ _ from ?_)
      replace kx := Hd.mk (kx.out.trans hxV.out)
      replace kA := Hd.mk (kA.out.ext hxV.out)
      replace kX := Hd.mk (kX.out.ext hxV.out)
      replace kR := Hd.mk (kR.out.ext hxV.out)
      clear hxV hfd kcy
      rcases findT_kid t.kids (s1, s2) with ⟨hf, hk⟩ | ⟨i, k2, hf, hi, hk, hrep, _⟩
      · rw [hk] at hk0; cases hk0
      · rw [hk] at hk0
        obtain rfl : k2 = k := by cases hk0; rfl
        rw [hf]
        obtain ⟨b1, o1, ck, rfl, _, hrk, hck⟩ := hrow.out.kid i k2 hi
        have hil := (List.getElem?_eq_some_iff.1 hi).1
        have hro2 : t.wk (t.kids.take i ++ [setT k2 (q :: r) x] ++ t.kids.drop (i + 1)) = ro := by rw [← hro.out, hrep, set_take hil]
        replace hro2 := Hd.mk hro2
        obtain ⟨K9, c9, rfl, _⟩ := hrk.row
        have hrec := Hd.mk (fun W (h : Ext V W) => ih.out (fun b => S b ∧ b < p) W _ _ _ _ (hrk.ext (kx.out.trans h)) (krx.out.ext (kx.out.trans h)) (kwt.out.ext (kx.out.trans h)))
        have kck := Hd.mk (fun (q : Nat) u hq => Ext.cell kx.out (hck q u hq))
        simp only [cT, List.length_cons] at hrec kck
        rw [hL.out] at hrec
        generalize setT k2 (q :: r) x = k1 at *
        clear hf hk hi hrep hk0 ih kwt hrk hck
        go_wp2_with fail
        refine Flow.wp_region_flow_l (fun qq => match qq with
          | 17 => SP.eq (.agg #[.string t.name, .string t.key, .int .i64 t.kind, .int .u64 t.num, .string t.text, .slice (some ⟨b1, o1, none⟩) t.kids.length kc])
          | 18 => SP.eq (.int .i64 (i : Nat))
          | 19 => SP.eq (.pointer (some ⟨p, 5, none⟩))
          | 20 => SP.eq (.slice (some ⟨b1, o1, none⟩) t.kids.length kc)
          | 21 => SP.eq (.int .i64 (i : Nat))
          | 22 => SP.eq (.pointer (some ⟨b1, o1 + i * 6, none⟩))
          | 23 => SP.eq (.agg #[.string k2.name, .string k2.key, .int .i64 k2.kind, .int .u64 k2.num, .string k2.text, .slice K9 k2.kids.length c9])
          | 24 => SP.eq (.slice (some ⟨b2, o2, none⟩) (L + 1 + 1) ac)
          | 25 => SP.eq (.slice (if ac = 1 then some ⟨b2, o2, none⟩ else some ⟨b2, o2 + 2, none⟩) (L + 1) (ac - 1))
          | 26 => SP.eq (.agg #[.string x.name, .string x.key, .int .i64 x.kind, .int .u64 x.num, .string x.text, .slice Kx x.kids.length kcx])
          | 27 => spTS (fun b => (S b ∧ b < p) ∨ V.heap.size ≤ b) k1
          | 28 => spTRow (fun b => (S b ∧ b < p) ∨ V.heap.size ≤ b) k1 V.heap.size
          | 29 => spTS (fun b => (S b ∧ b < p) ∨ V.heap.size ≤ b) ro
          | _ => SP.any) 13 (by kernel_rfl) 58 rfl (by kernel_rfl) ?_ ?_
        · skip
          refine ⟨?_, ?_, ?_, ?_, ?_, ?_, ?_, ?_, ?_, ?_, ?_, ?_, ?_, trivial⟩
          · intro act W2 hk
            refine Flow.does_intro rfl (fun Kq hK => ?_)
            have e3 : act.tmps[3]?.getD undef = .pointer (some ⟨p, 0, none⟩) := hk.o 3 (by kernel_rfl)
            have g := ((kA.out).ext ((Ext.drew V).trans hk.ext)).cell
            clear hk
            go_simp
            exact hK _ _ (Ext.refl _) (fun d hd => by cases hd; rfl)
          · intro act W2 hk
            refine Flow.does_intro rfl (fun Kq hK => ?_)
            have e7 : act.tmps[7]?.getD undef = .int .i64 (i : Nat) := hk.o 7 (by kernel_rfl)
            clear hk
            go_simp
            exact hK _ _ (Ext.refl _) (fun d hd => by cases hd; rfl)
          · intro act W2 hk
            refine Flow.does_intro rfl (fun Kq hK => ?_)
            have e3 : act.tmps[3]?.getD undef = .pointer (some ⟨p, 0, none⟩) := hk.o 3 (by kernel_rfl)
            clear hk
            go_simp
            exact hK _ _ (Ext.refl _) (fun d hd => by cases hd; rfl)
          · intro act W2 hk
            refine Flow.does_intro rfl (fun Kq hK => ?_)
            have e19 : act.tmps[19]?.getD undef = .pointer (some ⟨p, 5, none⟩) := hk.v 19 (by kernel_rfl)
            have g := ((kA.out).ext ((Ext.drew V).trans hk.ext)).cell
            clear hk
            go_simp
            exact hK _ _ (Ext.refl _) (fun d hd => by cases hd; rfl)
          · intro act W2 hk
            refine Flow.does_intro rfl (fun Kq hK => ?_)
            have e7 : act.tmps[7]?.getD undef = .int .i64 (i : Nat) := hk.o 7 (by kernel_rfl)
            clear hk
            go_simp
            exact hK _ _ (Ext.refl _) (fun d hd => by cases hd; rfl)
          · intro act W2 hk
            refine Flow.does_intro rfl (fun Kq hK => ?_)
            have e20 : act.tmps[20]?.getD undef = .slice (some ⟨b1, o1, none⟩) t.kids.length kc := hk.v 20 (by kernel_rfl)
            have e21 : act.tmps[21]?.getD undef = .int .i64 (i : Nat) := hk.v 21 (by kernel_rfl)
            clear hk
            go_simp
            exact hK _ _ (Ext.refl _) (fun d hd => by cases hd; rfl)
          · intro act W2 hk
            refine Flow.does_intro rfl (fun Kq hK => ?_)
            have e22 : act.tmps[22]?.getD undef = .pointer (some ⟨b1, o1 + i * 6, none⟩) := hk.v 22 (by kernel_rfl)
            have g0 := Ext.cell ((Ext.drew V).trans hk.ext) ((kck.out) 0 _ rfl)
            rw [Nat.add_zero] at g0
            have g1 := Ext.cell ((Ext.drew V).trans hk.ext) ((kck.out) 1 _ rfl)
            have g2 := Ext.cell ((Ext.drew V).trans hk.ext) ((kck.out) 2 _ rfl)
            have g3 := Ext.cell ((Ext.drew V).trans hk.ext) ((kck.out) 3 _ rfl)
            have g4 := Ext.cell ((Ext.drew V).trans hk.ext) ((kck.out) 4 _ rfl)
            have g5 := Ext.cell ((Ext.drew V).trans hk.ext) ((kck.out) 5 _ rfl)
            clear hk
            go_simp
            exact hK _ _ (Ext.refl _) (fun d hd => by cases hd; rfl)
          · intro act W2 hk
            refine Flow.does_intro rfl (fun Kq hK => ?_)
            have e1 : act.tmps[1]?.getD undef = .slice (some ⟨b2, o2, none⟩) (L + 1 + 1) ac := hk.o 1 (by kernel_rfl)
            clear hk
            go_simp
            exact hK _ _ (Ext.refl _) (fun d hd => by cases hd; rfl)
          · intro act W2 hk
            refine Flow.does_intro rfl (fun Kq hK => ?_)
            have e24 : act.tmps[24]?.getD undef = .slice (some ⟨b2, o2, none⟩) (L + 1 + 1) ac := hk.v 24 (by kernel_rfl)
            clear hk
            go_simp
            exact hK _ _ (Ext.refl _) (fun d hd => by cases hd; simp [SP.eq])
          · intro act W2 hk
            refine Flow.does_intro rfl (fun Kq hK => ?_)
            have e5 : act.tmps[5]?.getD undef = .pointer (some ⟨p + 1, 0, none⟩) := hk.o 5 (by kernel_rfl)
            have g := ((kX.out).ext ((Ext.drew V).trans hk.ext)).cell
            clear hk
            go_simp
            exact hK _ _ (Ext.refl _) (fun d hd => by cases hd; rfl)
          · intro act W2 hk
            refine Flow.does_intro rfl (fun Kq hK => ?_)
            have e23 : act.tmps[23]?.getD undef = .agg #[.string k2.name, .string k2.key, .int .i64 k2.kind, .int .u64 k2.num, .string k2.text, .slice K9 k2.kids.length c9] := hk.v 23 (by kernel_rfl)
            have e25 : act.tmps[25]?.getD undef = .slice (if ac = 1 then some ⟨b2, o2, none⟩ else some ⟨b2, o2 + 2, none⟩) (L + 1) (ac - 1) := hk.v 25 (by kernel_rfl)
            have e26 : act.tmps[26]?.getD undef = .agg #[.string x.name, .string x.key, .int .i64 x.kind, .int .u64 x.num, .string x.text, .slice Kx x.kids.length kcx] := hk.v 26 (by kernel_rfl)
            have hx0 := Hd.mk ((Ext.drew V).trans hk.ext)
            clear hk
            go_simp
            refine Calls.mono (hrec.out _ hx0.out) ?_
            rintro e W3 ⟨_, rfl, c8, rfl, hr8, hx⟩
            exact hK _ _ hx (fun d hd => by cases hd; exact ⟨c8, rfl, hr8.mono (fun b _ hb => by rcases hb with h | h; exact .inl h; exact .inr (Nat.le_trans hx0.out.size h))⟩)
          · intro act W2 hk
            refine Flow.does_intro rfl (fun Kq hK => ?_)
            obtain ⟨c8, e27, hr8⟩ := (hk.v 27 (by kernel_rfl) : (spTS _ _).p _ _)
            obtain ⟨Kq1, kq1, rfl, _⟩ := hr8.row
            simp only [cT] at e27 hr8
            have hr8 := Hd.mk hr8
            have hx0 := Hd.mk ((Ext.drew V).trans hk.ext)
            clear hk
            go_simp
            exact hK _ _ (Ext.alloc _ _) (fun d hd => by cases hd; exact ⟨_, _, rfl, hx0.out.size, Blk.new _ _ _, hr8.out.ext (Ext.alloc _ _)⟩)
          · intro act W2 hk
            refine Flow.does_intro rfl (fun Kq hK => ?_)
            have e17 : act.tmps[17]?.getD undef = .agg #[.string t.name, .string t.key, .int .i64 t.kind, .int .u64 t.num, .string t.text, .slice (some ⟨b1, o1, none⟩) t.kids.length kc] := hk.v 17 (by kernel_rfl)
            have e18 : act.tmps[18]?.getD undef = .int .i64 (i : Nat) := hk.v 18 (by kernel_rfl)
            obtain ⟨D, c8, e28, hD, hbD, hr8⟩ := (hk.v 28 (by kernel_rfl) : (spTRow _ _ _).p _ _)
            have hx0 := Hd.mk ((Ext.drew V).trans hk.ext)
            have hcw := ref_with t [k1] (fun b => (S b ∧ b < p) ∨ V.heap.size ≤ b) W2 _ (some ⟨D, 0, none⟩) 1 i 1 ((kr.out.mono (fun _ _ h => .inl h)).ext (kx.out.trans hx0.out)) (rrow_one hbD hr8 (.inr hD)) (by omega) (by simpa using hkb)
            rw [hro2.out] at hcw
            have hcw := Hd.mk hcw
            clear hk
            go_simp
            refine Calls.mono (hcw.out) ?_
            rintro e W3 ⟨_, rfl, c9, rfl, hr9, hx⟩
            exact hK _ _ hx (fun d hd => by cases hd; exact ⟨c9, rfl, hr9.mono (fun b _ hb => by rcases hb with h | h; exact h; exact .inr (Nat.le_trans hx0.out.size h))⟩)
        · intro act V2 he
          have hxV2 := Hd.mk ((Ext.drew V).trans he.ext)
          obtain ⟨us, hA, hF⟩ := he.out [17, 18, 19, 20, 21, 22, 23, 24, 25, 26, 27, 28, 29] (by kernel_rfl)
          simp only [Flow.fillL, List.contains_cons, List.contains_nil, Nat.reduceBEq, Bool.or_false, Bool.false_or, Bool.or_true, Bool.true_or, ↓reduceIte, Nat.reduceAdd, Bool.false_eq_true] at hA
          subst hA
          have f29 : (spTS (fun b => (S b ∧ b < p) ∨ V.heap.size ≤ b) ro).p (us 29) V2 := hF 29 (by simp)
          clear hF he
          obtain ⟨c9, e9, hr9⟩ := (f29 : (spTS _ _).p _ _)
          obtain ⟨Km, km, rfl, _⟩ := hr9.row
          rw [e9]
          clear e9
          have hr9 := Hd.mk hr9
          simp only [cT] at hr9 ⊢
          have hVs := Hd.mk kR.out.lt
          replace kx := Hd.mk (kx.out.trans hxV2.out)
          replace kR := Hd.mk (kR.out.ext hxV2.out)
          clear hxV2
          have gR := kR.out.cell
          have fR := kR.out.free
          refine (show wpList _ _ _ (⟨none, .store 54 (.tmp 6) (.tmp 29), _, _, _, none⟩ :: _) _ _ from ?_)
          go_wp2_with fail
          have hu := Hd.mk ((((((Upd.setCell V2 ⟨p + 1 + 1, 0, none⟩ (.string ro.name)).trans (Upd.setCell _ ⟨p + 1 + 1, 1, none⟩ (.string ro.key))).trans (Upd.setCell _ ⟨p + 1 + 1, 2, none⟩ (.int .i64 ro.kind))).trans (Upd.setCell _ ⟨p + 1 + 1, 3, none⟩ (.int .u64 ro.num))).trans (Upd.setCell _ ⟨p + 1 + 1, 4, none⟩ (.string ro.text))).trans (Upd.setCell _ ⟨p + 1 + 1, 5, none⟩ (.slice Km ro.kids.length km)))
          exact ret_box rfl (p + 1 + 1) _ 54 _ ((((((kR.out.setCell 0 (.string ro.name)).setCell 1 (.string ro.key)).setCell 2 (.int .i64 ro.kind)).setCell 3 (.int .u64 ro.num)).setCell 4 (.string ro.text)).setCell 5 (.slice Km ro.kids.length km)) rfl rfl Try.underlying54 rfl size54
            ⟨_, rfl, _, rfl, RT.keep (S' := fun b => S b ∨ w.heap.size ≤ b) (fun b off v hb hc => ⟨by have := hp.out; have := hVs.out; rcases hb with ⟨h1, _⟩ | h; exact .inl h1; exact .inr (by omega), by rw [← hc]; exact World.cell?_of_block (hu.out.block b (by have := hVs.out; show b ≠ p + 1 + 1; rcases hb with ⟨_, h⟩ | h <;> omega))⟩) hr9.out, Below.trans kx.out (hu.out.below (by rw [hp.out]; show p ≤ p + 1 + 1; omega))⟩
end Go.Proofs.Ytgkgedjmnbjalaa
set_option linter.unusedSimpArgs false
namespace Go.Proofs.Ytgkgedjmnbjalaa
open Go.RowKit Go.Sort
theorem items_of {w : World} : ∀ (kids : List T) (css : List (List Value)) (P : Nat → Nat → Prop), css.length = kids.length → (∀ (i : Nat) k c, kids[i]? = some k → css[i]? = some c → RT (P i) w k c) → ∃ l : List It, l.map (·.1) = kids ∧ l.map cI = css ∧ ∀ (i : Nat) x, l[i]? = some x → RT (P i) w x.1 (cI x)
  | [], [], _, _, _ => ⟨[], rfl, rfl, fun i x h => by simp at h⟩
  | [], c :: css, _, h, _ => by simp at h
  | k :: kids, [], _, h, _ => by simp at h
  | k :: kids, c :: css, P, h, hr => by
    obtain ⟨l, h1, h2, h3⟩ := items_of kids css (fun i => P (i + 1)) (by simpa using h) (fun i k c hk hc => hr (i + 1) k c (by simpa using hk) (by simpa using hc))
    have h0 := hr 0 k c rfl rfl
    obtain ⟨K, kc, rfl, _⟩ := h0.row
    refine ⟨(k, K, kc) :: l, by simp [h1], by simp [h2]; rfl, fun i x hx => ?_⟩
    cases i with
    | zero => simp at hx; subst hx; exact h0
    | succ i => exact h3 i x (by simpa using hx)
theorem rrow_of_items {S : Nat → Prop} {w : World} {g kc : Nat} {l : List It} {sp : List Value} (h : Blk w g (rowI l ++ sp) 54) (hS : S g) (hc : l.length ≤ kc) (hl : l.length ≤ 1048576) (hr : ∀ x ∈ l, RT S w x.1 (cI x)) : RRow S w (some ⟨g, 0, none⟩) (l.map (·.1)) kc :=
  ⟨by rw [List.length_map]; exact hc, by rw [List.length_map]; exact hl, fun h => (by cases h), fun i k hi => by
    rw [List.getElem?_map] at hi
    obtain ⟨x, hx, rfl⟩ := Option.map_eq_some_iff.1 hi
    exact ⟨g, 0, cI x, rfl, hS, hr x (List.mem_of_getElem? hx), fun j v hv => by rw [Nat.zero_add]; exact rowI_cell h hx j v hv⟩⟩
theorem map_set_fst (l : List It) (j : Nat) (y : It) : (l.set j y).map (·.1) = (l.map (·.1)).set j y.1 := by rw [List.map_set]
theorem turn_next {kids : List T} {j : Nat} {k : T} (h : kids[j]? = some k) : ((kids.take j).map sortT ++ kids.drop j).set j (sortT k) = (kids.take (j + 1)).map sortT ++ kids.drop (j + 1) := by
  obtain ⟨hj, hk⟩ := List.getElem?_eq_some_iff.1 h
  have hl : ((kids.take j).map sortT).length = j := by rw [List.length_map, List.length_take]; omega
  rw [List.set_append_right _ _ (by omega), hl, Nat.sub_self, List.drop_eq_getElem_cons hj, List.set_cons_zero, List.take_add_one, h]
  simp
set_option maxRecDepth 100000 in
set_option maxHeartbeats 2000000 in
theorem ins_none (A : Option Addr) (c : Nat) (w : World) : Calls Try.prog 156 #[.slice A 0 c, .int .i64 0, .int .i64 0, .func (.func 116) #[] #[]] w fun e w' => e = .returned (.tuple #[]) ∧ w' = w := by
  go_enter Try.func156, Try.ntmps156
  go_wp2_with fail
  refine wp_loop_rounds 1 ?_
  rw [rounds_succ]
  go_wp2_with fail
  go_end0
  exact ⟨rfl, rfl⟩
set_option maxRecDepth 100000 in
set_option maxHeartbeats 2000000 in
theorem stable_none (A : Option Addr) (c : Nat) (w : World) : Calls Try.prog 146 #[.slice A 0 c, .int .i64 0, .func (.func 116) #[] #[]] w fun e w' => e = .returned (.tuple #[]) ∧ w' = w := by
  go_enter Try.func146, Try.ntmps146
  go_wp2_with fail
  refine wp_loop_rounds 1 ?_
  rw [rounds_succ]
  go_wp2_with fail
  refine Calls.mono (ins_none A c w) ?_
  rintro e w2 ⟨rfl, rfl⟩
  go_wp2_with fail
  refine wp_loop_rounds 1 ?_
  rw [rounds_succ]
  go_wp2_with fail
  go_end0
  exact ⟨rfl, rfl⟩
set_option maxRecDepth 100000 in
set_option maxHeartbeats 2000000 in
theorem sort_none (A : Option Addr) (c : Nat) (w : World) : Calls Try.prog 115 #[.slice A 0 c, .func (.func 116) #[] #[]] w fun e w' => e = .returned (.tuple #[]) ∧ w' = w := by
  go_enter Try.func115, Try.ntmps115
  go_wp2_with fail
  refine Calls.mono (stable_none A c w) ?_
  rintro e w2 ⟨rfl, rfl⟩
  go_wp2_with fail
  go_end0
  exact ⟨rfl, rfl⟩
set_option maxRecDepth 100000 in
set_option maxHeartbeats 2000000 in
theorem sort_func (L : Nat) (hL : L ≤ 1048576) (H : 20 < L → SymOK L) (l0 : List It) (sp : List Value) (g cap n : Nat) (w : World) (hb : Blk w g (rowI l0 ++ sp) 54) (hn : n = l0.length) (hcap : n ≤ cap) (hnL : n ≤ L) :
    Calls Try.prog 115 #[.slice (some ⟨g, 0, none⟩) n cap, .func (.func 116) #[] #[]] w fun e w' => e = .returned (.tuple #[]) ∧ Blk w' g (rowI (isortG ltI l0) ++ sp) 54 ∧ w.grownBy w' (some g) := by
  have hc := Hd.mk (stable_sort L hL H l0 sp g cap n w hb hn hcap hnL)
  clear hb hn hcap hnL
  go_enter Try.func115, Try.ntmps115
  go_wp2_with fail
  refine Calls.mono hc.out ?_
  rintro e w2 ⟨rfl, h1, h2⟩
  replace h1 := Hd.mk h1
  replace h2 := Hd.mk h2
  go_wp2_with fail
  go_end0
  exact ⟨rfl, h1.out, h2.out⟩
set_option maxRecDepth 100000 in
set_option maxHeartbeats 1500000 in
theorem tree_sorted (L : Nat) (hL : L ≤ 1048576) (H : 20 < L → SymOK L) : ∀ (N : Nat) (t : T) (S : Nat → Prop) (w : World) (c : List Value), t.deep ≤ N → t.size ≤ L → RT S w t c → Calls Try.prog 61 #[.agg c.toArray] w (Ret (SortPost t w))
  | 0, t, S, w, c, hn, _, _ => by rw [t.deep_eq] at hn; omega
  | N + 1, t, S, w, c, hn, hsz, h => by
    obtain ⟨K0, k0, rfl, hrow0⟩ := h.row
    have kr := Hd.mk h
    have ih := Hd.mk (tree_sorted L hL H N)
    have hkL : t.kids.length < L := by have h1 := sizeL_len t.kids; rw [t.size_eq] at hsz; omega
    have hkids := Hd.mk (fun (j : Nat) k (hk : t.kids[j]? = some k) => (⟨by have := kid_deep hk; omega, by have := kid_size hk; omega⟩ : k.deep ≤ N ∧ k.size ≤ L))
    have hcl := Hd.mk (fun W (hx : Ext w W) => own_clone t.deep t S W _ (Nat.le_refl _) (h.ext hx))
    clear h hrow0 hn hsz kr
    replace H := Hd.mk H
    simp only [cT] at hcl ⊢
    go_enter Try.func61, Try.ntmps61
    go_wp2_with fail
    have kx := Hd.mk ((Ext.alloc w (.cells #[.string t.name, .string t.key, .int .i64 t.kind, .int .u64 t.num, .string t.text, .slice K0 t.kids.length k0] 54)).trans (Ext.alloc _ (.cells #[.string ⟨#[]⟩, .string ⟨#[]⟩, .int .i64 0, .int .u64 0, .string ⟨#[]⟩, .slice none 0 0] 54)))
    have kA := Hd.mk ((Blk.new w #[.string t.name, .string t.key, .int .i64 t.kind, .int .u64 t.num, .string t.text, .slice K0 t.kids.length k0] 54).alloc (.cells #[.string ⟨#[]⟩, .string ⟨#[]⟩, .int .i64 0, .int .u64 0, .string ⟨#[]⟩, .slice none 0 0] 54))
    have kR := Hd.mk (Blk.new2 w (.cells #[.string t.name, .string t.key, .int .i64 t.kind, .int .u64 t.num, .string t.text, .slice K0 t.kids.length k0] 54) #[.string ⟨#[]⟩, .string ⟨#[]⟩, .int .i64 0, .int .u64 0, .string ⟨#[]⟩, .slice none 0 0] 54)
    have hpW := Hd.mk (show w.heap.size + 1 < ((w.alloc _).alloc _).heap.size from kR.out.lt)
    generalize (w.alloc _).alloc _ = W at *
    generalize hp : w.heap.size = p at *
    replace hp := Hd.mk hp
    have gA := kA.out.cell
    go_wp2_with fail
    refine Calls.mono (hcl.out _ kx.out) ?_
    rintro e w1 ⟨_, rfl, c1, rfl, ho, hx⟩
    obtain ⟨K, kc, css, Si, rfl, hro⟩ := ho.row
    replace kx := Hd.mk (kx.out.trans hx)
    replace kA := Hd.mk (kA.out.ext hx)
    replace kR := Hd.mk (kR.out.ext hx)
    have hWs := hx.size
    clear hx ho hcl gA
    simp only [cT]
    obtain ⟨hkc, hkm, hknul, hkown⟩ := own_cap hro.own
    have gA := kA.out.cell
    have fA := kA.out.free
    by_cases hz : t.kids.length = 0
    · rw [hz] at hkc ⊢
      have hn0 := List.eq_nil_of_length_eq_zero hz
      have hsrt : sortT t = t := by rw [sortT_eq, hn0, sortL_nil, ← hn0]; exact wk_self t
      have hrr0 : ∀ W, RT (fun b => w.heap.size ≤ b) W t [.string t.name, .string t.key, .int .i64 t.kind, .int .u64 t.num, .string t.text, .slice K 0 kc] := fun W => by
        have h1 : RRow (fun b => w.heap.size ≤ b) W K t.kids kc := by rw [hn0]; exact RRow.nil _ _ _ _ hknul
        have h0 := RT.of_row h1
        rw [hz] at h0
        exact h0
      replace hrr0 := Hd.mk hrr0
      replace hsrt := Hd.mk hsrt
      clear hn0
      go_wp2_with ((with_reducible refine stop_at (.load 52 (.tmp 7)) ?_))
      refine Stop.mk ?_
      have hu := Hd.mk ((((((Upd.setCell w1 ⟨p, 0, none⟩ (.string t.name)).trans (Upd.setCell _ ⟨p, 1, none⟩ (.string t.key))).trans (Upd.setCell _ ⟨p, 2, none⟩ (.int .i64 t.kind))).trans (Upd.setCell _ ⟨p, 3, none⟩ (.int .u64 t.num))).trans (Upd.setCell _ ⟨p, 4, none⟩ (.string t.text))).trans (Upd.setCell _ ⟨p, 5, none⟩ (.slice K 0 kc)))
      have kA2 := Hd.mk (show Blk _ p [.string t.name, .string t.key, .int .i64 t.kind, .int .u64 t.num, .string t.text, .slice K 0 kc] 54 from ((((((kA.out.setCell 0 (.string t.name)).setCell 1 (.string t.key)).setCell 2 (.int .i64 t.kind)).setCell 3 (.int .u64 t.num)).setCell 4 (.string t.text)).setCell 5 (.slice K 0 kc)))
      generalize ((((((w1.setCell _ _).setCell _ _).setCell _ _).setCell _ _).setCell _ _).setCell _ _) = w2 at *
      replace kR := Hd.mk (hu.out.blk (by show p + 1 ≠ p; omega) kR.out)
      replace kx := Hd.mk (show Ext w w2 from Below.trans kx.out (hu.out.below (Nat.le_of_eq hp.out)))
      clear hu gA fA kA
      have gA := kA2.out.cell
      go_wp2_with fail
      refine wp_loop_rounds 1 ?_
      rw [rounds_succ]
      go_wp2_with fail
      refine Calls.mono (sort_none K kc w2) ?_
      rintro e w3 ⟨rfl, rfl⟩
      have gR := kR.out.cell
      have fR := kR.out.free
      go_wp2_with fail
      have hu := Hd.mk ((((((Upd.setCell w3 ⟨p + 1, 0, none⟩ (.string t.name)).trans (Upd.setCell _ ⟨p + 1, 1, none⟩ (.string t.key))).trans (Upd.setCell _ ⟨p + 1, 2, none⟩ (.int .i64 t.kind))).trans (Upd.setCell _ ⟨p + 1, 3, none⟩ (.int .u64 t.num))).trans (Upd.setCell _ ⟨p + 1, 4, none⟩ (.string t.text))).trans (Upd.setCell _ ⟨p + 1, 5, none⟩ (.slice K 0 kc)))
      exact ret_box rfl (p + 1) _ 54 _ ((((((kR.out.setCell 0 (.string t.name)).setCell 1 (.string t.key)).setCell 2 (.int .i64 t.kind)).setCell 3 (.int .u64 t.num)).setCell 4 (.string t.text)).setCell 5 (.slice K 0 kc)) rfl rfl Try.underlying54 rfl size54
        ⟨_, rfl, _, rfl, by rw [hsrt.out]; exact hrr0.out _, Below.trans kx.out (hu.out.below (by rw [hp.out]; show p ≤ p + 1; omega))⟩
    · obtain ⟨g, cap9, sp, hv, _, hbk, _, _, _⟩ := own_form hro.own (by omega)
      simp only [Value.slice.injEq] at hv
      obtain ⟨rfl, _, hc9⟩ := hv
      subst hc9
      have hgS := (hro.g g rfl)
      obtain ⟨l0, hl1, hl2, hl3⟩ := items_of t.kids css Si hro.hl (fun i k c hk hc => (hro.each i k c hk hc).rt)
      have hll : l0.length = t.kids.length := by rw [← hl1, List.length_map]
      have hg0 : W.heap.size ≤ g := hgS.1.1
      have hb0 : Blk w1 g (rowI l0 ++ sp) 54 := by unfold rowI; rw [hl2]; exact hbk
      have hr0 : ∀ x ∈ l0, RT (fun b => b ≠ g ∧ p + 2 ≤ b) w1 x.1 (cI x) := fun x hx => by
        obtain ⟨i, hi⟩ := List.getElem?_of_mem hx
        refine (hl3 i x hi).mono fun b _ hb => ⟨fun e => hgS.2 i (e ▸ hb), ?_⟩
        have h1 := (hro.sub i b hb).1
        have h2 := hpW.out
        omega
      replace hb0 := Hd.mk hb0
      replace hr0 := Hd.mk hr0
      have hgp := Hd.mk (show p + 2 ≤ g by have := hpW.out; omega)
      have hI0 := Hd.mk (show l0.map (·.1) = (t.kids.take 0).map sortT ++ t.kids.drop 0 by rw [hl1]; rfl)
      have hkb := hro.hb
      clear hro hgS hl1 hl2 hl3 hbk hkown hll hg0 hknul
      go_wp2_with ((with_reducible refine stop_at (.load 52 (.tmp 7)) ?_))
      refine Stop.mk ?_
      have hu := Hd.mk ((((((Upd.setCell w1 ⟨p, 0, none⟩ (.string t.name)).trans (Upd.setCell _ ⟨p, 1, none⟩ (.string t.key))).trans (Upd.setCell _ ⟨p, 2, none⟩ (.int .i64 t.kind))).trans (Upd.setCell _ ⟨p, 3, none⟩ (.int .u64 t.num))).trans (Upd.setCell _ ⟨p, 4, none⟩ (.string t.text))).trans (Upd.setCell _ ⟨p, 5, none⟩ (.slice (some ⟨g, 0, none⟩) t.kids.length kc)))
      have kA2 := Hd.mk (show Blk _ p [.string t.name, .string t.key, .int .i64 t.kind, .int .u64 t.num, .string t.text, .slice (some ⟨g, 0, none⟩) t.kids.length kc] 54 from ((((((kA.out.setCell 0 (.string t.name)).setCell 1 (.string t.key)).setCell 2 (.int .i64 t.kind)).setCell 3 (.int .u64 t.num)).setCell 4 (.string t.text)).setCell 5 (.slice (some ⟨g, 0, none⟩) t.kids.length kc)))
      generalize ((((((w1.setCell _ _).setCell _ _).setCell _ _).setCell _ _).setCell _ _).setCell _ _) = w2 at *
      replace kR := Hd.mk (hu.out.blk (by show p + 1 ≠ p; omega) kR.out)
      replace kx := Hd.mk (show Ext w w2 from Below.trans kx.out (hu.out.below (Nat.le_of_eq hp.out)))
      replace hb0 := Hd.mk (hu.out.blk (by have := hgp.out; show g ≠ p; omega) hb0.out)
      replace hr0 := Hd.mk (fun x hx => (hr0.out x hx).upd hu.out (fun h => by have h2 : p + 2 ≤ p := h.2; omega))
      clear hu gA fA kA
      have gA := kA2.out.cell
      go_wp2_with fail
      clear gA
      go_loopg [10] (t.kids.length + 1) (fun q i wr => ∃ j : Nat, j ≤ t.kids.length ∧ Hd (q = t.kids.length + 1 - j) ∧ i = .int .i64 j ∧ ∃ l : List It, Hd (l.map (·.1) = (t.kids.take j).map sortT ++ t.kids.drop j) ∧ Hd (Blk wr g (rowI l ++ sp) 54) ∧ Hd (∀ x ∈ l, RT (fun b => b ≠ g ∧ p + 2 ≤ b) wr x.1 (cI x)) ∧ Hd (Blk wr p [.string t.name, .string t.key, .int .i64 t.kind, .int .u64 t.num, .string t.text, .slice (some ⟨g, 0, none⟩) t.kids.length kc] 54) ∧ Hd (Blk wr (p + 1) [.string ⟨#[]⟩, .string ⟨#[]⟩, .int .i64 0, .int .u64 0, .string ⟨#[]⟩, .slice none 0 0] 54) ∧ Hd (Ext w wr))
      case atStart => exact ⟨0, by omega, ⟨by omega⟩, rfl, l0, hI0, hb0, hr0, kA2, kR, kx⟩
      case round =>
      clear hI0 hb0 hr0 kA2 kR kx
      obtain ⟨j, hj, hq, rfl, l, hI, hrow, hrt, kA, kR, kx⟩ := hrel
      have hll : l.length = t.kids.length := by
        have := congrArg List.length hI.out
        simp only [List.length_map, List.length_append, List.length_take, List.length_drop] at this
        omega
      replace hll := Hd.mk hll
      by_cases hlt : j < t.kids.length
      · have hk1 := List.getElem?_eq_getElem hlt
        generalize t.kids[j] = k at hk1
        have hjl : j < l.length := by rw [hll.out]; exact hlt
        have hx1 := List.getElem?_eq_getElem hjl
        generalize l[j] = x at hx1
        have hxk : x.1 = k := by
          have h1 := congrArg (fun z => z[j]?) hI.out
          simp only [List.getElem?_map, hx1, Option.map_some] at h1
          rw [List.getElem?_append_right (by rw [List.length_map, List.length_take]; omega), List.length_map, List.length_take, List.getElem?_drop, show j + (j - min j t.kids.length) = j by omega, hk1] at h1
          exact Option.some.inj h1
        have hnx := Hd.mk (turn_next hk1)
        obtain ⟨hd9, hs9⟩ := hkids.out j k hk1
        rw [← hxk] at hd9 hs9 hnx
        have hrx := Hd.mk (hrt.out x (List.mem_of_getElem? hx1))
        have hcx := rowI_cell hrow.out hx1
        simp only [cI] at hcx
        obtain ⟨e0, e1, e2, e3, e4, e5⟩ := six (Ext.refl wr) hcx
        have hlt0 : (j : Int) < (t.kids.length : Int) := by omega
        have hrec := Hd.mk (fun W (hx : Ext wr W) => (show Calls Try.prog 61 #[.agg (cI x).toArray] W (Ret fun w' v => ∃ c : List Value, v = .agg c.toArray ∧ RT (fun b => W.heap.size ≤ b) w' (sortT x.1) c ∧ Ext W w') from ih.out x.1 _ W _ hd9 hs9 (hrx.out.ext hx)))
        simp only [cI] at hrec
        have hgl := Hd.mk hrow.out.lt
        clear hcx hk1 hxk hd9 hs9 hx1
        replace hjl := Hd.mk hjl
        generalize sortT x.1 = y1 at *
        go_wp2_with fail
        have hxb := Hd.mk (Ext.alloc wr (.cells #[.string x.1.name, .string x.1.key, .int .i64 x.1.kind, .int .u64 x.1.num, .string x.1.text, .slice x.2.1 x.1.kids.length x.2.2] 54))
        have kB := Hd.mk (Blk.new wr #[.string x.1.name, .string x.1.key, .int .i64 x.1.kind, .int .u64 x.1.num, .string x.1.text, .slice x.2.1 x.1.kids.length x.2.2] 54)
        replace kA := Hd.mk (kA.out.ext hxb.out)
        replace kR := Hd.mk (kR.out.ext hxb.out)
        replace kx := Hd.mk (kx.out.trans hxb.out)
        replace hrow := Hd.mk (hrow.out.ext hxb.out)
        replace hrt := Hd.mk (fun z hz => (hrt.out z hz).ext hxb.out)
        replace hrec := Hd.mk (fun W (hx : Ext _ W) => hrec.out W (hxb.out.trans hx))
        replace hgl := Hd.mk (Nat.lt_of_lt_of_le hgl.out hxb.out.size)
        clear e0 e1 e2 e3 e4 e5 hxb hrx
        generalize wr.heap.size = pB at *
        generalize wr.alloc _ = V at *
        refine Flow.wp_region_flow_l (fun qq => match qq with
          | 15 => SP.eq (.pointer (some ⟨p, 5, none⟩))
          | 16 => SP.eq (.slice (some ⟨g, 0, none⟩) t.kids.length kc)
          | 17 => SP.eq (.int .i64 (j : Nat))
          | 18 => SP.eq (.agg #[.string x.1.name, .string x.1.key, .int .i64 x.1.kind, .int .u64 x.1.num, .string x.1.text, .slice x.2.1 x.1.kids.length x.2.2])
          | 19 => spT y1 V.heap.size
          | 20 => SP.eq (.pointer (some ⟨g, j * 6, none⟩))
          | _ => SP.any) 6 (by kernel_rfl) 26 rfl (by kernel_rfl) ?_ ?_
        · skip
          refine ⟨?_, ?_, ?_, ?_, ?_, ?_, trivial⟩
          · intro act W2 hk
            refine Flow.does_intro rfl (fun Kq hK => ?_)
            have e1 : act.tmps[1]?.getD undef = .pointer (some ⟨p, 0, none⟩) := hk.o 1 (by kernel_rfl)
            clear hk
            go_simp
            exact hK _ _ (Ext.refl _) (fun d hd => by cases hd; rfl)
          · intro act W2 hk
            refine Flow.does_intro rfl (fun Kq hK => ?_)
            have e15 : act.tmps[15]?.getD undef = .pointer (some ⟨p, 5, none⟩) := hk.v 15 (by kernel_rfl)
            have g := ((kA.out).ext ((Ext.drew V).trans hk.ext)).cell
            clear hk
            go_simp
            exact hK _ _ (Ext.refl _) (fun d hd => by cases hd; rfl)
          · intro act W2 hk
            refine Flow.does_intro rfl (fun Kq hK => ?_)
            have e3 : act.tmps[3]?.getD undef = .int .i64 (j : Nat) := hk.o 3 (by kernel_rfl)
            clear hk
            go_simp
            exact hK _ _ (Ext.refl _) (fun d hd => by cases hd; rfl)
          · intro act W2 hk
            refine Flow.does_intro rfl (fun Kq hK => ?_)
            have e4 : act.tmps[4]?.getD undef = .pointer (some ⟨pB, 0, none⟩) := hk.o 4 (by kernel_rfl)
            have g := ((kB.out).ext ((Ext.drew V).trans hk.ext)).cell
            clear hk
            go_simp
            exact hK _ _ (Ext.refl _) (fun d hd => by cases hd; rfl)
          · intro act W2 hk
            refine Flow.does_intro rfl (fun Kq hK => ?_)
            have e18 : act.tmps[18]?.getD undef = .agg #[.string x.1.name, .string x.1.key, .int .i64 x.1.kind, .int .u64 x.1.num, .string x.1.text, .slice x.2.1 x.1.kids.length x.2.2] := hk.v 18 (by kernel_rfl)
            have hx0 := Hd.mk ((Ext.drew V).trans hk.ext)
            have hsz0 := hx0.out.size
            clear hk
            go_simp
            refine Calls.mono (hrec.out _ hx0.out) ?_
            rintro e W3 ⟨_, rfl, c9, rfl, hr9, hx⟩
            exact hK _ _ hx (fun d hd => by cases hd; exact ⟨c9, rfl, hr9.mono (fun b _ hb => Nat.le_trans hsz0 hb)⟩)
          · intro act W2 hk
            refine Flow.does_intro rfl (fun Kq hK => ?_)
            have e16 : act.tmps[16]?.getD undef = .slice (some ⟨g, 0, none⟩) t.kids.length kc := hk.v 16 (by kernel_rfl)
            have e17 : act.tmps[17]?.getD undef = .int .i64 (j : Nat) := hk.v 17 (by kernel_rfl)
            have hlt2 := hlt0
            clear hk
            go_simp
            exact hK _ _ (Ext.refl _) (fun d hd => by cases hd; rfl)
        · intro act W2 he
          have hxW2 := Hd.mk ((Ext.drew V).trans he.ext)
          obtain ⟨us, hA, hF⟩ := he.out [15, 16, 17, 18, 19, 20] (by kernel_rfl)
          simp only [Flow.fillL, List.contains_cons, List.contains_nil, Nat.reduceBEq, Bool.or_false, Bool.false_or, Bool.or_true, Bool.true_or, ↓reduceIte, Nat.reduceAdd, Bool.false_eq_true] at hA
          subst hA
          have f19 : (spT y1 V.heap.size).p (us 19) W2 := hF 19 (by simp)
          have f20 : us 20 = .pointer (some ⟨g, j * 6, none⟩) := hF 20 (by simp)
          clear hF he
          rw [f20]
          clear f20
          obtain ⟨c9, ec, hr9⟩ := (f19 : (spT _ _).p _ _)
          generalize us 15 = u15 at *
          generalize us 16 = u16 at *
          generalize us 17 = u17 at *
          generalize us 18 = u18 at *
          generalize us 19 = u19 at *
          subst ec
          obtain ⟨K2, kc2, rfl, _⟩ := hr9.row
          replace hr9 := Hd.mk hr9
          replace hrow := Hd.mk (hrow.out.ext hxW2.out)
          replace kA := Hd.mk (kA.out.ext hxW2.out)
          replace kR := Hd.mk (kR.out.ext hxW2.out)
          replace kx := Hd.mk (kx.out.trans hxW2.out)
          replace hrt := Hd.mk (fun z hz => (hrt.out z hz).ext hxW2.out)
          obtain ⟨v0, v1, v2, v3, v4, v5, z0, z1, z2, z3, z4, z5⟩ := rowI_old hrow.out hjl.out
          have hfr := hrow.out.free
          have hst := Hd.mk (rowI_store hrow.out hjl.out (y1, K2, kc2))
          simp only [cT]
          refine (show wpList _ _ _ (⟨none, .store 54 (.tmp 20) (.tmp 19), _, _, _, none⟩ :: []) _ _ from ?_)
          clear hrec kB hxW2
          go_wp2_with fail
          go_roundg (t.kids.length + 1 - (j + 1))
          case measure => have := hq.out; omega
          case rel => exact ⟨j + 1, by omega, ⟨rfl⟩, by go_num, l.set j (y1, K2, kc2), ⟨by rw [map_set_fst, hI.out]; exact hnx.out⟩, ⟨hst.out.1⟩, ⟨fun z hz => by
            rcases List.mem_or_eq_of_mem_set hz with hz | hz
            · exact (hrt.out z hz).upd hst.out.2 (fun h => h.1 rfl)
            · subst hz; exact (hr9.out.mono (S' := fun b => b ≠ g ∧ p + 2 ≤ b) (fun b _ hb => by have := hgl.out; have := hgp.out; exact ⟨by omega, by omega⟩)).upd hst.out.2 (fun h => h.1 rfl)⟩, ⟨hst.out.2.blk (by have := hgp.out; omega) kA.out⟩, ⟨hst.out.2.blk (by have := hgp.out; omega) kR.out⟩, ⟨Below.trans kx.out (hst.out.2.below (by have := hgp.out; rw [hp.out]; omega))⟩⟩
      · have hjl : j = t.kids.length := by omega
        have hI2 := hI.out
        rw [hjl, List.take_length, List.drop_length, List.append_nil] at hI2
        have hge : ¬ (j : Int) < (t.kids.length : Int) := by omega
        have gA := kA.out.cell
        have hll2 := hll.out.symm
        have hc := Hd.mk (sort_func L hL H.out l sp g kc t.kids.length wr hrow.out hll2 hkc (by omega))
        clear hll2 hjl
        replace hI2 := Hd.mk hI2
        go_wp2_with fail
        refine Calls.mono hc.out ?_
        rintro e w3 ⟨rfl, hrow3, hgr3⟩
        have kA3 := Hd.mk (show Blk w3 p _ 54 from (hgr3.block p kA.out.lt (by have := hgp.out; intro h; injection h with h; omega)).trans kA.out)
        have kR3 := Hd.mk (show Blk w3 (p + 1) _ 54 from (hgr3.block (p + 1) kR.out.lt (by have := hgp.out; intro h; injection h with h; omega)).trans kR.out)
        have kx3 := Hd.mk (show Ext w w3 from Below.grown kx.out hgr3 (by have := kx.out.size; exact this) (fun k hk => by injection hk with hk; have := hgp.out; rw [hp.out]; omega))
        have hmem := fun x (hx : x ∈ isortG ltI l) => hrt.out x ((isortG_srt l).2.symm.mem hx)
        have hrt3 : ∀ x ∈ isortG ltI l, RT (fun b => b ≠ g ∧ p + 2 ≤ b) w3 x.1 (cI x) := fun x hx => (hmem x hx).keep (fun b off v hb hcell => ⟨hb, by rw [← hcell]; exact World.cell?_of_block (hgr3.block b (World.block_lt_of_cell? wr _ hcell) (fun h => hb.1 (by injection h with h)))⟩)
        have hlen3 : (isortG ltI l).length = t.kids.length := by rw [isortG_len, hll.out]
        have hkids3 := Hd.mk (show (isortG ltI l).map (·.1) = isortG lessT (t.kids.map sortT) by rw [← hI2.out]; exact isortG_map (lt := ltI) (lt' := lessT) (fun x y => rfl) l)
        have hrr := Hd.mk (rrow_of_items (S := fun b => p + 2 ≤ b) (kc := kc) hrow3 hgp.out (by rw [hlen3]; exact hkc) (by rw [hlen3]; exact hkb) (fun x hx => (hrt3 x hx).mono (fun b _ hb => hb.2)))
        have hX := Hd.mk (show sortT t = t.wk ((isortG ltI l).map (·.1)) by rw [sortT_isort, hkids3.out])
        have hXl := Hd.mk (show ((isortG ltI l).map (·.1)).length = t.kids.length by rw [List.length_map, hlen3])
        clear hrt3 hrow3 hkids3 hlen3
        generalize (isortG ltI l).map (·.1) = X at *
        have hfin : Hd (∀ W', RRow (fun b => w.heap.size ≤ b) W' (some ⟨g, 0, none⟩) X kc → RT (fun b => w.heap.size ≤ b) W' (sortT t) [.string t.name, .string t.key, .int .i64 t.kind, .int .u64 t.num, .string t.text, .slice (some ⟨g, 0, none⟩) t.kids.length kc]) := ⟨fun W' h => by
          rw [hX.out]
          have h9 := RT.of_row (t := t.wk X) h
          have e9 : (t.wk X).kids.length = t.kids.length := hXl.out
          rw [e9] at h9
          exact h9⟩
        clear hgr3 hc hrow hrt hmem kA kR kx gA hI hI2
        have gA := kA3.out.cell
        have gR := kR3.out.cell
        have fR := kR3.out.free
        go_wp2_with fail
        have hu := Hd.mk ((((((Upd.setCell w3 ⟨p + 1, 0, none⟩ (.string t.name)).trans (Upd.setCell _ ⟨p + 1, 1, none⟩ (.string t.key))).trans (Upd.setCell _ ⟨p + 1, 2, none⟩ (.int .i64 t.kind))).trans (Upd.setCell _ ⟨p + 1, 3, none⟩ (.int .u64 t.num))).trans (Upd.setCell _ ⟨p + 1, 4, none⟩ (.string t.text))).trans (Upd.setCell _ ⟨p + 1, 5, none⟩ (.slice (some ⟨g, 0, none⟩) t.kids.length kc)))
        exact ret_box rfl (p + 1) _ 54 _ ((((((kR3.out.setCell 0 (.string t.name)).setCell 1 (.string t.key)).setCell 2 (.int .i64 t.kind)).setCell 3 (.int .u64 t.num)).setCell 4 (.string t.text)).setCell 5 (.slice (some ⟨g, 0, none⟩) t.kids.length kc)) rfl rfl Try.underlying54 rfl size54
          ⟨_, rfl, _, rfl, by
            exact hfin.out _ (hrr.out.keep (S' := fun b => w.heap.size ≤ b) (fun b off v hb hc => ⟨by have := hb; rw [hp.out]; omega, by rw [← hc]; exact World.cell?_of_block (hu.out.block b (by show b ≠ p + 1; omega))⟩)), Below.trans kx3.out (hu.out.below (by rw [hp.out]; show p ≤ p + 1; omega))⟩
end Go.Proofs.Ytgkgedjmnbjalaa
set_option linter.unusedSimpArgs false
namespace Go.Proofs.Ytgkgedjmnbjalaa
open Go.RowKit Go.Sort
set_option maxRecDepth 100000 in
set_option maxHeartbeats 2000000 in
theorem ref_cut : ∀ (way : List Step) (t : T) (S S' : Nat → Prop) (w : World) (c : List Value) (A : Option Addr) (ac : Nat), way ≠ [] → (getT t way).isSome = true → RT S w t c → WRow S' w A way ac → t.size ≤ 1048576 →
    Calls Try.prog 126 #[.agg c.toArray, .slice A way.length ac] w (Ret (TPost S (cutT t way) w))
  | [], t, S, S', w, c, A, ac, hne, _, _, _, _ => absurd rfl hne
  | [s], t, S, S', w, c, A, ac, _, hsome, h, hw, hsz => by
    obtain ⟨K, kc, rfl, hrow⟩ := h.row
    have hwc := hw.cap
    obtain ⟨b2, o2, rfl, _, hdk⟩ := WRow.at hw (j := 0) (x := s) rfl
    have hfd := Hd.mk (fun W (hx : Ext w W) => ref_find t s _ W _ (h.ext hx))
    have kr := Hd.mk (h.mono (S' := fun b => S b ∧ b < w.heap.size) (fun b hb hs => ⟨hs, hb⟩))
    have hrow := Hd.mk (hrow.mono' (S' := fun b => S b ∧ b < w.heap.size) (fun b hb hs => ⟨hs, hb⟩))
    have hkl := kids_lt t
    have hkb : t.kids.length + 1 ≤ 1048576 := by omega
    have hn := hrow.out.len
    obtain ⟨k, hk0⟩ : ∃ k, kid t.kids s = some k := by
      rw [getT_one] at hsome
      cases hk : kid t.kids s with
      | none => rw [hk] at hsome; cases hsome
      | some k => exact ⟨k, rfl⟩
    have hg : cutT t [s] = t.wk (cutL t.kids s) := rfl
    rw [hg]
    clear h hw hsz hkl hg hsome
    simp only [List.length_cons, List.length_nil, Nat.zero_add] at hwc ⊢
    simp only [cT] at kr hfd ⊢
    obtain ⟨s1, s2⟩ := s
    generalize hro : t.wk (cutL t.kids (s1, s2)) = ro
    replace hro := Hd.mk hro
    go_enter Try.func126, Try.ntmps126
    go_wp2_with fail
    have kx := Hd.mk ((Ext.alloc w (.cells #[.string t.name, .string t.key, .int .i64 t.kind, .int .u64 t.num, .string t.text, .slice K t.kids.length kc] 54)).trans (Ext.alloc _ (.cells #[.string ⟨#[]⟩, .string ⟨#[]⟩, .int .i64 0, .int .u64 0, .string ⟨#[]⟩, .slice none 0 0] 54)))
    have kA := Hd.mk ((Blk.new w #[.string t.name, .string t.key, .int .i64 t.kind, .int .u64 t.num, .string t.text, .slice K t.kids.length kc] 54).alloc (.cells #[.string ⟨#[]⟩, .string ⟨#[]⟩, .int .i64 0, .int .u64 0, .string ⟨#[]⟩, .slice none 0 0] 54))
    have kR := Hd.mk (Blk.new2 w (.cells #[.string t.name, .string t.key, .int .i64 t.kind, .int .u64 t.num, .string t.text, .slice K t.kids.length kc] 54) #[.string ⟨#[]⟩, .string ⟨#[]⟩, .int .i64 0, .int .u64 0, .string ⟨#[]⟩, .slice none 0 0] 54)
    generalize (w.alloc _).alloc _ = W at *
    generalize hp : w.heap.size = p at *
    replace hp := Hd.mk hp
    have kcy := Hd.mk (fun (q : Nat) u hq => Ext.cell kx.out (hdk q u hq))
    refine Flow.wp_region_flow_l (fun qq => match qq with
      | 6 => SP.eq (.agg #[.string t.name, .string t.key, .int .i64 t.kind, .int .u64 t.num, .string t.text, .slice K t.kids.length kc])
      | 7 => SP.eq (.slice (some ⟨b2, o2, none⟩) 1 ac)
      | 8 => SP.eq (.pointer (some ⟨b2, o2 + 0 * 2, none⟩))
      | 9 => SP.eq (.agg #[.string s1, .string s2])
      | 10 => SP.eq (.int .i64 (findT t.kids (s1, s2)))
      | 5 => SP.eq (.int .i64 (findT t.kids (s1, s2)))
      | _ => SP.any) 6 (by kernel_rfl) 29 rfl (by kernel_rfl) ?_ ?_
    · skip
      refine ⟨?_, ?_, ?_, ?_, ?_, ?_, trivial⟩
      · intro act W2 hk
        refine Flow.does_intro rfl (fun Kq hK => ?_)
        have e2 : act.tmps[2]?.getD undef = .pointer (some ⟨p, 0, none⟩) := hk.o 2 (by kernel_rfl)
        have g := ((kA.out).ext ((Ext.drew W).trans hk.ext)).cell
        clear hk
        go_simp
        exact hK _ _ (Ext.refl _) (fun d hd => by cases hd; rfl)
      · intro act W2 hk
        refine Flow.does_intro rfl (fun Kq hK => ?_)
        have e1 : act.tmps[1]?.getD undef = .slice (some ⟨b2, o2, none⟩) 1 ac := hk.o 1 (by kernel_rfl)
        clear hk
        go_simp
        exact hK _ _ (Ext.refl _) (fun d hd => by cases hd; rfl)
      · intro act W2 hk
        refine Flow.does_intro rfl (fun Kq hK => ?_)
        have e7 : act.tmps[7]?.getD undef = .slice (some ⟨b2, o2, none⟩) 1 ac := hk.v 7 (by kernel_rfl)
        clear hk
        go_simp
        exact hK _ _ (Ext.refl _) (fun d hd => by cases hd; simp [SP.eq])
      · intro act W2 hk
        refine Flow.does_intro rfl (fun Kq hK => ?_)
        have e8 : act.tmps[8]?.getD undef = .pointer (some ⟨b2, o2 + 0 * 2, none⟩) := hk.v 8 (by kernel_rfl)
        have g0 := Ext.cell ((Ext.drew W).trans hk.ext) ((kcy.out) 0 _ rfl)
        rw [Nat.add_zero] at g0
        have g1 := Ext.cell ((Ext.drew W).trans hk.ext) ((kcy.out) 1 _ rfl)
        clear hk
        go_simp
        exact hK _ _ (Ext.refl _) (fun d hd => by cases hd; rfl)
      · intro act W2 hk
        refine Flow.does_intro rfl (fun Kq hK => ?_)
        have e6 : act.tmps[6]?.getD undef = .agg #[.string t.name, .string t.key, .int .i64 t.kind, .int .u64 t.num, .string t.text, .slice K t.kids.length kc] := hk.v 6 (by kernel_rfl)
        have e9 : act.tmps[9]?.getD undef = .agg #[.string s1, .string s2] := hk.v 9 (by kernel_rfl)
        have hx0 := Hd.mk ((Ext.drew W).trans hk.ext)
        clear hk
        go_simp
        refine Calls.mono (hfd.out _ (kx.out.trans hx0.out)) ?_
        rintro e W3 ⟨rfl, hx⟩
        exact hK _ _ hx (fun d hd => by cases hd; rfl)
      · intro act W2 hk
        refine Flow.does_intro rfl (fun Kq hK => ?_)
        have e10 : act.tmps[10]?.getD undef = .int .i64 (findT t.kids (s1, s2)) := hk.v 10 (by kernel_rfl)
        clear hk
        go_simp
        exact hK _ _ (Ext.refl _) (fun d hd => by cases hd; rfl)
    · intro act V he
      have hxV := Hd.mk ((Ext.drew W).trans he.ext)
      obtain ⟨us, hA, hF⟩ := he.out [6, 7, 8, 9, 10, 5] (by kernel_rfl)
      simp only [Flow.fillL, List.contains_cons, List.contains_nil, Nat.reduceBEq, Bool.or_false, Bool.false_or, Bool.or_true, Bool.true_or, ↓reduceIte, Nat.reduceAdd, Bool.false_eq_true] at hA
      subst hA
      have f5 : us 5 = .int .i64 (findT t.kids (s1, s2)) := hF 5 (by simp)
      clear hF he
      rw [f5]
      clear f5
      refine (show wpList _ _ _ [] _ _ from ?_)
      replace kx := Hd.mk (kx.out.trans hxV.out)
      replace kA := Hd.mk (kA.out.ext hxV.out)
      replace kR := Hd.mk (kR.out.ext hxV.out)
      clear hxV hfd kcy
      rcases findT_kid t.kids (s1, s2) with ⟨hf, hk⟩ | ⟨i, k2, hf, hi, hk, _, hcl⟩
      · rw [hk] at hk0; cases hk0
      · rw [hf]
        have hil := (List.getElem?_eq_some_iff.1 hi).1
        have hcw := ref_with t [] (fun b => (S b ∧ b < p) ∨ V.heap.size ≤ b) V _ none 0 i 1 ((kr.out.mono (fun _ _ h => .inl h)).ext kx.out) (RRow.nil _ _ _ _ (fun _ => rfl)) (by omega) (by simpa using hn)
        rw [show t.wk (t.kids.take i ++ [] ++ t.kids.drop (i + 1)) = ro by rw [← hro.out, hcl, List.eraseIdx_eq_take_drop_succ, List.append_nil]] at hcw
        replace hcw := Hd.mk hcw
        clear hf hk hi hcl hk0
        have gA := kA.out.cell
        go_wp2_with fail
        clear gA
        have hVs := Hd.mk kR.out.lt
        refine Calls.mono hcw.out ?_
        rintro e w9 ⟨_, rfl, c9, rfl, hr9, hx9⟩
        obtain ⟨Km, km, rfl, _⟩ := hr9.row
        have hr9 := Hd.mk hr9
        simp only [cT] at hr9 ⊢
        replace kx := Hd.mk (kx.out.trans hx9)
        replace kR := Hd.mk (kR.out.ext hx9)
        clear hx9 hcw
        have gR := kR.out.cell
        have fR := kR.out.free
        go_wp2_with fail
        have hu := Hd.mk ((((((Upd.setCell w9 ⟨p + 1, 0, none⟩ (.string ro.name)).trans (Upd.setCell _ ⟨p + 1, 1, none⟩ (.string ro.key))).trans (Upd.setCell _ ⟨p + 1, 2, none⟩ (.int .i64 ro.kind))).trans (Upd.setCell _ ⟨p + 1, 3, none⟩ (.int .u64 ro.num))).trans (Upd.setCell _ ⟨p + 1, 4, none⟩ (.string ro.text))).trans (Upd.setCell _ ⟨p + 1, 5, none⟩ (.slice Km ro.kids.length km)))
        exact ret_box rfl (p + 1) _ 54 _ ((((((kR.out.setCell 0 (.string ro.name)).setCell 1 (.string ro.key)).setCell 2 (.int .i64 ro.kind)).setCell 3 (.int .u64 ro.num)).setCell 4 (.string ro.text)).setCell 5 (.slice Km ro.kids.length km)) rfl rfl Try.underlying54 rfl size54
          ⟨_, rfl, _, rfl, RT.keep (S' := fun b => S b ∨ w.heap.size ≤ b) (fun b off v hb hc => ⟨by have := hp.out; have := hVs.out; rcases hb with (⟨h1, _⟩ | h) | h; exact .inl h1; all_goals exact .inr (by omega), by rw [← hc]; exact World.cell?_of_block (hu.out.block b (by have := hVs.out; show b ≠ p + 1; rcases hb with (⟨_, h⟩ | h) | h <;> omega))⟩) hr9.out, Below.trans kx.out (hu.out.below (by rw [hp.out]; show p ≤ p + 1; omega))⟩
  | s :: q :: r, t, S, S', w, c, A, ac, _, hsome, h, hw, hsz => by
    obtain ⟨K, kc, rfl, hrow⟩ := h.row
    have hwc := hw.cap
    obtain ⟨b2, o2, rfl, _, hdk⟩ := WRow.at hw (j := 0) (x := s) rfl
    have hfd := Hd.mk (fun W (hx : Ext w W) => ref_find t s _ W _ (h.ext hx))
    have kr := Hd.mk (h.mono (S' := fun b => S b ∧ b < w.heap.size) (fun b hb hs => ⟨hs, hb⟩))
    have hrow := Hd.mk (hrow.mono' (S' := fun b => S b ∧ b < w.heap.size) (fun b hb hs => ⟨hs, hb⟩))
    have hkl := kids_lt t
    have hkb : t.kids.length + 1 ≤ 1048576 := by omega
    have hn := hrow.out.len
    obtain ⟨k, hk0, hgk⟩ : ∃ k, kid t.kids s = some k ∧ (getT k (q :: r)).isSome = true := by
      rw [getT_cons] at hsome
      cases hk : kid t.kids s with
      | none => rw [hk] at hsome; cases hsome
      | some k => rw [hk] at hsome; exact ⟨k, rfl, hsome⟩
    have hg : cutT t (s :: q :: r) = t.wk (repL t.kids s (cutT k (q :: r))) := by simp only [cutT, hk0]
    have hks := kidn_size hk0
    have ih := Hd.mk (fun (Sx : Nat → Prop) W c1 A1 a1 (g1 : RT Sx W k c1) (g3 : WRow S' W A1 (q :: r) a1) => ref_cut (q :: r) k Sx S' W c1 A1 a1 (by simp) hgk g1 g3 (by omega))
    have kwt := Hd.mk hw.tail'
    rw [hg]
    clear h hw hsz hkl hg hgk hsome hks
    simp only [List.length_cons] at hwc ⊢
    simp only [cT] at kr hfd ⊢
    obtain ⟨s1, s2⟩ := s
    generalize hro : t.wk (repL t.kids (s1, s2) (cutT k (q :: r))) = ro
    generalize hL : r.length = L at *
    replace hL := Hd.mk hL
    replace hro := Hd.mk hro
    go_enter Try.func126, Try.ntmps126
    go_wp2_with fail
    have kx := Hd.mk ((Ext.alloc w (.cells #[.string t.name, .string t.key, .int .i64 t.kind, .int .u64 t.num, .string t.text, .slice K t.kids.length kc] 54)).trans (Ext.alloc _ (.cells #[.string ⟨#[]⟩, .string ⟨#[]⟩, .int .i64 0, .int .u64 0, .string ⟨#[]⟩, .slice none 0 0] 54)))
    have kA := Hd.mk ((Blk.new w #[.string t.name, .string t.key, .int .i64 t.kind, .int .u64 t.num, .string t.text, .slice K t.kids.length kc] 54).alloc (.cells #[.string ⟨#[]⟩, .string ⟨#[]⟩, .int .i64 0, .int .u64 0, .string ⟨#[]⟩, .slice none 0 0] 54))
    have kR := Hd.mk (Blk.new2 w (.cells #[.string t.name, .string t.key, .int .i64 t.kind, .int .u64 t.num, .string t.text, .slice K t.kids.length kc] 54) #[.string ⟨#[]⟩, .string ⟨#[]⟩, .int .i64 0, .int .u64 0, .string ⟨#[]⟩, .slice none 0 0] 54)
    generalize (w.alloc _).alloc _ = W at *
    generalize hp : w.heap.size = p at *
    replace hp := Hd.mk hp
    have kcy := Hd.mk (fun (q : Nat) u hq => Ext.cell kx.out (hdk q u hq))
    have hL0 : (0 : Int) < (L : Int) + 1 + 1 := by omega
    have hL1 : (1 : Int) ≤ (L : Int) + 1 + 1 := by omega
    have hL2 : ¬ ((L : Int) + 1 + 1 = 1) := by omega
    have hL3 : ((L : Int) + 1 + 1 == 1) = false := by rw [beq_eq_false_iff_ne]; omega
    refine Flow.wp_region_flow_l (fun qq => match qq with
      | 6 => SP.eq (.agg #[.string t.name, .string t.key, .int .i64 t.kind, .int .u64 t.num, .string t.text, .slice K t.kids.length kc])
      | 7 => SP.eq (.slice (some ⟨b2, o2, none⟩) (L + 1 + 1) ac)
      | 8 => SP.eq (.pointer (some ⟨b2, o2 + 0 * 2, none⟩))
      | 9 => SP.eq (.agg #[.string s1, .string s2])
      | 10 => SP.eq (.int .i64 (findT t.kids (s1, s2)))
      | 5 => SP.eq (.int .i64 (findT t.kids (s1, s2)))
      | _ => SP.any) 6 (by kernel_rfl) 29 rfl (by kernel_rfl) ?_ ?_
    · skip
      refine ⟨?_, ?_, ?_, ?_, ?_, ?_, trivial⟩
      · intro act W2 hk
        refine Flow.does_intro rfl (fun Kq hK => ?_)
        have e2 : act.tmps[2]?.getD undef = .pointer (some ⟨p, 0, none⟩) := hk.o 2 (by kernel_rfl)
        have g := ((kA.out).ext ((Ext.drew W).trans hk.ext)).cell
        clear hk
        go_simp
        exact hK _ _ (Ext.refl _) (fun d hd => by cases hd; rfl)
      · intro act W2 hk
        refine Flow.does_intro rfl (fun Kq hK => ?_)
        have e1 : act.tmps[1]?.getD undef = .slice (some ⟨b2, o2, none⟩) (L + 1 + 1) ac := hk.o 1 (by kernel_rfl)
        clear hk
        go_simp
        exact hK _ _ (Ext.refl _) (fun d hd => by cases hd; rfl)
      · intro act W2 hk
        refine Flow.does_intro rfl (fun Kq hK => ?_)
        have e7 : act.tmps[7]?.getD undef = .slice (some ⟨b2, o2, none⟩) (L + 1 + 1) ac := hk.v 7 (by kernel_rfl)
        clear hk
        go_simp
        exact hK _ _ (Ext.refl _) (fun d hd => by cases hd; simp [SP.eq])
      · intro act W2 hk
        refine Flow.does_intro rfl (fun Kq hK => ?_)
        have e8 : act.tmps[8]?.getD undef = .pointer (some ⟨b2, o2 + 0 * 2, none⟩) := hk.v 8 (by kernel_rfl)
        have g0 := Ext.cell ((Ext.drew W).trans hk.ext) ((kcy.out) 0 _ rfl)
        rw [Nat.add_zero] at g0
        have g1 := Ext.cell ((Ext.drew W).trans hk.ext) ((kcy.out) 1 _ rfl)
        clear hk
        go_simp
        exact hK _ _ (Ext.refl _) (fun d hd => by cases hd; rfl)
      · intro act W2 hk
        refine Flow.does_intro rfl (fun Kq hK => ?_)
        have e6 : act.tmps[6]?.getD undef = .agg #[.string t.name, .string t.key, .int .i64 t.kind, .int .u64 t.num, .string t.text, .slice K t.kids.length kc] := hk.v 6 (by kernel_rfl)
        have e9 : act.tmps[9]?.getD undef = .agg #[.string s1, .string s2] := hk.v 9 (by kernel_rfl)
        have hx0 := Hd.mk ((Ext.drew W).trans hk.ext)
        clear hk
        go_simp
        refine Calls.mono (hfd.out _ (kx.out.trans hx0.out)) ?_
        rintro e W3 ⟨rfl, hx⟩
        exact hK _ _ hx (fun d hd => by cases hd; rfl)
      · intro act W2 hk
        refine Flow.does_intro rfl (fun Kq hK => ?_)
        have e10 : act.tmps[10]?.getD undef = .int .i64 (findT t.kids (s1, s2)) := hk.v 10 (by kernel_rfl)
        clear hk
        go_simp
        exact hK _ _ (Ext.refl _) (fun d hd => by cases hd; rfl)
    · intro act V he
      have hxV := Hd.mk ((Ext.drew W).trans he.ext)
      obtain ⟨us, hA, hF⟩ := he.out [6, 7, 8, 9, 10, 5] (by kernel_rfl)
      simp only [Flow.fillL, List.contains_cons, List.contains_nil, Nat.reduceBEq, Bool.or_false, Bool.false_or, Bool.or_true, Bool.true_or, ↓reduceIte, Nat.reduceAdd, Bool.false_eq_true] at hA
      subst hA
      have f5 : us 5 = .int .i64 (findT t.kids (s1, s2)) := hF 5 (by simp)
      clear hF he
      rw [f5]
      clear f5
      refine (show wpList _ _ _ [] _ _ from ?_)
      replace kx := Hd.mk (kx.out.trans hxV.out)
      replace kA := Hd.mk (kA.out.ext hxV.out)
      replace kR := Hd.mk (kR.out.ext hxV.out)
      clear hxV hfd kcy
      rcases findT_kid t.kids (s1, s2) with ⟨hf, hk⟩ | ⟨i, k2, hf, hi, hk, hrep, _⟩
      · rw [hk] at hk0; cases hk0
      · rw [hk] at hk0
        obtain rfl : k2 = k := by cases hk0; rfl
        rw [hf]
        obtain ⟨b1, o1, ck, rfl, _, hrk, hck⟩ := hrow.out.kid i k2 hi
        have hil := (List.getElem?_eq_some_iff.1 hi).1
        have hro2 : t.wk (t.kids.take i ++ [cutT k2 (q :: r)] ++ t.kids.drop (i + 1)) = ro := by rw [← hro.out, hrep, set_take hil]
        replace hro2 := Hd.mk hro2
        obtain ⟨K9, c9, rfl, _⟩ := hrk.row
        have hrec := Hd.mk (fun W (h : Ext V W) => ih.out (fun b => S b ∧ b < p) W _ _ _ (hrk.ext (kx.out.trans h)) (kwt.out.ext (kx.out.trans h)))
        have kck := Hd.mk (fun (q : Nat) u hq => Ext.cell kx.out (hck q u hq))
        simp only [cT, List.length_cons] at hrec kck
        rw [hL.out] at hrec
        generalize cutT k2 (q :: r) = k1 at *
        clear hf hk hi hrep hk0 ih kwt hrk hck
        go_wp2_with fail
        refine Flow.wp_region_flow_l (fun qq => match qq with
          | 17 => SP.eq (.agg #[.string t.name, .string t.key, .int .i64 t.kind, .int .u64 t.num, .string t.text, .slice (some ⟨b1, o1, none⟩) t.kids.length kc])
          | 18 => SP.eq (.int .i64 (i : Nat))
          | 19 => SP.eq (.pointer (some ⟨p, 5, none⟩))
          | 20 => SP.eq (.slice (some ⟨b1, o1, none⟩) t.kids.length kc)
          | 21 => SP.eq (.int .i64 (i : Nat))
          | 22 => SP.eq (.pointer (some ⟨b1, o1 + i * 6, none⟩))
          | 23 => SP.eq (.agg #[.string k2.name, .string k2.key, .int .i64 k2.kind, .int .u64 k2.num, .string k2.text, .slice K9 k2.kids.length c9])
          | 24 => SP.eq (.slice (some ⟨b2, o2, none⟩) (L + 1 + 1) ac)
          | 25 => SP.eq (.slice (if ac = 1 then some ⟨b2, o2, none⟩ else some ⟨b2, o2 + 2, none⟩) (L + 1) (ac - 1))
          | 26 => spTS (fun b => (S b ∧ b < p) ∨ V.heap.size ≤ b) k1
          | 27 => spTRow (fun b => (S b ∧ b < p) ∨ V.heap.size ≤ b) k1 V.heap.size
          | 28 => spTS (fun b => (S b ∧ b < p) ∨ V.heap.size ≤ b) ro
          | _ => SP.any) 12 (by kernel_rfl) 29 rfl (by kernel_rfl) ?_ ?_
        · skip
          refine ⟨?_, ?_, ?_, ?_, ?_, ?_, ?_, ?_, ?_, ?_, ?_, ?_, trivial⟩
          · intro act W2 hk
            refine Flow.does_intro rfl (fun Kq hK => ?_)
            have e2 : act.tmps[2]?.getD undef = .pointer (some ⟨p, 0, none⟩) := hk.o 2 (by kernel_rfl)
            have g := ((kA.out).ext ((Ext.drew V).trans hk.ext)).cell
            clear hk
            go_simp
            exact hK _ _ (Ext.refl _) (fun d hd => by cases hd; rfl)
          · intro act W2 hk
            refine Flow.does_intro rfl (fun Kq hK => ?_)
            have e5 : act.tmps[5]?.getD undef = .int .i64 (i : Nat) := hk.o 5 (by kernel_rfl)
            clear hk
            go_simp
            exact hK _ _ (Ext.refl _) (fun d hd => by cases hd; rfl)
          · intro act W2 hk
            refine Flow.does_intro rfl (fun Kq hK => ?_)
            have e2 : act.tmps[2]?.getD undef = .pointer (some ⟨p, 0, none⟩) := hk.o 2 (by kernel_rfl)
            clear hk
            go_simp
            exact hK _ _ (Ext.refl _) (fun d hd => by cases hd; rfl)
          · intro act W2 hk
            refine Flow.does_intro rfl (fun Kq hK => ?_)
            have e19 : act.tmps[19]?.getD undef = .pointer (some ⟨p, 5, none⟩) := hk.v 19 (by kernel_rfl)
            have g := ((kA.out).ext ((Ext.drew V).trans hk.ext)).cell
            clear hk
            go_simp
            exact hK _ _ (Ext.refl _) (fun d hd => by cases hd; rfl)
          · intro act W2 hk
            refine Flow.does_intro rfl (fun Kq hK => ?_)
            have e5 : act.tmps[5]?.getD undef = .int .i64 (i : Nat) := hk.o 5 (by kernel_rfl)
            clear hk
            go_simp
            exact hK _ _ (Ext.refl _) (fun d hd => by cases hd; rfl)
          · intro act W2 hk
            refine Flow.does_intro rfl (fun Kq hK => ?_)
            have e20 : act.tmps[20]?.getD undef = .slice (some ⟨b1, o1, none⟩) t.kids.length kc := hk.v 20 (by kernel_rfl)
            have e21 : act.tmps[21]?.getD undef = .int .i64 (i : Nat) := hk.v 21 (by kernel_rfl)
            clear hk
            go_simp
            exact hK _ _ (Ext.refl _) (fun d hd => by cases hd; rfl)
          · intro act W2 hk
            refine Flow.does_intro rfl (fun Kq hK => ?_)
            have e22 : act.tmps[22]?.getD undef = .pointer (some ⟨b1, o1 + i * 6, none⟩) := hk.v 22 (by kernel_rfl)
            have g0 := Ext.cell ((Ext.drew V).trans hk.ext) ((kck.out) 0 _ rfl)
            rw [Nat.add_zero] at g0
            have g1 := Ext.cell ((Ext.drew V).trans hk.ext) ((kck.out) 1 _ rfl)
            have g2 := Ext.cell ((Ext.drew V).trans hk.ext) ((kck.out) 2 _ rfl)
            have g3 := Ext.cell ((Ext.drew V).trans hk.ext) ((kck.out) 3 _ rfl)
            have g4 := Ext.cell ((Ext.drew V).trans hk.ext) ((kck.out) 4 _ rfl)
            have g5 := Ext.cell ((Ext.drew V).trans hk.ext) ((kck.out) 5 _ rfl)
            clear hk
            go_simp
            exact hK _ _ (Ext.refl _) (fun d hd => by cases hd; rfl)
          · intro act W2 hk
            refine Flow.does_intro rfl (fun Kq hK => ?_)
            have e1 : act.tmps[1]?.getD undef = .slice (some ⟨b2, o2, none⟩) (L + 1 + 1) ac := hk.o 1 (by kernel_rfl)
            clear hk
            go_simp
            exact hK _ _ (Ext.refl _) (fun d hd => by cases hd; rfl)
          · intro act W2 hk
            refine Flow.does_intro rfl (fun Kq hK => ?_)
            have e24 : act.tmps[24]?.getD undef = .slice (some ⟨b2, o2, none⟩) (L + 1 + 1) ac := hk.v 24 (by kernel_rfl)
            clear hk
            go_simp
            exact hK _ _ (Ext.refl _) (fun d hd => by cases hd; simp [SP.eq])
          · intro act W2 hk
            refine Flow.does_intro rfl (fun Kq hK => ?_)
            have e23 : act.tmps[23]?.getD undef = .agg #[.string k2.name, .string k2.key, .int .i64 k2.kind, .int .u64 k2.num, .string k2.text, .slice K9 k2.kids.length c9] := hk.v 23 (by kernel_rfl)
            have e25 : act.tmps[25]?.getD undef = .slice (if ac = 1 then some ⟨b2, o2, none⟩ else some ⟨b2, o2 + 2, none⟩) (L + 1) (ac - 1) := hk.v 25 (by kernel_rfl)
            have hx0 := Hd.mk ((Ext.drew V).trans hk.ext)
            clear hk
            go_simp
            refine Calls.mono (hrec.out _ hx0.out) ?_
            rintro e W3 ⟨_, rfl, c8, rfl, hr8, hx⟩
            exact hK _ _ hx (fun d hd => by cases hd; exact ⟨c8, rfl, hr8.mono (fun b _ hb => by rcases hb with h | h; exact .inl h; exact .inr (Nat.le_trans hx0.out.size h))⟩)
          · intro act W2 hk
            refine Flow.does_intro rfl (fun Kq hK => ?_)
            obtain ⟨c8, e26, hr8⟩ := (hk.v 26 (by kernel_rfl) : (spTS _ _).p _ _)
            obtain ⟨Kq1, kq1, rfl, _⟩ := hr8.row
            simp only [cT] at e26 hr8
            have hr8 := Hd.mk hr8
            have hx0 := Hd.mk ((Ext.drew V).trans hk.ext)
            clear hk
            go_simp
            exact hK _ _ (Ext.alloc _ _) (fun d hd => by cases hd; exact ⟨_, _, rfl, hx0.out.size, Blk.new _ _ _, hr8.out.ext (Ext.alloc _ _)⟩)
          · intro act W2 hk
            refine Flow.does_intro rfl (fun Kq hK => ?_)
            have e17 : act.tmps[17]?.getD undef = .agg #[.string t.name, .string t.key, .int .i64 t.kind, .int .u64 t.num, .string t.text, .slice (some ⟨b1, o1, none⟩) t.kids.length kc] := hk.v 17 (by kernel_rfl)
            have e18 : act.tmps[18]?.getD undef = .int .i64 (i : Nat) := hk.v 18 (by kernel_rfl)
            obtain ⟨D, c8, e27, hD, hbD, hr8⟩ := (hk.v 27 (by kernel_rfl) : (spTRow _ _ _).p _ _)
            have hx0 := Hd.mk ((Ext.drew V).trans hk.ext)
            have hcw := ref_with t [k1] (fun b => (S b ∧ b < p) ∨ V.heap.size ≤ b) W2 _ (some ⟨D, 0, none⟩) 1 i 1 ((kr.out.mono (fun _ _ h => .inl h)).ext (kx.out.trans hx0.out)) (rrow_one hbD hr8 (.inr hD)) (by omega) (by simpa using hkb)
            rw [hro2.out] at hcw
            have hcw := Hd.mk hcw
            clear hk
            go_simp
            refine Calls.mono (hcw.out) ?_
            rintro e W3 ⟨_, rfl, c9, rfl, hr9, hx⟩
            exact hK _ _ hx (fun d hd => by cases hd; exact ⟨c9, rfl, hr9.mono (fun b _ hb => by rcases hb with h | h; exact h; exact .inr (Nat.le_trans hx0.out.size h))⟩)
        · intro act V2 he
          have hxV2 := Hd.mk ((Ext.drew V).trans he.ext)
          obtain ⟨us, hA, hF⟩ := he.out [17, 18, 19, 20, 21, 22, 23, 24, 25, 26, 27, 28] (by kernel_rfl)
          simp only [Flow.fillL, List.contains_cons, List.contains_nil, Nat.reduceBEq, Bool.or_false, Bool.false_or, Bool.or_true, Bool.true_or, ↓reduceIte, Nat.reduceAdd, Bool.false_eq_true] at hA
          subst hA
          have f28 : (spTS (fun b => (S b ∧ b < p) ∨ V.heap.size ≤ b) ro).p (us 28) V2 := hF 28 (by simp)
          clear hF he
          obtain ⟨c9, e9, hr9⟩ := (f28 : (spTS _ _).p _ _)
          obtain ⟨Km, km, rfl, _⟩ := hr9.row
          rw [e9]
          clear e9
          have hr9 := Hd.mk hr9
          simp only [cT] at hr9 ⊢
          have hVs := Hd.mk kR.out.lt
          replace kx := Hd.mk (kx.out.trans hxV2.out)
          replace kR := Hd.mk (kR.out.ext hxV2.out)
          clear hxV2
          have gR := kR.out.cell
          have fR := kR.out.free
          refine (show wpList _ _ _ (⟨none, .store 54 (.tmp 4) (.tmp 28), _, _, _, none⟩ :: _) _ _ from ?_)
          go_wp2_with fail
          have hu := Hd.mk ((((((Upd.setCell V2 ⟨p + 1, 0, none⟩ (.string ro.name)).trans (Upd.setCell _ ⟨p + 1, 1, none⟩ (.string ro.key))).trans (Upd.setCell _ ⟨p + 1, 2, none⟩ (.int .i64 ro.kind))).trans (Upd.setCell _ ⟨p + 1, 3, none⟩ (.int .u64 ro.num))).trans (Upd.setCell _ ⟨p + 1, 4, none⟩ (.string ro.text))).trans (Upd.setCell _ ⟨p + 1, 5, none⟩ (.slice Km ro.kids.length km)))
          exact ret_box rfl (p + 1) _ 54 _ ((((((kR.out.setCell 0 (.string ro.name)).setCell 1 (.string ro.key)).setCell 2 (.int .i64 ro.kind)).setCell 3 (.int .u64 ro.num)).setCell 4 (.string ro.text)).setCell 5 (.slice Km ro.kids.length km)) rfl rfl Try.underlying54 rfl size54
            ⟨_, rfl, _, rfl, RT.keep (S' := fun b => S b ∨ w.heap.size ≤ b) (fun b off v hb hc => ⟨by have := hp.out; have := hVs.out; rcases hb with ⟨h1, _⟩ | h; exact .inl h1; exact .inr (by omega), by rw [← hc]; exact World.cell?_of_block (hu.out.block b (by have := hVs.out; show b ≠ p + 1; rcases hb with ⟨_, h⟩ | h <;> omega))⟩) hr9.out, Below.trans kx.out (hu.out.below (by rw [hp.out]; show p ≤ p + 1; omega))⟩
end Go.Proofs.Ytgkgedjmnbjalaa
