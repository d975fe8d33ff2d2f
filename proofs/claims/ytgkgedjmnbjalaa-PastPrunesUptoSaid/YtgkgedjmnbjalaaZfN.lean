/- Texts that the law needs, joined.
   Conditions: none. -/
import Derived.Test.YtgkgedjmnbjalaaZfM
import Derived.Test.YtgkgedjmnbjalaaZfK
import Derived.Test.YtgkgedjmnbjalaaZfF
import Derived.Test.YtgkgedjmnbjalaaZfE
import Derived.Laws.Cover1
import Derived.Test.YtgkgedjmnbjalaaZfH
import Derived.Test.YtgkgedjmnbjalaaZfD
import Derived.Test.YtgkgedjmnbjalaaZfC
set_option linter.unusedSimpArgs false
set_option linter.unusedVariables false
namespace Go.Proofs.Ytgkgedjmnbjalaa
open Go.RowKit Go.Sort
theorem I28.out {w W W' : World} {G G' D : Nat → Prop} {p pN : Nat} {V : Value} {lp : List Pe} {ts : List T} {now : T} {Kn : Option Addr} {kn : Nat} (h : I28 w G p pN W V lp ts now Kn kn) (ho : Out D W W') (hp : ¬ D p) (hn : ¬ D pN) (hv : ∀ b, V.ownBlock = some b → ¬ D b) (hw : ∀ b, b < w.heap.size → ¬ D b) (hg : ∀ b, b < W.heap.size → G b → ¬ D b ∧ G' b) (hG' : ∀ b, W'.heap.size ≤ b → G' b) : I28 w G' p pN W' V lp ts now Kn kn :=
  ⟨Below.trans h.kx (ho.below h.kx.size hw), h.pr.out ho hp hv hg, h.pw, h.lo, ho.blk h.box hn, h.ne, h.nv, h.rt, h.tr, hG'⟩
def GG (pN q : Nat) (V : Value) (b : Nat) : Prop := b ≠ pN ∧ b ≠ q ∧ V.ownBlock ≠ some b
theorem two_fr {w W W' : World} {G : Nat → Prop} {p q pN : Nat} {Vp Vq Vp' : Value} {lp lq : List Pe} {ts ts' : List T} {now now' : T} {Kn Kn' : Option Addr} {kn kn' : Nat} (hp : I28 w G p pN W Vp lp ts now Kn kn) (hq : I28 w (GG pN p Vp) q pN W Vq lq ts' now' Kn' kn') (hpq : q ≠ p) (hF : Fr p W Vp W' Vp') (hl : ∀ b, Vp'.ownBlock = some b → b < W'.heap.size) : I28 w (GG pN p Vp') q pN W' Vq lq ts' now' Kn' kn' :=
  hq.out (Out.of_fr hF) (fun h => h.elim hpq (fun e => by
      have h1 := hq.pr.box.cell 1
      rcases hp.pr.own.2 with ⟨h2, _⟩ | ⟨g, cap, cur, hv, hb, hg, _⟩
      · rw [h2] at e; cases e
      · rw [hv] at e
        simp only [Value.ownBlock, Option.some.injEq] at e
        subst e
        have h3 := hq.pr.box
        rw [Blk, hg] at h3
        simp at h3)) (fun h => h.elim hp.ne hp.nv) (fun b hb h => h.elim (hq.pr.row b hb).2.1 (hq.pr.row b hb).2.2)
    (fun b hb h => h.elim (fun e => by have := hp.pw; omega) (fun e => by have := hp.pr.ge b e; have := hp.pw; omega))
    (fun b hb hg => ⟨fun h => h.elim hg.2.1 hg.2.2, hg.1, hg.2.1, hF.ne hb hg.2.2⟩)
    (fun b hb => ⟨by have := hp.box.lt; have := hF.size; omega, by have := hp.pr.box.lt; have := hF.size; omega, fun e => by have := hl b e; omega⟩)
theorem past_fr {w W W' : World} {G : Nat → Prop} {p q pN : Nat} {Vp Vq Vp' : Value} {lp lq : List Pe} {ts : List T} {now : T} {Kn : Option Addr} {kn : Nat} (hp : I28 w G p pN W Vp lp ts now Kn kn) (hq : PastR (GG pN p Vp) W q Vq lq) (hpq : q ≠ p) (hF : Fr p W Vp W' Vp') : PastR (GG pN p Vp') W' q Vq lq :=
  hq.out (Out.of_fr hF) (fun h => h.elim hpq (fun e => by
      rcases hp.pr.own.2 with ⟨h2, _⟩ | ⟨g, cap, cur, hv, hb, hg, _⟩
      · rw [h2] at e; cases e
      · rw [hv] at e
        simp only [Value.ownBlock, Option.some.injEq] at e
        subst e
        have h3 := hq.box
        rw [Blk, hg] at h3
        simp at h3)) (fun b hb h => h.elim (hq.row b hb).2.1 (hq.row b hb).2.2)
    (fun b hb hg => ⟨fun h => h.elim hg.2.1 hg.2.2, hg.1, hg.2.1, hF.ne hb hg.2.2⟩)
theorem I28.turn {w W W2 : World} {G G' : Nat → Prop} {p pN : Nat} {V V' : Value} {lp : List Pe} {ts : List T} {now x : T} {Kn Kx A : Option Addr} {kn kx0 c : Nat} (h : I28 w G p pN W V lp ts now Kn kn) (hx : Ext w W2) (hP : PastR G' W2 p V' (lp ++ [(inverse (edits 200 now x []), A, c)])) (hb : Blk W2 pN [.string x.name, .string x.key, .int .i64 x.kind, .int .u64 x.num, .string x.text, .slice Kx x.kids.length kx0] 54) (hnv : V'.ownBlock ≠ some pN) (hr : RT (fun b => b < w.heap.size) w x [.string x.name, .string x.key, .int .i64 x.kind, .int .u64 x.num, .string x.text, .slice Kx x.kids.length kx0]) (hm : mayT x = true) (hG : ∀ b, W2.heap.size ≤ b → G' b) : I28 w G' p pN W2 V' (lp ++ [(inverse (edits 200 now x []), A, c)]) (ts ++ [now]) x Kx kx0 :=
  ⟨hx, hP, h.pw, h.lo, hb, h.ne, hnv, hr, h.tr.push hm, hG⟩
theorem I28.callHigh {w W W' : World} {G : Nat → Prop} {p pN : Nat} {V : Value} {lp : List Pe} {ts : List T} {now : T} {Kn : Option Addr} {kn : Nat} (h : I28 w G p pN W V lp ts now Kn kn) (hx : Ext W W') (n : Int) (hn : (ts.length : Int) < n) : Calls Try.prog 82 #[.pointer (some ⟨p, 0, none⟩), .agg #[.string now.name, .string now.key, .int .i64 now.kind, .int .u64 now.num, .string now.text, .slice Kn now.kids.length kn], .int .i64 n] W' (Ret (NewPost zeroT [.int .i64 2] W')) := by
  refine Calls.mono (past_at_high G W' p V lp now Kn kn n (h.pr.ext hx) (by rw [h.len]; exact hn)) ?_
  rintro e w' ⟨v, h1, h2, h3⟩
  exact ⟨v, h1, _, h2, rt_zero _ _, h3⟩
theorem at_in {ts : List T} {now : T} {n : Nat} (h : n ≤ ts.length) : atT ts now n = (wasT (ts ++ [now]) n, 0) := by rw [atT, if_neg (by omega), Int.toNat_natCast]
set_option maxRecDepth 100000 in
set_option maxHeartbeats 400000 in
theorem prunes28_walk (l : List S28) (qa qb : Nat) (hqa : qa < 256) (hqb : qb < 256) (w : World) (A : Option Addr) (c : Nat) (h : SRow28 w A l c) :
    Calls Try.prog 23 #[.slice A l.length c, .int .u8 (qa : Int), .int .u8 (qb : Int)] w fun e w' => e = .returned (.bool true) ∧ Ext w w' := by
  have kr := Hd.mk h
  have hlen := h.len
  have hnul := Hd.mk h.nul
  clear h
  go_enter Try.func23, Try.ntmps23
  go_wp2_with fail
  refine Calls.mono (awake28 w) ?_
  rintro e w1 ⟨rfl, hx⟩
  have k1 := Hd.mk hx
  clear hx
  go_wp2_with fail
  refine Calls.mono (may28_walk l w1 A c (kr.out.ext k1.out)) ?_
  rintro e w2 ⟨rfl, hx⟩
  replace k1 := Hd.mk (k1.out.trans hx)
  clear hx
  cases hm : may28 l with
  | false =>
    go_wp2_with fail
    go_ret
    exact ⟨rfl, k1.out⟩
  | true =>
  obtain ⟨hmay, hl40⟩ := may28_yes hm
  replace hmay := Hd.mk hmay
  replace hl40 := Hd.mk hl40
  clear hm
  go_wp2_with fail
  refine Calls.mono (past_new (fun _ => True) w2) ?_
  rintro e w3 ⟨rfl, hP, hx, hs⟩
  have hpw := Hd.mk k1.out.size
  replace k1 := Hd.mk (k1.out.trans hx)
  have kP := Hd.mk hP
  clear hx hP hs
  generalize w2.heap.size = p at *
  go_wp2_with fail
  refine Calls.mono (past_new (fun _ => True) w3) ?_
  rintro e w4 ⟨rfl, hP, hx, hs⟩
  replace k1 := Hd.mk (k1.out.trans hx)
  have hqp := Hd.mk (show w3.heap.size ≠ p from fun e => by have := kP.out.box.lt; omega)
  have hqw := Hd.mk (show w.heap.size ≤ w3.heap.size by have := kP.out.box.lt; have := hpw.out; omega)
  have kQ := Hd.mk hP
  replace kP := Hd.mk (kP.out.ext hx)
  clear hx hP hs
  generalize w3.heap.size = q at *
  go_wp2_with fail
  have kI : Hd (I28 w (GG w4.heap.size q (.slice none 0 0)) p w4.heap.size (w4.alloc (.cells #[.string ⟨#[]⟩, .string ⟨#[]⟩, .int .i64 0, .int .u64 0, .string ⟨#[]⟩, .slice none 0 0] 54)) (.slice none 0 0) [] [] zeroT none 0) :=
    ⟨⟨k1.out.trans (Ext.alloc _ _), ⟨kP.out.box.ext (Ext.alloc _ _), own_ext (Ext.alloc _ _) kP.out.own, by simp, (fun b hb => by cases hb), (fun x hx => by cases hx)⟩, hpw.out, k1.out.size, Blk.new w4 _ _, fun e => by have := kP.out.box.lt; omega, (fun e => by cases e), rt_zero _ _, Trail.nil, fun b hb => ⟨by simp at hb; omega, by have := kQ.out.box.lt; simp at hb; omega, fun h => by cases h⟩⟩⟩
  have kJ : Hd (I28 w (GG w4.heap.size p (.slice none 0 0)) q w4.heap.size (w4.alloc (.cells #[.string ⟨#[]⟩, .string ⟨#[]⟩, .int .i64 0, .int .u64 0, .string ⟨#[]⟩, .slice none 0 0] 54)) (.slice none 0 0) [] [] zeroT none 0) :=
    ⟨⟨k1.out.trans (Ext.alloc _ _), ⟨kQ.out.box.ext (Ext.alloc _ _), own_ext (Ext.alloc _ _) kQ.out.own, by simp, (fun b hb => by cases hb), (fun x hx => by cases hx)⟩, hqw.out, k1.out.size, Blk.new w4 _ _, fun e => by have := kQ.out.box.lt; omega, (fun e => by cases e), rt_zero _ _, Trail.nil, fun b hb => ⟨by simp at hb; omega, by have := kP.out.box.lt; simp at hb; omega, fun h => by cases h⟩⟩⟩
  clear kP kQ hpw hqw k1
  generalize w4.heap.size = pN at *
  generalize w4.alloc _ = W at *
  go_loopg [12] (l.length + 1) (fun qq i wr => ∃ (j : Nat) (Vp Vq : Value) (lp lq : List Pe) (ts : List T) (now : T) (Kn : Option Addr) (kn : Nat), j ≤ l.length ∧ Hd (l.length - j < qq) ∧ i = .int .i64 j ∧ Hd (I28 w (GG pN q Vq) p pN wr Vp lp ts now Kn kn) ∧ Hd (I28 w (GG pN p Vp) q pN wr Vq lq ts now Kn kn))
  case atStart => exact ⟨0, _, _, _, _, _, _, _, _, Nat.zero_le _, ⟨by omega⟩, rfl, kI, kJ⟩
  case round =>
  clear kI kJ
  obtain ⟨j, Vp, Vq, lp, lq, ts, now, Kn, kn, hj, hq, rfl, kI, kJ⟩ := hrel
  generalize wr = W at *
  by_cases hlt : j < l.length
  · skip
    have hx1 := List.getElem?_eq_getElem hlt
    generalize l[j] = s at hx1
    obtain ⟨hsz, b, off, cs, rfl, hrt, hc⟩ := kr.out.step j s hx1
    have hmx := Hd.mk (hmay.out j s hx1)
    obtain ⟨sk, sn, x⟩ := s
    obtain ⟨Kx, kx0, rfl, _⟩ := hrt.row
    simp only at hsz hmx hrt hc
    have rx := Hd.mk (hrt.mono (S' := fun b => b < w.heap.size) (fun b hb _ => hb))
    simp only [cT] at rx hc
    clear hrt hx1 hsz
    have hin : Hd (∀ (q : Nat) v, ([.int .i64 sk, .int .i64 sn, .string x.name, .string x.key, .int .i64 x.kind, .int .u64 x.num, .string x.text, .slice Kx x.kids.length kx0])[q]? = some v → w.cell? ⟨b, off + j * 8 + q, none⟩ = some v) := ⟨hc⟩
    have hcW : Hd (∀ (q : Nat) v, ([.int .i64 sk, .int .i64 sn, .string x.name, .string x.key, .int .i64 x.kind, .int .u64 x.num, .string x.text, .slice Kx x.kids.length kx0])[q]? = some v → W.cell? ⟨b, off + j * 8 + q, none⟩ = some v) := ⟨fun q v hv => Ext.cell kI.out.kx (hc q v hv)⟩
    clear hc
    go_wp2_with fail
    refine Flow.wp_region_flow_l (fun qq => match qq with
      | 42 => SP.eq (.pointer (some ⟨p, 0, none⟩))
      | 43 => SP.eq (.agg #[.string now.name, .string now.key, .int .i64 now.kind, .int .u64 now.num, .string now.text, .slice Kn now.kids.length kn])
      | 44 => SP.eq (.slice (some ⟨b, off, none⟩) l.length c)
      | 45 => SP.eq (.int .i64 (j : Nat))
      | 46 => SP.eq (.pointer (some ⟨b, off + j * 8, none⟩))
      | 47 => SP.eq (.pointer (some ⟨b, off + j * 8 + 2, none⟩))
      | 48 => SP.eq (.agg #[.string x.name, .string x.key, .int .i64 x.kind, .int .u64 x.num, .string x.text, .slice Kx x.kids.length kx0])
      | _ => SP.any) 7 (by kernel_rfl) 170 rfl (by kernel_rfl) ?_ ?_
    · skip
      refine ⟨?_, ?_, ?_, ?_, ?_, ?_, ?_, trivial⟩
      · intro act W2 hk
        refine Flow.does_intro rfl (fun Kq hK => ?_)
        have e9 : act.tmps[9]?.getD undef = .pointer (some ⟨p, 0, none⟩) := hk.o 9 (by kernel_rfl)
        clear hk
        go_simp
        exact hK _ _ (Ext.refl _) (fun d hd => by cases hd; rfl)
      · intro act W2 hk
        refine Flow.does_intro rfl (fun Kq hK => ?_)
        have e11 : act.tmps[11]?.getD undef = .pointer (some ⟨pN, 0, none⟩) := hk.o 11 (by kernel_rfl)
        have g := ((kI.out.box).ext ((Ext.drew W).trans hk.ext)).cell
        clear hk
        go_simp
        exact hK _ _ (Ext.refl _) (fun d hd => by cases hd; rfl)
      · intro act W2 hk
        refine Flow.does_intro rfl (fun Kq hK => ?_)
        have e0 : act.tmps[0]?.getD undef = .slice (some ⟨b, off, none⟩) l.length c := hk.o 0 (by kernel_rfl)
        clear hk
        go_simp
        exact hK _ _ (Ext.refl _) (fun d hd => by cases hd; rfl)
      · intro act W2 hk
        refine Flow.does_intro rfl (fun Kq hK => ?_)
        have e12 : act.tmps[12]?.getD undef = .int .i64 (j : Nat) := hk.o 12 (by kernel_rfl)
        clear hk
        go_simp
        exact hK _ _ (Ext.refl _) (fun d hd => by cases hd; rfl)
      · intro act W2 hk
        refine Flow.does_intro rfl (fun Kq hK => ?_)
        have e44 : act.tmps[44]?.getD undef = .slice (some ⟨b, off, none⟩) l.length c := hk.v 44 (by kernel_rfl)
        have e45 : act.tmps[45]?.getD undef = .int .i64 (j : Nat) := hk.v 45 (by kernel_rfl)
        clear hk
        go_simp
        exact hK _ _ (Ext.refl _) (fun d hd => by cases hd; rfl)
      · intro act W2 hk
        refine Flow.does_intro rfl (fun Kq hK => ?_)
        have e46 : act.tmps[46]?.getD undef = .pointer (some ⟨b, off + j * 8, none⟩) := hk.v 46 (by kernel_rfl)
        clear hk
        go_simp
        exact hK _ _ (Ext.refl _) (fun d hd => by cases hd; rfl)
      · intro act W2 hk
        refine Flow.does_intro rfl (fun Kq hK => ?_)
        have e47 : act.tmps[47]?.getD undef = .pointer (some ⟨b, off + j * 8 + 2, none⟩) := hk.v 47 (by kernel_rfl)
        have g2 := Ext.cell ((Ext.drew W).trans hk.ext) ((hcW.out) 2 _ rfl)
        have g3 := Ext.cell ((Ext.drew W).trans hk.ext) ((hcW.out) 3 _ rfl)
        have g4 := Ext.cell ((Ext.drew W).trans hk.ext) ((hcW.out) 4 _ rfl)
        have g5 := Ext.cell ((Ext.drew W).trans hk.ext) ((hcW.out) 5 _ rfl)
        have g6 := Ext.cell ((Ext.drew W).trans hk.ext) ((hcW.out) 6 _ rfl)
        have g7 := Ext.cell ((Ext.drew W).trans hk.ext) ((hcW.out) 7 _ rfl)
        clear hk
        go_simp
        exact hK _ _ (Ext.refl _) (fun d hd => by cases hd; rfl)
    · intro act W2 he
      have hxW2 := Hd.mk ((Ext.drew W).trans he.ext)
      obtain ⟨us, hA, hF⟩ := he.out [42, 43, 44, 45, 46, 47, 48] (by kernel_rfl)
      simp only [Flow.fillL, List.contains_cons, List.contains_nil, Nat.reduceBEq, Bool.or_false, Bool.false_or, Bool.or_true, Bool.true_or, ↓reduceIte, Nat.reduceAdd, Bool.false_eq_true] at hA
      subst hA
      have f42 : us 42 = .pointer (some ⟨p, 0, none⟩) := hF 42 (by simp)
      have f43 : us 43 = .agg #[.string now.name, .string now.key, .int .i64 now.kind, .int .u64 now.num, .string now.text, .slice Kn now.kids.length kn] := hF 43 (by simp)
      have f48 : us 48 = .agg #[.string x.name, .string x.key, .int .i64 x.kind, .int .u64 x.num, .string x.text, .slice Kx x.kids.length kx0] := hF 48 (by simp)
      clear hF he
      rw [f42]
      clear f42
      rw [f43]
      clear f43
      rw [f48]
      clear f48
      refine (show wpList _ _ _ (⟨some 49, .call _, _, _, _, none⟩ :: _) _ _ from ?_)
      replace kI := Hd.mk (kI.out.ext hxW2.out)
      replace kJ := Hd.mk (kJ.out.ext hxW2.out)
      replace hcW := Hd.mk (fun q v hv => Ext.cell hxW2.out (hcW.out q v hv))
      clear hxW2
      go_wp2_with fail
      refine Calls.mono (kI.out.callPush (rx.out.ext kI.out.kx |>.mono fun _ _ _ => trivial) hmx.out) ?_
      rintro e w5 (⟨hf8, rfl, Vp5, A9, c9, hP, hF⟩ | ⟨hf8, rfl, hx⟩)
      · have hbD : Hd (∀ {p : Nat} {V : Value}, w.heap.size ≤ p → (∀ k, V.ownBlock = some k → p < k) → ¬ (b = p ∨ V.ownBlock = some b)) := ⟨fun hp hv h => by have h1 := World.block_lt_of_cell? w _ (hin.out 0 _ rfl); simp only at h1; rcases h with e | e; omega; have := hv b e; omega⟩
        replace hP := Hd.mk hP
        replace hF := Hd.mk hF
        replace hf8 := Hd.mk hf8
        have kJ5 := Hd.mk (two_fr kI.out kJ.out hqp.out hF.out (fun b hb => own_lt hP.out.own b hb))
        replace hcW := Hd.mk (fun q v hv => (Out.of_fr hF.out).cell (hcW.out q v hv) (hbD.out kI.out.pw kI.out.pr.ge))
        go_wp2_with fail
        refine Flow.wp_region_flow_l (fun qq => match qq with
          | 50 => SP.eq (.pointer (some ⟨q, 0, none⟩))
          | 51 => SP.eq (.agg #[.string now.name, .string now.key, .int .i64 now.kind, .int .u64 now.num, .string now.text, .slice Kn now.kids.length kn])
          | 52 => SP.eq (.slice (some ⟨b, off, none⟩) l.length c)
          | 53 => SP.eq (.int .i64 (j : Nat))
          | 54 => SP.eq (.pointer (some ⟨b, off + j * 8, none⟩))
          | 55 => SP.eq (.pointer (some ⟨b, off + j * 8 + 2, none⟩))
          | 56 => SP.eq (.agg #[.string x.name, .string x.key, .int .i64 x.kind, .int .u64 x.num, .string x.text, .slice Kx x.kids.length kx0])
          | _ => SP.any) 7 (by kernel_rfl) 170 rfl (by kernel_rfl) ?_ ?_
        · skip
          refine ⟨?_, ?_, ?_, ?_, ?_, ?_, ?_, trivial⟩
          · intro act W2 hk
            refine Flow.does_intro rfl (fun Kq hK => ?_)
            have e10 : act.tmps[10]?.getD undef = .pointer (some ⟨q, 0, none⟩) := hk.o 10 (by kernel_rfl)
            clear hk
            go_simp
            exact hK _ _ (Ext.refl _) (fun d hd => by cases hd; rfl)
          · intro act W2 hk
            refine Flow.does_intro rfl (fun Kq hK => ?_)
            have e11 : act.tmps[11]?.getD undef = .pointer (some ⟨pN, 0, none⟩) := hk.o 11 (by kernel_rfl)
            have g := ((kJ5.out.box).ext ((Ext.drew w5).trans hk.ext)).cell
            clear hk
            go_simp
            exact hK _ _ (Ext.refl _) (fun d hd => by cases hd; rfl)
          · intro act W2 hk
            refine Flow.does_intro rfl (fun Kq hK => ?_)
            have e0 : act.tmps[0]?.getD undef = .slice (some ⟨b, off, none⟩) l.length c := hk.o 0 (by kernel_rfl)
            clear hk
            go_simp
            exact hK _ _ (Ext.refl _) (fun d hd => by cases hd; rfl)
          · intro act W2 hk
            refine Flow.does_intro rfl (fun Kq hK => ?_)
            have e12 : act.tmps[12]?.getD undef = .int .i64 (j : Nat) := hk.o 12 (by kernel_rfl)
            clear hk
            go_simp
            exact hK _ _ (Ext.refl _) (fun d hd => by cases hd; rfl)
          · intro act W2 hk
            refine Flow.does_intro rfl (fun Kq hK => ?_)
            have e52 : act.tmps[52]?.getD undef = .slice (some ⟨b, off, none⟩) l.length c := hk.v 52 (by kernel_rfl)
            have e53 : act.tmps[53]?.getD undef = .int .i64 (j : Nat) := hk.v 53 (by kernel_rfl)
            clear hk
            go_simp
            exact hK _ _ (Ext.refl _) (fun d hd => by cases hd; rfl)
          · intro act W2 hk
            refine Flow.does_intro rfl (fun Kq hK => ?_)
            have e54 : act.tmps[54]?.getD undef = .pointer (some ⟨b, off + j * 8, none⟩) := hk.v 54 (by kernel_rfl)
            clear hk
            go_simp
            exact hK _ _ (Ext.refl _) (fun d hd => by cases hd; rfl)
          · intro act W2 hk
            refine Flow.does_intro rfl (fun Kq hK => ?_)
            have e55 : act.tmps[55]?.getD undef = .pointer (some ⟨b, off + j * 8 + 2, none⟩) := hk.v 55 (by kernel_rfl)
            have g2 := Ext.cell ((Ext.drew w5).trans hk.ext) ((hcW.out) 2 _ rfl)
            have g3 := Ext.cell ((Ext.drew w5).trans hk.ext) ((hcW.out) 3 _ rfl)
            have g4 := Ext.cell ((Ext.drew w5).trans hk.ext) ((hcW.out) 4 _ rfl)
            have g5 := Ext.cell ((Ext.drew w5).trans hk.ext) ((hcW.out) 5 _ rfl)
            have g6 := Ext.cell ((Ext.drew w5).trans hk.ext) ((hcW.out) 6 _ rfl)
            have g7 := Ext.cell ((Ext.drew w5).trans hk.ext) ((hcW.out) 7 _ rfl)
            clear hk
            go_simp
            exact hK _ _ (Ext.refl _) (fun d hd => by cases hd; rfl)
        · intro act W2 he
          have hxW2 := Hd.mk ((Ext.drew w5).trans he.ext)
          obtain ⟨us, hA, hF⟩ := he.out [50, 51, 52, 53, 54, 55, 56] (by kernel_rfl)
          simp only [Flow.fillL, List.contains_cons, List.contains_nil, Nat.reduceBEq, Bool.or_false, Bool.false_or, Bool.or_true, Bool.true_or, ↓reduceIte, Nat.reduceAdd, Bool.false_eq_true] at hA
          subst hA
          have f50 : us 50 = .pointer (some ⟨q, 0, none⟩) := hF 50 (by simp)
          have f51 : us 51 = .agg #[.string now.name, .string now.key, .int .i64 now.kind, .int .u64 now.num, .string now.text, .slice Kn now.kids.length kn] := hF 51 (by simp)
          have f56 : us 56 = .agg #[.string x.name, .string x.key, .int .i64 x.kind, .int .u64 x.num, .string x.text, .slice Kx x.kids.length kx0] := hF 56 (by simp)
          clear hF he
          rw [f50]
          clear f50
          rw [f51]
          clear f51
          rw [f56]
          clear f56
          refine (show wpList _ _ _ (⟨some 57, .call _, _, _, _, none⟩ :: _) _ _ from ?_)
          replace kJ5 := Hd.mk (kJ5.out.ext hxW2.out)
          replace hP := Hd.mk (hP.out.ext hxW2.out)
          replace hF := Hd.mk (hF.out.trans (Fr.of_ext hxW2.out))
          replace hcW := Hd.mk (fun q v hv => Ext.cell hxW2.out (hcW.out q v hv))
          clear hxW2
          go_wp2_with fail
          refine Calls.mono (kJ5.out.callPush (rx.out.ext kJ5.out.kx |>.mono fun _ _ _ => trivial) hmx.out) ?_
          rintro e w6 (⟨_, rfl, Vq6, A8, c8, hQ, hF6⟩ | ⟨h9, _⟩)
          case inr => exact absurd h9 (by have := hf8.out; omega)
          replace hQ := Hd.mk hQ
          replace hF6 := Hd.mk hF6
          have kx6 := Hd.mk (past_ext kJ5.out.kx kJ5.out.pw kJ5.out.pr hF6.out)
          have hP6 := Hd.mk (past_fr kJ5.out hP.out (fun e => hqp.out e.symm) hF6.out)
          have kN := Hd.mk (hF6.out.blk kJ5.out.box kJ5.out.ne kJ5.out.nv)
          have nvp := Hd.mk (hF.out.ne kI.out.box.lt kI.out.nv)
          have nvq := Hd.mk (hF6.out.ne kJ5.out.box.lt kJ5.out.nv)
          replace hcW := Hd.mk (fun q v hv => (Out.of_fr hF6.out).cell (hcW.out q v hv) (hbD.out kJ5.out.pw kJ5.out.pr.ge))
          have c2 := hcW.out 2 _ rfl
          have c3 := hcW.out 3 _ rfl
          have c4 := hcW.out 4 _ rfl
          have c5 := hcW.out 5 _ rfl
          have c6 := hcW.out 6 _ rfl
          have c7 := hcW.out 7 _ rfl
          have gN := kN.out.cell
          have fN := kN.out.free
          go_wp2_with fail
          clear gN fN c2 c3 c4 c5 c6 c7
          have hu := Hd.mk ((((((Upd.setCell w6 ⟨pN, 0, none⟩ (.string x.name)).trans (Upd.setCell _ ⟨pN, 1, none⟩ (.string x.key))).trans (Upd.setCell _ ⟨pN, 2, none⟩ (.int .i64 x.kind))).trans (Upd.setCell _ ⟨pN, 3, none⟩ (.int .u64 x.num))).trans (Upd.setCell _ ⟨pN, 4, none⟩ (.string x.text))).trans (Upd.setCell _ ⟨pN, 5, none⟩ (.slice Kx x.kids.length kx0)))
          have kN2 := Hd.mk (show Blk _ pN [.string x.name, .string x.key, .int .i64 x.kind, .int .u64 x.num, .string x.text, .slice Kx x.kids.length kx0] 54 from ((((((kN.out.setCell 0 (.string x.name)).setCell 1 (.string x.key)).setCell 2 (.int .i64 x.kind)).setCell 3 (.int .u64 x.num)).setCell 4 (.string x.text)).setCell 5 (.slice Kx x.kids.length kx0)))
          have hx7 := Hd.mk (Below.trans kx6.out (hu.out.below kI.out.lo))
          have kI7 := Hd.mk (kI.out.turn hx7.out (hP6.out.out (G' := GG pN q Vq6) (Out.of_upd hu.out) (fun e => kI.out.ne e.symm) (fun b hb e => nvp.out (by rw [hb, e])) (fun b _ hg => ⟨hg.1, hg⟩)) kN2.out nvp.out rx.out hmx.out (fun b hb => ⟨by have := kN.out.lt; have := hu.out.size; omega, by have := hQ.out.box.lt; have := hu.out.size; omega, fun e => by have := own_lt hQ.out.own b e; have := hu.out.size; omega⟩))
          have kJ7 := Hd.mk (kJ5.out.turn hx7.out (hQ.out.out (G' := GG pN p Vp5) (Out.of_upd hu.out) (fun e => kJ5.out.ne e.symm) (fun b hb e => nvq.out (by rw [hb, e])) (fun b _ hg => ⟨hg.1, hg⟩)) kN2.out nvq.out rx.out hmx.out (fun b hb => ⟨by have := kN.out.lt; have := hu.out.size; omega, by have := hP6.out.box.lt; have := hu.out.size; omega, fun e => by have := own_lt hP6.out.own b e; have := hu.out.size; omega⟩))
          clear kI kJ kJ5 hP hF hQ hF6 kx6 hP6 kN nvp nvq hcW hu kN2 hx7 hbD
          generalize ts ++ [now] = ts2 at *
          generalize lp ++ _ = lp2 at *
          generalize lq ++ _ = lq2 at *
          go_roundg (l.length - j)
          case measure => have := hq.out; omega
          case rel => exact ⟨j + 1, Vp5, Vq6, lp2, lq2, ts2, x, Kx, kx0, by omega, ⟨by omega⟩, by go_num, kI7, kJ7⟩
      · replace kI := Hd.mk (kI.out.ext hx)
        replace kJ := Hd.mk (kJ.out.ext hx)
        replace hcW := Hd.mk (fun q v hv => Ext.cell hx (hcW.out q v hv))
        replace hf8 := Hd.mk hf8
        clear hx
        go_wp2_with fail
        refine Flow.wp_region_flow_l (fun qq => match qq with
          | 50 => SP.eq (.pointer (some ⟨q, 0, none⟩))
          | 51 => SP.eq (.agg #[.string now.name, .string now.key, .int .i64 now.kind, .int .u64 now.num, .string now.text, .slice Kn now.kids.length kn])
          | 52 => SP.eq (.slice (some ⟨b, off, none⟩) l.length c)
          | 53 => SP.eq (.int .i64 (j : Nat))
          | 54 => SP.eq (.pointer (some ⟨b, off + j * 8, none⟩))
          | 55 => SP.eq (.pointer (some ⟨b, off + j * 8 + 2, none⟩))
          | 56 => SP.eq (.agg #[.string x.name, .string x.key, .int .i64 x.kind, .int .u64 x.num, .string x.text, .slice Kx x.kids.length kx0])
          | _ => SP.any) 7 (by kernel_rfl) 170 rfl (by kernel_rfl) ?_ ?_
        · skip
          refine ⟨?_, ?_, ?_, ?_, ?_, ?_, ?_, trivial⟩
          · intro act W2 hk
            refine Flow.does_intro rfl (fun Kq hK => ?_)
            have e10 : act.tmps[10]?.getD undef = .pointer (some ⟨q, 0, none⟩) := hk.o 10 (by kernel_rfl)
            clear hk
            go_simp
            exact hK _ _ (Ext.refl _) (fun d hd => by cases hd; rfl)
          · intro act W2 hk
            refine Flow.does_intro rfl (fun Kq hK => ?_)
            have e11 : act.tmps[11]?.getD undef = .pointer (some ⟨pN, 0, none⟩) := hk.o 11 (by kernel_rfl)
            have g := ((kJ.out.box).ext ((Ext.drew w5).trans hk.ext)).cell
            clear hk
            go_simp
            exact hK _ _ (Ext.refl _) (fun d hd => by cases hd; rfl)
          · intro act W2 hk
            refine Flow.does_intro rfl (fun Kq hK => ?_)
            have e0 : act.tmps[0]?.getD undef = .slice (some ⟨b, off, none⟩) l.length c := hk.o 0 (by kernel_rfl)
            clear hk
            go_simp
            exact hK _ _ (Ext.refl _) (fun d hd => by cases hd; rfl)
          · intro act W2 hk
            refine Flow.does_intro rfl (fun Kq hK => ?_)
            have e12 : act.tmps[12]?.getD undef = .int .i64 (j : Nat) := hk.o 12 (by kernel_rfl)
            clear hk
            go_simp
            exact hK _ _ (Ext.refl _) (fun d hd => by cases hd; rfl)
          · intro act W2 hk
            refine Flow.does_intro rfl (fun Kq hK => ?_)
            have e52 : act.tmps[52]?.getD undef = .slice (some ⟨b, off, none⟩) l.length c := hk.v 52 (by kernel_rfl)
            have e53 : act.tmps[53]?.getD undef = .int .i64 (j : Nat) := hk.v 53 (by kernel_rfl)
            clear hk
            go_simp
            exact hK _ _ (Ext.refl _) (fun d hd => by cases hd; rfl)
          · intro act W2 hk
            refine Flow.does_intro rfl (fun Kq hK => ?_)
            have e54 : act.tmps[54]?.getD undef = .pointer (some ⟨b, off + j * 8, none⟩) := hk.v 54 (by kernel_rfl)
            clear hk
            go_simp
            exact hK _ _ (Ext.refl _) (fun d hd => by cases hd; rfl)
          · intro act W2 hk
            refine Flow.does_intro rfl (fun Kq hK => ?_)
            have e55 : act.tmps[55]?.getD undef = .pointer (some ⟨b, off + j * 8 + 2, none⟩) := hk.v 55 (by kernel_rfl)
            have g2 := Ext.cell ((Ext.drew w5).trans hk.ext) ((hcW.out) 2 _ rfl)
            have g3 := Ext.cell ((Ext.drew w5).trans hk.ext) ((hcW.out) 3 _ rfl)
            have g4 := Ext.cell ((Ext.drew w5).trans hk.ext) ((hcW.out) 4 _ rfl)
            have g5 := Ext.cell ((Ext.drew w5).trans hk.ext) ((hcW.out) 5 _ rfl)
            have g6 := Ext.cell ((Ext.drew w5).trans hk.ext) ((hcW.out) 6 _ rfl)
            have g7 := Ext.cell ((Ext.drew w5).trans hk.ext) ((hcW.out) 7 _ rfl)
            clear hk
            go_simp
            exact hK _ _ (Ext.refl _) (fun d hd => by cases hd; rfl)
        · intro act W2 he
          have hxW2 := Hd.mk ((Ext.drew w5).trans he.ext)
          obtain ⟨us, hA, hF⟩ := he.out [50, 51, 52, 53, 54, 55, 56] (by kernel_rfl)
          simp only [Flow.fillL, List.contains_cons, List.contains_nil, Nat.reduceBEq, Bool.or_false, Bool.false_or, Bool.or_true, Bool.true_or, ↓reduceIte, Nat.reduceAdd, Bool.false_eq_true] at hA
          subst hA
          have f50 : us 50 = .pointer (some ⟨q, 0, none⟩) := hF 50 (by simp)
          have f51 : us 51 = .agg #[.string now.name, .string now.key, .int .i64 now.kind, .int .u64 now.num, .string now.text, .slice Kn now.kids.length kn] := hF 51 (by simp)
          have f56 : us 56 = .agg #[.string x.name, .string x.key, .int .i64 x.kind, .int .u64 x.num, .string x.text, .slice Kx x.kids.length kx0] := hF 56 (by simp)
          clear hF he
          rw [f50]
          clear f50
          rw [f51]
          clear f51
          rw [f56]
          clear f56
          refine (show wpList _ _ _ (⟨some 57, .call _, _, _, _, none⟩ :: _) _ _ from ?_)
          replace kI := Hd.mk (kI.out.ext hxW2.out)
          replace kJ := Hd.mk (kJ.out.ext hxW2.out)
          replace hcW := Hd.mk (fun q v hv => Ext.cell hxW2.out (hcW.out q v hv))
          clear hxW2
          go_wp2_with fail
          refine Calls.mono (kJ.out.callPush (rx.out.ext kJ.out.kx |>.mono fun _ _ _ => trivial) hmx.out) ?_
          rintro e w6 (⟨h9, _⟩ | ⟨h99, rfl, hx⟩)
          · exact absurd h9 (by have := hf8.out; omega)
          clear h99
          replace kI := Hd.mk (kI.out.ext hx)
          replace kJ := Hd.mk (kJ.out.ext hx)
          clear hx hcW
          go_wp2_with fail
          go_roundg (l.length - j)
          case measure => have := hq.out; omega
          case rel => exact ⟨j + 1, Vp, Vq, lp, lq, ts, now, Kn, kn, by omega, ⟨by omega⟩, by go_num, kI, kJ⟩
  · have hnl : ¬ (j : Int) < (l.length : Int) := by omega
    have hl8 : ts.length ≤ 8 := by have h1 := kI.out.pr.len; have h2 := kI.out.len; omega
    replace hl8 := Hd.mk hl8
    go_wp2_with fail
    refine Calls.mono kI.out.callLen ?_
    rintro e w5 ⟨rfl, hx⟩
    replace kI := Hd.mk (kI.out.ext hx)
    replace kJ := Hd.mk (kJ.out.ext hx)
    clear hx
    obtain ⟨m1, hm1⟩ : ∃ m, m = min qa ts.length := ⟨_, rfl⟩
    obtain ⟨m2, hm2⟩ : ∃ m, m = min qb (ts.length - m1) := ⟨_, rfl⟩
    obtain ⟨m3, hm3⟩ : ∃ m, m = min (qa + qb) ts.length := ⟨_, rfl⟩
    replace hm1 := Hd.mk hm1
    replace hm2 := Hd.mk hm2
    replace hm3 := Hd.mk hm3
    go_wp2_with fail
    refine Calls.mono (kI.out.callPrune (qa : Int) m1 (by rw [Int.toNat_natCast]; exact hm1.out)) ?_
    rintro e w6 ⟨rfl, Vp6, hI6, hF⟩
    replace kJ := Hd.mk (two_fr kI.out kJ.out hqp.out hF (fun b hb => own_lt hI6.pr.own b hb))
    replace kI := Hd.mk hI6
    clear hI6 hF
    go_wp2_with fail
    refine Calls.mono (kI.out.callPrune (qb : Int) m2 (by rw [Int.toNat_natCast, List.length_drop]; exact hm2.out)) ?_
    rintro e w7 ⟨rfl, Vp7, hI7, hF⟩
    replace kJ := Hd.mk (two_fr kI.out kJ.out hqp.out hF (fun b hb => own_lt hI7.pr.own b hb))
    replace kI := Hd.mk hI7
    clear hI7 hF
    have hab : (qa : Int) + (qb : Int) = ((qa + qb : Nat) : Int) := by omega
    have hw64 : wrap64 ((qa : Int) + (qb : Int)) = ((qa + qb : Nat) : Int) := by unfold wrap64; omega
    replace hab := Hd.mk hab
    replace hw64 := Hd.mk hw64
    go_wp2_with fail
    refine Calls.mono (show Calls Try.prog 81 _ _ _ from (kJ.out.callPrune ((qa : Int) + (qb : Int)) m3 (by have := hm3.out; omega))) ?_
    rintro e w8 ⟨rfl, Vq8, hJ8, hF⟩
    replace kI := Hd.mk (two_fr kJ.out kI.out (fun e => hqp.out e.symm) hF (fun b hb => own_lt hJ8.pr.own b hb))
    replace kJ := Hd.mk hJ8
    clear hJ8 hF
    have he3 : (ts.drop m1).drop m2 = ts.drop m3 := by rw [List.drop_drop]; congr 1; have := hm1.out; have := hm2.out; have := hm3.out; omega
    have hlz : (ts.drop m3).length = ts.length - m3 := List.length_drop
    have hs3 : m1 + m2 = m3 := by have := hm1.out; have := hm2.out; have := hm3.out; omega
    have hle3 : m3 ≤ ts.length := by have := hm3.out; omega
    rw [he3] at kI
    generalize ts.drop m3 = tz at *
    generalize (lp.drop m1).drop m2 = lp2 at *
    generalize lq.drop m3 = lq2 at *
    clear he3
    have i1 : (m1 : Int) + (m2 : Int) = (m3 : Int) := by omega
    have i2 : min (ts.length : Int) ((qa : Int) + (qb : Int)) = (m3 : Int) := by have := hm3.out; omega
    have i3 : (ts.length : Int) - (m3 : Int) = (tz.length : Int) := by omega
    have hz8 := Hd.mk (show tz.length ≤ 8 by have := hl8.out; omega)
    replace hlz := Hd.mk hlz
    replace hs3 := Hd.mk hs3
    replace hle3 := Hd.mk hle3
    replace i3 := Hd.mk i3
    have b1 : m1 ≤ 8 := by have := hm1.out; have := hl8.out; omega
    have b2 : m2 ≤ 8 := by have := hm2.out; have := hl8.out; omega
    have b3 : m3 ≤ 8 := by have := hm3.out; have := hl8.out; omega
    have b4 : tz.length ≤ 8 := hz8.out
    have b5 : ts.length ≤ 8 := hl8.out
    go_wp2_with fail
    refine Calls.mono kI.out.callLen ?_
    rintro e w9 ⟨rfl, hx⟩
    replace kI := Hd.mk (kI.out.ext hx)
    replace kJ := Hd.mk (kJ.out.ext hx)
    clear hx
    go_wp2_with (with_reducible refine stop_at (.binOp .neq 3 (.tmp 103) (.tmp 106) 3) ?_)
    refine Stop.mk ?_
    simp only [i3.out]
    go_wp2_with fail
    refine Calls.mono kJ.out.callLen ?_
    rintro e w10 ⟨rfl, hx⟩
    replace kI := Hd.mk (kI.out.ext hx)
    replace kJ := Hd.mk (kJ.out.ext hx)
    clear hx
    go_wp2_with (with_reducible refine stop_at (.binOp .neq 3 (.tmp 111) (.tmp 114) 3) ?_)
    refine Stop.mk ?_
    simp only [i3.out]
    go_wp2_with fail
    clear i1 i2 i3 b1 b2 b3 b5
    have kX := Hd.mk (Ext.refl w10)
    go_loopg [19] (tz.length + 2) (fun qq ni wr => ∃ n : Nat, n ≤ tz.length + 1 ∧ Hd (tz.length + 1 - n < qq) ∧ ni = .int .i64 n ∧ Hd (Ext w10 wr))
    case atStart => exact ⟨0, by omega, ⟨by omega⟩, rfl, kX⟩
    case round =>
    clear kX
    obtain ⟨n, hn1, hqn, rfl, kX⟩ := hrel
    generalize wr = U at *
    have hts8 : tz.length ≤ 8 := hz8.out
    go_wp2_with fail
    refine Calls.mono (kI.out.ext kX.out).callLen ?_
    rintro e w11 ⟨rfl, hx⟩
    replace kX := Hd.mk (kX.out.trans hx)
    clear hx
    by_cases hn2 : n ≤ tz.length
    · have hn2i : (n : Int) ≤ (tz.length : Int) := by omega
      have hat := at_in (now := now) hn2
      have hw0 := Hd.mk (show n = 0 → wasT (tz ++ [now]) n = now from fun e => by rw [e, was_0])
      generalize wasT (tz ++ [now]) n = t at *
      have kIn := Hd.mk (kI.out.ext kX.out)
      have gN := kIn.out.box.cell
      have hAt := kIn.out.callAt n
      rw [hat] at hAt
      go_wp2_with fail
      clear gN
      refine Calls.mono hAt ?_
      rintro e w12 ⟨_, rfl, c9, rfl, hr9, hx⟩
      obtain ⟨K1, k1, rfl, _⟩ := hr9.row
      simp only [cT] at hr9 ⊢
      clear hAt kIn
      have hxA := hx.trans (Ext.alloc w12 (.cells #[.string t.name, .string t.key, .int .i64 t.kind, .int .u64 t.num, .string t.text, .slice K1 t.kids.length k1] 54))
      replace kX := Hd.mk (kX.out.trans hxA)
      have r1 := Hd.mk (hr9.ext (Ext.alloc w12 (.cells #[.string t.name, .string t.key, .int .i64 t.kind, .int .u64 t.num, .string t.text, .slice K1 t.kids.length k1] 54)))
      have b1 := Hd.mk (Blk.new w12 #[.string t.name, .string t.key, .int .i64 t.kind, .int .u64 t.num, .string t.text, .slice K1 t.kids.length k1] 54)
      have gN := (kI.out.box.ext kX.out).cell
      clear hx hxA hr9
      go_wp2_with fail
      clear gN
      generalize w12.heap.size = p1 at *
      generalize w12.alloc _ = W12 at *
      have hAt := (kJ.out.ext kX.out).callAt n
      rw [hat] at hAt
      refine Calls.mono hAt ?_
      rintro e w13 ⟨_, rfl, c9, rfl, hr9, hx⟩
      obtain ⟨K2, k2, rfl, _⟩ := hr9.row
      simp only [cT] at hr9 ⊢
      clear hAt hat
      have hxA := hx.trans (Ext.alloc w13 (.cells #[.string t.name, .string t.key, .int .i64 t.kind, .int .u64 t.num, .string t.text, .slice K2 t.kids.length k2] 54))
      replace kX := Hd.mk (kX.out.trans hxA)
      replace r1 := Hd.mk (r1.out.ext hxA)
      replace b1 := Hd.mk (b1.out.ext hxA)
      have r2 := Hd.mk (hr9.ext (Ext.alloc w13 (.cells #[.string t.name, .string t.key, .int .i64 t.kind, .int .u64 t.num, .string t.text, .slice K2 t.kids.length k2] 54)))
      have b2 := Hd.mk (Blk.new w13 #[.string t.name, .string t.key, .int .i64 t.kind, .int .u64 t.num, .string t.text, .slice K2 t.kids.length k2] 54)
      clear hx hxA hr9
      have g1 := b1.out.cell
      go_wp2_with fail
      clear g1
      generalize w13.heap.size = p2 at *
      generalize w13.alloc _ = W13 at *
      have hsm := ref_same _ _ _ _ _ _ _ (Nat.le_refl _) r1.out r2.out
      rw [sameT_rfl] at hsm
      refine Calls.mono hsm ?_
      rintro e w14 ⟨rfl, hx⟩
      replace kX := Hd.mk (kX.out.trans hx)
      replace r1 := Hd.mk (r1.out.ext hx)
      replace b1 := Hd.mk (b1.out.ext hx)
      clear hx hsm r2 b2
      by_cases h0 : n = 0
      · have hnt := hw0.out h0
        have h0i : ((n : Nat) : Int) = 0 := by omega
        have g1 := b1.out.cell
        have gN := (kI.out.box.ext kX.out).cell
        replace h0 := Hd.mk h0
        go_wp2_with fail
        clear g1 gN
        have hsm := ref_same _ _ _ (fun _ => True) _ _ _ (Nat.le_refl _) r1.out ((kI.out.ext kX.out).rtW (fun _ => True) (kI.out.kx.trans kX.out) (fun _ _ => trivial))
        rw [hnt, sameT_rfl] at hsm
        refine Calls.mono hsm ?_
        rintro e w15 ⟨rfl, hx⟩
        replace kX := Hd.mk (kX.out.trans hx)
        clear hx hsm r1 b1 hnt
        go_wp2_with fail
        go_roundg (tz.length + 1 - n)
        case measure => have := hqn.out; omega
        case rel => exact ⟨n + 1, by omega, ⟨by omega⟩, by go_num, kX⟩
      · have h0i : ¬ ((n : Nat) : Int) = 0 := by omega
        replace h0 := Hd.mk h0
        clear r1 b1
        go_wp2_with fail
        go_roundg (tz.length + 1 - n)
        case measure => have := hqn.out; omega
        case rel => exact ⟨n + 1, by omega, ⟨by omega⟩, by go_num, kX⟩
    · have hn2i : ¬ (n : Int) ≤ (tz.length : Int) := by omega
      replace kI := Hd.mk (kI.out.ext kX.out)
      clear kJ
      go_wp2_with fail
      generalize w11 = U2 at *
      have hN1 := Hd.mk (show ∀ W', Ext U2 W' → Calls Try.prog 82 #[.pointer (some ⟨p, 0, none⟩), .agg #[.string now.name, .string now.key, .int .i64 now.kind, .int .u64 now.num, .string now.text, .slice Kn now.kids.length kn], .int .i64 ((tz.length : Nat) + 1 : Int)] W' (Ret (NewPost zeroT [.int .i64 2] W')) from fun W' h => by
        exact kI.out.callHigh h _ (by omega))
      refine FlowJ.wp_region_flow_l (x := 9) (tx := 24) (Y := [(5, 165), (6, 159), (7, 166)]) (J := JX zeroT [.int .i64 2]) (G := GX 24 zeroT) (gx_ext _ _) (R := Rb U2.heap.size) 10 (fun _ _ h => rb_ext h) (fun h k => rb_trans h k) (fun qq => match qq with
        | 160 => SP.eq (.pointer (some ⟨p, 0, none⟩))
        | 161 => SP.eq (.agg #[.string now.name, .string now.key, .int .i64 now.kind, .int .u64 now.num, .string now.text, .slice Kn now.kids.length kn])
        | 162 => SP.eq (.pointer (some ⟨p, 0, none⟩))
        | 163 => SP.eq (.int .i64 (tz.length : Nat))
        | 164 => SP.eq (.int .i64 ((tz.length : Nat) + 1 : Int))
        | 165 => spTupX zeroT [.int .i64 2]
        | 159 => spTupX zeroT [.int .i64 2]
        | 166 => spAggX zeroT
        | 167 => SP.eq (.int .i64 2)
        | 24 => spBoxE U2.heap.size
        | _ => SP.any) (FlowJ.over [(165, spFormX [.int .i64 2]), (159, spFormX [.int .i64 2]), (166, SP.any)] (fun qq => match qq with
        | 160 => SP.eq (.pointer (some ⟨p, 0, none⟩))
        | 161 => SP.eq (.agg #[.string now.name, .string now.key, .int .i64 now.kind, .int .u64 now.num, .string now.text, .slice Kn now.kids.length kn])
        | 162 => SP.eq (.pointer (some ⟨p, 0, none⟩))
        | 163 => SP.eq (.int .i64 (tz.length : Nat))
        | 164 => SP.eq (.int .i64 ((tz.length : Nat) + 1 : Int))
        | 165 => spTupX zeroT [.int .i64 2]
        | 159 => spTupX zeroT [.int .i64 2]
        | 166 => spAggX zeroT
        | 167 => SP.eq (.int .i64 2)
        | 24 => spBoxE U2.heap.size
        | _ => SP.any)) 11 (by kernel_rfl) 170 rfl (by kernel_rfl) (of_decide_eq_true (by kernel_rfl)) (by decide) (by kernel_rfl) ?_ ?_ ?_ ?_ ?_
      · refine ⟨by decide, rfl, by kernel_rfl, ?_, jx_mono _ _⟩
        intro q hq
        simp only [List.mem_cons, List.not_mem_nil, or_false] at hq
        rcases hq with rfl | rfl | rfl
        all_goals exact ⟨by decide, by decide, by decide, rfl, by kernel_rfl⟩
      · refine FlowJ.over_weak (fun q hq => ?_)
        simp only [List.mem_cons, List.not_mem_nil, or_false] at hq
        rcases hq with rfl | rfl | rfl
        · exact fun u v1 ⟨c, e, _⟩ => ⟨c, e⟩
        · exact fun u v1 ⟨c, e, _⟩ => ⟨c, e⟩
        · exact fun u v1 _ => trivial
      · intro q hq u' v1 v2 hR
        by_cases q0 : q = 165
        · subst q0; exact fun ⟨c, e, _⟩ => ⟨c, e⟩
        by_cases q1 : q = 159
        · subst q1; exact fun ⟨c, e, _⟩ => ⟨c, e⟩
        by_cases q2 : q = 166
        · subst q2; exact fun _ => trivial
        rw [over_ne q0, over_ne q1, over_ne q2]
        simp only [FlowJ.over]
        split
        all_goals first | exact fun h => h | exact absurd rfl q0 | exact absurd rfl q1 | exact absurd rfl q2 | exact fun ⟨D, e, h1, c, hb, hc⟩ => ⟨D, e, h1, hR.2.2 D c hb hc⟩
      · refine ⟨?_, ?_, ?_, ?_, ?_, ?_, ?_, ?_, ?_, ?_, ?_, trivial⟩
        · intro act W2 hk
          refine FlowJ.does_intro rfl (fun Kq hK => ?_)
          have e9 : act.tmps[9]?.getD undef = .pointer (some ⟨p, 0, none⟩) := hk.o 9 (by kernel_rfl)
          clear hk
          go_simp
          exact hK _ _ (Ext.refl _) (xt_no (by decide) (by decide) (by decide)) (fun d hd => by cases hd; first | rfl | (simp [SP.eq]; omega))
        · intro act W2 hk
          refine FlowJ.does_intro rfl (fun Kq hK => ?_)
          have e11 : act.tmps[11]?.getD undef = .pointer (some ⟨pN, 0, none⟩) := hk.o 11 (by kernel_rfl)
          have g := ((kI.out.box).ext ((Ext.drew U2).trans (hk.early (.inr (by kernel_rfl))))).cell
          clear hk
          go_simp
          exact hK _ _ (Ext.refl _) (xt_no (by decide) (by decide) (by decide)) (fun d hd => by cases hd; first | rfl | (simp [SP.eq]; omega))
        · intro act W2 hk
          refine FlowJ.does_intro rfl (fun Kq hK => ?_)
          have e9 : act.tmps[9]?.getD undef = .pointer (some ⟨p, 0, none⟩) := hk.o 9 (by kernel_rfl)
          clear hk
          go_simp
          exact hK _ _ (Ext.refl _) (xt_no (by decide) (by decide) (by decide)) (fun d hd => by cases hd; first | rfl | (simp [SP.eq]; omega))
        · intro act W2 hk
          refine FlowJ.does_intro rfl (fun Kq hK => ?_)
          have e162 : act.tmps[162]?.getD undef = .pointer (some ⟨p, 0, none⟩) := hk.ve 162 (by kernel_rfl) (by kernel_rfl)
          have hx0 := Hd.mk ((Ext.drew U2).trans (hk.early (.inr (by kernel_rfl))))
          clear hk
          go_simp
          refine Calls.mono (kI.out.ext hx0.out).callLen ?_
          rintro e W3 ⟨rfl, hx⟩
          exact hK _ _ hx (xt_no (by decide) (by decide) (by decide)) (fun d hd => by cases hd; rfl)
        · intro act W2 hk
          refine FlowJ.does_intro rfl (fun Kq hK => ?_)
          have e163 : act.tmps[163]?.getD undef = .int .i64 (tz.length : Nat) := hk.ve 163 (by kernel_rfl) (by kernel_rfl)
          clear hk
          go_simp
          exact hK _ _ (Ext.refl _) (xt_no (by decide) (by decide) (by decide)) (fun d hd => by cases hd; have h1 := hz8.out; simp [SP.eq]; first | omega | (rw [IntKind.wrap_i64]; omega))
        · intro act W2 hk
          refine FlowJ.does_intro rfl (fun Kq hK => ?_)
          have e160 : act.tmps[160]?.getD undef = .pointer (some ⟨p, 0, none⟩) := hk.ve 160 (by kernel_rfl) (by kernel_rfl)
          have e161 : act.tmps[161]?.getD undef = .agg #[.string now.name, .string now.key, .int .i64 now.kind, .int .u64 now.num, .string now.text, .slice Kn now.kids.length kn] := hk.ve 161 (by kernel_rfl) (by kernel_rfl)
          have e164 : act.tmps[164]?.getD undef = .int .i64 ((tz.length : Nat) + 1 : Int) := hk.ve 164 (by kernel_rfl) (by kernel_rfl)
          have hx0 := Hd.mk ((Ext.drew U2).trans (hk.early (.inr (by kernel_rfl))))
          have hsz0 := hx0.out.size
          clear hk
          go_simp
          refine Calls.mono (hN1.out _ hx0.out) ?_
          rintro e W3 ⟨_, rfl, c9, rfl, hr9, hx⟩
          exact hK _ _ hx ⟨fun h => absurd h (by decide), fun h => absurd h (by decide), fun q hq h u hu _ => jx_call hr9 hu⟩ (fun d hd => by cases hd; exact ⟨c9, rfl, hr9.mono fun _ _ _ => trivial⟩)
        · intro act W2 hk
          refine FlowJ.does_intro rfl (fun Kq hK => ?_)
          obtain ⟨c9, e165, hr9⟩ := (hk.ve 165 (by kernel_rfl) (by kernel_rfl) : (spTupX zeroT [.int .i64 2]).p _ _)
          clear hk
          go_simp
          refine hK _ _ (Ext.refl _) ⟨fun h => absurd h (by decide), fun h => absurd h (by decide), fun q hq h u hu hj => ?_⟩ (fun d hd => by cases hd; exact ⟨c9, rfl, hr9⟩)
          have h1 := hj (5, 165) (by simp) (by kernel_rfl)
          rw [Array.getD_eq_getD_getElem?] at h1
          rw [e165] at h1
          exact h1
        · intro act W2 hk
          refine FlowJ.does_intro rfl (fun Kq hK => ?_)
          obtain ⟨c9, e159, hr9⟩ := (hk.ve 159 (by kernel_rfl) (by kernel_rfl) : (spTupX zeroT [.int .i64 2]).p _ _)
          clear hk
          go_simp
          refine hK _ _ (Ext.refl _) ⟨fun h => absurd h (by decide), fun h => absurd h (by decide), fun q hq h u hu hj => ?_⟩ (fun d hd => by cases hd; exact ⟨c9, rfl, hr9⟩)
          have h1 := hj (6, 159) (by simp) (by kernel_rfl)
          rw [Array.getD_eq_getD_getElem?] at h1
          rw [e159] at h1
          exact jx_take h1
        · intro act W2 hk
          refine FlowJ.does_intro rfl (fun Kq hK => ?_)
          obtain ⟨c9, e159⟩ := (hk.v 159 (by kernel_rfl) : (spFormX [.int .i64 2]).p _ _)
          clear hk
          go_simp
          exact hK _ _ (Ext.refl _) (xt_no (by decide) (by decide) (by decide)) (fun d hd => by cases hd; first | rfl | (simp [SP.eq]; omega))
        · intro act W2 hk
          refine FlowJ.does_intro rfl (fun Kq hK => ?_)
          have hx0 := Hd.mk ((Ext.drew U2).trans (hk.early (.inr (by kernel_rfl))))
          clear hk
          go_simp
          refine hK _ _ (Ext.alloc _ _) ⟨fun h => absurd h (by decide), fun h q hq u hu => ?_, fun q hq h => ?_⟩ (fun d hd => by cases hd; exact ⟨_, rfl, hx0.out.size, _, Blk.new _ _ _, rfl⟩)
          · simp only [List.mem_cons, List.not_mem_nil, or_false] at hq
            rcases hq with rfl | rfl | rfl
            · exact jx_alloc (.inl hu)
            · exact jx_alloc (.inl hu)
            · exact jx_alloc (.inr hu)
          · simp only [List.mem_cons, List.not_mem_nil, or_false] at hq
            rcases hq with rfl | rfl | rfl <;> cases h
        · intro act W2 hk
          refine FlowJ.does_intro rfl (fun Kq hK => ?_)
          obtain ⟨c9, e166, hr9⟩ := (hk.ve 166 (by kernel_rfl) (by kernel_rfl) : (spAggX zeroT).p _ _)
          obtain ⟨D, e24, hDn, cD, hD, hc6⟩ := (hk.ve 24 (by kernel_rfl) (by kernel_rfl) : (spBoxE _).p _ _)
          have hrel := hk.rel rfl (7, 166) (by simp)
          simp only [Array.getD_eq_getD_getElem?] at hrel
          rw [e166, e24] at hrel
          have hrt := Hd.mk (hrel D c9 rfl (.inr rfl))
          clear hrel hk
          obtain ⟨Ku, ku, rfl, _⟩ := hr9.row
          simp only [cT] at hrt e166
          clear hr9
          obtain ⟨x0, x1, x2, x3, x4, x5, rfl⟩ : ∃ x0 x1 x2 x3 x4 x5, cD = [x0, x1, x2, x3, x4, x5] := by match cD, hc6 with | [a, b, c, d, e, f], _ => exact ⟨a, b, c, d, e, f, rfl⟩
          have kD := Hd.mk hD
          have eA := Hd.mk e24
          have gD := kD.out.cell
          have fD := kD.out.free
          clear hD
          go_simp
          have hu := ((((((Upd.setCell W2 ⟨D, 0, none⟩ (.string zeroT.name)).trans (Upd.setCell _ ⟨D, 1, none⟩ (.string zeroT.key))).trans (Upd.setCell _ ⟨D, 2, none⟩ (.int .i64 zeroT.kind))).trans (Upd.setCell _ ⟨D, 3, none⟩ (.int .u64 zeroT.num))).trans (Upd.setCell _ ⟨D, 4, none⟩ (.string zeroT.text))).trans (Upd.setCell _ ⟨D, 5, none⟩ (.slice Ku zeroT.kids.length ku)))
          have kDn := ((((((kD.out.setCell 0 (.string zeroT.name)).setCell 1 (.string zeroT.key)).setCell 2 (.int .i64 zeroT.kind)).setCell 3 (.int .u64 zeroT.num)).setCell 4 (.string zeroT.text)).setCell 5 (.slice Ku zeroT.kids.length ku))
          refine hK undef _ (rb_upd hDn hu ⟨_, kDn, rfl⟩) ⟨fun _ D2 hD2 => ?_, fun h => absurd h (by decide), fun q hq h => ?_⟩ (fun d hd => by cases hd)
          · have e9b := eA.out
            rw [Array.getD_eq_getD_getElem?] at hD2
            rw [e9b] at hD2
            cases hD2
            exact ⟨_, kDn, hrt.out.upd hu (fun h => h rfl)⟩
          · simp only [List.mem_cons, List.not_mem_nil, or_false] at hq
            rcases hq with rfl | rfl | rfl <;> cases h
      · intro act V2 he
        have hxV2 := Hd.mk (rb_below (rb_trans (rb_ext (Ext.drew U2)) he.ext))
        obtain ⟨aP, hG1, hG2⟩ := he.post
        have hG9 := hG2 24 (by kernel_rfl)
        obtain ⟨us, hA, hF⟩ := he.out [160, 161, 162, 163, 164, 165, 159, 166, 167, 24] (by kernel_rfl)
        simp only [Flow.fillL, List.contains_cons, List.contains_nil, Nat.reduceBEq, Bool.or_false, Bool.false_or, Bool.or_true, Bool.true_or, ↓reduceIte, Nat.reduceAdd, Bool.false_eq_true] at hA
        subst hA
        have f167 : us 167 = .int .i64 2 := hF 167 (by simp)
        have f2 : (spBoxE U2.heap.size).p (us 24) V2 := hF 24 (by simp)
        clear hF he
        rw [f167]
        clear f167
        have hG9b : aP.tmps.getD 24 undef = us 24 := hG9
        obtain ⟨D, e9, hDn, _⟩ := f2
        rw [e9] at hG9b
        obtain ⟨cD, kD0, hrt⟩ := hG1 D hG9b
        rw [e9]
        clear e9 hG1 hG2 hG9 hG9b
        have hDn := Hd.mk hDn
        have kD := Hd.mk kD0
        obtain ⟨Ku, ku, rfl, _⟩ := hrt.row
        have hrm := Hd.mk hrt
        simp only [cT] at hrm kD
        clear kD0 hrt
        refine (show wpList _ _ _ (⟨some 25, .assign (.tmp 167), _, _, _, none⟩ :: _) _ _ from ?_)
        go_wp2_with fail
        go_ret
        exact ⟨rfl, kI.out.kx.trans hxV2.out⟩
end Go.Proofs.Ytgkgedjmnbjalaa
