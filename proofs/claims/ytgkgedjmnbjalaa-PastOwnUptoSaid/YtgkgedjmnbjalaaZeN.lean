/- Texts that the law needs, joined.
   Conditions: none. -/
import Derived.Test.YtgkgedjmnbjalaaZeM
import Derived.Test.YtgkgedjmnbjalaaZeJ
import Derived.Test.YtgkgedjmnbjalaaZeL
set_option linter.unusedSimpArgs false
set_option linter.unusedVariables false
namespace Go.Proofs.Ytgkgedjmnbjalaa
open Go.RowKit Go.Sort
theorem I28.mono {w W : World} {G G' : Nat → Prop} {p pN : Nat} {V : Value} {lp : List Pe} {ts : List T} {now : T} {Kn : Option Addr} {kn : Nat} (h : I28 w G p pN W V lp ts now Kn kn) (hg : ∀ b, b < W.heap.size → G b → G' b) (hG : ∀ b, W.heap.size ≤ b → G' b) : I28 w G' p pN W V lp ts now Kn kn :=
  h.out (Out.of_ext (Ext.refl W)) (fun h => h) (fun h => h) (fun _ _ h => h) (fun _ _ h => h) (fun b hb hG => ⟨fun h => h, hg b hb hG⟩) hG
theorem I28.apart {w W W3 : World} {G : Nat → Prop} {p pN : Nat} {V : Value} {lp : List Pe} {ts : List T} {now : T} {Kn : Option Addr} {kn : Nat} (h : I28 w G p pN W V lp ts now Kn kn) (hx : Ext W W3) : I28 w (fun b => G b ∧ ¬ (W.heap.size ≤ b ∧ b < W3.heap.size)) p pN W3 V lp ts now Kn kn :=
  ⟨h.kx.trans hx, (h.pr.mono (G' := fun b => G b ∧ ¬ (W.heap.size ≤ b ∧ b < W3.heap.size)) (fun b hb hg => ⟨hg, by omega⟩)).ext hx, h.pw, h.lo, h.box.ext hx, h.ne, h.nv, h.rt, h.tr, fun b hb => ⟨h.hG b (Nat.le_trans hx.size hb), by omega⟩⟩
theorem I28.callPushG {w W : World} {G : Nat → Prop} {p pN : Nat} {V : Value} {lp : List Pe} {ts : List T} {now x : T} {Kn : Option Addr} {kn : Nat} {ca cx : List Value} (h : I28 w G p pN W V lp ts now Kn kn) (ha : RT (fun _ => True) W now ca) (hx : RT (fun _ => True) W x cx) (hm : mayT x = true) :
    Calls Try.prog 79 #[.pointer (some ⟨p, 0, none⟩), .agg ca.toArray, .agg cx.toArray] W fun e w' => (ts.length < 8 ∧ e = .returned (.int .i64 0) ∧ ∃ V' A c, PastR G w' p V' (lp ++ [(inverse (edits 200 now x []), A, c)]) ∧ Fr p W V w' V') ∨ (ts.length = 8 ∧ e = .returned (.int .i64 35) ∧ Ext W w') := by
  have m1 := mayT_iff.1 h.tr.right
  have m2 := mayT_iff.1 hm
  have hd := now.deep_le
  have h9 := past_push G W p V lp now x _ _ h.pr ha hx 200 (by omega) (by omega) (by omega) h.hG
  rw [h.len] at h9
  exact h9
theorem I28.callAtF {w W W' : World} {G : Nat → Prop} {p pN : Nat} {V : Value} {lp : List Pe} {ts : List T} {now : T} {Kn : Option Addr} {kn : Nat} (h : I28 w G p pN W V lp ts now Kn kn) (hx : Ext W W') (n : Nat) (hn : n ≤ ts.length) :
    Calls Try.prog 82 #[.pointer (some ⟨p, 0, none⟩), .agg #[.string now.name, .string now.key, .int .i64 now.kind, .int .u64 now.num, .string now.text, .slice Kn now.kids.length kn], .int .i64 n] W' (Ret (AtPost (wasT (ts ++ [now]) n) W')) := by
  have hmay := mayT_iff.1 h.tr.right
  have hl := h.len
  exact past_at G W' p V lp now _ n (wasT (ts ++ [now])) (h.pr.ext hx) (h.rtW _ (h.kx.trans hx) (fun _ _ => trivial)) (by omega) (was_0 ts now) hmay.2.2.2.2.2.2 (by omega) (h.tr.chain (by omega))
theorem RF.out {S D : Nat → Prop} {w w' : World} {t : T} {c : List Value} (h : RF S w t c) (ho : Out D w w') (hs : ∀ b, b < w.heap.size → S b → ¬ D b) : RF S w' t c := RF.keep h fun b hb hS => ho.block b hb (hs b hb hS)
def LastIs (ts : List T) (was : T) : Prop := ∀ x, ts.getLast? = some x → x = was
theorem LastIs.push (ts : List T) (now : T) : LastIs (ts ++ [now]) now := fun x hx => by simpa using hx.symm
theorem LastIs.was {ts : List T} {was now : T} (h : LastIs ts was) (h0 : 0 < ts.length) : wasT (ts ++ [now]) 1 = was := by
  have hi : ts.length - 1 < ts.length := by omega
  rw [was_n (x := ts[ts.length - 1]) (i := ts.length - 1) (by omega) (by omega) (List.getElem?_eq_getElem hi)]
  exact h _ (by rw [List.getLast?_eq_getElem?]; exact List.getElem?_eq_getElem hi)
set_option maxRecDepth 100000 in
set_option maxHeartbeats 4000000 in
theorem own28_walk (l : List S28) (w : World) (A : Option Addr) (c : Nat) (h : SRow28 w A l c) :
    Calls Try.prog 22 #[.slice A l.length c] w fun e w' => e = .returned (.bool true) ∧ Ext w w' := by
  have kr := Hd.mk h
  have hlen := h.len
  have hnul := Hd.mk h.nul
  clear h
  go_enter Try.func22, Try.ntmps22
  go_wp2_with fail
  refine Calls.mono (awake28 w) ?_
  rintro e w1 ⟨rfl, hx⟩
  have k1 := Hd.mk hx
  clear hx
  go_wp2_with fail
  refine Calls.mono (may28_walk l w1 A c (kr.out.ext k1.out)) ?_
  rintro e w2 ⟨rfl, hx⟩
  replace k1 := Hd.mk (k1.out.trans hx)
  clear hx
  cases hm : may28 l with
  | false =>
    go_wp2_with fail
    go_ret
    exact ⟨rfl, k1.out⟩
  | true =>
  obtain ⟨hmay, hl40⟩ := may28_yes hm
  replace hmay := Hd.mk hmay
  replace hl40 := Hd.mk hl40
  clear hm
  go_wp2_with fail
  refine Calls.mono (past_new (fun _ => True) w2) ?_
  rintro e w3 ⟨rfl, hP, hx, hs⟩
  have hpw := Hd.mk k1.out.size
  replace k1 := Hd.mk (k1.out.trans hx)
  have kP := Hd.mk hP
  clear hx hP hs
  generalize w2.heap.size = p at *
  go_wp2_with fail
  have hpN := Hd.mk (show p < w3.heap.size from kP.out.box.lt)
  have kI : Hd (I28 w (fun b => b ≠ w3.heap.size ∧ b ≠ w3.heap.size + 1) p w3.heap.size ((w3.alloc (.cells #[.string ⟨#[]⟩, .string ⟨#[]⟩, .int .i64 0, .int .u64 0, .string ⟨#[]⟩, .slice none 0 0] 54)).alloc (.cells #[.string ⟨#[]⟩, .string ⟨#[]⟩, .int .i64 0, .int .u64 0, .string ⟨#[]⟩, .slice none 0 0] 54)) (.slice none 0 0) [] [] zeroT none 0) :=
    ⟨⟨(k1.out.trans (Ext.alloc _ _)).trans (Ext.alloc _ _), ((kP.out.mono (fun b hb _ => ⟨by omega, by omega⟩)).ext (Ext.alloc _ _)).ext (Ext.alloc _ _), hpw.out, k1.out.size, (Blk.new w3 _ _).alloc _, fun e => by have := kP.out.box.lt; omega, (fun e => by cases e), rt_zero _ _, Trail.nil, fun b hb => by simp at hb; exact ⟨by omega, by omega⟩⟩⟩
  have kM : Hd (Blk ((w3.alloc (.cells #[.string ⟨#[]⟩, .string ⟨#[]⟩, .int .i64 0, .int .u64 0, .string ⟨#[]⟩, .slice none 0 0] 54)).alloc (.cells #[.string ⟨#[]⟩, .string ⟨#[]⟩, .int .i64 0, .int .u64 0, .string ⟨#[]⟩, .slice none 0 0] 54)) (w3.heap.size + 1) [.string zeroT.name, .string zeroT.key, .int .i64 zeroT.kind, .int .u64 zeroT.num, .string zeroT.text, .slice none zeroT.kids.length 0] 54) := ⟨Blk.new2 w3 _ _ 54⟩
  have rM : Hd (RT (fun b => b < w.heap.size) w zeroT [.string zeroT.name, .string zeroT.key, .int .i64 zeroT.kind, .int .u64 zeroT.num, .string zeroT.text, .slice none zeroT.kids.length 0]) := ⟨rt_zero _ _⟩
  clear kP hpw k1
  generalize w3.heap.size = pN at *
  generalize (w3.alloc _).alloc _ = W at *
  obtain ⟨pM, hpM⟩ : ∃ pM, pM = pN + 1 := ⟨_, rfl⟩
  rw [← hpM] at kI kM ⊢
  replace hpM := Hd.mk hpM
  go_loopg [8] (l.length + 1) (fun qq i wr => ∃ (j : Nat) (V : Value) (lp : List Pe) (ts : List T) (now was : T) (Kn : Option Addr) (kn : Nat) (Kw : Option Addr) (kw : Nat), j ≤ l.length ∧ Hd (l.length - j < qq) ∧ i = .int .i64 j ∧ Hd (I28 w (fun b => b ≠ pN ∧ b ≠ pM) p pN wr V lp ts now Kn kn) ∧ Hd (Blk wr pM [.string was.name, .string was.key, .int .i64 was.kind, .int .u64 was.num, .string was.text, .slice Kw was.kids.length kw] 54) ∧ Hd (RT (fun b => b < w.heap.size) w was [.string was.name, .string was.key, .int .i64 was.kind, .int .u64 was.num, .string was.text, .slice Kw was.kids.length kw]) ∧ Hd (LastIs ts was) ∧ Hd (V.ownBlock ≠ some pM))
  case atStart => exact ⟨0, _, _, _, _, _, _, _, _, _, Nat.zero_le _, ⟨by omega⟩, rfl, kI, kM, rM, ⟨fun x hx => by cases hx⟩, ⟨fun h => by cases h⟩⟩
  case round =>
  clear kI kM rM
  obtain ⟨j, V, lp, ts, now, was, Kn, kn, Kw, kw, hj, hq, rfl, kI, kM, rM, hL, hvM⟩ := hrel
  generalize wr = W at *
  by_cases hlt : j < l.length
  · skip
    have hx1 := List.getElem?_eq_getElem hlt
    generalize l[j] = s at hx1
    obtain ⟨hsz, b, off, cs, rfl, hrt, hc⟩ := kr.out.step j s hx1
    have hmx := Hd.mk (hmay.out j s hx1)
    obtain ⟨sk, sn, x⟩ := s
    obtain ⟨Kx, kx0, rfl, _⟩ := hrt.row
    simp only at hsz hmx hrt hc
    have rx := Hd.mk (hrt.mono (S' := fun b => b < w.heap.size) (fun b hb _ => hb))
    simp only [cT] at rx hc
    clear hrt hx1 hsz
    have hin : Hd (∀ (q : Nat) v, ([.int .i64 sk, .int .i64 sn, .string x.name, .string x.key, .int .i64 x.kind, .int .u64 x.num, .string x.text, .slice Kx x.kids.length kx0])[q]? = some v → w.cell? ⟨b, off + j * 8 + q, none⟩ = some v) := ⟨hc⟩
    clear hc
    have hri := Hd.mk (mayT_iff.1 hmx.out).2.2.2.2.2.2
    have hrn := Hd.mk (mayT_iff.1 kI.out.tr.right).2.2.2.2.2.2
    have hsx := Hd.mk (mayT_iff.1 hmx.out).1
    have hsn := Hd.mk (mayT_iff.1 kI.out.tr.right).1
    have c2 := Ext.cell kI.out.kx (hin.out 2 _ rfl)
    have c3 := Ext.cell kI.out.kx (hin.out 3 _ rfl)
    have c4 := Ext.cell kI.out.kx (hin.out 4 _ rfl)
    have c5 := Ext.cell kI.out.kx (hin.out 5 _ rfl)
    have c6 := Ext.cell kI.out.kx (hin.out 6 _ rfl)
    have c7 := Ext.cell kI.out.kx (hin.out 7 _ rfl)
    go_wp2_with fail
    clear c2 c3 c4 c5 c6 c7
    refine Calls.mono (Calls.mono (ref_sortedF x.deep x (fun _ => True) W _ (Nat.le_refl _) (by have := hsx.out; omega) ((rx.out.ext kI.out.kx).mono fun _ _ _ => trivial)) (sort_rf hri.out)) ?_
    rintro e w4 ⟨c9, rfl, hr9, hx⟩
    obtain ⟨Kx9, kx9, rfl, _⟩ := RT.row hr9
    simp only [cT] at hr9 ⊢
    have kx1 := Hd.mk (hx.trans (Ext.alloc w4 (.cells #[.string x.name, .string x.key, .int .i64 x.kind, .int .u64 x.num, .string x.text, .slice Kx9 x.kids.length kx9] 54)))
    have rX := Hd.mk (RF.ext hr9 (Ext.alloc w4 (.cells #[.string x.name, .string x.key, .int .i64 x.kind, .int .u64 x.num, .string x.text, .slice Kx9 x.kids.length kx9] 54)))
    have bX := Hd.mk (Blk.new w4 #[.string x.name, .string x.key, .int .i64 x.kind, .int .u64 x.num, .string x.text, .slice Kx9 x.kids.length kx9] 54)
    have hs4 := Hd.mk hx.size
    clear hx hr9
    have gN := (kI.out.box.ext kx1.out).cell
    go_wp2_with fail
    clear gN
    generalize hp4 : w4.heap.size = pX at *
    replace hp4 := Hd.mk hp4
    generalize w4.alloc _ = W4 at *
    have hs5 := Hd.mk bX.out.lt
    refine Calls.mono (Calls.mono (ref_sortedF now.deep now (fun _ => True) W4 _ (Nat.le_refl _) (by have := hsn.out; omega) (kI.out.rtW _ (kI.out.kx.trans kx1.out) (fun _ _ => trivial))) (sort_rf hrn.out)) ?_
    rintro e w5 ⟨c9, rfl, hr9, hx⟩
    obtain ⟨Ko, ko, rfl, _⟩ := RT.row hr9
    simp only [cT] at hr9 ⊢
    have hxA := hx.trans (Ext.alloc w5 (.cells #[.string now.name, .string now.key, .int .i64 now.kind, .int .u64 now.num, .string now.text, .slice Ko now.kids.length ko] 54))
    have rO := Hd.mk (RF.ext hr9 (Ext.alloc w5 (.cells #[.string now.name, .string now.key, .int .i64 now.kind, .int .u64 now.num, .string now.text, .slice Ko now.kids.length ko] 54)))
    have bO := Hd.mk (Blk.new w5 #[.string now.name, .string now.key, .int .i64 now.kind, .int .u64 now.num, .string now.text, .slice Ko now.kids.length ko] 54)
    have hs6 := Hd.mk hx.size
    replace rX := Hd.mk (RF.ext rX.out hxA)
    replace bX := Hd.mk (bX.out.ext hxA)
    replace kx1 := Hd.mk (kx1.out.trans hxA)
    clear hx hxA hr9
    have gX := bX.out.cell
    go_wp2_with fail
    clear gX
    generalize hp5 : w5.heap.size = pO at *
    replace hp5 := Hd.mk hp5
    generalize w5.alloc _ = W5 at *
    have hs7 := Hd.mk bO.out.lt
    have hpl := Hd.mk kI.out.pr.box.lt
    have hnl := Hd.mk kI.out.box.lt
    have hml := Hd.mk kM.out.lt
    have hvl := Hd.mk (own_lt kI.out.pr.own)
    have hwl := Hd.mk kI.out.kx.size
    have kI5 := Hd.mk (kI.out.apart kx1.out)
    replace kM := Hd.mk (kM.out.ext kx1.out)
    generalize hlo : W.heap.size = lo at *
    generalize hhi : W5.heap.size = hi at *
    replace hlo := Hd.mk hlo
    replace hhi := Hd.mk hhi
    clear kx1
    refine Calls.mono (kI5.out.callPushG (RT.mono (fun _ _ _ => trivial) rO.out) (RT.mono (fun _ _ _ => trivial) rX.out) hmx.out) ?_
    rintro e w6 (⟨hf8, rfl, V6, A9, c9, hP, hF⟩ | ⟨hf8, rfl, hx⟩)
    · replace hP := Hd.mk hP
      replace hF := Hd.mk hF
      replace hf8 := Hd.mk hf8
      have kx6 := Hd.mk (past_ext kI5.out.kx kI5.out.pw kI5.out.pr hF.out)
      have kN6 := Hd.mk (hF.out.blk kI5.out.box kI5.out.ne kI5.out.nv)
      have hvm5 : V.ownBlock ≠ some pM := hvM.out
      replace kM := Hd.mk (hF.out.blk kM.out (by have := hpN.out; have := hpM.out; have := hs4.out; have := hs5.out; have := hs6.out; have := hs7.out; have := hp4.out; have := hp5.out; have := hhi.out; have := hpl.out; have := hnl.out; have := hml.out; have := hwl.out; omega) hvm5)
      have nv6 := Hd.mk (hF.out.ne kI5.out.box.lt kI5.out.nv)
      have hv6 := Hd.mk (hF.out.ne (show pM < W5.heap.size from (by have := hpN.out; have := hpM.out; have := hs4.out; have := hs5.out; have := hs6.out; have := hs7.out; have := hp4.out; have := hp5.out; have := hhi.out; have := hpl.out; have := hnl.out; have := hml.out; have := hwl.out; omega)) hvm5)
      have hoF := Out.of_fr hF.out
      have hVlo : ∀ b, V.ownBlock = some b → b < lo := fun b hb => hvl.out b hb
      replace bO := Hd.mk (hoF.blk bO.out (fun h => h.elim (fun e => (by have := hpN.out; have := hpM.out; have := hs4.out; have := hs5.out; have := hs6.out; have := hs7.out; have := hp4.out; have := hp5.out; have := hhi.out; have := hpl.out; have := hnl.out; have := hml.out; have := hwl.out; omega)) (fun e => by have h1 := hVlo _ e; have := hs4.out; have := hs5.out; have := hs6.out; have := hp4.out; have := hp5.out; omega)))
      replace bX := Hd.mk (hoF.blk bX.out (fun h => h.elim (fun e => (by have := hpN.out; have := hpM.out; have := hs4.out; have := hs5.out; have := hs6.out; have := hs7.out; have := hp4.out; have := hp5.out; have := hhi.out; have := hpl.out; have := hnl.out; have := hml.out; have := hwl.out; omega)) (fun e => by have h1 := hVlo _ e; have := hs4.out; have := hp4.out; omega)))
      replace rO := Hd.mk (RF.out rO.out hoF (fun b _ h1 h2 => h2.elim (fun e => by have h3 := h1.1; have := hs4.out; have := hs5.out; have := hp4.out; have := hpl.out; omega) (fun e => by have h4 := hVlo b e; have h3 := h1.1; have := hs4.out; have := hs5.out; have := hp4.out; omega)))
      replace rX := Hd.mk (RF.out rX.out hoF (fun b _ h1 h2 => h2.elim (fun e => by have h3 := h1.1; have := hpl.out; omega) (fun e => by have h4 := hVlo b e; have h3 := h1.1; omega)))
      have hsz6 := Hd.mk (show hi ≤ w6.heap.size by have := hF.out.size; have := hhi.out; omega)
      clear hoF hVlo hvm5
      have gN := kN6.out.cell
      go_wp2_with (with_reducible refine stop_at (.store 54 (.tmp 7) (.tmp 44)) ?_)
      refine Stop.mk ?_
      clear gN
      refine wpl_store_box 54 (.tmp 7) (.tmp 44) _ _ _ pM #[.string now.name, .string now.key, .int .i64 now.kind, .int .u64 now.num, .string now.text, .slice Kn now.kids.length kn] 54 _ kM.out rfl rfl size54 rfl rfl ?_
      intro w7 hu kM7
      replace hu := Hd.mk hu
      replace kM7 := Hd.mk (show Blk w7 pM [.string now.name, .string now.key, .int .i64 now.kind, .int .u64 now.num, .string now.text, .slice Kn now.kids.length kn] 54 from kM7)
      have hne := Hd.mk (show pN ≠ pM by have := hpM.out; omega)
      have kN7 := Hd.mk (hu.out.blk hne.out kN6.out)
      have hx7 := Hd.mk (Below.trans kx6.out (hu.out.below (show w.heap.size ≤ pM by have := kI5.out.lo; have := hpM.out; omega)))
      have hP7 := Hd.mk (hP.out.out (G' := fun b => (b ≠ pN ∧ b ≠ pM) ∧ ¬ (lo ≤ b ∧ b < hi)) (Out.of_upd hu.out) (fun e => (by have := hpN.out; have := hpM.out; have := hs4.out; have := hs5.out; have := hs6.out; have := hs7.out; have := hp4.out; have := hp5.out; have := hhi.out; have := hpl.out; have := hnl.out; have := hml.out; have := hwl.out; omega)) (fun b hb e => hv6.out (by rw [hb, e])) (fun b _ hg => ⟨hg.1.2, hg⟩))
      have ho := Out.of_upd hu.out
      replace bO := Hd.mk (ho.blk bO.out (fun e => (by have := hpN.out; have := hpM.out; have := hs4.out; have := hs5.out; have := hs6.out; have := hs7.out; have := hp4.out; have := hp5.out; have := hhi.out; have := hpl.out; have := hnl.out; have := hml.out; have := hwl.out; omega)))
      replace bX := Hd.mk (ho.blk bX.out (fun e => (by have := hpN.out; have := hpM.out; have := hs4.out; have := hs5.out; have := hs6.out; have := hs7.out; have := hp4.out; have := hp5.out; have := hhi.out; have := hpl.out; have := hnl.out; have := hml.out; have := hwl.out; omega)))
      replace rO := Hd.mk (RF.out rO.out ho (fun b _ h1 h2 => by have h3 := h1.1; have := hs4.out; have := hs5.out; have := hp4.out; have := hml.out; omega))
      replace rX := Hd.mk (RF.out rX.out ho (fun b _ h1 h2 => by have h3 := h1.1; have := hml.out; omega))
      have hsz7 := Hd.mk (Nat.le_trans hsz6.out (Nat.le_of_eq hu.out.size.symm))
      clear ho hu kx6 kN6 hP kM hsz6
      have c2 := Ext.cell hx7.out (hin.out 2 _ rfl)
      have c3 := Ext.cell hx7.out (hin.out 3 _ rfl)
      have c4 := Ext.cell hx7.out (hin.out 4 _ rfl)
      have c5 := Ext.cell hx7.out (hin.out 5 _ rfl)
      have c6 := Ext.cell hx7.out (hin.out 6 _ rfl)
      have c7 := Ext.cell hx7.out (hin.out 7 _ rfl)
      go_wp2_with (with_reducible refine stop_at (.store 54 (.tmp 6) (.tmp 49)) ?_)
      refine Stop.mk ?_
      clear c2 c3 c4 c5 c6 c7
      refine wpl_store_box 54 (.tmp 6) (.tmp 49) _ _ _ pN #[.string x.name, .string x.key, .int .i64 x.kind, .int .u64 x.num, .string x.text, .slice Kx x.kids.length kx0] 54 _ kN7.out rfl rfl size54 rfl rfl ?_
      intro w8 hu kN8
      replace hu := Hd.mk hu
      replace kN8 := Hd.mk (show Blk w8 pN [.string x.name, .string x.key, .int .i64 x.kind, .int .u64 x.num, .string x.text, .slice Kx x.kids.length kx0] 54 from kN8)
      have ho := Out.of_upd hu.out
      have kI6 := Hd.mk (kI5.out.turn (G' := fun b => (b ≠ pN ∧ b ≠ pM) ∧ ¬ (lo ≤ b ∧ b < hi)) (Below.trans hx7.out (hu.out.below kI5.out.lo)) (hP7.out.out ho (fun e => kI5.out.ne e.symm) (fun b hb e => nv6.out (by rw [hb, e])) (fun b _ hg => ⟨hg.1.1, hg⟩)) kN8.out nv6.out rx.out hmx.out (fun b hb => by have h1 := hu.out.size; have h2 := hsz7.out; exact ⟨⟨(by have := hpN.out; have := hpM.out; have := hs4.out; have := hs5.out; have := hs6.out; have := hs7.out; have := hp4.out; have := hp5.out; have := hhi.out; have := hpl.out; have := hnl.out; have := hml.out; have := hwl.out; omega), (by have := hpN.out; have := hpM.out; have := hs4.out; have := hs5.out; have := hs6.out; have := hs7.out; have := hp4.out; have := hp5.out; have := hhi.out; have := hpl.out; have := hnl.out; have := hml.out; have := hwl.out; omega)⟩, (by have := hpN.out; have := hpM.out; have := hs4.out; have := hs5.out; have := hs6.out; have := hs7.out; have := hp4.out; have := hp5.out; have := hhi.out; have := hpl.out; have := hnl.out; have := hml.out; have := hwl.out; omega)⟩))
      have kM := Hd.mk (ho.blk kM7.out (fun e => hne.out e.symm))
      replace bO := Hd.mk (ho.blk bO.out (fun e => (by have := hpN.out; have := hpM.out; have := hs4.out; have := hs5.out; have := hs6.out; have := hs7.out; have := hp4.out; have := hp5.out; have := hhi.out; have := hpl.out; have := hnl.out; have := hml.out; have := hwl.out; omega)))
      replace bX := Hd.mk (ho.blk bX.out (fun e => (by have := hpN.out; have := hpM.out; have := hs4.out; have := hs5.out; have := hs6.out; have := hs7.out; have := hp4.out; have := hp5.out; have := hhi.out; have := hpl.out; have := hnl.out; have := hml.out; have := hwl.out; omega)))
      replace rO := Hd.mk (RF.out rO.out ho (fun b _ h1 h2 => by have h3 := h1.1; have := hs4.out; have := hs5.out; have := hp4.out; have := hnl.out; omega))
      replace rX := Hd.mk (RF.out rX.out ho (fun b _ h1 h2 => by have h3 := h1.1; have := hnl.out; omega))
      have hsz6 := Hd.mk (Nat.le_trans hsz7.out (Nat.le_of_eq hu.out.size.symm))
      have rM := Hd.mk kI5.out.rt
      have hL := Hd.mk (LastIs.push ts now)
      clear ho hu hx7 kN7 kN8 hP7 kM7 hsz7 kI5 kI hF hne nv6 hvM
      generalize ts ++ [now] = ts2 at *
      generalize lp ++ _ = lp2 at *
      have gO := bO.out.cell
      go_wp2_with fail
      clear gO
      refine Calls.mono (over28 now.deep (fun b => W4.heap.size ≤ b ∧ b < pO) _ _ _ _ _ _ _ _ _ (rO.out.shc (Nat.le_refl _)).1 (fun b hb => by have := hsz6.out; have := hp5.out; have := hs7.out; have := hhi.out; omega) (rO.out.shc (Nat.le_refl _)).2) ?_
      rintro e w8 ⟨rfl, hT⟩
      have ho := Out.of_touch hT
      replace kI6 := Hd.mk (kI6.out.out (G' := fun b => (b ≠ pN ∧ b ≠ pM) ∧ ¬ (lo ≤ b ∧ b < hi)) ho (fun h => (by have := hpN.out; have := hpM.out; have := hs4.out; have := hs5.out; have := hs6.out; have := hs7.out; have := hp4.out; have := hp5.out; have := hhi.out; have := hpl.out; have := hnl.out; have := hml.out; have := hwl.out; omega)) (fun h => (by have := hpN.out; have := hpM.out; have := hs4.out; have := hs5.out; have := hs6.out; have := hs7.out; have := hp4.out; have := hp5.out; have := hhi.out; have := hpl.out; have := hnl.out; have := hml.out; have := hwl.out; omega)) (fun b hb h => (kI6.out.pr.row b hb).2 ⟨(by have := hpN.out; have := hpM.out; have := hs4.out; have := hs5.out; have := hs6.out; have := hs7.out; have := hp4.out; have := hp5.out; have := hhi.out; have := hpl.out; have := hnl.out; have := hml.out; have := hwl.out; omega), (by have := hpN.out; have := hpM.out; have := hs4.out; have := hs5.out; have := hs6.out; have := hs7.out; have := hp4.out; have := hp5.out; have := hhi.out; have := hpl.out; have := hnl.out; have := hml.out; have := hwl.out; omega)⟩) (fun b hb h => (by have := hpN.out; have := hpM.out; have := hs4.out; have := hs5.out; have := hs6.out; have := hs7.out; have := hp4.out; have := hp5.out; have := hhi.out; have := hpl.out; have := hnl.out; have := hml.out; have := hwl.out; omega)) (fun b hb hg => ⟨fun h => hg.2 ⟨(by have := hpN.out; have := hpM.out; have := hs4.out; have := hs5.out; have := hs6.out; have := hs7.out; have := hp4.out; have := hp5.out; have := hhi.out; have := hpl.out; have := hnl.out; have := hml.out; have := hwl.out; omega), (by have := hpN.out; have := hpM.out; have := hs4.out; have := hs5.out; have := hs6.out; have := hs7.out; have := hp4.out; have := hp5.out; have := hhi.out; have := hpl.out; have := hnl.out; have := hml.out; have := hwl.out; omega)⟩, hg⟩) (fun b hb => kI6.out.hG b (Nat.le_trans ho.size hb)))
      replace kM := Hd.mk (ho.blk kM.out (fun h => (by have := hpN.out; have := hpM.out; have := hs4.out; have := hs5.out; have := hs6.out; have := hs7.out; have := hp4.out; have := hp5.out; have := hhi.out; have := hpl.out; have := hnl.out; have := hml.out; have := hwl.out; omega)))
      replace bX := Hd.mk (ho.blk bX.out (fun h => (by have := hpN.out; have := hpM.out; have := hs4.out; have := hs5.out; have := hs6.out; have := hs7.out; have := hp4.out; have := hp5.out; have := hhi.out; have := hpl.out; have := hnl.out; have := hml.out; have := hwl.out; omega)))
      replace rX := Hd.mk (RF.out rX.out ho (fun b hb h1 h2 => by have h3 := h1.2; have h4 := h2.1; have := hp4.out; have := hs5.out; omega))
      replace hsz6 := Hd.mk (Nat.le_trans hsz6.out ho.size)
      clear hT ho rO bO
      have gX := bX.out.cell
      go_wp2_with fail
      clear gX
      refine Calls.mono (over28 x.deep (fun b => lo ≤ b ∧ b < pX) _ _ _ _ _ _ _ _ _ (rX.out.shc (Nat.le_refl _)).1 (fun b hb => by have := hsz6.out; have := hs7.out; have := hs5.out; have := hp4.out; have := hs6.out; have := hp5.out; have := hhi.out; omega) (rX.out.shc (Nat.le_refl _)).2) ?_
      rintro e w9 ⟨rfl, hT⟩
      have ho := Out.of_touch hT
      replace kI6 := Hd.mk (kI6.out.out (G' := (fun b => b ≠ pN ∧ b ≠ pM)) ho (fun h => (by have := hpN.out; have := hpM.out; have := hs4.out; have := hs5.out; have := hs6.out; have := hs7.out; have := hp4.out; have := hp5.out; have := hhi.out; have := hpl.out; have := hnl.out; have := hml.out; have := hwl.out; omega)) (fun h => (by have := hpN.out; have := hpM.out; have := hs4.out; have := hs5.out; have := hs6.out; have := hs7.out; have := hp4.out; have := hp5.out; have := hhi.out; have := hpl.out; have := hnl.out; have := hml.out; have := hwl.out; omega)) (fun b hb h => (kI6.out.pr.row b hb).2 ⟨(by have := hpN.out; have := hpM.out; have := hs4.out; have := hs5.out; have := hs6.out; have := hs7.out; have := hp4.out; have := hp5.out; have := hhi.out; have := hpl.out; have := hnl.out; have := hml.out; have := hwl.out; omega), (by have := hpN.out; have := hpM.out; have := hs4.out; have := hs5.out; have := hs6.out; have := hs7.out; have := hp4.out; have := hp5.out; have := hhi.out; have := hpl.out; have := hnl.out; have := hml.out; have := hwl.out; omega)⟩) (fun b hb h => (by have := hpN.out; have := hpM.out; have := hs4.out; have := hs5.out; have := hs6.out; have := hs7.out; have := hp4.out; have := hp5.out; have := hhi.out; have := hpl.out; have := hnl.out; have := hml.out; have := hwl.out; omega)) (fun b hb hg => ⟨fun h => hg.2 ⟨(by have := hpN.out; have := hpM.out; have := hs4.out; have := hs5.out; have := hs6.out; have := hs7.out; have := hp4.out; have := hp5.out; have := hhi.out; have := hpl.out; have := hnl.out; have := hml.out; have := hwl.out; omega), (by have := hpN.out; have := hpM.out; have := hs4.out; have := hs5.out; have := hs6.out; have := hs7.out; have := hp4.out; have := hp5.out; have := hhi.out; have := hpl.out; have := hnl.out; have := hml.out; have := hwl.out; omega)⟩, hg.1⟩) (fun b hb => (kI6.out.hG b (Nat.le_trans ho.size hb)).1))
      replace kM := Hd.mk (ho.blk kM.out (fun h => (by have := hpN.out; have := hpM.out; have := hs4.out; have := hs5.out; have := hs6.out; have := hs7.out; have := hp4.out; have := hp5.out; have := hhi.out; have := hpl.out; have := hnl.out; have := hml.out; have := hwl.out; omega)))
      clear hT ho rX bX hsz6 hs4 hs5 hs6 hs7 hp4 hp5 hhi hlo hpl hnl hml hwl hvl
      obtain ⟨mn, hmn0⟩ : ∃ m, m = min ts2.length 1 := ⟨_, rfl⟩
      have hmn := Hd.mk (show min (ts2.length : Int) 1 = (mn : Int) by omega)
      have hmle := Hd.mk (show mn ≤ ts2.length by omega)
      have hw1 := Hd.mk (show 0 < ts2.length → wasT (ts2 ++ [x]) mn = now from fun h0 => by rw [show mn = 1 by omega]; exact hL.out.was h0)
      have hAt := Hd.mk (fun W' (hx : Ext w9 W') => kI6.out.callAtF hx mn hmle.out)
      generalize wasT (ts2 ++ [x]) mn = t at hAt hw1
      replace hAt := Hd.mk (fun W' (hx : Ext w9 W') => (show Calls Try.prog 82 _ W' (Ret fun w'' v => ∃ c : List Value, v = .tuple #[.agg c.toArray, .int .i64 0] ∧ RF (fun b => W'.heap.size ≤ b) w'' t c ∧ Ext W' w'') from hAt.out W' hx))
      clear hmn0
      go_wp2_with fail
      refine FlowJ.wp_region_flow_l (x := 9) (tx := 11) (Y := [(5, 60), (6, 54), (7, 61)]) (J := JF t [.int .i64 0] w9.heap.size) (G := GF 11 t w9.heap.size) (gf_ext _ _ _) (R := Rb w9.heap.size) 10 (fun _ _ h => rb_ext h) (fun h k => rb_trans h k) (fun qq => match qq with
        | 55 => SP.eq (.pointer (some ⟨p, 0, none⟩))
        | 56 => SP.eq (.agg #[.string x.name, .string x.key, .int .i64 x.kind, .int .u64 x.num, .string x.text, .slice Kx x.kids.length kx0])
        | 57 => SP.eq (.pointer (some ⟨p, 0, none⟩))
        | 58 => SP.eq (.int .i64 (ts2.length : Nat))
        | 59 => SP.eq (.int .i64 (mn : Nat))
        | 60 => spTupF t [.int .i64 0] w9.heap.size
        | 54 => spTupF t [.int .i64 0] w9.heap.size
        | 61 => spAggF t w9.heap.size
        | 62 => SP.eq (.int .i64 0)
        | 11 => spBoxE w9.heap.size
        | _ => SP.any) (FlowJ.over [(60, spFormX [.int .i64 0]), (54, spFormX [.int .i64 0]), (61, SP.any)] (fun qq => match qq with
        | 55 => SP.eq (.pointer (some ⟨p, 0, none⟩))
        | 56 => SP.eq (.agg #[.string x.name, .string x.key, .int .i64 x.kind, .int .u64 x.num, .string x.text, .slice Kx x.kids.length kx0])
        | 57 => SP.eq (.pointer (some ⟨p, 0, none⟩))
        | 58 => SP.eq (.int .i64 (ts2.length : Nat))
        | 59 => SP.eq (.int .i64 (mn : Nat))
        | 60 => spTupF t [.int .i64 0] w9.heap.size
        | 54 => spTupF t [.int .i64 0] w9.heap.size
        | 61 => spAggF t w9.heap.size
        | 62 => SP.eq (.int .i64 0)
        | 11 => spBoxE w9.heap.size
        | _ => SP.any)) 11 (by kernel_rfl) 99 rfl (by kernel_rfl) (of_decide_eq_true (by kernel_rfl)) (by decide) (by kernel_rfl) ?_ ?_ ?_ ?_ ?_
      · refine ⟨by decide, rfl, by kernel_rfl, ?_, jf_mono _ _ _⟩
        intro q hq
        simp only [List.mem_cons, List.not_mem_nil, or_false] at hq
        rcases hq with rfl | rfl | rfl
        all_goals exact ⟨by decide, by decide, by decide, rfl, by kernel_rfl⟩
      · refine FlowJ.over_weak (fun q hq => ?_)
        simp only [List.mem_cons, List.not_mem_nil, or_false] at hq
        rcases hq with rfl | rfl | rfl
        · exact fun u v1 ⟨c, e, _⟩ => ⟨c, e⟩
        · exact fun u v1 ⟨c, e, _⟩ => ⟨c, e⟩
        · exact fun u v1 _ => trivial
      · intro q hq u' v1 v2 hR
        by_cases q0 : q = 60
        · subst q0; exact fun ⟨c, e, _⟩ => ⟨c, e⟩
        by_cases q1 : q = 54
        · subst q1; exact fun ⟨c, e, _⟩ => ⟨c, e⟩
        by_cases q2 : q = 61
        · subst q2; exact fun _ => trivial
        rw [over_ne q0, over_ne q1, over_ne q2]
        simp only [FlowJ.over]
        split
        all_goals first | exact fun h => h | exact absurd rfl q0 | exact absurd rfl q1 | exact absurd rfl q2 | exact fun ⟨D, e, h1, c, hb, hc⟩ => ⟨D, e, h1, hR.2.2 D c hb hc⟩
      · refine ⟨?_, ?_, ?_, ?_, ?_, ?_, ?_, ?_, ?_, ?_, ?_, trivial⟩
        · intro act W2 hk
          refine FlowJ.does_intro rfl (fun Kq hK => ?_)
          have e5 : act.tmps[5]?.getD undef = .pointer (some ⟨p, 0, none⟩) := hk.o 5 (by kernel_rfl)
          clear hk
          go_simp
          exact hK _ _ (Ext.refl _) (xt_no (by decide) (by decide) (by decide)) (fun d hd => by cases hd; first | rfl | (simp [SP.eq]; omega))
        · intro act W2 hk
          refine FlowJ.does_intro rfl (fun Kq hK => ?_)
          have e6 : act.tmps[6]?.getD undef = .pointer (some ⟨pN, 0, none⟩) := hk.o 6 (by kernel_rfl)
          have g := ((kI6.out.box).ext ((Ext.drew w9).trans (hk.early (.inr (by kernel_rfl))))).cell
          clear hk
          go_simp
          exact hK _ _ (Ext.refl _) (xt_no (by decide) (by decide) (by decide)) (fun d hd => by cases hd; first | rfl | (simp [SP.eq]; omega))
        · intro act W2 hk
          refine FlowJ.does_intro rfl (fun Kq hK => ?_)
          have e5 : act.tmps[5]?.getD undef = .pointer (some ⟨p, 0, none⟩) := hk.o 5 (by kernel_rfl)
          clear hk
          go_simp
          exact hK _ _ (Ext.refl _) (xt_no (by decide) (by decide) (by decide)) (fun d hd => by cases hd; first | rfl | (simp [SP.eq]; omega))
        · intro act W2 hk
          refine FlowJ.does_intro rfl (fun Kq hK => ?_)
          have e57 : act.tmps[57]?.getD undef = .pointer (some ⟨p, 0, none⟩) := hk.ve 57 (by kernel_rfl) (by kernel_rfl)
          have hx0 := Hd.mk ((Ext.drew w9).trans (hk.early (.inr (by kernel_rfl))))
          clear hk
          go_simp
          refine Calls.mono (kI6.out.ext hx0.out).callLen ?_
          rintro e W3 ⟨rfl, hx⟩
          exact hK _ _ hx (xt_no (by decide) (by decide) (by decide)) (fun d hd => by cases hd; rfl)
        · intro act W2 hk
          refine FlowJ.does_intro rfl (fun Kq hK => ?_)
          have e58 : act.tmps[58]?.getD undef = .int .i64 (ts2.length : Nat) := hk.ve 58 (by kernel_rfl) (by kernel_rfl)
          have hmn1 := hmn.out
          clear hk
          go_simp
          exact hK _ _ (Ext.refl _) (xt_no (by decide) (by decide) (by decide)) (fun d hd => by cases hd; first | rfl | (simp [SP.eq]; first | omega | (rw [hmn1])))
        · intro act W2 hk
          refine FlowJ.does_intro rfl (fun Kq hK => ?_)
          have e55 : act.tmps[55]?.getD undef = .pointer (some ⟨p, 0, none⟩) := hk.ve 55 (by kernel_rfl) (by kernel_rfl)
          have e56 : act.tmps[56]?.getD undef = .agg #[.string x.name, .string x.key, .int .i64 x.kind, .int .u64 x.num, .string x.text, .slice Kx x.kids.length kx0] := hk.ve 56 (by kernel_rfl) (by kernel_rfl)
          have e59 : act.tmps[59]?.getD undef = .int .i64 (mn : Nat) := hk.ve 59 (by kernel_rfl) (by kernel_rfl)
          have hx0 := Hd.mk ((Ext.drew w9).trans (hk.early (.inr (by kernel_rfl))))
          have hsz0 := hx0.out.size
          clear hk
          go_simp
          refine Calls.mono (hAt.out _ hx0.out) ?_
          rintro e W3 ⟨_, rfl, c9, rfl, hr9, hx⟩
          exact hK _ _ hx ⟨fun h => absurd h (by decide), fun h => absurd h (by decide), fun q hq h u hu _ => jf_call hsz0 hr9 hu⟩ (fun d hd => by cases hd; exact ⟨c9, rfl, hr9.mono (fun b _ hb => Nat.le_trans hsz0 hb)⟩)
        · intro act W2 hk
          refine FlowJ.does_intro rfl (fun Kq hK => ?_)
          obtain ⟨c9, e60, hr9⟩ := (hk.ve 60 (by kernel_rfl) (by kernel_rfl) : (spTupF t [.int .i64 0] w9.heap.size).p _ _)
          clear hk
          go_simp
          refine hK _ _ (Ext.refl _) ⟨fun h => absurd h (by decide), fun h => absurd h (by decide), fun q hq h u hu hj => ?_⟩ (fun d hd => by cases hd; exact ⟨c9, rfl, hr9⟩)
          have h1 := hj (5, 60) (by simp) (by kernel_rfl)
          rw [Array.getD_eq_getD_getElem?] at h1
          rw [e60] at h1
          exact h1
        · intro act W2 hk
          refine FlowJ.does_intro rfl (fun Kq hK => ?_)
          obtain ⟨c9, e54, hr9⟩ := (hk.ve 54 (by kernel_rfl) (by kernel_rfl) : (spTupF t [.int .i64 0] w9.heap.size).p _ _)
          clear hk
          go_simp
          refine hK _ _ (Ext.refl _) ⟨fun h => absurd h (by decide), fun h => absurd h (by decide), fun q hq h u hu hj => ?_⟩ (fun d hd => by cases hd; exact ⟨c9, rfl, hr9⟩)
          have h1 := hj (6, 54) (by simp) (by kernel_rfl)
          rw [Array.getD_eq_getD_getElem?] at h1
          rw [e54] at h1
          exact jf_take h1
        · intro act W2 hk
          refine FlowJ.does_intro rfl (fun Kq hK => ?_)
          obtain ⟨c9, e54⟩ := (hk.v 54 (by kernel_rfl) : (spFormX [.int .i64 0]).p _ _)
          clear hk
          go_simp
          exact hK _ _ (Ext.refl _) (xt_no (by decide) (by decide) (by decide)) (fun d hd => by cases hd; first | rfl | (simp [SP.eq]; omega))
        · intro act W2 hk
          refine FlowJ.does_intro rfl (fun Kq hK => ?_)
          have hx0 := Hd.mk ((Ext.drew w9).trans (hk.early (.inr (by kernel_rfl))))
          clear hk
          go_simp
          refine hK _ _ (Ext.alloc _ _) ⟨fun h => absurd h (by decide), fun h q hq u hu => ?_, fun q hq h => ?_⟩ (fun d hd => by cases hd; exact ⟨_, rfl, hx0.out.size, _, Blk.new _ _ _, rfl⟩)
          · simp only [List.mem_cons, List.not_mem_nil, or_false] at hq
            rcases hq with rfl | rfl | rfl
            · exact jf_alloc (.inl hu)
            · exact jf_alloc (.inl hu)
            · exact jf_alloc (.inr hu)
          · simp only [List.mem_cons, List.not_mem_nil, or_false] at hq
            rcases hq with rfl | rfl | rfl <;> cases h
        · intro act W2 hk
          refine FlowJ.does_intro rfl (fun Kq hK => ?_)
          obtain ⟨c9, e61, hr9⟩ := (hk.ve 61 (by kernel_rfl) (by kernel_rfl) : (spAggF t w9.heap.size).p _ _)
          obtain ⟨D, e11, hDn, cD, hD, hc6⟩ := (hk.ve 11 (by kernel_rfl) (by kernel_rfl) : (spBoxE _).p _ _)
          have hrel := hk.rel rfl (7, 61) (by simp)
          simp only [Array.getD_eq_getD_getElem?] at hrel
          rw [e61, e11] at hrel
          have hrt := Hd.mk (hrel D c9 rfl (.inr rfl))
          clear hrel hk
          obtain ⟨Ku, ku, rfl, _⟩ := hr9.row
          simp only [cT] at hrt e61
          clear hr9
          obtain ⟨x0, x1, x2, x3, x4, x5, rfl⟩ : ∃ x0 x1 x2 x3 x4 x5, cD = [x0, x1, x2, x3, x4, x5] := by match cD, hc6 with | [a, b, c, d, e, f], _ => exact ⟨a, b, c, d, e, f, rfl⟩
          have kD := Hd.mk hD
          have eA := Hd.mk e11
          have gD := kD.out.cell
          have fD := kD.out.free
          clear hD
          go_simp
          have hu := ((((((Upd.setCell W2 ⟨D, 0, none⟩ (.string t.name)).trans (Upd.setCell _ ⟨D, 1, none⟩ (.string t.key))).trans (Upd.setCell _ ⟨D, 2, none⟩ (.int .i64 t.kind))).trans (Upd.setCell _ ⟨D, 3, none⟩ (.int .u64 t.num))).trans (Upd.setCell _ ⟨D, 4, none⟩ (.string t.text))).trans (Upd.setCell _ ⟨D, 5, none⟩ (.slice Ku t.kids.length ku)))
          have kDn := ((((((kD.out.setCell 0 (.string t.name)).setCell 1 (.string t.key)).setCell 2 (.int .i64 t.kind)).setCell 3 (.int .u64 t.num)).setCell 4 (.string t.text)).setCell 5 (.slice Ku t.kids.length ku))
          refine hK undef _ (rb_upd hDn hu ⟨_, kDn, rfl⟩) ⟨fun _ D2 hD2 => ?_, fun h => absurd h (by decide), fun q hq h => ?_⟩ (fun d hd => by cases hd)
          · have e9b := eA.out
            rw [Array.getD_eq_getD_getElem?] at hD2
            rw [e9b] at hD2
            cases hD2
            exact ⟨_, kDn, hrt.out.upd hu (fun h => h.2 rfl)⟩
          · simp only [List.mem_cons, List.not_mem_nil, or_false] at hq
            rcases hq with rfl | rfl | rfl <;> cases h
      · intro act V2 he
        have hxV2 := Hd.mk (rb_below (rb_trans (rb_ext (Ext.drew w9)) he.ext))
        obtain ⟨aP, hG1, hG2⟩ := he.post
        have hG9 := hG2 11 (by kernel_rfl)
        obtain ⟨us, hA, hF⟩ := he.out [55, 56, 57, 58, 59, 60, 54, 61, 62, 11] (by kernel_rfl)
        simp only [Flow.fillL, List.contains_cons, List.contains_nil, Nat.reduceBEq, Bool.or_false, Bool.false_or, Bool.or_true, Bool.true_or, ↓reduceIte, Nat.reduceAdd, Bool.false_eq_true] at hA
        subst hA
        have f62 : us 62 = .int .i64 0 := hF 62 (by simp)
        have f2 : (spBoxE w9.heap.size).p (us 11) V2 := hF 11 (by simp)
        clear hF he
        rw [f62]
        clear f62
        have hG9b : aP.tmps.getD 11 undef = us 11 := hG9
        obtain ⟨D, e9, hDn, _⟩ := f2
        rw [e9] at hG9b
        obtain ⟨cD, kD0, hrt⟩ := hG1 D hG9b
        rw [e9]
        clear e9 hG1 hG2 hG9 hG9b
        have hDn := Hd.mk hDn
        have kD := Hd.mk kD0
        obtain ⟨Ku, ku, rfl, _⟩ := hrt.row
        have hrm := Hd.mk hrt
        simp only [cT] at hrm kD
        clear kD0 hrt
        have kI60 := kI6
        refine (show wpList _ _ _ (⟨some 12, .assign (.tmp 62), _, _, _, none⟩ :: _) _ _ from ?_)
        have hlo9 := Hd.mk kI6.out.box.lt
        have hpo9 := Hd.mk kI6.out.pr.box.lt
        have hmo9 := Hd.mk kM.out.lt
        have hw9 := Hd.mk kI6.out.kx.size
        replace kI6 := Hd.mk (kI6.out.ext hxV2.out)
        replace kM := Hd.mk (kM.out.ext hxV2.out)
        have hx9 := Hd.mk hxV2.out
        have kI9 := Hd.mk (kI60.out.apart hx9.out)
        clear hAt hxV2
        by_cases h0 : 0 < ts2.length
        · have h0i : (0 : Int) < (ts2.length : Int) := by omega
          replace h0 := Hd.mk h0
          go_wp2_with fail
          refine Calls.mono kI6.out.callLen ?_
          rintro e w10 ⟨rfl, hx⟩
          replace kI6 := Hd.mk (kI6.out.ext hx)
          replace kM := Hd.mk (kM.out.ext hx)
          replace kD := Hd.mk (kD.out.ext hx)
          replace hrm := Hd.mk (RF.ext hrm.out hx)
          replace hx9 := Hd.mk (hx9.out.trans hx)
          clear hx
          have hwt := hw1.out h0.out
          subst hwt
          have gD := kD.out.cell
          have gM := kM.out.cell
          go_wp2_with fail
          clear gD gM
          have hsm := ref_same t.deep t t (fun _ => True) _ _ _ (Nat.le_refl _) (RT.mono (fun _ _ _ => trivial) hrm.out) (show RT (fun _ => True) _ t _ from (rM.out.ext kI6.out.kx).mono fun _ _ _ => trivial)
          rw [sameT_rfl] at hsm
          refine Calls.mono hsm ?_
          rintro e w11 ⟨rfl, hx⟩
          replace kI6 := Hd.mk (kI6.out.ext hx)
          replace kM := Hd.mk (kM.out.ext hx)
          replace kD := Hd.mk (kD.out.ext hx)
          replace hrm := Hd.mk (RF.ext hrm.out hx)
          replace hx9 := Hd.mk (hx9.out.trans hx)
          clear hx hsm
          have gD := kD.out.cell
          go_wp2_with fail
          clear gD
          have hrl := Hd.mk (RF.mono (S' := fun b => (w9.heap.size ≤ b ∧ b ≠ D) ∧ b < _) hrm.out (fun b hlt hb => ⟨hb, hlt⟩))
          refine Calls.mono (over28 t.deep _ _ _ _ _ _ _ _ _ _ (hrl.out.shc (Nat.le_refl _)).1 (fun b hb => hb.2) (hrl.out.shc (Nat.le_refl _)).2) ?_
          rintro e w12 ⟨rfl, hT⟩
          have ho := Out.of_touch hT
          replace kI9 := Hd.mk (kI60.out.apart hx9.out)
          have kI7 := Hd.mk (kI9.out.out (G' := (fun b => b ≠ pN ∧ b ≠ pM)) ho (fun h => by have h1 := h.1.1; have h2 := hpo9.out; omega) (fun h => by have h1 := h.1.1; have h2 := hlo9.out; omega) (fun b hb h => (kI9.out.pr.row b hb).2 ⟨h.1.1, h.2⟩) (fun b hb h => by have h1 := h.1.1; have h2 := hw9.out; omega) (fun b hb hg => ⟨fun h => hg.2 ⟨h.1.1, h.2⟩, hg.1⟩) (fun b hb => (kI9.out.hG b (Nat.le_trans ho.size hb)).1))
          replace kM := Hd.mk (ho.blk kM.out (fun h => by have h1 := h.1.1; have h2 := hmo9.out; omega))
          clear hT ho hrl hrm kD kI9 kI6
          go_wp2_with fail
          go_roundg (l.length - j)
          case measure => have := hq.out; omega
          case rel => exact ⟨j + 1, V6, lp2, ts2, x, t, Kx, kx0, Kn, kn, by omega, ⟨by omega⟩, by go_num, kI7, kM, rM, hL, hv6⟩
        · have h0i : ¬ (0 : Int) < (ts2.length : Int) := by omega
          replace h0 := Hd.mk h0
          go_wp2_with fail
          refine Calls.mono kI6.out.callLen ?_
          rintro e w10 ⟨rfl, hx⟩
          replace kI6 := Hd.mk (kI6.out.ext hx)
          replace kM := Hd.mk (kM.out.ext hx)
          replace kD := Hd.mk (kD.out.ext hx)
          replace hrm := Hd.mk (RF.ext hrm.out hx)
          replace hx9 := Hd.mk (hx9.out.trans hx)
          clear hx
          have gD := kD.out.cell
          go_wp2_with fail
          clear gD
          have hrl := Hd.mk (RF.mono (S' := fun b => (w9.heap.size ≤ b ∧ b ≠ D) ∧ b < _) hrm.out (fun b hlt hb => ⟨hb, hlt⟩))
          refine Calls.mono (over28 t.deep _ _ _ _ _ _ _ _ _ _ (hrl.out.shc (Nat.le_refl _)).1 (fun b hb => hb.2) (hrl.out.shc (Nat.le_refl _)).2) ?_
          rintro e w12 ⟨rfl, hT⟩
          have ho := Out.of_touch hT
          replace kI9 := Hd.mk (kI60.out.apart hx9.out)
          have kI7 := Hd.mk (kI9.out.out (G' := (fun b => b ≠ pN ∧ b ≠ pM)) ho (fun h => by have h1 := h.1.1; have h2 := hpo9.out; omega) (fun h => by have h1 := h.1.1; have h2 := hlo9.out; omega) (fun b hb h => (kI9.out.pr.row b hb).2 ⟨h.1.1, h.2⟩) (fun b hb h => by have h1 := h.1.1; have h2 := hw9.out; omega) (fun b hb hg => ⟨fun h => hg.2 ⟨h.1.1, h.2⟩, hg.1⟩) (fun b hb => (kI9.out.hG b (Nat.le_trans ho.size hb)).1))
          replace kM := Hd.mk (ho.blk kM.out (fun h => by have h1 := h.1.1; have h2 := hmo9.out; omega))
          clear hT ho hrl hrm kD kI9 kI6
          go_wp2_with fail
          go_roundg (l.length - j)
          case measure => have := hq.out; omega
          case rel => exact ⟨j + 1, V6, lp2, ts2, x, now, Kx, kx0, Kn, kn, by omega, ⟨by omega⟩, by go_num, kI7, kM, rM, hL, hv6⟩
    · have hv6 := hvM
      have hsz6 := Hd.mk (show hi ≤ w6.heap.size by have := hx.size; have := hhi.out; omega)
      have kI6 := Hd.mk ((kI5.out.ext hx).mono (G' := fun b => (b ≠ pN ∧ b ≠ pM) ∧ ¬ (lo ≤ b ∧ b < hi)) (fun b _ hg => hg) (fun b hb => by have h2 := hsz6.out; exact ⟨⟨(by have := hpN.out; have := hpM.out; have := hs4.out; have := hs5.out; have := hs6.out; have := hs7.out; have := hp4.out; have := hp5.out; have := hhi.out; have := hpl.out; have := hnl.out; have := hml.out; have := hwl.out; omega), (by have := hpN.out; have := hpM.out; have := hs4.out; have := hs5.out; have := hs6.out; have := hs7.out; have := hp4.out; have := hp5.out; have := hhi.out; have := hpl.out; have := hnl.out; have := hml.out; have := hwl.out; omega)⟩, (by have := hpN.out; have := hpM.out; have := hs4.out; have := hs5.out; have := hs6.out; have := hs7.out; have := hp4.out; have := hp5.out; have := hhi.out; have := hpl.out; have := hnl.out; have := hml.out; have := hwl.out; omega)⟩))
      replace kM := Hd.mk (kM.out.ext hx)
      replace bO := Hd.mk (bO.out.ext hx)
      replace bX := Hd.mk (bX.out.ext hx)
      replace rO := Hd.mk (RF.ext rO.out hx)
      replace rX := Hd.mk (RF.ext rX.out hx)
      replace hf8 := Hd.mk hf8
      clear hx kI5 kI hvM
      have gO := bO.out.cell
      go_wp2_with fail
      clear gO
      refine Calls.mono (over28 now.deep (fun b => W4.heap.size ≤ b ∧ b < pO) _ _ _ _ _ _ _ _ _ (rO.out.shc (Nat.le_refl _)).1 (fun b hb => by have := hsz6.out; have := hp5.out; have := hs7.out; have := hhi.out; omega) (rO.out.shc (Nat.le_refl _)).2) ?_
      rintro e w8 ⟨rfl, hT⟩
      have ho := Out.of_touch hT
      replace kI6 := Hd.mk (kI6.out.out (G' := fun b => (b ≠ pN ∧ b ≠ pM) ∧ ¬ (lo ≤ b ∧ b < hi)) ho (fun h => (by have := hpN.out; have := hpM.out; have := hs4.out; have := hs5.out; have := hs6.out; have := hs7.out; have := hp4.out; have := hp5.out; have := hhi.out; have := hpl.out; have := hnl.out; have := hml.out; have := hwl.out; omega)) (fun h => (by have := hpN.out; have := hpM.out; have := hs4.out; have := hs5.out; have := hs6.out; have := hs7.out; have := hp4.out; have := hp5.out; have := hhi.out; have := hpl.out; have := hnl.out; have := hml.out; have := hwl.out; omega)) (fun b hb h => (kI6.out.pr.row b hb).2 ⟨(by have := hpN.out; have := hpM.out; have := hs4.out; have := hs5.out; have := hs6.out; have := hs7.out; have := hp4.out; have := hp5.out; have := hhi.out; have := hpl.out; have := hnl.out; have := hml.out; have := hwl.out; omega), (by have := hpN.out; have := hpM.out; have := hs4.out; have := hs5.out; have := hs6.out; have := hs7.out; have := hp4.out; have := hp5.out; have := hhi.out; have := hpl.out; have := hnl.out; have := hml.out; have := hwl.out; omega)⟩) (fun b hb h => (by have := hpN.out; have := hpM.out; have := hs4.out; have := hs5.out; have := hs6.out; have := hs7.out; have := hp4.out; have := hp5.out; have := hhi.out; have := hpl.out; have := hnl.out; have := hml.out; have := hwl.out; omega)) (fun b hb hg => ⟨fun h => hg.2 ⟨(by have := hpN.out; have := hpM.out; have := hs4.out; have := hs5.out; have := hs6.out; have := hs7.out; have := hp4.out; have := hp5.out; have := hhi.out; have := hpl.out; have := hnl.out; have := hml.out; have := hwl.out; omega), (by have := hpN.out; have := hpM.out; have := hs4.out; have := hs5.out; have := hs6.out; have := hs7.out; have := hp4.out; have := hp5.out; have := hhi.out; have := hpl.out; have := hnl.out; have := hml.out; have := hwl.out; omega)⟩, hg⟩) (fun b hb => kI6.out.hG b (Nat.le_trans ho.size hb)))
      replace kM := Hd.mk (ho.blk kM.out (fun h => (by have := hpN.out; have := hpM.out; have := hs4.out; have := hs5.out; have := hs6.out; have := hs7.out; have := hp4.out; have := hp5.out; have := hhi.out; have := hpl.out; have := hnl.out; have := hml.out; have := hwl.out; omega)))
      replace bX := Hd.mk (ho.blk bX.out (fun h => (by have := hpN.out; have := hpM.out; have := hs4.out; have := hs5.out; have := hs6.out; have := hs7.out; have := hp4.out; have := hp5.out; have := hhi.out; have := hpl.out; have := hnl.out; have := hml.out; have := hwl.out; omega)))
      replace rX := Hd.mk (RF.out rX.out ho (fun b hb h1 h2 => by have h3 := h1.2; have h4 := h2.1; have := hp4.out; have := hs5.out; omega))
      replace hsz6 := Hd.mk (Nat.le_trans hsz6.out ho.size)
      clear hT ho rO bO
      have gX := bX.out.cell
      go_wp2_with fail
      clear gX
      refine Calls.mono (over28 x.deep (fun b => lo ≤ b ∧ b < pX) _ _ _ _ _ _ _ _ _ (rX.out.shc (Nat.le_refl _)).1 (fun b hb => by have := hsz6.out; have := hs7.out; have := hs5.out; have := hp4.out; have := hs6.out; have := hp5.out; have := hhi.out; omega) (rX.out.shc (Nat.le_refl _)).2) ?_
      rintro e w9 ⟨rfl, hT⟩
      have ho := Out.of_touch hT
      replace kI6 := Hd.mk (kI6.out.out (G' := (fun b => b ≠ pN ∧ b ≠ pM)) ho (fun h => (by have := hpN.out; have := hpM.out; have := hs4.out; have := hs5.out; have := hs6.out; have := hs7.out; have := hp4.out; have := hp5.out; have := hhi.out; have := hpl.out; have := hnl.out; have := hml.out; have := hwl.out; omega)) (fun h => (by have := hpN.out; have := hpM.out; have := hs4.out; have := hs5.out; have := hs6.out; have := hs7.out; have := hp4.out; have := hp5.out; have := hhi.out; have := hpl.out; have := hnl.out; have := hml.out; have := hwl.out; omega)) (fun b hb h => (kI6.out.pr.row b hb).2 ⟨(by have := hpN.out; have := hpM.out; have := hs4.out; have := hs5.out; have := hs6.out; have := hs7.out; have := hp4.out; have := hp5.out; have := hhi.out; have := hpl.out; have := hnl.out; have := hml.out; have := hwl.out; omega), (by have := hpN.out; have := hpM.out; have := hs4.out; have := hs5.out; have := hs6.out; have := hs7.out; have := hp4.out; have := hp5.out; have := hhi.out; have := hpl.out; have := hnl.out; have := hml.out; have := hwl.out; omega)⟩) (fun b hb h => (by have := hpN.out; have := hpM.out; have := hs4.out; have := hs5.out; have := hs6.out; have := hs7.out; have := hp4.out; have := hp5.out; have := hhi.out; have := hpl.out; have := hnl.out; have := hml.out; have := hwl.out; omega)) (fun b hb hg => ⟨fun h => hg.2 ⟨(by have := hpN.out; have := hpM.out; have := hs4.out; have := hs5.out; have := hs6.out; have := hs7.out; have := hp4.out; have := hp5.out; have := hhi.out; have := hpl.out; have := hnl.out; have := hml.out; have := hwl.out; omega), (by have := hpN.out; have := hpM.out; have := hs4.out; have := hs5.out; have := hs6.out; have := hs7.out; have := hp4.out; have := hp5.out; have := hhi.out; have := hpl.out; have := hnl.out; have := hml.out; have := hwl.out; omega)⟩, hg.1⟩) (fun b hb => (kI6.out.hG b (Nat.le_trans ho.size hb)).1))
      replace kM := Hd.mk (ho.blk kM.out (fun h => (by have := hpN.out; have := hpM.out; have := hs4.out; have := hs5.out; have := hs6.out; have := hs7.out; have := hp4.out; have := hp5.out; have := hhi.out; have := hpl.out; have := hnl.out; have := hml.out; have := hwl.out; omega)))
      clear hT ho rX bX hsz6 hs4 hs5 hs6 hs7 hp4 hp5 hhi hlo hpl hnl hml hwl hvl
      obtain ⟨mn, hmn0⟩ : ∃ m, m = min ts.length 1 := ⟨_, rfl⟩
      have hmn := Hd.mk (show min (ts.length : Int) 1 = (mn : Int) by omega)
      have hmle := Hd.mk (show mn ≤ ts.length by omega)
      have hw1 := Hd.mk (show 0 < ts.length → wasT (ts ++ [now]) mn = was from fun h0 => by rw [show mn = 1 by omega]; exact hL.out.was h0)
      have hAt := Hd.mk (fun W' (hx : Ext w9 W') => kI6.out.callAtF hx mn hmle.out)
      generalize wasT (ts ++ [now]) mn = t at hAt hw1
      replace hAt := Hd.mk (fun W' (hx : Ext w9 W') => (show Calls Try.prog 82 _ W' (Ret fun w'' v => ∃ c : List Value, v = .tuple #[.agg c.toArray, .int .i64 0] ∧ RF (fun b => W'.heap.size ≤ b) w'' t c ∧ Ext W' w'') from hAt.out W' hx))
      clear hmn0
      go_wp2_with fail
      refine FlowJ.wp_region_flow_l (x := 9) (tx := 11) (Y := [(5, 60), (6, 54), (7, 61)]) (J := JF t [.int .i64 0] w9.heap.size) (G := GF 11 t w9.heap.size) (gf_ext _ _ _) (R := Rb w9.heap.size) 10 (fun _ _ h => rb_ext h) (fun h k => rb_trans h k) (fun qq => match qq with
        | 55 => SP.eq (.pointer (some ⟨p, 0, none⟩))
        | 56 => SP.eq (.agg #[.string now.name, .string now.key, .int .i64 now.kind, .int .u64 now.num, .string now.text, .slice Kn now.kids.length kn])
        | 57 => SP.eq (.pointer (some ⟨p, 0, none⟩))
        | 58 => SP.eq (.int .i64 (ts.length : Nat))
        | 59 => SP.eq (.int .i64 (mn : Nat))
        | 60 => spTupF t [.int .i64 0] w9.heap.size
        | 54 => spTupF t [.int .i64 0] w9.heap.size
        | 61 => spAggF t w9.heap.size
        | 62 => SP.eq (.int .i64 0)
        | 11 => spBoxE w9.heap.size
        | _ => SP.any) (FlowJ.over [(60, spFormX [.int .i64 0]), (54, spFormX [.int .i64 0]), (61, SP.any)] (fun qq => match qq with
        | 55 => SP.eq (.pointer (some ⟨p, 0, none⟩))
        | 56 => SP.eq (.agg #[.string now.name, .string now.key, .int .i64 now.kind, .int .u64 now.num, .string now.text, .slice Kn now.kids.length kn])
        | 57 => SP.eq (.pointer (some ⟨p, 0, none⟩))
        | 58 => SP.eq (.int .i64 (ts.length : Nat))
        | 59 => SP.eq (.int .i64 (mn : Nat))
        | 60 => spTupF t [.int .i64 0] w9.heap.size
        | 54 => spTupF t [.int .i64 0] w9.heap.size
        | 61 => spAggF t w9.heap.size
        | 62 => SP.eq (.int .i64 0)
        | 11 => spBoxE w9.heap.size
        | _ => SP.any)) 11 (by kernel_rfl) 99 rfl (by kernel_rfl) (of_decide_eq_true (by kernel_rfl)) (by decide) (by kernel_rfl) ?_ ?_ ?_ ?_ ?_
      · refine ⟨by decide, rfl, by kernel_rfl, ?_, jf_mono _ _ _⟩
        intro q hq
        simp only [List.mem_cons, List.not_mem_nil, or_false] at hq
        rcases hq with rfl | rfl | rfl
        all_goals exact ⟨by decide, by decide, by decide, rfl, by kernel_rfl⟩
      · refine FlowJ.over_weak (fun q hq => ?_)
        simp only [List.mem_cons, List.not_mem_nil, or_false] at hq
        rcases hq with rfl | rfl | rfl
        · exact fun u v1 ⟨c, e, _⟩ => ⟨c, e⟩
        · exact fun u v1 ⟨c, e, _⟩ => ⟨c, e⟩
        · exact fun u v1 _ => trivial
      · intro q hq u' v1 v2 hR
        by_cases q0 : q = 60
        · subst q0; exact fun ⟨c, e, _⟩ => ⟨c, e⟩
        by_cases q1 : q = 54
        · subst q1; exact fun ⟨c, e, _⟩ => ⟨c, e⟩
        by_cases q2 : q = 61
        · subst q2; exact fun _ => trivial
        rw [over_ne q0, over_ne q1, over_ne q2]
        simp only [FlowJ.over]
        split
        all_goals first | exact fun h => h | exact absurd rfl q0 | exact absurd rfl q1 | exact absurd rfl q2 | exact fun ⟨D, e, h1, c, hb, hc⟩ => ⟨D, e, h1, hR.2.2 D c hb hc⟩
      · refine ⟨?_, ?_, ?_, ?_, ?_, ?_, ?_, ?_, ?_, ?_, ?_, trivial⟩
        · intro act W2 hk
          refine FlowJ.does_intro rfl (fun Kq hK => ?_)
          have e5 : act.tmps[5]?.getD undef = .pointer (some ⟨p, 0, none⟩) := hk.o 5 (by kernel_rfl)
          clear hk
          go_simp
          exact hK _ _ (Ext.refl _) (xt_no (by decide) (by decide) (by decide)) (fun d hd => by cases hd; first | rfl | (simp [SP.eq]; omega))
        · intro act W2 hk
          refine FlowJ.does_intro rfl (fun Kq hK => ?_)
          have e6 : act.tmps[6]?.getD undef = .pointer (some ⟨pN, 0, none⟩) := hk.o 6 (by kernel_rfl)
          have g := ((kI6.out.box).ext ((Ext.drew w9).trans (hk.early (.inr (by kernel_rfl))))).cell
          clear hk
          go_simp
          exact hK _ _ (Ext.refl _) (xt_no (by decide) (by decide) (by decide)) (fun d hd => by cases hd; first | rfl | (simp [SP.eq]; omega))
        · intro act W2 hk
          refine FlowJ.does_intro rfl (fun Kq hK => ?_)
          have e5 : act.tmps[5]?.getD undef = .pointer (some ⟨p, 0, none⟩) := hk.o 5 (by kernel_rfl)
          clear hk
          go_simp
          exact hK _ _ (Ext.refl _) (xt_no (by decide) (by decide) (by decide)) (fun d hd => by cases hd; first | rfl | (simp [SP.eq]; omega))
        · intro act W2 hk
          refine FlowJ.does_intro rfl (fun Kq hK => ?_)
          have e57 : act.tmps[57]?.getD undef = .pointer (some ⟨p, 0, none⟩) := hk.ve 57 (by kernel_rfl) (by kernel_rfl)
          have hx0 := Hd.mk ((Ext.drew w9).trans (hk.early (.inr (by kernel_rfl))))
          clear hk
          go_simp
          refine Calls.mono (kI6.out.ext hx0.out).callLen ?_
          rintro e W3 ⟨rfl, hx⟩
          exact hK _ _ hx (xt_no (by decide) (by decide) (by decide)) (fun d hd => by cases hd; rfl)
        · intro act W2 hk
          refine FlowJ.does_intro rfl (fun Kq hK => ?_)
          have e58 : act.tmps[58]?.getD undef = .int .i64 (ts.length : Nat) := hk.ve 58 (by kernel_rfl) (by kernel_rfl)
          have hmn1 := hmn.out
          clear hk
          go_simp
          exact hK _ _ (Ext.refl _) (xt_no (by decide) (by decide) (by decide)) (fun d hd => by cases hd; first | rfl | (simp [SP.eq]; first | omega | (rw [hmn1])))
        · intro act W2 hk
          refine FlowJ.does_intro rfl (fun Kq hK => ?_)
          have e55 : act.tmps[55]?.getD undef = .pointer (some ⟨p, 0, none⟩) := hk.ve 55 (by kernel_rfl) (by kernel_rfl)
          have e56 : act.tmps[56]?.getD undef = .agg #[.string now.name, .string now.key, .int .i64 now.kind, .int .u64 now.num, .string now.text, .slice Kn now.kids.length kn] := hk.ve 56 (by kernel_rfl) (by kernel_rfl)
          have e59 : act.tmps[59]?.getD undef = .int .i64 (mn : Nat) := hk.ve 59 (by kernel_rfl) (by kernel_rfl)
          have hx0 := Hd.mk ((Ext.drew w9).trans (hk.early (.inr (by kernel_rfl))))
          have hsz0 := hx0.out.size
          clear hk
          go_simp
          refine Calls.mono (hAt.out _ hx0.out) ?_
          rintro e W3 ⟨_, rfl, c9, rfl, hr9, hx⟩
          exact hK _ _ hx ⟨fun h => absurd h (by decide), fun h => absurd h (by decide), fun q hq h u hu _ => jf_call hsz0 hr9 hu⟩ (fun d hd => by cases hd; exact ⟨c9, rfl, hr9.mono (fun b _ hb => Nat.le_trans hsz0 hb)⟩)
        · intro act W2 hk
          refine FlowJ.does_intro rfl (fun Kq hK => ?_)
          obtain ⟨c9, e60, hr9⟩ := (hk.ve 60 (by kernel_rfl) (by kernel_rfl) : (spTupF t [.int .i64 0] w9.heap.size).p _ _)
          clear hk
          go_simp
          refine hK _ _ (Ext.refl _) ⟨fun h => absurd h (by decide), fun h => absurd h (by decide), fun q hq h u hu hj => ?_⟩ (fun d hd => by cases hd; exact ⟨c9, rfl, hr9⟩)
          have h1 := hj (5, 60) (by simp) (by kernel_rfl)
          rw [Array.getD_eq_getD_getElem?] at h1
          rw [e60] at h1
          exact h1
        · intro act W2 hk
          refine FlowJ.does_intro rfl (fun Kq hK => ?_)
          obtain ⟨c9, e54, hr9⟩ := (hk.ve 54 (by kernel_rfl) (by kernel_rfl) : (spTupF t [.int .i64 0] w9.heap.size).p _ _)
          clear hk
          go_simp
          refine hK _ _ (Ext.refl _) ⟨fun h => absurd h (by decide), fun h => absurd h (by decide), fun q hq h u hu hj => ?_⟩ (fun d hd => by cases hd; exact ⟨c9, rfl, hr9⟩)
          have h1 := hj (6, 54) (by simp) (by kernel_rfl)
          rw [Array.getD_eq_getD_getElem?] at h1
          rw [e54] at h1
          exact jf_take h1
        · intro act W2 hk
          refine FlowJ.does_intro rfl (fun Kq hK => ?_)
          obtain ⟨c9, e54⟩ := (hk.v 54 (by kernel_rfl) : (spFormX [.int .i64 0]).p _ _)
          clear hk
          go_simp
          exact hK _ _ (Ext.refl _) (xt_no (by decide) (by decide) (by decide)) (fun d hd => by cases hd; first | rfl | (simp [SP.eq]; omega))
        · intro act W2 hk
          refine FlowJ.does_intro rfl (fun Kq hK => ?_)
          have hx0 := Hd.mk ((Ext.drew w9).trans (hk.early (.inr (by kernel_rfl))))
          clear hk
          go_simp
          refine hK _ _ (Ext.alloc _ _) ⟨fun h => absurd h (by decide), fun h q hq u hu => ?_, fun q hq h => ?_⟩ (fun d hd => by cases hd; exact ⟨_, rfl, hx0.out.size, _, Blk.new _ _ _, rfl⟩)
          · simp only [List.mem_cons, List.not_mem_nil, or_false] at hq
            rcases hq with rfl | rfl | rfl
            · exact jf_alloc (.inl hu)
            · exact jf_alloc (.inl hu)
            · exact jf_alloc (.inr hu)
          · simp only [List.mem_cons, List.not_mem_nil, or_false] at hq
            rcases hq with rfl | rfl | rfl <;> cases h
        · intro act W2 hk
          refine FlowJ.does_intro rfl (fun Kq hK => ?_)
          obtain ⟨c9, e61, hr9⟩ := (hk.ve 61 (by kernel_rfl) (by kernel_rfl) : (spAggF t w9.heap.size).p _ _)
          obtain ⟨D, e11, hDn, cD, hD, hc6⟩ := (hk.ve 11 (by kernel_rfl) (by kernel_rfl) : (spBoxE _).p _ _)
          have hrel := hk.rel rfl (7, 61) (by simp)
          simp only [Array.getD_eq_getD_getElem?] at hrel
          rw [e61, e11] at hrel
          have hrt := Hd.mk (hrel D c9 rfl (.inr rfl))
          clear hrel hk
          obtain ⟨Ku, ku, rfl, _⟩ := hr9.row
          simp only [cT] at hrt e61
          clear hr9
          obtain ⟨x0, x1, x2, x3, x4, x5, rfl⟩ : ∃ x0 x1 x2 x3 x4 x5, cD = [x0, x1, x2, x3, x4, x5] := by match cD, hc6 with | [a, b, c, d, e, f], _ => exact ⟨a, b, c, d, e, f, rfl⟩
          have kD := Hd.mk hD
          have eA := Hd.mk e11
          have gD := kD.out.cell
          have fD := kD.out.free
          clear hD
          go_simp
          have hu := ((((((Upd.setCell W2 ⟨D, 0, none⟩ (.string t.name)).trans (Upd.setCell _ ⟨D, 1, none⟩ (.string t.key))).trans (Upd.setCell _ ⟨D, 2, none⟩ (.int .i64 t.kind))).trans (Upd.setCell _ ⟨D, 3, none⟩ (.int .u64 t.num))).trans (Upd.setCell _ ⟨D, 4, none⟩ (.string t.text))).trans (Upd.setCell _ ⟨D, 5, none⟩ (.slice Ku t.kids.length ku)))
          have kDn := ((((((kD.out.setCell 0 (.string t.name)).setCell 1 (.string t.key)).setCell 2 (.int .i64 t.kind)).setCell 3 (.int .u64 t.num)).setCell 4 (.string t.text)).setCell 5 (.slice Ku t.kids.length ku))
          refine hK undef _ (rb_upd hDn hu ⟨_, kDn, rfl⟩) ⟨fun _ D2 hD2 => ?_, fun h => absurd h (by decide), fun q hq h => ?_⟩ (fun d hd => by cases hd)
          · have e9b := eA.out
            rw [Array.getD_eq_getD_getElem?] at hD2
            rw [e9b] at hD2
            cases hD2
            exact ⟨_, kDn, hrt.out.upd hu (fun h => h.2 rfl)⟩
          · simp only [List.mem_cons, List.not_mem_nil, or_false] at hq
            rcases hq with rfl | rfl | rfl <;> cases h
      · intro act V2 he
        have hxV2 := Hd.mk (rb_below (rb_trans (rb_ext (Ext.drew w9)) he.ext))
        obtain ⟨aP, hG1, hG2⟩ := he.post
        have hG9 := hG2 11 (by kernel_rfl)
        obtain ⟨us, hA, hF⟩ := he.out [55, 56, 57, 58, 59, 60, 54, 61, 62, 11] (by kernel_rfl)
        simp only [Flow.fillL, List.contains_cons, List.contains_nil, Nat.reduceBEq, Bool.or_false, Bool.false_or, Bool.or_true, Bool.true_or, ↓reduceIte, Nat.reduceAdd, Bool.false_eq_true] at hA
        subst hA
        have f62 : us 62 = .int .i64 0 := hF 62 (by simp)
        have f2 : (spBoxE w9.heap.size).p (us 11) V2 := hF 11 (by simp)
        clear hF he
        rw [f62]
        clear f62
        have hG9b : aP.tmps.getD 11 undef = us 11 := hG9
        obtain ⟨D, e9, hDn, _⟩ := f2
        rw [e9] at hG9b
        obtain ⟨cD, kD0, hrt⟩ := hG1 D hG9b
        rw [e9]
        clear e9 hG1 hG2 hG9 hG9b
        have hDn := Hd.mk hDn
        have kD := Hd.mk kD0
        obtain ⟨Ku, ku, rfl, _⟩ := hrt.row
        have hrm := Hd.mk hrt
        simp only [cT] at hrm kD
        clear kD0 hrt
        have kI60 := kI6
        refine (show wpList _ _ _ (⟨some 12, .assign (.tmp 62), _, _, _, none⟩ :: _) _ _ from ?_)
        have hlo9 := Hd.mk kI6.out.box.lt
        have hpo9 := Hd.mk kI6.out.pr.box.lt
        have hmo9 := Hd.mk kM.out.lt
        have hw9 := Hd.mk kI6.out.kx.size
        replace kI6 := Hd.mk (kI6.out.ext hxV2.out)
        replace kM := Hd.mk (kM.out.ext hxV2.out)
        have hx9 := Hd.mk hxV2.out
        have kI9 := Hd.mk (kI60.out.apart hx9.out)
        clear hAt hxV2
        by_cases h0 : 0 < ts.length
        · have h0i : (0 : Int) < (ts.length : Int) := by omega
          replace h0 := Hd.mk h0
          go_wp2_with fail
          refine Calls.mono kI6.out.callLen ?_
          rintro e w10 ⟨rfl, hx⟩
          replace kI6 := Hd.mk (kI6.out.ext hx)
          replace kM := Hd.mk (kM.out.ext hx)
          replace kD := Hd.mk (kD.out.ext hx)
          replace hrm := Hd.mk (RF.ext hrm.out hx)
          replace hx9 := Hd.mk (hx9.out.trans hx)
          clear hx
          have hwt := hw1.out h0.out
          subst hwt
          have gD := kD.out.cell
          have gM := kM.out.cell
          go_wp2_with fail
          clear gD gM
          have hsm := ref_same t.deep t t (fun _ => True) _ _ _ (Nat.le_refl _) (RT.mono (fun _ _ _ => trivial) hrm.out) (show RT (fun _ => True) _ t _ from (rM.out.ext kI6.out.kx).mono fun _ _ _ => trivial)
          rw [sameT_rfl] at hsm
          refine Calls.mono hsm ?_
          rintro e w11 ⟨rfl, hx⟩
          replace kI6 := Hd.mk (kI6.out.ext hx)
          replace kM := Hd.mk (kM.out.ext hx)
          replace kD := Hd.mk (kD.out.ext hx)
          replace hrm := Hd.mk (RF.ext hrm.out hx)
          replace hx9 := Hd.mk (hx9.out.trans hx)
          clear hx hsm
          have gD := kD.out.cell
          go_wp2_with fail
          clear gD
          have hrl := Hd.mk (RF.mono (S' := fun b => (w9.heap.size ≤ b ∧ b ≠ D) ∧ b < _) hrm.out (fun b hlt hb => ⟨hb, hlt⟩))
          refine Calls.mono (over28 t.deep _ _ _ _ _ _ _ _ _ _ (hrl.out.shc (Nat.le_refl _)).1 (fun b hb => hb.2) (hrl.out.shc (Nat.le_refl _)).2) ?_
          rintro e w12 ⟨rfl, hT⟩
          have ho := Out.of_touch hT
          replace kI9 := Hd.mk (kI60.out.apart hx9.out)
          have kI7 := Hd.mk (kI9.out.out (G' := (fun b => b ≠ pN ∧ b ≠ pM)) ho (fun h => by have h1 := h.1.1; have h2 := hpo9.out; omega) (fun h => by have h1 := h.1.1; have h2 := hlo9.out; omega) (fun b hb h => (kI9.out.pr.row b hb).2 ⟨h.1.1, h.2⟩) (fun b hb h => by have h1 := h.1.1; have h2 := hw9.out; omega) (fun b hb hg => ⟨fun h => hg.2 ⟨h.1.1, h.2⟩, hg.1⟩) (fun b hb => (kI9.out.hG b (Nat.le_trans ho.size hb)).1))
          replace kM := Hd.mk (ho.blk kM.out (fun h => by have h1 := h.1.1; have h2 := hmo9.out; omega))
          clear hT ho hrl hrm kD kI9 kI6
          go_wp2_with fail
          go_roundg (l.length - j)
          case measure => have := hq.out; omega
          case rel => exact ⟨j + 1, V, lp, ts, now, t, Kn, kn, Kw, kw, by omega, ⟨by omega⟩, by go_num, kI7, kM, rM, hL, hv6⟩
        · have h0i : ¬ (0 : Int) < (ts.length : Int) := by omega
          replace h0 := Hd.mk h0
          go_wp2_with fail
          refine Calls.mono kI6.out.callLen ?_
          rintro e w10 ⟨rfl, hx⟩
          replace kI6 := Hd.mk (kI6.out.ext hx)
          replace kM := Hd.mk (kM.out.ext hx)
          replace kD := Hd.mk (kD.out.ext hx)
          replace hrm := Hd.mk (RF.ext hrm.out hx)
          replace hx9 := Hd.mk (hx9.out.trans hx)
          clear hx
          have gD := kD.out.cell
          go_wp2_with fail
          clear gD
          have hrl := Hd.mk (RF.mono (S' := fun b => (w9.heap.size ≤ b ∧ b ≠ D) ∧ b < _) hrm.out (fun b hlt hb => ⟨hb, hlt⟩))
          refine Calls.mono (over28 t.deep _ _ _ _ _ _ _ _ _ _ (hrl.out.shc (Nat.le_refl _)).1 (fun b hb => hb.2) (hrl.out.shc (Nat.le_refl _)).2) ?_
          rintro e w12 ⟨rfl, hT⟩
          have ho := Out.of_touch hT
          replace kI9 := Hd.mk (kI60.out.apart hx9.out)
          have kI7 := Hd.mk (kI9.out.out (G' := (fun b => b ≠ pN ∧ b ≠ pM)) ho (fun h => by have h1 := h.1.1; have h2 := hpo9.out; omega) (fun h => by have h1 := h.1.1; have h2 := hlo9.out; omega) (fun b hb h => (kI9.out.pr.row b hb).2 ⟨h.1.1, h.2⟩) (fun b hb h => by have h1 := h.1.1; have h2 := hw9.out; omega) (fun b hb hg => ⟨fun h => hg.2 ⟨h.1.1, h.2⟩, hg.1⟩) (fun b hb => (kI9.out.hG b (Nat.le_trans ho.size hb)).1))
          replace kM := Hd.mk (ho.blk kM.out (fun h => by have h1 := h.1.1; have h2 := hmo9.out; omega))
          clear hT ho hrl hrm kD kI9 kI6
          go_wp2_with fail
          go_roundg (l.length - j)
          case measure => have := hq.out; omega
          case rel => exact ⟨j + 1, V, lp, ts, now, was, Kn, kn, Kw, kw, by omega, ⟨by omega⟩, by go_num, kI7, kM, rM, hL, hv6⟩
  · have hnl : ¬ (j : Int) < (l.length : Int) := by omega
    obtain ⟨mn, hmn0⟩ : ∃ m, m = min ts.length 1 := ⟨_, rfl⟩
    have hmn := Hd.mk (show min (ts.length : Int) 1 = (mn : Int) by omega)
    have hmle := Hd.mk (show mn ≤ ts.length by omega)
    have hw1 := Hd.mk (show 0 < ts.length → wasT (ts ++ [now]) mn = was from fun h0 => by rw [show mn = 1 by omega]; exact hL.out.was h0)
    have hAt := Hd.mk (fun W' (hx : Ext W W') => kI.out.callAtF hx mn hmle.out)
    generalize wasT (ts ++ [now]) mn = t at hAt hw1
    replace hAt := Hd.mk (fun W' (hx : Ext W W') => (show Calls Try.prog 82 _ W' (Ret fun w'' v => ∃ c : List Value, v = .tuple #[.agg c.toArray, .int .i64 0] ∧ RF (fun b => W'.heap.size ≤ b) w'' t c ∧ Ext W' w'') from hAt.out W' hx))
    clear hmn0
    go_wp2_with fail
    refine FlowJ.wp_region_flow_l (x := 9) (tx := 13) (Y := [(5, 84), (6, 78), (7, 85)]) (J := JF t [.int .i64 0] W.heap.size) (G := GF 13 t W.heap.size) (gf_ext _ _ _) (R := Rb W.heap.size) 10 (fun _ _ h => rb_ext h) (fun h k => rb_trans h k) (fun qq => match qq with
      | 79 => SP.eq (.pointer (some ⟨p, 0, none⟩))
      | 80 => SP.eq (.agg #[.string now.name, .string now.key, .int .i64 now.kind, .int .u64 now.num, .string now.text, .slice Kn now.kids.length kn])
      | 81 => SP.eq (.pointer (some ⟨p, 0, none⟩))
      | 82 => SP.eq (.int .i64 (ts.length : Nat))
      | 83 => SP.eq (.int .i64 (mn : Nat))
      | 84 => spTupF t [.int .i64 0] W.heap.size
      | 78 => spTupF t [.int .i64 0] W.heap.size
      | 85 => spAggF t W.heap.size
      | 86 => SP.eq (.int .i64 0)
      | 13 => spBoxE W.heap.size
      | _ => SP.any) (FlowJ.over [(84, spFormX [.int .i64 0]), (78, spFormX [.int .i64 0]), (85, SP.any)] (fun qq => match qq with
      | 79 => SP.eq (.pointer (some ⟨p, 0, none⟩))
      | 80 => SP.eq (.agg #[.string now.name, .string now.key, .int .i64 now.kind, .int .u64 now.num, .string now.text, .slice Kn now.kids.length kn])
      | 81 => SP.eq (.pointer (some ⟨p, 0, none⟩))
      | 82 => SP.eq (.int .i64 (ts.length : Nat))
      | 83 => SP.eq (.int .i64 (mn : Nat))
      | 84 => spTupF t [.int .i64 0] W.heap.size
      | 78 => spTupF t [.int .i64 0] W.heap.size
      | 85 => spAggF t W.heap.size
      | 86 => SP.eq (.int .i64 0)
      | 13 => spBoxE W.heap.size
      | _ => SP.any)) 11 (by kernel_rfl) 99 rfl (by kernel_rfl) (of_decide_eq_true (by kernel_rfl)) (by decide) (by kernel_rfl) ?_ ?_ ?_ ?_ ?_
    · refine ⟨by decide, rfl, by kernel_rfl, ?_, jf_mono _ _ _⟩
      intro q hq
      simp only [List.mem_cons, List.not_mem_nil, or_false] at hq
      rcases hq with rfl | rfl | rfl
      all_goals exact ⟨by decide, by decide, by decide, rfl, by kernel_rfl⟩
    · refine FlowJ.over_weak (fun q hq => ?_)
      simp only [List.mem_cons, List.not_mem_nil, or_false] at hq
      rcases hq with rfl | rfl | rfl
      · exact fun u v1 ⟨c, e, _⟩ => ⟨c, e⟩
      · exact fun u v1 ⟨c, e, _⟩ => ⟨c, e⟩
      · exact fun u v1 _ => trivial
    · intro q hq u' v1 v2 hR
      by_cases q0 : q = 84
      · subst q0; exact fun ⟨c, e, _⟩ => ⟨c, e⟩
      by_cases q1 : q = 78
      · subst q1; exact fun ⟨c, e, _⟩ => ⟨c, e⟩
      by_cases q2 : q = 85
      · subst q2; exact fun _ => trivial
      rw [over_ne q0, over_ne q1, over_ne q2]
      simp only [FlowJ.over]
      split
      all_goals first | exact fun h => h | exact absurd rfl q0 | exact absurd rfl q1 | exact absurd rfl q2 | exact fun ⟨D, e, h1, c, hb, hc⟩ => ⟨D, e, h1, hR.2.2 D c hb hc⟩
    · refine ⟨?_, ?_, ?_, ?_, ?_, ?_, ?_, ?_, ?_, ?_, ?_, trivial⟩
      · intro act W2 hk
        refine FlowJ.does_intro rfl (fun Kq hK => ?_)
        have e5 : act.tmps[5]?.getD undef = .pointer (some ⟨p, 0, none⟩) := hk.o 5 (by kernel_rfl)
        clear hk
        go_simp
        exact hK _ _ (Ext.refl _) (xt_no (by decide) (by decide) (by decide)) (fun d hd => by cases hd; first | rfl | (simp [SP.eq]; omega))
      · intro act W2 hk
        refine FlowJ.does_intro rfl (fun Kq hK => ?_)
        have e6 : act.tmps[6]?.getD undef = .pointer (some ⟨pN, 0, none⟩) := hk.o 6 (by kernel_rfl)
        have g := ((kI.out.box).ext ((Ext.drew W).trans (hk.early (.inr (by kernel_rfl))))).cell
        clear hk
        go_simp
        exact hK _ _ (Ext.refl _) (xt_no (by decide) (by decide) (by decide)) (fun d hd => by cases hd; first | rfl | (simp [SP.eq]; omega))
      · intro act W2 hk
        refine FlowJ.does_intro rfl (fun Kq hK => ?_)
        have e5 : act.tmps[5]?.getD undef = .pointer (some ⟨p, 0, none⟩) := hk.o 5 (by kernel_rfl)
        clear hk
        go_simp
        exact hK _ _ (Ext.refl _) (xt_no (by decide) (by decide) (by decide)) (fun d hd => by cases hd; first | rfl | (simp [SP.eq]; omega))
      · intro act W2 hk
        refine FlowJ.does_intro rfl (fun Kq hK => ?_)
        have e81 : act.tmps[81]?.getD undef = .pointer (some ⟨p, 0, none⟩) := hk.ve 81 (by kernel_rfl) (by kernel_rfl)
        have hx0 := Hd.mk ((Ext.drew W).trans (hk.early (.inr (by kernel_rfl))))
        clear hk
        go_simp
        refine Calls.mono (kI.out.ext hx0.out).callLen ?_
        rintro e W3 ⟨rfl, hx⟩
        exact hK _ _ hx (xt_no (by decide) (by decide) (by decide)) (fun d hd => by cases hd; rfl)
      · intro act W2 hk
        refine FlowJ.does_intro rfl (fun Kq hK => ?_)
        have e82 : act.tmps[82]?.getD undef = .int .i64 (ts.length : Nat) := hk.ve 82 (by kernel_rfl) (by kernel_rfl)
        have hmn1 := hmn.out
        clear hk
        go_simp
        exact hK _ _ (Ext.refl _) (xt_no (by decide) (by decide) (by decide)) (fun d hd => by cases hd; first | rfl | (simp [SP.eq]; first | omega | (rw [hmn1])))
      · intro act W2 hk
        refine FlowJ.does_intro rfl (fun Kq hK => ?_)
        have e79 : act.tmps[79]?.getD undef = .pointer (some ⟨p, 0, none⟩) := hk.ve 79 (by kernel_rfl) (by kernel_rfl)
        have e80 : act.tmps[80]?.getD undef = .agg #[.string now.name, .string now.key, .int .i64 now.kind, .int .u64 now.num, .string now.text, .slice Kn now.kids.length kn] := hk.ve 80 (by kernel_rfl) (by kernel_rfl)
        have e83 : act.tmps[83]?.getD undef = .int .i64 (mn : Nat) := hk.ve 83 (by kernel_rfl) (by kernel_rfl)
        have hx0 := Hd.mk ((Ext.drew W).trans (hk.early (.inr (by kernel_rfl))))
        have hsz0 := hx0.out.size
        clear hk
        go_simp
        refine Calls.mono (hAt.out _ hx0.out) ?_
        rintro e W3 ⟨_, rfl, c9, rfl, hr9, hx⟩
        exact hK _ _ hx ⟨fun h => absurd h (by decide), fun h => absurd h (by decide), fun q hq h u hu _ => jf_call hsz0 hr9 hu⟩ (fun d hd => by cases hd; exact ⟨c9, rfl, hr9.mono (fun b _ hb => Nat.le_trans hsz0 hb)⟩)
      · intro act W2 hk
        refine FlowJ.does_intro rfl (fun Kq hK => ?_)
        obtain ⟨c9, e84, hr9⟩ := (hk.ve 84 (by kernel_rfl) (by kernel_rfl) : (spTupF t [.int .i64 0] W.heap.size).p _ _)
        clear hk
        go_simp
        refine hK _ _ (Ext.refl _) ⟨fun h => absurd h (by decide), fun h => absurd h (by decide), fun q hq h u hu hj => ?_⟩ (fun d hd => by cases hd; exact ⟨c9, rfl, hr9⟩)
        have h1 := hj (5, 84) (by simp) (by kernel_rfl)
        rw [Array.getD_eq_getD_getElem?] at h1
        rw [e84] at h1
        exact h1
      · intro act W2 hk
        refine FlowJ.does_intro rfl (fun Kq hK => ?_)
        obtain ⟨c9, e78, hr9⟩ := (hk.ve 78 (by kernel_rfl) (by kernel_rfl) : (spTupF t [.int .i64 0] W.heap.size).p _ _)
        clear hk
        go_simp
        refine hK _ _ (Ext.refl _) ⟨fun h => absurd h (by decide), fun h => absurd h (by decide), fun q hq h u hu hj => ?_⟩ (fun d hd => by cases hd; exact ⟨c9, rfl, hr9⟩)
        have h1 := hj (6, 78) (by simp) (by kernel_rfl)
        rw [Array.getD_eq_getD_getElem?] at h1
        rw [e78] at h1
        exact jf_take h1
      · intro act W2 hk
        refine FlowJ.does_intro rfl (fun Kq hK => ?_)
        obtain ⟨c9, e78⟩ := (hk.v 78 (by kernel_rfl) : (spFormX [.int .i64 0]).p _ _)
        clear hk
        go_simp
        exact hK _ _ (Ext.refl _) (xt_no (by decide) (by decide) (by decide)) (fun d hd => by cases hd; first | rfl | (simp [SP.eq]; omega))
      · intro act W2 hk
        refine FlowJ.does_intro rfl (fun Kq hK => ?_)
        have hx0 := Hd.mk ((Ext.drew W).trans (hk.early (.inr (by kernel_rfl))))
        clear hk
        go_simp
        refine hK _ _ (Ext.alloc _ _) ⟨fun h => absurd h (by decide), fun h q hq u hu => ?_, fun q hq h => ?_⟩ (fun d hd => by cases hd; exact ⟨_, rfl, hx0.out.size, _, Blk.new _ _ _, rfl⟩)
        · simp only [List.mem_cons, List.not_mem_nil, or_false] at hq
          rcases hq with rfl | rfl | rfl
          · exact jf_alloc (.inl hu)
          · exact jf_alloc (.inl hu)
          · exact jf_alloc (.inr hu)
        · simp only [List.mem_cons, List.not_mem_nil, or_false] at hq
          rcases hq with rfl | rfl | rfl <;> cases h
      · intro act W2 hk
        refine FlowJ.does_intro rfl (fun Kq hK => ?_)
        obtain ⟨c9, e85, hr9⟩ := (hk.ve 85 (by kernel_rfl) (by kernel_rfl) : (spAggF t W.heap.size).p _ _)
        obtain ⟨D, e13, hDn, cD, hD, hc6⟩ := (hk.ve 13 (by kernel_rfl) (by kernel_rfl) : (spBoxE _).p _ _)
        have hrel := hk.rel rfl (7, 85) (by simp)
        simp only [Array.getD_eq_getD_getElem?] at hrel
        rw [e85, e13] at hrel
        have hrt := Hd.mk (hrel D c9 rfl (.inr rfl))
        clear hrel hk
        obtain ⟨Ku, ku, rfl, _⟩ := hr9.row
        simp only [cT] at hrt e85
        clear hr9
        obtain ⟨x0, x1, x2, x3, x4, x5, rfl⟩ : ∃ x0 x1 x2 x3 x4 x5, cD = [x0, x1, x2, x3, x4, x5] := by match cD, hc6 with | [a, b, c, d, e, f], _ => exact ⟨a, b, c, d, e, f, rfl⟩
        have kD := Hd.mk hD
        have eA := Hd.mk e13
        have gD := kD.out.cell
        have fD := kD.out.free
        clear hD
        go_simp
        have hu := ((((((Upd.setCell W2 ⟨D, 0, none⟩ (.string t.name)).trans (Upd.setCell _ ⟨D, 1, none⟩ (.string t.key))).trans (Upd.setCell _ ⟨D, 2, none⟩ (.int .i64 t.kind))).trans (Upd.setCell _ ⟨D, 3, none⟩ (.int .u64 t.num))).trans (Upd.setCell _ ⟨D, 4, none⟩ (.string t.text))).trans (Upd.setCell _ ⟨D, 5, none⟩ (.slice Ku t.kids.length ku)))
        have kDn := ((((((kD.out.setCell 0 (.string t.name)).setCell 1 (.string t.key)).setCell 2 (.int .i64 t.kind)).setCell 3 (.int .u64 t.num)).setCell 4 (.string t.text)).setCell 5 (.slice Ku t.kids.length ku))
        refine hK undef _ (rb_upd hDn hu ⟨_, kDn, rfl⟩) ⟨fun _ D2 hD2 => ?_, fun h => absurd h (by decide), fun q hq h => ?_⟩ (fun d hd => by cases hd)
        · have e9b := eA.out
          rw [Array.getD_eq_getD_getElem?] at hD2
          rw [e9b] at hD2
          cases hD2
          exact ⟨_, kDn, hrt.out.upd hu (fun h => h.2 rfl)⟩
        · simp only [List.mem_cons, List.not_mem_nil, or_false] at hq
          rcases hq with rfl | rfl | rfl <;> cases h
    · intro act V2 he
      have hxV2 := Hd.mk (rb_below (rb_trans (rb_ext (Ext.drew W)) he.ext))
      obtain ⟨aP, hG1, hG2⟩ := he.post
      have hG9 := hG2 13 (by kernel_rfl)
      obtain ⟨us, hA, hF⟩ := he.out [79, 80, 81, 82, 83, 84, 78, 85, 86, 13] (by kernel_rfl)
      simp only [Flow.fillL, List.contains_cons, List.contains_nil, Nat.reduceBEq, Bool.or_false, Bool.false_or, Bool.or_true, Bool.true_or, ↓reduceIte, Nat.reduceAdd, Bool.false_eq_true] at hA
      subst hA
      have f86 : us 86 = .int .i64 0 := hF 86 (by simp)
      have f2 : (spBoxE W.heap.size).p (us 13) V2 := hF 13 (by simp)
      clear hF he
      rw [f86]
      clear f86
      have hG9b : aP.tmps.getD 13 undef = us 13 := hG9
      obtain ⟨D, e9, hDn, _⟩ := f2
      rw [e9] at hG9b
      obtain ⟨cD, kD0, hrt⟩ := hG1 D hG9b
      rw [e9]
      clear e9 hG1 hG2 hG9 hG9b
      have hDn := Hd.mk hDn
      have kD := Hd.mk kD0
      obtain ⟨Ku, ku, rfl, _⟩ := hrt.row
      have hrm := Hd.mk hrt
      simp only [cT] at hrm kD
      clear kD0 hrt
      refine (show wpList _ _ _ (⟨some 14, .assign (.tmp 86), _, _, _, none⟩ :: _) _ _ from ?_)
      replace kI := Hd.mk (kI.out.ext hxV2.out)
      replace kM := Hd.mk (kM.out.ext hxV2.out)
      clear hAt hxV2
      by_cases h0 : 0 < ts.length
      · have h0i : ¬ (ts.length : Int) = 0 := by omega
        have h0n : ¬ ts = [] := fun e => by rw [e] at h0; simp at h0
        replace h0 := Hd.mk h0
        go_wp2_with fail
        refine Calls.mono kI.out.callLen ?_
        rintro e w10 ⟨rfl, hx⟩
        replace kI := Hd.mk (kI.out.ext hx)
        replace kM := Hd.mk (kM.out.ext hx)
        replace kD := Hd.mk (kD.out.ext hx)
        replace hrm := Hd.mk (RF.ext hrm.out hx)
        clear hx
        have hwt := hw1.out h0.out
        subst hwt
        have gD := kD.out.cell
        have gM := kM.out.cell
        go_wp2_with fail
        clear gD gM
        have hsm := ref_same t.deep t t (fun _ => True) _ _ _ (Nat.le_refl _) (RT.mono (fun _ _ _ => trivial) hrm.out) (show RT (fun _ => True) _ t _ from (rM.out.ext kI.out.kx).mono fun _ _ _ => trivial)
        rw [sameT_rfl] at hsm
        refine Calls.mono hsm ?_
        rintro e w11 ⟨rfl, hx⟩
        replace kI := Hd.mk (kI.out.ext hx)
        clear hx hsm
        go_wp2_with fail
        go_ret
        exact ⟨rfl, kI.out.kx⟩
      · have h0i : (ts.length : Int) = 0 := by omega
        replace h0 := Hd.mk h0
        go_wp2_with fail
        refine Calls.mono kI.out.callLen ?_
        rintro e w10 ⟨rfl, hx⟩
        replace kI := Hd.mk (kI.out.ext hx)
        replace kM := Hd.mk (kM.out.ext hx)
        replace kD := Hd.mk (kD.out.ext hx)
        replace hrm := Hd.mk (RF.ext hrm.out hx)
        clear hx
        go_wp2_with fail
        go_ret
        exact ⟨rfl, kI.out.kx⟩
end Go.Proofs.Ytgkgedjmnbjalaa
