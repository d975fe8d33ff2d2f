/- Texts that the law needs, joined.
   Conditions: none. -/
import Derived.Test.YtgkgedjmnbjalaaZfD
import Derived.Test.YtgkgedjmnbjalaaZfL
import Derived.Test.YtgkgedjmnbjalaaZfA
set_option linter.unusedSimpArgs false
set_option linter.unusedVariables false
namespace Go.Proofs.Ytgkgedjmnbjalaa
open Go.RowKit Go.Sort
theorem may28_yes {l : List S28} (h : may28 l = true) : (∀ (i : Nat) s, l[i]? = some s → mayT s.tree = true) ∧ l.length ≤ 40 := by
  simp only [may28, Bool.and_eq_true, List.all_eq_true, decide_eq_true_eq] at h
  exact ⟨fun i s hi => h.1 s (List.mem_of_getElem? hi), h.2⟩
set_option maxRecDepth 100000 in
set_option maxHeartbeats 4000000 in
theorem does28_walk (l : List S28) (w : World) (A : Option Addr) (c : Nat) (h : SRow28 w A l c) :
    Calls Try.prog 20 #[.slice A l.length c] w fun e w' => e = .returned (.bool true) ∧ Ext w w' := by
  have kr := Hd.mk h
  have hlen := h.len
  have hnul := Hd.mk h.nul
  clear h
  go_enter Try.func20, Try.ntmps20
  go_wp2_with fail
  refine Calls.mono (awake28 w) ?_
  rintro e w1 ⟨rfl, hx⟩
  have k1 := Hd.mk hx
  clear hx
  go_wp2_with fail
  refine Calls.mono (may28_walk l w1 A c (kr.out.ext k1.out)) ?_
  rintro e w2 ⟨rfl, hx⟩
  replace k1 := Hd.mk (k1.out.trans hx)
  clear hx
  cases hm : may28 l with
  | false =>
    go_wp2_with fail
    go_ret
    exact ⟨rfl, k1.out⟩
  | true =>
  obtain ⟨hmay, hl40⟩ := may28_yes hm
  replace hmay := Hd.mk hmay
  replace hl40 := Hd.mk hl40
  clear hm
  go_wp2_with fail
  refine Calls.mono (past_new (fun _ => True) w2) ?_
  rintro e w3 ⟨rfl, hP, hx, hs⟩
  have hpw := Hd.mk k1.out.size
  replace k1 := Hd.mk (k1.out.trans hx)
  have kP := Hd.mk hP
  clear hx hP hs
  generalize w2.heap.size = p at *
  go_wp2_with fail
  have kI : Hd (I28 w (fun b => b ≠ w3.heap.size) p w3.heap.size (w3.alloc (.cells #[.string ⟨#[]⟩, .string ⟨#[]⟩, .int .i64 0, .int .u64 0, .string ⟨#[]⟩, .slice none 0 0] 54)) (.slice none 0 0) [] [] zeroT none 0) :=
    ⟨⟨k1.out.trans (Ext.alloc _ _), (kP.out.mono (fun b hb _ => Nat.ne_of_lt hb)).ext (Ext.alloc _ _), hpw.out, k1.out.size, Blk.new w3 _ _, fun e => by have := kP.out.box.lt; omega, (fun e => by cases e), rt_zero _ _, Trail.nil, fun b hb => by simp at hb; omega⟩⟩
  clear kP hpw k1
  generalize w3.heap.size = pN at *
  generalize w3.alloc _ = W at *
  go_loopg [6, 8] (l.length + 1) (fun q wv i wr => ∃ (j : Nat) (V : Value) (lp : List Pe) (ts : List T) (now : T) (Kn : Option Addr) (kn : Nat) (Aw : Option Addr) (cw : Nat), j ≤ l.length ∧ Hd (l.length - j < q) ∧ i = .int .i64 j ∧ wv = .slice Aw ts.length cw ∧ Hd (I28 w (fun b => b ≠ pN) p pN wr V lp ts now Kn kn) ∧ Hd (RRow (SW p pN V) wr Aw ts cw))
  case atStart => exact ⟨0, _, _, _, _, _, _, none, 0, Nat.zero_le _, ⟨by omega⟩, rfl, rfl, kI, ⟨RRow.nil _ _ _ _ (fun _ => rfl)⟩⟩
  case round =>
  clear kI
  obtain ⟨j, V, lp, ts, now, Kn, kn, Aw, cw, hj, hq, rfl, rfl, kI, kW⟩ := hrel
  generalize wr = W at *
  by_cases hlt : j < l.length
  · skip
    have hx1 := List.getElem?_eq_getElem hlt
    generalize l[j] = s at hx1
    obtain ⟨hsz, b, off, cs, rfl, hrt, hc⟩ := kr.out.step j s hx1
    have hmx := Hd.mk (hmay.out j s hx1)
    obtain ⟨sk, sn, x⟩ := s
    obtain ⟨Kx, kx0, rfl, _⟩ := hrt.row
    simp only at hsz hmx hrt hc
    have rx := Hd.mk (hrt.mono (S' := fun b => b < w.heap.size) (fun b hb _ => hb))
    simp only [cT] at rx hc
    clear hrt hx1 hsz
    have c0 := Ext.cell kI.out.kx (hc 0 _ rfl)
    have c1 := Ext.cell kI.out.kx (hc 1 _ rfl)
    have c2 := Ext.cell kI.out.kx (hc 2 _ rfl)
    have c3 := Ext.cell kI.out.kx (hc 3 _ rfl)
    have c4 := Ext.cell kI.out.kx (hc 4 _ rfl)
    have c5 := Ext.cell kI.out.kx (hc 5 _ rfl)
    have c6 := Ext.cell kI.out.kx (hc 6 _ rfl)
    have c7 := Ext.cell kI.out.kx (hc 7 _ rfl)
    rw [Nat.add_zero] at c0
    clear hc
    go_wp2_with (with_reducible refine stop_at (.fieldAddr 91 (.tmp 9) 0) ?_)
    refine Stop.mk ?_
    clear c0 c1 c2 c3 c4 c5 c6 c7
    have hlS := Hd.mk (own_lt kI.out.pr.own)
    have hpl := Hd.mk kI.out.pr.box.lt
    have hnl := Hd.mk kI.out.box.lt
    replace kI := Hd.mk (kI.out.ext (Ext.alloc W (.cells #[.int .i64 sk, .int .i64 sn, .string x.name, .string x.key, .int .i64 x.kind, .int .u64 x.num, .string x.text, .slice Kx x.kids.length kx0] 91)))
    replace kW := Hd.mk (kW.out.ext (Ext.alloc W (.cells #[.int .i64 sk, .int .i64 sn, .string x.name, .string x.key, .int .i64 x.kind, .int .u64 x.num, .string x.text, .slice Kx x.kids.length kx0] 91)))
    have kS := Hd.mk (Blk.new W #[.int .i64 sk, .int .i64 sn, .string x.name, .string x.key, .int .i64 x.kind, .int .u64 x.num, .string x.text, .slice Kx x.kids.length kx0] 91)
    have nS : Hd (W.heap.size ≠ p ∧ W.heap.size ≠ pN ∧ V.ownBlock ≠ some W.heap.size) := ⟨by have := hpl.out; omega, by have := hnl.out; omega, fun e => by have := hlS.out _ e; omega⟩
    clear hlS hpl hnl
    generalize W.heap.size = pS at *
    generalize W.alloc _ = W at *
    by_cases hk0 : sk = 0
    · subst hk0
      have gS := kS.out.cell
      have gN := kI.out.box.cell
      go_wp2_with fail
      clear gS gN
      have h8 := kI.out.pr.len
      have hll := kI.out.len
      refine Calls.mono (ref_push28 (SW p pN V) ts now W Aw cw _ kW.out (kI.out.rtW _ kI.out.kx kI.out.sw.1) kI.out.sw.2 (by omega)) ?_
      rintro e w4 (⟨hf8, rfl, hx⟩ | ⟨hf8, A2, c2, rfl, hr2, hx⟩)
      · replace kI := Hd.mk (kI.out.ext hx)
        replace kS := Hd.mk (kS.out.ext hx)
        replace kW := Hd.mk (kW.out.ext hx)
        replace hf8 := Hd.mk hf8
        clear hx h8 hll
        have gS := kS.out.cell
        have gN := kI.out.box.cell
        go_wp2_with fail
        clear gS gN
        refine Calls.mono (kI.out.callPush (rx.out.ext kI.out.kx |>.mono fun _ _ _ => trivial) hmx.out) ?_
        rintro e w5 (⟨h9, _⟩ | ⟨h99, rfl, hx⟩)
        · exact absurd h9 (by have := hf8.out; omega)
        clear h99
        replace kI := Hd.mk (kI.out.ext hx)
        replace kS := Hd.mk (kS.out.ext hx)
        replace kW := Hd.mk (kW.out.ext hx)
        clear hx hf8
        go_wp2_with fail
        refine Calls.mono kI.out.callLen ?_
        rintro e wE ⟨rfl, hx⟩
        replace kI := Hd.mk (kI.out.ext hx)
        replace kW := Hd.mk (kW.out.ext hx)
        clear hx
        go_wp2_with fail
        go_roundg (l.length - j)
        case measure => have := hq.out; omega
        case rel => exact ⟨j + 1, V, lp, ts, now, Kn, kn, Aw, cw, by omega, ⟨by omega⟩, by go_num, rfl, kI, kW⟩
      · replace kI := Hd.mk (kI.out.ext hx)
        replace kS := Hd.mk (kS.out.ext hx)
        have kA := Hd.mk hr2
        replace hf8 := Hd.mk hf8
        clear hx h8 hll hr2 kW
        have gS := kS.out.cell
        have gN := kI.out.box.cell
        go_wp2_with fail
        clear gS gN
        refine Calls.mono (kI.out.callPush (rx.out.ext kI.out.kx |>.mono fun _ _ _ => trivial) hmx.out) ?_
        rintro e w5 (⟨_, rfl, V2, A9, c9, hP, hF⟩ | ⟨h9, _⟩)
        case inr => exact absurd h9 (by have := hf8.out; omega)
        replace hP := Hd.mk hP
        replace hF := Hd.mk hF
        replace kS := Hd.mk (hF.out.blk kS.out nS.out.1 nS.out.2.2)
        replace kA := Hd.mk (SW.fr hF.out kA.out)
        have kN := Hd.mk (hF.out.blk kI.out.box kI.out.ne kI.out.nv)
        have gS := kS.out.cell
        have gN := kN.out.cell
        have fN := kN.out.free
        go_wp2_with fail
        clear gS gN fN
        have hu := Hd.mk ((((((Upd.setCell w5 ⟨pN, 0, none⟩ (.string x.name)).trans (Upd.setCell _ ⟨pN, 1, none⟩ (.string x.key))).trans (Upd.setCell _ ⟨pN, 2, none⟩ (.int .i64 x.kind))).trans (Upd.setCell _ ⟨pN, 3, none⟩ (.int .u64 x.num))).trans (Upd.setCell _ ⟨pN, 4, none⟩ (.string x.text))).trans (Upd.setCell _ ⟨pN, 5, none⟩ (.slice Kx x.kids.length kx0)))
        have kN2 := Hd.mk (show Blk _ pN [.string x.name, .string x.key, .int .i64 x.kind, .int .u64 x.num, .string x.text, .slice Kx x.kids.length kx0] 54 from ((((((kN.out.setCell 0 (.string x.name)).setCell 1 (.string x.key)).setCell 2 (.int .i64 x.kind)).setCell 3 (.int .u64 x.num)).setCell 4 (.string x.text)).setCell 5 (.slice Kx x.kids.length kx0)))
        have kJ := Hd.mk (kI.out.push hP.out hF.out hu.out kN2.out rx.out hmx.out (fun b hb => hb))
        replace kA := Hd.mk (SW.upd hu.out kA.out)
        have hln := Hd.mk (show (ts ++ [now]).length = ts.length + 1 by simp)
        rw [← hln.out]
        replace kI := kJ
        have kW := kA
        clear kJ kA hP hF hu kN2 kN hln
        generalize hW2 : World.setCell _ _ _ = W2 at kI kW ⊢
        clear hW2
        generalize ts ++ [now] = ts2 at *
        generalize lp ++ _ = lp2 at *
        refine Calls.mono kI.out.callLen ?_
        rintro e wE ⟨rfl, hx⟩
        replace kI := Hd.mk (kI.out.ext hx)
        replace kW := Hd.mk (kW.out.ext hx)
        clear hx
        go_wp2_with fail
        go_roundg (l.length - j)
        case measure => have := hq.out; omega
        case rel => exact ⟨j + 1, V2, lp2, ts2, x, Kx, kx0, A2, c2, by omega, ⟨by omega⟩, by go_num, rfl, kI, kW⟩
    · by_cases hk1 : sk = 1
      · subst hk1
        obtain ⟨m, hm⟩ : ∃ m, m = min sn.toNat ts.length := ⟨_, rfl⟩
        have gS := kS.out.cell
        have gN := kI.out.box.cell
        go_wp2_with fail
        clear gS gN
        refine Calls.mono (ref_prune28 (SW p pN V) ts W Aw cw sn m kW.out hm) ?_
        rintro e w4 ⟨A2, c2, rfl, hr2, hx⟩
        replace kI := Hd.mk (kI.out.ext hx)
        replace kS := Hd.mk (kS.out.ext hx)
        have kA := Hd.mk hr2
        replace hm := Hd.mk hm
        clear hx hr2 kW
        have gS := kS.out.cell
        go_wp2_with fail
        clear gS
        refine Calls.mono (kI.out.callPrune sn m hm.out) ?_
        rintro e w5 ⟨rfl, V2, hJ, hF⟩
        replace kI := Hd.mk hJ
        have kW := Hd.mk (SW.fr hF kA.out)
        have hln := Hd.mk (show (ts.drop m).length = ts.length - m by simp)
        clear hJ hF kA
        rw [← hln.out]
        generalize ts.drop m = ts2 at *
        generalize lp.drop m = lp2 at *
        clear hln
        go_wp2_with fail
        refine Calls.mono kI.out.callLen ?_
        rintro e wE ⟨rfl, hx⟩
        replace kI := Hd.mk (kI.out.ext hx)
        replace kW := Hd.mk (kW.out.ext hx)
        clear hx
        go_wp2_with fail
        go_roundg (l.length - j)
        case measure => have := hq.out; omega
        case rel => exact ⟨j + 1, V2, lp2, ts2, now, Kn, kn, A2, c2, by omega, ⟨by omega⟩, by go_num, rfl, kI, kW⟩
      · by_cases hk2 : sk = 2
        · subst hk2
          have gS := kS.out.cell
          have gN := kI.out.box.cell
          go_wp2_with fail
          clear gS gN
          have hAt := kI.out.callAt sn
          have hRf := Hd.mk (fun W' (h : Ext W W') => ref_at_all (SW p pN V) W' Aw cw ts now Kn kn sn (kW.out.ext h) (kI.out.rtW _ (kI.out.kx.trans h) (fun _ _ => trivial)))
          generalize (atT ts now sn).1 = t at hAt hRf
          generalize (atT ts now sn).2 = er at hAt hRf
          refine Calls.mono hAt ?_
          rintro e w4 ⟨_, rfl, c9, rfl, hr9, hx⟩
          obtain ⟨K1, k1, rfl, _⟩ := hr9.row
          simp only [cT] at hr9 ⊢
          clear hAt
          have hxA := hx.trans (Ext.alloc w4 (.cells #[.string t.name, .string t.key, .int .i64 t.kind, .int .u64 t.num, .string t.text, .slice K1 t.kids.length k1] 54))
          have hy := Hd.mk hxA
          replace kI := Hd.mk (kI.out.ext hxA)
          replace kS := Hd.mk (kS.out.ext hxA)
          replace kW := Hd.mk (kW.out.ext hxA)
          have r1 := Hd.mk (hr9.ext (Ext.alloc w4 (.cells #[.string t.name, .string t.key, .int .i64 t.kind, .int .u64 t.num, .string t.text, .slice K1 t.kids.length k1] 54)))
          have b1 := Hd.mk (Blk.new w4 #[.string t.name, .string t.key, .int .i64 t.kind, .int .u64 t.num, .string t.text, .slice K1 t.kids.length k1] 54)
          clear hx hxA hr9
          have gS := kS.out.cell
          have gN := kI.out.box.cell
          go_wp2_with fail
          clear gS gN
          generalize w4.heap.size = p1 at *
          generalize w4.alloc _ = W1 at *
          refine Calls.mono (hRf.out _ hy.out) ?_
          rintro e w5 ⟨_, rfl, c9, rfl, hr9, hx⟩
          obtain ⟨K2, k2, rfl, _⟩ := hr9.row
          simp only [cT] at hr9 ⊢
          have hxA := hx.trans (Ext.alloc w5 (.cells #[.string t.name, .string t.key, .int .i64 t.kind, .int .u64 t.num, .string t.text, .slice K2 t.kids.length k2] 54))
          replace kI := Hd.mk (kI.out.ext hxA)
          replace kW := Hd.mk (kW.out.ext hxA)
          replace r1 := Hd.mk (r1.out.ext hxA)
          replace b1 := Hd.mk (b1.out.ext hxA)
          have r2 := Hd.mk (hr9.ext (Ext.alloc w5 (.cells #[.string t.name, .string t.key, .int .i64 t.kind, .int .u64 t.num, .string t.text, .slice K2 t.kids.length k2] 54)))
          have b2 := Hd.mk (Blk.new w5 #[.string t.name, .string t.key, .int .i64 t.kind, .int .u64 t.num, .string t.text, .slice K2 t.kids.length k2] 54)
          clear hx hxA hr9 hRf hy kS
          have g1 := b1.out.cell
          go_wp2_with fail
          clear g1
          generalize w5.heap.size = p2 at *
          generalize w5.alloc _ = W2 at *
          have hsm := ref_same _ _ _ _ _ _ _ (Nat.le_refl _) r1.out r2.out
          rw [sameT_rfl] at hsm
          refine Calls.mono hsm ?_
          rintro e w6 ⟨rfl, hx⟩
          replace kI := Hd.mk (kI.out.ext hx)
          replace kW := Hd.mk (kW.out.ext hx)
          clear hx hsm r1 r2 b1 b2
          go_wp2_with fail
          refine Calls.mono kI.out.callLen ?_
          rintro e wE ⟨rfl, hx⟩
          replace kI := Hd.mk (kI.out.ext hx)
          replace kW := Hd.mk (kW.out.ext hx)
          clear hx
          go_wp2_with fail
          go_roundg (l.length - j)
          case measure => have := hq.out; omega
          case rel => exact ⟨j + 1, V, lp, ts, now, Kn, kn, Aw, cw, by omega, ⟨by omega⟩, by go_num, rfl, kI, kW⟩
        · have gS := kS.out.cell
          go_wp2_with fail
          clear gS
          refine Calls.mono kI.out.callLen ?_
          rintro e wE ⟨rfl, hx⟩
          replace kI := Hd.mk (kI.out.ext hx)
          replace kW := Hd.mk (kW.out.ext hx)
          clear hx
          go_wp2_with fail
          go_roundg (l.length - j)
          case measure => have := hq.out; omega
          case rel => exact ⟨j + 1, V, lp, ts, now, Kn, kn, Aw, cw, by omega, ⟨by omega⟩, by go_num, rfl, kI, kW⟩
  · have hnl : ¬ (j : Int) < (l.length : Int) := by omega
    replace kI := Hd.mk kI.out
    have gN := kI.out.box.cell
    go_wp2_with fail
    clear gN
    refine Calls.mono (past_at_nil W now Kn kn 0) ?_
    rintro e w4 ⟨_, rfl, rfl, hx⟩
    have hxA := hx.trans (Ext.alloc w4 (.cells #[.string ⟨#[]⟩, .string ⟨#[]⟩, .int .i64 0, .int .u64 0, .string ⟨#[]⟩, .slice none 0 0] 54))
    replace kI := Hd.mk (kI.out.ext hxA)
    clear hx hxA
    have gN := kI.out.box.cell
    go_wp2_with fail
    clear gN
    generalize w4.alloc _ = W4 at *
    refine Calls.mono (past_nil_push W4 now now Kn Kn kn kn) ?_
    rintro e w5 ⟨rfl, hx⟩
    replace kI := Hd.mk (kI.out.ext hx)
    clear hx
    go_wp2_with fail
    refine Calls.mono (past_nil_len w5) ?_
    rintro e w6 ⟨rfl, hx⟩
    replace kI := Hd.mk (kI.out.ext hx)
    clear hx
    go_wp2_with fail
    refine Calls.mono (past_nil_prune w6) ?_
    rintro e w7 ⟨rfl, hx⟩
    replace kI := Hd.mk (kI.out.ext hx)
    clear hx
    go_wp2_with fail
    go_ret
    exact ⟨rfl, kI.out.kx⟩
end Go.Proofs.Ytgkgedjmnbjalaa
set_option linter.unusedSimpArgs false
set_option linter.unusedVariables false
namespace Go.Proofs.Ytgkgedjmnbjalaa
open Go.RowKit Go.Sort
theorem Out.trans {D : Nat → Prop} {a b c : World} (h : Out D a b) (k : Out D b c) : Out D a c :=
  ⟨k.os.trans h.os, k.tape.trans h.tape, k.output.trans h.output, Nat.le_trans h.size k.size, fun i hi hn => (k.block i (Nat.lt_of_lt_of_le hi h.size) hn).trans (h.block i hi hn)⟩
theorem Out.mono {D D' : Nat → Prop} {a b : World} (h : Out D a b) (hd : ∀ i, D i → D' i) : Out D' a b := ⟨h.os, h.tape, h.output, h.size, fun i hi hn => h.block i hi (fun e => hn (hd i e))⟩
theorem Out.ext' {D : Nat → Prop} {a b : World} (h : Ext a b) : Out D a b := (Out.of_ext h).mono (fun _ h => h.elim)
theorem Out.cell {D : Nat → Prop} {a b : World} (h : Out D a b) {i off : Nat} {v : Value} (hc : a.cell? ⟨i, off, none⟩ = some v) (hn : ¬ D i) : b.cell? ⟨i, off, none⟩ = some v :=
  (h.keep (S := (· = i)) (S' := fun _ => True) (fun k _ e => ⟨by rw [e]; exact hn, trivial⟩) i off v rfl hc).2
structure AllR (w : World) (B : Nat) (W : World) (VA : Value) (all : List T) (css : List (List Value)) : Prop where
  len : css.length = all.length
  c6 : ∀ c ∈ css, c.length = 6
  each : ∀ (i : Nat) k c, all[i]? = some k → css[i]? = some c → RT (fun b => b < w.heap.size) w k c
  own : W.ownsRow B 54 6 VA all.length css.flatten
theorem AllR.out {w W W' : World} {B : Nat} {VA : Value} {all : List T} {css : List (List Value)} {D : Nat → Prop} (h : AllR w B W VA all css) (ho : Out D W W') (hn : ∀ b, VA.ownBlock = some b → ¬ D b) : AllR w B W' VA all css := ⟨h.len, h.c6, h.each, own_out h.own ho hn⟩
theorem AllR.ext {w W W' : World} {B : Nat} {VA : Value} {all : List T} {css : List (List Value)} (h : AllR w B W VA all css) (hx : Ext W W') : AllR w B W' VA all css := h.out (Out.of_ext hx) (fun _ _ h => h)
theorem AllR.get {w W : World} {B : Nat} {VA : Value} {all : List T} {css : List (List Value)} (h : AllR w B W VA all css) {i : Nat} {k : T} (hi : all[i]? = some k) :
    ∃ g cap K kc, VA = .slice (some ⟨g, 0, none⟩) all.length cap ∧ all.length ≤ cap ∧ RT (fun b => b < w.heap.size) w k [.string k.name, .string k.key, .int .i64 k.kind, .int .u64 k.num, .string k.text, .slice K k.kids.length kc] ∧ ∀ (j : Nat) v, [.string k.name, .string k.key, .int .i64 k.kind, .int .u64 k.num, .string k.text, .slice K k.kids.length kc][j]? = some v → W.cell? ⟨g, i * 6 + j, none⟩ = some v := by
  have hlt := (List.getElem?_eq_some_iff.1 hi).1
  have hlc : i < css.length := by rw [h.len]; exact hlt
  obtain ⟨g, cap, sp, hv, _, hb, hc, _, _⟩ := own_form h.own (by omega)
  have hr := h.each i k _ hi (List.getElem?_eq_getElem hlc)
  obtain ⟨K, kc, he, _⟩ := hr.row
  simp only [cT] at he
  rw [he] at hr
  refine ⟨g, cap, K, kc, hv, hc, hr, fun j v hj => ?_⟩
  rw [hb.cell]
  have h9 := flatten_get css h.c6 i _ (List.getElem?_eq_getElem hlc) j v (by rw [he]; exact hj)
  rw [List.getElem?_append_left (List.getElem?_eq_some_iff.1 h9).1]
  exact h9
theorem AllR.push {w W W' : World} {B : Nat} {VA VA' : Value} {all : List T} {css : List (List Value)} {now : T} {c : List Value} (h : AllR w B W VA all css) (hr : RT (fun b => b < w.heap.size) w now c) (hown : W'.ownsRow B 54 6 VA' (all.length + 1) (css.flatten ++ c)) : AllR w B W' VA' (all ++ [now]) (css ++ [c]) := by
  refine ⟨by simp [h.len], fun d hd => ?_, fun i k d hk hd => ?_, by simpa using hown⟩
  · rcases List.mem_append.1 hd with hd | hd
    · exact h.c6 d hd
    · simp at hd; subst hd; exact hr.len
  · by_cases hi : i < all.length
    · rw [List.getElem?_append_left hi] at hk
      rw [List.getElem?_append_left (by rw [h.len]; exact hi)] at hd
      exact h.each i k d hk hd
    · have h1 := (List.getElem?_eq_some_iff.1 hk).1
      have h2 : i = all.length := by simp at h1; omega
      subst h2
      rw [List.getElem?_append_right (by omega), Nat.sub_self] at hk
      rw [List.getElem?_append_right (by rw [h.len]; omega), h.len, Nat.sub_self] at hd
      simp at hk hd
      subst hk hd
      exact hr
theorem AllR.lt {w W : World} {B : Nat} {VA : Value} {all : List T} {css : List (List Value)} (h : AllR w B W VA all css) : ∀ b, VA.ownBlock = some b → B ≤ b ∧ b < W.heap.size := fun b hb => ⟨own_base h.own b hb, own_lt h.own b hb⟩
def Newest (all ts : List T) : Prop := ts = all.drop (all.length - ts.length) ∧ ts.length = min all.length 8
theorem Newest.push {all ts : List T} {now : T} (h : Newest all ts) (hl : ts.length < 8) : Newest (all ++ [now]) (ts ++ [now]) := by
  obtain ⟨h1, h2⟩ := h
  refine ⟨?_, by simp; omega⟩
  have e : (all ++ [now]).length - (ts ++ [now]).length = all.length - ts.length := by simp
  rw [e, List.drop_append_of_le_length (by omega), ← h1]
theorem Newest.turn {all ts : List T} {now : T} (h : Newest all ts) (hl : ts.length = 8) : Newest (all ++ [now]) (ts.drop 1 ++ [now]) := by
  obtain ⟨h1, h2⟩ := h
  refine ⟨?_, by simp; omega⟩
  have e : (all ++ [now]).length - (ts.drop 1 ++ [now]).length = all.length - ts.length + 1 := by simp; omega
  rw [e, List.drop_append_of_le_length (by omega)]
  conv => lhs; rw [h1]
  rw [List.drop_drop]
theorem Newest.at_ {all ts : List T} {now x : T} {n i : Nat} (h : Newest all ts) (h0 : 0 < n) (hn : n ≤ ts.length) (hi : n + i = all.length) (hx : all[i]? = some x) : atT ts now n = (x, 0) := by
  obtain ⟨h1, h2⟩ := h
  rw [atT, if_neg (by omega), Int.toNat_natCast, was_n (i := ts.length - n) (x := x) (by omega) h0]
  rw [h1, List.getElem?_drop]
  rw [← hx]
  congr 1
  rw [← h1]
  omega
set_option maxRecDepth 100000 in
set_option maxHeartbeats 4000000 in
theorem all28_walk (l : List S28) (w : World) (A : Option Addr) (c : Nat) (h : SRow28 w A l c) :
    Calls Try.prog 21 #[.slice A l.length c] w fun e w' => e = .returned (.bool true) ∧ Ext w w' := by
  have kr := Hd.mk h
  have hlen := h.len
  have hnul := Hd.mk h.nul
  clear h
  go_enter Try.func21, Try.ntmps21
  go_wp2_with fail
  refine Calls.mono (awake28 w) ?_
  rintro e w1 ⟨rfl, hx⟩
  have k1 := Hd.mk hx
  clear hx
  go_wp2_with fail
  refine Calls.mono (may28_walk l w1 A c (kr.out.ext k1.out)) ?_
  rintro e w2 ⟨rfl, hx⟩
  replace k1 := Hd.mk (k1.out.trans hx)
  clear hx
  cases hm : may28 l with
  | false =>
    go_wp2_with fail
    go_ret
    exact ⟨rfl, k1.out⟩
  | true =>
  obtain ⟨hmay, hl40⟩ := may28_yes hm
  replace hmay := Hd.mk hmay
  replace hl40 := Hd.mk hl40
  clear hm
  go_wp2_with fail
  refine Calls.mono (past_new (fun _ => True) w2) ?_
  rintro e w3 ⟨rfl, hP, hx, hs⟩
  have hpw := Hd.mk k1.out.size
  replace k1 := Hd.mk (k1.out.trans hx)
  have kP := Hd.mk hP
  clear hx hP hs
  generalize w2.heap.size = p at *
  go_wp2_with fail
  have kI : Hd (I28 w (fun b => b ≠ w3.heap.size ∧ (Value.slice none 0 0).ownBlock ≠ some b) p w3.heap.size (w3.alloc (.cells #[.string ⟨#[]⟩, .string ⟨#[]⟩, .int .i64 0, .int .u64 0, .string ⟨#[]⟩, .slice none 0 0] 54)) (.slice none 0 0) [] [] zeroT none 0) :=
    ⟨⟨k1.out.trans (Ext.alloc _ _), (kP.out.mono (fun b hb _ => ⟨Nat.ne_of_lt hb, fun h => by cases h⟩)).ext (Ext.alloc _ _), hpw.out, k1.out.size, Blk.new w3 _ _, fun e => by have := kP.out.box.lt; omega, (fun e => by cases e), rt_zero _ _, Trail.nil, fun b hb => by simp at hb; exact ⟨by omega, fun h => by cases h⟩⟩⟩
  have hpN := Hd.mk (show p < w3.heap.size from kP.out.box.lt)
  have kA : Hd (AllR w (w3.heap.size + 1) (w3.alloc (.cells #[.string ⟨#[]⟩, .string ⟨#[]⟩, .int .i64 0, .int .u64 0, .string ⟨#[]⟩, .slice none 0 0] 54)) (.slice none 0 0) [] []) := ⟨⟨rfl, by simp, by simp, ⟨rfl, .inl ⟨rfl, rfl⟩⟩⟩⟩
  clear kP hpw k1
  generalize w3.heap.size = pN at *
  generalize w3.alloc _ = W at *
  go_loopg [6, 8] (l.length + 1) (fun q wv i wr => ∃ (j : Nat) (V VA : Value) (lp : List Pe) (all ts : List T) (css : List (List Value)) (now : T) (Kn : Option Addr) (kn : Nat), j ≤ l.length ∧ Hd (l.length - j < q) ∧ i = .int .i64 j ∧ wv = VA ∧ Hd (all.length = j) ∧ Hd (I28 w (fun b => b ≠ pN ∧ VA.ownBlock ≠ some b) p pN wr V lp ts now Kn kn) ∧ Hd (AllR w (pN + 1) wr VA all css) ∧ Hd (Newest all ts))
  case atStart => exact ⟨0, _, _, _, [], _, _, _, _, _, Nat.zero_le _, ⟨by omega⟩, rfl, rfl, ⟨rfl⟩, kI, kA, ⟨rfl, rfl⟩⟩
  case round =>
  clear kI kA
  obtain ⟨j, V, VA, lp, all, ts, css, now, Kn, kn, hj, hq, rfl, rfl, hal, kI, kA, kE⟩ := hrel
  generalize wr = W at *
  by_cases hlt : j < l.length
  · skip
    have hx1 := List.getElem?_eq_getElem hlt
    generalize l[j] = s at hx1
    obtain ⟨hsz, b, off, cs, rfl, hrt, hc⟩ := kr.out.step j s hx1
    have hmx := Hd.mk (hmay.out j s hx1)
    obtain ⟨sk, sn, x⟩ := s
    obtain ⟨Kx, kx0, rfl, _⟩ := hrt.row
    simp only at hsz hmx hrt hc
    have rx := Hd.mk (hrt.mono (S' := fun b => b < w.heap.size) (fun b hb _ => hb))
    simp only [cT] at rx hc
    clear hrt hx1 hsz
    have hin : Hd (∀ (q : Nat) v, ([.int .i64 sk, .int .i64 sn, .string x.name, .string x.key, .int .i64 x.kind, .int .u64 x.num, .string x.text, .slice Kx x.kids.length kx0])[q]? = some v → w.cell? ⟨b, off + j * 8 + q, none⟩ = some v) := ⟨hc⟩
    have hcW : Hd (∀ (q : Nat) v, ([.int .i64 sk, .int .i64 sn, .string x.name, .string x.key, .int .i64 x.kind, .int .u64 x.num, .string x.text, .slice Kx x.kids.length kx0])[q]? = some v → W.cell? ⟨b, off + j * 8 + q, none⟩ = some v) := ⟨fun q v hv => Ext.cell kI.out.kx (hc q v hv)⟩
    clear hc
    obtain ⟨AA, ca, rfl, hca, _⟩ := own_slice kA.out.own
    replace hca := Hd.mk hca
    go_wp2_with fail
    refine Flow.wp_region_flow_l (fun qq => match qq with
      | 27 => SP.eq (.pointer (some ⟨p, 0, none⟩))
      | 28 => SP.eq (.agg #[.string now.name, .string now.key, .int .i64 now.kind, .int .u64 now.num, .string now.text, .slice Kn now.kids.length kn])
      | 29 => SP.eq (.slice (some ⟨b, off, none⟩) l.length c)
      | 30 => SP.eq (.int .i64 (j : Nat))
      | 31 => SP.eq (.pointer (some ⟨b, off + j * 8, none⟩))
      | 32 => SP.eq (.pointer (some ⟨b, off + j * 8 + 2, none⟩))
      | 33 => SP.eq (.agg #[.string x.name, .string x.key, .int .i64 x.kind, .int .u64 x.num, .string x.text, .slice Kx x.kids.length kx0])
      | _ => SP.any) 7 (by kernel_rfl) 97 rfl (by kernel_rfl) ?_ ?_
    · skip
      refine ⟨?_, ?_, ?_, ?_, ?_, ?_, ?_, trivial⟩
      · intro act W2 hk
        refine Flow.does_intro rfl (fun Kq hK => ?_)
        have e5 : act.tmps[5]?.getD undef = .pointer (some ⟨p, 0, none⟩) := hk.o 5 (by kernel_rfl)
        clear hk
        go_simp
        exact hK _ _ (Ext.refl _) (fun d hd => by cases hd; rfl)
      · intro act W2 hk
        refine Flow.does_intro rfl (fun Kq hK => ?_)
        have e7 : act.tmps[7]?.getD undef = .pointer (some ⟨pN, 0, none⟩) := hk.o 7 (by kernel_rfl)
        have g := ((kI.out.box).ext ((Ext.drew W).trans hk.ext)).cell
        clear hk
        go_simp
        exact hK _ _ (Ext.refl _) (fun d hd => by cases hd; rfl)
      · intro act W2 hk
        refine Flow.does_intro rfl (fun Kq hK => ?_)
        have e0 : act.tmps[0]?.getD undef = .slice (some ⟨b, off, none⟩) l.length c := hk.o 0 (by kernel_rfl)
        clear hk
        go_simp
        exact hK _ _ (Ext.refl _) (fun d hd => by cases hd; rfl)
      · intro act W2 hk
        refine Flow.does_intro rfl (fun Kq hK => ?_)
        have e8 : act.tmps[8]?.getD undef = .int .i64 (j : Nat) := hk.o 8 (by kernel_rfl)
        clear hk
        go_simp
        exact hK _ _ (Ext.refl _) (fun d hd => by cases hd; rfl)
      · intro act W2 hk
        refine Flow.does_intro rfl (fun Kq hK => ?_)
        have e29 : act.tmps[29]?.getD undef = .slice (some ⟨b, off, none⟩) l.length c := hk.v 29 (by kernel_rfl)
        have e30 : act.tmps[30]?.getD undef = .int .i64 (j : Nat) := hk.v 30 (by kernel_rfl)
        clear hk
        go_simp
        exact hK _ _ (Ext.refl _) (fun d hd => by cases hd; rfl)
      · intro act W2 hk
        refine Flow.does_intro rfl (fun Kq hK => ?_)
        have e31 : act.tmps[31]?.getD undef = .pointer (some ⟨b, off + j * 8, none⟩) := hk.v 31 (by kernel_rfl)
        clear hk
        go_simp
        exact hK _ _ (Ext.refl _) (fun d hd => by cases hd; rfl)
      · intro act W2 hk
        refine Flow.does_intro rfl (fun Kq hK => ?_)
        have e32 : act.tmps[32]?.getD undef = .pointer (some ⟨b, off + j * 8 + 2, none⟩) := hk.v 32 (by kernel_rfl)
        have g2 := Ext.cell ((Ext.drew W).trans hk.ext) ((hcW.out) 2 _ rfl)
        have g3 := Ext.cell ((Ext.drew W).trans hk.ext) ((hcW.out) 3 _ rfl)
        have g4 := Ext.cell ((Ext.drew W).trans hk.ext) ((hcW.out) 4 _ rfl)
        have g5 := Ext.cell ((Ext.drew W).trans hk.ext) ((hcW.out) 5 _ rfl)
        have g6 := Ext.cell ((Ext.drew W).trans hk.ext) ((hcW.out) 6 _ rfl)
        have g7 := Ext.cell ((Ext.drew W).trans hk.ext) ((hcW.out) 7 _ rfl)
        clear hk
        go_simp
        exact hK _ _ (Ext.refl _) (fun d hd => by cases hd; rfl)
    · intro act W2 he
      have hxW2 := Hd.mk ((Ext.drew W).trans he.ext)
      obtain ⟨us, hA, hF⟩ := he.out [27, 28, 29, 30, 31, 32, 33] (by kernel_rfl)
      simp only [Flow.fillL, List.contains_cons, List.contains_nil, Nat.reduceBEq, Bool.or_false, Bool.false_or, Bool.or_true, Bool.true_or, ↓reduceIte, Nat.reduceAdd, Bool.false_eq_true] at hA
      subst hA
      have f27 : us 27 = .pointer (some ⟨p, 0, none⟩) := hF 27 (by simp)
      have f28 : us 28 = .agg #[.string now.name, .string now.key, .int .i64 now.kind, .int .u64 now.num, .string now.text, .slice Kn now.kids.length kn] := hF 28 (by simp)
      have f33 : us 33 = .agg #[.string x.name, .string x.key, .int .i64 x.kind, .int .u64 x.num, .string x.text, .slice Kx x.kids.length kx0] := hF 33 (by simp)
      clear hF he
      rw [f27]
      clear f27
      rw [f28]
      clear f28
      rw [f33]
      clear f33
      refine (show wpList _ _ _ (⟨some 34, .call _, _, _, _, none⟩ :: _) _ _ from ?_)
      replace kI := Hd.mk (kI.out.ext hxW2.out)
      replace kA := Hd.mk (kA.out.ext hxW2.out)
      replace hcW := Hd.mk (fun q v hv => Ext.cell hxW2.out (hcW.out q v hv))
      clear hxW2
      go_wp2_with fail
      refine Calls.mono (kI.out.callPush (rx.out.ext kI.out.kx |>.mono fun _ _ _ => trivial) hmx.out) ?_
      rintro e w5 (⟨hf8, rfl, V5, A9, c9, hP, hF⟩ | ⟨hf8, rfl, hx⟩)
      · have hP := Hd.mk hP
        replace hF := Hd.mk hF
        replace hf8 := Hd.mk hf8
        have kA5 := Hd.mk (kA.out.out (Out.of_fr hF.out) (fun b hb h => h.elim (fun e => by have h1 := (kA.out.lt b hb).1; have h2 := hpN.out; omega) (fun e => (kI.out.pr.row b e).2 hb)))
        have kN5 := Hd.mk (hF.out.blk kI.out.box kI.out.ne kI.out.nv)
        have hx5 := Hd.mk (past_ext kI.out.kx kI.out.pw kI.out.pr hF.out)
        have hnv5 := Hd.mk (hF.out.ne kI.out.box.lt kI.out.nv)
        have gN := kN5.out.cell
        go_wp2_with (with_reducible refine stop_at (.call { callee := .builtin .append, args := #[.tmp 55, .tmp 57], argTypes := #[52, 52] }) ?_)
        refine Stop.mk ?_
        clear gN
        have hxA := Hd.mk (Ext.alloc w5 (.cells #[.string now.name, .string now.key, .int .i64 now.kind, .int .u64 now.num, .string now.text, .slice Kn now.kids.length kn] 54))
        have kD := Hd.mk (Blk.new w5 #[.string now.name, .string now.key, .int .i64 now.kind, .int .u64 now.num, .string now.text, .slice Kn now.kids.length kn] 54)
        replace hP := Hd.mk (hP.out.ext hxA.out)
        replace kA5 := Hd.mk (kA5.out.ext hxA.out)
        replace kN5 := Hd.mk (kN5.out.ext hxA.out)
        replace hx5 := Hd.mk (hx5.out.trans hxA.out)
        clear hxA
        generalize w5.heap.size = pD at *
        generalize w5.alloc _ = w6 at *
        refine wpl_append' sl52 (by omega) (by omega) (.tmp 55) (.tmp 57) 58 _ _ _ (pN + 1) (.slice AA all.length ca) all.length css.flatten rfl kA5.out.own ⟨pD, 0, none⟩ 1 1 [.string now.name, .string now.key, .int .i64 now.kind, .int .u64 now.num, .string now.text, .slice Kn now.kids.length kn] rfl rfl (fun i u hi => by rw [addr_add, Nat.zero_add, kD.out.cell]; exact hi) rfl (by have h1 := hal.out; have h2 := hl40.out; omega) (by have := kN5.out.lt; omega) ?_
        intro VA7 w7 hown hgr hat
        have hA7 := hown
        obtain ⟨A7, c7, rfl, hc7, _⟩ := own_slice hown
        have ho := Out.of_grown hgr
        have hlA := kA5.out.lt
        have hneN : ¬ (Value.slice AA all.length ca).ownBlock = some pN := fun e => by have := (hlA pN e).1; omega
        have hneP : ¬ (Value.slice AA all.length ca).ownBlock = some p := fun e => by have h1 := (hlA p e).1; have h2 := hpN.out; omega
        have hAV : ∀ b, V5.ownBlock = some b → ¬ (Value.slice AA all.length ca).ownBlock = some b := fun b hb e => (hP.out.row b hb).2 e
        have hnew : ∀ b, b < w6.heap.size → (Value.slice AA all.length ca).ownBlock ≠ some b → (Value.slice A7 (all.length + 1) c7).ownBlock ≠ some b := fun b hb h => by
          rcases hat with e | e
          · rw [e]; exact h
          · rw [e]; intro h9; injection h9 with h9; omega
        have hP7 := Hd.mk (hP.out.out (G' := fun b => b ≠ pN ∧ (Value.slice A7 (all.length + 1) c7).ownBlock ≠ some b) ho hneP hAV (fun b hb hg => ⟨hg.2, hg.1, hnew b hb hg.2⟩))
        have kN7 := Hd.mk (ho.blk kN5.out hneN)
        have hx7 := Hd.mk (Below.trans hx5.out (ho.below hx5.out.size (fun b hb e => by have h1 := (hlA b e).1; have h2 := kI.out.lo; omega)))
        have kA7 := Hd.mk (kA5.out.push kI.out.rt hA7)
        have gc7 : ∀ b, w7.heap.size ≤ b → b ≠ pN ∧ (Value.slice A7 (all.length + 1) c7).ownBlock ≠ some b := fun b hb => ⟨by have := kN7.out.lt; omega, fun e => by have := own_lt hA7 b e; omega⟩
        replace gc7 := Hd.mk gc7
        have hb7 := Hd.mk (fun b => (own_base hA7 b))
        clear hP hF kA5 kN5 hx5 hown hgr hat hA7 ho hlA hneN hneP hAV hnew kA
        have cc2 := Ext.cell (kI.out.kx) (hin.out 2 _ rfl)
        clear cc2
        have c2 := Ext.cell hx7.out (hin.out 2 _ rfl)
        have c3 := Ext.cell hx7.out (hin.out 3 _ rfl)
        have c4 := Ext.cell hx7.out (hin.out 4 _ rfl)
        have c5 := Ext.cell hx7.out (hin.out 5 _ rfl)
        have c6 := Ext.cell hx7.out (hin.out 6 _ rfl)
        have c7x := Ext.cell hx7.out (hin.out 7 _ rfl)
        have gN := kN7.out.cell
        have fN := kN7.out.free
        go_wp2_with (with_reducible refine stop_at (.call { callee := .value (.func 84), args := #[.tmp 64], argTypes := #[88] }) ?_)
        refine Stop.mk ?_
        clear gN fN c2 c3 c4 c5 c6 c7x
        have hu := Hd.mk ((((((Upd.setCell w7 ⟨pN, 0, none⟩ (.string x.name)).trans (Upd.setCell _ ⟨pN, 1, none⟩ (.string x.key))).trans (Upd.setCell _ ⟨pN, 2, none⟩ (.int .i64 x.kind))).trans (Upd.setCell _ ⟨pN, 3, none⟩ (.int .u64 x.num))).trans (Upd.setCell _ ⟨pN, 4, none⟩ (.string x.text))).trans (Upd.setCell _ ⟨pN, 5, none⟩ (.slice Kx x.kids.length kx0)))
        have kN8 := Hd.mk (show Blk _ pN [.string x.name, .string x.key, .int .i64 x.kind, .int .u64 x.num, .string x.text, .slice Kx x.kids.length kx0] 54 from ((((((kN7.out.setCell 0 (.string x.name)).setCell 1 (.string x.key)).setCell 2 (.int .i64 x.kind)).setCell 3 (.int .u64 x.num)).setCell 4 (.string x.text)).setCell 5 (.slice Kx x.kids.length kx0)))
        have kJ : Hd (I28 w (fun b => b ≠ pN ∧ (Value.slice A7 (all.length + 1) c7).ownBlock ≠ some b) p pN _ V5 (lp ++ [(inverse (edits 200 now x []), A9, c9)]) (ts ++ [now]) x Kx kx0) :=
          ⟨⟨Below.trans hx7.out (hu.out.below kI.out.lo), hP7.out.out (Out.of_upd hu.out) (fun e => kI.out.ne e.symm) (fun b hb e => hnv5.out (by rw [hb, e])) (fun b _ hg => ⟨hg.1, hg⟩), kI.out.pw, kI.out.lo, kN8.out, kI.out.ne, hnv5.out, rx.out, kI.out.tr.push hmx.out, fun b hb => gc7.out b (by rw [← hu.out.size]; exact hb)⟩⟩
        replace kA7 := Hd.mk (kA7.out.out (Out.of_upd (g := pN) hu.out) (fun b hb e => by have := hb7.out b hb; omega))
        have kE7 := Hd.mk (kE.out.push (now := now) hf8.out)
        have hln := Hd.mk (show (all ++ [now]).length = all.length + 1 by simp)
        have hal7 := Hd.mk (show (all ++ [now]).length = j + 1 by simp [hal.out])
        rw [← hln.out] at kJ kA7 ⊢
        clear hP7 kN7 hx7 gc7 hb7 hu kN8 kI hln kE hal hnv5 kD
        generalize hW8 : World.setCell _ _ _ = W8 at kJ kA7 ⊢
        clear hW8
        generalize all ++ [now] = all2 at *
        generalize ts ++ [now] = ts2 at *
        generalize lp ++ _ = lp2 at *
        have hmin := Hd.mk (show min (all2.length : Int) 8 = (ts2.length : Int) by have := kE7.out.2; omega)
        go_wp2_with fail
        refine Calls.mono kJ.out.callLen ?_
        rintro e w9 ⟨rfl, hx⟩
        replace kJ := Hd.mk (kJ.out.ext hx)
        replace kA7 := Hd.mk (kA7.out.ext hx)
        clear hx
        have hminv := hmin.out
        go_wp2_with fail
        clear hminv
        have kX9 := Hd.mk (Ext.refl w9)
        go_loopg [9] (ts2.length + 1) (fun q ni wr => ∃ n : Nat, 0 < n ∧ n ≤ ts2.length + 1 ∧ Hd (ts2.length + 1 - n < q) ∧ ni = .int .i64 n ∧ Hd (Ext w9 wr))
        case atStart => exact ⟨1, by omega, by omega, ⟨by omega⟩, rfl, kX9⟩
        case round =>
        clear kX9
        obtain ⟨n, hn0, hn1, hqn, rfl, kX⟩ := hrel
        generalize wr = U at *
        have hts8 : ts2.length ≤ 8 := by have := kE7.out.2; omega
        go_wp2_with fail
        refine Calls.mono (kJ.out.ext kX.out).callLen ?_
        rintro e w10 ⟨rfl, hx⟩
        replace kX := Hd.mk (kX.out.trans hx)
        clear hx
        by_cases hn2 : n ≤ ts2.length
        · have hn2i : (n : Int) ≤ (ts2.length : Int) := by omega
          have kJn := Hd.mk (kJ.out.ext kX.out)
          have gN := kJn.out.box.cell
          go_wp2_with fail
          clear gN
          have hle8 := Hd.mk kE7.out.2
          obtain ⟨i, hi⟩ : ∃ i, n + i = all2.length := ⟨all2.length - n, by have := hle8.out; omega⟩
          have hil : i < all2.length := by omega
          have hgi := List.getElem?_eq_getElem hil
          generalize all2[i] = y at hgi
          have hAt := kJn.out.callAt n
          rw [kE7.out.at_ hn0 hn2 hi hgi] at hAt
          refine Calls.mono hAt ?_
          rintro e w11 ⟨_, rfl, c9, rfl, hr9, hx⟩
          obtain ⟨K1, k1, rfl, _⟩ := hr9.row
          simp only [cT] at hr9 ⊢
          clear hAt
          have hxA := hx.trans (Ext.alloc w11 (.cells #[.string y.name, .string y.key, .int .i64 y.kind, .int .u64 y.num, .string y.text, .slice K1 y.kids.length k1] 54))
          replace kX := Hd.mk (kX.out.trans hxA)
          have r1 := Hd.mk (hr9.ext (Ext.alloc w11 (.cells #[.string y.name, .string y.key, .int .i64 y.kind, .int .u64 y.num, .string y.text, .slice K1 y.kids.length k1] 54)))
          have b1 := Hd.mk (Blk.new w11 #[.string y.name, .string y.key, .int .i64 y.kind, .int .u64 y.num, .string y.text, .slice K1 y.kids.length k1] 54)
          clear hx hxA hr9
          have gx := kX.out
          clear gx
          go_wp2_with fail
          generalize w11.heap.size = pX at *
          generalize w11.alloc _ = W12 at *
          have kA12 := kA7.out.ext kX.out
          obtain ⟨g, cap, Ky, ky, hv, hcap, hry, hcy⟩ := kA12.get hgi
          simp only [Value.slice.injEq] at hv
          obtain ⟨rfl, _, rfl⟩ := hv
          have r2 := Hd.mk ((hry.ext (kJ.out.kx.trans kX.out)).mono (S' := fun _ => True) (fun _ _ _ => trivial))
          replace hcy := Hd.mk hcy
          have hii := Hd.mk (show (all2.length : Int) - (n : Int) = (i : Int) by omega)
          have hsm := Hd.mk (fun U (h : Ext W12 U) => (show Calls Try.prog 48 #[.agg #[.string y.name, .string y.key, .int .i64 y.kind, .int .u64 y.num, .string y.text, .slice K1 y.kids.length k1], .agg #[.string y.name, .string y.key, .int .i64 y.kind, .int .u64 y.num, .string y.text, .slice Ky y.kids.length ky]] U fun e w' => e = .returned (.bool true) ∧ Ext U w' from by
            have h9 := ref_same y.deep y y (fun _ => True) U _ _ (Nat.le_refl _) (r1.out.ext h) (r2.out.ext h)
            rw [sameT_rfl] at h9
            exact h9))
          clear kA12 hry hgi kJn hi
          refine Flow.wp_region_flow_l (fun qq => match qq with
            | 83 => SP.eq (.int .i64 0)
            | 84 => SP.eq (.bool false)
            | 85 => SP.eq (.bool false)
            | 86 => SP.eq (.agg #[.string y.name, .string y.key, .int .i64 y.kind, .int .u64 y.num, .string y.text, .slice K1 y.kids.length k1])
            | 87 => SP.eq (.slice (some ⟨g, 0, none⟩) all2.length c7)
            | 88 => SP.eq (.slice (some ⟨g, 0, none⟩) all2.length c7)
            | 89 => SP.eq (.int .i64 (all2.length : Nat))
            | 90 => SP.eq (.int .i64 (n : Nat))
            | 91 => SP.eq (.int .i64 (i : Nat))
            | 92 => SP.eq (.pointer (some ⟨g, i * 6, none⟩))
            | 93 => SP.eq (.agg #[.string y.name, .string y.key, .int .i64 y.kind, .int .u64 y.num, .string y.text, .slice Ky y.kids.length ky])
            | 94 => SP.eq (.bool true)
            | 95 => SP.eq (.bool false)
            | 96 => SP.eq (.bool false)
            | _ => SP.any) 14 (by kernel_rfl) 97 rfl (by kernel_rfl) ?_ ?_
          · skip
            refine ⟨?_, ?_, ?_, ?_, ?_, ?_, ?_, ?_, ?_, ?_, ?_, ?_, ?_, ?_, trivial⟩
            · intro act W2 hk
              refine Flow.does_intro rfl (fun Kq hK => ?_)
              have e11 : act.tmps[11]?.getD undef = .int .i64 0 := hk.o 11 (by kernel_rfl)
              clear hk
              go_simp
              exact hK _ _ (Ext.refl _) (fun d hd => by cases hd; rfl)
            · intro act W2 hk
              refine Flow.does_intro rfl (fun Kq hK => ?_)
              have e83 : act.tmps[83]?.getD undef = .int .i64 0 := hk.v 83 (by kernel_rfl)
              clear hk
              go_simp
              exact hK _ _ (Ext.refl _) (fun d hd => by cases hd; rfl)
            · intro act W2 hk
              refine Flow.does_intro rfl (fun Kq hK => ?_)
              have e84 : act.tmps[84]?.getD undef = .bool false := hk.v 84 (by kernel_rfl)
              clear hk
              go_simp
              exact hK _ _ (Ext.refl _) (fun d hd => by cases hd; rfl)
            · intro act W2 hk
              have eg : act.tmps[85]?.getD undef = .bool false := hk.v 85 (by kernel_rfl)
              refine Flow.does_intro (wanted_yes rfl rfl eg) (fun Kq hK => ?_)
              clear eg
              have e10 : act.tmps[10]?.getD undef = .pointer (some ⟨pX, 0, none⟩) := hk.o 10 (by kernel_rfl)
              have g := ((b1.out).ext ((Ext.drew W12).trans hk.ext)).cell
              clear hk
              go_simp
              exact hK _ _ (Ext.refl _) (fun d hd => by cases hd; rfl)
            · intro act W2 hk
              have eg : act.tmps[85]?.getD undef = .bool false := hk.v 85 (by kernel_rfl)
              refine Flow.does_intro (wanted_yes rfl rfl eg) (fun Kq hK => ?_)
              clear eg
              have e6 : act.tmps[6]?.getD undef = .slice (some ⟨g, 0, none⟩) all2.length c7 := hk.o 6 (by kernel_rfl)
              clear hk
              go_simp
              exact hK _ _ (Ext.refl _) (fun d hd => by cases hd; rfl)
            · intro act W2 hk
              have eg : act.tmps[85]?.getD undef = .bool false := hk.v 85 (by kernel_rfl)
              refine Flow.does_intro (wanted_yes rfl rfl eg) (fun Kq hK => ?_)
              clear eg
              have e6 : act.tmps[6]?.getD undef = .slice (some ⟨g, 0, none⟩) all2.length c7 := hk.o 6 (by kernel_rfl)
              clear hk
              go_simp
              exact hK _ _ (Ext.refl _) (fun d hd => by cases hd; rfl)
            · intro act W2 hk
              have eg : act.tmps[85]?.getD undef = .bool false := hk.v 85 (by kernel_rfl)
              refine Flow.does_intro (wanted_yes rfl rfl eg) (fun Kq hK => ?_)
              clear eg
              have e88 : act.tmps[88]?.getD undef = .slice (some ⟨g, 0, none⟩) all2.length c7 := hk.v 88 (by kernel_rfl)
              clear hk
              go_simp
              exact hK _ _ (Ext.refl _) (fun d hd => by cases hd; rfl)
            · intro act W2 hk
              have eg : act.tmps[85]?.getD undef = .bool false := hk.v 85 (by kernel_rfl)
              refine Flow.does_intro (wanted_yes rfl rfl eg) (fun Kq hK => ?_)
              clear eg
              have e9 : act.tmps[9]?.getD undef = .int .i64 (n : Nat) := hk.o 9 (by kernel_rfl)
              clear hk
              go_simp
              exact hK _ _ (Ext.refl _) (fun d hd => by cases hd; rfl)
            · intro act W2 hk
              have eg : act.tmps[85]?.getD undef = .bool false := hk.v 85 (by kernel_rfl)
              refine Flow.does_intro (wanted_yes rfl rfl eg) (fun Kq hK => ?_)
              clear eg
              have e89 : act.tmps[89]?.getD undef = .int .i64 (all2.length : Nat) := hk.v 89 (by kernel_rfl)
              have e90 : act.tmps[90]?.getD undef = .int .i64 (n : Nat) := hk.v 90 (by kernel_rfl)
              clear hk
              go_simp
              exact hK _ _ (Ext.refl _) (fun d hd => by cases hd; have h1 := hii.out; have h2 := hal7.out; simp [SP.eq]; first | omega | (rw [IntKind.wrap_i64]; first | omega | (unfold wrap64; omega)))
            · intro act W2 hk
              have eg : act.tmps[85]?.getD undef = .bool false := hk.v 85 (by kernel_rfl)
              refine Flow.does_intro (wanted_yes rfl rfl eg) (fun Kq hK => ?_)
              clear eg
              have e87 : act.tmps[87]?.getD undef = .slice (some ⟨g, 0, none⟩) all2.length c7 := hk.v 87 (by kernel_rfl)
              have e91 : act.tmps[91]?.getD undef = .int .i64 (i : Nat) := hk.v 91 (by kernel_rfl)
              clear hk
              go_simp
              exact hK _ _ (Ext.refl _) (fun d hd => by cases hd; rfl)
            · intro act W2 hk
              have eg : act.tmps[85]?.getD undef = .bool false := hk.v 85 (by kernel_rfl)
              refine Flow.does_intro (wanted_yes rfl rfl eg) (fun Kq hK => ?_)
              clear eg
              have e92 : act.tmps[92]?.getD undef = .pointer (some ⟨g, i * 6, none⟩) := hk.v 92 (by kernel_rfl)
              have g0 := Ext.cell ((Ext.drew W12).trans hk.ext) ((hcy.out) 0 _ rfl)
              rw [Nat.add_zero] at g0
              have g1 := Ext.cell ((Ext.drew W12).trans hk.ext) ((hcy.out) 1 _ rfl)
              have g2 := Ext.cell ((Ext.drew W12).trans hk.ext) ((hcy.out) 2 _ rfl)
              have g3 := Ext.cell ((Ext.drew W12).trans hk.ext) ((hcy.out) 3 _ rfl)
              have g4 := Ext.cell ((Ext.drew W12).trans hk.ext) ((hcy.out) 4 _ rfl)
              have g5 := Ext.cell ((Ext.drew W12).trans hk.ext) ((hcy.out) 5 _ rfl)
              clear hk
              go_simp
              exact hK _ _ (Ext.refl _) (fun d hd => by cases hd; rfl)
            · intro act W2 hk
              have eg : act.tmps[85]?.getD undef = .bool false := hk.v 85 (by kernel_rfl)
              refine Flow.does_intro (wanted_yes rfl rfl eg) (fun Kq hK => ?_)
              clear eg
              have e86 : act.tmps[86]?.getD undef = .agg #[.string y.name, .string y.key, .int .i64 y.kind, .int .u64 y.num, .string y.text, .slice K1 y.kids.length k1] := hk.v 86 (by kernel_rfl)
              have e93 : act.tmps[93]?.getD undef = .agg #[.string y.name, .string y.key, .int .i64 y.kind, .int .u64 y.num, .string y.text, .slice Ky y.kids.length ky] := hk.v 93 (by kernel_rfl)
              have hx0 := Hd.mk ((Ext.drew W12).trans hk.ext)
              clear hk
              go_simp
              refine Calls.mono (hsm.out _ hx0.out) ?_
              rintro e W3 ⟨rfl, hx⟩
              exact hK _ _ hx (fun d hd => by cases hd; rfl)
            · intro act W2 hk
              have eg : act.tmps[85]?.getD undef = .bool false := hk.v 85 (by kernel_rfl)
              refine Flow.does_intro (wanted_yes rfl rfl eg) (fun Kq hK => ?_)
              clear eg
              have e94 : act.tmps[94]?.getD undef = .bool true := hk.v 94 (by kernel_rfl)
              clear hk
              go_simp
              exact hK _ _ (Ext.refl _) (fun d hd => by cases hd; rfl)
            · intro act W2 hk
              refine Flow.does_intro rfl (fun Kq hK => ?_)
              have e85 : act.tmps[85]?.getD undef = .bool false := hk.v 85 (by kernel_rfl)
              have e95 : act.tmps[95]?.getD undef = .bool false := hk.v 95 (by kernel_rfl)
              clear hk
              go_simp
              exact hK _ _ (Ext.refl _) (fun d hd => by cases hd; rfl)
          · intro act W2 he
            have hxW2 := Hd.mk ((Ext.drew W12).trans he.ext)
            obtain ⟨us, hA, hF⟩ := he.out [83, 84, 85, 86, 87, 88, 89, 90, 91, 92, 93, 94, 95, 96] (by kernel_rfl)
            simp only [Flow.fillL, List.contains_cons, List.contains_nil, Nat.reduceBEq, Bool.or_false, Bool.false_or, Bool.or_true, Bool.true_or, ↓reduceIte, Nat.reduceAdd, Bool.false_eq_true] at hA
            subst hA
            have f96 : us 96 = .bool false := hF 96 (by simp)
            clear hF he
            rw [f96]
            clear f96
            refine (show wpList _ _ _ [] _ _ from ?_)
            replace kX := Hd.mk (kX.out.trans hxW2.out)
            clear hxW2 hsm r1 r2 b1
            go_wp2_with fail
            go_roundg (ts2.length + 1 - n)
            case measure => have := hqn.out; omega
            case rel => have h88 : n ≤ 8 := (by have := hle8.out; omega); exact ⟨n + 1, by omega, by omega, ⟨by omega⟩, by go_num, kX⟩
        · have hn2i : ¬ (n : Int) ≤ (ts2.length : Int) := by omega
          replace kJ := Hd.mk (kJ.out.ext kX.out)
          replace kA7 := Hd.mk (kA7.out.ext kX.out)
          go_wp2_with fail
          go_roundg (l.length - j)
          case measure => have := hq.out; omega
          case rel => exact ⟨j + 1, V5, _, lp2, all2, ts2, _, x, Kx, kx0, by omega, ⟨by omega⟩, by go_num, rfl, hal7, kJ, kA7, kE7⟩
      · replace kI := Hd.mk (kI.out.ext hx)
        replace kA := Hd.mk (kA.out.ext hx)
        replace hcW := Hd.mk (fun q v hv => Ext.cell hx (hcW.out q v hv))
        replace hf8 := Hd.mk hf8
        clear hx
        go_wp2_with fail
        have hbD : Hd (¬ (b = p ∨ V.ownBlock = some b)) := ⟨fun h => by have h1 := World.block_lt_of_cell? w _ (hin.out 0 _ rfl); have h2 := kI.out.pw; simp only at h1; rcases h with e | e; omega; have := kI.out.pr.ge b e; omega⟩
        refine FlowG.wp_region_flow_l (G := (fun (_ : Act) u => ∃ V1, I28 w (fun b => b ≠ pN ∧ (Value.slice AA all.length ca).ownBlock ≠ some b) p pN u V1 (lp.drop 1) (ts.drop 1) now Kn kn ∧ Fr p w5 V u V1)) (fun _ _ _ hx ⟨V1, h1, h2⟩ => ⟨V1, h1.ext hx, h2.trans (Fr.of_ext hx)⟩) (R := Out (fun b => b = p ∨ V.ownBlock = some b)) 5 (fun _ _ h => Out.ext' h) (fun h k => h.trans k) (fun qq => match qq with
          | 36 => SP.eq (.pointer (some ⟨p, 0, none⟩))
          | 37 => SP.eq (.int .i64 8)
          | 38 => SP.eq (.bool false)
          | 39 => SP.eq (.bool false)
          | 40 => SP.eq (.pointer (some ⟨p, 0, none⟩))
          | 41 => SP.eq (.int .i64 1)
          | 42 => SP.eq (.bool false)
          | 43 => SP.eq (.bool false)
          | 44 => SP.eq (.bool false)
          | 45 => SP.eq (.pointer (some ⟨p, 0, none⟩))
          | 46 => SP.eq (.agg #[.string now.name, .string now.key, .int .i64 now.kind, .int .u64 now.num, .string now.text, .slice Kn now.kids.length kn])
          | 47 => SP.eq (.slice (some ⟨b, off, none⟩) l.length c)
          | 48 => SP.eq (.int .i64 (j : Nat))
          | 49 => SP.eq (.pointer (some ⟨b, off + j * 8, none⟩))
          | 50 => SP.eq (.pointer (some ⟨b, off + j * 8 + 2, none⟩))
          | 51 => SP.eq (.agg #[.string x.name, .string x.key, .int .i64 x.kind, .int .u64 x.num, .string x.text, .slice Kx x.kids.length kx0])
          | _ => SP.any) 16 (by kernel_rfl) 97 rfl (by kernel_rfl) (of_decide_eq_true (by kernel_rfl)) (by decide) (by kernel_rfl) ?_ ?_ ?_
        · intro q hq u' v1 v2 hR
          split
          all_goals exact fun h => h
        · skip
          refine ⟨?_, ?_, ?_, ?_, ?_, ?_, ?_, ?_, ?_, ?_, ?_, ?_, ?_, ?_, ?_, ?_, trivial⟩
          · intro act W2 hk
            refine FlowG.does_intro rfl (fun Kq hK => ?_)
            have e5 : act.tmps[5]?.getD undef = .pointer (some ⟨p, 0, none⟩) := hk.o 5 (by kernel_rfl)
            clear hk
            go_simp
            exact hK _ _ (Ext.refl _) (fun h => absurd h (by decide)) (fun d hd => by cases hd; rfl)
          · intro act W2 hk
            refine FlowG.does_intro rfl (fun Kq hK => ?_)
            have e36 : act.tmps[36]?.getD undef = .pointer (some ⟨p, 0, none⟩) := hk.v 36 (by kernel_rfl)
            have hx0 := Hd.mk ((Ext.drew w5).trans (hk.early (.inr (by kernel_rfl))))
            have hcl := (kI.out.ext hx0.out).callLen
            rw [hf8.out] at hcl
            replace hcl := Hd.mk hcl
            clear hk
            go_simp
            refine Calls.mono (hcl.out) ?_
            rintro e W3 ⟨rfl, hx⟩
            exact hK _ _ hx (fun h => absurd h (by decide)) (fun d hd => by cases hd; rfl)
          · intro act W2 hk
            refine FlowG.does_intro rfl (fun Kq hK => ?_)
            have e37 : act.tmps[37]?.getD undef = .int .i64 8 := hk.v 37 (by kernel_rfl)
            clear hk
            go_simp
            exact hK _ _ (Ext.refl _) (fun h => absurd h (by decide)) (fun d hd => by cases hd; rfl)
          · intro act W2 hk
            refine FlowG.does_intro rfl (fun Kq hK => ?_)
            have e38 : act.tmps[38]?.getD undef = .bool false := hk.v 38 (by kernel_rfl)
            clear hk
            go_simp
            exact hK _ _ (Ext.refl _) (fun h => absurd h (by decide)) (fun d hd => by cases hd; rfl)
          · intro act W2 hk
            have eg : act.tmps[39]?.getD undef = .bool false := hk.v 39 (by kernel_rfl)
            refine FlowG.does_intro (wanted_yes rfl rfl eg) (fun Kq hK => ?_)
            clear eg
            have e5 : act.tmps[5]?.getD undef = .pointer (some ⟨p, 0, none⟩) := hk.o 5 (by kernel_rfl)
            clear hk
            go_simp
            exact hK _ _ (Ext.refl _) (fun h => absurd h (by decide)) (fun d hd => by cases hd; rfl)
          · intro act W2 hk
            have eg : act.tmps[39]?.getD undef = .bool false := hk.v 39 (by kernel_rfl)
            refine FlowG.does_intro (wanted_yes rfl rfl eg) (fun Kq hK => ?_)
            clear eg
            have e40 : act.tmps[40]?.getD undef = .pointer (some ⟨p, 0, none⟩) := hk.v 40 (by kernel_rfl)
            have hx0 := Hd.mk ((Ext.drew w5).trans (hk.early (.inl rfl)))
            have hcl := Hd.mk ((kI.out.ext hx0.out).callPrune 1 1 (by have := hf8.out; omega))
            clear hk
            go_simp
            refine Calls.mono (hcl.out) ?_
            rintro e W3 ⟨rfl, V1, hJ, hF⟩
            exact hK _ _ (Out.of_fr hF) (fun _ => ⟨V1, hJ, (Fr.of_ext hx0.out).trans hF⟩) (fun d hd => by cases hd; rfl)
          · intro act W2 hk
            have eg : act.tmps[39]?.getD undef = .bool false := hk.v 39 (by kernel_rfl)
            refine FlowG.does_intro (wanted_yes rfl rfl eg) (fun Kq hK => ?_)
            clear eg
            have e41 : act.tmps[41]?.getD undef = .int .i64 1 := hk.v 41 (by kernel_rfl)
            clear hk
            go_simp
            exact hK _ _ (Ext.refl _) (fun h => absurd h (by decide)) (fun d hd => by cases hd; rfl)
          · intro act W2 hk
            refine FlowG.does_intro rfl (fun Kq hK => ?_)
            have e39 : act.tmps[39]?.getD undef = .bool false := hk.v 39 (by kernel_rfl)
            have e42 : act.tmps[42]?.getD undef = .bool false := hk.v 42 (by kernel_rfl)
            clear hk
            go_simp
            exact hK _ _ (Ext.refl _) (fun h => absurd h (by decide)) (fun d hd => by cases hd; rfl)
          · intro act W2 hk
            refine FlowG.does_intro rfl (fun Kq hK => ?_)
            have e43 : act.tmps[43]?.getD undef = .bool false := hk.v 43 (by kernel_rfl)
            clear hk
            go_simp
            exact hK _ _ (Ext.refl _) (fun h => absurd h (by decide)) (fun d hd => by cases hd; rfl)
          · intro act W2 hk
            have eg : act.tmps[44]?.getD undef = .bool false := hk.v 44 (by kernel_rfl)
            refine FlowG.does_intro (wanted_yes rfl rfl eg) (fun Kq hK => ?_)
            clear eg
            have e5 : act.tmps[5]?.getD undef = .pointer (some ⟨p, 0, none⟩) := hk.o 5 (by kernel_rfl)
            clear hk
            go_simp
            exact hK _ _ (Ext.refl _) (fun h => absurd h (by decide)) (fun d hd => by cases hd; rfl)
          · intro act W2 hk
            have eg : act.tmps[44]?.getD undef = .bool false := hk.v 44 (by kernel_rfl)
            refine FlowG.does_intro (wanted_yes rfl rfl eg) (fun Kq hK => ?_)
            clear eg
            have e7 : act.tmps[7]?.getD undef = .pointer (some ⟨pN, 0, none⟩) := hk.o 7 (by kernel_rfl)
            have hR := (Out.ext' (Ext.drew w5)).trans hk.ext
            have g := (hR.blk kI.out.box (fun h => h.elim kI.out.ne kI.out.nv)).cell
            clear hR
            clear hk
            go_simp
            exact hK _ _ (Ext.refl _) (fun h => absurd h (by decide)) (fun d hd => by cases hd; rfl)
          · intro act W2 hk
            have eg : act.tmps[44]?.getD undef = .bool false := hk.v 44 (by kernel_rfl)
            refine FlowG.does_intro (wanted_yes rfl rfl eg) (fun Kq hK => ?_)
            clear eg
            have e0 : act.tmps[0]?.getD undef = .slice (some ⟨b, off, none⟩) l.length c := hk.o 0 (by kernel_rfl)
            clear hk
            go_simp
            exact hK _ _ (Ext.refl _) (fun h => absurd h (by decide)) (fun d hd => by cases hd; rfl)
          · intro act W2 hk
            have eg : act.tmps[44]?.getD undef = .bool false := hk.v 44 (by kernel_rfl)
            refine FlowG.does_intro (wanted_yes rfl rfl eg) (fun Kq hK => ?_)
            clear eg
            have e8 : act.tmps[8]?.getD undef = .int .i64 (j : Nat) := hk.o 8 (by kernel_rfl)
            clear hk
            go_simp
            exact hK _ _ (Ext.refl _) (fun h => absurd h (by decide)) (fun d hd => by cases hd; rfl)
          · intro act W2 hk
            have eg : act.tmps[44]?.getD undef = .bool false := hk.v 44 (by kernel_rfl)
            refine FlowG.does_intro (wanted_yes rfl rfl eg) (fun Kq hK => ?_)
            clear eg
            have e47 : act.tmps[47]?.getD undef = .slice (some ⟨b, off, none⟩) l.length c := hk.v 47 (by kernel_rfl)
            have e48 : act.tmps[48]?.getD undef = .int .i64 (j : Nat) := hk.v 48 (by kernel_rfl)
            clear hk
            go_simp
            exact hK _ _ (Ext.refl _) (fun h => absurd h (by decide)) (fun d hd => by cases hd; rfl)
          · intro act W2 hk
            have eg : act.tmps[44]?.getD undef = .bool false := hk.v 44 (by kernel_rfl)
            refine FlowG.does_intro (wanted_yes rfl rfl eg) (fun Kq hK => ?_)
            clear eg
            have e49 : act.tmps[49]?.getD undef = .pointer (some ⟨b, off + j * 8, none⟩) := hk.v 49 (by kernel_rfl)
            clear hk
            go_simp
            exact hK _ _ (Ext.refl _) (fun h => absurd h (by decide)) (fun d hd => by cases hd; rfl)
          · intro act W2 hk
            have eg : act.tmps[44]?.getD undef = .bool false := hk.v 44 (by kernel_rfl)
            refine FlowG.does_intro (wanted_yes rfl rfl eg) (fun Kq hK => ?_)
            clear eg
            have e50 : act.tmps[50]?.getD undef = .pointer (some ⟨b, off + j * 8 + 2, none⟩) := hk.v 50 (by kernel_rfl)
            have hR := (Out.ext' (Ext.drew w5)).trans hk.ext
            have hnb : ¬ (b = p ∨ V.ownBlock = some b) := hbD.out
            have g2 := hR.cell (hcW.out 2 _ rfl) hnb
            have g3 := hR.cell (hcW.out 3 _ rfl) hnb
            have g4 := hR.cell (hcW.out 4 _ rfl) hnb
            have g5 := hR.cell (hcW.out 5 _ rfl) hnb
            have g6 := hR.cell (hcW.out 6 _ rfl) hnb
            have g7 := hR.cell (hcW.out 7 _ rfl) hnb
            clear hR hnb
            clear hk
            go_simp
            exact hK _ _ (Ext.refl _) (fun h => absurd h (by decide)) (fun d hd => by cases hd; rfl)
        · intro act W2 he
          have hRW2 := Hd.mk ((Out.ext' (D := fun b => b = p ∨ V.ownBlock = some b) (Ext.drew w5)).trans he.ext)
          obtain ⟨aP, hG1, _⟩ := he.post
          obtain ⟨V1, hJ, hF1⟩ := hG1
          have kJ1 := Hd.mk hJ
          replace hF1 := Hd.mk hF1
          clear hJ
          obtain ⟨us, hA, hF⟩ := he.out [36, 37, 38, 39, 40, 41, 42, 43, 44, 45, 46, 47, 48, 49, 50, 51] (by kernel_rfl)
          simp only [Flow.fillL, List.contains_cons, List.contains_nil, Nat.reduceBEq, Bool.or_false, Bool.false_or, Bool.or_true, Bool.true_or, ↓reduceIte, Nat.reduceAdd, Bool.false_eq_true] at hA
          subst hA
          have f44 : us 44 = .bool false := hF 44 (by simp)
          have f45 : us 45 = .pointer (some ⟨p, 0, none⟩) := hF 45 (by simp)
          have f46 : us 46 = .agg #[.string now.name, .string now.key, .int .i64 now.kind, .int .u64 now.num, .string now.text, .slice Kn now.kids.length kn] := hF 46 (by simp)
          have f51 : us 51 = .agg #[.string x.name, .string x.key, .int .i64 x.kind, .int .u64 x.num, .string x.text, .slice Kx x.kids.length kx0] := hF 51 (by simp)
          clear hF he
          rw [f44]
          clear f44
          rw [f45]
          clear f45
          rw [f46]
          clear f46
          rw [f51]
          clear f51
          replace kA := Hd.mk (kA.out.out hRW2.out (fun b hb h => h.elim (fun e => by have h1 := (kA.out.lt b hb).1; have h2 := hpN.out; omega) (fun e => (kI.out.pr.row b e).2 hb)))
          have hd7 := Hd.mk (show (ts.drop 1).length < 8 by rw [List.length_drop]; have := hf8.out; omega)
          have kE1 := Hd.mk (kE.out.turn (now := now) hf8.out)
          clear hRW2 kI kE hF1 hbD
          go_wp2_with fail
          refine Calls.mono (kJ1.out.callPush (rx.out.ext kJ1.out.kx |>.mono fun _ _ _ => trivial) hmx.out) ?_
          skip
          rintro e w5 (⟨_, rfl, V5, A9, c9, hP, hF⟩ | ⟨h9, _⟩)
          case inr => exact absurd h9 (by have := hd7.out; omega)
          replace hP := Hd.mk hP
          replace hF := Hd.mk hF
          have kA5 := Hd.mk (kA.out.out (Out.of_fr hF.out) (fun b hb h => h.elim (fun e => by have h1 := (kA.out.lt b hb).1; have h2 := hpN.out; omega) (fun e => (kJ1.out.pr.row b e).2 hb)))
          have kN5 := Hd.mk (hF.out.blk kJ1.out.box kJ1.out.ne kJ1.out.nv)
          have hx5 := Hd.mk (past_ext kJ1.out.kx kJ1.out.pw kJ1.out.pr hF.out)
          have hnv5 := Hd.mk (hF.out.ne kJ1.out.box.lt kJ1.out.nv)
          have gN := kN5.out.cell
          go_wp2_with (with_reducible refine stop_at (.call { callee := .builtin .append, args := #[.tmp 55, .tmp 57], argTypes := #[52, 52] }) ?_)
          refine Stop.mk ?_
          clear gN
          have hxA := Hd.mk (Ext.alloc w5 (.cells #[.string now.name, .string now.key, .int .i64 now.kind, .int .u64 now.num, .string now.text, .slice Kn now.kids.length kn] 54))
          have kD := Hd.mk (Blk.new w5 #[.string now.name, .string now.key, .int .i64 now.kind, .int .u64 now.num, .string now.text, .slice Kn now.kids.length kn] 54)
          replace hP := Hd.mk (hP.out.ext hxA.out)
          replace kA5 := Hd.mk (kA5.out.ext hxA.out)
          replace kN5 := Hd.mk (kN5.out.ext hxA.out)
          replace hx5 := Hd.mk (hx5.out.trans hxA.out)
          clear hxA
          generalize w5.heap.size = pD at *
          generalize w5.alloc _ = w6 at *
          refine wpl_append' sl52 (by omega) (by omega) (.tmp 55) (.tmp 57) 58 _ _ _ (pN + 1) (.slice AA all.length ca) all.length css.flatten rfl kA5.out.own ⟨pD, 0, none⟩ 1 1 [.string now.name, .string now.key, .int .i64 now.kind, .int .u64 now.num, .string now.text, .slice Kn now.kids.length kn] rfl rfl (fun i u hi => by rw [addr_add, Nat.zero_add, kD.out.cell]; exact hi) rfl (by have h1 := hal.out; have h2 := hl40.out; omega) (by have := kN5.out.lt; omega) ?_
          intro VA7 w7 hown hgr hat
          have hA7 := hown
          obtain ⟨A7, c7, rfl, hc7, _⟩ := own_slice hown
          have ho := Out.of_grown hgr
          have hlA := kA5.out.lt
          have hneN : ¬ (Value.slice AA all.length ca).ownBlock = some pN := fun e => by have := (hlA pN e).1; omega
          have hneP : ¬ (Value.slice AA all.length ca).ownBlock = some p := fun e => by have h1 := (hlA p e).1; have h2 := hpN.out; omega
          have hAV : ∀ b, V5.ownBlock = some b → ¬ (Value.slice AA all.length ca).ownBlock = some b := fun b hb e => (hP.out.row b hb).2 e
          have hnew : ∀ b, b < w6.heap.size → (Value.slice AA all.length ca).ownBlock ≠ some b → (Value.slice A7 (all.length + 1) c7).ownBlock ≠ some b := fun b hb h => by
            rcases hat with e | e
            · rw [e]; exact h
            · rw [e]; intro h9; injection h9 with h9; omega
          have hP7 := Hd.mk (hP.out.out (G' := fun b => b ≠ pN ∧ (Value.slice A7 (all.length + 1) c7).ownBlock ≠ some b) ho hneP hAV (fun b hb hg => ⟨hg.2, hg.1, hnew b hb hg.2⟩))
          have kN7 := Hd.mk (ho.blk kN5.out hneN)
          have hx7 := Hd.mk (Below.trans hx5.out (ho.below hx5.out.size (fun b hb e => by have h1 := (hlA b e).1; have h2 := kJ1.out.lo; omega)))
          have kA7 := Hd.mk (kA5.out.push kJ1.out.rt hA7)
          have gc7 : ∀ b, w7.heap.size ≤ b → b ≠ pN ∧ (Value.slice A7 (all.length + 1) c7).ownBlock ≠ some b := fun b hb => ⟨by have := kN7.out.lt; omega, fun e => by have := own_lt hA7 b e; omega⟩
          replace gc7 := Hd.mk gc7
          have hb7 := Hd.mk (fun b => (own_base hA7 b))
          clear hP hF kA5 kN5 hx5 hown hgr hat hA7 ho hlA hneN hneP hAV hnew kA
          have cc2 := Ext.cell (kJ1.out.kx) (hin.out 2 _ rfl)
          clear cc2
          have c2 := Ext.cell hx7.out (hin.out 2 _ rfl)
          have c3 := Ext.cell hx7.out (hin.out 3 _ rfl)
          have c4 := Ext.cell hx7.out (hin.out 4 _ rfl)
          have c5 := Ext.cell hx7.out (hin.out 5 _ rfl)
          have c6 := Ext.cell hx7.out (hin.out 6 _ rfl)
          have c7x := Ext.cell hx7.out (hin.out 7 _ rfl)
          have gN := kN7.out.cell
          have fN := kN7.out.free
          go_wp2_with (with_reducible refine stop_at (.call { callee := .value (.func 84), args := #[.tmp 64], argTypes := #[88] }) ?_)
          refine Stop.mk ?_
          clear gN fN c2 c3 c4 c5 c6 c7x
          have hu := Hd.mk ((((((Upd.setCell w7 ⟨pN, 0, none⟩ (.string x.name)).trans (Upd.setCell _ ⟨pN, 1, none⟩ (.string x.key))).trans (Upd.setCell _ ⟨pN, 2, none⟩ (.int .i64 x.kind))).trans (Upd.setCell _ ⟨pN, 3, none⟩ (.int .u64 x.num))).trans (Upd.setCell _ ⟨pN, 4, none⟩ (.string x.text))).trans (Upd.setCell _ ⟨pN, 5, none⟩ (.slice Kx x.kids.length kx0)))
          have kN8 := Hd.mk (show Blk _ pN [.string x.name, .string x.key, .int .i64 x.kind, .int .u64 x.num, .string x.text, .slice Kx x.kids.length kx0] 54 from ((((((kN7.out.setCell 0 (.string x.name)).setCell 1 (.string x.key)).setCell 2 (.int .i64 x.kind)).setCell 3 (.int .u64 x.num)).setCell 4 (.string x.text)).setCell 5 (.slice Kx x.kids.length kx0)))
          have kJ : Hd (I28 w (fun b => b ≠ pN ∧ (Value.slice A7 (all.length + 1) c7).ownBlock ≠ some b) p pN _ V5 ((lp.drop 1) ++ [(inverse (edits 200 now x []), A9, c9)]) ((ts.drop 1) ++ [now]) x Kx kx0) :=
            ⟨⟨Below.trans hx7.out (hu.out.below kJ1.out.lo), hP7.out.out (Out.of_upd hu.out) (fun e => kJ1.out.ne e.symm) (fun b hb e => hnv5.out (by rw [hb, e])) (fun b _ hg => ⟨hg.1, hg⟩), kJ1.out.pw, kJ1.out.lo, kN8.out, kJ1.out.ne, hnv5.out, rx.out, kJ1.out.tr.push hmx.out, fun b hb => gc7.out b (by rw [← hu.out.size]; exact hb)⟩⟩
          replace kA7 := Hd.mk (kA7.out.out (Out.of_upd (g := pN) hu.out) (fun b hb e => by have := hb7.out b hb; omega))
          have kE7 := Hd.mk (kE1.out)
          have hln := Hd.mk (show (all ++ [now]).length = all.length + 1 by simp)
          have hal7 := Hd.mk (show (all ++ [now]).length = j + 1 by simp [hal.out])
          rw [← hln.out] at kJ kA7 ⊢
          clear hP7 kN7 hx7 gc7 hb7 hu kN8 kJ1 hln kE1 hal hnv5 kD
          generalize hW8 : World.setCell _ _ _ = W8 at kJ kA7 ⊢
          clear hW8
          generalize all ++ [now] = all2 at *
          generalize (ts.drop 1) ++ [now] = ts2 at *
          generalize (lp.drop 1) ++ _ = lp2 at *
          have hmin := Hd.mk (show min (all2.length : Int) 8 = (ts2.length : Int) by have := kE7.out.2; omega)
          go_wp2_with fail
          refine Calls.mono kJ.out.callLen ?_
          rintro e w9 ⟨rfl, hx⟩
          replace kJ := Hd.mk (kJ.out.ext hx)
          replace kA7 := Hd.mk (kA7.out.ext hx)
          clear hx
          have hminv := hmin.out
          go_wp2_with fail
          clear hminv
          have kX9 := Hd.mk (Ext.refl w9)
          go_loopg [9] (ts2.length + 1) (fun q ni wr => ∃ n : Nat, 0 < n ∧ n ≤ ts2.length + 1 ∧ Hd (ts2.length + 1 - n < q) ∧ ni = .int .i64 n ∧ Hd (Ext w9 wr))
          case atStart => exact ⟨1, by omega, by omega, ⟨by omega⟩, rfl, kX9⟩
          case round =>
          clear kX9
          obtain ⟨n, hn0, hn1, hqn, rfl, kX⟩ := hrel
          generalize wr = U at *
          have hts8 : ts2.length ≤ 8 := by have := kE7.out.2; omega
          go_wp2_with fail
          refine Calls.mono (kJ.out.ext kX.out).callLen ?_
          rintro e w10 ⟨rfl, hx⟩
          replace kX := Hd.mk (kX.out.trans hx)
          clear hx
          by_cases hn2 : n ≤ ts2.length
          · have hn2i : (n : Int) ≤ (ts2.length : Int) := by omega
            have kJn := Hd.mk (kJ.out.ext kX.out)
            have gN := kJn.out.box.cell
            go_wp2_with fail
            clear gN
            have hle8 := Hd.mk kE7.out.2
            obtain ⟨i, hi⟩ : ∃ i, n + i = all2.length := ⟨all2.length - n, by have := hle8.out; omega⟩
            have hil : i < all2.length := by omega
            have hgi := List.getElem?_eq_getElem hil
            generalize all2[i] = y at hgi
            have hAt := kJn.out.callAt n
            rw [kE7.out.at_ hn0 hn2 hi hgi] at hAt
            refine Calls.mono hAt ?_
            rintro e w11 ⟨_, rfl, c9, rfl, hr9, hx⟩
            obtain ⟨K1, k1, rfl, _⟩ := hr9.row
            simp only [cT] at hr9 ⊢
            clear hAt
            have hxA := hx.trans (Ext.alloc w11 (.cells #[.string y.name, .string y.key, .int .i64 y.kind, .int .u64 y.num, .string y.text, .slice K1 y.kids.length k1] 54))
            replace kX := Hd.mk (kX.out.trans hxA)
            have r1 := Hd.mk (hr9.ext (Ext.alloc w11 (.cells #[.string y.name, .string y.key, .int .i64 y.kind, .int .u64 y.num, .string y.text, .slice K1 y.kids.length k1] 54)))
            have b1 := Hd.mk (Blk.new w11 #[.string y.name, .string y.key, .int .i64 y.kind, .int .u64 y.num, .string y.text, .slice K1 y.kids.length k1] 54)
            clear hx hxA hr9
            have gx := kX.out
            clear gx
            go_wp2_with fail
            generalize w11.heap.size = pX at *
            generalize w11.alloc _ = W12 at *
            have kA12 := kA7.out.ext kX.out
            obtain ⟨g, cap, Ky, ky, hv, hcap, hry, hcy⟩ := kA12.get hgi
            simp only [Value.slice.injEq] at hv
            obtain ⟨rfl, _, rfl⟩ := hv
            have r2 := Hd.mk ((hry.ext (kJ.out.kx.trans kX.out)).mono (S' := fun _ => True) (fun _ _ _ => trivial))
            replace hcy := Hd.mk hcy
            have hii := Hd.mk (show (all2.length : Int) - (n : Int) = (i : Int) by omega)
            have hsm := Hd.mk (fun U (h : Ext W12 U) => (show Calls Try.prog 48 #[.agg #[.string y.name, .string y.key, .int .i64 y.kind, .int .u64 y.num, .string y.text, .slice K1 y.kids.length k1], .agg #[.string y.name, .string y.key, .int .i64 y.kind, .int .u64 y.num, .string y.text, .slice Ky y.kids.length ky]] U fun e w' => e = .returned (.bool true) ∧ Ext U w' from by
              have h9 := ref_same y.deep y y (fun _ => True) U _ _ (Nat.le_refl _) (r1.out.ext h) (r2.out.ext h)
              rw [sameT_rfl] at h9
              exact h9))
            clear kA12 hry hgi kJn hi
            refine Flow.wp_region_flow_l (fun qq => match qq with
              | 83 => SP.eq (.int .i64 0)
              | 84 => SP.eq (.bool false)
              | 85 => SP.eq (.bool false)
              | 86 => SP.eq (.agg #[.string y.name, .string y.key, .int .i64 y.kind, .int .u64 y.num, .string y.text, .slice K1 y.kids.length k1])
              | 87 => SP.eq (.slice (some ⟨g, 0, none⟩) all2.length c7)
              | 88 => SP.eq (.slice (some ⟨g, 0, none⟩) all2.length c7)
              | 89 => SP.eq (.int .i64 (all2.length : Nat))
              | 90 => SP.eq (.int .i64 (n : Nat))
              | 91 => SP.eq (.int .i64 (i : Nat))
              | 92 => SP.eq (.pointer (some ⟨g, i * 6, none⟩))
              | 93 => SP.eq (.agg #[.string y.name, .string y.key, .int .i64 y.kind, .int .u64 y.num, .string y.text, .slice Ky y.kids.length ky])
              | 94 => SP.eq (.bool true)
              | 95 => SP.eq (.bool false)
              | 96 => SP.eq (.bool false)
              | _ => SP.any) 14 (by kernel_rfl) 97 rfl (by kernel_rfl) ?_ ?_
            · skip
              refine ⟨?_, ?_, ?_, ?_, ?_, ?_, ?_, ?_, ?_, ?_, ?_, ?_, ?_, ?_, trivial⟩
              · intro act W2 hk
                refine Flow.does_intro rfl (fun Kq hK => ?_)
                have e11 : act.tmps[11]?.getD undef = .int .i64 0 := hk.o 11 (by kernel_rfl)
                clear hk
                go_simp
                exact hK _ _ (Ext.refl _) (fun d hd => by cases hd; rfl)
              · intro act W2 hk
                refine Flow.does_intro rfl (fun Kq hK => ?_)
                have e83 : act.tmps[83]?.getD undef = .int .i64 0 := hk.v 83 (by kernel_rfl)
                clear hk
                go_simp
                exact hK _ _ (Ext.refl _) (fun d hd => by cases hd; rfl)
              · intro act W2 hk
                refine Flow.does_intro rfl (fun Kq hK => ?_)
                have e84 : act.tmps[84]?.getD undef = .bool false := hk.v 84 (by kernel_rfl)
                clear hk
                go_simp
                exact hK _ _ (Ext.refl _) (fun d hd => by cases hd; rfl)
              · intro act W2 hk
                have eg : act.tmps[85]?.getD undef = .bool false := hk.v 85 (by kernel_rfl)
                refine Flow.does_intro (wanted_yes rfl rfl eg) (fun Kq hK => ?_)
                clear eg
                have e10 : act.tmps[10]?.getD undef = .pointer (some ⟨pX, 0, none⟩) := hk.o 10 (by kernel_rfl)
                have g := ((b1.out).ext ((Ext.drew W12).trans hk.ext)).cell
                clear hk
                go_simp
                exact hK _ _ (Ext.refl _) (fun d hd => by cases hd; rfl)
              · intro act W2 hk
                have eg : act.tmps[85]?.getD undef = .bool false := hk.v 85 (by kernel_rfl)
                refine Flow.does_intro (wanted_yes rfl rfl eg) (fun Kq hK => ?_)
                clear eg
                have e6 : act.tmps[6]?.getD undef = .slice (some ⟨g, 0, none⟩) all2.length c7 := hk.o 6 (by kernel_rfl)
                clear hk
                go_simp
                exact hK _ _ (Ext.refl _) (fun d hd => by cases hd; rfl)
              · intro act W2 hk
                have eg : act.tmps[85]?.getD undef = .bool false := hk.v 85 (by kernel_rfl)
                refine Flow.does_intro (wanted_yes rfl rfl eg) (fun Kq hK => ?_)
                clear eg
                have e6 : act.tmps[6]?.getD undef = .slice (some ⟨g, 0, none⟩) all2.length c7 := hk.o 6 (by kernel_rfl)
                clear hk
                go_simp
                exact hK _ _ (Ext.refl _) (fun d hd => by cases hd; rfl)
              · intro act W2 hk
                have eg : act.tmps[85]?.getD undef = .bool false := hk.v 85 (by kernel_rfl)
                refine Flow.does_intro (wanted_yes rfl rfl eg) (fun Kq hK => ?_)
                clear eg
                have e88 : act.tmps[88]?.getD undef = .slice (some ⟨g, 0, none⟩) all2.length c7 := hk.v 88 (by kernel_rfl)
                clear hk
                go_simp
                exact hK _ _ (Ext.refl _) (fun d hd => by cases hd; rfl)
              · intro act W2 hk
                have eg : act.tmps[85]?.getD undef = .bool false := hk.v 85 (by kernel_rfl)
                refine Flow.does_intro (wanted_yes rfl rfl eg) (fun Kq hK => ?_)
                clear eg
                have e9 : act.tmps[9]?.getD undef = .int .i64 (n : Nat) := hk.o 9 (by kernel_rfl)
                clear hk
                go_simp
                exact hK _ _ (Ext.refl _) (fun d hd => by cases hd; rfl)
              · intro act W2 hk
                have eg : act.tmps[85]?.getD undef = .bool false := hk.v 85 (by kernel_rfl)
                refine Flow.does_intro (wanted_yes rfl rfl eg) (fun Kq hK => ?_)
                clear eg
                have e89 : act.tmps[89]?.getD undef = .int .i64 (all2.length : Nat) := hk.v 89 (by kernel_rfl)
                have e90 : act.tmps[90]?.getD undef = .int .i64 (n : Nat) := hk.v 90 (by kernel_rfl)
                clear hk
                go_simp
                exact hK _ _ (Ext.refl _) (fun d hd => by cases hd; have h1 := hii.out; have h2 := hal7.out; simp [SP.eq]; first | omega | (rw [IntKind.wrap_i64]; first | omega | (unfold wrap64; omega)))
              · intro act W2 hk
                have eg : act.tmps[85]?.getD undef = .bool false := hk.v 85 (by kernel_rfl)
                refine Flow.does_intro (wanted_yes rfl rfl eg) (fun Kq hK => ?_)
                clear eg
                have e87 : act.tmps[87]?.getD undef = .slice (some ⟨g, 0, none⟩) all2.length c7 := hk.v 87 (by kernel_rfl)
                have e91 : act.tmps[91]?.getD undef = .int .i64 (i : Nat) := hk.v 91 (by kernel_rfl)
                clear hk
                go_simp
                exact hK _ _ (Ext.refl _) (fun d hd => by cases hd; rfl)
              · intro act W2 hk
                have eg : act.tmps[85]?.getD undef = .bool false := hk.v 85 (by kernel_rfl)
                refine Flow.does_intro (wanted_yes rfl rfl eg) (fun Kq hK => ?_)
                clear eg
                have e92 : act.tmps[92]?.getD undef = .pointer (some ⟨g, i * 6, none⟩) := hk.v 92 (by kernel_rfl)
                have g0 := Ext.cell ((Ext.drew W12).trans hk.ext) ((hcy.out) 0 _ rfl)
                rw [Nat.add_zero] at g0
                have g1 := Ext.cell ((Ext.drew W12).trans hk.ext) ((hcy.out) 1 _ rfl)
                have g2 := Ext.cell ((Ext.drew W12).trans hk.ext) ((hcy.out) 2 _ rfl)
                have g3 := Ext.cell ((Ext.drew W12).trans hk.ext) ((hcy.out) 3 _ rfl)
                have g4 := Ext.cell ((Ext.drew W12).trans hk.ext) ((hcy.out) 4 _ rfl)
                have g5 := Ext.cell ((Ext.drew W12).trans hk.ext) ((hcy.out) 5 _ rfl)
                clear hk
                go_simp
                exact hK _ _ (Ext.refl _) (fun d hd => by cases hd; rfl)
              · intro act W2 hk
                have eg : act.tmps[85]?.getD undef = .bool false := hk.v 85 (by kernel_rfl)
                refine Flow.does_intro (wanted_yes rfl rfl eg) (fun Kq hK => ?_)
                clear eg
                have e86 : act.tmps[86]?.getD undef = .agg #[.string y.name, .string y.key, .int .i64 y.kind, .int .u64 y.num, .string y.text, .slice K1 y.kids.length k1] := hk.v 86 (by kernel_rfl)
                have e93 : act.tmps[93]?.getD undef = .agg #[.string y.name, .string y.key, .int .i64 y.kind, .int .u64 y.num, .string y.text, .slice Ky y.kids.length ky] := hk.v 93 (by kernel_rfl)
                have hx0 := Hd.mk ((Ext.drew W12).trans hk.ext)
                clear hk
                go_simp
                refine Calls.mono (hsm.out _ hx0.out) ?_
                rintro e W3 ⟨rfl, hx⟩
                exact hK _ _ hx (fun d hd => by cases hd; rfl)
              · intro act W2 hk
                have eg : act.tmps[85]?.getD undef = .bool false := hk.v 85 (by kernel_rfl)
                refine Flow.does_intro (wanted_yes rfl rfl eg) (fun Kq hK => ?_)
                clear eg
                have e94 : act.tmps[94]?.getD undef = .bool true := hk.v 94 (by kernel_rfl)
                clear hk
                go_simp
                exact hK _ _ (Ext.refl _) (fun d hd => by cases hd; rfl)
              · intro act W2 hk
                refine Flow.does_intro rfl (fun Kq hK => ?_)
                have e85 : act.tmps[85]?.getD undef = .bool false := hk.v 85 (by kernel_rfl)
                have e95 : act.tmps[95]?.getD undef = .bool false := hk.v 95 (by kernel_rfl)
                clear hk
                go_simp
                exact hK _ _ (Ext.refl _) (fun d hd => by cases hd; rfl)
            · intro act W2 he
              have hxW2 := Hd.mk ((Ext.drew W12).trans he.ext)
              obtain ⟨us, hA, hF⟩ := he.out [83, 84, 85, 86, 87, 88, 89, 90, 91, 92, 93, 94, 95, 96] (by kernel_rfl)
              simp only [Flow.fillL, List.contains_cons, List.contains_nil, Nat.reduceBEq, Bool.or_false, Bool.false_or, Bool.or_true, Bool.true_or, ↓reduceIte, Nat.reduceAdd, Bool.false_eq_true] at hA
              subst hA
              have f96 : us 96 = .bool false := hF 96 (by simp)
              clear hF he
              rw [f96]
              clear f96
              refine (show wpList _ _ _ [] _ _ from ?_)
              replace kX := Hd.mk (kX.out.trans hxW2.out)
              clear hxW2 hsm r1 r2 b1
              go_wp2_with fail
              go_roundg (ts2.length + 1 - n)
              case measure => have := hqn.out; omega
              case rel => have h88 : n ≤ 8 := (by have := hle8.out; omega); exact ⟨n + 1, by omega, by omega, ⟨by omega⟩, by go_num, kX⟩
          · have hn2i : ¬ (n : Int) ≤ (ts2.length : Int) := by omega
            replace kJ := Hd.mk (kJ.out.ext kX.out)
            replace kA7 := Hd.mk (kA7.out.ext kX.out)
            go_wp2_with fail
            go_roundg (l.length - j)
            case measure => have := hq.out; omega
            case rel => exact ⟨j + 1, V5, _, lp2, all2, ts2, _, x, Kx, kx0, by omega, ⟨by omega⟩, by go_num, rfl, hal7, kJ, kA7, kE7⟩
  · have hnl : ¬ (j : Int) < (l.length : Int) := by omega
    go_wp2_with fail
    go_ret
    exact ⟨rfl, kI.out.kx⟩
end Go.Proofs.Ytgkgedjmnbjalaa
