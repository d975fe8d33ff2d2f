/- Texts that the law needs, joined.
   Conditions: none. -/
import Derived.Test.YtgkgedjmnbjalaaPtJ
set_option linter.unusedSimpArgs false
set_option linter.unusedVariables false
set_option linter.unusedVariables false
namespace Go.Proofs.Ytgkgedjmnbjalaa
open Go.RowKit Go.Sort
def spOC (m : T) (rc : Int) (B : Nat) : SP := ⟨fun v w => ∃ (c : List Value) (lo hi : Nat), v = .tuple #[.agg c.toArray, .int .i64 rc] ∧ OT (fun b => lo ≤ b ∧ b < hi) w m c ∧ B ≤ lo ∧ hi ≤ w.heap.size, fun _ _ _ h ⟨c, lo, hi, e, hr, h1, h2⟩ => ⟨c, lo, hi, e, hr.ext (fun b hb => by omega) h, h1, Nat.le_trans h2 h.size⟩⟩
set_option maxRecDepth 100000 in
set_option maxHeartbeats 2000000 in
theorem work_create (n x y z : T) (Kn Kx Ky Kz : Option Addr) (kn kx1 ky1 kz : Nat) (d : Int) (b2 o2 L ac : Nat) (iz : Bool) (init : List Step) (s : Step) (S S' : Nat → Prop) (w : World) (g : Nat) (hL : init.length = L) (hg : Blk w g (cWk n x y z Kn Kx Ky Kz kn kx1 ky1 kz d b2 o2 L ac iz) 126)
    (hn : RT S w n [.string n.name, .string n.key, .int .i64 n.kind, .int .u64 n.num, .string n.text, .slice Kn n.kids.length kn]) (hx : RT S w x [.string x.name, .string x.key, .int .i64 x.kind, .int .u64 x.num, .string x.text, .slice Kx x.kids.length kx1]) (hy : RT S w y [.string y.name, .string y.key, .int .i64 y.kind, .int .u64 y.num, .string y.text, .slice Ky y.kids.length ky1]) (hz : RT S w z [.string z.name, .string z.key, .int .i64 z.kind, .int .u64 z.num, .string z.text, .slice Kz z.kids.length kz]) (hw : WRow S' w (some ⟨b2, o2, none⟩) (init ++ [s]) ac) (hri : rightT n = true) (hsz : n.size + x.size ≤ 1048576) :
    Calls Try.prog 109 #[.pointer (some ⟨g, 0, none⟩)] w (Ret (ChgPost (if stepT x ≠ s then (zeroT, (1 : Int)) else if iz = true then (zeroT, 24) else setR n (init ++ [s]) x) w)) := by
  generalize hr0 : (if stepT x ≠ s then (zeroT, (1 : Int)) else if iz = true then (zeroT, 24) else setR n (init ++ [s]) x) = r
  replace hr0 := Hd.mk hr0
  have hwl := hw.len
  have hdk0 : ∀ (j : Nat) v, [Value.string s.1, .string s.2][j]? = some v → w.cell? ⟨b2, o2 + L * 2 + j, none⟩ = some v := by
    obtain ⟨b', o', he, _, hd⟩ := WRow.at hw (j := init.length) (x := s) (by simp)
    simp only [Option.some.injEq, Addr.mk.injEq, and_true] at he
    obtain ⟨rfl, rfl⟩ := he
    rw [hL] at hd; exact hd
  have hlenH := Hd.mk (show (init ++ [s]).length = L + 1 by simp [hL])
  rw [hlenH.out] at hwl
  have kG := Hd.mk hg
  have kr := Hd.mk hn
  have krx := Hd.mk hx
  have kry := Hd.mk hy
  have krz := Hd.mk hz
  have kw := Hd.mk hw
  have hdk := Hd.mk hdk0
  have hriH := Hd.mk hri
  have hszH := Hd.mk hsz
  clear hg hn hx hy hz hw hri hsz hdk0 hL
  go_enter Try.func109, Try.ntmps109
  go_wp2_with ((with_reducible refine stop_at (.nilCheck (.tmp 6)) ?_))
  refine Stop.mk ?_
  have kx := Hd.mk (Ext.alloc w (.cells #[.string ⟨#[]⟩, .string ⟨#[]⟩, .int .i64 0, .int .u64 0, .string ⟨#[]⟩, .slice none 0 0] 54))
  have kR := Hd.mk (Blk.new w #[.string ⟨#[]⟩, .string ⟨#[]⟩, .int .i64 0, .int .u64 0, .string ⟨#[]⟩, .slice none 0 0] 54)
  replace kG := Hd.mk (kG.out.ext kx.out)
  generalize w.alloc _ = W at *
  generalize hp : w.heap.size = p at *
  replace hp := Hd.mk hp
  have kQ := Hd.mk (show Blk W g [.string n.name, .string n.key, .int .i64 n.kind, .int .u64 n.num, .string n.text, .slice Kn n.kids.length kn, .int .i64 d, .slice (some ⟨b2, o2, none⟩) (L + 1) ac, .string x.name, .string x.key, .int .i64 x.kind, .int .u64 x.num, .string x.text, .slice Kx x.kids.length kx1, .string y.name, .string y.key, .int .i64 y.kind, .int .u64 y.num, .string y.text, .slice Ky y.kids.length ky1, .string z.name, .string z.key, .int .i64 z.kind, .int .u64 z.num, .string z.text, .slice Kz z.kids.length kz, .bool iz] 126 from kG.out)
  have gG := kQ.out.cell
  go_wp2_with fail
  clear gG kQ
  refine Calls.mono (work_has x n x y z Kx Kn Kx Ky Kz kx1 kn kx1 ky1 kz d b2 o2 L ac iz s W g hwl kG.out (fun j v hj => Ext.cell kx.out (hdk.out j v hj))) ?_
  rintro e wh ⟨rfl, hx⟩
  replace kx := Hd.mk (kx.out.trans hx)
  replace kG := Hd.mk (kG.out.ext hx)
  replace kR := Hd.mk (kR.out.ext hx)
  clear hx
  by_cases hhx : stepT x = s
  · rw [decide_eq_true hhx]
    have kQ := Hd.mk (show Blk wh g [.string n.name, .string n.key, .int .i64 n.kind, .int .u64 n.num, .string n.text, .slice Kn n.kids.length kn, .int .i64 d, .slice (some ⟨b2, o2, none⟩) (L + 1) ac, .string x.name, .string x.key, .int .i64 x.kind, .int .u64 x.num, .string x.text, .slice Kx x.kids.length kx1, .string y.name, .string y.key, .int .i64 y.kind, .int .u64 y.num, .string y.text, .slice Ky y.kids.length ky1, .string z.name, .string z.key, .int .i64 z.kind, .int .u64 z.num, .string z.text, .slice Kz z.kids.length kz, .bool iz] 126 from kG.out)
    have gG := kQ.out.cell
    cases iz with
    | true =>
      obtain rfl : r = (zeroT, 24) := by rw [← hr0.out]; simp [hhx]
      have gR := kR.out.cell
      have fR := kR.out.free
      go_wp2_with fail
      have hu := Hd.mk ((((((Upd.setCell wh ⟨p, 0, none⟩ (.string ⟨#[]⟩)).trans (Upd.setCell _ ⟨p, 1, none⟩ (.string ⟨#[]⟩))).trans (Upd.setCell _ ⟨p, 2, none⟩ (.int .i64 0))).trans (Upd.setCell _ ⟨p, 3, none⟩ (.int .u64 0))).trans (Upd.setCell _ ⟨p, 4, none⟩ (.string ⟨#[]⟩))).trans (Upd.setCell _ ⟨p, 5, none⟩ (.slice none 0 0)))
      exact ret_box2 rfl p _ 54 _ ((((((kR.out.setCell 0 (.string ⟨#[]⟩)).setCell 1 (.string ⟨#[]⟩)).setCell 2 (.int .i64 0)).setCell 3 (.int .u64 0)).setCell 4 (.string ⟨#[]⟩)).setCell 5 (.slice none 0 0)) rfl rfl Try.underlying54 rfl size54
        ⟨_, rfl, _, rfl, ot_zero _ _, Below.trans kx.out (hu.out.below (by rw [hp.out]; exact Nat.le_refl _))⟩
    | false =>
      clear gG kQ
      have hr1 := Hd.mk (show setR n (init ++ [s]) x = r by rw [← hr0.out]; simp [hhx])
      obtain ⟨m, rc⟩ := r
      have kQ := Hd.mk (show Blk wh g [.string n.name, .string n.key, .int .i64 n.kind, .int .u64 n.num, .string n.text, .slice Kn n.kids.length kn, .int .i64 d, .slice (some ⟨b2, o2, none⟩) (L + 1) ac, .string x.name, .string x.key, .int .i64 x.kind, .int .u64 x.num, .string x.text, .slice Kx x.kids.length kx1, .string y.name, .string y.key, .int .i64 y.kind, .int .u64 y.num, .string y.text, .slice Ky y.kids.length ky1, .string z.name, .string z.key, .int .i64 z.kind, .int .u64 z.num, .string z.text, .slice Kz z.kids.length kz, .bool false] 126 from kG.out)
      have gG := kQ.out.cell
      go_wp2_with fail
      clear gG
      refine Flow.wp_region_flow_l (fun qq => match qq with
        | 20 => SP.eq (.pointer (some ⟨g, 0, none⟩))
        | 21 => SP.eq (.pointer (some ⟨g, 0, none⟩))
        | 22 => SP.eq (.pointer (some ⟨g, 0, none⟩))
        | 23 => SP.eq (.agg #[.string n.name, .string n.key, .int .i64 n.kind, .int .u64 n.num, .string n.text, .slice Kn n.kids.length kn])
        | 24 => SP.eq (.pointer (some ⟨g, 0, none⟩))
        | 25 => SP.eq (.pointer (some ⟨g, 0, none⟩))
        | 26 => SP.eq (.pointer (some ⟨g, 6, none⟩))
        | 27 => SP.eq (.pointer (some ⟨g, 7, none⟩))
        | 28 => SP.eq (.slice (some ⟨b2, o2, none⟩) (L + 1) ac)
        | 29 => SP.eq (.pointer (some ⟨g, 0, none⟩))
        | 30 => SP.eq (.pointer (some ⟨g, 0, none⟩))
        | 31 => SP.eq (.pointer (some ⟨g, 6, none⟩))
        | 32 => SP.eq (.pointer (some ⟨g, 8, none⟩))
        | 33 => SP.eq (.agg #[.string x.name, .string x.key, .int .i64 x.kind, .int .u64 x.num, .string x.text, .slice Kx x.kids.length kx1])
        | 34 => spOC m rc wh.heap.size
        | 35 => spO m wh.heap.size
        | 36 => SP.eq (.int .i64 rc)
        | _ => SP.any) 17 (by kernel_rfl) 37 rfl (by kernel_rfl) ?_ ?_
      · skip
        refine ⟨?_, ?_, ?_, ?_, ?_, ?_, ?_, ?_, ?_, ?_, ?_, ?_, ?_, ?_, ?_, ?_, ?_, trivial⟩
        · intro act W2 hk
          refine Flow.does_intro rfl (fun Kq hK => ?_)
          have e0 : act.tmps[0]?.getD undef = .pointer (some ⟨g, 0, none⟩) := hk.o 0 (by kernel_rfl)
          clear hk
          go_simp
          exact hK _ _ (Ext.refl _) (fun d hd => by cases hd; rfl)
        · intro act W2 hk
          refine Flow.does_intro rfl (fun Kq hK => ?_)
          have e20 : act.tmps[20]?.getD undef = .pointer (some ⟨g, 0, none⟩) := hk.v 20 (by kernel_rfl)
          clear hk
          go_simp
          exact hK _ _ (Ext.refl _) (fun d hd => by cases hd; rfl)
        · intro act W2 hk
          refine Flow.does_intro rfl (fun Kq hK => ?_)
          have e21 : act.tmps[21]?.getD undef = .pointer (some ⟨g, 0, none⟩) := hk.v 21 (by kernel_rfl)
          clear hk
          go_simp
          exact hK _ _ (Ext.refl _) (fun d hd => by cases hd; rfl)
        · intro act W2 hk
          refine Flow.does_intro rfl (fun Kq hK => ?_)
          have e22 : act.tmps[22]?.getD undef = .pointer (some ⟨g, 0, none⟩) := hk.v 22 (by kernel_rfl)
          have g := ((kQ.out).ext ((Ext.drew wh).trans hk.ext)).cell
          clear hk
          go_simp
          exact hK _ _ (Ext.refl _) (fun d hd => by cases hd; rfl)
        · intro act W2 hk
          refine Flow.does_intro rfl (fun Kq hK => ?_)
          have e0 : act.tmps[0]?.getD undef = .pointer (some ⟨g, 0, none⟩) := hk.o 0 (by kernel_rfl)
          clear hk
          go_simp
          exact hK _ _ (Ext.refl _) (fun d hd => by cases hd; rfl)
        · intro act W2 hk
          refine Flow.does_intro rfl (fun Kq hK => ?_)
          have e24 : act.tmps[24]?.getD undef = .pointer (some ⟨g, 0, none⟩) := hk.v 24 (by kernel_rfl)
          clear hk
          go_simp
          exact hK _ _ (Ext.refl _) (fun d hd => by cases hd; rfl)
        · intro act W2 hk
          refine Flow.does_intro rfl (fun Kq hK => ?_)
          have e25 : act.tmps[25]?.getD undef = .pointer (some ⟨g, 0, none⟩) := hk.v 25 (by kernel_rfl)
          clear hk
          go_simp
          exact hK _ _ (Ext.refl _) (fun d hd => by cases hd; rfl)
        · intro act W2 hk
          refine Flow.does_intro rfl (fun Kq hK => ?_)
          have e26 : act.tmps[26]?.getD undef = .pointer (some ⟨g, 6, none⟩) := hk.v 26 (by kernel_rfl)
          clear hk
          go_simp
          exact hK _ _ (Ext.refl _) (fun d hd => by cases hd; rfl)
        · intro act W2 hk
          refine Flow.does_intro rfl (fun Kq hK => ?_)
          have e27 : act.tmps[27]?.getD undef = .pointer (some ⟨g, 7, none⟩) := hk.v 27 (by kernel_rfl)
          have g := ((kQ.out).ext ((Ext.drew wh).trans hk.ext)).cell
          clear hk
          go_simp
          exact hK _ _ (Ext.refl _) (fun d hd => by cases hd; rfl)
        · intro act W2 hk
          refine Flow.does_intro rfl (fun Kq hK => ?_)
          have e0 : act.tmps[0]?.getD undef = .pointer (some ⟨g, 0, none⟩) := hk.o 0 (by kernel_rfl)
          clear hk
          go_simp
          exact hK _ _ (Ext.refl _) (fun d hd => by cases hd; rfl)
        · intro act W2 hk
          refine Flow.does_intro rfl (fun Kq hK => ?_)
          have e29 : act.tmps[29]?.getD undef = .pointer (some ⟨g, 0, none⟩) := hk.v 29 (by kernel_rfl)
          clear hk
          go_simp
          exact hK _ _ (Ext.refl _) (fun d hd => by cases hd; rfl)
        · intro act W2 hk
          refine Flow.does_intro rfl (fun Kq hK => ?_)
          have e30 : act.tmps[30]?.getD undef = .pointer (some ⟨g, 0, none⟩) := hk.v 30 (by kernel_rfl)
          clear hk
          go_simp
          exact hK _ _ (Ext.refl _) (fun d hd => by cases hd; rfl)
        · intro act W2 hk
          refine Flow.does_intro rfl (fun Kq hK => ?_)
          have e31 : act.tmps[31]?.getD undef = .pointer (some ⟨g, 6, none⟩) := hk.v 31 (by kernel_rfl)
          clear hk
          go_simp
          exact hK _ _ (Ext.refl _) (fun d hd => by cases hd; rfl)
        · intro act W2 hk
          refine Flow.does_intro rfl (fun Kq hK => ?_)
          have e32 : act.tmps[32]?.getD undef = .pointer (some ⟨g, 8, none⟩) := hk.v 32 (by kernel_rfl)
          have g := ((kQ.out).ext ((Ext.drew wh).trans hk.ext)).cell
          clear hk
          go_simp
          exact hK _ _ (Ext.refl _) (fun d hd => by cases hd; rfl)
        · intro act W2 hk
          refine Flow.does_intro rfl (fun Kq hK => ?_)
          have e23 : act.tmps[23]?.getD undef = .agg #[.string n.name, .string n.key, .int .i64 n.kind, .int .u64 n.num, .string n.text, .slice Kn n.kids.length kn] := hk.v 23 (by kernel_rfl)
          have e28 : act.tmps[28]?.getD undef = .slice (some ⟨b2, o2, none⟩) (L + 1) ac := hk.v 28 (by kernel_rfl)
          have e33 : act.tmps[33]?.getD undef = .agg #[.string x.name, .string x.key, .int .i64 x.kind, .int .u64 x.num, .string x.text, .slice Kx x.kids.length kx1] := hk.v 33 (by kernel_rfl)
          have hx0 := Hd.mk ((Ext.drew wh).trans hk.ext)
          have hcn := tree_set n x (init ++ [s]) S S S' W2 _ _ (some ⟨b2, o2, none⟩) ac (kr.out.ext (kx.out.trans hx0.out)) (krx.out.ext (kx.out.trans hx0.out)) (kw.out.ext (kx.out.trans hx0.out)) hriH.out hszH.out
          rw [hr1.out, hlenH.out] at hcn
          have hcn := Hd.mk hcn
          clear hk
          go_simp
          refine Calls.mono (hcn.out) ?_
          rintro e W3 ⟨_, rfl, cm, rfl, hrm, hx⟩
          exact hK _ _ hx (fun d hd => by cases hd; exact ⟨cm, _, _, rfl, hrm, hx0.out.size, Nat.le_refl _⟩)
        · intro act W2 hk
          refine Flow.does_intro rfl (fun Kq hK => ?_)
          obtain ⟨cm, lo, hi, e34, hrm, hlo, hhi⟩ := (hk.v 34 (by kernel_rfl) : (spOC _ _ _).p _ _)
          clear hk
          go_simp
          exact hK _ _ (Ext.refl _) (fun d hd => by cases hd; exact ⟨cm, lo, hi, rfl, hrm, hlo, hhi⟩)
        · intro act W2 hk
          refine Flow.does_intro rfl (fun Kq hK => ?_)
          obtain ⟨cm, lo, hi, e34, hrm, hlo, hhi⟩ := (hk.v 34 (by kernel_rfl) : (spOC _ _ _).p _ _)
          clear hk
          go_simp
          exact hK _ _ (Ext.refl _) (fun d hd => by cases hd; rfl)
      · intro act V2 he
        have hxV2 := Hd.mk ((Ext.drew wh).trans he.ext)
        obtain ⟨us, hA, hF⟩ := he.out [20, 21, 22, 23, 24, 25, 26, 27, 28, 29, 30, 31, 32, 33, 34, 35, 36] (by kernel_rfl)
        simp only [Flow.fillL, List.contains_cons, List.contains_nil, Nat.reduceBEq, Bool.or_false, Bool.false_or, Bool.or_true, Bool.true_or, ↓reduceIte, Nat.reduceAdd, Bool.false_eq_true] at hA
        subst hA
        have f35 : (spO m wh.heap.size).p (us 35) V2 := hF 35 (by simp)
        have f36 : us 36 = .int .i64 rc := hF 36 (by simp)
        clear hF he
        rw [f36]
        clear f36
        obtain ⟨cm, lo, hi, em, hrm, hlo, hhi⟩ := (f35 : (spO _ _).p _ _)
        obtain ⟨Km, km, _, _, rfl, _⟩ := hrm.row
        rw [em]
        clear em
        have hrm := Hd.mk hrm
        simp only [cT] at hrm ⊢
        have hVs := Hd.mk kR.out.lt
        replace kx := Hd.mk (kx.out.trans hxV2.out)
        replace kR := Hd.mk (kR.out.ext hxV2.out)
        clear hxV2
        have gR := kR.out.cell
        have fR := kR.out.free
        refine (show wpList _ _ _ (⟨none, .store 54 (.tmp 2) (.tmp 35), _, _, _, none⟩ :: _) _ _ from ?_)
        go_wp2_with fail
        have hu := Hd.mk ((((((Upd.setCell V2 ⟨p, 0, none⟩ (.string m.name)).trans (Upd.setCell _ ⟨p, 1, none⟩ (.string m.key))).trans (Upd.setCell _ ⟨p, 2, none⟩ (.int .i64 m.kind))).trans (Upd.setCell _ ⟨p, 3, none⟩ (.int .u64 m.num))).trans (Upd.setCell _ ⟨p, 4, none⟩ (.string m.text))).trans (Upd.setCell _ ⟨p, 5, none⟩ (.slice Km m.kids.length km)))
        exact ret_box2 rfl p _ 54 _ ((((((kR.out.setCell 0 (.string m.name)).setCell 1 (.string m.key)).setCell 2 (.int .i64 m.kind)).setCell 3 (.int .u64 m.num)).setCell 4 (.string m.text)).setCell 5 (.slice Km m.kids.length km)) rfl rfl Try.underlying54 rfl size54
          ⟨_, rfl, _, rfl, (hrm.out.keep fun b hb => hu.out.block b (by have := hVs.out; show b ≠ p; omega)).mono fun b hb => ⟨by rw [hp.out]; have := hVs.out; omega, by rw [hu.out.size]; omega⟩, Below.trans kx.out (hu.out.below (by rw [hp.out]; exact Nat.le_refl _))⟩
  · rw [decide_eq_false hhx]
    obtain rfl : r = (zeroT, 1) := by rw [← hr0.out]; simp [hhx]
    have gR := kR.out.cell
    have fR := kR.out.free
    go_wp2_with fail
    have hu := Hd.mk ((((((Upd.setCell wh ⟨p, 0, none⟩ (.string ⟨#[]⟩)).trans (Upd.setCell _ ⟨p, 1, none⟩ (.string ⟨#[]⟩))).trans (Upd.setCell _ ⟨p, 2, none⟩ (.int .i64 0))).trans (Upd.setCell _ ⟨p, 3, none⟩ (.int .u64 0))).trans (Upd.setCell _ ⟨p, 4, none⟩ (.string ⟨#[]⟩))).trans (Upd.setCell _ ⟨p, 5, none⟩ (.slice none 0 0)))
    exact ret_box2 rfl p _ 54 _ ((((((kR.out.setCell 0 (.string ⟨#[]⟩)).setCell 1 (.string ⟨#[]⟩)).setCell 2 (.int .i64 0)).setCell 3 (.int .u64 0)).setCell 4 (.string ⟨#[]⟩)).setCell 5 (.slice none 0 0)) rfl rfl Try.underlying54 rfl size54
      ⟨_, rfl, _, rfl, ot_zero _ _, Below.trans kx.out (hu.out.below (by rw [hp.out]; exact Nat.le_refl _))⟩
set_option maxRecDepth 100000 in
set_option maxHeartbeats 2000000 in
theorem work_delete (n x y z : T) (Kn Kx Ky Kz : Option Addr) (kn kx1 ky1 kz : Nat) (d : Int) (b2 o2 L ac : Nat) (iz : Bool) (init : List Step) (s : Step) (S S' : Nat → Prop) (w : World) (g : Nat) (hL : init.length = L) (hg : Blk w g (cWk n x y z Kn Kx Ky Kz kn kx1 ky1 kz d b2 o2 L ac iz) 126)
    (hn : RT S w n [.string n.name, .string n.key, .int .i64 n.kind, .int .u64 n.num, .string n.text, .slice Kn n.kids.length kn]) (hx : RT S w x [.string x.name, .string x.key, .int .i64 x.kind, .int .u64 x.num, .string x.text, .slice Kx x.kids.length kx1]) (hy : RT S w y [.string y.name, .string y.key, .int .i64 y.kind, .int .u64 y.num, .string y.text, .slice Ky y.kids.length ky1]) (hz : RT S w z [.string z.name, .string z.key, .int .i64 z.kind, .int .u64 z.num, .string z.text, .slice Kz z.kids.length kz]) (hw : WRow S' w (some ⟨b2, o2, none⟩) (init ++ [s]) ac) (hri : rightT n = true) (hsz : n.size + x.size ≤ 1048576) :
    Calls Try.prog 110 #[.pointer (some ⟨g, 0, none⟩)] w (Ret (ChgPost (if stepT y ≠ s then (zeroT, (1 : Int)) else if iz = false then (zeroT, 30) else if sameT z y = false then (zeroT, 23) else cutR n (init ++ [s])) w)) := by
  generalize hr0 : (if stepT y ≠ s then (zeroT, (1 : Int)) else if iz = false then (zeroT, 30) else if sameT z y = false then (zeroT, 23) else cutR n (init ++ [s])) = r
  replace hr0 := Hd.mk hr0
  have hwl := hw.len
  have hdk0 : ∀ (j : Nat) v, [Value.string s.1, .string s.2][j]? = some v → w.cell? ⟨b2, o2 + L * 2 + j, none⟩ = some v := by
    obtain ⟨b', o', he, _, hd⟩ := WRow.at hw (j := init.length) (x := s) (by simp)
    simp only [Option.some.injEq, Addr.mk.injEq, and_true] at he
    obtain ⟨rfl, rfl⟩ := he
    rw [hL] at hd; exact hd
  have hlenH := Hd.mk (show (init ++ [s]).length = L + 1 by simp [hL])
  rw [hlenH.out] at hwl
  have kG := Hd.mk hg
  have kr := Hd.mk hn
  have krx := Hd.mk hx
  have kry := Hd.mk hy
  have krz := Hd.mk hz
  have kw := Hd.mk hw
  have hdk := Hd.mk hdk0
  have hriH := Hd.mk hri
  have hszH := Hd.mk hsz
  clear hg hn hx hy hz hw hri hsz hdk0 hL
  go_enter Try.func110, Try.ntmps110
  go_wp2_with ((with_reducible refine stop_at (.nilCheck (.tmp 6)) ?_))
  refine Stop.mk ?_
  have kx := Hd.mk (Ext.alloc w (.cells #[.string ⟨#[]⟩, .string ⟨#[]⟩, .int .i64 0, .int .u64 0, .string ⟨#[]⟩, .slice none 0 0] 54))
  have kR := Hd.mk (Blk.new w #[.string ⟨#[]⟩, .string ⟨#[]⟩, .int .i64 0, .int .u64 0, .string ⟨#[]⟩, .slice none 0 0] 54)
  replace kG := Hd.mk (kG.out.ext kx.out)
  generalize w.alloc _ = W at *
  generalize hp : w.heap.size = p at *
  replace hp := Hd.mk hp
  have kQ := Hd.mk (show Blk W g [.string n.name, .string n.key, .int .i64 n.kind, .int .u64 n.num, .string n.text, .slice Kn n.kids.length kn, .int .i64 d, .slice (some ⟨b2, o2, none⟩) (L + 1) ac, .string x.name, .string x.key, .int .i64 x.kind, .int .u64 x.num, .string x.text, .slice Kx x.kids.length kx1, .string y.name, .string y.key, .int .i64 y.kind, .int .u64 y.num, .string y.text, .slice Ky y.kids.length ky1, .string z.name, .string z.key, .int .i64 z.kind, .int .u64 z.num, .string z.text, .slice Kz z.kids.length kz, .bool iz] 126 from kG.out)
  have gG := kQ.out.cell
  go_wp2_with fail
  clear gG kQ
  refine Calls.mono (work_has y n x y z Ky Kn Kx Ky Kz ky1 kn kx1 ky1 kz d b2 o2 L ac iz s W g hwl kG.out (fun j v hj => Ext.cell kx.out (hdk.out j v hj))) ?_
  rintro e wh ⟨rfl, hx⟩
  replace kx := Hd.mk (kx.out.trans hx)
  replace kG := Hd.mk (kG.out.ext hx)
  replace kR := Hd.mk (kR.out.ext hx)
  clear hx
  by_cases hhy : stepT y = s
  · rw [decide_eq_true hhy]
    go_wp2_with fail
    refine Calls.mono (work_wrong n x y z Kn Kx Ky Kz kn kx1 ky1 kz d b2 o2 L ac iz S wh g kG.out (kry.out.ext kx.out) (krz.out.ext kx.out)) ?_
    rintro e ww ⟨rfl, hx⟩
    replace kx := Hd.mk (kx.out.trans hx)
    replace kG := Hd.mk (kG.out.ext hx)
    replace kR := Hd.mk (kR.out.ext hx)
    clear hx
    cases iz with
    | false =>
      obtain rfl : r = (zeroT, 30) := by rw [← hr0.out]; simp [hhy, *]
      rw [if_pos rfl]
      have gR := kR.out.cell
      have fR := kR.out.free
      go_wp2_with fail
      have hu := Hd.mk ((((((Upd.setCell ww ⟨p, 0, none⟩ (.string ⟨#[]⟩)).trans (Upd.setCell _ ⟨p, 1, none⟩ (.string ⟨#[]⟩))).trans (Upd.setCell _ ⟨p, 2, none⟩ (.int .i64 0))).trans (Upd.setCell _ ⟨p, 3, none⟩ (.int .u64 0))).trans (Upd.setCell _ ⟨p, 4, none⟩ (.string ⟨#[]⟩))).trans (Upd.setCell _ ⟨p, 5, none⟩ (.slice none 0 0)))
      exact ret_box2 rfl p _ 54 _ ((((((kR.out.setCell 0 (.string ⟨#[]⟩)).setCell 1 (.string ⟨#[]⟩)).setCell 2 (.int .i64 0)).setCell 3 (.int .u64 0)).setCell 4 (.string ⟨#[]⟩)).setCell 5 (.slice none 0 0)) rfl rfl Try.underlying54 rfl size54
        ⟨_, rfl, _, rfl, ot_zero _ _, Below.trans kx.out (hu.out.below (by rw [hp.out]; exact Nat.le_refl _))⟩
    | true =>
      rw [if_neg (by simp)]
      cases hsm : sameT z y with
      | false =>
        obtain rfl : r = (zeroT, 23) := by rw [← hr0.out]; simp [hhy, *]
        rw [if_pos rfl]
        have gR := kR.out.cell
        have fR := kR.out.free
        go_wp2_with fail
        have hu := Hd.mk ((((((Upd.setCell ww ⟨p, 0, none⟩ (.string ⟨#[]⟩)).trans (Upd.setCell _ ⟨p, 1, none⟩ (.string ⟨#[]⟩))).trans (Upd.setCell _ ⟨p, 2, none⟩ (.int .i64 0))).trans (Upd.setCell _ ⟨p, 3, none⟩ (.int .u64 0))).trans (Upd.setCell _ ⟨p, 4, none⟩ (.string ⟨#[]⟩))).trans (Upd.setCell _ ⟨p, 5, none⟩ (.slice none 0 0)))
        exact ret_box2 rfl p _ 54 _ ((((((kR.out.setCell 0 (.string ⟨#[]⟩)).setCell 1 (.string ⟨#[]⟩)).setCell 2 (.int .i64 0)).setCell 3 (.int .u64 0)).setCell 4 (.string ⟨#[]⟩)).setCell 5 (.slice none 0 0)) rfl rfl Try.underlying54 rfl size54
          ⟨_, rfl, _, rfl, ot_zero _ _, Below.trans kx.out (hu.out.below (by rw [hp.out]; exact Nat.le_refl _))⟩
      | true =>
        rw [if_neg (by simp)]
        have hr1 := Hd.mk (show cutR n (init ++ [s]) = r by rw [← hr0.out]; simp [hhy, hsm])
        obtain ⟨m, rc⟩ := r
        have kQ := Hd.mk (show Blk ww g [.string n.name, .string n.key, .int .i64 n.kind, .int .u64 n.num, .string n.text, .slice Kn n.kids.length kn, .int .i64 d, .slice (some ⟨b2, o2, none⟩) (L + 1) ac, .string x.name, .string x.key, .int .i64 x.kind, .int .u64 x.num, .string x.text, .slice Kx x.kids.length kx1, .string y.name, .string y.key, .int .i64 y.kind, .int .u64 y.num, .string y.text, .slice Ky y.kids.length ky1, .string z.name, .string z.key, .int .i64 z.kind, .int .u64 z.num, .string z.text, .slice Kz z.kids.length kz, .bool true] 126 from kG.out)
        have gG := kQ.out.cell
        go_wp2_with fail
        clear gG
        refine Flow.wp_region_flow_l (fun qq => match qq with
          | 20 => SP.eq (.pointer (some ⟨g, 0, none⟩))
          | 21 => SP.eq (.pointer (some ⟨g, 0, none⟩))
          | 22 => SP.eq (.pointer (some ⟨g, 0, none⟩))
          | 23 => SP.eq (.agg #[.string n.name, .string n.key, .int .i64 n.kind, .int .u64 n.num, .string n.text, .slice Kn n.kids.length kn])
          | 24 => SP.eq (.pointer (some ⟨g, 0, none⟩))
          | 25 => SP.eq (.pointer (some ⟨g, 0, none⟩))
          | 26 => SP.eq (.pointer (some ⟨g, 6, none⟩))
          | 27 => SP.eq (.pointer (some ⟨g, 7, none⟩))
          | 28 => SP.eq (.slice (some ⟨b2, o2, none⟩) (L + 1) ac)
          | 29 => spOC m rc ww.heap.size
          | 30 => spO m ww.heap.size
          | 31 => SP.eq (.int .i64 rc)
          | _ => SP.any) 12 (by kernel_rfl) 32 rfl (by kernel_rfl) ?_ ?_
        · skip
          refine ⟨?_, ?_, ?_, ?_, ?_, ?_, ?_, ?_, ?_, ?_, ?_, ?_, trivial⟩
          · intro act W2 hk
            refine Flow.does_intro rfl (fun Kq hK => ?_)
            have e0 : act.tmps[0]?.getD undef = .pointer (some ⟨g, 0, none⟩) := hk.o 0 (by kernel_rfl)
            clear hk
            go_simp
            exact hK _ _ (Ext.refl _) (fun d hd => by cases hd; rfl)
          · intro act W2 hk
            refine Flow.does_intro rfl (fun Kq hK => ?_)
            have e20 : act.tmps[20]?.getD undef = .pointer (some ⟨g, 0, none⟩) := hk.v 20 (by kernel_rfl)
            clear hk
            go_simp
            exact hK _ _ (Ext.refl _) (fun d hd => by cases hd; rfl)
          · intro act W2 hk
            refine Flow.does_intro rfl (fun Kq hK => ?_)
            have e21 : act.tmps[21]?.getD undef = .pointer (some ⟨g, 0, none⟩) := hk.v 21 (by kernel_rfl)
            clear hk
            go_simp
            exact hK _ _ (Ext.refl _) (fun d hd => by cases hd; rfl)
          · intro act W2 hk
            refine Flow.does_intro rfl (fun Kq hK => ?_)
            have e22 : act.tmps[22]?.getD undef = .pointer (some ⟨g, 0, none⟩) := hk.v 22 (by kernel_rfl)
            have g := ((kQ.out).ext ((Ext.drew ww).trans hk.ext)).cell
            clear hk
            go_simp
            exact hK _ _ (Ext.refl _) (fun d hd => by cases hd; rfl)
          · intro act W2 hk
            refine Flow.does_intro rfl (fun Kq hK => ?_)
            have e0 : act.tmps[0]?.getD undef = .pointer (some ⟨g, 0, none⟩) := hk.o 0 (by kernel_rfl)
            clear hk
            go_simp
            exact hK _ _ (Ext.refl _) (fun d hd => by cases hd; rfl)
          · intro act W2 hk
            refine Flow.does_intro rfl (fun Kq hK => ?_)
            have e24 : act.tmps[24]?.getD undef = .pointer (some ⟨g, 0, none⟩) := hk.v 24 (by kernel_rfl)
            clear hk
            go_simp
            exact hK _ _ (Ext.refl _) (fun d hd => by cases hd; rfl)
          · intro act W2 hk
            refine Flow.does_intro rfl (fun Kq hK => ?_)
            have e25 : act.tmps[25]?.getD undef = .pointer (some ⟨g, 0, none⟩) := hk.v 25 (by kernel_rfl)
            clear hk
            go_simp
            exact hK _ _ (Ext.refl _) (fun d hd => by cases hd; rfl)
          · intro act W2 hk
            refine Flow.does_intro rfl (fun Kq hK => ?_)
            have e26 : act.tmps[26]?.getD undef = .pointer (some ⟨g, 6, none⟩) := hk.v 26 (by kernel_rfl)
            clear hk
            go_simp
            exact hK _ _ (Ext.refl _) (fun d hd => by cases hd; rfl)
          · intro act W2 hk
            refine Flow.does_intro rfl (fun Kq hK => ?_)
            have e27 : act.tmps[27]?.getD undef = .pointer (some ⟨g, 7, none⟩) := hk.v 27 (by kernel_rfl)
            have g := ((kQ.out).ext ((Ext.drew ww).trans hk.ext)).cell
            clear hk
            go_simp
            exact hK _ _ (Ext.refl _) (fun d hd => by cases hd; rfl)
          · intro act W2 hk
            refine Flow.does_intro rfl (fun Kq hK => ?_)
            have e23 : act.tmps[23]?.getD undef = .agg #[.string n.name, .string n.key, .int .i64 n.kind, .int .u64 n.num, .string n.text, .slice Kn n.kids.length kn] := hk.v 23 (by kernel_rfl)
            have e28 : act.tmps[28]?.getD undef = .slice (some ⟨b2, o2, none⟩) (L + 1) ac := hk.v 28 (by kernel_rfl)
            have hx0 := Hd.mk ((Ext.drew ww).trans hk.ext)
            have hcn := tree_cut n (init ++ [s]) S S' W2 _ (some ⟨b2, o2, none⟩) ac (kr.out.ext (kx.out.trans hx0.out)) (kw.out.ext (kx.out.trans hx0.out)) (by have := hszH.out; omega)
            rw [hr1.out, hlenH.out] at hcn
            have hcn := Hd.mk hcn
            clear hk
            go_simp
            refine Calls.mono (hcn.out) ?_
            rintro e W3 ⟨_, rfl, cm, rfl, hrm, hx⟩
            exact hK _ _ hx (fun d hd => by cases hd; exact ⟨cm, _, _, rfl, hrm, hx0.out.size, Nat.le_refl _⟩)
          · intro act W2 hk
            refine Flow.does_intro rfl (fun Kq hK => ?_)
            obtain ⟨cm, lo, hi, e29, hrm, hlo, hhi⟩ := (hk.v 29 (by kernel_rfl) : (spOC _ _ _).p _ _)
            clear hk
            go_simp
            exact hK _ _ (Ext.refl _) (fun d hd => by cases hd; exact ⟨cm, lo, hi, rfl, hrm, hlo, hhi⟩)
          · intro act W2 hk
            refine Flow.does_intro rfl (fun Kq hK => ?_)
            obtain ⟨cm, lo, hi, e29, hrm, hlo, hhi⟩ := (hk.v 29 (by kernel_rfl) : (spOC _ _ _).p _ _)
            clear hk
            go_simp
            exact hK _ _ (Ext.refl _) (fun d hd => by cases hd; rfl)
        · intro act V2 he
          have hxV2 := Hd.mk ((Ext.drew ww).trans he.ext)
          obtain ⟨us, hA, hF⟩ := he.out [20, 21, 22, 23, 24, 25, 26, 27, 28, 29, 30, 31] (by kernel_rfl)
          simp only [Flow.fillL, List.contains_cons, List.contains_nil, Nat.reduceBEq, Bool.or_false, Bool.false_or, Bool.or_true, Bool.true_or, ↓reduceIte, Nat.reduceAdd, Bool.false_eq_true] at hA
          subst hA
          have f30 : (spO m ww.heap.size).p (us 30) V2 := hF 30 (by simp)
          have f31 : us 31 = .int .i64 rc := hF 31 (by simp)
          clear hF he
          rw [f31]
          clear f31
          obtain ⟨cm, lo, hi, em, hrm, hlo, hhi⟩ := (f30 : (spO _ _).p _ _)
          obtain ⟨Km, km, _, _, rfl, _⟩ := hrm.row
          rw [em]
          clear em
          have hrm := Hd.mk hrm
          simp only [cT] at hrm ⊢
          have hVs := Hd.mk kR.out.lt
          replace kx := Hd.mk (kx.out.trans hxV2.out)
          replace kR := Hd.mk (kR.out.ext hxV2.out)
          clear hxV2
          have gR := kR.out.cell
          have fR := kR.out.free
          refine (show wpList _ _ _ (⟨none, .store 54 (.tmp 2) (.tmp 30), _, _, _, none⟩ :: _) _ _ from ?_)
          go_wp2_with fail
          have hu := Hd.mk ((((((Upd.setCell V2 ⟨p, 0, none⟩ (.string m.name)).trans (Upd.setCell _ ⟨p, 1, none⟩ (.string m.key))).trans (Upd.setCell _ ⟨p, 2, none⟩ (.int .i64 m.kind))).trans (Upd.setCell _ ⟨p, 3, none⟩ (.int .u64 m.num))).trans (Upd.setCell _ ⟨p, 4, none⟩ (.string m.text))).trans (Upd.setCell _ ⟨p, 5, none⟩ (.slice Km m.kids.length km)))
          exact ret_box2 rfl p _ 54 _ ((((((kR.out.setCell 0 (.string m.name)).setCell 1 (.string m.key)).setCell 2 (.int .i64 m.kind)).setCell 3 (.int .u64 m.num)).setCell 4 (.string m.text)).setCell 5 (.slice Km m.kids.length km)) rfl rfl Try.underlying54 rfl size54
            ⟨_, rfl, _, rfl, (hrm.out.keep fun b hb => hu.out.block b (by have := hVs.out; show b ≠ p; omega)).mono fun b hb => ⟨by rw [hp.out]; have := hVs.out; omega, by rw [hu.out.size]; omega⟩, Below.trans kx.out (hu.out.below (by rw [hp.out]; exact Nat.le_refl _))⟩
  · rw [decide_eq_false hhy]
    obtain rfl : r = (zeroT, 1) := by rw [← hr0.out]; simp [hhy]
    have gR := kR.out.cell
    have fR := kR.out.free
    go_wp2_with fail
    have hu := Hd.mk ((((((Upd.setCell wh ⟨p, 0, none⟩ (.string ⟨#[]⟩)).trans (Upd.setCell _ ⟨p, 1, none⟩ (.string ⟨#[]⟩))).trans (Upd.setCell _ ⟨p, 2, none⟩ (.int .i64 0))).trans (Upd.setCell _ ⟨p, 3, none⟩ (.int .u64 0))).trans (Upd.setCell _ ⟨p, 4, none⟩ (.string ⟨#[]⟩))).trans (Upd.setCell _ ⟨p, 5, none⟩ (.slice none 0 0)))
    exact ret_box2 rfl p _ 54 _ ((((((kR.out.setCell 0 (.string ⟨#[]⟩)).setCell 1 (.string ⟨#[]⟩)).setCell 2 (.int .i64 0)).setCell 3 (.int .u64 0)).setCell 4 (.string ⟨#[]⟩)).setCell 5 (.slice none 0 0)) rfl rfl Try.underlying54 rfl size54
      ⟨_, rfl, _, rfl, ot_zero _ _, Below.trans kx.out (hu.out.below (by rw [hp.out]; exact Nat.le_refl _))⟩
set_option maxRecDepth 100000 in
set_option maxHeartbeats 2000000 in
theorem work_replace (n x y z : T) (Kn Kx Ky Kz : Option Addr) (kn kx1 ky1 kz : Nat) (d : Int) (b2 o2 L ac : Nat) (iz : Bool) (init : List Step) (s : Step) (S S' : Nat → Prop) (w : World) (g : Nat) (hL : init.length = L) (hg : Blk w g (cWk n x y z Kn Kx Ky Kz kn kx1 ky1 kz d b2 o2 L ac iz) 126)
    (hn : RT S w n [.string n.name, .string n.key, .int .i64 n.kind, .int .u64 n.num, .string n.text, .slice Kn n.kids.length kn]) (hx : RT S w x [.string x.name, .string x.key, .int .i64 x.kind, .int .u64 x.num, .string x.text, .slice Kx x.kids.length kx1]) (hy : RT S w y [.string y.name, .string y.key, .int .i64 y.kind, .int .u64 y.num, .string y.text, .slice Ky y.kids.length ky1]) (hz : RT S w z [.string z.name, .string z.key, .int .i64 z.kind, .int .u64 z.num, .string z.text, .slice Kz z.kids.length kz]) (hw : WRow S' w (some ⟨b2, o2, none⟩) (init ++ [s]) ac) (hri : rightT n = true) (hsz : n.size + x.size ≤ 1048576) :
    Calls Try.prog 111 #[.pointer (some ⟨g, 0, none⟩)] w (Ret (ChgPost (if stepT x ≠ s ∨ stepT y ≠ s then (zeroT, (1 : Int)) else if iz = false then (zeroT, 30) else if sameT z y = false then (zeroT, 23) else if x.kind = 0 ∨ y.kind = 0 then (zeroT, 23) else setR n (init ++ [s]) x) w)) := by
  generalize hr0 : (if stepT x ≠ s ∨ stepT y ≠ s then (zeroT, (1 : Int)) else if iz = false then (zeroT, 30) else if sameT z y = false then (zeroT, 23) else if x.kind = 0 ∨ y.kind = 0 then (zeroT, 23) else setR n (init ++ [s]) x) = r
  replace hr0 := Hd.mk hr0
  have hwl := hw.len
  have hdk0 : ∀ (j : Nat) v, [Value.string s.1, .string s.2][j]? = some v → w.cell? ⟨b2, o2 + L * 2 + j, none⟩ = some v := by
    obtain ⟨b', o', he, _, hd⟩ := WRow.at hw (j := init.length) (x := s) (by simp)
    simp only [Option.some.injEq, Addr.mk.injEq, and_true] at he
    obtain ⟨rfl, rfl⟩ := he
    rw [hL] at hd; exact hd
  have hlenH := Hd.mk (show (init ++ [s]).length = L + 1 by simp [hL])
  rw [hlenH.out] at hwl
  have kG := Hd.mk hg
  have kr := Hd.mk hn
  have krx := Hd.mk hx
  have kry := Hd.mk hy
  have krz := Hd.mk hz
  have kw := Hd.mk hw
  have hdk := Hd.mk hdk0
  have hriH := Hd.mk hri
  have hszH := Hd.mk hsz
  clear hg hn hx hy hz hw hri hsz hdk0 hL
  go_enter Try.func111, Try.ntmps111
  go_wp2_with ((with_reducible refine stop_at (.nilCheck (.tmp 6)) ?_))
  refine Stop.mk ?_
  have kx := Hd.mk (Ext.alloc w (.cells #[.string ⟨#[]⟩, .string ⟨#[]⟩, .int .i64 0, .int .u64 0, .string ⟨#[]⟩, .slice none 0 0] 54))
  have kR := Hd.mk (Blk.new w #[.string ⟨#[]⟩, .string ⟨#[]⟩, .int .i64 0, .int .u64 0, .string ⟨#[]⟩, .slice none 0 0] 54)
  replace kG := Hd.mk (kG.out.ext kx.out)
  generalize w.alloc _ = W at *
  generalize hp : w.heap.size = p at *
  replace hp := Hd.mk hp
  have kQ := Hd.mk (show Blk W g [.string n.name, .string n.key, .int .i64 n.kind, .int .u64 n.num, .string n.text, .slice Kn n.kids.length kn, .int .i64 d, .slice (some ⟨b2, o2, none⟩) (L + 1) ac, .string x.name, .string x.key, .int .i64 x.kind, .int .u64 x.num, .string x.text, .slice Kx x.kids.length kx1, .string y.name, .string y.key, .int .i64 y.kind, .int .u64 y.num, .string y.text, .slice Ky y.kids.length ky1, .string z.name, .string z.key, .int .i64 z.kind, .int .u64 z.num, .string z.text, .slice Kz z.kids.length kz, .bool iz] 126 from kG.out)
  have gG := kQ.out.cell
  go_wp2_with fail
  clear gG kQ
  refine Calls.mono (work_has x n x y z Kx Kn Kx Ky Kz kx1 kn kx1 ky1 kz d b2 o2 L ac iz s W g hwl kG.out (fun j v hj => Ext.cell kx.out (hdk.out j v hj))) ?_
  rintro e wh ⟨rfl, hx⟩
  replace kx := Hd.mk (kx.out.trans hx)
  replace kG := Hd.mk (kG.out.ext hx)
  replace kR := Hd.mk (kR.out.ext hx)
  clear hx
  by_cases hhx : stepT x = s
  · rw [decide_eq_true hhx]
    have kQ := Hd.mk (show Blk wh g [.string n.name, .string n.key, .int .i64 n.kind, .int .u64 n.num, .string n.text, .slice Kn n.kids.length kn, .int .i64 d, .slice (some ⟨b2, o2, none⟩) (L + 1) ac, .string x.name, .string x.key, .int .i64 x.kind, .int .u64 x.num, .string x.text, .slice Kx x.kids.length kx1, .string y.name, .string y.key, .int .i64 y.kind, .int .u64 y.num, .string y.text, .slice Ky y.kids.length ky1, .string z.name, .string z.key, .int .i64 z.kind, .int .u64 z.num, .string z.text, .slice Kz z.kids.length kz, .bool iz] 126 from kG.out)
    have gG := kQ.out.cell
    go_wp2_with fail
    clear gG kQ
    refine Calls.mono (work_has y n x y z Ky Kn Kx Ky Kz ky1 kn kx1 ky1 kz d b2 o2 L ac iz s wh g hwl kG.out (fun j v hj => Ext.cell kx.out (hdk.out j v hj))) ?_
    rintro e wh2 ⟨rfl, hx⟩
    replace kx := Hd.mk (kx.out.trans hx)
    replace kG := Hd.mk (kG.out.ext hx)
    replace kR := Hd.mk (kR.out.ext hx)
    clear hx
    by_cases hhy : stepT y = s
    · rw [decide_eq_true hhy]
      go_wp2_with fail
      refine Calls.mono (work_wrong n x y z Kn Kx Ky Kz kn kx1 ky1 kz d b2 o2 L ac iz S wh2 g kG.out (kry.out.ext kx.out) (krz.out.ext kx.out)) ?_
      rintro e ww ⟨rfl, hx⟩
      replace kx := Hd.mk (kx.out.trans hx)
      replace kG := Hd.mk (kG.out.ext hx)
      replace kR := Hd.mk (kR.out.ext hx)
      clear hx
      cases iz with
      | false =>
        obtain rfl : r = (zeroT, 30) := by rw [← hr0.out]; simp [hhx, hhy, *]
        rw [if_pos rfl]
        have gR := kR.out.cell
        have fR := kR.out.free
        go_wp2_with fail
        have hu := Hd.mk ((((((Upd.setCell ww ⟨p, 0, none⟩ (.string ⟨#[]⟩)).trans (Upd.setCell _ ⟨p, 1, none⟩ (.string ⟨#[]⟩))).trans (Upd.setCell _ ⟨p, 2, none⟩ (.int .i64 0))).trans (Upd.setCell _ ⟨p, 3, none⟩ (.int .u64 0))).trans (Upd.setCell _ ⟨p, 4, none⟩ (.string ⟨#[]⟩))).trans (Upd.setCell _ ⟨p, 5, none⟩ (.slice none 0 0)))
        exact ret_box2 rfl p _ 54 _ ((((((kR.out.setCell 0 (.string ⟨#[]⟩)).setCell 1 (.string ⟨#[]⟩)).setCell 2 (.int .i64 0)).setCell 3 (.int .u64 0)).setCell 4 (.string ⟨#[]⟩)).setCell 5 (.slice none 0 0)) rfl rfl Try.underlying54 rfl size54
          ⟨_, rfl, _, rfl, ot_zero _ _, Below.trans kx.out (hu.out.below (by rw [hp.out]; exact Nat.le_refl _))⟩
      | true =>
        rw [if_neg (by simp)]
        cases hsm : sameT z y with
        | false =>
          obtain rfl : r = (zeroT, 23) := by rw [← hr0.out]; simp [hhx, hhy, *]
          rw [if_pos rfl]
          have gR := kR.out.cell
          have fR := kR.out.free
          go_wp2_with fail
          have hu := Hd.mk ((((((Upd.setCell ww ⟨p, 0, none⟩ (.string ⟨#[]⟩)).trans (Upd.setCell _ ⟨p, 1, none⟩ (.string ⟨#[]⟩))).trans (Upd.setCell _ ⟨p, 2, none⟩ (.int .i64 0))).trans (Upd.setCell _ ⟨p, 3, none⟩ (.int .u64 0))).trans (Upd.setCell _ ⟨p, 4, none⟩ (.string ⟨#[]⟩))).trans (Upd.setCell _ ⟨p, 5, none⟩ (.slice none 0 0)))
          exact ret_box2 rfl p _ 54 _ ((((((kR.out.setCell 0 (.string ⟨#[]⟩)).setCell 1 (.string ⟨#[]⟩)).setCell 2 (.int .i64 0)).setCell 3 (.int .u64 0)).setCell 4 (.string ⟨#[]⟩)).setCell 5 (.slice none 0 0)) rfl rfl Try.underlying54 rfl size54
            ⟨_, rfl, _, rfl, ot_zero _ _, Below.trans kx.out (hu.out.below (by rw [hp.out]; exact Nat.le_refl _))⟩
        | true =>
          rw [if_neg (by simp)]
          by_cases hkx : x.kind = 0
          · have qx : (x.kind == 0) = true := by simpa using hkx
            obtain rfl : r = (zeroT, 23) := by rw [← hr0.out]; simp [hhx, hhy, hsm, hkx]
            have kQ := Hd.mk (show Blk ww g [.string n.name, .string n.key, .int .i64 n.kind, .int .u64 n.num, .string n.text, .slice Kn n.kids.length kn, .int .i64 d, .slice (some ⟨b2, o2, none⟩) (L + 1) ac, .string x.name, .string x.key, .int .i64 x.kind, .int .u64 x.num, .string x.text, .slice Kx x.kids.length kx1, .string y.name, .string y.key, .int .i64 y.kind, .int .u64 y.num, .string y.text, .slice Ky y.kids.length ky1, .string z.name, .string z.key, .int .i64 z.kind, .int .u64 z.num, .string z.text, .slice Kz z.kids.length kz, .bool true] 126 from kG.out)
            have gG := kQ.out.cell
            have gR := kR.out.cell
            have fR := kR.out.free
            go_wp2_with fail
            have hu := Hd.mk ((((((Upd.setCell ww ⟨p, 0, none⟩ (.string ⟨#[]⟩)).trans (Upd.setCell _ ⟨p, 1, none⟩ (.string ⟨#[]⟩))).trans (Upd.setCell _ ⟨p, 2, none⟩ (.int .i64 0))).trans (Upd.setCell _ ⟨p, 3, none⟩ (.int .u64 0))).trans (Upd.setCell _ ⟨p, 4, none⟩ (.string ⟨#[]⟩))).trans (Upd.setCell _ ⟨p, 5, none⟩ (.slice none 0 0)))
            exact ret_box2 rfl p _ 54 _ ((((((kR.out.setCell 0 (.string ⟨#[]⟩)).setCell 1 (.string ⟨#[]⟩)).setCell 2 (.int .i64 0)).setCell 3 (.int .u64 0)).setCell 4 (.string ⟨#[]⟩)).setCell 5 (.slice none 0 0)) rfl rfl Try.underlying54 rfl size54
              ⟨_, rfl, _, rfl, ot_zero _ _, Below.trans kx.out (hu.out.below (by rw [hp.out]; exact Nat.le_refl _))⟩
          · have qx : (x.kind == 0) = false := by simpa using hkx
            by_cases hky : y.kind = 0
            · have qy : (y.kind == 0) = true := by simpa using hky
              obtain rfl : r = (zeroT, 23) := by rw [← hr0.out]; simp [hhx, hhy, hsm, hky]
              have kQ := Hd.mk (show Blk ww g [.string n.name, .string n.key, .int .i64 n.kind, .int .u64 n.num, .string n.text, .slice Kn n.kids.length kn, .int .i64 d, .slice (some ⟨b2, o2, none⟩) (L + 1) ac, .string x.name, .string x.key, .int .i64 x.kind, .int .u64 x.num, .string x.text, .slice Kx x.kids.length kx1, .string y.name, .string y.key, .int .i64 y.kind, .int .u64 y.num, .string y.text, .slice Ky y.kids.length ky1, .string z.name, .string z.key, .int .i64 z.kind, .int .u64 z.num, .string z.text, .slice Kz z.kids.length kz, .bool true] 126 from kG.out)
              have gG := kQ.out.cell
              have gR := kR.out.cell
              have fR := kR.out.free
              go_wp2_with fail
              have hu := Hd.mk ((((((Upd.setCell ww ⟨p, 0, none⟩ (.string ⟨#[]⟩)).trans (Upd.setCell _ ⟨p, 1, none⟩ (.string ⟨#[]⟩))).trans (Upd.setCell _ ⟨p, 2, none⟩ (.int .i64 0))).trans (Upd.setCell _ ⟨p, 3, none⟩ (.int .u64 0))).trans (Upd.setCell _ ⟨p, 4, none⟩ (.string ⟨#[]⟩))).trans (Upd.setCell _ ⟨p, 5, none⟩ (.slice none 0 0)))
              exact ret_box2 rfl p _ 54 _ ((((((kR.out.setCell 0 (.string ⟨#[]⟩)).setCell 1 (.string ⟨#[]⟩)).setCell 2 (.int .i64 0)).setCell 3 (.int .u64 0)).setCell 4 (.string ⟨#[]⟩)).setCell 5 (.slice none 0 0)) rfl rfl Try.underlying54 rfl size54
                ⟨_, rfl, _, rfl, ot_zero _ _, Below.trans kx.out (hu.out.below (by rw [hp.out]; exact Nat.le_refl _))⟩
            · have qy : (y.kind == 0) = false := by simpa using hky
              have hr1 := Hd.mk (show setR n (init ++ [s]) x = r by rw [← hr0.out]; simp [hhx, hhy, hsm, hkx, hky])
              obtain ⟨m, rc⟩ := r
              have kQ := Hd.mk (show Blk ww g [.string n.name, .string n.key, .int .i64 n.kind, .int .u64 n.num, .string n.text, .slice Kn n.kids.length kn, .int .i64 d, .slice (some ⟨b2, o2, none⟩) (L + 1) ac, .string x.name, .string x.key, .int .i64 x.kind, .int .u64 x.num, .string x.text, .slice Kx x.kids.length kx1, .string y.name, .string y.key, .int .i64 y.kind, .int .u64 y.num, .string y.text, .slice Ky y.kids.length ky1, .string z.name, .string z.key, .int .i64 z.kind, .int .u64 z.num, .string z.text, .slice Kz z.kids.length kz, .bool true] 126 from kG.out)
              have gG := kQ.out.cell
              go_wp2_with fail
              clear gG
              refine Flow.wp_region_flow_l (fun qq => match qq with
                | 52 => SP.eq (.pointer (some ⟨g, 0, none⟩))
                | 53 => SP.eq (.pointer (some ⟨g, 0, none⟩))
                | 54 => SP.eq (.pointer (some ⟨g, 0, none⟩))
                | 55 => SP.eq (.agg #[.string n.name, .string n.key, .int .i64 n.kind, .int .u64 n.num, .string n.text, .slice Kn n.kids.length kn])
                | 56 => SP.eq (.pointer (some ⟨g, 0, none⟩))
                | 57 => SP.eq (.pointer (some ⟨g, 0, none⟩))
                | 58 => SP.eq (.pointer (some ⟨g, 6, none⟩))
                | 59 => SP.eq (.pointer (some ⟨g, 7, none⟩))
                | 60 => SP.eq (.slice (some ⟨b2, o2, none⟩) (L + 1) ac)
                | 61 => SP.eq (.pointer (some ⟨g, 0, none⟩))
                | 62 => SP.eq (.pointer (some ⟨g, 0, none⟩))
                | 63 => SP.eq (.pointer (some ⟨g, 6, none⟩))
                | 64 => SP.eq (.pointer (some ⟨g, 8, none⟩))
                | 65 => SP.eq (.agg #[.string x.name, .string x.key, .int .i64 x.kind, .int .u64 x.num, .string x.text, .slice Kx x.kids.length kx1])
                | 66 => spOC m rc ww.heap.size
                | 67 => spO m ww.heap.size
                | 68 => SP.eq (.int .i64 rc)
                | _ => SP.any) 17 (by kernel_rfl) 69 rfl (by kernel_rfl) ?_ ?_
              · skip
                refine ⟨?_, ?_, ?_, ?_, ?_, ?_, ?_, ?_, ?_, ?_, ?_, ?_, ?_, ?_, ?_, ?_, ?_, trivial⟩
                · intro act W2 hk
                  refine Flow.does_intro rfl (fun Kq hK => ?_)
                  have e0 : act.tmps[0]?.getD undef = .pointer (some ⟨g, 0, none⟩) := hk.o 0 (by kernel_rfl)
                  clear hk
                  go_simp
                  exact hK _ _ (Ext.refl _) (fun d hd => by cases hd; rfl)
                · intro act W2 hk
                  refine Flow.does_intro rfl (fun Kq hK => ?_)
                  have e52 : act.tmps[52]?.getD undef = .pointer (some ⟨g, 0, none⟩) := hk.v 52 (by kernel_rfl)
                  clear hk
                  go_simp
                  exact hK _ _ (Ext.refl _) (fun d hd => by cases hd; rfl)
                · intro act W2 hk
                  refine Flow.does_intro rfl (fun Kq hK => ?_)
                  have e53 : act.tmps[53]?.getD undef = .pointer (some ⟨g, 0, none⟩) := hk.v 53 (by kernel_rfl)
                  clear hk
                  go_simp
                  exact hK _ _ (Ext.refl _) (fun d hd => by cases hd; rfl)
                · intro act W2 hk
                  refine Flow.does_intro rfl (fun Kq hK => ?_)
                  have e54 : act.tmps[54]?.getD undef = .pointer (some ⟨g, 0, none⟩) := hk.v 54 (by kernel_rfl)
                  have g := ((kQ.out).ext ((Ext.drew ww).trans hk.ext)).cell
                  clear hk
                  go_simp
                  exact hK _ _ (Ext.refl _) (fun d hd => by cases hd; rfl)
                · intro act W2 hk
                  refine Flow.does_intro rfl (fun Kq hK => ?_)
                  have e0 : act.tmps[0]?.getD undef = .pointer (some ⟨g, 0, none⟩) := hk.o 0 (by kernel_rfl)
                  clear hk
                  go_simp
                  exact hK _ _ (Ext.refl _) (fun d hd => by cases hd; rfl)
                · intro act W2 hk
                  refine Flow.does_intro rfl (fun Kq hK => ?_)
                  have e56 : act.tmps[56]?.getD undef = .pointer (some ⟨g, 0, none⟩) := hk.v 56 (by kernel_rfl)
                  clear hk
                  go_simp
                  exact hK _ _ (Ext.refl _) (fun d hd => by cases hd; rfl)
                · intro act W2 hk
                  refine Flow.does_intro rfl (fun Kq hK => ?_)
                  have e57 : act.tmps[57]?.getD undef = .pointer (some ⟨g, 0, none⟩) := hk.v 57 (by kernel_rfl)
                  clear hk
                  go_simp
                  exact hK _ _ (Ext.refl _) (fun d hd => by cases hd; rfl)
                · intro act W2 hk
                  refine Flow.does_intro rfl (fun Kq hK => ?_)
                  have e58 : act.tmps[58]?.getD undef = .pointer (some ⟨g, 6, none⟩) := hk.v 58 (by kernel_rfl)
                  clear hk
                  go_simp
                  exact hK _ _ (Ext.refl _) (fun d hd => by cases hd; rfl)
                · intro act W2 hk
                  refine Flow.does_intro rfl (fun Kq hK => ?_)
                  have e59 : act.tmps[59]?.getD undef = .pointer (some ⟨g, 7, none⟩) := hk.v 59 (by kernel_rfl)
                  have g := ((kQ.out).ext ((Ext.drew ww).trans hk.ext)).cell
                  clear hk
                  go_simp
                  exact hK _ _ (Ext.refl _) (fun d hd => by cases hd; rfl)
                · intro act W2 hk
                  refine Flow.does_intro rfl (fun Kq hK => ?_)
                  have e0 : act.tmps[0]?.getD undef = .pointer (some ⟨g, 0, none⟩) := hk.o 0 (by kernel_rfl)
                  clear hk
                  go_simp
                  exact hK _ _ (Ext.refl _) (fun d hd => by cases hd; rfl)
                · intro act W2 hk
                  refine Flow.does_intro rfl (fun Kq hK => ?_)
                  have e61 : act.tmps[61]?.getD undef = .pointer (some ⟨g, 0, none⟩) := hk.v 61 (by kernel_rfl)
                  clear hk
                  go_simp
                  exact hK _ _ (Ext.refl _) (fun d hd => by cases hd; rfl)
                · intro act W2 hk
                  refine Flow.does_intro rfl (fun Kq hK => ?_)
                  have e62 : act.tmps[62]?.getD undef = .pointer (some ⟨g, 0, none⟩) := hk.v 62 (by kernel_rfl)
                  clear hk
                  go_simp
                  exact hK _ _ (Ext.refl _) (fun d hd => by cases hd; rfl)
                · intro act W2 hk
                  refine Flow.does_intro rfl (fun Kq hK => ?_)
                  have e63 : act.tmps[63]?.getD undef = .pointer (some ⟨g, 6, none⟩) := hk.v 63 (by kernel_rfl)
                  clear hk
                  go_simp
                  exact hK _ _ (Ext.refl _) (fun d hd => by cases hd; rfl)
                · intro act W2 hk
                  refine Flow.does_intro rfl (fun Kq hK => ?_)
                  have e64 : act.tmps[64]?.getD undef = .pointer (some ⟨g, 8, none⟩) := hk.v 64 (by kernel_rfl)
                  have g := ((kQ.out).ext ((Ext.drew ww).trans hk.ext)).cell
                  clear hk
                  go_simp
                  exact hK _ _ (Ext.refl _) (fun d hd => by cases hd; rfl)
                · intro act W2 hk
                  refine Flow.does_intro rfl (fun Kq hK => ?_)
                  have e55 : act.tmps[55]?.getD undef = .agg #[.string n.name, .string n.key, .int .i64 n.kind, .int .u64 n.num, .string n.text, .slice Kn n.kids.length kn] := hk.v 55 (by kernel_rfl)
                  have e60 : act.tmps[60]?.getD undef = .slice (some ⟨b2, o2, none⟩) (L + 1) ac := hk.v 60 (by kernel_rfl)
                  have e65 : act.tmps[65]?.getD undef = .agg #[.string x.name, .string x.key, .int .i64 x.kind, .int .u64 x.num, .string x.text, .slice Kx x.kids.length kx1] := hk.v 65 (by kernel_rfl)
                  have hx0 := Hd.mk ((Ext.drew ww).trans hk.ext)
                  have hcn := tree_set n x (init ++ [s]) S S S' W2 _ _ (some ⟨b2, o2, none⟩) ac (kr.out.ext (kx.out.trans hx0.out)) (krx.out.ext (kx.out.trans hx0.out)) (kw.out.ext (kx.out.trans hx0.out)) hriH.out hszH.out
                  rw [hr1.out, hlenH.out] at hcn
                  have hcn := Hd.mk hcn
                  clear hk
                  go_simp
                  refine Calls.mono (hcn.out) ?_
                  rintro e W3 ⟨_, rfl, cm, rfl, hrm, hx⟩
                  exact hK _ _ hx (fun d hd => by cases hd; exact ⟨cm, _, _, rfl, hrm, hx0.out.size, Nat.le_refl _⟩)
                · intro act W2 hk
                  refine Flow.does_intro rfl (fun Kq hK => ?_)
                  obtain ⟨cm, lo, hi, e66, hrm, hlo, hhi⟩ := (hk.v 66 (by kernel_rfl) : (spOC _ _ _).p _ _)
                  clear hk
                  go_simp
                  exact hK _ _ (Ext.refl _) (fun d hd => by cases hd; exact ⟨cm, lo, hi, rfl, hrm, hlo, hhi⟩)
                · intro act W2 hk
                  refine Flow.does_intro rfl (fun Kq hK => ?_)
                  obtain ⟨cm, lo, hi, e66, hrm, hlo, hhi⟩ := (hk.v 66 (by kernel_rfl) : (spOC _ _ _).p _ _)
                  clear hk
                  go_simp
                  exact hK _ _ (Ext.refl _) (fun d hd => by cases hd; rfl)
              · intro act V2 he
                have hxV2 := Hd.mk ((Ext.drew ww).trans he.ext)
                obtain ⟨us, hA, hF⟩ := he.out [52, 53, 54, 55, 56, 57, 58, 59, 60, 61, 62, 63, 64, 65, 66, 67, 68] (by kernel_rfl)
                simp only [Flow.fillL, List.contains_cons, List.contains_nil, Nat.reduceBEq, Bool.or_false, Bool.false_or, Bool.or_true, Bool.true_or, ↓reduceIte, Nat.reduceAdd, Bool.false_eq_true] at hA
                subst hA
                have f67 : (spO m ww.heap.size).p (us 67) V2 := hF 67 (by simp)
                have f68 : us 68 = .int .i64 rc := hF 68 (by simp)
                clear hF he
                rw [f68]
                clear f68
                obtain ⟨cm, lo, hi, em, hrm, hlo, hhi⟩ := (f67 : (spO _ _).p _ _)
                obtain ⟨Km, km, _, _, rfl, _⟩ := hrm.row
                rw [em]
                clear em
                have hrm := Hd.mk hrm
                simp only [cT] at hrm ⊢
                have hVs := Hd.mk kR.out.lt
                replace kx := Hd.mk (kx.out.trans hxV2.out)
                replace kR := Hd.mk (kR.out.ext hxV2.out)
                clear hxV2
                have gR := kR.out.cell
                have fR := kR.out.free
                refine (show wpList _ _ _ (⟨none, .store 54 (.tmp 2) (.tmp 67), _, _, _, none⟩ :: _) _ _ from ?_)
                go_wp2_with fail
                have hu := Hd.mk ((((((Upd.setCell V2 ⟨p, 0, none⟩ (.string m.name)).trans (Upd.setCell _ ⟨p, 1, none⟩ (.string m.key))).trans (Upd.setCell _ ⟨p, 2, none⟩ (.int .i64 m.kind))).trans (Upd.setCell _ ⟨p, 3, none⟩ (.int .u64 m.num))).trans (Upd.setCell _ ⟨p, 4, none⟩ (.string m.text))).trans (Upd.setCell _ ⟨p, 5, none⟩ (.slice Km m.kids.length km)))
                exact ret_box2 rfl p _ 54 _ ((((((kR.out.setCell 0 (.string m.name)).setCell 1 (.string m.key)).setCell 2 (.int .i64 m.kind)).setCell 3 (.int .u64 m.num)).setCell 4 (.string m.text)).setCell 5 (.slice Km m.kids.length km)) rfl rfl Try.underlying54 rfl size54
                  ⟨_, rfl, _, rfl, (hrm.out.keep fun b hb => hu.out.block b (by have := hVs.out; show b ≠ p; omega)).mono fun b hb => ⟨by rw [hp.out]; have := hVs.out; omega, by rw [hu.out.size]; omega⟩, Below.trans kx.out (hu.out.below (by rw [hp.out]; exact Nat.le_refl _))⟩
    · rw [decide_eq_false hhy]
      obtain rfl : r = (zeroT, 1) := by rw [← hr0.out]; simp [hhx, hhy]
      have gR := kR.out.cell
      have fR := kR.out.free
      go_wp2_with fail
      have hu := Hd.mk ((((((Upd.setCell wh2 ⟨p, 0, none⟩ (.string ⟨#[]⟩)).trans (Upd.setCell _ ⟨p, 1, none⟩ (.string ⟨#[]⟩))).trans (Upd.setCell _ ⟨p, 2, none⟩ (.int .i64 0))).trans (Upd.setCell _ ⟨p, 3, none⟩ (.int .u64 0))).trans (Upd.setCell _ ⟨p, 4, none⟩ (.string ⟨#[]⟩))).trans (Upd.setCell _ ⟨p, 5, none⟩ (.slice none 0 0)))
      exact ret_box2 rfl p _ 54 _ ((((((kR.out.setCell 0 (.string ⟨#[]⟩)).setCell 1 (.string ⟨#[]⟩)).setCell 2 (.int .i64 0)).setCell 3 (.int .u64 0)).setCell 4 (.string ⟨#[]⟩)).setCell 5 (.slice none 0 0)) rfl rfl Try.underlying54 rfl size54
        ⟨_, rfl, _, rfl, ot_zero _ _, Below.trans kx.out (hu.out.below (by rw [hp.out]; exact Nat.le_refl _))⟩
  · rw [decide_eq_false hhx]
    obtain rfl : r = (zeroT, 1) := by rw [← hr0.out]; simp [hhx]
    have gR := kR.out.cell
    have fR := kR.out.free
    go_wp2_with fail
    have hu := Hd.mk ((((((Upd.setCell wh ⟨p, 0, none⟩ (.string ⟨#[]⟩)).trans (Upd.setCell _ ⟨p, 1, none⟩ (.string ⟨#[]⟩))).trans (Upd.setCell _ ⟨p, 2, none⟩ (.int .i64 0))).trans (Upd.setCell _ ⟨p, 3, none⟩ (.int .u64 0))).trans (Upd.setCell _ ⟨p, 4, none⟩ (.string ⟨#[]⟩))).trans (Upd.setCell _ ⟨p, 5, none⟩ (.slice none 0 0)))
    exact ret_box2 rfl p _ 54 _ ((((((kR.out.setCell 0 (.string ⟨#[]⟩)).setCell 1 (.string ⟨#[]⟩)).setCell 2 (.int .i64 0)).setCell 3 (.int .u64 0)).setCell 4 (.string ⟨#[]⟩)).setCell 5 (.slice none 0 0)) rfl rfl Try.underlying54 rfl size54
      ⟨_, rfl, _, rfl, ot_zero _ _, Below.trans kx.out (hu.out.below (by rw [hp.out]; exact Nat.le_refl _))⟩
end Go.Proofs.Ytgkgedjmnbjalaa
