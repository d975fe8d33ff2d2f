/- Texts that the law needs, joined.
   Conditions: none. -/
import Derived.Test.YtgkgedjmnbjalaaZeB
import Derived.WalkSpells
set_option linter.unusedSimpArgs false
namespace Go.Proofs.Ytgkgedjmnbjalaa
open Go.RowKit Go.Sort
mutual
/-- A tree is right. -/
def rightT : T → Bool
  | .mk _ _ d m t l => if d = 0 then (decide (m = 0) && decide (t = ⟨#[]⟩)) && rightL none l else l.isEmpty
def rightL : Option T → List T → Bool
  | _, [] => true
  | p, x :: l => rightT x && (match p with | none => true | some y => lessT y x) && rightL (some x) l
end
def prevOf (l : List T) (j : Nat) : Option T := if j = 0 then none else l[j - 1]?
theorem rightL_cons (p : Option T) (x : T) (l : List T) : rightL p (x :: l) = (rightT x && (match p with | none => true | some y => lessT y x) && rightL (some x) l) := by cases p <;> rfl
theorem rightL_drop {l : List T} {j : Nat} {x : T} (hx : l[j]? = some x) : rightL (prevOf l j) (l.drop j) = (rightT x && (match prevOf l j with | none => true | some y => lessT y x) && rightL (prevOf l (j + 1)) (l.drop (j + 1))) := by
  obtain ⟨h1, h2⟩ := List.getElem?_eq_some_iff.1 hx
  rw [List.drop_eq_getElem_cons h1, rightL_cons, h2, show prevOf l (j + 1) = some x from by rw [prevOf, if_neg (by omega)]; exact hx]
set_option maxRecDepth 100000 in
set_option maxHeartbeats 4000000 in
theorem ref_right : ∀ (N : Nat) (a : T) (S : Nat → Prop) (w : World) (c : List Value), a.deep ≤ N → RT S w a c →
    Calls Try.prog 57 #[.agg c.toArray] w fun e w' => e = .returned (.bool (rightT a)) ∧ Ext w w'
  | 0, a, S, w, c, hn, _ => by rw [a.deep_eq] at hn; omega
  | N + 1, .mk n k d m t l, S, w, c, hn, ha => by
    obtain ⟨K1, c1, rfl, hr1⟩ := ha.row
    simp only [T.name, T.key, T.kind, T.num, T.text, T.kids] at hr1 ⊢
    have kr1 := Hd.mk hr1
    have kn := Hd.mk (show deepL l ≤ N by rw [T.deep_eq] at hn; simp only [T.kids] at hn; omega)
    have hl1 := hr1.len
    have ih := Hd.mk (ref_right N)
    have hright : rightT (.mk n k d m t l) = if d = 0 then (decide (m = 0) && decide (t = ⟨#[]⟩)) && rightL none l else l.isEmpty := rfl
    clear hr1 ha hn
    generalize rightT _ = r at *
    simp only [cT]
    by_cases h0 : d = 0
    · subst h0
      rw [if_pos rfl] at hright
      by_cases h1 : m = 0
      · subst h1
        by_cases h2 : t = ⟨#[]⟩
        · subst h2
          have hr : r = rightL (prevOf l 0) (l.drop 0) := by rw [hright]; rfl
          clear hright
          go_enter Try.func57, Try.ntmps57
          go_wp2_with fail
          have kA := Hd.mk (Blk.new w #[.string n, .string k, .int .i64 0, .int .u64 0, .string ⟨#[]⟩, .slice K1 l.length c1] 54)
          have kx := Hd.mk (Ext.alloc w (.cells #[.string n, .string k, .int .i64 0, .int .u64 0, .string ⟨#[]⟩, .slice K1 l.length c1] 54))
          generalize w.heap.size = pA at *
          generalize w.alloc _ = W at *
          replace hr := Hd.mk hr
          go_loopg [3, 4] (l.length + 1) (fun q i _ wr => ∃ j : Nat, j ≤ l.length ∧ Hd (q = l.length + 1 - j) ∧ i = .int .i64 j ∧ Hd (r = rightL (prevOf l j) (l.drop j)) ∧ Hd (Ext W wr))
          case atStart => exact ⟨0, by omega, ⟨by omega⟩, rfl, hr, ⟨Ext.refl _⟩⟩
          case round =>
          obtain ⟨j, hj, hq, rfl, hI, hxr⟩ := hrel
          have gA := (kA.out.ext hxr.out).cell
          by_cases hlt : j < l.length
          · have hx1 := List.getElem?_eq_getElem hlt
            generalize l[j] = x at hx1
            obtain ⟨b1, o1, ck, rfl, _, hrk, hck⟩ := kr1.out.kid j x hx1
            obtain ⟨K3, c3, rfl, _⟩ := hrk.row
            have hcall := Hd.mk (fun W' (h : Ext w W') => ih.out x S W' _ (by have := deepL_mem hx1; have := kn.out; omega) (hrk.ext h))
            have hdrop := Hd.mk (rightL_drop hx1)
            obtain ⟨e0, e1, e2, e3, e4, e5⟩ := six (kx.out.trans hxr.out) hck
            simp only [cT] at hcall
            go_wp2_with fail
            refine (hcall.out wr (kx.out.trans hxr.out)).mono ?_
            rintro e w2 ⟨rfl, hx2⟩
            clear hcall e0 e1 e2 e3 e4 e5 gA
            replace hxr := Hd.mk (hxr.out.trans hx2)
            clear hx2
            have kA2 := Hd.mk (kA.out.ext hxr.out)
            generalize w2 = W0 at *
            cases hs : rightT x with
            | false =>
              have hr0 : r = false := by rw [hI.out, hdrop.out, hs]; rfl
              subst hr0
              go_wp2_with fail
              refine Flow.wp_region_flow_l (fun t => match t with
                | 30 => SP.eq (.bool false)
                | 31 => SP.eq (.bool true)
                | 32 => SP.eq (.bool true)
                | 33 => SP.eq (undef)
                | 34 => SP.eq (undef)
                | 35 => SP.eq (undef)
                | 36 => SP.eq (undef)
                | 37 => SP.eq (undef)
                | 38 => SP.eq (undef)
                | 39 => SP.eq (undef)
                | 40 => SP.eq (undef)
                | 41 => SP.eq (undef)
                | 42 => SP.eq (undef)
                | 43 => SP.eq (undef)
                | 44 => SP.eq (undef)
                | 45 => SP.eq (undef)
                | 46 => SP.eq (undef)
                | 47 => SP.eq (undef)
                | 48 => SP.eq (undef)
                | 49 => SP.eq (undef)
                | 50 => SP.eq (.bool true)
                | _ => SP.any) 21 (by kernel_rfl) 51 rfl (by kernel_rfl) ?_ ?_
              · skip
                refine ⟨?_, ?_, ?_, ?_, ?_, ?_, ?_, ?_, ?_, ?_, ?_, ?_, ?_, ?_, ?_, ?_, ?_, ?_, ?_, ?_, ?_, trivial⟩
                · intro act W2 hk
                  refine Flow.does_intro rfl (fun K hK => ?_)
                  have e4 : act.tmps[4]?.getD undef = .bool false := hk.o 4 (by kernel_rfl)
                  clear hk
                  go_simp
                  exact hK _ _ (Ext.refl _) (fun d hd => by cases hd; rfl)
                · intro act W2 hk
                  refine Flow.does_intro rfl (fun K hK => ?_)
                  have e30 : act.tmps[30]?.getD undef = .bool false := hk.v 30 (by kernel_rfl)
                  clear hk
                  go_simp
                  exact hK _ _ (Ext.refl _) (fun d hd => by cases hd; rfl)
                · intro act W2 hk
                  refine Flow.does_intro rfl (fun K hK => ?_)
                  have e31 : act.tmps[31]?.getD undef = .bool true := hk.v 31 (by kernel_rfl)
                  clear hk
                  go_simp
                  exact hK _ _ (Ext.refl _) (fun d hd => by cases hd; rfl)
                · intro act W2 hk
                  have eg : act.tmps[32]?.getD undef = .bool true := hk.v 32 (by kernel_rfl)
                  exact Flow.does_skip (wanted_no rfl rfl eg) (fun d hd => by cases hd; rfl)
                · intro act W2 hk
                  have eg : act.tmps[32]?.getD undef = .bool true := hk.v 32 (by kernel_rfl)
                  exact Flow.does_skip (wanted_no rfl rfl eg) (fun d hd => by cases hd; rfl)
                · intro act W2 hk
                  have eg : act.tmps[32]?.getD undef = .bool true := hk.v 32 (by kernel_rfl)
                  exact Flow.does_skip (wanted_no rfl rfl eg) (fun d hd => by cases hd; rfl)
                · intro act W2 hk
                  have eg : act.tmps[35]?.getD undef = undef := hk.v 35 (by kernel_rfl)
                  exact Flow.does_skip (wanted_off rfl rfl eg) (fun d hd => by cases hd; rfl)
                · intro act W2 hk
                  have eg : act.tmps[35]?.getD undef = undef := hk.v 35 (by kernel_rfl)
                  exact Flow.does_skip (wanted_off rfl rfl eg) (fun d hd => by cases hd; rfl)
                · intro act W2 hk
                  have eg : act.tmps[35]?.getD undef = undef := hk.v 35 (by kernel_rfl)
                  exact Flow.does_skip (wanted_off rfl rfl eg) (fun d hd => by cases hd; rfl)
                · intro act W2 hk
                  have eg : act.tmps[35]?.getD undef = undef := hk.v 35 (by kernel_rfl)
                  exact Flow.does_skip (wanted_off rfl rfl eg) (fun d hd => by cases hd; rfl)
                · intro act W2 hk
                  have eg : act.tmps[35]?.getD undef = undef := hk.v 35 (by kernel_rfl)
                  exact Flow.does_skip (wanted_off rfl rfl eg) (fun d hd => by cases hd; rfl)
                · intro act W2 hk
                  have eg : act.tmps[35]?.getD undef = undef := hk.v 35 (by kernel_rfl)
                  exact Flow.does_skip (wanted_off rfl rfl eg) (fun d hd => by cases hd; rfl)
                · intro act W2 hk
                  have eg : act.tmps[35]?.getD undef = undef := hk.v 35 (by kernel_rfl)
                  exact Flow.does_skip (wanted_off rfl rfl eg) (fun d hd => by cases hd; rfl)
                · intro act W2 hk
                  have eg : act.tmps[35]?.getD undef = undef := hk.v 35 (by kernel_rfl)
                  exact Flow.does_skip (wanted_off rfl rfl eg) (fun d hd => by cases hd; rfl)
                · intro act W2 hk
                  have eg : act.tmps[35]?.getD undef = undef := hk.v 35 (by kernel_rfl)
                  exact Flow.does_skip (wanted_off rfl rfl eg) (fun d hd => by cases hd; rfl)
                · intro act W2 hk
                  have eg : act.tmps[35]?.getD undef = undef := hk.v 35 (by kernel_rfl)
                  exact Flow.does_skip (wanted_off rfl rfl eg) (fun d hd => by cases hd; rfl)
                · intro act W2 hk
                  have eg : act.tmps[35]?.getD undef = undef := hk.v 35 (by kernel_rfl)
                  exact Flow.does_skip (wanted_off rfl rfl eg) (fun d hd => by cases hd; rfl)
                · intro act W2 hk
                  have eg : act.tmps[35]?.getD undef = undef := hk.v 35 (by kernel_rfl)
                  exact Flow.does_skip (wanted_off rfl rfl eg) (fun d hd => by cases hd; rfl)
                · intro act W2 hk
                  have eg : act.tmps[35]?.getD undef = undef := hk.v 35 (by kernel_rfl)
                  exact Flow.does_skip (wanted_off rfl rfl eg) (fun d hd => by cases hd; rfl)
                · intro act W2 hk
                  have eg : act.tmps[32]?.getD undef = .bool true := hk.v 32 (by kernel_rfl)
                  exact Flow.does_skip (wanted_no rfl rfl eg) (fun d hd => by cases hd; rfl)
                · intro act W2 hk
                  refine Flow.does_intro rfl (fun K hK => ?_)
                  have e32 : act.tmps[32]?.getD undef = .bool true := hk.v 32 (by kernel_rfl)
                  clear hk
                  go_simp
                  exact hK _ _ (Ext.refl _) (fun d hd => by cases hd; rfl)
              · intro act W2 he
                have hxW2 := Hd.mk ((Ext.drew W0).trans he.ext)
                obtain ⟨us, hA, hF⟩ := he.out [30, 31, 32, 33, 34, 35, 36, 37, 38, 39, 40, 41, 42, 43, 44, 45, 46, 47, 48, 49, 50] (by kernel_rfl)
                simp only [Flow.fillL, List.contains_cons, List.contains_nil, Nat.reduceBEq, Bool.or_false, Bool.false_or, Bool.or_true, Bool.true_or, ↓reduceIte, Nat.reduceAdd, Bool.false_eq_true] at hA
                subst hA
                have f50 : us 50 = .bool true := hF 50 (by simp)
                clear hF he
                rw [f50]
                clear f50
                refine (show wpList _ _ _ [] _ _ from ?_)
                go_wp2_with fail
                go_ret
                exact ⟨rfl, (kx.out.trans hxr.out).trans hxW2.out⟩
            | true =>
              by_cases hj0 : j = 0
              · subst hj0
                go_wp2_with fail
                refine Flow.wp_region_flow_l (fun t => match t with
                  | 30 => SP.eq (.bool true)
                  | 31 => SP.eq (.bool false)
                  | 32 => SP.eq (.bool false)
                  | 33 => SP.eq (.int .i64 ((0 : Nat) : Int))
                  | 34 => SP.eq (.bool false)
                  | 35 => SP.eq (.bool false)
                  | 36 => SP.eq (undef)
                  | 37 => SP.eq (undef)
                  | 38 => SP.eq (undef)
                  | 39 => SP.eq (undef)
                  | 40 => SP.eq (undef)
                  | 41 => SP.eq (undef)
                  | 42 => SP.eq (undef)
                  | 43 => SP.eq (undef)
                  | 44 => SP.eq (undef)
                  | 45 => SP.eq (undef)
                  | 46 => SP.eq (undef)
                  | 47 => SP.eq (undef)
                  | 48 => SP.eq (undef)
                  | 49 => SP.eq (.bool false)
                  | 50 => SP.eq (.bool false)
                  | _ => SP.any) 21 (by kernel_rfl) 51 rfl (by kernel_rfl) ?_ ?_
                · skip
                  refine ⟨?_, ?_, ?_, ?_, ?_, ?_, ?_, ?_, ?_, ?_, ?_, ?_, ?_, ?_, ?_, ?_, ?_, ?_, ?_, ?_, ?_, trivial⟩
                  · intro act W2 hk
                    refine Flow.does_intro rfl (fun K hK => ?_)
                    have e4 : act.tmps[4]?.getD undef = .bool true := hk.o 4 (by kernel_rfl)
                    clear hk
                    go_simp
                    exact hK _ _ (Ext.refl _) (fun d hd => by cases hd; rfl)
                  · intro act W2 hk
                    refine Flow.does_intro rfl (fun K hK => ?_)
                    have e30 : act.tmps[30]?.getD undef = .bool true := hk.v 30 (by kernel_rfl)
                    clear hk
                    go_simp
                    exact hK _ _ (Ext.refl _) (fun d hd => by cases hd; rfl)
                  · intro act W2 hk
                    refine Flow.does_intro rfl (fun K hK => ?_)
                    have e31 : act.tmps[31]?.getD undef = .bool false := hk.v 31 (by kernel_rfl)
                    clear hk
                    go_simp
                    exact hK _ _ (Ext.refl _) (fun d hd => by cases hd; rfl)
                  · intro act W2 hk
                    have eg : act.tmps[32]?.getD undef = .bool false := hk.v 32 (by kernel_rfl)
                    refine Flow.does_intro (wanted_yes rfl rfl eg) (fun K hK => ?_)
                    clear eg
                    have e3 : act.tmps[3]?.getD undef = .int .i64 ((0 : Nat) : Int) := hk.o 3 (by kernel_rfl)
                    clear hk
                    go_simp
                    exact hK _ _ (Ext.refl _) (fun d hd => by cases hd; rfl)
                  · intro act W2 hk
                    have eg : act.tmps[32]?.getD undef = .bool false := hk.v 32 (by kernel_rfl)
                    refine Flow.does_intro (wanted_yes rfl rfl eg) (fun K hK => ?_)
                    clear eg
                    have e33 : act.tmps[33]?.getD undef = .int .i64 ((0 : Nat) : Int) := hk.v 33 (by kernel_rfl)
                    clear hk
                    go_simp
                    exact hK _ _ (Ext.refl _) (fun d hd => by cases hd; rfl)
                  · intro act W2 hk
                    have eg : act.tmps[32]?.getD undef = .bool false := hk.v 32 (by kernel_rfl)
                    refine Flow.does_intro (wanted_yes rfl rfl eg) (fun K hK => ?_)
                    clear eg
                    have e34 : act.tmps[34]?.getD undef = .bool false := hk.v 34 (by kernel_rfl)
                    clear hk
                    go_simp
                    exact hK _ _ (Ext.refl _) (fun d hd => by cases hd; rfl)
                  · intro act W2 hk
                    have eg : act.tmps[35]?.getD undef = .bool false := hk.v 35 (by kernel_rfl)
                    exact Flow.does_skip (wanted_no rfl rfl eg) (fun d hd => by cases hd; rfl)
                  · intro act W2 hk
                    have eg : act.tmps[35]?.getD undef = .bool false := hk.v 35 (by kernel_rfl)
                    exact Flow.does_skip (wanted_no rfl rfl eg) (fun d hd => by cases hd; rfl)
                  · intro act W2 hk
                    have eg : act.tmps[35]?.getD undef = .bool false := hk.v 35 (by kernel_rfl)
                    exact Flow.does_skip (wanted_no rfl rfl eg) (fun d hd => by cases hd; rfl)
                  · intro act W2 hk
                    have eg : act.tmps[35]?.getD undef = .bool false := hk.v 35 (by kernel_rfl)
                    exact Flow.does_skip (wanted_no rfl rfl eg) (fun d hd => by cases hd; rfl)
                  · intro act W2 hk
                    have eg : act.tmps[35]?.getD undef = .bool false := hk.v 35 (by kernel_rfl)
                    exact Flow.does_skip (wanted_no rfl rfl eg) (fun d hd => by cases hd; rfl)
                  · intro act W2 hk
                    have eg : act.tmps[35]?.getD undef = .bool false := hk.v 35 (by kernel_rfl)
                    exact Flow.does_skip (wanted_no rfl rfl eg) (fun d hd => by cases hd; rfl)
                  · intro act W2 hk
                    have eg : act.tmps[35]?.getD undef = .bool false := hk.v 35 (by kernel_rfl)
                    exact Flow.does_skip (wanted_no rfl rfl eg) (fun d hd => by cases hd; rfl)
                  · intro act W2 hk
                    have eg : act.tmps[35]?.getD undef = .bool false := hk.v 35 (by kernel_rfl)
                    exact Flow.does_skip (wanted_no rfl rfl eg) (fun d hd => by cases hd; rfl)
                  · intro act W2 hk
                    have eg : act.tmps[35]?.getD undef = .bool false := hk.v 35 (by kernel_rfl)
                    exact Flow.does_skip (wanted_no rfl rfl eg) (fun d hd => by cases hd; rfl)
                  · intro act W2 hk
                    have eg : act.tmps[35]?.getD undef = .bool false := hk.v 35 (by kernel_rfl)
                    exact Flow.does_skip (wanted_no rfl rfl eg) (fun d hd => by cases hd; rfl)
                  · intro act W2 hk
                    have eg : act.tmps[35]?.getD undef = .bool false := hk.v 35 (by kernel_rfl)
                    exact Flow.does_skip (wanted_no rfl rfl eg) (fun d hd => by cases hd; rfl)
                  · intro act W2 hk
                    have eg : act.tmps[35]?.getD undef = .bool false := hk.v 35 (by kernel_rfl)
                    exact Flow.does_skip (wanted_no rfl rfl eg) (fun d hd => by cases hd; rfl)
                  · intro act W2 hk
                    have eg : act.tmps[35]?.getD undef = .bool false := hk.v 35 (by kernel_rfl)
                    exact Flow.does_skip (wanted_no rfl rfl eg) (fun d hd => by cases hd; rfl)
                  · intro act W2 hk
                    have eg : act.tmps[32]?.getD undef = .bool false := hk.v 32 (by kernel_rfl)
                    refine Flow.does_intro (wanted_yes rfl rfl eg) (fun K hK => ?_)
                    clear eg
                    have e35 : act.tmps[35]?.getD undef = .bool false := hk.v 35 (by kernel_rfl)
                    clear hk
                    go_simp
                    exact hK _ _ (Ext.refl _) (fun d hd => by cases hd; rfl)
                  · intro act W2 hk
                    refine Flow.does_intro rfl (fun K hK => ?_)
                    have e32 : act.tmps[32]?.getD undef = .bool false := hk.v 32 (by kernel_rfl)
                    have e49 : act.tmps[49]?.getD undef = .bool false := hk.v 49 (by kernel_rfl)
                    clear hk
                    go_simp
                    exact hK _ _ (Ext.refl _) (fun d hd => by cases hd; rfl)
                · intro act W2 he
                  have hxW2 := Hd.mk ((Ext.drew W0).trans he.ext)
                  obtain ⟨us, hA, hF⟩ := he.out [30, 31, 32, 33, 34, 35, 36, 37, 38, 39, 40, 41, 42, 43, 44, 45, 46, 47, 48, 49, 50] (by kernel_rfl)
                  simp only [Flow.fillL, List.contains_cons, List.contains_nil, Nat.reduceBEq, Bool.or_false, Bool.false_or, Bool.or_true, Bool.true_or, ↓reduceIte, Nat.reduceAdd, Bool.false_eq_true] at hA
                  subst hA
                  have f50 : us 50 = .bool false := hF 50 (by simp)
                  clear hF he
                  rw [f50]
                  clear f50
                  refine (show wpList _ _ _ [] _ _ from ?_)
                  go_wp2_with fail
                  go_roundg (l.length + 1 - (0 + 1))
                  case measure => have := hq.out; omega
                  case rel => exact ⟨0 + 1, by omega, ⟨rfl⟩, by go_num, ⟨by rw [hI.out, hdrop.out, hs]; rfl⟩, ⟨hxr.out.trans hxW2.out⟩⟩
              · obtain ⟨p, hp⟩ : ∃ p, j = p + 1 := ⟨j - 1, by omega⟩
                have hpl : p < l.length := by omega
                have hx0 := List.getElem?_eq_getElem hpl
                generalize l[p] = y at hx0
                have hprev : prevOf l j = some y := by rw [prevOf, if_neg hj0, hp]; exact hx0
                obtain ⟨b2, o2, dk, he2, _, hrd, hdk⟩ := kr1.out.kid p y hx0
                simp only [Option.some.injEq, Addr.mk.injEq, and_true] at he2
                obtain ⟨rfl, rfl⟩ := he2
                obtain ⟨K4, c4, rfl, _⟩ := hrd.row
                have kcx := Hd.mk (fun (q : Nat) v (hv : (cT x.name x.key x.kind x.num x.text K3 x.kids.length c3)[q]? = some v) => Ext.cell (kx.out.trans hxr.out) (hck q v hv))
                have kcy := Hd.mk (fun (q : Nat) v (hv : (cT y.name y.key y.kind y.num y.text K4 y.kids.length c4)[q]? = some v) => Ext.cell (kx.out.trans hxr.out) (hdk q v hv))
                simp only [cT] at kcx kcy
                have hless := Hd.mk (fun w => ref_less y x K4 K3 y.kids.length c4 x.kids.length c3 w)
                simp only [cT] at hless
                replace hp := Hd.mk hp
                replace hpl := Hd.mk hpl
                clear hck hdk hrk hrd hx1 hx0 hj0
                go_wp2_with fail
                cases hle : lessT y x with
                | true =>
                  refine Flow.wp_region_flow_l (fun t => match t with
                    | 30 => SP.eq (.bool true)
                    | 31 => SP.eq (.bool false)
                    | 32 => SP.eq (.bool false)
                    | 33 => SP.eq (.int .i64 (j : Nat))
                    | 34 => SP.eq (.bool true)
                    | 35 => SP.eq (.bool true)
                    | 36 => SP.eq (.pointer (some ⟨pA, 5, none⟩))
                    | 37 => SP.eq (.slice (some ⟨b1, o1, none⟩) l.length c1)
                    | 38 => SP.eq (.int .i64 (j : Nat))
                    | 39 => SP.eq (.int .i64 (p : Nat))
                    | 40 => SP.eq (.pointer (some ⟨b1, o1 + p * 6, none⟩))
                    | 41 => SP.eq (.agg #[.string y.name, .string y.key, .int .i64 y.kind, .int .u64 y.num, .string y.text, .slice K4 y.kids.length c4])
                    | 42 => SP.eq (.pointer (some ⟨pA, 5, none⟩))
                    | 43 => SP.eq (.slice (some ⟨b1, o1, none⟩) l.length c1)
                    | 44 => SP.eq (.int .i64 (j : Nat))
                    | 45 => SP.eq (.pointer (some ⟨b1, o1 + j * 6, none⟩))
                    | 46 => SP.eq (.agg #[.string x.name, .string x.key, .int .i64 x.kind, .int .u64 x.num, .string x.text, .slice K3 x.kids.length c3])
                    | 47 => SP.eq (.bool true)
                    | 48 => SP.eq (.bool false)
                    | 49 => SP.eq (.bool false)
                    | 50 => SP.eq (.bool false)
                    | _ => SP.any) 21 (by kernel_rfl) 51 rfl (by kernel_rfl) ?_ ?_
                  · skip
                    refine ⟨?_, ?_, ?_, ?_, ?_, ?_, ?_, ?_, ?_, ?_, ?_, ?_, ?_, ?_, ?_, ?_, ?_, ?_, ?_, ?_, ?_, trivial⟩
                    · intro act W2 hk
                      refine Flow.does_intro rfl (fun K hK => ?_)
                      have e4 : act.tmps[4]?.getD undef = .bool true := hk.o 4 (by kernel_rfl)
                      clear hk
                      go_simp
                      exact hK _ _ (Ext.refl _) (fun d hd => by cases hd; rfl)
                    · intro act W2 hk
                      refine Flow.does_intro rfl (fun K hK => ?_)
                      have e30 : act.tmps[30]?.getD undef = .bool true := hk.v 30 (by kernel_rfl)
                      clear hk
                      go_simp
                      exact hK _ _ (Ext.refl _) (fun d hd => by cases hd; rfl)
                    · intro act W2 hk
                      refine Flow.does_intro rfl (fun K hK => ?_)
                      have e31 : act.tmps[31]?.getD undef = .bool false := hk.v 31 (by kernel_rfl)
                      clear hk
                      go_simp
                      exact hK _ _ (Ext.refl _) (fun d hd => by cases hd; rfl)
                    · intro act W2 hk
                      have eg : act.tmps[32]?.getD undef = .bool false := hk.v 32 (by kernel_rfl)
                      refine Flow.does_intro (wanted_yes rfl rfl eg) (fun K hK => ?_)
                      clear eg
                      have e3 : act.tmps[3]?.getD undef = .int .i64 (j : Nat) := hk.o 3 (by kernel_rfl)
                      clear hk
                      go_simp
                      exact hK _ _ (Ext.refl _) (fun d hd => by cases hd; rfl)
                    · intro act W2 hk
                      have eg : act.tmps[32]?.getD undef = .bool false := hk.v 32 (by kernel_rfl)
                      refine Flow.does_intro (wanted_yes rfl rfl eg) (fun K hK => ?_)
                      clear eg
                      have e33 : act.tmps[33]?.getD undef = .int .i64 (j : Nat) := hk.v 33 (by kernel_rfl)
                      clear hk
                      go_simp
                      exact hK _ _ (Ext.refl _) (fun d hd => by cases hd; have h1 := hp.out; simp [SP.eq]; omega)
                    · intro act W2 hk
                      have eg : act.tmps[32]?.getD undef = .bool false := hk.v 32 (by kernel_rfl)
                      refine Flow.does_intro (wanted_yes rfl rfl eg) (fun K hK => ?_)
                      clear eg
                      have e34 : act.tmps[34]?.getD undef = .bool true := hk.v 34 (by kernel_rfl)
                      clear hk
                      go_simp
                      exact hK _ _ (Ext.refl _) (fun d hd => by cases hd; rfl)
                    · intro act W2 hk
                      have eg : act.tmps[35]?.getD undef = .bool true := hk.v 35 (by kernel_rfl)
                      refine Flow.does_intro (wanted_yes rfl rfl eg) (fun K hK => ?_)
                      clear eg
                      have e1 : act.tmps[1]?.getD undef = .pointer (some ⟨pA, 0, none⟩) := hk.o 1 (by kernel_rfl)
                      clear hk
                      go_simp
                      exact hK _ _ (Ext.refl _) (fun d hd => by cases hd; rfl)
                    · intro act W2 hk
                      have eg : act.tmps[35]?.getD undef = .bool true := hk.v 35 (by kernel_rfl)
                      refine Flow.does_intro (wanted_yes rfl rfl eg) (fun K hK => ?_)
                      clear eg
                      have e36 : act.tmps[36]?.getD undef = .pointer (some ⟨pA, 5, none⟩) := hk.v 36 (by kernel_rfl)
                      have g := ((kA2.out).ext ((Ext.drew W0).trans hk.ext)).cell
                      clear hk
                      go_simp
                      exact hK _ _ (Ext.refl _) (fun d hd => by cases hd; rfl)
                    · intro act W2 hk
                      have eg : act.tmps[35]?.getD undef = .bool true := hk.v 35 (by kernel_rfl)
                      refine Flow.does_intro (wanted_yes rfl rfl eg) (fun K hK => ?_)
                      clear eg
                      have e3 : act.tmps[3]?.getD undef = .int .i64 (j : Nat) := hk.o 3 (by kernel_rfl)
                      clear hk
                      go_simp
                      exact hK _ _ (Ext.refl _) (fun d hd => by cases hd; rfl)
                    · intro act W2 hk
                      have eg : act.tmps[35]?.getD undef = .bool true := hk.v 35 (by kernel_rfl)
                      refine Flow.does_intro (wanted_yes rfl rfl eg) (fun K hK => ?_)
                      clear eg
                      have e38 : act.tmps[38]?.getD undef = .int .i64 (j : Nat) := hk.v 38 (by kernel_rfl)
                      clear hk
                      go_simp
                      exact hK _ _ (Ext.refl _) (fun d hd => by cases hd; have h1 := hp.out; have h2 := hpl.out; simp [SP.eq]; first | omega | (rw [IntKind.wrap_i64]; omega))
                    · intro act W2 hk
                      have eg : act.tmps[35]?.getD undef = .bool true := hk.v 35 (by kernel_rfl)
                      refine Flow.does_intro (wanted_yes rfl rfl eg) (fun K hK => ?_)
                      clear eg
                      have e37 : act.tmps[37]?.getD undef = .slice (some ⟨b1, o1, none⟩) l.length c1 := hk.v 37 (by kernel_rfl)
                      have e39 : act.tmps[39]?.getD undef = .int .i64 (p : Nat) := hk.v 39 (by kernel_rfl)
                      have hpl2 := hpl.out
                      clear hk
                      go_simp
                      exact hK _ _ (Ext.refl _) (fun d hd => by cases hd; rfl)
                    · intro act W2 hk
                      have eg : act.tmps[35]?.getD undef = .bool true := hk.v 35 (by kernel_rfl)
                      refine Flow.does_intro (wanted_yes rfl rfl eg) (fun K hK => ?_)
                      clear eg
                      have e40 : act.tmps[40]?.getD undef = .pointer (some ⟨b1, o1 + p * 6, none⟩) := hk.v 40 (by kernel_rfl)
                      have g0 := Ext.cell ((Ext.drew W0).trans hk.ext) ((kcy.out) 0 _ rfl)
                      rw [Nat.add_zero] at g0
                      have g1 := Ext.cell ((Ext.drew W0).trans hk.ext) ((kcy.out) 1 _ rfl)
                      have g2 := Ext.cell ((Ext.drew W0).trans hk.ext) ((kcy.out) 2 _ rfl)
                      have g3 := Ext.cell ((Ext.drew W0).trans hk.ext) ((kcy.out) 3 _ rfl)
                      have g4 := Ext.cell ((Ext.drew W0).trans hk.ext) ((kcy.out) 4 _ rfl)
                      have g5 := Ext.cell ((Ext.drew W0).trans hk.ext) ((kcy.out) 5 _ rfl)
                      clear hk
                      go_simp
                      exact hK _ _ (Ext.refl _) (fun d hd => by cases hd; rfl)
                    · intro act W2 hk
                      have eg : act.tmps[35]?.getD undef = .bool true := hk.v 35 (by kernel_rfl)
                      refine Flow.does_intro (wanted_yes rfl rfl eg) (fun K hK => ?_)
                      clear eg
                      have e1 : act.tmps[1]?.getD undef = .pointer (some ⟨pA, 0, none⟩) := hk.o 1 (by kernel_rfl)
                      clear hk
                      go_simp
                      exact hK _ _ (Ext.refl _) (fun d hd => by cases hd; rfl)
                    · intro act W2 hk
                      have eg : act.tmps[35]?.getD undef = .bool true := hk.v 35 (by kernel_rfl)
                      refine Flow.does_intro (wanted_yes rfl rfl eg) (fun K hK => ?_)
                      clear eg
                      have e42 : act.tmps[42]?.getD undef = .pointer (some ⟨pA, 5, none⟩) := hk.v 42 (by kernel_rfl)
                      have g := ((kA2.out).ext ((Ext.drew W0).trans hk.ext)).cell
                      clear hk
                      go_simp
                      exact hK _ _ (Ext.refl _) (fun d hd => by cases hd; rfl)
                    · intro act W2 hk
                      have eg : act.tmps[35]?.getD undef = .bool true := hk.v 35 (by kernel_rfl)
                      refine Flow.does_intro (wanted_yes rfl rfl eg) (fun K hK => ?_)
                      clear eg
                      have e3 : act.tmps[3]?.getD undef = .int .i64 (j : Nat) := hk.o 3 (by kernel_rfl)
                      clear hk
                      go_simp
                      exact hK _ _ (Ext.refl _) (fun d hd => by cases hd; rfl)
                    · intro act W2 hk
                      have eg : act.tmps[35]?.getD undef = .bool true := hk.v 35 (by kernel_rfl)
                      refine Flow.does_intro (wanted_yes rfl rfl eg) (fun K hK => ?_)
                      clear eg
                      have e43 : act.tmps[43]?.getD undef = .slice (some ⟨b1, o1, none⟩) l.length c1 := hk.v 43 (by kernel_rfl)
                      have e44 : act.tmps[44]?.getD undef = .int .i64 (j : Nat) := hk.v 44 (by kernel_rfl)
                      clear hk
                      go_simp
                      exact hK _ _ (Ext.refl _) (fun d hd => by cases hd; rfl)
                    · intro act W2 hk
                      have eg : act.tmps[35]?.getD undef = .bool true := hk.v 35 (by kernel_rfl)
                      refine Flow.does_intro (wanted_yes rfl rfl eg) (fun K hK => ?_)
                      clear eg
                      have e45 : act.tmps[45]?.getD undef = .pointer (some ⟨b1, o1 + j * 6, none⟩) := hk.v 45 (by kernel_rfl)
                      have g0 := Ext.cell ((Ext.drew W0).trans hk.ext) ((kcx.out) 0 _ rfl)
                      rw [Nat.add_zero] at g0
                      have g1 := Ext.cell ((Ext.drew W0).trans hk.ext) ((kcx.out) 1 _ rfl)
                      have g2 := Ext.cell ((Ext.drew W0).trans hk.ext) ((kcx.out) 2 _ rfl)
                      have g3 := Ext.cell ((Ext.drew W0).trans hk.ext) ((kcx.out) 3 _ rfl)
                      have g4 := Ext.cell ((Ext.drew W0).trans hk.ext) ((kcx.out) 4 _ rfl)
                      have g5 := Ext.cell ((Ext.drew W0).trans hk.ext) ((kcx.out) 5 _ rfl)
                      clear hk
                      go_simp
                      exact hK _ _ (Ext.refl _) (fun d hd => by cases hd; rfl)
                    · intro act W2 hk
                      have eg : act.tmps[35]?.getD undef = .bool true := hk.v 35 (by kernel_rfl)
                      refine Flow.does_intro (wanted_yes rfl rfl eg) (fun K hK => ?_)
                      clear eg
                      have e41 : act.tmps[41]?.getD undef = .agg #[.string y.name, .string y.key, .int .i64 y.kind, .int .u64 y.num, .string y.text, .slice K4 y.kids.length c4] := hk.v 41 (by kernel_rfl)
                      have e46 : act.tmps[46]?.getD undef = .agg #[.string x.name, .string x.key, .int .i64 x.kind, .int .u64 x.num, .string x.text, .slice K3 x.kids.length c3] := hk.v 46 (by kernel_rfl)
                      clear hk
                      go_simp
                      refine Calls.mono (hless.out _) ?_
                      rintro e W3 ⟨rfl, hx⟩
                      exact hK _ _ hx (fun d hd => by cases hd; exact congrArg Value.bool hle)
                    · intro act W2 hk
                      have eg : act.tmps[35]?.getD undef = .bool true := hk.v 35 (by kernel_rfl)
                      refine Flow.does_intro (wanted_yes rfl rfl eg) (fun K hK => ?_)
                      clear eg
                      have e47 : act.tmps[47]?.getD undef = .bool true := hk.v 47 (by kernel_rfl)
                      clear hk
                      go_simp
                      exact hK _ _ (Ext.refl _) (fun d hd => by cases hd; rfl)
                    · intro act W2 hk
                      have eg : act.tmps[32]?.getD undef = .bool false := hk.v 32 (by kernel_rfl)
                      refine Flow.does_intro (wanted_yes rfl rfl eg) (fun K hK => ?_)
                      clear eg
                      have e35 : act.tmps[35]?.getD undef = .bool true := hk.v 35 (by kernel_rfl)
                      have e48 : act.tmps[48]?.getD undef = .bool false := hk.v 48 (by kernel_rfl)
                      clear hk
                      go_simp
                      exact hK _ _ (Ext.refl _) (fun d hd => by cases hd; rfl)
                    · intro act W2 hk
                      refine Flow.does_intro rfl (fun K hK => ?_)
                      have e32 : act.tmps[32]?.getD undef = .bool false := hk.v 32 (by kernel_rfl)
                      have e49 : act.tmps[49]?.getD undef = .bool false := hk.v 49 (by kernel_rfl)
                      clear hk
                      go_simp
                      exact hK _ _ (Ext.refl _) (fun d hd => by cases hd; rfl)
                  · intro act W2 he
                    have hxW2 := Hd.mk ((Ext.drew W0).trans he.ext)
                    obtain ⟨us, hA, hF⟩ := he.out [30, 31, 32, 33, 34, 35, 36, 37, 38, 39, 40, 41, 42, 43, 44, 45, 46, 47, 48, 49, 50] (by kernel_rfl)
                    simp only [Flow.fillL, List.contains_cons, List.contains_nil, Nat.reduceBEq, Bool.or_false, Bool.false_or, Bool.or_true, Bool.true_or, ↓reduceIte, Nat.reduceAdd, Bool.false_eq_true] at hA
                    subst hA
                    have f50 : us 50 = .bool false := hF 50 (by simp)
                    clear hF he
                    rw [f50]
                    clear f50
                    refine (show wpList _ _ _ [] _ _ from ?_)
                    go_wp2_with fail
                    go_roundg (l.length + 1 - (j + 1))
                    case measure => have := hq.out; omega
                    case rel => exact ⟨j + 1, by omega, ⟨rfl⟩, by go_num, ⟨by rw [hI.out, hdrop.out, hs, hprev]; simp [hle]⟩, ⟨hxr.out.trans hxW2.out⟩⟩
                | false =>
                  have hr0 : r = false := by rw [hI.out, hdrop.out, hs, hprev]; simp [hle]
                  subst hr0
                  refine Flow.wp_region_flow_l (fun t => match t with
                    | 30 => SP.eq (.bool true)
                    | 31 => SP.eq (.bool false)
                    | 32 => SP.eq (.bool false)
                    | 33 => SP.eq (.int .i64 (j : Nat))
                    | 34 => SP.eq (.bool true)
                    | 35 => SP.eq (.bool true)
                    | 36 => SP.eq (.pointer (some ⟨pA, 5, none⟩))
                    | 37 => SP.eq (.slice (some ⟨b1, o1, none⟩) l.length c1)
                    | 38 => SP.eq (.int .i64 (j : Nat))
                    | 39 => SP.eq (.int .i64 (p : Nat))
                    | 40 => SP.eq (.pointer (some ⟨b1, o1 + p * 6, none⟩))
                    | 41 => SP.eq (.agg #[.string y.name, .string y.key, .int .i64 y.kind, .int .u64 y.num, .string y.text, .slice K4 y.kids.length c4])
                    | 42 => SP.eq (.pointer (some ⟨pA, 5, none⟩))
                    | 43 => SP.eq (.slice (some ⟨b1, o1, none⟩) l.length c1)
                    | 44 => SP.eq (.int .i64 (j : Nat))
                    | 45 => SP.eq (.pointer (some ⟨b1, o1 + j * 6, none⟩))
                    | 46 => SP.eq (.agg #[.string x.name, .string x.key, .int .i64 x.kind, .int .u64 x.num, .string x.text, .slice K3 x.kids.length c3])
                    | 47 => SP.eq (.bool false)
                    | 48 => SP.eq (.bool true)
                    | 49 => SP.eq (.bool true)
                    | 50 => SP.eq (.bool true)
                    | _ => SP.any) 21 (by kernel_rfl) 51 rfl (by kernel_rfl) ?_ ?_
                  · skip
                    refine ⟨?_, ?_, ?_, ?_, ?_, ?_, ?_, ?_, ?_, ?_, ?_, ?_, ?_, ?_, ?_, ?_, ?_, ?_, ?_, ?_, ?_, trivial⟩
                    · intro act W2 hk
                      refine Flow.does_intro rfl (fun K hK => ?_)
                      have e4 : act.tmps[4]?.getD undef = .bool true := hk.o 4 (by kernel_rfl)
                      clear hk
                      go_simp
                      exact hK _ _ (Ext.refl _) (fun d hd => by cases hd; rfl)
                    · intro act W2 hk
                      refine Flow.does_intro rfl (fun K hK => ?_)
                      have e30 : act.tmps[30]?.getD undef = .bool true := hk.v 30 (by kernel_rfl)
                      clear hk
                      go_simp
                      exact hK _ _ (Ext.refl _) (fun d hd => by cases hd; rfl)
                    · intro act W2 hk
                      refine Flow.does_intro rfl (fun K hK => ?_)
                      have e31 : act.tmps[31]?.getD undef = .bool false := hk.v 31 (by kernel_rfl)
                      clear hk
                      go_simp
                      exact hK _ _ (Ext.refl _) (fun d hd => by cases hd; rfl)
                    · intro act W2 hk
                      have eg : act.tmps[32]?.getD undef = .bool false := hk.v 32 (by kernel_rfl)
                      refine Flow.does_intro (wanted_yes rfl rfl eg) (fun K hK => ?_)
                      clear eg
                      have e3 : act.tmps[3]?.getD undef = .int .i64 (j : Nat) := hk.o 3 (by kernel_rfl)
                      clear hk
                      go_simp
                      exact hK _ _ (Ext.refl _) (fun d hd => by cases hd; rfl)
                    · intro act W2 hk
                      have eg : act.tmps[32]?.getD undef = .bool false := hk.v 32 (by kernel_rfl)
                      refine Flow.does_intro (wanted_yes rfl rfl eg) (fun K hK => ?_)
                      clear eg
                      have e33 : act.tmps[33]?.getD undef = .int .i64 (j : Nat) := hk.v 33 (by kernel_rfl)
                      clear hk
                      go_simp
                      exact hK _ _ (Ext.refl _) (fun d hd => by cases hd; have h1 := hp.out; simp [SP.eq]; omega)
                    · intro act W2 hk
                      have eg : act.tmps[32]?.getD undef = .bool false := hk.v 32 (by kernel_rfl)
                      refine Flow.does_intro (wanted_yes rfl rfl eg) (fun K hK => ?_)
                      clear eg
                      have e34 : act.tmps[34]?.getD undef = .bool true := hk.v 34 (by kernel_rfl)
                      clear hk
                      go_simp
                      exact hK _ _ (Ext.refl _) (fun d hd => by cases hd; rfl)
                    · intro act W2 hk
                      have eg : act.tmps[35]?.getD undef = .bool true := hk.v 35 (by kernel_rfl)
                      refine Flow.does_intro (wanted_yes rfl rfl eg) (fun K hK => ?_)
                      clear eg
                      have e1 : act.tmps[1]?.getD undef = .pointer (some ⟨pA, 0, none⟩) := hk.o 1 (by kernel_rfl)
                      clear hk
                      go_simp
                      exact hK _ _ (Ext.refl _) (fun d hd => by cases hd; rfl)
                    · intro act W2 hk
                      have eg : act.tmps[35]?.getD undef = .bool true := hk.v 35 (by kernel_rfl)
                      refine Flow.does_intro (wanted_yes rfl rfl eg) (fun K hK => ?_)
                      clear eg
                      have e36 : act.tmps[36]?.getD undef = .pointer (some ⟨pA, 5, none⟩) := hk.v 36 (by kernel_rfl)
                      have g := ((kA2.out).ext ((Ext.drew W0).trans hk.ext)).cell
                      clear hk
                      go_simp
                      exact hK _ _ (Ext.refl _) (fun d hd => by cases hd; rfl)
                    · intro act W2 hk
                      have eg : act.tmps[35]?.getD undef = .bool true := hk.v 35 (by kernel_rfl)
                      refine Flow.does_intro (wanted_yes rfl rfl eg) (fun K hK => ?_)
                      clear eg
                      have e3 : act.tmps[3]?.getD undef = .int .i64 (j : Nat) := hk.o 3 (by kernel_rfl)
                      clear hk
                      go_simp
                      exact hK _ _ (Ext.refl _) (fun d hd => by cases hd; rfl)
                    · intro act W2 hk
                      have eg : act.tmps[35]?.getD undef = .bool true := hk.v 35 (by kernel_rfl)
                      refine Flow.does_intro (wanted_yes rfl rfl eg) (fun K hK => ?_)
                      clear eg
                      have e38 : act.tmps[38]?.getD undef = .int .i64 (j : Nat) := hk.v 38 (by kernel_rfl)
                      clear hk
                      go_simp
                      exact hK _ _ (Ext.refl _) (fun d hd => by cases hd; have h1 := hp.out; have h2 := hpl.out; simp [SP.eq]; first | omega | (rw [IntKind.wrap_i64]; omega))
                    · intro act W2 hk
                      have eg : act.tmps[35]?.getD undef = .bool true := hk.v 35 (by kernel_rfl)
                      refine Flow.does_intro (wanted_yes rfl rfl eg) (fun K hK => ?_)
                      clear eg
                      have e37 : act.tmps[37]?.getD undef = .slice (some ⟨b1, o1, none⟩) l.length c1 := hk.v 37 (by kernel_rfl)
                      have e39 : act.tmps[39]?.getD undef = .int .i64 (p : Nat) := hk.v 39 (by kernel_rfl)
                      have hpl2 := hpl.out
                      clear hk
                      go_simp
                      exact hK _ _ (Ext.refl _) (fun d hd => by cases hd; rfl)
                    · intro act W2 hk
                      have eg : act.tmps[35]?.getD undef = .bool true := hk.v 35 (by kernel_rfl)
                      refine Flow.does_intro (wanted_yes rfl rfl eg) (fun K hK => ?_)
                      clear eg
                      have e40 : act.tmps[40]?.getD undef = .pointer (some ⟨b1, o1 + p * 6, none⟩) := hk.v 40 (by kernel_rfl)
                      have g0 := Ext.cell ((Ext.drew W0).trans hk.ext) ((kcy.out) 0 _ rfl)
                      rw [Nat.add_zero] at g0
                      have g1 := Ext.cell ((Ext.drew W0).trans hk.ext) ((kcy.out) 1 _ rfl)
                      have g2 := Ext.cell ((Ext.drew W0).trans hk.ext) ((kcy.out) 2 _ rfl)
                      have g3 := Ext.cell ((Ext.drew W0).trans hk.ext) ((kcy.out) 3 _ rfl)
                      have g4 := Ext.cell ((Ext.drew W0).trans hk.ext) ((kcy.out) 4 _ rfl)
                      have g5 := Ext.cell ((Ext.drew W0).trans hk.ext) ((kcy.out) 5 _ rfl)
                      clear hk
                      go_simp
                      exact hK _ _ (Ext.refl _) (fun d hd => by cases hd; rfl)
                    · intro act W2 hk
                      have eg : act.tmps[35]?.getD undef = .bool true := hk.v 35 (by kernel_rfl)
                      refine Flow.does_intro (wanted_yes rfl rfl eg) (fun K hK => ?_)
                      clear eg
                      have e1 : act.tmps[1]?.getD undef = .pointer (some ⟨pA, 0, none⟩) := hk.o 1 (by kernel_rfl)
                      clear hk
                      go_simp
                      exact hK _ _ (Ext.refl _) (fun d hd => by cases hd; rfl)
                    · intro act W2 hk
                      have eg : act.tmps[35]?.getD undef = .bool true := hk.v 35 (by kernel_rfl)
                      refine Flow.does_intro (wanted_yes rfl rfl eg) (fun K hK => ?_)
                      clear eg
                      have e42 : act.tmps[42]?.getD undef = .pointer (some ⟨pA, 5, none⟩) := hk.v 42 (by kernel_rfl)
                      have g := ((kA2.out).ext ((Ext.drew W0).trans hk.ext)).cell
                      clear hk
                      go_simp
                      exact hK _ _ (Ext.refl _) (fun d hd => by cases hd; rfl)
                    · intro act W2 hk
                      have eg : act.tmps[35]?.getD undef = .bool true := hk.v 35 (by kernel_rfl)
                      refine Flow.does_intro (wanted_yes rfl rfl eg) (fun K hK => ?_)
                      clear eg
                      have e3 : act.tmps[3]?.getD undef = .int .i64 (j : Nat) := hk.o 3 (by kernel_rfl)
                      clear hk
                      go_simp
                      exact hK _ _ (Ext.refl _) (fun d hd => by cases hd; rfl)
                    · intro act W2 hk
                      have eg : act.tmps[35]?.getD undef = .bool true := hk.v 35 (by kernel_rfl)
                      refine Flow.does_intro (wanted_yes rfl rfl eg) (fun K hK => ?_)
                      clear eg
                      have e43 : act.tmps[43]?.getD undef = .slice (some ⟨b1, o1, none⟩) l.length c1 := hk.v 43 (by kernel_rfl)
                      have e44 : act.tmps[44]?.getD undef = .int .i64 (j : Nat) := hk.v 44 (by kernel_rfl)
                      clear hk
                      go_simp
                      exact hK _ _ (Ext.refl _) (fun d hd => by cases hd; rfl)
                    · intro act W2 hk
                      have eg : act.tmps[35]?.getD undef = .bool true := hk.v 35 (by kernel_rfl)
                      refine Flow.does_intro (wanted_yes rfl rfl eg) (fun K hK => ?_)
                      clear eg
                      have e45 : act.tmps[45]?.getD undef = .pointer (some ⟨b1, o1 + j * 6, none⟩) := hk.v 45 (by kernel_rfl)
                      have g0 := Ext.cell ((Ext.drew W0).trans hk.ext) ((kcx.out) 0 _ rfl)
                      rw [Nat.add_zero] at g0
                      have g1 := Ext.cell ((Ext.drew W0).trans hk.ext) ((kcx.out) 1 _ rfl)
                      have g2 := Ext.cell ((Ext.drew W0).trans hk.ext) ((kcx.out) 2 _ rfl)
                      have g3 := Ext.cell ((Ext.drew W0).trans hk.ext) ((kcx.out) 3 _ rfl)
                      have g4 := Ext.cell ((Ext.drew W0).trans hk.ext) ((kcx.out) 4 _ rfl)
                      have g5 := Ext.cell ((Ext.drew W0).trans hk.ext) ((kcx.out) 5 _ rfl)
                      clear hk
                      go_simp
                      exact hK _ _ (Ext.refl _) (fun d hd => by cases hd; rfl)
                    · intro act W2 hk
                      have eg : act.tmps[35]?.getD undef = .bool true := hk.v 35 (by kernel_rfl)
                      refine Flow.does_intro (wanted_yes rfl rfl eg) (fun K hK => ?_)
                      clear eg
                      have e41 : act.tmps[41]?.getD undef = .agg #[.string y.name, .string y.key, .int .i64 y.kind, .int .u64 y.num, .string y.text, .slice K4 y.kids.length c4] := hk.v 41 (by kernel_rfl)
                      have e46 : act.tmps[46]?.getD undef = .agg #[.string x.name, .string x.key, .int .i64 x.kind, .int .u64 x.num, .string x.text, .slice K3 x.kids.length c3] := hk.v 46 (by kernel_rfl)
                      clear hk
                      go_simp
                      refine Calls.mono (hless.out _) ?_
                      rintro e W3 ⟨rfl, hx⟩
                      exact hK _ _ hx (fun d hd => by cases hd; exact congrArg Value.bool hle)
                    · intro act W2 hk
                      have eg : act.tmps[35]?.getD undef = .bool true := hk.v 35 (by kernel_rfl)
                      refine Flow.does_intro (wanted_yes rfl rfl eg) (fun K hK => ?_)
                      clear eg
                      have e47 : act.tmps[47]?.getD undef = .bool false := hk.v 47 (by kernel_rfl)
                      clear hk
                      go_simp
                      exact hK _ _ (Ext.refl _) (fun d hd => by cases hd; rfl)
                    · intro act W2 hk
                      have eg : act.tmps[32]?.getD undef = .bool false := hk.v 32 (by kernel_rfl)
                      refine Flow.does_intro (wanted_yes rfl rfl eg) (fun K hK => ?_)
                      clear eg
                      have e35 : act.tmps[35]?.getD undef = .bool true := hk.v 35 (by kernel_rfl)
                      have e48 : act.tmps[48]?.getD undef = .bool true := hk.v 48 (by kernel_rfl)
                      clear hk
                      go_simp
                      exact hK _ _ (Ext.refl _) (fun d hd => by cases hd; rfl)
                    · intro act W2 hk
                      refine Flow.does_intro rfl (fun K hK => ?_)
                      have e32 : act.tmps[32]?.getD undef = .bool false := hk.v 32 (by kernel_rfl)
                      have e49 : act.tmps[49]?.getD undef = .bool true := hk.v 49 (by kernel_rfl)
                      clear hk
                      go_simp
                      exact hK _ _ (Ext.refl _) (fun d hd => by cases hd; rfl)
                  · intro act W2 he
                    have hxW2 := Hd.mk ((Ext.drew W0).trans he.ext)
                    obtain ⟨us, hA, hF⟩ := he.out [30, 31, 32, 33, 34, 35, 36, 37, 38, 39, 40, 41, 42, 43, 44, 45, 46, 47, 48, 49, 50] (by kernel_rfl)
                    simp only [Flow.fillL, List.contains_cons, List.contains_nil, Nat.reduceBEq, Bool.or_false, Bool.false_or, Bool.or_true, Bool.true_or, ↓reduceIte, Nat.reduceAdd, Bool.false_eq_true] at hA
                    subst hA
                    have f50 : us 50 = .bool true := hF 50 (by simp)
                    clear hF he
                    rw [f50]
                    clear f50
                    refine (show wpList _ _ _ [] _ _ from ?_)
                    go_wp2_with fail
                    go_ret
                    exact ⟨rfl, (kx.out.trans hxr.out).trans hxW2.out⟩
          · have hjl : j = l.length := by omega
            subst hjl
            have hr0 : r = true := by rw [hI.out, List.drop_length]; cases prevOf l l.length <;> rfl
            subst hr0
            go_wp2_with fail
            go_ret
            exact ⟨rfl, kx.out.trans hxr.out⟩
        · have hr : r = false := by rw [hright]; simp [h2]
          subst hr
          have h2' : ¬ t.toList = [] := fun h => h2 (of_decide_eq_true (by rw [← str_eq, h]; kernel_rfl))
          clear hright
          go_enter Try.func57, Try.ntmps57
          go_wp2_with fail
          go_ret
          exact ⟨rfl, Ext.alloc _ _⟩
      · have hr : r = false := by rw [hright]; simp [h1]
        subst hr
        clear hright
        go_enter Try.func57, Try.ntmps57
        go_wp2_with fail
        go_ret
        exact ⟨rfl, Ext.alloc _ _⟩
    · have hr : r = ((l.length : Int) == 0) := by rw [hright, if_neg h0]; cases l <;> simp; omega
      subst hr
      clear hright
      go_enter Try.func57, Try.ntmps57
      go_wp2_with fail
      go_ret
      exact ⟨rfl, Ext.alloc _ _⟩
end Go.Proofs.Ytgkgedjmnbjalaa
set_option linter.unusedSimpArgs false
namespace Go.Proofs.Ytgkgedjmnbjalaa
open Go.RowKit Go.Sort
set_option maxRecDepth 100000 in
set_option maxHeartbeats 1000000 in
theorem tree_step (a : T) (K1 : Option Addr) (n1 c1 : Nat) (w : World) :
    Calls Try.prog 118 #[.agg (cT a.name a.key a.kind a.num a.text K1 n1 c1).toArray] w fun e w' => e = .returned (.agg #[.string a.name, .string a.key]) ∧ Ext w w' := by
  simp only [cT]
  go_enter Try.func118, Try.ntmps118
  go_wp2_with fail
  exact ret_box rfl (w.heap.size + 1) _ 65 _ (Blk.new2 w _ _ 65) rfl rfl Try.underlying65 rfl size65 ⟨rfl, (Ext.alloc _ _).trans (Ext.alloc _ _)⟩
theorem toList_ne {a b : ByteArray} (h : a ≠ b) : ¬ a.toList = b.toList := fun e => h (of_decide_eq_true (by rw [← str_eq, e]; exact beq_self_eq_true _))
theorem not3 {A B : Prop} {t t' : ByteArray} (h : ¬ (A ∧ B ∧ t = t')) : ¬ A ∨ (A ∧ ¬ B) ∨ (A ∧ B ∧ ¬ t.toList = t'.toList) := by
  by_cases a : A
  · by_cases b : B
    · exact .inr (.inr ⟨a, b, toList_ne fun e => h ⟨a, b, e⟩⟩)
    · exact .inr (.inl ⟨a, b⟩)
  · exact .inl a
theorem not2 {n n' k k' : ByteArray} (h : ¬ (n = n' ∧ k = k')) : ¬ n.toList = n'.toList ∨ (n.toList = n'.toList ∧ ¬ k.toList = k'.toList) := by
  by_cases a : n = n'
  · exact .inr ⟨by rw [a], toList_ne fun e => h ⟨a, e⟩⟩
  · exact .inl (toList_ne a)
set_option maxHeartbeats 1000000 in
theorem diff_leaf (a : T) (K1 : Option Addr) (n1 c1 : Nat) (w : World) :
    Calls Try.prog 100 #[.agg (cT a.name a.key a.kind a.num a.text K1 n1 c1).toArray] w fun e w' => e = .returned (.bool (a.kind != 0)) ∧ Ext w w' := by
  simp only [cT]
  go_enter Try.func100, Try.ntmps100
  go_wp2_with fail
  go_ret
  exact ⟨rfl, Ext.alloc _ _⟩
def SameAt (N : Nat) : Prop := ∀ (a b : T) (S : Nat → Prop) (w : World) (c d : List Value), a.deep ≤ N → RT S w a c → RT S w b d →
    Calls Try.prog 65 #[.agg c.toArray, .agg d.toArray] w fun e w' => e = .returned (.bool (sameT a b)) ∧ Ext w w'
set_option maxRecDepth 100000 in
set_option maxHeartbeats 2000000 in
theorem nodes_equal (N : Nat) (ih0 : SameAt N) (l l' : List T) (S : Nat → Prop) (w : World) (K1 K2 : Option Addr) (c1 c2 : Nat) (hd : deepL l ≤ N) (hr1 : RRow S w K1 l c1) (hr2 : RRow S w K2 l' c2) :
    Calls Try.prog 119 #[.slice K1 l.length c1, .slice K2 l'.length c2, .func (.func 65) #[] #[]] w fun e w' => e = .returned (.bool (sameL l l')) ∧ Ext w w' := by
  have kr1 := Hd.mk hr1
  have kr2 := Hd.mk hr2
  have hl2 := hr2.len
  have hl1 := hr1.len
  have ih := Hd.mk ih0
  have hd := Hd.mk hd
  clear hr1 hr2 ih0
  generalize hr : sameL l l' = r
  by_cases h6 : l.length = l'.length
  · rw [h6]
    replace h6 := Hd.mk h6
    clear hl1
    replace hr := Hd.mk hr.symm
    go_enter Try.func119, Try.ntmps119
    go_wp2_with fail
    go_loopg [17] (l'.length + 1) (fun q i wr => ∃ j : Nat, j ≤ l'.length ∧ Hd (q = l'.length + 1 - j) ∧ i = .int .i64 j ∧ Hd (r = sameL (l.drop j) (l'.drop j)) ∧ Hd (Ext w wr))
    case atStart => exact ⟨0, by omega, ⟨by omega⟩, rfl, hr, ⟨Ext.refl _⟩⟩
    case round =>
    obtain ⟨j, hj, hq, rfl, hI, hxr⟩ := hrel
    by_cases hlt : j < l'.length
    · have hlt1 : j < l.length := by have := h6.out; omega
      have hx1 := List.getElem?_eq_getElem hlt1
      have hx2 := List.getElem?_eq_getElem hlt
      generalize l[j] = x at hx1
      generalize l'[j] = y at hx2
      obtain ⟨b1, o1, ck, rfl, _, hrk, hck⟩ := kr1.out.kid j x hx1
      obtain ⟨b2, o2, dk, rfl, _, hrd, hdk⟩ := kr2.out.kid j y hx2
      obtain ⟨K3, c3, rfl, _⟩ := hrk.row
      obtain ⟨K4, c4, rfl, _⟩ := hrd.row
      have hcall := Hd.mk (fun W' (h : Ext w W') => ih.out x y S W' _ _ (by have := deepL_mem hx1; have := hd.out; omega) (hrk.ext h) (hrd.ext h))
      have hdrop := Hd.mk (sameL_drop hx1 hx2)
      obtain ⟨e0, e1, e2, e3, e4, e5⟩ := six hxr.out hck
      obtain ⟨f0, f1, f2, f3, f4, f5⟩ := six hxr.out hdk
      have lt1 := World.block_lt_of_cell? wr _ e0
      have lt2 := World.block_lt_of_cell? wr _ f0
      clear hck hdk hrk hrd hx1 hx2
      simp only [cT] at hcall
      go_wp2_with fail
      have hx2 := Hd.mk (hxr.out.trans ((Ext.alloc wr (.cells #[.string x.name, .string x.key, .int .i64 x.kind, .int .u64 x.num, .string x.text, .slice K3 x.kids.length c3] 54)).trans (Ext.alloc _ (.cells #[.string y.name, .string y.key, .int .i64 y.kind, .int .u64 y.num, .string y.text, .slice K4 y.kids.length c4] 54))))
      refine Calls.mono (hcall.out _ hx2.out) ?_
      rintro e w2 ⟨rfl, hx3⟩
      clear hcall e0 e1 e2 e3 e4 e5 f0 f1 f2 f3 f4 f5
      have hxr3 := Hd.mk (hx2.out.trans hx3)
      clear hx3
      cases hs : sameT x y with
      | true =>
        go_wp2_with fail
        go_roundg (l'.length + 1 - (j + 1))
        case measure => have := hq.out; omega
        case rel => exact ⟨j + 1, by omega, ⟨rfl⟩, by go_num, ⟨by rw [hI.out, hdrop.out, hs]; rfl⟩, hxr3⟩
      | false =>
        have hr0 : r = false := by rw [hI.out, hdrop.out, hs]; rfl
        subst hr0
        go_wp2_with fail
        go_ret
        exact ⟨rfl, hxr3.out⟩
    · have hjl : j = l'.length := by omega
      subst hjl
      have hr0 : r = true := by rw [hI.out, ← h6.out, List.drop_length, h6.out, List.drop_length]; rfl
      subst hr0
      go_wp2_with fail
      go_ret
      exact ⟨rfl, hxr.out⟩
  · have hr0 : r = false := by
      cases hs : r with
      | false => rfl
      | true => rw [hs] at hr; exact absurd (sameL_len _ _ hr) h6
    subst hr0
    have h6' : ((l.length : Int) != (l'.length : Int)) = true := by rw [bne_iff_ne]; omega
    clear hr
    go_enter Try.func119, Try.ntmps119
    go_wp2_with fail
    go_ret
    exact ⟨rfl, Ext.refl _⟩
set_option maxRecDepth 100000 in
set_option maxHeartbeats 4000000 in
theorem tree_same : ∀ (N : Nat), SameAt N
  | 0 => fun a b S w c d hn _ _ => by rw [a.deep_eq] at hn; omega
  | N + 1 => by
    rintro ⟨n, k, d, m, t, l⟩ ⟨n', k', d', m', t', l'⟩ S w c d2 hn ha hb
    obtain ⟨K1, c1, rfl, hr1⟩ := ha.row
    obtain ⟨K2, c2, rfl, hr2⟩ := hb.row
    have hs1 := Hd.mk (fun w => tree_step (.mk n k d m t l) K1 l.length c1 w)
    have hs2 := Hd.mk (fun w => tree_step (.mk n' k' d' m' t' l') K2 l'.length c2 w)
    simp only [T.name, T.key, T.kind, T.num, T.text, T.kids] at hr1 hr2 hs1 hs2 ⊢
    have heq := Hd.mk (fun W (h : Ext w W) => nodes_equal N (tree_same N) l l' S W K1 K2 c1 c2 (by rw [T.deep_eq] at hn; simp only [T.kids] at hn; omega) (hr1.ext h) (hr2.ext h))
    have hsame := Hd.mk (sameT_mk n k d m t l n' k' d' m' t' l')
    clear hr1 hr2 ha hb hn
    generalize sameT _ _ = r at *
    simp only [cT] at hs1 hs2 ⊢
    have sN := str_eq n n'
    have sK := str_eq k k'
    have sT := str_eq t t'
    go_enter Try.func65, Try.ntmps65
    go_wp2_with fail
    have kx := Hd.mk ((Ext.alloc w (.cells #[.string n, .string k, .int .i64 d, .int .u64 m, .string t, .slice K1 l.length c1] 54)).trans (Ext.alloc _ (.cells #[.string n', .string k', .int .i64 d', .int .u64 m', .string t', .slice K2 l'.length c2] 54)))
    have kA := Hd.mk ((Blk.new w #[.string n, .string k, .int .i64 d, .int .u64 m, .string t, .slice K1 l.length c1] 54).alloc (.cells #[.string n', .string k', .int .i64 d', .int .u64 m', .string t', .slice K2 l'.length c2] 54))
    have kB := Hd.mk (Blk.new2 w (.cells #[.string n, .string k, .int .i64 d, .int .u64 m, .string t, .slice K1 l.length c1] 54) #[.string n', .string k', .int .i64 d', .int .u64 m', .string t', .slice K2 l'.length c2] 54)
    generalize w.heap.size = pA at *
    generalize (w.alloc _).alloc _ = W at *
    by_cases h1 : n = n' ∧ k = k'
    · obtain ⟨rfl, rfl⟩ := h1
      by_cases h2 : d = d' ∧ m = m' ∧ t = t'
      · obtain ⟨rfl, rfl, rfl⟩ := h2
        have hr : r = sameL l l' := by rw [hsame.out]; simp
        replace hr := Hd.mk hr
        clear sN sK sT hsame
        refine Flow.wp_region_flow_l (fun qq => match qq with
          | 5 => SP.eq (.agg #[.string n, .string k, .int .i64 d, .int .u64 m, .string t, .slice K1 l.length c1])
          | 6 => SP.eq (.agg #[.string n, .string k])
          | 7 => SP.eq (.agg #[.string n, .string k, .int .i64 d, .int .u64 m, .string t, .slice K2 l'.length c2])
          | 8 => SP.eq (.agg #[.string n, .string k])
          | 9 => SP.eq (.bool true)
          | 10 => SP.eq (.bool true)
          | 11 => SP.eq (.pointer (some ⟨pA, 2, none⟩))
          | 12 => SP.eq (.agg #[.int .i64 d, .int .u64 m, .string t])
          | 13 => SP.eq (.pointer (some ⟨(pA + 1), 2, none⟩))
          | 14 => SP.eq (.agg #[.int .i64 d, .int .u64 m, .string t])
          | 15 => SP.eq (.bool true)
          | 16 => SP.eq (.bool true)
          | 17 => SP.eq (.bool true)
          | 18 => SP.eq (.pointer (some ⟨pA, 5, none⟩))
          | 19 => SP.eq (.slice K1 l.length c1)
          | 20 => SP.eq (.pointer (some ⟨(pA + 1), 5, none⟩))
          | 21 => SP.eq (.slice K2 l'.length c2)
          | 22 => SP.eq (.bool r)
          | 23 => SP.eq (.bool r)
          | 4 => SP.eq (.bool r)
          | _ => SP.any) 20 (by kernel_rfl) 24 rfl (by kernel_rfl) ?_ ?_
        · skip
          refine ⟨?_, ?_, ?_, ?_, ?_, ?_, ?_, ?_, ?_, ?_, ?_, ?_, ?_, ?_, ?_, ?_, ?_, ?_, ?_, ?_, trivial⟩
          · intro act W2 hk
            refine Flow.does_intro rfl (fun K hK => ?_)
            have e2 : act.tmps[2]?.getD undef = .pointer (some ⟨pA, 0, none⟩) := hk.o 2 (by kernel_rfl)
            have g := ((kA.out).ext ((Ext.drew W).trans hk.ext)).cell
            clear hk
            go_simp
            exact hK _ _ (Ext.refl _) (fun d hd => by cases hd; rfl)
          · intro act W2 hk
            refine Flow.does_intro rfl (fun K hK => ?_)
            have e5 : act.tmps[5]?.getD undef = .agg #[.string n, .string k, .int .i64 d, .int .u64 m, .string t, .slice K1 l.length c1] := hk.v 5 (by kernel_rfl)
            clear hk
            go_simp
            refine Calls.mono (hs1.out _) ?_
            rintro e W3 ⟨rfl, hx⟩
            exact hK _ _ hx (fun d hd => by cases hd; rfl)
          · intro act W2 hk
            refine Flow.does_intro rfl (fun K hK => ?_)
            have e3 : act.tmps[3]?.getD undef = .pointer (some ⟨(pA + 1), 0, none⟩) := hk.o 3 (by kernel_rfl)
            have g := ((kB.out).ext ((Ext.drew W).trans hk.ext)).cell
            clear hk
            go_simp
            exact hK _ _ (Ext.refl _) (fun d hd => by cases hd; rfl)
          · intro act W2 hk
            refine Flow.does_intro rfl (fun K hK => ?_)
            have e7 : act.tmps[7]?.getD undef = .agg #[.string n, .string k, .int .i64 d, .int .u64 m, .string t, .slice K2 l'.length c2] := hk.v 7 (by kernel_rfl)
            clear hk
            go_simp
            refine Calls.mono (hs2.out _) ?_
            rintro e W3 ⟨rfl, hx⟩
            exact hK _ _ hx (fun d hd => by cases hd; rfl)
          · intro act W2 hk
            refine Flow.does_intro rfl (fun K hK => ?_)
            have e6 : act.tmps[6]?.getD undef = .agg #[.string n, .string k] := hk.v 6 (by kernel_rfl)
            have e8 : act.tmps[8]?.getD undef = .agg #[.string n, .string k] := hk.v 8 (by kernel_rfl)
            clear hk
            go_simp
            exact hK _ _ (Ext.refl _) (fun d hd => by cases hd; rfl)
          · intro act W2 hk
            refine Flow.does_intro rfl (fun K hK => ?_)
            have e9 : act.tmps[9]?.getD undef = .bool true := hk.v 9 (by kernel_rfl)
            clear hk
            go_simp
            exact hK _ _ (Ext.refl _) (fun d hd => by cases hd; rfl)
          · intro act W2 hk
            have eg : act.tmps[10]?.getD undef = .bool true := hk.v 10 (by kernel_rfl)
            refine Flow.does_intro (wanted_yes rfl rfl eg) (fun K hK => ?_)
            clear eg
            have e2 : act.tmps[2]?.getD undef = .pointer (some ⟨pA, 0, none⟩) := hk.o 2 (by kernel_rfl)
            clear hk
            go_simp
            exact hK _ _ (Ext.refl _) (fun d hd => by cases hd; rfl)
          · intro act W2 hk
            have eg : act.tmps[10]?.getD undef = .bool true := hk.v 10 (by kernel_rfl)
            refine Flow.does_intro (wanted_yes rfl rfl eg) (fun K hK => ?_)
            clear eg
            have e11 : act.tmps[11]?.getD undef = .pointer (some ⟨pA, 2, none⟩) := hk.v 11 (by kernel_rfl)
            have g := ((kA.out).ext ((Ext.drew W).trans hk.ext)).cell
            clear hk
            go_simp
            exact hK _ _ (Ext.refl _) (fun d hd => by cases hd; rfl)
          · intro act W2 hk
            have eg : act.tmps[10]?.getD undef = .bool true := hk.v 10 (by kernel_rfl)
            refine Flow.does_intro (wanted_yes rfl rfl eg) (fun K hK => ?_)
            clear eg
            have e3 : act.tmps[3]?.getD undef = .pointer (some ⟨(pA + 1), 0, none⟩) := hk.o 3 (by kernel_rfl)
            clear hk
            go_simp
            exact hK _ _ (Ext.refl _) (fun d hd => by cases hd; rfl)
          · intro act W2 hk
            have eg : act.tmps[10]?.getD undef = .bool true := hk.v 10 (by kernel_rfl)
            refine Flow.does_intro (wanted_yes rfl rfl eg) (fun K hK => ?_)
            clear eg
            have e13 : act.tmps[13]?.getD undef = .pointer (some ⟨(pA + 1), 2, none⟩) := hk.v 13 (by kernel_rfl)
            have g := ((kB.out).ext ((Ext.drew W).trans hk.ext)).cell
            clear hk
            go_simp
            exact hK _ _ (Ext.refl _) (fun d hd => by cases hd; rfl)
          · intro act W2 hk
            have eg : act.tmps[10]?.getD undef = .bool true := hk.v 10 (by kernel_rfl)
            refine Flow.does_intro (wanted_yes rfl rfl eg) (fun K hK => ?_)
            clear eg
            have e12 : act.tmps[12]?.getD undef = .agg #[.int .i64 d, .int .u64 m, .string t] := hk.v 12 (by kernel_rfl)
            have e14 : act.tmps[14]?.getD undef = .agg #[.int .i64 d, .int .u64 m, .string t] := hk.v 14 (by kernel_rfl)
            clear hk
            go_simp
            exact hK _ _ (Ext.refl _) (fun d hd => by cases hd; rfl)
          · intro act W2 hk
            refine Flow.does_intro rfl (fun K hK => ?_)
            have e10 : act.tmps[10]?.getD undef = .bool true := hk.v 10 (by kernel_rfl)
            have e15 : act.tmps[15]?.getD undef = .bool true := hk.v 15 (by kernel_rfl)
            clear hk
            go_simp
            exact hK _ _ (Ext.refl _) (fun d hd => by cases hd; rfl)
          · intro act W2 hk
            refine Flow.does_intro rfl (fun K hK => ?_)
            have e16 : act.tmps[16]?.getD undef = .bool true := hk.v 16 (by kernel_rfl)
            clear hk
            go_simp
            exact hK _ _ (Ext.refl _) (fun d hd => by cases hd; rfl)
          · intro act W2 hk
            have eg : act.tmps[17]?.getD undef = .bool true := hk.v 17 (by kernel_rfl)
            refine Flow.does_intro (wanted_yes rfl rfl eg) (fun K hK => ?_)
            clear eg
            have e2 : act.tmps[2]?.getD undef = .pointer (some ⟨pA, 0, none⟩) := hk.o 2 (by kernel_rfl)
            clear hk
            go_simp
            exact hK _ _ (Ext.refl _) (fun d hd => by cases hd; rfl)
          · intro act W2 hk
            have eg : act.tmps[17]?.getD undef = .bool true := hk.v 17 (by kernel_rfl)
            refine Flow.does_intro (wanted_yes rfl rfl eg) (fun K hK => ?_)
            clear eg
            have e18 : act.tmps[18]?.getD undef = .pointer (some ⟨pA, 5, none⟩) := hk.v 18 (by kernel_rfl)
            have g := ((kA.out).ext ((Ext.drew W).trans hk.ext)).cell
            clear hk
            go_simp
            exact hK _ _ (Ext.refl _) (fun d hd => by cases hd; rfl)
          · intro act W2 hk
            have eg : act.tmps[17]?.getD undef = .bool true := hk.v 17 (by kernel_rfl)
            refine Flow.does_intro (wanted_yes rfl rfl eg) (fun K hK => ?_)
            clear eg
            have e3 : act.tmps[3]?.getD undef = .pointer (some ⟨(pA + 1), 0, none⟩) := hk.o 3 (by kernel_rfl)
            clear hk
            go_simp
            exact hK _ _ (Ext.refl _) (fun d hd => by cases hd; rfl)
          · intro act W2 hk
            have eg : act.tmps[17]?.getD undef = .bool true := hk.v 17 (by kernel_rfl)
            refine Flow.does_intro (wanted_yes rfl rfl eg) (fun K hK => ?_)
            clear eg
            have e20 : act.tmps[20]?.getD undef = .pointer (some ⟨(pA + 1), 5, none⟩) := hk.v 20 (by kernel_rfl)
            have g := ((kB.out).ext ((Ext.drew W).trans hk.ext)).cell
            clear hk
            go_simp
            exact hK _ _ (Ext.refl _) (fun d hd => by cases hd; rfl)
          · intro act W2 hk
            have eg : act.tmps[17]?.getD undef = .bool true := hk.v 17 (by kernel_rfl)
            refine Flow.does_intro (wanted_yes rfl rfl eg) (fun K hK => ?_)
            clear eg
            have e19 : act.tmps[19]?.getD undef = .slice K1 l.length c1 := hk.v 19 (by kernel_rfl)
            have e21 : act.tmps[21]?.getD undef = .slice K2 l'.length c2 := hk.v 21 (by kernel_rfl)
            have hx0 := Hd.mk ((Ext.drew W).trans hk.ext)
            clear hk
            go_simp
            refine Calls.mono (heq.out _ (kx.out.trans hx0.out)) ?_
            rintro e W3 ⟨rfl, hx⟩
            exact hK _ _ hx (fun d hd => by cases hd; exact congrArg Value.bool hr.out.symm)
          · intro act W2 hk
            refine Flow.does_intro rfl (fun K hK => ?_)
            have e17 : act.tmps[17]?.getD undef = .bool true := hk.v 17 (by kernel_rfl)
            have e22 : act.tmps[22]?.getD undef = .bool r := hk.v 22 (by kernel_rfl)
            clear hk
            go_simp
            exact hK _ _ (Ext.refl _) (fun d hd => by cases hd; rfl)
          · intro act W2 hk
            refine Flow.does_intro rfl (fun K hK => ?_)
            have e23 : act.tmps[23]?.getD undef = .bool r := hk.v 23 (by kernel_rfl)
            clear hk
            go_simp
            exact hK _ _ (Ext.refl _) (fun d hd => by cases hd; rfl)
        · intro act W2 he
          have hxW2 := Hd.mk ((Ext.drew W).trans he.ext)
          obtain ⟨us, hA, hF⟩ := he.out [5, 6, 7, 8, 9, 10, 11, 12, 13, 14, 15, 16, 17, 18, 19, 20, 21, 22, 23, 4] (by kernel_rfl)
          simp only [Flow.fillL, List.contains_cons, List.contains_nil, Nat.reduceBEq, Bool.or_false, Bool.false_or, Bool.or_true, Bool.true_or, ↓reduceIte, Nat.reduceAdd, Bool.false_eq_true] at hA
          subst hA
          have f4 : us 4 = .bool r := hF 4 (by simp)
          clear hF he
          rw [f4]
          clear f4
          refine (show wpList _ _ _ [] _ _ from ?_)
          go_wp2_with fail
          go_ret
          exact ⟨rfl, kx.out.trans hxW2.out⟩
      · have hr : r = false := by
          rw [hsame.out]
          simp only [not_and] at h2
          by_cases q1 : d = d'
          · by_cases q2 : m = m'
            · simp [h2 q1 q2]
            · simp [q2]
          · simp [q1]
        subst hr
        have hv := Hd.mk (not3 h2)
        clear sN sK sT hsame h2 heq
        refine Flow.wp_region_flow_l (fun qq => match qq with
          | 5 => SP.eq (.agg #[.string n, .string k, .int .i64 d, .int .u64 m, .string t, .slice K1 l.length c1])
          | 6 => SP.eq (.agg #[.string n, .string k])
          | 7 => SP.eq (.agg #[.string n, .string k, .int .i64 d', .int .u64 m', .string t', .slice K2 l'.length c2])
          | 8 => SP.eq (.agg #[.string n, .string k])
          | 9 => SP.eq (.bool true)
          | 10 => SP.eq (.bool true)
          | 11 => SP.eq (.pointer (some ⟨pA, 2, none⟩))
          | 12 => SP.eq (.agg #[.int .i64 d, .int .u64 m, .string t])
          | 13 => SP.eq (.pointer (some ⟨(pA + 1), 2, none⟩))
          | 14 => SP.eq (.agg #[.int .i64 d', .int .u64 m', .string t'])
          | 15 => SP.eq (.bool false)
          | 16 => SP.eq (.bool false)
          | 17 => SP.eq (.bool false)
          | 18 => SP.eq (undef)
          | 19 => SP.eq (undef)
          | 20 => SP.eq (undef)
          | 21 => SP.eq (undef)
          | 22 => SP.eq (undef)
          | 23 => SP.eq (.bool false)
          | 4 => SP.eq (.bool false)
          | _ => SP.any) 20 (by kernel_rfl) 24 rfl (by kernel_rfl) ?_ ?_
        · skip
          refine ⟨?_, ?_, ?_, ?_, ?_, ?_, ?_, ?_, ?_, ?_, ?_, ?_, ?_, ?_, ?_, ?_, ?_, ?_, ?_, ?_, trivial⟩
          · intro act W2 hk
            refine Flow.does_intro rfl (fun K hK => ?_)
            have e2 : act.tmps[2]?.getD undef = .pointer (some ⟨pA, 0, none⟩) := hk.o 2 (by kernel_rfl)
            have g := ((kA.out).ext ((Ext.drew W).trans hk.ext)).cell
            clear hk
            go_simp
            exact hK _ _ (Ext.refl _) (fun d hd => by cases hd; rfl)
          · intro act W2 hk
            refine Flow.does_intro rfl (fun K hK => ?_)
            have e5 : act.tmps[5]?.getD undef = .agg #[.string n, .string k, .int .i64 d, .int .u64 m, .string t, .slice K1 l.length c1] := hk.v 5 (by kernel_rfl)
            clear hk
            go_simp
            refine Calls.mono (hs1.out _) ?_
            rintro e W3 ⟨rfl, hx⟩
            exact hK _ _ hx (fun d hd => by cases hd; rfl)
          · intro act W2 hk
            refine Flow.does_intro rfl (fun K hK => ?_)
            have e3 : act.tmps[3]?.getD undef = .pointer (some ⟨(pA + 1), 0, none⟩) := hk.o 3 (by kernel_rfl)
            have g := ((kB.out).ext ((Ext.drew W).trans hk.ext)).cell
            clear hk
            go_simp
            exact hK _ _ (Ext.refl _) (fun d hd => by cases hd; rfl)
          · intro act W2 hk
            refine Flow.does_intro rfl (fun K hK => ?_)
            have e7 : act.tmps[7]?.getD undef = .agg #[.string n, .string k, .int .i64 d', .int .u64 m', .string t', .slice K2 l'.length c2] := hk.v 7 (by kernel_rfl)
            clear hk
            go_simp
            refine Calls.mono (hs2.out _) ?_
            rintro e W3 ⟨rfl, hx⟩
            exact hK _ _ hx (fun d hd => by cases hd; rfl)
          · intro act W2 hk
            refine Flow.does_intro rfl (fun K hK => ?_)
            have e6 : act.tmps[6]?.getD undef = .agg #[.string n, .string k] := hk.v 6 (by kernel_rfl)
            have e8 : act.tmps[8]?.getD undef = .agg #[.string n, .string k] := hk.v 8 (by kernel_rfl)
            clear hk
            go_simp
            exact hK _ _ (Ext.refl _) (fun d hd => by cases hd; rfl)
          · intro act W2 hk
            refine Flow.does_intro rfl (fun K hK => ?_)
            have e9 : act.tmps[9]?.getD undef = .bool true := hk.v 9 (by kernel_rfl)
            clear hk
            go_simp
            exact hK _ _ (Ext.refl _) (fun d hd => by cases hd; rfl)
          · intro act W2 hk
            have eg : act.tmps[10]?.getD undef = .bool true := hk.v 10 (by kernel_rfl)
            refine Flow.does_intro (wanted_yes rfl rfl eg) (fun K hK => ?_)
            clear eg
            have e2 : act.tmps[2]?.getD undef = .pointer (some ⟨pA, 0, none⟩) := hk.o 2 (by kernel_rfl)
            clear hk
            go_simp
            exact hK _ _ (Ext.refl _) (fun d hd => by cases hd; rfl)
          · intro act W2 hk
            have eg : act.tmps[10]?.getD undef = .bool true := hk.v 10 (by kernel_rfl)
            refine Flow.does_intro (wanted_yes rfl rfl eg) (fun K hK => ?_)
            clear eg
            have e11 : act.tmps[11]?.getD undef = .pointer (some ⟨pA, 2, none⟩) := hk.v 11 (by kernel_rfl)
            have g := ((kA.out).ext ((Ext.drew W).trans hk.ext)).cell
            clear hk
            go_simp
            exact hK _ _ (Ext.refl _) (fun d hd => by cases hd; rfl)
          · intro act W2 hk
            have eg : act.tmps[10]?.getD undef = .bool true := hk.v 10 (by kernel_rfl)
            refine Flow.does_intro (wanted_yes rfl rfl eg) (fun K hK => ?_)
            clear eg
            have e3 : act.tmps[3]?.getD undef = .pointer (some ⟨(pA + 1), 0, none⟩) := hk.o 3 (by kernel_rfl)
            clear hk
            go_simp
            exact hK _ _ (Ext.refl _) (fun d hd => by cases hd; rfl)
          · intro act W2 hk
            have eg : act.tmps[10]?.getD undef = .bool true := hk.v 10 (by kernel_rfl)
            refine Flow.does_intro (wanted_yes rfl rfl eg) (fun K hK => ?_)
            clear eg
            have e13 : act.tmps[13]?.getD undef = .pointer (some ⟨(pA + 1), 2, none⟩) := hk.v 13 (by kernel_rfl)
            have g := ((kB.out).ext ((Ext.drew W).trans hk.ext)).cell
            clear hk
            go_simp
            exact hK _ _ (Ext.refl _) (fun d hd => by cases hd; rfl)
          · intro act W2 hk
            have eg : act.tmps[10]?.getD undef = .bool true := hk.v 10 (by kernel_rfl)
            refine Flow.does_intro (wanted_yes rfl rfl eg) (fun K hK => ?_)
            clear eg
            have e12 : act.tmps[12]?.getD undef = .agg #[.int .i64 d, .int .u64 m, .string t] := hk.v 12 (by kernel_rfl)
            have e14 : act.tmps[14]?.getD undef = .agg #[.int .i64 d', .int .u64 m', .string t'] := hk.v 14 (by kernel_rfl)
            clear hk
            skip
            rcases hv.out with q | ⟨q1, q⟩ | ⟨q1, q2, q⟩
            all_goals go_simp
            all_goals exact hK _ _ (Ext.refl _) (fun d hd => by cases hd; rfl)
          · intro act W2 hk
            refine Flow.does_intro rfl (fun K hK => ?_)
            have e10 : act.tmps[10]?.getD undef = .bool true := hk.v 10 (by kernel_rfl)
            have e15 : act.tmps[15]?.getD undef = .bool false := hk.v 15 (by kernel_rfl)
            clear hk
            go_simp
            exact hK _ _ (Ext.refl _) (fun d hd => by cases hd; rfl)
          · intro act W2 hk
            refine Flow.does_intro rfl (fun K hK => ?_)
            have e16 : act.tmps[16]?.getD undef = .bool false := hk.v 16 (by kernel_rfl)
            clear hk
            go_simp
            exact hK _ _ (Ext.refl _) (fun d hd => by cases hd; rfl)
          · intro act W2 hk
            have eg : act.tmps[17]?.getD undef = .bool false := hk.v 17 (by kernel_rfl)
            exact Flow.does_skip (wanted_no rfl rfl eg) (fun d hd => by cases hd; rfl)
          · intro act W2 hk
            have eg : act.tmps[17]?.getD undef = .bool false := hk.v 17 (by kernel_rfl)
            exact Flow.does_skip (wanted_no rfl rfl eg) (fun d hd => by cases hd; rfl)
          · intro act W2 hk
            have eg : act.tmps[17]?.getD undef = .bool false := hk.v 17 (by kernel_rfl)
            exact Flow.does_skip (wanted_no rfl rfl eg) (fun d hd => by cases hd; rfl)
          · intro act W2 hk
            have eg : act.tmps[17]?.getD undef = .bool false := hk.v 17 (by kernel_rfl)
            exact Flow.does_skip (wanted_no rfl rfl eg) (fun d hd => by cases hd; rfl)
          · intro act W2 hk
            have eg : act.tmps[17]?.getD undef = .bool false := hk.v 17 (by kernel_rfl)
            exact Flow.does_skip (wanted_no rfl rfl eg) (fun d hd => by cases hd; rfl)
          · intro act W2 hk
            refine Flow.does_intro rfl (fun K hK => ?_)
            have e17 : act.tmps[17]?.getD undef = .bool false := hk.v 17 (by kernel_rfl)
            clear hk
            go_simp
            exact hK _ _ (Ext.refl _) (fun d hd => by cases hd; rfl)
          · intro act W2 hk
            refine Flow.does_intro rfl (fun K hK => ?_)
            have e23 : act.tmps[23]?.getD undef = .bool false := hk.v 23 (by kernel_rfl)
            clear hk
            go_simp
            exact hK _ _ (Ext.refl _) (fun d hd => by cases hd; rfl)
        · intro act W2 he
          have hxW2 := Hd.mk ((Ext.drew W).trans he.ext)
          obtain ⟨us, hA, hF⟩ := he.out [5, 6, 7, 8, 9, 10, 11, 12, 13, 14, 15, 16, 17, 18, 19, 20, 21, 22, 23, 4] (by kernel_rfl)
          simp only [Flow.fillL, List.contains_cons, List.contains_nil, Nat.reduceBEq, Bool.or_false, Bool.false_or, Bool.or_true, Bool.true_or, ↓reduceIte, Nat.reduceAdd, Bool.false_eq_true] at hA
          subst hA
          have f4 : us 4 = .bool false := hF 4 (by simp)
          clear hF he
          rw [f4]
          clear f4
          refine (show wpList _ _ _ [] _ _ from ?_)
          go_wp2_with fail
          go_ret
          exact ⟨rfl, kx.out.trans hxW2.out⟩
    · have hr : r = false := by
        rw [hsame.out]
        simp only [not_and] at h1
        by_cases q1 : n = n'
        · simp [h1 q1]
        · simp [q1]
      subst hr
      have hv := Hd.mk (not2 h1)
      clear sN sK sT hsame h1 heq
      refine Flow.wp_region_flow_l (fun qq => match qq with
        | 5 => SP.eq (.agg #[.string n, .string k, .int .i64 d, .int .u64 m, .string t, .slice K1 l.length c1])
        | 6 => SP.eq (.agg #[.string n, .string k])
        | 7 => SP.eq (.agg #[.string n', .string k', .int .i64 d', .int .u64 m', .string t', .slice K2 l'.length c2])
        | 8 => SP.eq (.agg #[.string n', .string k'])
        | 9 => SP.eq (.bool false)
        | 10 => SP.eq (.bool false)
        | 11 => SP.eq (undef)
        | 12 => SP.eq (undef)
        | 13 => SP.eq (undef)
        | 14 => SP.eq (undef)
        | 15 => SP.eq (undef)
        | 16 => SP.eq (.bool false)
        | 17 => SP.eq (.bool false)
        | 18 => SP.eq (undef)
        | 19 => SP.eq (undef)
        | 20 => SP.eq (undef)
        | 21 => SP.eq (undef)
        | 22 => SP.eq (undef)
        | 23 => SP.eq (.bool false)
        | 4 => SP.eq (.bool false)
        | _ => SP.any) 20 (by kernel_rfl) 24 rfl (by kernel_rfl) ?_ ?_
      · skip
        refine ⟨?_, ?_, ?_, ?_, ?_, ?_, ?_, ?_, ?_, ?_, ?_, ?_, ?_, ?_, ?_, ?_, ?_, ?_, ?_, ?_, trivial⟩
        · intro act W2 hk
          refine Flow.does_intro rfl (fun K hK => ?_)
          have e2 : act.tmps[2]?.getD undef = .pointer (some ⟨pA, 0, none⟩) := hk.o 2 (by kernel_rfl)
          have g := ((kA.out).ext ((Ext.drew W).trans hk.ext)).cell
          clear hk
          go_simp
          exact hK _ _ (Ext.refl _) (fun d hd => by cases hd; rfl)
        · intro act W2 hk
          refine Flow.does_intro rfl (fun K hK => ?_)
          have e5 : act.tmps[5]?.getD undef = .agg #[.string n, .string k, .int .i64 d, .int .u64 m, .string t, .slice K1 l.length c1] := hk.v 5 (by kernel_rfl)
          clear hk
          go_simp
          refine Calls.mono (hs1.out _) ?_
          rintro e W3 ⟨rfl, hx⟩
          exact hK _ _ hx (fun d hd => by cases hd; rfl)
        · intro act W2 hk
          refine Flow.does_intro rfl (fun K hK => ?_)
          have e3 : act.tmps[3]?.getD undef = .pointer (some ⟨(pA + 1), 0, none⟩) := hk.o 3 (by kernel_rfl)
          have g := ((kB.out).ext ((Ext.drew W).trans hk.ext)).cell
          clear hk
          go_simp
          exact hK _ _ (Ext.refl _) (fun d hd => by cases hd; rfl)
        · intro act W2 hk
          refine Flow.does_intro rfl (fun K hK => ?_)
          have e7 : act.tmps[7]?.getD undef = .agg #[.string n', .string k', .int .i64 d', .int .u64 m', .string t', .slice K2 l'.length c2] := hk.v 7 (by kernel_rfl)
          clear hk
          go_simp
          refine Calls.mono (hs2.out _) ?_
          rintro e W3 ⟨rfl, hx⟩
          exact hK _ _ hx (fun d hd => by cases hd; rfl)
        · intro act W2 hk
          refine Flow.does_intro rfl (fun K hK => ?_)
          have e6 : act.tmps[6]?.getD undef = .agg #[.string n, .string k] := hk.v 6 (by kernel_rfl)
          have e8 : act.tmps[8]?.getD undef = .agg #[.string n', .string k'] := hk.v 8 (by kernel_rfl)
          clear hk
          skip
          rcases hv.out with q | ⟨q1, q⟩
          all_goals go_simp
          all_goals exact hK _ _ (Ext.refl _) (fun d hd => by cases hd; rfl)
        · intro act W2 hk
          refine Flow.does_intro rfl (fun K hK => ?_)
          have e9 : act.tmps[9]?.getD undef = .bool false := hk.v 9 (by kernel_rfl)
          clear hk
          go_simp
          exact hK _ _ (Ext.refl _) (fun d hd => by cases hd; rfl)
        · intro act W2 hk
          have eg : act.tmps[10]?.getD undef = .bool false := hk.v 10 (by kernel_rfl)
          exact Flow.does_skip (wanted_no rfl rfl eg) (fun d hd => by cases hd; rfl)
        · intro act W2 hk
          have eg : act.tmps[10]?.getD undef = .bool false := hk.v 10 (by kernel_rfl)
          exact Flow.does_skip (wanted_no rfl rfl eg) (fun d hd => by cases hd; rfl)
        · intro act W2 hk
          have eg : act.tmps[10]?.getD undef = .bool false := hk.v 10 (by kernel_rfl)
          exact Flow.does_skip (wanted_no rfl rfl eg) (fun d hd => by cases hd; rfl)
        · intro act W2 hk
          have eg : act.tmps[10]?.getD undef = .bool false := hk.v 10 (by kernel_rfl)
          exact Flow.does_skip (wanted_no rfl rfl eg) (fun d hd => by cases hd; rfl)
        · intro act W2 hk
          have eg : act.tmps[10]?.getD undef = .bool false := hk.v 10 (by kernel_rfl)
          exact Flow.does_skip (wanted_no rfl rfl eg) (fun d hd => by cases hd; rfl)
        · intro act W2 hk
          refine Flow.does_intro rfl (fun K hK => ?_)
          have e10 : act.tmps[10]?.getD undef = .bool false := hk.v 10 (by kernel_rfl)
          clear hk
          go_simp
          exact hK _ _ (Ext.refl _) (fun d hd => by cases hd; rfl)
        · intro act W2 hk
          refine Flow.does_intro rfl (fun K hK => ?_)
          have e16 : act.tmps[16]?.getD undef = .bool false := hk.v 16 (by kernel_rfl)
          clear hk
          go_simp
          exact hK _ _ (Ext.refl _) (fun d hd => by cases hd; rfl)
        · intro act W2 hk
          have eg : act.tmps[17]?.getD undef = .bool false := hk.v 17 (by kernel_rfl)
          exact Flow.does_skip (wanted_no rfl rfl eg) (fun d hd => by cases hd; rfl)
        · intro act W2 hk
          have eg : act.tmps[17]?.getD undef = .bool false := hk.v 17 (by kernel_rfl)
          exact Flow.does_skip (wanted_no rfl rfl eg) (fun d hd => by cases hd; rfl)
        · intro act W2 hk
          have eg : act.tmps[17]?.getD undef = .bool false := hk.v 17 (by kernel_rfl)
          exact Flow.does_skip (wanted_no rfl rfl eg) (fun d hd => by cases hd; rfl)
        · intro act W2 hk
          have eg : act.tmps[17]?.getD undef = .bool false := hk.v 17 (by kernel_rfl)
          exact Flow.does_skip (wanted_no rfl rfl eg) (fun d hd => by cases hd; rfl)
        · intro act W2 hk
          have eg : act.tmps[17]?.getD undef = .bool false := hk.v 17 (by kernel_rfl)
          exact Flow.does_skip (wanted_no rfl rfl eg) (fun d hd => by cases hd; rfl)
        · intro act W2 hk
          refine Flow.does_intro rfl (fun K hK => ?_)
          have e17 : act.tmps[17]?.getD undef = .bool false := hk.v 17 (by kernel_rfl)
          clear hk
          go_simp
          exact hK _ _ (Ext.refl _) (fun d hd => by cases hd; rfl)
        · intro act W2 hk
          refine Flow.does_intro rfl (fun K hK => ?_)
          have e23 : act.tmps[23]?.getD undef = .bool false := hk.v 23 (by kernel_rfl)
          clear hk
          go_simp
          exact hK _ _ (Ext.refl _) (fun d hd => by cases hd; rfl)
      · intro act W2 he
        have hxW2 := Hd.mk ((Ext.drew W).trans he.ext)
        obtain ⟨us, hA, hF⟩ := he.out [5, 6, 7, 8, 9, 10, 11, 12, 13, 14, 15, 16, 17, 18, 19, 20, 21, 22, 23, 4] (by kernel_rfl)
        simp only [Flow.fillL, List.contains_cons, List.contains_nil, Nat.reduceBEq, Bool.or_false, Bool.false_or, Bool.or_true, Bool.true_or, ↓reduceIte, Nat.reduceAdd, Bool.false_eq_true] at hA
        subst hA
        have f4 : us 4 = .bool false := hF 4 (by simp)
        clear hF he
        rw [f4]
        clear f4
        refine (show wpList _ _ _ [] _ _ from ?_)
        go_wp2_with fail
        go_ret
        exact ⟨rfl, kx.out.trans hxW2.out⟩
end Go.Proofs.Ytgkgedjmnbjalaa
set_option linter.unusedSimpArgs false
namespace Go.Proofs.Ytgkgedjmnbjalaa
open Go.RowKit Go.Sort
structure S28 where
  kind : Int
  n : Int
  tree : T
structure SRow28 (w : World) (A : Option Addr) (l : List S28) (c : Nat) : Prop where
  cap : l.length ≤ c
  len : l.length ≤ 1048576
  nul : A = none → c = 0
  step : ∀ (i : Nat) s, l[i]? = some s → s.tree.size ≤ 1048576 ∧ ∃ b off cs, A = some ⟨b, off, none⟩ ∧ RT (fun _ => True) w s.tree cs ∧ ∀ j v, (Value.int .i64 s.kind :: .int .i64 s.n :: cs)[j]? = some v → w.cell? ⟨b, off + i * 8 + j, none⟩ = some v
theorem SRow28.ext {w w' : World} {A : Option Addr} {l : List S28} {c : Nat} (h : SRow28 w A l c) (hx : Ext w w') : SRow28 w' A l c :=
  ⟨h.cap, h.len, h.nul, fun i s hi => by
    obtain ⟨h0, b, off, cs, h1, h2, h3⟩ := h.step i s hi
    exact ⟨h0, b, off, cs, h1, h2.ext hx, fun j v hv => Ext.cell hx (h3 j v hv)⟩⟩
def mayT (t : T) : Bool := decide (t.size ≤ 200) && decide (t.name = ⟨#[]⟩) && decide (t.key = ⟨#[]⟩) && (decide (t.kind = 0) && decide (t.num = 0) && decide (t.text = ⟨#[]⟩)) && rightT t
theorem mayT_iff {t : T} : mayT t = true ↔ t.size ≤ 200 ∧ t.name = ⟨#[]⟩ ∧ t.key = ⟨#[]⟩ ∧ t.kind = 0 ∧ t.num = 0 ∧ t.text = ⟨#[]⟩ ∧ rightT t = true := by
  simp only [mayT, Bool.and_eq_true, decide_eq_true_eq]
  exact ⟨fun ⟨⟨⟨⟨a, b⟩, c⟩, ⟨d, e⟩, f⟩, g⟩ => ⟨a, b, c, d, e, f, g⟩, fun ⟨a, b, c, d, e, f, g⟩ => ⟨⟨⟨⟨a, b⟩, c⟩, ⟨d, e⟩, f⟩, g⟩⟩
def may28 (l : List S28) : Bool := l.all (fun s => mayT s.tree) && decide (l.length ≤ 40)
end Go.Proofs.Ytgkgedjmnbjalaa
set_option linter.unusedSimpArgs false
namespace Go.Proofs.Ytgkgedjmnbjalaa
open Go.RowKit Go.Sort
theorem RT.one {S : Nat → Prop} {w : World} {t : T} {c : List Value} (h : RT S w t c) : c.all (·.oneCell') = true := by cases h; rfl
theorem RRow.flat {S : Nat → Prop} {w : World} {K : Option Addr} {l : List T} {kc : Nat} (h : RRow S w K l kc) : ∃ css : List (List Value), css.length = l.length ∧ (∀ c ∈ css, c.length = 6) ∧
    (l ≠ [] → ∃ b off, K = some ⟨b, off, none⟩ ∧ S b ∧ ∀ j v, css.flatten[j]? = some v → w.cell? ⟨b, off + j, none⟩ = some v) ∧ ∀ (i : Nat) k c, l[i]? = some k → css[i]? = some c → RT S w k c := by
  have h2 : RT S w (.mk ⟨#[]⟩ ⟨#[]⟩ 0 0 ⟨#[]⟩ l) (cT ⟨#[]⟩ ⟨#[]⟩ 0 0 ⟨#[]⟩ K l.length kc) := RT.of_row (t := .mk ⟨#[]⟩ ⟨#[]⟩ 0 0 ⟨#[]⟩ l) h
  generalize hc : cT _ _ _ _ _ _ _ _ = c at h2
  cases h2 with
  | mk name key kind num text kids K' kc' css hl h6 hK hr hb =>
    simp only [cT, List.cons.injEq, Value.slice.injEq, true_and, and_true] at hc
    obtain ⟨rfl, _⟩ := hc
    exact ⟨css, hl, h6, hK, hr⟩
theorem all_one {S : Nat → Prop} {w : World} {l : List T} {css : List (List Value)} (hl : css.length = l.length) (hr : ∀ (i : Nat) k c, l[i]? = some k → css[i]? = some c → RT S w k c) : css.flatten.all (·.oneCell') = true := by
  rw [List.all_eq_true]
  intro v hv
  obtain ⟨c, hc, hvc⟩ := List.mem_flatten.1 hv
  obtain ⟨i, hi⟩ := List.getElem?_of_mem hc
  have hlt := (List.getElem?_eq_some_iff.1 hi).1
  exact List.all_eq_true.1 (hr i _ c (List.getElem?_eq_getElem (by omega : i < l.length)) hi).one v hvc
theorem wpl_append' {P : Program} {ops : Array Oper} {rest : List Oper} {a : Act} {w : World} {Q : Exit → Act → World → Prop} {T E : TypeId} {sz by_ : Nat} (hT : SlT P T E sz by_) (hsz : 0 < sz) (hby : 0 < by_)
    (s x : Operand) (d : Tmp) (p1 : TypeId) (p2 : String) (p3 : Array Edge) (base : Nat)
    (v : Value) (n : Nat) (xs : List Value) (hs : a.eval s = v) (hown : w.ownsRow base E sz v n xs)
    (ad : Addr) (m c : Nat) (news : List Value) (hx : a.eval x = .slice (some ad) m c) (hl : news.length = m * sz) (hnews : ∀ j u, news[j]? = some u → w.cell? (ad.add j) = some u)
    (h1 : news.all (·.oneCell') = true) (hbytes : (n + m) * by_ ≤ 140737488355328) (hbase : base ≤ w.heap.size)
    (h : ∀ v' w', w'.ownsRow base E sz v' (n + m) (xs ++ news) → w.grownBy w' v.ownBlock → (v'.ownBlock = v.ownBlock ∨ v'.ownBlock = some w.heap.size) → wpList P ops Q rest (a.put (some d) v') w') :
    wpList P ops Q (⟨some d, .call { callee := .builtin .append, args := #[s, x], argTypes := #[T, T] }, p1, p2, p3, none⟩ :: rest) a w := by
  obtain ⟨ht, i, z, hi, hz, hz1, hz2, hz3⟩ := hT
  have hle : n + m ≤ 140737488355328 := Nat.le_trans (Nat.le_mul_of_pos_right _ hby) hbytes
  exact wpList_append_own_at w rfl s x T rfl base E i z sz by_ ht hi hz hz1 hz2 hz3 hsz v n xs hs hown ad m c news hx hl hnews
    (by rw [List.all_eq_true] at h1; exact h1) (by simp only [maxLen]; omega) hbytes hbase fun v' w' a1 a2 _ a4 => h v' w' a1 a2 a4
set_option maxRecDepth 100000 in
set_option maxHeartbeats 1000000 in
theorem clone_nodes {S : Nat → Prop} {w0 w : World} {K : Option Addr} {l : List T} {c : Nat} (h : RRow S w0 K l c) (hx0 : Ext w0 w) :
    Calls Try.prog 145 #[.slice K l.length c] w (Ret fun w' v => ∃ css : List (List Value), css.length = l.length ∧ (∀ c ∈ css, c.length = 6) ∧ (∀ (i : Nat) k c, l[i]? = some k → css[i]? = some c → RT S w0 k c) ∧
      w'.ownsRow w.heap.size 54 6 v l.length css.flatten ∧ Ext w w') := by
  obtain ⟨css, h1, h2, h3, h4⟩ := h.flat
  have hlen := h.len
  have hnul := h.nul
  have k1 := Hd.mk h1
  have k2 := Hd.mk h2
  have k3 := Hd.mk h3
  have k4 := Hd.mk h4
  have hfl := Hd.mk (flatten_len css h2)
  have kx0 := Hd.mk hx0
  clear h h1 h2 h3 h4 hx0
  have hq := fun W => Lib.run_eql_slice_nil (P := Try.prog) W 52 54 K l.length c 0 0 Try.underlying52
  cases K with
  | none =>
    have hc := hnul rfl
    subst hc
    simp only [Option.isNone_none] at hq
    have hl0 : l.length = 0 := by
      cases l with
      | nil => rfl
      | cons x l => obtain ⟨b, off, h, _⟩ := k3.out (by simp); cases h
    rw [hl0] at hq ⊢
    have hl0 := Hd.mk hl0
    clear hnul hlen
    go_enter Try.func145, Try.ntmps145
    go_wp2_with fail
    go_ret
    have hc0 : css = [] := List.eq_nil_of_length_eq_zero (by rw [k1.out]; exact hl0.out)
    exact ⟨_, rfl, css, by rw [k1.out, hl0.out], k2.out, k4.out, by subst hc0; exact ⟨rfl, .inl ⟨rfl, rfl⟩⟩, Ext.refl _⟩
  | some ad =>
    clear hnul
    simp only [Option.isNone_some] at hq
    go_enter Try.func145, Try.ntmps145
    go_wp2_with ((with_reducible refine stop_at (.call { callee := .builtin .append, args := #[.tmp 5, .tmp 6], argTypes := #[52, 52] }) ?_))
    refine Stop.mk ?_
    have hx := Hd.mk (Ext.alloc w (.cells #[] 54))
    have hlt : w.heap.size ≤ (w.alloc (.cells #[] 54)).heap.size := hx.out.size
    refine wpl_append' sl52 (by omega) (by omega) (.tmp 5) (.tmp 6) 7 _ _ _ w.heap.size (.slice (some ⟨w.heap.size, 0, none⟩) 0 0) 0 [] rfl
      (own_new (Nat.le_refl _) (Nat.zero_le _) rfl) ad l.length c css.flatten rfl (by rw [hfl.out, k1.out]) (fun j u hj => ?_) (all_one k1.out k4.out) (by omega) hlt ?_
    · have hne : l ≠ [] := by
        rintro rfl
        have : css = [] := List.eq_nil_of_length_eq_zero (by rw [k1.out]; rfl)
        subst this
        simp at hj
      obtain ⟨b, off, he, _, hc⟩ := k3.out hne
      cases he
      rw [addr_add]
      exact Ext.cell (kx0.out.trans hx.out) (hc j u hj)
    intro v' w' hown hgr _
    have hown := Hd.mk hown
    have hgr := Hd.mk hgr
    go_wp2_with fail
    go_ret
    refine ⟨_, rfl, css, k1.out, k2.out, k4.out, ?_, own_below hx.out hgr.out (Nat.le_refl _) hlt⟩
    have := hown.out
    rw [Nat.zero_add, List.nil_append] at this
    exact this
end Go.Proofs.Ytgkgedjmnbjalaa
set_option linter.unusedSimpArgs false
namespace Go.Proofs.Ytgkgedjmnbjalaa
open Go.RowKit Go.Sort
theorem strE_yes {a : ByteArray} (h : a = ⟨#[]⟩) : a.toList = [] := by
  have h2 : (ByteArray.mk #[]).toList = [] := by unfold ByteArray.toList; unfold ByteArray.toList.loop; rfl
  rw [h, h2]
theorem strE_ne {a : ByteArray} (h : ¬ a = ⟨#[]⟩) : ¬ a.toList = [] := fun e => by
  have h1 := str_eq a ⟨#[]⟩
  rw [decide_eq_false h, e] at h1
  simp at h1
theorem may_take {l : List S28} {j : Nat} {s : S28} (h : l[j]? = some s) : (l.take (j + 1)).all (fun s => mayT s.tree) = ((l.take j).all (fun s => mayT s.tree) && mayT s.tree) := by
  rw [List.take_add_one, h]; simp
theorem may_not {l : List S28} {j : Nat} {s : S28} (h : l[j]? = some s) (hn : mayT s.tree = false) : may28 l = false := by
  have hm := List.mem_of_getElem? h
  have : l.all (fun s => mayT s.tree) = false := by
    rw [List.all_eq_false]
    exact ⟨s, hm, by simp [hn]⟩
  simp [may28, this]
theorem may_false {t : T} (h : ¬ (t.size ≤ 200 ∧ t.name = ⟨#[]⟩ ∧ t.key = ⟨#[]⟩ ∧ t.kind = 0 ∧ t.num = 0 ∧ t.text = ⟨#[]⟩ ∧ rightT t = true)) : mayT t = false := by
  cases hm : mayT t with
  | false => rfl
  | true => exact absurd (mayT_iff.1 hm) h
set_option maxRecDepth 100000 in
set_option maxHeartbeats 2000000 in
theorem may28_walk (l : List S28) (w : World) (A : Option Addr) (c : Nat) (h : SRow28 w A l c) :
    Calls Try.prog 76 #[.slice A l.length c] w fun e w' => e = .returned (.bool (may28 l)) ∧ Ext w w' := by
  have kr := Hd.mk h
  have hlen := h.len
  clear h
  generalize hr0 : may28 l = r
  replace hr0 := Hd.mk hr0
  go_enter Try.func76, Try.ntmps76
  go_wp2_with fail
  go_loopg [3] (l.length + 1) (fun q i wr => ∃ j : Nat, j ≤ l.length ∧ Hd (l.length - j < q) ∧ i = .int .i64 j ∧ Hd ((l.take j).all (fun s => mayT s.tree) = true) ∧ Hd (Ext w wr))
  case atStart => exact ⟨0, Nat.zero_le _, ⟨by omega⟩, rfl, ⟨by simp⟩, ⟨Ext.refl _⟩⟩
  case round =>
  obtain ⟨j, hj, hq, rfl, hI, kx⟩ := hrel
  generalize wr = W at *
  by_cases hlt : j < l.length
  · have hx1 := List.getElem?_eq_getElem hlt
    generalize l[j] = s at hx1
    obtain ⟨hsz, b, off, cs, rfl, hrt, hc⟩ := kr.out.step j s hx1
    have hnot := Hd.mk (fun hn => hr0.out.symm.trans (may_not hx1 hn))
    have hyes := Hd.mk (may_take hx1)
    generalize s.tree = t at hrt hnot hyes hsz
    obtain ⟨K, kc, rfl, _⟩ := hrt.row
    have rt := Hd.mk (hrt.ext kx.out)
    simp only [cT] at rt hc
    have c2 := Ext.cell kx.out (hc 2 _ rfl)
    have c3 := Ext.cell kx.out (hc 3 _ rfl)
    have c4 := Ext.cell kx.out (hc 4 _ rfl)
    have c5 := Ext.cell kx.out (hc 5 _ rfl)
    have c6 := Ext.cell kx.out (hc 6 _ rfl)
    have c7 := Ext.cell kx.out (hc 7 _ rfl)
    clear hc hrt hx1
    go_wp2_with fail
    clear c2 c3 c4 c5 c6 c7
    replace rt := Hd.mk (rt.out.ext (Ext.alloc W (.cells #[.string t.name, .string t.key, .int .i64 t.kind, .int .u64 t.num, .string t.text, .slice K t.kids.length kc] 54)))
    replace kx := Hd.mk (kx.out.trans (Ext.alloc W (.cells #[.string t.name, .string t.key, .int .i64 t.kind, .int .u64 t.num, .string t.text, .slice K t.kids.length kc] 54)))
    have kB := Hd.mk (Blk.new W #[.string t.name, .string t.key, .int .i64 t.kind, .int .u64 t.num, .string t.text, .slice K t.kids.length kc] 54)
    generalize W.heap.size = pB at *
    generalize W.alloc _ = V at *
    refine Calls.mono (ref_size t.size t (fun _ => True) _ _ (Nat.le_refl _) hsz rt.out) ?_
    rintro e w1 ⟨rfl, hx⟩
    replace kx := Hd.mk (kx.out.trans hx)
    replace kB := Hd.mk (kB.out.ext hx)
    replace rt := Hd.mk (rt.out.ext hx)
    clear hx
    by_cases h1 : (200 : Int) < (t.size : Int)
    · obtain rfl : r = false := hnot.out (may_false (fun h => by omega))
      have gB := kB.out.cell
      clear hnot hyes hr0
      go_wp2_with fail
      go_ret
      exact ⟨rfl, kx.out⟩
    by_cases h2 : ¬ t.name = ⟨#[]⟩
    · obtain rfl : r = false := hnot.out (may_false (fun h => by exact h2 h.2.1))
      have gB := kB.out.cell
      clear hnot hyes hr0
      have sN := strE_ne h2
      go_wp2_with fail
      go_ret
      exact ⟨rfl, kx.out⟩
    replace h2 := Decidable.of_not_not h2
    have sN := strE_yes h2
    by_cases h3 : ¬ t.key = ⟨#[]⟩
    · obtain rfl : r = false := hnot.out (may_false (fun h => by exact h3 h.2.2.1))
      have gB := kB.out.cell
      clear hnot hyes hr0
      have sK := strE_ne h3
      go_wp2_with fail
      go_ret
      exact ⟨rfl, kx.out⟩
    replace h3 := Decidable.of_not_not h3
    have sK := strE_yes h3
    by_cases h4 : ¬ t.kind = 0
    · obtain rfl : r = false := hnot.out (may_false (fun h => by exact h4 h.2.2.2.1))
      have gB := kB.out.cell
      clear hnot hyes hr0
      go_wp2_with fail
      go_ret
      exact ⟨rfl, kx.out⟩
    replace h4 := Decidable.of_not_not h4
    by_cases h5 : ¬ t.num = 0
    · obtain rfl : r = false := hnot.out (may_false (fun h => by exact h5 h.2.2.2.2.1))
      have gB := kB.out.cell
      clear hnot hyes hr0
      go_wp2_with fail
      go_ret
      exact ⟨rfl, kx.out⟩
    replace h5 := Decidable.of_not_not h5
    by_cases h6 : ¬ t.text = ⟨#[]⟩
    · obtain rfl : r = false := hnot.out (may_false (fun h => by exact h6 h.2.2.2.2.2.1))
      have gB := kB.out.cell
      clear hnot hyes hr0
      have sT := strE_ne h6
      go_wp2_with fail
      go_ret
      exact ⟨rfl, kx.out⟩
    replace h6 := Decidable.of_not_not h6
    have sT := strE_yes h6
    have hm7 := Hd.mk (show mayT t = rightT t from by cases hq7 : rightT t with | true => exact mayT_iff.2 ⟨by omega, h2, h3, h4, h5, h6, hq7⟩ | false => exact may_false (fun h => by have h7 := h.2.2.2.2.2.2; rw [hq7] at h7; cases h7))
    rw [h4, h5] at rt
    have gB := kB.out.cell
    replace h2 := Hd.mk h2
    replace h3 := Hd.mk h3
    replace h6 := Hd.mk h6
    go_wp2_with fail
    refine Calls.mono (ref_right t.deep t (fun _ => True) _ _ (Nat.le_refl _) rt.out) ?_
    rintro e w2 ⟨rfl, hx⟩
    replace kx := Hd.mk (kx.out.trans hx)
    clear hx gB rt kB
    cases hq7 : rightT t with
    | false =>
      obtain rfl : r = false := hnot.out (hm7.out.trans hq7)
      clear hnot hyes hr0 hm7
      go_wp2_with fail
      go_ret
      exact ⟨rfl, kx.out⟩
    | true =>
      have hy := Hd.mk (hm7.out.trans hq7)
      clear hm7 hq7 hnot
      go_wp2_with fail
      go_roundg (l.length - j)
      case measure => have := hq.out; omega
      case rel => exact ⟨j + 1, by omega, ⟨by omega⟩, by go_num, ⟨by rw [hyes.out, hI.out, hy.out]; rfl⟩, kx⟩
  · have hjn : j = l.length := by omega
    have hr : r = decide ((l.length : Int) ≤ 40) := by
      rw [← hr0.out]
      have h9 := hI.out
      rw [hjn, List.take_length] at h9
      simp only [may28, h9, Bool.true_and]
      congr 1
      simp only [eq_iff_iff]
      omega
    subst hr
    have hnl : ¬ (j : Int) < (l.length : Int) := by omega
    clear hjn hr0
    by_cases h40 : (l.length : Int) ≤ 40
    · go_wp2_with fail
      go_ret
      exact ⟨by simp [h40], kx.out⟩
    · go_wp2_with fail
      go_ret
      exact ⟨by simp [h40], kx.out⟩
end Go.Proofs.Ytgkgedjmnbjalaa
