/- Right of the document's trees.
   Conditions: none. -/
import Derived.Test.YtgkgedjmnbjalaaTD
set_option linter.unusedSimpArgs false
namespace Go.Proofs.Ytgkgedjmnbjalaa
open Go.RowKit Go.Sort

mutual
/-- A tree is right. -/
def rightT : T → Bool
  | .mk _ _ d m t l => if d = 0 then (decide (m = 0) && decide (t = ⟨#[]⟩)) && rightL none l else l.isEmpty
def rightL : Option T → List T → Bool
  | _, [] => true
  | p, x :: l => rightT x && (match p with | none => true | some y => lessT y x) && rightL (some x) l
end
def prevOf (l : List T) (j : Nat) : Option T := if j = 0 then none else l[j - 1]?
theorem rightL_cons (p : Option T) (x : T) (l : List T) : rightL p (x :: l) = (rightT x && (match p with | none => true | some y => lessT y x) && rightL (some x) l) := by cases p <;> rfl
theorem rightL_drop {l : List T} {j : Nat} {x : T} (hx : l[j]? = some x) : rightL (prevOf l j) (l.drop j) = (rightT x && (match prevOf l j with | none => true | some y => lessT y x) && rightL (prevOf l (j + 1)) (l.drop (j + 1))) := by
  obtain ⟨h1, h2⟩ := List.getElem?_eq_some_iff.1 hx
  rw [List.drop_eq_getElem_cons h1, rightL_cons, h2, show prevOf l (j + 1) = some x from by rw [prevOf, if_neg (by omega)]; exact hx]
theorem prevOf_zero (l : List T) : prevOf l 0 = none := rfl
theorem prevOf_succ (l : List T) (j : Nat) : prevOf l (j + 1) = l[j]? := rfl

set_option maxRecDepth 100000 in
set_option maxHeartbeats 4000000 in
theorem ref_right : ∀ (N : Nat) (a : T) (S : Nat → Prop) (w : World) (c : List Value), a.deep ≤ N → RT S w a c →
    Calls Try.prog 57 #[.agg c.toArray] w fun e w' => e = .returned (.bool (rightT a)) ∧ Ext w w'
  | 0, a, S, w, c, hn, _ => by rw [a.deep_eq] at hn; omega
  | N + 1, .mk n k d m t l, S, w, c, hn, ha => by
    obtain ⟨K1, c1, rfl, hr1⟩ := ha.row
    simp only [T.name, T.key, T.kind, T.num, T.text, T.kids] at hr1 ⊢
    have kr1 := Hd.mk hr1
    have kn := Hd.mk (show deepL l ≤ N by rw [T.deep_eq] at hn; simp only [T.kids] at hn; omega)
    have hl1 := hr1.len
    have ih := Hd.mk (ref_right N)
    have hright : rightT (.mk n k d m t l) = if d = 0 then (decide (m = 0) && decide (t = ⟨#[]⟩)) && rightL none l else l.isEmpty := rfl
    clear hr1 ha hn
    generalize rightT _ = r at *
    simp only [cT]
    by_cases h0 : d = 0
    · subst h0
      rw [if_pos rfl] at hright
      by_cases h1 : m = 0
      · subst h1
        by_cases h2 : t = ⟨#[]⟩
        · subst h2
          have hr : r = rightL (prevOf l 0) (l.drop 0) := by rw [hright]; rfl
          clear hright
          go_enter Try.func57, Try.ntmps57
          go_wp2_with fail
          have kA := Hd.mk (Blk.new w #[.string n, .string k, .int .i64 0, .int .u64 0, .string ⟨#[]⟩, .slice K1 l.length c1] 54)
          have kx := Hd.mk (Ext.alloc w (.cells #[.string n, .string k, .int .i64 0, .int .u64 0, .string ⟨#[]⟩, .slice K1 l.length c1] 54))
          generalize w.heap.size = pA at *
          generalize w.alloc _ = W at *
          replace hr := Hd.mk hr
          go_loopg [3, 4] (l.length + 1) (fun q i _ wr => ∃ j : Nat, j ≤ l.length ∧ Hd (q = l.length + 1 - j) ∧ i = .int .i64 j ∧ Hd (r = rightL (prevOf l j) (l.drop j)) ∧ Hd (Ext W wr))
          case atStart => exact ⟨0, by omega, ⟨by omega⟩, rfl, hr, ⟨Ext.refl _⟩⟩
          case round =>
          obtain ⟨j, hj, hq, rfl, hI, hxr⟩ := hrel
          have gA := (kA.out.ext hxr.out).cell
          by_cases hlt : j < l.length
          · have hx1 := List.getElem?_eq_getElem hlt
            generalize l[j] = x at hx1
            obtain ⟨b1, o1, ck, rfl, _, hrk, hck⟩ := kr1.out.kid j x hx1
            obtain ⟨K3, c3, rfl, _⟩ := hrk.row
            have hcall := Hd.mk (fun W' (h : Ext w W') => ih.out x S W' _ (by have := deepL_mem hx1; have := kn.out; omega) (hrk.ext h))
            have hdrop := Hd.mk (rightL_drop hx1)
            obtain ⟨e0, e1, e2, e3, e4, e5⟩ := six (kx.out.trans hxr.out) hck
            simp only [cT] at hcall
            go_wp2_with fail
            refine (hcall.out wr (kx.out.trans hxr.out)).mono ?_
            rintro e w2 ⟨rfl, hx2⟩
            clear hcall e0 e1 e2 e3 e4 e5 gA
            replace hxr := Hd.mk (hxr.out.trans hx2)
            clear hx2
            have kA2 := Hd.mk (kA.out.ext hxr.out)
            generalize w2 = W0 at *
            cases hs : rightT x with
            | false =>
              have hr0 : r = false := by rw [hI.out, hdrop.out, hs]; rfl
              subst hr0
              go_wp2_with fail
              refine Flow.wp_region_flow_l (fun t => match t with
                | 30 => SP.eq (.bool false)
                | 31 => SP.eq (.bool true)
                | 32 => SP.eq (.bool true)
                | 33 => SP.eq (undef)
                | 34 => SP.eq (undef)
                | 35 => SP.eq (undef)
                | 36 => SP.eq (undef)
                | 37 => SP.eq (undef)
                | 38 => SP.eq (undef)
                | 39 => SP.eq (undef)
                | 40 => SP.eq (undef)
                | 41 => SP.eq (undef)
                | 42 => SP.eq (undef)
                | 43 => SP.eq (undef)
                | 44 => SP.eq (undef)
                | 45 => SP.eq (undef)
                | 46 => SP.eq (undef)
                | 47 => SP.eq (undef)
                | 48 => SP.eq (undef)
                | 49 => SP.eq (undef)
                | 50 => SP.eq (.bool true)
                | _ => SP.any) 21 (by kernel_rfl) 51 rfl (by kernel_rfl) ?_ ?_
              · skip
                refine ⟨?_, ?_, ?_, ?_, ?_, ?_, ?_, ?_, ?_, ?_, ?_, ?_, ?_, ?_, ?_, ?_, ?_, ?_, ?_, ?_, ?_, trivial⟩
                · intro act W2 hk
                  refine Flow.does_intro rfl (fun K hK => ?_)
                  have e4 : act.tmps[4]?.getD undef = .bool false := hk.o 4 (by kernel_rfl)
                  clear hk
                  go_simp
                  exact hK _ _ (Ext.refl _) (fun d hd => by cases hd; rfl)
                · intro act W2 hk
                  refine Flow.does_intro rfl (fun K hK => ?_)
                  have e30 : act.tmps[30]?.getD undef = .bool false := hk.v 30 (by kernel_rfl)
                  clear hk
                  go_simp
                  exact hK _ _ (Ext.refl _) (fun d hd => by cases hd; rfl)
                · intro act W2 hk
                  refine Flow.does_intro rfl (fun K hK => ?_)
                  have e31 : act.tmps[31]?.getD undef = .bool true := hk.v 31 (by kernel_rfl)
                  clear hk
                  go_simp
                  exact hK _ _ (Ext.refl _) (fun d hd => by cases hd; rfl)
                · intro act W2 hk
                  have eg : act.tmps[32]?.getD undef = .bool true := hk.v 32 (by kernel_rfl)
                  exact Flow.does_skip (wanted_no rfl rfl eg) (fun d hd => by cases hd; rfl)
                · intro act W2 hk
                  have eg : act.tmps[32]?.getD undef = .bool true := hk.v 32 (by kernel_rfl)
                  exact Flow.does_skip (wanted_no rfl rfl eg) (fun d hd => by cases hd; rfl)
                · intro act W2 hk
                  have eg : act.tmps[32]?.getD undef = .bool true := hk.v 32 (by kernel_rfl)
                  exact Flow.does_skip (wanted_no rfl rfl eg) (fun d hd => by cases hd; rfl)
                · intro act W2 hk
                  have eg : act.tmps[35]?.getD undef = undef := hk.v 35 (by kernel_rfl)
                  exact Flow.does_skip (wanted_off rfl rfl eg) (fun d hd => by cases hd; rfl)
                · intro act W2 hk
                  have eg : act.tmps[35]?.getD undef = undef := hk.v 35 (by kernel_rfl)
                  exact Flow.does_skip (wanted_off rfl rfl eg) (fun d hd => by cases hd; rfl)
                · intro act W2 hk
                  have eg : act.tmps[35]?.getD undef = undef := hk.v 35 (by kernel_rfl)
                  exact Flow.does_skip (wanted_off rfl rfl eg) (fun d hd => by cases hd; rfl)
                · intro act W2 hk
                  have eg : act.tmps[35]?.getD undef = undef := hk.v 35 (by kernel_rfl)
                  exact Flow.does_skip (wanted_off rfl rfl eg) (fun d hd => by cases hd; rfl)
                · intro act W2 hk
                  have eg : act.tmps[35]?.getD undef = undef := hk.v 35 (by kernel_rfl)
                  exact Flow.does_skip (wanted_off rfl rfl eg) (fun d hd => by cases hd; rfl)
                · intro act W2 hk
                  have eg : act.tmps[35]?.getD undef = undef := hk.v 35 (by kernel_rfl)
                  exact Flow.does_skip (wanted_off rfl rfl eg) (fun d hd => by cases hd; rfl)
                · intro act W2 hk
                  have eg : act.tmps[35]?.getD undef = undef := hk.v 35 (by kernel_rfl)
                  exact Flow.does_skip (wanted_off rfl rfl eg) (fun d hd => by cases hd; rfl)
                · intro act W2 hk
                  have eg : act.tmps[35]?.getD undef = undef := hk.v 35 (by kernel_rfl)
                  exact Flow.does_skip (wanted_off rfl rfl eg) (fun d hd => by cases hd; rfl)
                · intro act W2 hk
                  have eg : act.tmps[35]?.getD undef = undef := hk.v 35 (by kernel_rfl)
                  exact Flow.does_skip (wanted_off rfl rfl eg) (fun d hd => by cases hd; rfl)
                · intro act W2 hk
                  have eg : act.tmps[35]?.getD undef = undef := hk.v 35 (by kernel_rfl)
                  exact Flow.does_skip (wanted_off rfl rfl eg) (fun d hd => by cases hd; rfl)
                · intro act W2 hk
                  have eg : act.tmps[35]?.getD undef = undef := hk.v 35 (by kernel_rfl)
                  exact Flow.does_skip (wanted_off rfl rfl eg) (fun d hd => by cases hd; rfl)
                · intro act W2 hk
                  have eg : act.tmps[35]?.getD undef = undef := hk.v 35 (by kernel_rfl)
                  exact Flow.does_skip (wanted_off rfl rfl eg) (fun d hd => by cases hd; rfl)
                · intro act W2 hk
                  have eg : act.tmps[35]?.getD undef = undef := hk.v 35 (by kernel_rfl)
                  exact Flow.does_skip (wanted_off rfl rfl eg) (fun d hd => by cases hd; rfl)
                · intro act W2 hk
                  have eg : act.tmps[32]?.getD undef = .bool true := hk.v 32 (by kernel_rfl)
                  exact Flow.does_skip (wanted_no rfl rfl eg) (fun d hd => by cases hd; rfl)
                · intro act W2 hk
                  refine Flow.does_intro rfl (fun K hK => ?_)
                  have e32 : act.tmps[32]?.getD undef = .bool true := hk.v 32 (by kernel_rfl)
                  clear hk
                  go_simp
                  exact hK _ _ (Ext.refl _) (fun d hd => by cases hd; rfl)
              · intro act W2 he
                have hxW2 := Hd.mk ((Ext.drew W0).trans he.ext)
                obtain ⟨us, hA, hF⟩ := he.out [30, 31, 32, 33, 34, 35, 36, 37, 38, 39, 40, 41, 42, 43, 44, 45, 46, 47, 48, 49, 50] (by kernel_rfl)
                simp only [Flow.fillL, List.contains_cons, List.contains_nil, Nat.reduceBEq, Bool.or_false, Bool.false_or, Bool.or_true, Bool.true_or, ↓reduceIte, Nat.reduceAdd, Bool.false_eq_true] at hA
                subst hA
                have f50 : us 50 = .bool true := hF 50 (by simp)
                clear hF he
                rw [f50]
                clear f50
                refine (show wpList _ _ _ [] _ _ from ?_)
                go_wp2_with fail
                go_ret
                exact ⟨rfl, (kx.out.trans hxr.out).trans hxW2.out⟩
            | true =>
              by_cases hj0 : j = 0
              · subst hj0
                go_wp2_with fail
                refine Flow.wp_region_flow_l (fun t => match t with
                  | 30 => SP.eq (.bool true)
                  | 31 => SP.eq (.bool false)
                  | 32 => SP.eq (.bool false)
                  | 33 => SP.eq (.int .i64 ((0 : Nat) : Int))
                  | 34 => SP.eq (.bool false)
                  | 35 => SP.eq (.bool false)
                  | 36 => SP.eq (undef)
                  | 37 => SP.eq (undef)
                  | 38 => SP.eq (undef)
                  | 39 => SP.eq (undef)
                  | 40 => SP.eq (undef)
                  | 41 => SP.eq (undef)
                  | 42 => SP.eq (undef)
                  | 43 => SP.eq (undef)
                  | 44 => SP.eq (undef)
                  | 45 => SP.eq (undef)
                  | 46 => SP.eq (undef)
                  | 47 => SP.eq (undef)
                  | 48 => SP.eq (undef)
                  | 49 => SP.eq (.bool false)
                  | 50 => SP.eq (.bool false)
                  | _ => SP.any) 21 (by kernel_rfl) 51 rfl (by kernel_rfl) ?_ ?_
                · skip
                  refine ⟨?_, ?_, ?_, ?_, ?_, ?_, ?_, ?_, ?_, ?_, ?_, ?_, ?_, ?_, ?_, ?_, ?_, ?_, ?_, ?_, ?_, trivial⟩
                  · intro act W2 hk
                    refine Flow.does_intro rfl (fun K hK => ?_)
                    have e4 : act.tmps[4]?.getD undef = .bool true := hk.o 4 (by kernel_rfl)
                    clear hk
                    go_simp
                    exact hK _ _ (Ext.refl _) (fun d hd => by cases hd; rfl)
                  · intro act W2 hk
                    refine Flow.does_intro rfl (fun K hK => ?_)
                    have e30 : act.tmps[30]?.getD undef = .bool true := hk.v 30 (by kernel_rfl)
                    clear hk
                    go_simp
                    exact hK _ _ (Ext.refl _) (fun d hd => by cases hd; rfl)
                  · intro act W2 hk
                    refine Flow.does_intro rfl (fun K hK => ?_)
                    have e31 : act.tmps[31]?.getD undef = .bool false := hk.v 31 (by kernel_rfl)
                    clear hk
                    go_simp
                    exact hK _ _ (Ext.refl _) (fun d hd => by cases hd; rfl)
                  · intro act W2 hk
                    have eg : act.tmps[32]?.getD undef = .bool false := hk.v 32 (by kernel_rfl)
                    refine Flow.does_intro (wanted_yes rfl rfl eg) (fun K hK => ?_)
                    clear eg
                    have e3 : act.tmps[3]?.getD undef = .int .i64 ((0 : Nat) : Int) := hk.o 3 (by kernel_rfl)
                    clear hk
                    go_simp
                    exact hK _ _ (Ext.refl _) (fun d hd => by cases hd; rfl)
                  · intro act W2 hk
                    have eg : act.tmps[32]?.getD undef = .bool false := hk.v 32 (by kernel_rfl)
                    refine Flow.does_intro (wanted_yes rfl rfl eg) (fun K hK => ?_)
                    clear eg
                    have e33 : act.tmps[33]?.getD undef = .int .i64 ((0 : Nat) : Int) := hk.v 33 (by kernel_rfl)
                    clear hk
                    go_simp
                    exact hK _ _ (Ext.refl _) (fun d hd => by cases hd; rfl)
                  · intro act W2 hk
                    have eg : act.tmps[32]?.getD undef = .bool false := hk.v 32 (by kernel_rfl)
                    refine Flow.does_intro (wanted_yes rfl rfl eg) (fun K hK => ?_)
                    clear eg
                    have e34 : act.tmps[34]?.getD undef = .bool false := hk.v 34 (by kernel_rfl)
                    clear hk
                    go_simp
                    exact hK _ _ (Ext.refl _) (fun d hd => by cases hd; rfl)
                  · intro act W2 hk
                    have eg : act.tmps[35]?.getD undef = .bool false := hk.v 35 (by kernel_rfl)
                    exact Flow.does_skip (wanted_no rfl rfl eg) (fun d hd => by cases hd; rfl)
                  · intro act W2 hk
                    have eg : act.tmps[35]?.getD undef = .bool false := hk.v 35 (by kernel_rfl)
                    exact Flow.does_skip (wanted_no rfl rfl eg) (fun d hd => by cases hd; rfl)
                  · intro act W2 hk
                    have eg : act.tmps[35]?.getD undef = .bool false := hk.v 35 (by kernel_rfl)
                    exact Flow.does_skip (wanted_no rfl rfl eg) (fun d hd => by cases hd; rfl)
                  · intro act W2 hk
                    have eg : act.tmps[35]?.getD undef = .bool false := hk.v 35 (by kernel_rfl)
                    exact Flow.does_skip (wanted_no rfl rfl eg) (fun d hd => by cases hd; rfl)
                  · intro act W2 hk
                    have eg : act.tmps[35]?.getD undef = .bool false := hk.v 35 (by kernel_rfl)
                    exact Flow.does_skip (wanted_no rfl rfl eg) (fun d hd => by cases hd; rfl)
                  · intro act W2 hk
                    have eg : act.tmps[35]?.getD undef = .bool false := hk.v 35 (by kernel_rfl)
                    exact Flow.does_skip (wanted_no rfl rfl eg) (fun d hd => by cases hd; rfl)
                  · intro act W2 hk
                    have eg : act.tmps[35]?.getD undef = .bool false := hk.v 35 (by kernel_rfl)
                    exact Flow.does_skip (wanted_no rfl rfl eg) (fun d hd => by cases hd; rfl)
                  · intro act W2 hk
                    have eg : act.tmps[35]?.getD undef = .bool false := hk.v 35 (by kernel_rfl)
                    exact Flow.does_skip (wanted_no rfl rfl eg) (fun d hd => by cases hd; rfl)
                  · intro act W2 hk
                    have eg : act.tmps[35]?.getD undef = .bool false := hk.v 35 (by kernel_rfl)
                    exact Flow.does_skip (wanted_no rfl rfl eg) (fun d hd => by cases hd; rfl)
                  · intro act W2 hk
                    have eg : act.tmps[35]?.getD undef = .bool false := hk.v 35 (by kernel_rfl)
                    exact Flow.does_skip (wanted_no rfl rfl eg) (fun d hd => by cases hd; rfl)
                  · intro act W2 hk
                    have eg : act.tmps[35]?.getD undef = .bool false := hk.v 35 (by kernel_rfl)
                    exact Flow.does_skip (wanted_no rfl rfl eg) (fun d hd => by cases hd; rfl)
                  · intro act W2 hk
                    have eg : act.tmps[35]?.getD undef = .bool false := hk.v 35 (by kernel_rfl)
                    exact Flow.does_skip (wanted_no rfl rfl eg) (fun d hd => by cases hd; rfl)
                  · intro act W2 hk
                    have eg : act.tmps[35]?.getD undef = .bool false := hk.v 35 (by kernel_rfl)
                    exact Flow.does_skip (wanted_no rfl rfl eg) (fun d hd => by cases hd; rfl)
                  · intro act W2 hk
                    have eg : act.tmps[32]?.getD undef = .bool false := hk.v 32 (by kernel_rfl)
                    refine Flow.does_intro (wanted_yes rfl rfl eg) (fun K hK => ?_)
                    clear eg
                    have e35 : act.tmps[35]?.getD undef = .bool false := hk.v 35 (by kernel_rfl)
                    clear hk
                    go_simp
                    exact hK _ _ (Ext.refl _) (fun d hd => by cases hd; rfl)
                  · intro act W2 hk
                    refine Flow.does_intro rfl (fun K hK => ?_)
                    have e32 : act.tmps[32]?.getD undef = .bool false := hk.v 32 (by kernel_rfl)
                    have e49 : act.tmps[49]?.getD undef = .bool false := hk.v 49 (by kernel_rfl)
                    clear hk
                    go_simp
                    exact hK _ _ (Ext.refl _) (fun d hd => by cases hd; rfl)
                · intro act W2 he
                  have hxW2 := Hd.mk ((Ext.drew W0).trans he.ext)
                  obtain ⟨us, hA, hF⟩ := he.out [30, 31, 32, 33, 34, 35, 36, 37, 38, 39, 40, 41, 42, 43, 44, 45, 46, 47, 48, 49, 50] (by kernel_rfl)
                  simp only [Flow.fillL, List.contains_cons, List.contains_nil, Nat.reduceBEq, Bool.or_false, Bool.false_or, Bool.or_true, Bool.true_or, ↓reduceIte, Nat.reduceAdd, Bool.false_eq_true] at hA
                  subst hA
                  have f50 : us 50 = .bool false := hF 50 (by simp)
                  clear hF he
                  rw [f50]
                  clear f50
                  refine (show wpList _ _ _ [] _ _ from ?_)
                  go_wp2_with fail
                  go_roundg (l.length + 1 - (0 + 1))
                  case measure => have := hq.out; omega
                  case rel => exact ⟨0 + 1, by omega, ⟨rfl⟩, by go_num, ⟨by rw [hI.out, hdrop.out, hs]; rfl⟩, ⟨hxr.out.trans hxW2.out⟩⟩
              · obtain ⟨p, hp⟩ : ∃ p, j = p + 1 := ⟨j - 1, by omega⟩
                have hpl : p < l.length := by omega
                have hx0 := List.getElem?_eq_getElem hpl
                generalize l[p] = y at hx0
                have hprev : prevOf l j = some y := by rw [prevOf, if_neg hj0, hp]; exact hx0
                obtain ⟨b2, o2, dk, he2, _, hrd, hdk⟩ := kr1.out.kid p y hx0
                simp only [Option.some.injEq, Addr.mk.injEq, and_true] at he2
                obtain ⟨rfl, rfl⟩ := he2
                obtain ⟨K4, c4, rfl, _⟩ := hrd.row
                have kcx := Hd.mk (fun (q : Nat) v (hv : (cT x.name x.key x.kind x.num x.text K3 x.kids.length c3)[q]? = some v) => Ext.cell (kx.out.trans hxr.out) (hck q v hv))
                have kcy := Hd.mk (fun (q : Nat) v (hv : (cT y.name y.key y.kind y.num y.text K4 y.kids.length c4)[q]? = some v) => Ext.cell (kx.out.trans hxr.out) (hdk q v hv))
                simp only [cT] at kcx kcy
                have hless := Hd.mk (fun w => ref_less y x K4 K3 y.kids.length c4 x.kids.length c3 w)
                simp only [cT] at hless
                replace hp := Hd.mk hp
                replace hpl := Hd.mk hpl
                clear hck hdk hrk hrd hx1 hx0 hj0
                go_wp2_with fail
                cases hle : lessT y x with
                | true =>
                  refine Flow.wp_region_flow_l (fun t => match t with
                    | 30 => SP.eq (.bool true)
                    | 31 => SP.eq (.bool false)
                    | 32 => SP.eq (.bool false)
                    | 33 => SP.eq (.int .i64 (j : Nat))
                    | 34 => SP.eq (.bool true)
                    | 35 => SP.eq (.bool true)
                    | 36 => SP.eq (.pointer (some ⟨pA, 5, none⟩))
                    | 37 => SP.eq (.slice (some ⟨b1, o1, none⟩) l.length c1)
                    | 38 => SP.eq (.int .i64 (j : Nat))
                    | 39 => SP.eq (.int .i64 (p : Nat))
                    | 40 => SP.eq (.pointer (some ⟨b1, o1 + p * 6, none⟩))
                    | 41 => SP.eq (.agg #[.string y.name, .string y.key, .int .i64 y.kind, .int .u64 y.num, .string y.text, .slice K4 y.kids.length c4])
                    | 42 => SP.eq (.pointer (some ⟨pA, 5, none⟩))
                    | 43 => SP.eq (.slice (some ⟨b1, o1, none⟩) l.length c1)
                    | 44 => SP.eq (.int .i64 (j : Nat))
                    | 45 => SP.eq (.pointer (some ⟨b1, o1 + j * 6, none⟩))
                    | 46 => SP.eq (.agg #[.string x.name, .string x.key, .int .i64 x.kind, .int .u64 x.num, .string x.text, .slice K3 x.kids.length c3])
                    | 47 => SP.eq (.bool true)
                    | 48 => SP.eq (.bool false)
                    | 49 => SP.eq (.bool false)
                    | 50 => SP.eq (.bool false)
                    | _ => SP.any) 21 (by kernel_rfl) 51 rfl (by kernel_rfl) ?_ ?_
                  · skip
                    refine ⟨?_, ?_, ?_, ?_, ?_, ?_, ?_, ?_, ?_, ?_, ?_, ?_, ?_, ?_, ?_, ?_, ?_, ?_, ?_, ?_, ?_, trivial⟩
                    · intro act W2 hk
                      refine Flow.does_intro rfl (fun K hK => ?_)
                      have e4 : act.tmps[4]?.getD undef = .bool true := hk.o 4 (by kernel_rfl)
                      clear hk
                      go_simp
                      exact hK _ _ (Ext.refl _) (fun d hd => by cases hd; rfl)
                    · intro act W2 hk
                      refine Flow.does_intro rfl (fun K hK => ?_)
                      have e30 : act.tmps[30]?.getD undef = .bool true := hk.v 30 (by kernel_rfl)
                      clear hk
                      go_simp
                      exact hK _ _ (Ext.refl _) (fun d hd => by cases hd; rfl)
                    · intro act W2 hk
                      refine Flow.does_intro rfl (fun K hK => ?_)
                      have e31 : act.tmps[31]?.getD undef = .bool false := hk.v 31 (by kernel_rfl)
                      clear hk
                      go_simp
                      exact hK _ _ (Ext.refl _) (fun d hd => by cases hd; rfl)
                    · intro act W2 hk
                      have eg : act.tmps[32]?.getD undef = .bool false := hk.v 32 (by kernel_rfl)
                      refine Flow.does_intro (wanted_yes rfl rfl eg) (fun K hK => ?_)
                      clear eg
                      have e3 : act.tmps[3]?.getD undef = .int .i64 (j : Nat) := hk.o 3 (by kernel_rfl)
                      clear hk
                      go_simp
                      exact hK _ _ (Ext.refl _) (fun d hd => by cases hd; rfl)
                    · intro act W2 hk
                      have eg : act.tmps[32]?.getD undef = .bool false := hk.v 32 (by kernel_rfl)
                      refine Flow.does_intro (wanted_yes rfl rfl eg) (fun K hK => ?_)
                      clear eg
                      have e33 : act.tmps[33]?.getD undef = .int .i64 (j : Nat) := hk.v 33 (by kernel_rfl)
                      clear hk
                      go_simp
                      exact hK _ _ (Ext.refl _) (fun d hd => by cases hd; have h1 := hp.out; simp [SP.eq]; omega)
                    · intro act W2 hk
                      have eg : act.tmps[32]?.getD undef = .bool false := hk.v 32 (by kernel_rfl)
                      refine Flow.does_intro (wanted_yes rfl rfl eg) (fun K hK => ?_)
                      clear eg
                      have e34 : act.tmps[34]?.getD undef = .bool true := hk.v 34 (by kernel_rfl)
                      clear hk
                      go_simp
                      exact hK _ _ (Ext.refl _) (fun d hd => by cases hd; rfl)
                    · intro act W2 hk
                      have eg : act.tmps[35]?.getD undef = .bool true := hk.v 35 (by kernel_rfl)
                      refine Flow.does_intro (wanted_yes rfl rfl eg) (fun K hK => ?_)
                      clear eg
                      have e1 : act.tmps[1]?.getD undef = .pointer (some ⟨pA, 0, none⟩) := hk.o 1 (by kernel_rfl)
                      clear hk
                      go_simp
                      exact hK _ _ (Ext.refl _) (fun d hd => by cases hd; rfl)
                    · intro act W2 hk
                      have eg : act.tmps[35]?.getD undef = .bool true := hk.v 35 (by kernel_rfl)
                      refine Flow.does_intro (wanted_yes rfl rfl eg) (fun K hK => ?_)
                      clear eg
                      have e36 : act.tmps[36]?.getD undef = .pointer (some ⟨pA, 5, none⟩) := hk.v 36 (by kernel_rfl)
                      have g := ((kA2.out).ext ((Ext.drew W0).trans hk.ext)).cell
                      clear hk
                      go_simp
                      exact hK _ _ (Ext.refl _) (fun d hd => by cases hd; rfl)
                    · intro act W2 hk
                      have eg : act.tmps[35]?.getD undef = .bool true := hk.v 35 (by kernel_rfl)
                      refine Flow.does_intro (wanted_yes rfl rfl eg) (fun K hK => ?_)
                      clear eg
                      have e3 : act.tmps[3]?.getD undef = .int .i64 (j : Nat) := hk.o 3 (by kernel_rfl)
                      clear hk
                      go_simp
                      exact hK _ _ (Ext.refl _) (fun d hd => by cases hd; rfl)
                    · intro act W2 hk
                      have eg : act.tmps[35]?.getD undef = .bool true := hk.v 35 (by kernel_rfl)
                      refine Flow.does_intro (wanted_yes rfl rfl eg) (fun K hK => ?_)
                      clear eg
                      have e38 : act.tmps[38]?.getD undef = .int .i64 (j : Nat) := hk.v 38 (by kernel_rfl)
                      clear hk
                      go_simp
                      exact hK _ _ (Ext.refl _) (fun d hd => by cases hd; have h1 := hp.out; have h2 := hpl.out; simp [SP.eq]; first | omega | (rw [IntKind.wrap_i64]; omega))
                    · intro act W2 hk
                      have eg : act.tmps[35]?.getD undef = .bool true := hk.v 35 (by kernel_rfl)
                      refine Flow.does_intro (wanted_yes rfl rfl eg) (fun K hK => ?_)
                      clear eg
                      have e37 : act.tmps[37]?.getD undef = .slice (some ⟨b1, o1, none⟩) l.length c1 := hk.v 37 (by kernel_rfl)
                      have e39 : act.tmps[39]?.getD undef = .int .i64 (p : Nat) := hk.v 39 (by kernel_rfl)
                      have hpl2 := hpl.out
                      clear hk
                      go_simp
                      exact hK _ _ (Ext.refl _) (fun d hd => by cases hd; rfl)
                    · intro act W2 hk
                      have eg : act.tmps[35]?.getD undef = .bool true := hk.v 35 (by kernel_rfl)
                      refine Flow.does_intro (wanted_yes rfl rfl eg) (fun K hK => ?_)
                      clear eg
                      have e40 : act.tmps[40]?.getD undef = .pointer (some ⟨b1, o1 + p * 6, none⟩) := hk.v 40 (by kernel_rfl)
                      have g0 := Ext.cell ((Ext.drew W0).trans hk.ext) ((kcy.out) 0 _ rfl)
                      rw [Nat.add_zero] at g0
                      have g1 := Ext.cell ((Ext.drew W0).trans hk.ext) ((kcy.out) 1 _ rfl)
                      have g2 := Ext.cell ((Ext.drew W0).trans hk.ext) ((kcy.out) 2 _ rfl)
                      have g3 := Ext.cell ((Ext.drew W0).trans hk.ext) ((kcy.out) 3 _ rfl)
                      have g4 := Ext.cell ((Ext.drew W0).trans hk.ext) ((kcy.out) 4 _ rfl)
                      have g5 := Ext.cell ((Ext.drew W0).trans hk.ext) ((kcy.out) 5 _ rfl)
                      clear hk
                      go_simp
                      exact hK _ _ (Ext.refl _) (fun d hd => by cases hd; rfl)
                    · intro act W2 hk
                      have eg : act.tmps[35]?.getD undef = .bool true := hk.v 35 (by kernel_rfl)
                      refine Flow.does_intro (wanted_yes rfl rfl eg) (fun K hK => ?_)
                      clear eg
                      have e1 : act.tmps[1]?.getD undef = .pointer (some ⟨pA, 0, none⟩) := hk.o 1 (by kernel_rfl)
                      clear hk
                      go_simp
                      exact hK _ _ (Ext.refl _) (fun d hd => by cases hd; rfl)
                    · intro act W2 hk
                      have eg : act.tmps[35]?.getD undef = .bool true := hk.v 35 (by kernel_rfl)
                      refine Flow.does_intro (wanted_yes rfl rfl eg) (fun K hK => ?_)
                      clear eg
                      have e42 : act.tmps[42]?.getD undef = .pointer (some ⟨pA, 5, none⟩) := hk.v 42 (by kernel_rfl)
                      have g := ((kA2.out).ext ((Ext.drew W0).trans hk.ext)).cell
                      clear hk
                      go_simp
                      exact hK _ _ (Ext.refl _) (fun d hd => by cases hd; rfl)
                    · intro act W2 hk
                      have eg : act.tmps[35]?.getD undef = .bool true := hk.v 35 (by kernel_rfl)
                      refine Flow.does_intro (wanted_yes rfl rfl eg) (fun K hK => ?_)
                      clear eg
                      have e3 : act.tmps[3]?.getD undef = .int .i64 (j : Nat) := hk.o 3 (by kernel_rfl)
                      clear hk
                      go_simp
                      exact hK _ _ (Ext.refl _) (fun d hd => by cases hd; rfl)
                    · intro act W2 hk
                      have eg : act.tmps[35]?.getD undef = .bool true := hk.v 35 (by kernel_rfl)
                      refine Flow.does_intro (wanted_yes rfl rfl eg) (fun K hK => ?_)
                      clear eg
                      have e43 : act.tmps[43]?.getD undef = .slice (some ⟨b1, o1, none⟩) l.length c1 := hk.v 43 (by kernel_rfl)
                      have e44 : act.tmps[44]?.getD undef = .int .i64 (j : Nat) := hk.v 44 (by kernel_rfl)
                      clear hk
                      go_simp
                      exact hK _ _ (Ext.refl _) (fun d hd => by cases hd; rfl)
                    · intro act W2 hk
                      have eg : act.tmps[35]?.getD undef = .bool true := hk.v 35 (by kernel_rfl)
                      refine Flow.does_intro (wanted_yes rfl rfl eg) (fun K hK => ?_)
                      clear eg
                      have e45 : act.tmps[45]?.getD undef = .pointer (some ⟨b1, o1 + j * 6, none⟩) := hk.v 45 (by kernel_rfl)
                      have g0 := Ext.cell ((Ext.drew W0).trans hk.ext) ((kcx.out) 0 _ rfl)
                      rw [Nat.add_zero] at g0
                      have g1 := Ext.cell ((Ext.drew W0).trans hk.ext) ((kcx.out) 1 _ rfl)
                      have g2 := Ext.cell ((Ext.drew W0).trans hk.ext) ((kcx.out) 2 _ rfl)
                      have g3 := Ext.cell ((Ext.drew W0).trans hk.ext) ((kcx.out) 3 _ rfl)
                      have g4 := Ext.cell ((Ext.drew W0).trans hk.ext) ((kcx.out) 4 _ rfl)
                      have g5 := Ext.cell ((Ext.drew W0).trans hk.ext) ((kcx.out) 5 _ rfl)
                      clear hk
                      go_simp
                      exact hK _ _ (Ext.refl _) (fun d hd => by cases hd; rfl)
                    · intro act W2 hk
                      have eg : act.tmps[35]?.getD undef = .bool true := hk.v 35 (by kernel_rfl)
                      refine Flow.does_intro (wanted_yes rfl rfl eg) (fun K hK => ?_)
                      clear eg
                      have e41 : act.tmps[41]?.getD undef = .agg #[.string y.name, .string y.key, .int .i64 y.kind, .int .u64 y.num, .string y.text, .slice K4 y.kids.length c4] := hk.v 41 (by kernel_rfl)
                      have e46 : act.tmps[46]?.getD undef = .agg #[.string x.name, .string x.key, .int .i64 x.kind, .int .u64 x.num, .string x.text, .slice K3 x.kids.length c3] := hk.v 46 (by kernel_rfl)
                      clear hk
                      go_simp
                      refine Calls.mono (hless.out _) ?_
                      rintro e W3 ⟨rfl, hx⟩
                      exact hK _ _ hx (fun d hd => by cases hd; exact congrArg Value.bool hle)
                    · intro act W2 hk
                      have eg : act.tmps[35]?.getD undef = .bool true := hk.v 35 (by kernel_rfl)
                      refine Flow.does_intro (wanted_yes rfl rfl eg) (fun K hK => ?_)
                      clear eg
                      have e47 : act.tmps[47]?.getD undef = .bool true := hk.v 47 (by kernel_rfl)
                      clear hk
                      go_simp
                      exact hK _ _ (Ext.refl _) (fun d hd => by cases hd; rfl)
                    · intro act W2 hk
                      have eg : act.tmps[32]?.getD undef = .bool false := hk.v 32 (by kernel_rfl)
                      refine Flow.does_intro (wanted_yes rfl rfl eg) (fun K hK => ?_)
                      clear eg
                      have e35 : act.tmps[35]?.getD undef = .bool true := hk.v 35 (by kernel_rfl)
                      have e48 : act.tmps[48]?.getD undef = .bool false := hk.v 48 (by kernel_rfl)
                      clear hk
                      go_simp
                      exact hK _ _ (Ext.refl _) (fun d hd => by cases hd; rfl)
                    · intro act W2 hk
                      refine Flow.does_intro rfl (fun K hK => ?_)
                      have e32 : act.tmps[32]?.getD undef = .bool false := hk.v 32 (by kernel_rfl)
                      have e49 : act.tmps[49]?.getD undef = .bool false := hk.v 49 (by kernel_rfl)
                      clear hk
                      go_simp
                      exact hK _ _ (Ext.refl _) (fun d hd => by cases hd; rfl)
                  · intro act W2 he
                    have hxW2 := Hd.mk ((Ext.drew W0).trans he.ext)
                    obtain ⟨us, hA, hF⟩ := he.out [30, 31, 32, 33, 34, 35, 36, 37, 38, 39, 40, 41, 42, 43, 44, 45, 46, 47, 48, 49, 50] (by kernel_rfl)
                    simp only [Flow.fillL, List.contains_cons, List.contains_nil, Nat.reduceBEq, Bool.or_false, Bool.false_or, Bool.or_true, Bool.true_or, ↓reduceIte, Nat.reduceAdd, Bool.false_eq_true] at hA
                    subst hA
                    have f50 : us 50 = .bool false := hF 50 (by simp)
                    clear hF he
                    rw [f50]
                    clear f50
                    refine (show wpList _ _ _ [] _ _ from ?_)
                    go_wp2_with fail
                    go_roundg (l.length + 1 - (j + 1))
                    case measure => have := hq.out; omega
                    case rel => exact ⟨j + 1, by omega, ⟨rfl⟩, by go_num, ⟨by rw [hI.out, hdrop.out, hs, hprev]; simp [hle]⟩, ⟨hxr.out.trans hxW2.out⟩⟩
                | false =>
                  have hr0 : r = false := by rw [hI.out, hdrop.out, hs, hprev]; simp [hle]
                  subst hr0
                  refine Flow.wp_region_flow_l (fun t => match t with
                    | 30 => SP.eq (.bool true)
                    | 31 => SP.eq (.bool false)
                    | 32 => SP.eq (.bool false)
                    | 33 => SP.eq (.int .i64 (j : Nat))
                    | 34 => SP.eq (.bool true)
                    | 35 => SP.eq (.bool true)
                    | 36 => SP.eq (.pointer (some ⟨pA, 5, none⟩))
                    | 37 => SP.eq (.slice (some ⟨b1, o1, none⟩) l.length c1)
                    | 38 => SP.eq (.int .i64 (j : Nat))
                    | 39 => SP.eq (.int .i64 (p : Nat))
                    | 40 => SP.eq (.pointer (some ⟨b1, o1 + p * 6, none⟩))
                    | 41 => SP.eq (.agg #[.string y.name, .string y.key, .int .i64 y.kind, .int .u64 y.num, .string y.text, .slice K4 y.kids.length c4])
                    | 42 => SP.eq (.pointer (some ⟨pA, 5, none⟩))
                    | 43 => SP.eq (.slice (some ⟨b1, o1, none⟩) l.length c1)
                    | 44 => SP.eq (.int .i64 (j : Nat))
                    | 45 => SP.eq (.pointer (some ⟨b1, o1 + j * 6, none⟩))
                    | 46 => SP.eq (.agg #[.string x.name, .string x.key, .int .i64 x.kind, .int .u64 x.num, .string x.text, .slice K3 x.kids.length c3])
                    | 47 => SP.eq (.bool false)
                    | 48 => SP.eq (.bool true)
                    | 49 => SP.eq (.bool true)
                    | 50 => SP.eq (.bool true)
                    | _ => SP.any) 21 (by kernel_rfl) 51 rfl (by kernel_rfl) ?_ ?_
                  · skip
                    refine ⟨?_, ?_, ?_, ?_, ?_, ?_, ?_, ?_, ?_, ?_, ?_, ?_, ?_, ?_, ?_, ?_, ?_, ?_, ?_, ?_, ?_, trivial⟩
                    · intro act W2 hk
                      refine Flow.does_intro rfl (fun K hK => ?_)
                      have e4 : act.tmps[4]?.getD undef = .bool true := hk.o 4 (by kernel_rfl)
                      clear hk
                      go_simp
                      exact hK _ _ (Ext.refl _) (fun d hd => by cases hd; rfl)
                    · intro act W2 hk
                      refine Flow.does_intro rfl (fun K hK => ?_)
                      have e30 : act.tmps[30]?.getD undef = .bool true := hk.v 30 (by kernel_rfl)
                      clear hk
                      go_simp
                      exact hK _ _ (Ext.refl _) (fun d hd => by cases hd; rfl)
                    · intro act W2 hk
                      refine Flow.does_intro rfl (fun K hK => ?_)
                      have e31 : act.tmps[31]?.getD undef = .bool false := hk.v 31 (by kernel_rfl)
                      clear hk
                      go_simp
                      exact hK _ _ (Ext.refl _) (fun d hd => by cases hd; rfl)
                    · intro act W2 hk
                      have eg : act.tmps[32]?.getD undef = .bool false := hk.v 32 (by kernel_rfl)
                      refine Flow.does_intro (wanted_yes rfl rfl eg) (fun K hK => ?_)
                      clear eg
                      have e3 : act.tmps[3]?.getD undef = .int .i64 (j : Nat) := hk.o 3 (by kernel_rfl)
                      clear hk
                      go_simp
                      exact hK _ _ (Ext.refl _) (fun d hd => by cases hd; rfl)
                    · intro act W2 hk
                      have eg : act.tmps[32]?.getD undef = .bool false := hk.v 32 (by kernel_rfl)
                      refine Flow.does_intro (wanted_yes rfl rfl eg) (fun K hK => ?_)
                      clear eg
                      have e33 : act.tmps[33]?.getD undef = .int .i64 (j : Nat) := hk.v 33 (by kernel_rfl)
                      clear hk
                      go_simp
                      exact hK _ _ (Ext.refl _) (fun d hd => by cases hd; have h1 := hp.out; simp [SP.eq]; omega)
                    · intro act W2 hk
                      have eg : act.tmps[32]?.getD undef = .bool false := hk.v 32 (by kernel_rfl)
                      refine Flow.does_intro (wanted_yes rfl rfl eg) (fun K hK => ?_)
                      clear eg
                      have e34 : act.tmps[34]?.getD undef = .bool true := hk.v 34 (by kernel_rfl)
                      clear hk
                      go_simp
                      exact hK _ _ (Ext.refl _) (fun d hd => by cases hd; rfl)
                    · intro act W2 hk
                      have eg : act.tmps[35]?.getD undef = .bool true := hk.v 35 (by kernel_rfl)
                      refine Flow.does_intro (wanted_yes rfl rfl eg) (fun K hK => ?_)
                      clear eg
                      have e1 : act.tmps[1]?.getD undef = .pointer (some ⟨pA, 0, none⟩) := hk.o 1 (by kernel_rfl)
                      clear hk
                      go_simp
                      exact hK _ _ (Ext.refl _) (fun d hd => by cases hd; rfl)
                    · intro act W2 hk
                      have eg : act.tmps[35]?.getD undef = .bool true := hk.v 35 (by kernel_rfl)
                      refine Flow.does_intro (wanted_yes rfl rfl eg) (fun K hK => ?_)
                      clear eg
                      have e36 : act.tmps[36]?.getD undef = .pointer (some ⟨pA, 5, none⟩) := hk.v 36 (by kernel_rfl)
                      have g := ((kA2.out).ext ((Ext.drew W0).trans hk.ext)).cell
                      clear hk
                      go_simp
                      exact hK _ _ (Ext.refl _) (fun d hd => by cases hd; rfl)
                    · intro act W2 hk
                      have eg : act.tmps[35]?.getD undef = .bool true := hk.v 35 (by kernel_rfl)
                      refine Flow.does_intro (wanted_yes rfl rfl eg) (fun K hK => ?_)
                      clear eg
                      have e3 : act.tmps[3]?.getD undef = .int .i64 (j : Nat) := hk.o 3 (by kernel_rfl)
                      clear hk
                      go_simp
                      exact hK _ _ (Ext.refl _) (fun d hd => by cases hd; rfl)
                    · intro act W2 hk
                      have eg : act.tmps[35]?.getD undef = .bool true := hk.v 35 (by kernel_rfl)
                      refine Flow.does_intro (wanted_yes rfl rfl eg) (fun K hK => ?_)
                      clear eg
                      have e38 : act.tmps[38]?.getD undef = .int .i64 (j : Nat) := hk.v 38 (by kernel_rfl)
                      clear hk
                      go_simp
                      exact hK _ _ (Ext.refl _) (fun d hd => by cases hd; have h1 := hp.out; have h2 := hpl.out; simp [SP.eq]; first | omega | (rw [IntKind.wrap_i64]; omega))
                    · intro act W2 hk
                      have eg : act.tmps[35]?.getD undef = .bool true := hk.v 35 (by kernel_rfl)
                      refine Flow.does_intro (wanted_yes rfl rfl eg) (fun K hK => ?_)
                      clear eg
                      have e37 : act.tmps[37]?.getD undef = .slice (some ⟨b1, o1, none⟩) l.length c1 := hk.v 37 (by kernel_rfl)
                      have e39 : act.tmps[39]?.getD undef = .int .i64 (p : Nat) := hk.v 39 (by kernel_rfl)
                      have hpl2 := hpl.out
                      clear hk
                      go_simp
                      exact hK _ _ (Ext.refl _) (fun d hd => by cases hd; rfl)
                    · intro act W2 hk
                      have eg : act.tmps[35]?.getD undef = .bool true := hk.v 35 (by kernel_rfl)
                      refine Flow.does_intro (wanted_yes rfl rfl eg) (fun K hK => ?_)
                      clear eg
                      have e40 : act.tmps[40]?.getD undef = .pointer (some ⟨b1, o1 + p * 6, none⟩) := hk.v 40 (by kernel_rfl)
                      have g0 := Ext.cell ((Ext.drew W0).trans hk.ext) ((kcy.out) 0 _ rfl)
                      rw [Nat.add_zero] at g0
                      have g1 := Ext.cell ((Ext.drew W0).trans hk.ext) ((kcy.out) 1 _ rfl)
                      have g2 := Ext.cell ((Ext.drew W0).trans hk.ext) ((kcy.out) 2 _ rfl)
                      have g3 := Ext.cell ((Ext.drew W0).trans hk.ext) ((kcy.out) 3 _ rfl)
                      have g4 := Ext.cell ((Ext.drew W0).trans hk.ext) ((kcy.out) 4 _ rfl)
                      have g5 := Ext.cell ((Ext.drew W0).trans hk.ext) ((kcy.out) 5 _ rfl)
                      clear hk
                      go_simp
                      exact hK _ _ (Ext.refl _) (fun d hd => by cases hd; rfl)
                    · intro act W2 hk
                      have eg : act.tmps[35]?.getD undef = .bool true := hk.v 35 (by kernel_rfl)
                      refine Flow.does_intro (wanted_yes rfl rfl eg) (fun K hK => ?_)
                      clear eg
                      have e1 : act.tmps[1]?.getD undef = .pointer (some ⟨pA, 0, none⟩) := hk.o 1 (by kernel_rfl)
                      clear hk
                      go_simp
                      exact hK _ _ (Ext.refl _) (fun d hd => by cases hd; rfl)
                    · intro act W2 hk
                      have eg : act.tmps[35]?.getD undef = .bool true := hk.v 35 (by kernel_rfl)
                      refine Flow.does_intro (wanted_yes rfl rfl eg) (fun K hK => ?_)
                      clear eg
                      have e42 : act.tmps[42]?.getD undef = .pointer (some ⟨pA, 5, none⟩) := hk.v 42 (by kernel_rfl)
                      have g := ((kA2.out).ext ((Ext.drew W0).trans hk.ext)).cell
                      clear hk
                      go_simp
                      exact hK _ _ (Ext.refl _) (fun d hd => by cases hd; rfl)
                    · intro act W2 hk
                      have eg : act.tmps[35]?.getD undef = .bool true := hk.v 35 (by kernel_rfl)
                      refine Flow.does_intro (wanted_yes rfl rfl eg) (fun K hK => ?_)
                      clear eg
                      have e3 : act.tmps[3]?.getD undef = .int .i64 (j : Nat) := hk.o 3 (by kernel_rfl)
                      clear hk
                      go_simp
                      exact hK _ _ (Ext.refl _) (fun d hd => by cases hd; rfl)
                    · intro act W2 hk
                      have eg : act.tmps[35]?.getD undef = .bool true := hk.v 35 (by kernel_rfl)
                      refine Flow.does_intro (wanted_yes rfl rfl eg) (fun K hK => ?_)
                      clear eg
                      have e43 : act.tmps[43]?.getD undef = .slice (some ⟨b1, o1, none⟩) l.length c1 := hk.v 43 (by kernel_rfl)
                      have e44 : act.tmps[44]?.getD undef = .int .i64 (j : Nat) := hk.v 44 (by kernel_rfl)
                      clear hk
                      go_simp
                      exact hK _ _ (Ext.refl _) (fun d hd => by cases hd; rfl)
                    · intro act W2 hk
                      have eg : act.tmps[35]?.getD undef = .bool true := hk.v 35 (by kernel_rfl)
                      refine Flow.does_intro (wanted_yes rfl rfl eg) (fun K hK => ?_)
                      clear eg
                      have e45 : act.tmps[45]?.getD undef = .pointer (some ⟨b1, o1 + j * 6, none⟩) := hk.v 45 (by kernel_rfl)
                      have g0 := Ext.cell ((Ext.drew W0).trans hk.ext) ((kcx.out) 0 _ rfl)
                      rw [Nat.add_zero] at g0
                      have g1 := Ext.cell ((Ext.drew W0).trans hk.ext) ((kcx.out) 1 _ rfl)
                      have g2 := Ext.cell ((Ext.drew W0).trans hk.ext) ((kcx.out) 2 _ rfl)
                      have g3 := Ext.cell ((Ext.drew W0).trans hk.ext) ((kcx.out) 3 _ rfl)
                      have g4 := Ext.cell ((Ext.drew W0).trans hk.ext) ((kcx.out) 4 _ rfl)
                      have g5 := Ext.cell ((Ext.drew W0).trans hk.ext) ((kcx.out) 5 _ rfl)
                      clear hk
                      go_simp
                      exact hK _ _ (Ext.refl _) (fun d hd => by cases hd; rfl)
                    · intro act W2 hk
                      have eg : act.tmps[35]?.getD undef = .bool true := hk.v 35 (by kernel_rfl)
                      refine Flow.does_intro (wanted_yes rfl rfl eg) (fun K hK => ?_)
                      clear eg
                      have e41 : act.tmps[41]?.getD undef = .agg #[.string y.name, .string y.key, .int .i64 y.kind, .int .u64 y.num, .string y.text, .slice K4 y.kids.length c4] := hk.v 41 (by kernel_rfl)
                      have e46 : act.tmps[46]?.getD undef = .agg #[.string x.name, .string x.key, .int .i64 x.kind, .int .u64 x.num, .string x.text, .slice K3 x.kids.length c3] := hk.v 46 (by kernel_rfl)
                      clear hk
                      go_simp
                      refine Calls.mono (hless.out _) ?_
                      rintro e W3 ⟨rfl, hx⟩
                      exact hK _ _ hx (fun d hd => by cases hd; exact congrArg Value.bool hle)
                    · intro act W2 hk
                      have eg : act.tmps[35]?.getD undef = .bool true := hk.v 35 (by kernel_rfl)
                      refine Flow.does_intro (wanted_yes rfl rfl eg) (fun K hK => ?_)
                      clear eg
                      have e47 : act.tmps[47]?.getD undef = .bool false := hk.v 47 (by kernel_rfl)
                      clear hk
                      go_simp
                      exact hK _ _ (Ext.refl _) (fun d hd => by cases hd; rfl)
                    · intro act W2 hk
                      have eg : act.tmps[32]?.getD undef = .bool false := hk.v 32 (by kernel_rfl)
                      refine Flow.does_intro (wanted_yes rfl rfl eg) (fun K hK => ?_)
                      clear eg
                      have e35 : act.tmps[35]?.getD undef = .bool true := hk.v 35 (by kernel_rfl)
                      have e48 : act.tmps[48]?.getD undef = .bool true := hk.v 48 (by kernel_rfl)
                      clear hk
                      go_simp
                      exact hK _ _ (Ext.refl _) (fun d hd => by cases hd; rfl)
                    · intro act W2 hk
                      refine Flow.does_intro rfl (fun K hK => ?_)
                      have e32 : act.tmps[32]?.getD undef = .bool false := hk.v 32 (by kernel_rfl)
                      have e49 : act.tmps[49]?.getD undef = .bool true := hk.v 49 (by kernel_rfl)
                      clear hk
                      go_simp
                      exact hK _ _ (Ext.refl _) (fun d hd => by cases hd; rfl)
                  · intro act W2 he
                    have hxW2 := Hd.mk ((Ext.drew W0).trans he.ext)
                    obtain ⟨us, hA, hF⟩ := he.out [30, 31, 32, 33, 34, 35, 36, 37, 38, 39, 40, 41, 42, 43, 44, 45, 46, 47, 48, 49, 50] (by kernel_rfl)
                    simp only [Flow.fillL, List.contains_cons, List.contains_nil, Nat.reduceBEq, Bool.or_false, Bool.false_or, Bool.or_true, Bool.true_or, ↓reduceIte, Nat.reduceAdd, Bool.false_eq_true] at hA
                    subst hA
                    have f50 : us 50 = .bool true := hF 50 (by simp)
                    clear hF he
                    rw [f50]
                    clear f50
                    refine (show wpList _ _ _ [] _ _ from ?_)
                    go_wp2_with fail
                    go_ret
                    exact ⟨rfl, (kx.out.trans hxr.out).trans hxW2.out⟩
          · have hjl : j = l.length := by omega
            subst hjl
            have hr0 : r = true := by rw [hI.out, List.drop_length]; cases prevOf l l.length <;> rfl
            subst hr0
            go_wp2_with fail
            go_ret
            exact ⟨rfl, kx.out.trans hxr.out⟩
        · have hr : r = false := by rw [hright]; simp [h2]
          subst hr
          have h2' : ¬ t.toList = [] := fun h => h2 (of_decide_eq_true (by rw [← str_eq, h]; kernel_rfl))
          clear hright
          go_enter Try.func57, Try.ntmps57
          go_wp2_with fail
          go_ret
          exact ⟨rfl, Ext.alloc _ _⟩
      · have hr : r = false := by rw [hright]; simp [h1]
        subst hr
        clear hright
        go_enter Try.func57, Try.ntmps57
        go_wp2_with fail
        go_ret
        exact ⟨rfl, Ext.alloc _ _⟩
    · have hr : r = ((l.length : Int) == 0) := by rw [hright, if_neg h0]; cases l <;> simp; omega
      subst hr
      clear hright
      go_enter Try.func57, Try.ntmps57
      go_wp2_with fail
      go_ret
      exact ⟨rfl, Ext.alloc _ _⟩
end Go.Proofs.Ytgkgedjmnbjalaa
