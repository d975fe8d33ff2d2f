/- Texts that the law needs, joined.
   Conditions: none. -/
import Derived.Test.YtgkgedjmnbjalaaPqG
set_option linter.unusedSimpArgs false
set_option linter.unusedVariables false
namespace Go.Proofs.Ytgkgedjmnbjalaa
open Go.RowKit Go.Sort
theorem splice2 {α : Type} (A C R : List α) {a c : Nat} (hA : A.length = a) (hC : C.length = c) (zs : List α) :
    ((A ++ R).take a ++ C ++ (A ++ R).drop (a + c)).take (a + c) ++ zs ++ ((A ++ R).take a ++ C ++ (A ++ R).drop (a + c)).drop (a + c + 6) = A ++ C ++ (zs ++ ((A ++ R).drop (a + c)).drop 6) := by
  subst hA hC
  rw [List.take_left]
  have e1 : (A ++ C ++ (A ++ R).drop (A.length + C.length)).take (A.length + C.length) = A ++ C := by
    rw [show A.length + C.length = (A ++ C).length by simp, List.take_left]
  have e2 : (A ++ C ++ (A ++ R).drop (A.length + C.length)).drop (A.length + C.length + 6) = ((A ++ R).drop (A.length + C.length)).drop 6 := by
    rw [List.drop_append, List.drop_of_length_le (by rw [List.length_append]; omega), List.nil_append]
    congr 1
    rw [List.length_append]
    omega
  rw [e1, e2, List.append_assoc (A ++ C)]
set_option maxRecDepth 100000 in
set_option maxHeartbeats 4000000 in
theorem slices_delete {w : World} {g n kc i : Nat} {xs sp : List Value} (hg : Blk w g (xs ++ sp) 54) (hxn : xs.length = n * 6) (hi : i < n) (hn : n ≤ 1048576) (hk : n ≤ kc) (hkm : kc ≤ maxLen) (hcl : (xs ++ sp).length = kc * 6) (h1 : xs.all (·.oneCell') = true) :
    Calls Try.prog 125 #[.slice (some ⟨g, 0, none⟩) n kc, .int .i64 i, .int .i64 (i + 1 : Nat)] w fun e w' => e = .returned (.slice (some ⟨g, 0, none⟩) (n - 1) kc) ∧
      w'.ownsRow 0 54 6 (.slice (some ⟨g, 0, none⟩) (n - 1) kc) (n - 1) (xs.take (i * 6) ++ xs.drop ((i + 1) * 6)) ∧ w.grownBy w' (some g) := by
  have kg := Hd.mk hg
  have hkm2 : kc ≤ 9223372036854775807 := hkm
  have a1 : ¬ (n = i) := by omega
  have a2 : ¬ ((i : Int) = ((i + 1 : Nat) : Int)) := by omega
  have a3 : i ≤ i + 1 := by omega
  have a4 : i + 1 ≤ n := by omega
  have a5 : i + (n - (i + 1)) = n - 1 := by omega
  have a6 : n - 1 ≤ n := by omega
  have a7 : ¬ (kc = n - 1) := by omega
  have a8 : i ≤ kc := by omega
  have a9 : (i : Int) + 1 ≤ (n : Int) := by omega
  have b1 : ((i : Int) + 1).toNat = i + 1 := by omega
  have b2 : (0 : Int) ≤ (i : Int) + 1 := by omega
  have hsp := Hd.mk (show sp.length = kc * 6 - n * 6 by rw [List.length_append] at hcl; omega)
  have hdl : (xs.drop ((i + 1) * 6)).length = (n - (i + 1)) * 6 := by rw [List.length_drop, hxn]; omega
  have htl : (xs.take (i * 6)).length = i * 6 := by rw [List.length_take, hxn]; omega
  have hone := Hd.mk (all_take h1 ((i + 1) * 6)).2
  have hdl := Hd.mk hdl
  have htl := Hd.mk htl
  have hcl := Hd.mk hcl
  clear hg h1
  go_enter Try.func125, Try.ntmps125
  go_wp2_with fail
  refine Flow.wp_region_flow_l (fun qq => match qq with
    | 20 => SP.eq (.slice (some ⟨g, 0, none⟩) n kc)
    | 21 => SP.eq (.int .i64 (i : Nat))
    | 22 => SP.eq (.slice (some ⟨g, 0, none⟩) i kc)
    | 23 => SP.eq (.slice (some ⟨g, 0, none⟩) n kc)
    | 24 => SP.eq (.int .i64 (i + 1 : Nat))
    | 25 => SP.eq (.slice (if kc = i + 1 then some ⟨g, 0, none⟩ else some ⟨g, (i + 1) * 6, none⟩) (n - (i + 1)) (kc - (i + 1)))
    | _ => SP.any) 6 (by kernel_rfl) 33 rfl (by kernel_rfl) ?_ ?_
  · skip
    refine ⟨?_, ?_, ?_, ?_, ?_, ?_, trivial⟩
    · intro act W2 hk
      refine Flow.does_intro rfl (fun Kq hK => ?_)
      have e0 : act.tmps[0]?.getD undef = .slice (some ⟨g, 0, none⟩) n kc := hk.o 0 (by kernel_rfl)
      clear hk
      go_simp
      exact hK _ _ (Ext.refl _) (fun d hd => by cases hd; rfl)
    · intro act W2 hk
      refine Flow.does_intro rfl (fun Kq hK => ?_)
      have e1 : act.tmps[1]?.getD undef = .int .i64 (i : Nat) := hk.o 1 (by kernel_rfl)
      clear hk
      go_simp
      exact hK _ _ (Ext.refl _) (fun d hd => by cases hd; rfl)
    · intro act W2 hk
      refine Flow.does_intro rfl (fun Kq hK => ?_)
      have e20 : act.tmps[20]?.getD undef = .slice (some ⟨g, 0, none⟩) n kc := hk.v 20 (by kernel_rfl)
      have e21 : act.tmps[21]?.getD undef = .int .i64 (i : Nat) := hk.v 21 (by kernel_rfl)
      clear hk
      go_simp
      exact hK _ _ (Ext.refl _) (fun d hd => by cases hd; simp [SP.eq])
    · intro act W2 hk
      refine Flow.does_intro rfl (fun Kq hK => ?_)
      have e0 : act.tmps[0]?.getD undef = .slice (some ⟨g, 0, none⟩) n kc := hk.o 0 (by kernel_rfl)
      clear hk
      go_simp
      exact hK _ _ (Ext.refl _) (fun d hd => by cases hd; rfl)
    · intro act W2 hk
      refine Flow.does_intro rfl (fun Kq hK => ?_)
      have e2 : act.tmps[2]?.getD undef = .int .i64 (i + 1 : Nat) := hk.o 2 (by kernel_rfl)
      clear hk
      go_simp
      exact hK _ _ (Ext.refl _) (fun d hd => by cases hd; rfl)
    · intro act W2 hk
      refine Flow.does_intro rfl (fun Kq hK => ?_)
      have e23 : act.tmps[23]?.getD undef = .slice (some ⟨g, 0, none⟩) n kc := hk.v 23 (by kernel_rfl)
      have e24 : act.tmps[24]?.getD undef = .int .i64 (i + 1 : Nat) := hk.v 24 (by kernel_rfl)
      clear hk
      go_simp
      exact hK _ _ (Ext.refl _) (fun d hd => by cases hd; simp [SP.eq])
  · intro act W2 he
    have hxW2 := Hd.mk ((Ext.drew w).trans he.ext)
    obtain ⟨us, hA, hF⟩ := he.out [20, 21, 22, 23, 24, 25] (by kernel_rfl)
    simp only [Flow.fillL, List.contains_cons, List.contains_nil, Nat.reduceBEq, Bool.or_false, Bool.false_or, Bool.or_true, Bool.true_or, ↓reduceIte, Nat.reduceAdd, Bool.false_eq_true] at hA
    subst hA
    have f22 : us 22 = .slice (some ⟨g, 0, none⟩) i kc := hF 22 (by simp)
    have f25 : us 25 = .slice (if kc = i + 1 then some ⟨g, 0, none⟩ else some ⟨g, (i + 1) * 6, none⟩) (n - (i + 1)) (kc - (i + 1)) := hF 25 (by simp)
    clear hF he
    rw [f22]
    clear f22
    rw [f25]
    clear f25
    refine (show wpList _ _ _ (⟨some 26, .call { callee := .builtin .append, args := #[.tmp 22, .tmp 25], argTypes := #[52, 52] }, _, _, _, none⟩ :: _) _ _ from ?_)
    have kg3 := Hd.mk (kg.out.ext hxW2.out)
    have hdl1 := hdl.out
    have htl1 := htl.out
    have hcl1 := hcl.out
    obtain ⟨ad, had, hsrc⟩ : ∃ ad : Addr, (if kc = i + 1 then some ⟨g, 0, none⟩ else some ⟨g, (i + 1) * 6, none⟩ : Option Addr) = some ad ∧ ∀ (j : Nat) v, (xs.drop ((i + 1) * 6))[j]? = some v → W2.cell? (ad.add j) = some v := by
      by_cases hkc : kc = i + 1
      · exact ⟨_, if_pos hkc, fun j v hj => absurd (List.getElem?_eq_some_iff.1 hj).1 (by rw [hdl1]; omega)⟩
      · refine ⟨_, if_neg hkc, fun j v hj => ?_⟩
        rw [addr_add, kg3.out.cell, List.getElem?_append_left (by have := (List.getElem?_eq_some_iff.1 hj).1; rw [hdl1] at this; omega)]
        rw [List.getElem?_drop] at hj; exact hj
    rw [had]
    refine wpl_append_room sl52 (.tmp 22) (.tmp 25) 26 _ _ _ g i kc rfl ad _ _ rfl (xs ++ sp) (xs.drop ((i + 1) * 6)) kg3.out (by rw [hdl1]) hsrc (by omega) (by rw [hcl1, hdl1]; omega) hone.out ?_
    intro w3 hu3 hb3
    have kb3 := Hd.mk hb3
    have kgr := Hd.mk (show w.grownBy w3 (some g) from grown_trans (grown_ext hxW2.out) (grown_upd hu3))
    clear hb3 hu3 kg3 hsrc
    rw [a5]
    go_wp2_with ((with_reducible refine stop_at (.call { callee := .builtin .clear, args := #[.tmp 31], argTypes := #[52] }) ?_))
    refine Stop.mk ?_
    rw [show n - (n - 1) = 1 by omega]
    refine wpl_clear sl52 (.tmp 31) none _ _ _ g _ 1 _ rfl (by omega) _ 54 kb3.out (by simp only [List.length_append, List.length_take, List.length_drop, hxn, hsp.out]; omega) zero54 ?_
    intro w4 zs hzs hu4 hb4
    have hRR : (xs.take (i * 6)).length + (xs.drop (i * 6) ++ sp).length = kc * 6 := by rw [← List.length_append, ← List.append_assoc, List.take_append_drop]; exact hcl1
    have e1 : xs ++ sp = xs.take (i * 6) ++ (xs.drop (i * 6) ++ sp) := by rw [← List.append_assoc, List.take_append_drop]
    rw [e1] at hb4
    have e2 : (n - 1) * 6 = i * 6 + (n - (i + 1)) * 6 := by omega
    rw [hdl1, e2, show i * 6 + (n - (i + 1)) * 6 + 1 * 6 = i * 6 + (n - (i + 1)) * 6 + 6 by omega, splice2 _ _ _ htl1 hdl1] at hb4
    have kb4 := Hd.mk hb4
    replace kgr := Hd.mk (grown_trans kgr.out (grown_upd hu4))
    clear hb4 hu4 kb3
    simp only [Act.put]
    refine (show wpList _ _ _ [] _ _ from ?_)
    go_wp2_with fail
    go_ret
    exact ⟨rfl, own_intro (Nat.zero_le _) kb4.out (by omega) hkm (by simp only [List.length_append, List.length_drop, List.length_take, hzs, hxn, hsp.out]; omega) (by rw [List.length_append, htl1, hdl1]; omega), kgr.out⟩
def Stands (l : List T) (x : T) (i : Nat) : Prop := i ≤ l.length ∧ (∀ (p : Nat) y, p < i → l[p]? = some y → lessT y x = true) ∧ ∀ (p : Nat) y, i ≤ p → l[p]? = some y → lessT y x = false
theorem srt_get {l : List T} (h : Srt l) {p q : Nat} {y z : T} (hpq : p < q) (hp : l[p]? = some y) (hq : l[q]? = some z) : lessT y z = true := by
  obtain ⟨h1, rfl⟩ := List.getElem?_eq_some_iff.1 hp
  obtain ⟨h2, rfl⟩ := List.getElem?_eq_some_iff.1 hq
  exact List.pairwise_iff_getElem.1 h p q h1 h2 hpq
set_option maxRecDepth 100000 in
set_option maxHeartbeats 4000000 in
theorem nodes_search (l : List T) (x : T) (S : Nat → Prop) (w : World) (K : Option Addr) (c : Nat) (Kx : Option Addr) (cx : Nat) (hs : Srt l) (hr : RRow S w K l c) :
    Calls Try.prog 122 #[.slice K l.length c, .agg #[.string x.name, .string x.key, .int .i64 x.kind, .int .u64 x.num, .string x.text, .slice Kx x.kids.length cx], .func (.func 116) #[] #[]] w fun e w' => ∃ (i : Nat) (b : Bool), e = .returned (.tuple #[.int .i64 i, .bool b]) ∧ Stands l x i ∧ Ext w w' := by
  have kr := Hd.mk hr
  have hl := hr.len
  have hs := Hd.mk hs
  clear hr
  go_enter Try.func122, Try.ntmps122
  go_wp2_with fail
  have kx := Hd.mk (Ext.alloc w (.cells #[.string x.name, .string x.key, .int .i64 x.kind, .int .u64 x.num, .string x.text, .slice Kx x.kids.length cx] 54))
  have kX := Hd.mk (Blk.new w #[.string x.name, .string x.key, .int .i64 x.kind, .int .u64 x.num, .string x.text, .slice Kx x.kids.length cx] 54)
  generalize w.heap.size = pX at *
  generalize w.alloc _ = W at *
  go_loopg [9, 10] (l.length + 1) (fun q s9 s10 wr => ∃ (i j : Nat), i ≤ j ∧ j ≤ l.length ∧ Hd (q = j - i + 1) ∧ s9 = .int .i64 i ∧ s10 = .int .i64 j ∧ Hd (∀ (p : Nat) y, p < i → l[p]? = some y → lessT y x = true) ∧ Hd (∀ (p : Nat) y, j ≤ p → l[p]? = some y → lessT y x = false) ∧ Hd (Ext W wr))
  case atStart => exact ⟨0, l.length, by omega, by omega, ⟨by omega⟩, rfl, rfl, ⟨fun p y hp => absurd hp (by omega)⟩, ⟨fun p y hp hy => by have := (List.getElem?_eq_some_iff.1 hy).1; omega⟩, ⟨Ext.refl _⟩⟩
  case round =>
  obtain ⟨i, j, hij, hj, hq, rfl, rfl, hlo, hhi, hxr⟩ := hrel
  have qX := Hd.mk (kX.out.ext hxr.out)
  by_cases hlt : i < j
  · obtain ⟨h, hh⟩ : ∃ h, h = (i + j) / 2 := ⟨_, rfl⟩
    have hh1 : i ≤ h := by omega
    have hh2 : h < j := by omega
    have hh3 : h < l.length := by omega
    replace hh := Hd.mk hh
    have e1 : IntKind.i64.wrap ((i : Int) + (j : Int)) = ((i + j : Nat) : Int) := by rw [IntKind.wrap_i64]; omega
    have hx1 := List.getElem?_eq_getElem hh3
    generalize l[h] = y at hx1
    obtain ⟨b1, o1, ck, rfl, _, hrk, hck⟩ := kr.out.kid h y hx1
    obtain ⟨K3, c3, rfl, _⟩ := hrk.row
    have kcy := Hd.mk (fun (q : Nat) u hq => Ext.cell (kx.out.trans hxr.out) (hck q u hq))
    have hcmp := Hd.mk (fun W => tree_compare y x K3 Kx y.kids.length c3 x.kids.length cx W)
    have hng := Hd.mk (cmpT_neg y x)
    simp only [cT] at kcy hcmp
    have hx1 := Hd.mk hx1
    clear hck hrk
    go_wp2_with fail
    have e2 : ((i : Int) + (j : Int)) / 2 = (h : Int) := by have := hh.out; omega
    rw [e2]
    clear e2 e1
    refine Flow.wp_region_flow_l (fun qq => match qq with
      | 24 => SP.eq (.func (.func 116) #[] #[])
      | 25 => SP.eq (.slice (some ⟨b1, o1, none⟩) l.length c)
      | 26 => SP.eq (.int .i64 (h : Nat))
      | 27 => SP.eq (.pointer (some ⟨b1, o1 + h * 6, none⟩))
      | 28 => SP.eq (.agg #[.string y.name, .string y.key, .int .i64 y.kind, .int .u64 y.num, .string y.text, .slice K3 y.kids.length c3])
      | 29 => SP.eq (.agg #[.string x.name, .string x.key, .int .i64 x.kind, .int .u64 x.num, .string x.text, .slice Kx x.kids.length cx])
      | 30 => SP.eq (.int .i64 (cmpT y x))
      | 31 => SP.eq (.bool (lessT y x))
      | _ => SP.any) 8 (by kernel_rfl) 49 rfl (by kernel_rfl) ?_ ?_
    · skip
      refine ⟨?_, ?_, ?_, ?_, ?_, ?_, ?_, ?_, trivial⟩
      · intro act W2 hk
        refine Flow.does_intro rfl (fun Kq hK => ?_)
        have e2 : act.tmps[2]?.getD undef = .func (.func 116) #[] #[] := hk.o 2 (by kernel_rfl)
        clear hk
        go_simp
        exact hK _ _ (Ext.refl _) (fun d hd => by cases hd; rfl)
      · intro act W2 hk
        refine Flow.does_intro rfl (fun Kq hK => ?_)
        have e0 : act.tmps[0]?.getD undef = .slice (some ⟨b1, o1, none⟩) l.length c := hk.o 0 (by kernel_rfl)
        clear hk
        go_simp
        exact hK _ _ (Ext.refl _) (fun d hd => by cases hd; rfl)
      · intro act W2 hk
        refine Flow.does_intro rfl (fun Kq hK => ?_)
        have e11 : act.tmps[11]?.getD undef = .int .i64 (h : Nat) := hk.o 11 (by kernel_rfl)
        clear hk
        go_simp
        exact hK _ _ (Ext.refl _) (fun d hd => by cases hd; rfl)
      · intro act W2 hk
        refine Flow.does_intro rfl (fun Kq hK => ?_)
        have e25 : act.tmps[25]?.getD undef = .slice (some ⟨b1, o1, none⟩) l.length c := hk.v 25 (by kernel_rfl)
        have e26 : act.tmps[26]?.getD undef = .int .i64 (h : Nat) := hk.v 26 (by kernel_rfl)
        clear hk
        go_simp
        exact hK _ _ (Ext.refl _) (fun d hd => by cases hd; rfl)
      · intro act W2 hk
        refine Flow.does_intro rfl (fun Kq hK => ?_)
        have e27 : act.tmps[27]?.getD undef = .pointer (some ⟨b1, o1 + h * 6, none⟩) := hk.v 27 (by kernel_rfl)
        have g0 := Ext.cell ((Ext.drew wr).trans hk.ext) ((kcy.out) 0 _ rfl)
        rw [Nat.add_zero] at g0
        have g1 := Ext.cell ((Ext.drew wr).trans hk.ext) ((kcy.out) 1 _ rfl)
        have g2 := Ext.cell ((Ext.drew wr).trans hk.ext) ((kcy.out) 2 _ rfl)
        have g3 := Ext.cell ((Ext.drew wr).trans hk.ext) ((kcy.out) 3 _ rfl)
        have g4 := Ext.cell ((Ext.drew wr).trans hk.ext) ((kcy.out) 4 _ rfl)
        have g5 := Ext.cell ((Ext.drew wr).trans hk.ext) ((kcy.out) 5 _ rfl)
        clear hk
        go_simp
        exact hK _ _ (Ext.refl _) (fun d hd => by cases hd; rfl)
      · intro act W2 hk
        refine Flow.does_intro rfl (fun Kq hK => ?_)
        have e4 : act.tmps[4]?.getD undef = .pointer (some ⟨pX, 0, none⟩) := hk.o 4 (by kernel_rfl)
        have g := ((qX.out).ext ((Ext.drew wr).trans hk.ext)).cell
        clear hk
        go_simp
        exact hK _ _ (Ext.refl _) (fun d hd => by cases hd; rfl)
      · intro act W2 hk
        refine Flow.does_intro rfl (fun Kq hK => ?_)
        have e24 : act.tmps[24]?.getD undef = .func (.func 116) #[] #[] := hk.v 24 (by kernel_rfl)
        have e28 : act.tmps[28]?.getD undef = .agg #[.string y.name, .string y.key, .int .i64 y.kind, .int .u64 y.num, .string y.text, .slice K3 y.kids.length c3] := hk.v 28 (by kernel_rfl)
        have e29 : act.tmps[29]?.getD undef = .agg #[.string x.name, .string x.key, .int .i64 x.kind, .int .u64 x.num, .string x.text, .slice Kx x.kids.length cx] := hk.v 29 (by kernel_rfl)
        clear hk
        go_simp
        refine Calls.mono (hcmp.out _) ?_
        rintro e W3 ⟨rfl, hx⟩
        exact hK _ _ hx (fun d hd => by cases hd; rfl)
      · intro act W2 hk
        refine Flow.does_intro rfl (fun Kq hK => ?_)
        have e30 : act.tmps[30]?.getD undef = .int .i64 (cmpT y x) := hk.v 30 (by kernel_rfl)
        clear hk
        go_simp
        exact hK _ _ (Ext.refl _) (fun d hd => by cases hd; exact congrArg Value.bool hng.out)
    · intro act W2 he
      have hxW2 := Hd.mk ((Ext.drew wr).trans he.ext)
      obtain ⟨us, hA, hF⟩ := he.out [24, 25, 26, 27, 28, 29, 30, 31] (by kernel_rfl)
      simp only [Flow.fillL, List.contains_cons, List.contains_nil, Nat.reduceBEq, Bool.or_false, Bool.false_or, Bool.or_true, Bool.true_or, ↓reduceIte, Nat.reduceAdd, Bool.false_eq_true] at hA
      subst hA
      have f31 : us 31 = .bool (lessT y x) := hF 31 (by simp)
      clear hF he
      rw [f31]
      clear f31
      refine (show wpList _ _ _ [] _ _ from ?_)
      have hx2 := Hd.mk (hxr.out.trans hxW2.out)
      clear hxr hxW2 hcmp hng
      cases hb : lessT y x with
      | true =>
        go_wp2_with fail
        go_roundg (j - (h + 1) + 1)
        case measure => have := hq.out; omega
        case rel => exact ⟨h + 1, j, by omega, by omega, ⟨rfl⟩, by go_num, rfl, ⟨fun p z hp hz => by
            by_cases hph : p = h
            · subst hph; rw [hx1.out] at hz; cases hz; exact hb
            · exact lessT_trans (srt_get hs.out (by omega) hz hx1.out) hb⟩, hhi, hx2⟩
      | false =>
        go_wp2_with fail
        go_roundg (h - i + 1)
        case measure => have := hq.out; omega
        case rel => exact ⟨i, h, by omega, by omega, ⟨rfl⟩, rfl, rfl, hlo, ⟨fun p z hp hz => by
            by_cases hph : p = h
            · subst hph; rw [hx1.out] at hz; cases hz; exact hb
            · cases hc : lessT z x with
              | false => rfl
              | true => have := lessT_trans (srt_get hs.out (by omega) hx1.out hz) hc; rw [hb] at this; cases this⟩, hx2⟩
  · obtain rfl : i = j := by omega
    have hst := Hd.mk (show Stands l x i from ⟨hj, hlo.out, hhi.out⟩)
    clear hlo hhi hs
    by_cases hil : i < l.length
    · have hx1 := List.getElem?_eq_getElem hil
      generalize l[i] = y at hx1
      obtain ⟨b1, o1, ck, rfl, _, hrk, hck⟩ := kr.out.kid i y hx1
      obtain ⟨K3, c3, rfl, _⟩ := hrk.row
      have kcy := Hd.mk (fun (q : Nat) u hq => Ext.cell (kx.out.trans hxr.out) (hck q u hq))
      have hcmp := Hd.mk (fun W => tree_compare y x K3 Kx y.kids.length c3 x.kids.length cx W)
      simp only [cT] at kcy hcmp
      clear hck hrk hx1
      go_wp2_with fail
      refine Flow.wp_region_flow_l (fun qq => match qq with
        | 35 => SP.eq (.int .i64 (i : Nat))
        | 36 => SP.eq (.int .i64 (i : Nat))
        | 37 => SP.eq (.int .i64 (l.length : Nat))
        | 38 => SP.eq (.bool true)
        | 39 => SP.eq (.bool true)
        | 40 => SP.eq (.func (.func 116) #[] #[])
        | 41 => SP.eq (.slice (some ⟨b1, o1, none⟩) l.length c)
        | 42 => SP.eq (.int .i64 (i : Nat))
        | 43 => SP.eq (.pointer (some ⟨b1, o1 + i * 6, none⟩))
        | 44 => SP.eq (.agg #[.string y.name, .string y.key, .int .i64 y.kind, .int .u64 y.num, .string y.text, .slice K3 y.kids.length c3])
        | 45 => SP.eq (.agg #[.string x.name, .string x.key, .int .i64 x.kind, .int .u64 x.num, .string x.text, .slice Kx x.kids.length cx])
        | 46 => SP.eq (.int .i64 (cmpT y x))
        | 47 => SP.eq (.bool (cmpT y x == 0))
        | 48 => SP.eq (.bool (cmpT y x == 0))
        | 6 => SP.eq (.int .i64 (i : Nat))
        | 7 => SP.eq (.bool (cmpT y x == 0))
        | _ => SP.any) 16 (by kernel_rfl) 49 rfl (by kernel_rfl) ?_ ?_
      · skip
        refine ⟨?_, ?_, ?_, ?_, ?_, ?_, ?_, ?_, ?_, ?_, ?_, ?_, ?_, ?_, ?_, ?_, trivial⟩
        · intro act W2 hk
          refine Flow.does_intro rfl (fun Kq hK => ?_)
          have e9 : act.tmps[9]?.getD undef = .int .i64 (i : Nat) := hk.o 9 (by kernel_rfl)
          clear hk
          go_simp
          exact hK _ _ (Ext.refl _) (fun d hd => by cases hd; rfl)
        · intro act W2 hk
          refine Flow.does_intro rfl (fun Kq hK => ?_)
          have e9 : act.tmps[9]?.getD undef = .int .i64 (i : Nat) := hk.o 9 (by kernel_rfl)
          clear hk
          go_simp
          exact hK _ _ (Ext.refl _) (fun d hd => by cases hd; rfl)
        · intro act W2 hk
          refine Flow.does_intro rfl (fun Kq hK => ?_)
          have e8 : act.tmps[8]?.getD undef = .int .i64 (l.length : Nat) := hk.o 8 (by kernel_rfl)
          clear hk
          go_simp
          exact hK _ _ (Ext.refl _) (fun d hd => by cases hd; rfl)
        · intro act W2 hk
          refine Flow.does_intro rfl (fun Kq hK => ?_)
          have e36 : act.tmps[36]?.getD undef = .int .i64 (i : Nat) := hk.v 36 (by kernel_rfl)
          have e37 : act.tmps[37]?.getD undef = .int .i64 (l.length : Nat) := hk.v 37 (by kernel_rfl)
          clear hk
          go_simp
          exact hK _ _ (Ext.refl _) (fun d hd => by cases hd; rfl)
        · intro act W2 hk
          refine Flow.does_intro rfl (fun Kq hK => ?_)
          have e38 : act.tmps[38]?.getD undef = .bool true := hk.v 38 (by kernel_rfl)
          clear hk
          go_simp
          exact hK _ _ (Ext.refl _) (fun d hd => by cases hd; rfl)
        · intro act W2 hk
          have eg : act.tmps[39]?.getD undef = .bool true := hk.v 39 (by kernel_rfl)
          refine Flow.does_intro (wanted_yes rfl rfl eg) (fun Kq hK => ?_)
          clear eg
          have e2 : act.tmps[2]?.getD undef = .func (.func 116) #[] #[] := hk.o 2 (by kernel_rfl)
          clear hk
          go_simp
          exact hK _ _ (Ext.refl _) (fun d hd => by cases hd; rfl)
        · intro act W2 hk
          have eg : act.tmps[39]?.getD undef = .bool true := hk.v 39 (by kernel_rfl)
          refine Flow.does_intro (wanted_yes rfl rfl eg) (fun Kq hK => ?_)
          clear eg
          have e0 : act.tmps[0]?.getD undef = .slice (some ⟨b1, o1, none⟩) l.length c := hk.o 0 (by kernel_rfl)
          clear hk
          go_simp
          exact hK _ _ (Ext.refl _) (fun d hd => by cases hd; rfl)
        · intro act W2 hk
          have eg : act.tmps[39]?.getD undef = .bool true := hk.v 39 (by kernel_rfl)
          refine Flow.does_intro (wanted_yes rfl rfl eg) (fun Kq hK => ?_)
          clear eg
          have e9 : act.tmps[9]?.getD undef = .int .i64 (i : Nat) := hk.o 9 (by kernel_rfl)
          clear hk
          go_simp
          exact hK _ _ (Ext.refl _) (fun d hd => by cases hd; rfl)
        · intro act W2 hk
          have eg : act.tmps[39]?.getD undef = .bool true := hk.v 39 (by kernel_rfl)
          refine Flow.does_intro (wanted_yes rfl rfl eg) (fun Kq hK => ?_)
          clear eg
          have e41 : act.tmps[41]?.getD undef = .slice (some ⟨b1, o1, none⟩) l.length c := hk.v 41 (by kernel_rfl)
          have e42 : act.tmps[42]?.getD undef = .int .i64 (i : Nat) := hk.v 42 (by kernel_rfl)
          clear hk
          go_simp
          exact hK _ _ (Ext.refl _) (fun d hd => by cases hd; rfl)
        · intro act W2 hk
          have eg : act.tmps[39]?.getD undef = .bool true := hk.v 39 (by kernel_rfl)
          refine Flow.does_intro (wanted_yes rfl rfl eg) (fun Kq hK => ?_)
          clear eg
          have e43 : act.tmps[43]?.getD undef = .pointer (some ⟨b1, o1 + i * 6, none⟩) := hk.v 43 (by kernel_rfl)
          have g0 := Ext.cell ((Ext.drew wr).trans hk.ext) ((kcy.out) 0 _ rfl)
          rw [Nat.add_zero] at g0
          have g1 := Ext.cell ((Ext.drew wr).trans hk.ext) ((kcy.out) 1 _ rfl)
          have g2 := Ext.cell ((Ext.drew wr).trans hk.ext) ((kcy.out) 2 _ rfl)
          have g3 := Ext.cell ((Ext.drew wr).trans hk.ext) ((kcy.out) 3 _ rfl)
          have g4 := Ext.cell ((Ext.drew wr).trans hk.ext) ((kcy.out) 4 _ rfl)
          have g5 := Ext.cell ((Ext.drew wr).trans hk.ext) ((kcy.out) 5 _ rfl)
          clear hk
          go_simp
          exact hK _ _ (Ext.refl _) (fun d hd => by cases hd; rfl)
        · intro act W2 hk
          have eg : act.tmps[39]?.getD undef = .bool true := hk.v 39 (by kernel_rfl)
          refine Flow.does_intro (wanted_yes rfl rfl eg) (fun Kq hK => ?_)
          clear eg
          have e4 : act.tmps[4]?.getD undef = .pointer (some ⟨pX, 0, none⟩) := hk.o 4 (by kernel_rfl)
          have g := ((qX.out).ext ((Ext.drew wr).trans hk.ext)).cell
          clear hk
          go_simp
          exact hK _ _ (Ext.refl _) (fun d hd => by cases hd; rfl)
        · intro act W2 hk
          have eg : act.tmps[39]?.getD undef = .bool true := hk.v 39 (by kernel_rfl)
          refine Flow.does_intro (wanted_yes rfl rfl eg) (fun Kq hK => ?_)
          clear eg
          have e40 : act.tmps[40]?.getD undef = .func (.func 116) #[] #[] := hk.v 40 (by kernel_rfl)
          have e44 : act.tmps[44]?.getD undef = .agg #[.string y.name, .string y.key, .int .i64 y.kind, .int .u64 y.num, .string y.text, .slice K3 y.kids.length c3] := hk.v 44 (by kernel_rfl)
          have e45 : act.tmps[45]?.getD undef = .agg #[.string x.name, .string x.key, .int .i64 x.kind, .int .u64 x.num, .string x.text, .slice Kx x.kids.length cx] := hk.v 45 (by kernel_rfl)
          clear hk
          go_simp
          refine Calls.mono (hcmp.out _) ?_
          rintro e W3 ⟨rfl, hx⟩
          exact hK _ _ hx (fun d hd => by cases hd; rfl)
        · intro act W2 hk
          have eg : act.tmps[39]?.getD undef = .bool true := hk.v 39 (by kernel_rfl)
          refine Flow.does_intro (wanted_yes rfl rfl eg) (fun Kq hK => ?_)
          clear eg
          have e46 : act.tmps[46]?.getD undef = .int .i64 (cmpT y x) := hk.v 46 (by kernel_rfl)
          clear hk
          go_simp
          exact hK _ _ (Ext.refl _) (fun d hd => by cases hd; rfl)
        · intro act W2 hk
          refine Flow.does_intro rfl (fun Kq hK => ?_)
          have e39 : act.tmps[39]?.getD undef = .bool true := hk.v 39 (by kernel_rfl)
          have e47 : act.tmps[47]?.getD undef = .bool (cmpT y x == 0) := hk.v 47 (by kernel_rfl)
          clear hk
          go_simp
          exact hK _ _ (Ext.refl _) (fun d hd => by cases hd; rfl)
        · intro act W2 hk
          refine Flow.does_intro rfl (fun Kq hK => ?_)
          have e35 : act.tmps[35]?.getD undef = .int .i64 (i : Nat) := hk.v 35 (by kernel_rfl)
          clear hk
          go_simp
          exact hK _ _ (Ext.refl _) (fun d hd => by cases hd; rfl)
        · intro act W2 hk
          refine Flow.does_intro rfl (fun Kq hK => ?_)
          have e48 : act.tmps[48]?.getD undef = .bool (cmpT y x == 0) := hk.v 48 (by kernel_rfl)
          clear hk
          go_simp
          exact hK _ _ (Ext.refl _) (fun d hd => by cases hd; rfl)
      · intro act W2 he
        have hxW2 := Hd.mk ((Ext.drew wr).trans he.ext)
        obtain ⟨us, hA, hF⟩ := he.out [35, 36, 37, 38, 39, 40, 41, 42, 43, 44, 45, 46, 47, 48, 6, 7] (by kernel_rfl)
        simp only [Flow.fillL, List.contains_cons, List.contains_nil, Nat.reduceBEq, Bool.or_false, Bool.false_or, Bool.or_true, Bool.true_or, ↓reduceIte, Nat.reduceAdd, Bool.false_eq_true] at hA
        subst hA
        have f6 : us 6 = .int .i64 (i : Nat) := hF 6 (by simp)
        have f7 : us 7 = .bool (cmpT y x == 0) := hF 7 (by simp)
        clear hF he
        rw [f6]
        clear f6
        rw [f7]
        clear f7
        refine (show wpList _ _ _ [] _ _ from ?_)
        go_wp2_with fail
        go_ret2
        exact ⟨_, _, rfl, hst.out, (kx.out.trans hxr.out).trans hxW2.out⟩
    · obtain rfl : i = l.length := by omega
      go_wp2_with fail
      refine Flow.wp_region_flow_l (fun qq => match qq with
        | 35 => SP.eq (.int .i64 (l.length : Nat))
        | 36 => SP.eq (.int .i64 (l.length : Nat))
        | 37 => SP.eq (.int .i64 (l.length : Nat))
        | 38 => SP.eq (.bool false)
        | 39 => SP.eq (.bool false)
        | 40 => SP.eq (undef)
        | 41 => SP.eq (undef)
        | 42 => SP.eq (undef)
        | 43 => SP.eq (undef)
        | 44 => SP.eq (undef)
        | 45 => SP.eq (undef)
        | 46 => SP.eq (undef)
        | 47 => SP.eq (undef)
        | 48 => SP.eq (.bool false)
        | 6 => SP.eq (.int .i64 (l.length : Nat))
        | 7 => SP.eq (.bool false)
        | _ => SP.any) 16 (by kernel_rfl) 49 rfl (by kernel_rfl) ?_ ?_
      · skip
        refine ⟨?_, ?_, ?_, ?_, ?_, ?_, ?_, ?_, ?_, ?_, ?_, ?_, ?_, ?_, ?_, ?_, trivial⟩
        · intro act W2 hk
          refine Flow.does_intro rfl (fun Kq hK => ?_)
          have e9 : act.tmps[9]?.getD undef = .int .i64 (l.length : Nat) := hk.o 9 (by kernel_rfl)
          clear hk
          go_simp
          exact hK _ _ (Ext.refl _) (fun d hd => by cases hd; rfl)
        · intro act W2 hk
          refine Flow.does_intro rfl (fun Kq hK => ?_)
          have e9 : act.tmps[9]?.getD undef = .int .i64 (l.length : Nat) := hk.o 9 (by kernel_rfl)
          clear hk
          go_simp
          exact hK _ _ (Ext.refl _) (fun d hd => by cases hd; rfl)
        · intro act W2 hk
          refine Flow.does_intro rfl (fun Kq hK => ?_)
          have e8 : act.tmps[8]?.getD undef = .int .i64 (l.length : Nat) := hk.o 8 (by kernel_rfl)
          clear hk
          go_simp
          exact hK _ _ (Ext.refl _) (fun d hd => by cases hd; rfl)
        · intro act W2 hk
          refine Flow.does_intro rfl (fun Kq hK => ?_)
          have e36 : act.tmps[36]?.getD undef = .int .i64 (l.length : Nat) := hk.v 36 (by kernel_rfl)
          have e37 : act.tmps[37]?.getD undef = .int .i64 (l.length : Nat) := hk.v 37 (by kernel_rfl)
          clear hk
          go_simp
          exact hK _ _ (Ext.refl _) (fun d hd => by cases hd; rfl)
        · intro act W2 hk
          refine Flow.does_intro rfl (fun Kq hK => ?_)
          have e38 : act.tmps[38]?.getD undef = .bool false := hk.v 38 (by kernel_rfl)
          clear hk
          go_simp
          exact hK _ _ (Ext.refl _) (fun d hd => by cases hd; rfl)
        · intro act W2 hk
          have eg : act.tmps[39]?.getD undef = .bool false := hk.v 39 (by kernel_rfl)
          exact Flow.does_skip (wanted_no rfl rfl eg) (fun d hd => by cases hd; rfl)
        · intro act W2 hk
          have eg : act.tmps[39]?.getD undef = .bool false := hk.v 39 (by kernel_rfl)
          exact Flow.does_skip (wanted_no rfl rfl eg) (fun d hd => by cases hd; rfl)
        · intro act W2 hk
          have eg : act.tmps[39]?.getD undef = .bool false := hk.v 39 (by kernel_rfl)
          exact Flow.does_skip (wanted_no rfl rfl eg) (fun d hd => by cases hd; rfl)
        · intro act W2 hk
          have eg : act.tmps[39]?.getD undef = .bool false := hk.v 39 (by kernel_rfl)
          exact Flow.does_skip (wanted_no rfl rfl eg) (fun d hd => by cases hd; rfl)
        · intro act W2 hk
          have eg : act.tmps[39]?.getD undef = .bool false := hk.v 39 (by kernel_rfl)
          exact Flow.does_skip (wanted_no rfl rfl eg) (fun d hd => by cases hd; rfl)
        · intro act W2 hk
          have eg : act.tmps[39]?.getD undef = .bool false := hk.v 39 (by kernel_rfl)
          exact Flow.does_skip (wanted_no rfl rfl eg) (fun d hd => by cases hd; rfl)
        · intro act W2 hk
          have eg : act.tmps[39]?.getD undef = .bool false := hk.v 39 (by kernel_rfl)
          exact Flow.does_skip (wanted_no rfl rfl eg) (fun d hd => by cases hd; rfl)
        · intro act W2 hk
          have eg : act.tmps[39]?.getD undef = .bool false := hk.v 39 (by kernel_rfl)
          exact Flow.does_skip (wanted_no rfl rfl eg) (fun d hd => by cases hd; rfl)
        · intro act W2 hk
          refine Flow.does_intro rfl (fun Kq hK => ?_)
          have e39 : act.tmps[39]?.getD undef = .bool false := hk.v 39 (by kernel_rfl)
          clear hk
          go_simp
          exact hK _ _ (Ext.refl _) (fun d hd => by cases hd; rfl)
        · intro act W2 hk
          refine Flow.does_intro rfl (fun Kq hK => ?_)
          have e35 : act.tmps[35]?.getD undef = .int .i64 (l.length : Nat) := hk.v 35 (by kernel_rfl)
          clear hk
          go_simp
          exact hK _ _ (Ext.refl _) (fun d hd => by cases hd; rfl)
        · intro act W2 hk
          refine Flow.does_intro rfl (fun Kq hK => ?_)
          have e48 : act.tmps[48]?.getD undef = .bool false := hk.v 48 (by kernel_rfl)
          clear hk
          go_simp
          exact hK _ _ (Ext.refl _) (fun d hd => by cases hd; rfl)
      · intro act W2 he
        have hxW2 := Hd.mk ((Ext.drew wr).trans he.ext)
        obtain ⟨us, hA, hF⟩ := he.out [35, 36, 37, 38, 39, 40, 41, 42, 43, 44, 45, 46, 47, 48, 6, 7] (by kernel_rfl)
        simp only [Flow.fillL, List.contains_cons, List.contains_nil, Nat.reduceBEq, Bool.or_false, Bool.false_or, Bool.or_true, Bool.true_or, ↓reduceIte, Nat.reduceAdd, Bool.false_eq_true] at hA
        subst hA
        have f6 : us 6 = .int .i64 (l.length : Nat) := hF 6 (by simp)
        have f7 : us 7 = .bool false := hF 7 (by simp)
        clear hF he
        rw [f6]
        clear f6
        rw [f7]
        clear f7
        refine (show wpList _ _ _ [] _ _ from ?_)
        go_wp2_with fail
        go_ret2
        exact ⟨_, _, rfl, hst.out, (kx.out.trans hxr.out).trans hxW2.out⟩
end Go.Proofs.Ytgkgedjmnbjalaa
set_option linter.unusedSimpArgs false
namespace Go.Proofs.Ytgkgedjmnbjalaa
open Go.RowKit Go.Sort
theorem pth_cells : ∀ (way : List Step) (S : Nat → Prop) (w : World) (b0 o0 : Nat) (t u : T) (c : List Value) (b o : Nat), RT S w t c → (∀ (q : Nat) v, c[q]? = some v → w.cell? ⟨b0, o0 + q, none⟩ = some v) → getT t way = some u → Pth w b0 o0 t way b o →
    ∃ cu, RT S w u cu ∧ ∀ (q : Nat) v, cu[q]? = some v → w.cell? ⟨b, o + q, none⟩ = some v
  | [], S, w, b0, o0, t, u, c, b, o, h, hc, hg, hp => by
    cases hg
    obtain ⟨rfl, rfl⟩ := hp
    exact ⟨c, h, hc⟩
  | s :: r, S, w, b0, o0, t, u, c, b, o, h, hc, hg, hp => by
    obtain ⟨i, k, g, f, n, cc, h1, h2, h3, h4⟩ := hp
    rcases findT_kid t.kids s with ⟨e1, _⟩ | ⟨i', k', e1, e2, e3, _⟩
    · rw [e1] at h1; omega
    obtain rfl : i' = i := by rw [e1] at h1; exact Int.ofNat.inj h1
    rw [h2] at e2
    obtain rfl : k = k' := by cases e2; rfl
    obtain ⟨K, kc, rfl, hrow⟩ := h.row
    have h5 := hc 5 _ rfl
    rw [h3] at h5
    simp only [Option.some.injEq, Value.slice.injEq] at h5
    obtain ⟨rfl, _, _⟩ := h5
    obtain ⟨b1, o1, ck, hK, _, hrk, hck⟩ := hrow.kid i' k h2
    simp only [Option.some.injEq, Addr.mk.injEq, and_true] at hK
    obtain ⟨rfl, rfl⟩ := hK
    rw [getT_cons, e3] at hg
    exact pth_cells r S w g (f + i' * 6) k u ck b o hrk hck hg h4
def GetPost (o : Option T) (w w' : World) (v : Value) : Prop := Ext w w' ∧ ((o = none ∧ v = .tuple #[.agg #[.string ⟨#[]⟩, .string ⟨#[]⟩, .int .i64 0, .int .u64 0, .string ⟨#[]⟩, .slice none 0 0], .bool false]) ∨ ∃ u c, o = some u ∧ v = .tuple #[.agg (c : List Value).toArray, .bool true] ∧ OT (fun b => w.heap.size ≤ b ∧ b < w'.heap.size) w' u c)
set_option maxRecDepth 100000 in
set_option maxHeartbeats 2000000 in
theorem tree_get (t : T) (way : List Step) (S S' : Nat → Prop) (w : World) (c : List Value) (A : Option Addr) (ac : Nat) (h : RT S w t c) (hw : WRow S' w A way ac) :
    Calls Try.prog 68 #[.agg c.toArray, .slice A way.length ac] w (Ret (GetPost (getT t way) w)) := by
  obtain ⟨K, kc, rfl, hrow⟩ := h.row
  have kr := Hd.mk h
  have kw := Hd.mk hw
  clear hrow h hw
  simp only [cT] at kr ⊢
  generalize ho : getT t way = og
  replace ho := Hd.mk ho
  go_enter Try.func68, Try.ntmps68
  go_wp2_with fail
  have kx := Hd.mk ((Ext.alloc w (.cells #[.string t.name, .string t.key, .int .i64 t.kind, .int .u64 t.num, .string t.text, .slice K t.kids.length kc] 54)).trans (Ext.alloc _ (.cells #[.string ⟨#[]⟩, .string ⟨#[]⟩, .int .i64 0, .int .u64 0, .string ⟨#[]⟩, .slice none 0 0] 54)))
  have kA := Hd.mk ((Blk.new w #[.string t.name, .string t.key, .int .i64 t.kind, .int .u64 t.num, .string t.text, .slice K t.kids.length kc] 54).alloc (.cells #[.string ⟨#[]⟩, .string ⟨#[]⟩, .int .i64 0, .int .u64 0, .string ⟨#[]⟩, .slice none 0 0] 54))
  have kR := Hd.mk (Blk.new2 w (.cells #[.string t.name, .string t.key, .int .i64 t.kind, .int .u64 t.num, .string t.text, .slice K t.kids.length kc] 54) #[.string ⟨#[]⟩, .string ⟨#[]⟩, .int .i64 0, .int .u64 0, .string ⟨#[]⟩, .slice none 0 0] 54)
  generalize (w.alloc _).alloc _ = W at *
  have hat := Hd.mk (tree_at t way S S' W w.heap.size 0 _ A ac (kr.out.ext kx.out) (fun q v hq => by rw [Nat.zero_add, kA.out.cell]; exact hq) (kw.out.ext kx.out))
  refine Calls.mono hat.out ?_
  rintro e w1 ⟨hx, hres⟩
  have kx1 := Hd.mk (kx.out.trans hx)
  have kR1 := Hd.mk (kR.out.ext hx)
  have kA1 := Hd.mk (kA.out.ext hx)
  have hsz := Hd.mk kx1.out.size
  have hlt := Hd.mk kR1.out.lt
  clear kR hat
  rcases hres with ⟨hg, rfl⟩ | ⟨u, bu, ou, hg, rfl, hp⟩
  · have hog := Hd.mk (ho.out.symm.trans hg)
    clear hg hx ho kr kw kA kA1
    have gR := kR1.out.cell
    have fR := kR1.out.free
    go_wp2_with fail
    have hu := Hd.mk ((((((Upd.setCell w1 ⟨w.heap.size + 1, 0, none⟩ (.string ⟨#[]⟩)).trans (Upd.setCell _ ⟨w.heap.size + 1, 1, none⟩ (.string ⟨#[]⟩))).trans (Upd.setCell _ ⟨w.heap.size + 1, 2, none⟩ (.int .i64 0))).trans (Upd.setCell _ ⟨w.heap.size + 1, 3, none⟩ (.int .u64 0))).trans (Upd.setCell _ ⟨w.heap.size + 1, 4, none⟩ (.string ⟨#[]⟩))).trans (Upd.setCell _ ⟨w.heap.size + 1, 5, none⟩ (.slice none 0 0)))
    exact ret_box2 rfl (w.heap.size + 1) _ 54 _ ((((((kR1.out.setCell 0 (.string ⟨#[]⟩)).setCell 1 (.string ⟨#[]⟩)).setCell 2 (.int .i64 0)).setCell 3 (.int .u64 0)).setCell 4 (.string ⟨#[]⟩)).setCell 5 (.slice none 0 0)) rfl rfl Try.underlying54 rfl size54
      ⟨_, rfl, Below.trans kx1.out (hu.out.below (Nat.le_succ _)), .inl ⟨hog.out, rfl⟩⟩
  · obtain ⟨cu, hru, hcu⟩ := pth_cells way S W w.heap.size 0 t u _ bu ou (kr.out.ext kx.out) (fun q v hq => by
      have hA0 : W.cell? ⟨w.heap.size, 0 + q, none⟩ = [.string t.name, .string t.key, .int .i64 t.kind, .int .u64 t.num, .string t.text, .slice K t.kids.length kc][q]? := by
        rw [Nat.zero_add]
        have hb : Blk W w.heap.size [.string t.name, .string t.key, .int .i64 t.kind, .int .u64 t.num, .string t.text, .slice K t.kids.length kc] 54 := kA.out
        exact hb.cell q
      rw [hA0]; exact hq) hg hp
    have hog := Hd.mk (ho.out.symm.trans hg)
    obtain ⟨Ku, cku, rfl, _⟩ := hru.row
    obtain ⟨e0, e1, e2, e3, e4, e5⟩ := six hx hcu
    have lt1 := World.block_lt_of_cell? w1 _ e0
    have hcl := Hd.mk (own_clone _ u S w1 _ (Nat.le_refl _) (hru.ext hx))
    clear hg hx hp hcu hru ho kr kw kA1 kA
    simp only [cT] at hcl
    go_wp2_with fail
    refine Calls.mono hcl.out ?_
    rintro e w2 ⟨_, rfl, c', rfl, hr', hx⟩
    obtain ⟨K2, kc2, _, _, rfl, _⟩ := hr'.row
    have hr' := Hd.mk hr'
    have kR2 := Hd.mk (kR1.out.ext hx)
    have kx2 := Hd.mk (kx1.out.trans hx)
    have hs2 := Hd.mk hx.size
    clear hx kR1 hcl e0 e1 e2 e3 e4 e5 lt1
    simp only [cT] at hr' ⊢
    have gR := kR2.out.cell
    have fR := kR2.out.free
    go_wp2_with fail
    have hu := Hd.mk ((((((Upd.setCell w2 ⟨w.heap.size + 1, 0, none⟩ (.string u.name)).trans (Upd.setCell _ ⟨w.heap.size + 1, 1, none⟩ (.string u.key))).trans (Upd.setCell _ ⟨w.heap.size + 1, 2, none⟩ (.int .i64 u.kind))).trans (Upd.setCell _ ⟨w.heap.size + 1, 3, none⟩ (.int .u64 u.num))).trans (Upd.setCell _ ⟨w.heap.size + 1, 4, none⟩ (.string u.text))).trans (Upd.setCell _ ⟨w.heap.size + 1, 5, none⟩ (.slice K2 u.kids.length kc2)))
    exact ret_box2 rfl (w.heap.size + 1) _ 54 _ ((((((kR2.out.setCell 0 (.string u.name)).setCell 1 (.string u.key)).setCell 2 (.int .i64 u.kind)).setCell 3 (.int .u64 u.num)).setCell 4 (.string u.text)).setCell 5 (.slice K2 u.kids.length kc2)) rfl rfl Try.underlying54 rfl size54
      ⟨_, rfl, Below.trans kx2.out (hu.out.below (Nat.le_succ _)), .inr ⟨u, _, hog.out, rfl, (hr'.out.keep fun b hb => hu.out.block b (by have := hlt.out; have := hsz.out; show b ≠ w.heap.size + 1; omega)).mono fun b hb => ⟨Nat.le_trans hsz.out hb.1, by rw [hu.out.size]; exact hb.2⟩⟩⟩
end Go.Proofs.Ytgkgedjmnbjalaa
set_option linter.unusedSimpArgs false
namespace Go.Proofs.Ytgkgedjmnbjalaa
open Go.RowKit Go.Sort
def Good (M : Nat) (e : E) : Prop := rightT e.node = true ∧ rightT e.old = true ∧ e.node.size ≤ M ∧ e.old.size ≤ M ∧ (e.kind = 3 → sameT e.node e.old = false)
theorem zero_good : rightT zeroT = true ∧ zeroT.size = 1 := by
  refine ⟨?_, rfl⟩
  simp [rightT, rightL, zeroT, T.kind, T.num, T.text, T.kids]
theorem edits_good {M : Nat} (hM : 1 ≤ M) : ∀ (N : Nat) (a b : T) (way : List Step), (∀ x ∈ a.kids, rightT x = true ∧ x.size ≤ M) → (∀ y ∈ b.kids, rightT y = true ∧ y.size ≤ M) → ∀ e ∈ edits N a b way, Good M e
  | 0, _, _, _, _, _ => by simp [edits]
  | N + 1, a, b, way, ha, hb => by
    have hz := zero_good
    have hcut : ∀ x ∈ a.kids, ∀ e ∈ cutE way x, Good M e := fun x hx e he => by
      simp [cutE] at he; subst he
      exact ⟨hz.1, (ha x hx).1, by show zeroT.size ≤ M; omega, (ha x hx).2, fun h => by cases h⟩
    have hset : ∀ y ∈ b.kids, ∀ e ∈ setE way y, Good M e := fun y hy e he => by
      simp [setE] at he; subst he
      exact ⟨(hb y hy).1, hz.1, (hb y hy).2, by show zeroT.size ≤ M; omega, fun h => by cases h⟩
    rw [edits]
    refine mergeE_all _ _ _ hcut hset (fun x hx y hy hs e he => ?_)
    unfold bothE at he
    split at he
    · cases he
    · rename_i hns
      split at he
      · simp at he; subst he
        exact ⟨(hb y hy).1, (ha x hx).1, (hb y hy).2, (ha x hx).2, fun _ => by
          show sameT y x = false
          rw [sameT_comm]
          simpa using hns⟩
      · split at he
        · rcases List.mem_append.1 he with he | he
          · exact hcut x hx e he
          · exact hset y hy e he
        · refine edits_good hM N x y _ (fun z hz2 => ⟨(right_kid' (ha x hx).1 hz2).2, ?_⟩) (fun z hz2 => ⟨(right_kid' (hb y hy).1 hz2).2, ?_⟩) e he
          · obtain ⟨i, hi⟩ := List.getElem?_of_mem hz2
            have := kid_size hi
            have := (ha x hx).2
            omega
          · obtain ⟨i, hi⟩ := List.getElem?_of_mem hz2
            have := kid_size hi
            have := (hb y hy).2
            omega
theorem inverse_good {M : Nat} {l : List E} (h : ∀ e ∈ l, Good M e) (hM : 1 ≤ M) : ∀ e ∈ inverse l, Good M e := by
  intro e he
  have hz := zero_good
  unfold inverse at he
  obtain ⟨x, hx, hi⟩ := List.mem_flatMap.1 he
  obtain ⟨g1, g2, g3, g4, g5⟩ := h x (List.mem_reverse.1 hx)
  unfold inv1 at hi
  split at hi
  · simp at hi; subst hi; exact ⟨hz.1, g1, by show zeroT.size ≤ M; omega, g3, fun h => by cases h⟩
  · split at hi
    · simp at hi; subst hi; exact ⟨g2, hz.1, g4, by show zeroT.size ≤ M; omega, fun h => by cases h⟩
    · split at hi
      · rename_i h3
        simp at hi; subst hi; exact ⟨g2, g1, g4, g3, fun _ => by show sameT x.old x.node = false; rw [sameT_comm]; exact g5 h3⟩
      · cases hi
theorem inverse_le (l : List E) : (inverse l).length ≤ l.length := by
  unfold inverse
  have := inverse_len' l.reverse
  simpa using this
theorem edits_small {a b : T} {N : Nat} (ra : rightT a = true) (rb : ∀ y ∈ b.kids, rightT y = true) (sa : a.size ≤ 300) (sb : b.size ≤ 300) :
    (∀ e ∈ edits N a b [], Good 300 e) ∧ (edits N a b []).length ≤ 600 := by
  refine ⟨edits_good (by omega) N a b [] (fun x hx => ⟨(right_kid' ra hx).2, ?_⟩) (fun y hy => ⟨rb y hy, ?_⟩), ?_⟩
  · obtain ⟨i, hi⟩ := List.getElem?_of_mem hx
    have := kid_size hi
    omega
  · obtain ⟨i, hi⟩ := List.getElem?_of_mem hy
    have := kid_size hi
    omega
  · have := edits_len N a b []
    omega
theorem good_sum {l : List E} (h : ∀ e ∈ l, Good 300 e) (hl : l.length ≤ 600) : sizeE l ≤ 180000 := by
  have h1 := sizeE_le (B := 300) (fun e he => (h e he).2.2.1)
  have h2 : l.length * 300 ≤ 600 * 300 := Nat.mul_le_mul_right _ hl
  omega
theorem applyT_size : ∀ {l : List E} {n m : T} {i : Nat}, applyT n l i = (m, 0, 0) → m.size ≤ n.size + sizeE l
  | [], n, m, i, h => by simp only [applyT, Prod.mk.injEq] at h; rw [h.1]; omega
  | e :: l, n, m, i, h => by
    rw [applyT] at h
    by_cases h0 : (oneT n e).2 = 0
    · rw [if_pos h0] at h
      have h1 := applyT_size h
      have h2 : (oneT n e).1.size ≤ n.size + e.node.size := oneT_size (m := (oneT n e).1) (by rw [← h0])
      rw [sizeE_cons]
      omega
    · rw [if_neg h0] at h
      simp only [Prod.mk.injEq] at h
      exact absurd h.2.1 h0
theorem drop_good {M : Nat} {l : List E} (h : ∀ e ∈ l, Good M e) (k : Nat) : (∀ e ∈ l.take k, Good M e) ∧ ∀ e ∈ l.drop k, Good M e :=
  ⟨fun e he => h e (List.mem_of_mem_take he), fun e he => h e (List.mem_of_mem_drop he)⟩
theorem kids_eq {m y : T} {N : Nat} (hd : m.deep ≤ N) (rm : rightT m = true) (ry : rightT y = true) (km : m.kind = 0) (ky : y.kind = 0) (hs : stepT m = stepT y) (h : edits N m y [] = []) : m = y :=
  box_eq rm ry km ky hs ((edits_nil N m y [] hd (fun _ hx => (right_kid' rm hx).2) (fun _ hx => (right_kid' ry hx).2)).1 h)
theorem wk_right {a b : T} (ka : a.kind = 0) (kb : b.kind = 0) (ra : rightT a = true) (rb : rightT b = true) : rightT (a.wk b.kids) = true :=
  right_wk ra ka ((right_box kb).1 rb).2.2.1 ((right_box kb).1 rb).2.2.2
theorem makes_plain {N : Nat} {a y : T} (da : a.deep ≤ N) (dy : y.deep ≤ N) (ka : a.kind = 0) (ky : y.kind = 0) (ra : rightT a = true) (ry : rightT y = true) (hs : stepT a = stepT y) :
    (∀ i, applyT a (edits N a y []) i = (y, 0, 0)) ∧ ∀ i, applyT y (inverse (edits N a y [])) i = (a, 0, 0) := by
  obtain ⟨m, h1, h2, h3, h4, h5, h6, h7⟩ := steps_front _ (edits N a y []).length N a y (Nat.le_refl _) da dy ka ky ra ry (edits_fit N a y []) rfl
  rw [List.take_length] at h1 h7
  rw [List.drop_length] at h6
  obtain rfl := kids_eq h5 h2 ry h4 ky (h3.trans hs) h6
  exact ⟨h1, h7⟩
theorem fronts_plain {N k : Nat} {a y : T} (da : a.deep ≤ N) (dy : y.deep ≤ N) (ka : a.kind = 0) (ky : y.kind = 0) (ra : rightT a = true) (ry : rightT y = true) (hs : stepT a = stepT y) (hk : k ≤ (edits N a y []).length) :
    ∃ m, applyT a ((edits N a y []).take k) 0 = (m, 0, 0) ∧ rightT m = true ∧ m.kind = 0 ∧ m.deep ≤ N ∧ edits N m y [] = (edits N a y []).drop k ∧ applyT m ((edits N a y []).drop k) 0 = (y, 0, 0) := by
  obtain ⟨m, h1, h2, h3, h4, h5, h6, h7⟩ := steps_front _ k N a y hk da dy ka ky ra ry (edits_fit N a y []) rfl
  refine ⟨m, h1 0, h2, h4, h5, h6, ?_⟩
  rw [← h6]
  exact (makes_plain h5 dy h4 ky h2 ry (h3.trans hs)).1 0
def againT (d : Int) : Int := if d = 1 then 24 else if d = 2 then 30 else 23
theorem once_again {n m : T} {e : E} (hf : Fit e) (hn : rightT n = true) (h : oneT n e = (m, 0)) (h3 : e.kind = 3 → sameT e.node e.old = false) : oneT m e = (zeroT, againT e.kind) := by
  obtain ⟨b1, b2, b3, b4, b5⟩ := oneT_back e.way e.kind e.node e.old n m hf hn h
  have hk := oneT_kind h
  unfold oneT at h
  split at h
  · simp at h
  · rename_i hc
    unfold oneT
    rw [if_neg hc]
    rcases hk with hk | hk | hk
    · have b9 : getT m e.way = some e.node := by rw [b2, if_neg (by rw [hk]; decide)]
      simp [b9, hk, againT]
    · have b9 : getT m e.way = none := by rw [b2, if_pos hk]
      simp [b9, hk, againT]
    · have b9 : getT m e.way = some e.node := by rw [b2, if_neg (by rw [hk]; decide)]
      have h9 := h3 hk
      simp [b9, hk, againT, h9]
theorem once_plain {N : Nat} {a y : T} (da : a.deep ≤ N) (dy : y.deep ≤ N) (ka : a.kind = 0) (ky : y.kind = 0) (ra : rightT a = true) (ry : rightT y = true) :
    ∃ m, applyT a (edits N a y []) 0 = (m, 0, 0) ∧ rightT m = true ∧ ∀ (j : Nat) e, (edits N a y []).length = j + 1 → (edits N a y [])[j]? = some e → (e.kind = 1 ∨ e.kind = 2 ∨ e.kind = 3) ∧ oneT m e = (zeroT, againT e.kind) := by
  obtain ⟨m, h1, h2, h3, h4, h5, h6, h7⟩ := steps_front _ (edits N a y []).length N a y (Nat.le_refl _) da dy ka ky ra ry (edits_fit N a y []) rfl
  rw [List.take_length] at h1
  refine ⟨m, h1 0, h2, fun j e hl he => ?_⟩
  obtain ⟨m', g1, g2, g3, g4, g5, g6, g7⟩ := steps_front _ j N a y (by omega) da dy ka ky ra ry (edits_fit N a y []) rfl
  obtain ⟨hj, he'⟩ := List.getElem?_eq_some_iff.1 he
  have hdrop : (edits N a y []).drop j = [e] := by
    rw [List.drop_eq_getElem_cons hj, he', List.drop_of_length_le (by omega)]
  rw [hdrop] at g6
  obtain ⟨x', a1, a2, a3, a4, a5, a6⟩ := edits_step N m' y e [] g5 dy g4 ky g2 ry g6
  have hall := h1 0
  rw [← List.take_append_drop j (edits N a y []), applyT_append (g1 0), hdrop, applyT_one a1] at hall
  simp only [Prod.mk.injEq, and_true] at hall
  subst hall
  have hm := List.mem_of_getElem? he
  have hgood := edits_good (M := max a.size y.size + 1) (by omega) N a y [] (fun x hx => ⟨(right_kid' ra hx).2, by obtain ⟨i, hi⟩ := List.getElem?_of_mem hx; have := kid_size hi; omega⟩) (fun x hx => ⟨(right_kid' ry hx).2, by obtain ⟨i, hi⟩ := List.getElem?_of_mem hx; have := kid_size hi; omega⟩) e hm
  exact ⟨oneT_kind a1, once_again (edits_fit N a y [] e hm) g2 a1 hgood.2.2.2.2⟩
end Go.Proofs.Ytgkgedjmnbjalaa
