/- DiffParts: the walk.
   Conditions: none. -/
import Derived.Test.YtgkgedjmnbjalaaUA
import Derived.Test.YtgkgedjmnbjalaaUI
set_option linter.unusedSimpArgs false
namespace Go.Proofs.Ytgkgedjmnbjalaa
open Go.RowKit Go.Sort

theorem WRow.oneB {w : World} {D : Nat} {s : Step} (h : Blk w D [.string s.1, .string s.2] 65) : WRow (fun _ => True) w (some ⟨D, 0, none⟩) [s] 1 :=
  ⟨Nat.le_refl _, by simp, fun h => (by cases h), fun _ => ⟨D, 0, rfl, trivial, fun j v hv => by rw [Nat.zero_add, h.cell]; exact hv⟩⟩
/-- The steps of the second tree's kids that the first one has not. -/
def newS (a : List T) (ss : List Step) : List Step := ss.filter fun s => decide (findT a s < 0)
theorem edits_total {N : Nat} {a b : T} (hN : a.deep ≤ N) (ha : rightL none a.kids = true) (hb : rightL none b.kids = true) :
    sumU (edits N a b []) (a.kids.map stepT ++ newS a.kids (b.kids.map stepT)) = (edits N a b []).length := by
  refine sumU_all _ ?_ _ (fun e he => ?_)
  · rw [List.nodup_append]
    refine ⟨right_nodup ha, (right_nodup hb).filter _, fun s h1 t h2 e => ?_⟩
    subst e
    simp only [newS, List.mem_filter, decide_eq_true_eq] at h2
    obtain ⟨x, hx, hs⟩ := List.mem_map.1 h1
    exact findT_neg h2.2 x hx hs
  · cases N with
    | zero => simp [edits] at he
    | succ N =>
      have key : ∃ s r, e.way = s :: r ∧ (s ∈ a.kids.map stepT ∨ s ∈ b.kids.map stepT) := by
        rw [edits] at he
        refine mergeE_all (P := fun e => ∃ s r, e.way = s :: r ∧ (s ∈ a.kids.map stepT ∨ s ∈ b.kids.map stepT)) _ _ _ (fun x hx e he => ?_) (fun y hy e he => ?_) (fun x hx y hy hs e he => ?_) e he
        · simp [cutE] at he; subst he; exact ⟨_, [], rfl, .inl (List.mem_map_of_mem hx)⟩
        · simp [setE] at he; subst he; exact ⟨_, [], rfl, .inr (List.mem_map_of_mem hy)⟩
        · unfold bothE at he
          split at he
          · cases he
          · split at he
            · simp at he; subst he; exact ⟨_, [], rfl, .inl (List.mem_map_of_mem hx)⟩
            · split at he
              · simp [cutE, setE] at he
                rcases he with rfl | rfl
                · exact ⟨_, [], rfl, .inl (List.mem_map_of_mem hx)⟩
                · exact ⟨_, [], rfl, .inr (List.mem_map_of_mem hy)⟩
              · obtain ⟨q, r, h⟩ := edits_front N x y _ e he
                exact ⟨stepT x, q :: r, by rw [h]; simp, .inl (List.mem_map_of_mem hx)⟩
      obtain ⟨s, r, h1, h2⟩ := key
      refine ⟨s, r, h1, List.mem_append.2 ?_⟩
      by_cases h3 : s ∈ a.kids.map stepT
      · exact .inl h3
      · refine .inr (List.mem_filter.2 ⟨h2.resolve_left h3, decide_eq_true ?_⟩)
        rcases findT_spec a.kids s with ⟨h4, _⟩ | ⟨i, x, h4, h5, h6, _⟩
        · rw [h4]; omega
        · exact absurd (List.mem_map.2 ⟨x, List.mem_of_getElem? h5, h6⟩) h3
theorem take_map {l : List T} {j : Nat} {x : T} (h : l[j]? = some x) : (l.take (j + 1)).map stepT = (l.take j).map stepT ++ [stepT x] := by
  rw [List.take_add_one, h, List.map_append]; rfl
theorem sumU_one (l : List E) (s : Step) : sumU l [s] = countU l [s] := rfl
theorem newS_append (a : List T) (s t : List Step) : newS a (s ++ t) = newS a s ++ newS a t := by simp [newS]
theorem newS_yes {a : List T} {s : Step} (h : findT a s < 0) : newS a [s] = [s] := by simp [newS, h]
theorem newS_no {a : List T} {s : Step} (h : ¬ findT a s < 0) : newS a [s] = [] := by simp [newS]; omega
theorem newS_len (a : List T) (s : List Step) : (newS a s).length ≤ s.length := List.length_filter_le _ _
theorem sumU_600 {l : List E} (hl : l.length ≤ 600) (s : List Step) : sumU l s ≤ s.length * 600 := Nat.le_trans (sumU_le l s) (Nat.mul_le_mul_left _ hl)
/-- A box, new. -/
def spPtr2 (B : Nat) (cs : List Value) (t : TypeId) : SP := ⟨fun v w => ∃ D, v = .pointer (some ⟨D, 0, none⟩) ∧ B ≤ D ∧ Blk w D cs t, fun _ _ _ h ⟨D, e, h1, hb⟩ => ⟨D, e, h1, hb.ext h⟩⟩

set_option maxRecDepth 100000 in
set_option maxHeartbeats 8000000 in
theorem parts16_walk (a b : T) (w : World) (ca cb : List Value) (ha : RT (fun _ => True) w a ca) (hb : RT (fun _ => True) w b cb) (hsa : a.size ≤ 1048576) (hsb : b.size ≤ 1048576) :
    Calls Try.prog 10 #[.agg ca.toArray, .agg cb.toArray] w fun e w' => e = .returned (.bool true) ∧ Ext w w' := by
  obtain ⟨K1, c1, rfl, ra⟩ := ha.row
  obtain ⟨K2, c2, rfl, rb⟩ := hb.row
  have hsm := Hd.mk (fun W (h : Ext w W) => law_small a b _ W _ _ (ha.ext h) (hb.ext h) hsa hsb)
  have hE1 := Hd.mk (fun (hz : a.size ≤ 300 ∧ b.size ≤ 300) W (h : Ext w W) => diff_edits (N := a.deep) (Nat.le_refl _) (ha.ext h) (hb.ext h) (by have := a.deep_le; omega) (by omega))
  have hF := Hd.mk (fun s W (h : Ext w W) => ref_find a s _ W _ (ha.ext h))
  have hel : a.size ≤ 300 ∧ b.size ≤ 300 → (edits a.deep a b []).length ≤ 600 := fun h => Nat.le_trans (edits_len _ _ _ _) (by omega)
  have htot := Hd.mk (edits_total (N := a.deep) (a := a) (b := b) (Nat.le_refl _))
  have hnew := Hd.mk (fun y hb' hy hf => edits_new (N := a.deep) (a := a) (b := b) (y := y) (Nat.le_refl _) hb' hy hf)
  have hlast := Hd.mk (edits_last a.deep a b [])
  have kra := Hd.mk ra
  have krb := Hd.mk rb
  have hla := ra.len
  have hlb := rb.len
  clear ha hb ra rb
  simp only [cT] at hsm hE1 hF ⊢
  replace hel := Hd.mk hel
  generalize edits a.deep a b [] = es at *
  go_enter Try.func10, Try.ntmps10
  go_wp2_with fail
  have kx := Hd.mk ((Ext.alloc w (.cells #[.string a.name, .string a.key, .int .i64 a.kind, .int .u64 a.num, .string a.text, .slice K1 a.kids.length c1] 54)).trans (Ext.alloc _ (.cells #[.string b.name, .string b.key, .int .i64 b.kind, .int .u64 b.num, .string b.text, .slice K2 b.kids.length c2] 54)))
  have kA := Hd.mk ((Blk.new w #[.string a.name, .string a.key, .int .i64 a.kind, .int .u64 a.num, .string a.text, .slice K1 a.kids.length c1] 54).alloc (.cells #[.string b.name, .string b.key, .int .i64 b.kind, .int .u64 b.num, .string b.text, .slice K2 b.kids.length c2] 54))
  have kB := Hd.mk (Blk.new2 w (.cells #[.string a.name, .string a.key, .int .i64 a.kind, .int .u64 a.num, .string a.text, .slice K1 a.kids.length c1] 54) #[.string b.name, .string b.key, .int .i64 b.kind, .int .u64 b.num, .string b.text, .slice K2 b.kids.length c2] 54)
  generalize hpA : w.heap.size = pA at *
  replace hpA := Hd.mk hpA
  generalize (w.alloc _).alloc _ = W at *
  refine Calls.mono (awake16 _) ?_
  rintro e w1 ⟨rfl, hx⟩
  have kx1 := Hd.mk (kx.out.trans hx)
  have kA1 := Hd.mk (kA.out.ext hx)
  have kB1 := Hd.mk (kB.out.ext hx)
  clear hx kx kA kB
  have gA := kA1.out.cell
  have gB := kB1.out.cell
  go_wp2_with fail
  refine Calls.mono (hsm.out _ kx1.out) ?_
  rintro e w2 ⟨rfl, hx⟩
  have kx2 := Hd.mk (kx1.out.trans hx)
  have kA2 := Hd.mk (kA1.out.ext hx)
  have kB2 := Hd.mk (kB1.out.ext hx)
  clear hx kx1 kA1 kB1 gA gB hsm
  have gA := kA2.out.cell
  have gB := kB2.out.cell
  cases hb0 : smallB a b with
  | false =>
    go_wp2_with fail
    go_ret
    exact ⟨rfl, kx2.out⟩
  | true =>
    simp only [smallB, Bool.and_eq_true, decide_eq_true_eq] at hb0
    obtain ⟨s1, s2, s3, s4, s5, s6⟩ := hb0
    have hrb := (right_zero s6 s4).2.2
    replace htot := Hd.mk (htot.out (right_zero s5 s3).2.2 hrb)
    replace hnew := Hd.mk (fun y hy hf => hnew.out y hrb hy hf)
    have hel6 := hel.out ⟨s1, s2⟩
    replace hE1 := Hd.mk (hE1.out ⟨s1, s2⟩)
    clear s1 s2 s3 s4 s5 s6 hrb hel
    go_wp2_with fail
    refine Calls.mono (hE1.out _ kx2.out) ?_
    rintro e w4 ⟨_, rfl, A4, r4, rfl, hr4, hx⟩
    have kx4 := Hd.mk (kx2.out.trans hx)
    have kA4 := Hd.mk (kA2.out.ext hx)
    have kB4 := Hd.mk (kB2.out.ext hx)
    replace hr4 := Hd.mk hr4
    clear hx kx2 kA2 kB2 gA gB hE1
    replace htot := Hd.mk (htot.out)
    have hb1 : sumU es (a.kids.map stepT) ≤ 1048576 * 600 := Nat.le_trans (sumU_600 hel6 _) (Nat.mul_le_mul_right _ (by simpa using hla))
    go_wp2_with fail
    go_loopg [8, 9] (a.kids.length + 1) (fun q s8 s9 wr => ∃ (j z : Nat), j ≤ a.kids.length ∧ Hd (q = a.kids.length + 1 - j) ∧ s8 = .int .i64 z ∧ s9 = .int .i64 j ∧ Hd (z = sumU es ((a.kids.take j).map stepT)) ∧ Hd (Ext w4 wr))
    case atStart => exact ⟨0, 0, by omega, ⟨by omega⟩, rfl, rfl, ⟨rfl⟩, ⟨Ext.refl _⟩⟩
    case round =>
    obtain ⟨j, z, hj, hq, rfl, rfl, hz, hxr⟩ := hrel
    have qA := Hd.mk (kA4.out.ext hxr.out)
    have gA := qA.out.cell
    have hzb : z ≤ 1048576 * 600 := by rw [hz.out]; refine Nat.le_trans (sumU_600 hel6 _) (Nat.mul_le_mul_right _ ?_); simp; omega
    by_cases hlt : j < a.kids.length
    · have hx1 := List.getElem?_eq_getElem hlt
      generalize a.kids[j] = x at hx1
      have hst := Hd.mk (take_map hx1)
      obtain ⟨b1, o1, d1, rfl, _, hre1, hck⟩ := kra.out.kid j x hx1
      obtain ⟨K3, c3, rfl, _⟩ := hre1.row
      have kcx := Hd.mk (fun (q : Nat) u hq => Ext.cell (kx4.out.trans hxr.out) (hck q u hq))
      have hcu := Hd.mk (fun W D (h : Ext wr W) (hD : Blk W D [.string x.name, .string x.key] 65) => diff_under es [stepT x] _ _ W _ (some ⟨D, 0, none⟩) _ 1 (hr4.out.ext (hxr.out.trans h)) (WRow.oneB (s := stepT x) hD))
      have hcb := countU_le es [stepT x]
      have hz2 := Hd.mk (show sumU es ((a.kids.take (j + 1)).map stepT) = z + countU es [stepT x] by rw [hst.out, sumU_append, sumU_one, hz.out])
      simp only [cT, List.length_cons, List.length_nil] at kcx hcu
      clear hck hx1 hre1 hst
      generalize countU es [stepT x] = n0 at *
      have hlt2 := hlt
      go_wp2_with fail
      refine Flow.wp_region_flow_l (fun qq => match qq with
        | 34 => SP.eq (.int .i64 (z : Nat))
        | 35 => SP.eq (.slice A4 es.length r4)
        | 36 => SP.eq (.pointer (some ⟨pA, 5, none⟩))
        | 37 => SP.eq (.slice (some ⟨b1, o1, none⟩) a.kids.length c1)
        | 38 => SP.eq (.int .i64 (j : Nat))
        | 39 => SP.eq (.pointer (some ⟨b1, o1 + j * 6, none⟩))
        | 40 => SP.eq (.pointer (some ⟨b1, o1 + j * 6, none⟩))
        | 41 => SP.eq (.string x.name)
        | 42 => SP.eq (.pointer (some ⟨pA, 5, none⟩))
        | 43 => SP.eq (.slice (some ⟨b1, o1, none⟩) a.kids.length c1)
        | 44 => SP.eq (.int .i64 (j : Nat))
        | 45 => SP.eq (.pointer (some ⟨b1, o1 + j * 6, none⟩))
        | 46 => SP.eq (.pointer (some ⟨b1, o1 + j * 6 + 1, none⟩))
        | 47 => SP.eq (.string x.key)
        | 48 => SP.eq (.agg #[.string x.name, .string x.key])
        | 49 => spRow1 [.string x.name, .string x.key] 65
        | 50 => SP.eq (.int .i64 (n0 : Nat))
        | 51 => SP.eq (.int .i64 ((z + n0 : Nat)))
        | 8 => SP.eq (.int .i64 ((z + n0 : Nat)))
        | _ => SP.any) 19 (by kernel_rfl) 146 rfl (by kernel_rfl) ?_ ?_
      · skip
        refine ⟨?_, ?_, ?_, ?_, ?_, ?_, ?_, ?_, ?_, ?_, ?_, ?_, ?_, ?_, ?_, ?_, ?_, ?_, ?_, trivial⟩
        · intro act W2 hk
          refine Flow.does_intro rfl (fun Kq hK => ?_)
          have e8 : act.tmps[8]?.getD undef = .int .i64 (z : Nat) := hk.o 8 (by kernel_rfl)
          clear hk
          go_simp
          exact hK _ _ (Ext.refl _) (fun d hd => by cases hd; rfl)
        · intro act W2 hk
          refine Flow.does_intro rfl (fun Kq hK => ?_)
          have e7 : act.tmps[7]?.getD undef = .slice A4 es.length r4 := hk.o 7 (by kernel_rfl)
          clear hk
          go_simp
          exact hK _ _ (Ext.refl _) (fun d hd => by cases hd; rfl)
        · intro act W2 hk
          refine Flow.does_intro rfl (fun Kq hK => ?_)
          have e2 : act.tmps[2]?.getD undef = .pointer (some ⟨pA, 0, none⟩) := hk.o 2 (by kernel_rfl)
          clear hk
          go_simp
          exact hK _ _ (Ext.refl _) (fun d hd => by cases hd; rfl)
        · intro act W2 hk
          refine Flow.does_intro rfl (fun Kq hK => ?_)
          have e36 : act.tmps[36]?.getD undef = .pointer (some ⟨pA, 5, none⟩) := hk.v 36 (by kernel_rfl)
          have g := ((qA.out).ext ((Ext.drew wr).trans hk.ext)).cell
          clear hk
          go_simp
          exact hK _ _ (Ext.refl _) (fun d hd => by cases hd; rfl)
        · intro act W2 hk
          refine Flow.does_intro rfl (fun Kq hK => ?_)
          have e9 : act.tmps[9]?.getD undef = .int .i64 (j : Nat) := hk.o 9 (by kernel_rfl)
          clear hk
          go_simp
          exact hK _ _ (Ext.refl _) (fun d hd => by cases hd; rfl)
        · intro act W2 hk
          refine Flow.does_intro rfl (fun Kq hK => ?_)
          have e37 : act.tmps[37]?.getD undef = .slice (some ⟨b1, o1, none⟩) a.kids.length c1 := hk.v 37 (by kernel_rfl)
          have e38 : act.tmps[38]?.getD undef = .int .i64 (j : Nat) := hk.v 38 (by kernel_rfl)
          clear hk
          go_simp
          exact hK _ _ (Ext.refl _) (fun d hd => by cases hd; rfl)
        · intro act W2 hk
          refine Flow.does_intro rfl (fun Kq hK => ?_)
          have e39 : act.tmps[39]?.getD undef = .pointer (some ⟨b1, o1 + j * 6, none⟩) := hk.v 39 (by kernel_rfl)
          clear hk
          go_simp
          exact hK _ _ (Ext.refl _) (fun d hd => by cases hd; rfl)
        · intro act W2 hk
          refine Flow.does_intro rfl (fun Kq hK => ?_)
          have e40 : act.tmps[40]?.getD undef = .pointer (some ⟨b1, o1 + j * 6, none⟩) := hk.v 40 (by kernel_rfl)
          have g0 := Ext.cell ((Ext.drew wr).trans hk.ext) ((kcx.out) 0 _ rfl)
          rw [Nat.add_zero] at g0
          clear hk
          go_simp
          exact hK _ _ (Ext.refl _) (fun d hd => by cases hd; rfl)
        · intro act W2 hk
          refine Flow.does_intro rfl (fun Kq hK => ?_)
          have e2 : act.tmps[2]?.getD undef = .pointer (some ⟨pA, 0, none⟩) := hk.o 2 (by kernel_rfl)
          clear hk
          go_simp
          exact hK _ _ (Ext.refl _) (fun d hd => by cases hd; rfl)
        · intro act W2 hk
          refine Flow.does_intro rfl (fun Kq hK => ?_)
          have e42 : act.tmps[42]?.getD undef = .pointer (some ⟨pA, 5, none⟩) := hk.v 42 (by kernel_rfl)
          have g := ((qA.out).ext ((Ext.drew wr).trans hk.ext)).cell
          clear hk
          go_simp
          exact hK _ _ (Ext.refl _) (fun d hd => by cases hd; rfl)
        · intro act W2 hk
          refine Flow.does_intro rfl (fun Kq hK => ?_)
          have e9 : act.tmps[9]?.getD undef = .int .i64 (j : Nat) := hk.o 9 (by kernel_rfl)
          clear hk
          go_simp
          exact hK _ _ (Ext.refl _) (fun d hd => by cases hd; rfl)
        · intro act W2 hk
          refine Flow.does_intro rfl (fun Kq hK => ?_)
          have e43 : act.tmps[43]?.getD undef = .slice (some ⟨b1, o1, none⟩) a.kids.length c1 := hk.v 43 (by kernel_rfl)
          have e44 : act.tmps[44]?.getD undef = .int .i64 (j : Nat) := hk.v 44 (by kernel_rfl)
          clear hk
          go_simp
          exact hK _ _ (Ext.refl _) (fun d hd => by cases hd; rfl)
        · intro act W2 hk
          refine Flow.does_intro rfl (fun Kq hK => ?_)
          have e45 : act.tmps[45]?.getD undef = .pointer (some ⟨b1, o1 + j * 6, none⟩) := hk.v 45 (by kernel_rfl)
          clear hk
          go_simp
          exact hK _ _ (Ext.refl _) (fun d hd => by cases hd; rfl)
        · intro act W2 hk
          refine Flow.does_intro rfl (fun Kq hK => ?_)
          have e46 : act.tmps[46]?.getD undef = .pointer (some ⟨b1, o1 + j * 6 + 1, none⟩) := hk.v 46 (by kernel_rfl)
          have g1 := Ext.cell ((Ext.drew wr).trans hk.ext) ((kcx.out) 1 _ rfl)
          clear hk
          go_simp
          exact hK _ _ (Ext.refl _) (fun d hd => by cases hd; rfl)
        · intro act W2 hk
          refine Flow.does_intro rfl (fun Kq hK => ?_)
          have e41 : act.tmps[41]?.getD undef = .string x.name := hk.v 41 (by kernel_rfl)
          have e47 : act.tmps[47]?.getD undef = .string x.key := hk.v 47 (by kernel_rfl)
          clear hk
          go_simp
          exact hK _ _ (Ext.refl _) (fun d hd => by cases hd; rfl)
        · intro act W2 hk
          refine Flow.does_intro rfl (fun Kq hK => ?_)
          have e48 : act.tmps[48]?.getD undef = .agg #[.string x.name, .string x.key] := hk.v 48 (by kernel_rfl)
          clear hk
          go_simp
          exact hK _ _ (Ext.alloc _ _) (fun d hd => by cases hd; exact ⟨_, rfl, Blk.new _ _ _⟩)
        · intro act W2 hk
          refine Flow.does_intro rfl (fun Kq hK => ?_)
          have e35 : act.tmps[35]?.getD undef = .slice A4 es.length r4 := hk.v 35 (by kernel_rfl)
          obtain ⟨D, e49, hD⟩ := (hk.v 49 (by kernel_rfl) : (spRow1 _ _).p _ _)
          have hc2 := Hd.mk (hcu.out W2 D ((Ext.drew wr).trans hk.ext) hD)
          clear hk
          go_simp
          refine Calls.mono (hc2.out) ?_
          rintro e W3 ⟨rfl, hx⟩
          exact hK _ _ hx (fun d hd => by cases hd; rfl)
        · intro act W2 hk
          refine Flow.does_intro rfl (fun Kq hK => ?_)
          have e34 : act.tmps[34]?.getD undef = .int .i64 (z : Nat) := hk.v 34 (by kernel_rfl)
          have e50 : act.tmps[50]?.getD undef = .int .i64 (n0 : Nat) := hk.v 50 (by kernel_rfl)
          clear hk
          go_simp
          exact hK _ _ (Ext.refl _) (fun d hd => by cases hd; (simp [SP.eq]; rw [IntKind.wrap_i64]; omega))
        · intro act W2 hk
          refine Flow.does_intro rfl (fun Kq hK => ?_)
          have e51 : act.tmps[51]?.getD undef = .int .i64 ((z + n0 : Nat)) := hk.v 51 (by kernel_rfl)
          clear hk
          go_simp
          exact hK _ _ (Ext.refl _) (fun d hd => by cases hd; rfl)
      · intro act W2 he
        have hxW2 := Hd.mk ((Ext.drew wr).trans he.ext)
        obtain ⟨us, hA, hF⟩ := he.out [34, 35, 36, 37, 38, 39, 40, 41, 42, 43, 44, 45, 46, 47, 48, 49, 50, 51, 8] (by kernel_rfl)
        simp only [Flow.fillL, List.contains_cons, List.contains_nil, Nat.reduceBEq, Bool.or_false, Bool.false_or, Bool.or_true, Bool.true_or, ↓reduceIte, Nat.reduceAdd, Bool.false_eq_true] at hA
        subst hA
        have f8 : us 8 = .int .i64 ((z + n0 : Nat)) := hF 8 (by simp)
        clear hF he
        rw [f8]
        clear f8
        refine (show wpList _ _ _ [] _ _ from ?_)
        go_wp2_with fail
        go_roundg (a.kids.length + 1 - (j + 1))
        case measure => have := hq.out; omega
        case rel => exact ⟨j + 1, z + n0, by omega, ⟨rfl⟩, rfl, by go_num, ⟨hz2.out.symm⟩, ⟨hxr.out.trans hxW2.out⟩⟩
    · have hjl : j = a.kids.length := by omega
      subst hjl
      rw [List.take_length] at hz
      replace kA4 := qA
      replace kB4 := Hd.mk (kB4.out.ext hxr.out)
      replace hr4 := Hd.mk (hr4.out.ext hxr.out)
      replace kx4 := Hd.mk (kx4.out.trans hxr.out)
      clear hxr hq hj hlt qA
      go_wp2_with fail
      clear gA
      go_loopg [8, 10] (b.kids.length + 1) (fun q s8 s9 wz => ∃ (j z2 : Nat), j ≤ b.kids.length ∧ Hd (q = b.kids.length + 1 - j) ∧ s8 = .int .i64 z2 ∧ s9 = .int .i64 j ∧ Hd (z2 = sumU es (a.kids.map stepT ++ newS a.kids ((b.kids.take j).map stepT))) ∧ Hd (Ext wr wz))
      case atStart => exact ⟨0, z, by omega, ⟨by omega⟩, rfl, rfl, ⟨by rw [hz.out]; simp [newS]⟩, ⟨Ext.refl _⟩⟩
      case round =>
      obtain ⟨j, z2, hj, hq, rfl, rfl, hz2, hxr⟩ := hrel
      have qA := Hd.mk (kA4.out.ext hxr.out)
      have qB := Hd.mk (kB4.out.ext hxr.out)
      have gA := qA.out.cell
      have gB := qB.out.cell
      have hzb2 : z2 ≤ 2097152 * 600 := by
        rw [hz2.out]
        refine Nat.le_trans (sumU_600 hel6 _) (Nat.mul_le_mul_right _ ?_)
        have := newS_len a.kids ((b.kids.take j).map stepT)
        simp at this ⊢
        omega
      by_cases hlt : j < b.kids.length
      · have hx1 := List.getElem?_eq_getElem hlt
        generalize b.kids[j] = x at hx1
        have hst := take_map hx1
        have hxm := List.mem_of_getElem? hx1
        obtain ⟨b1, o1, d1, rfl, _, hre1, hck⟩ := krb.out.kid j x hx1
        obtain ⟨K3, c3, rfl, _⟩ := hre1.row
        have kcx := Hd.mk (fun (q : Nat) u hq => Ext.cell (kx4.out.trans hxr.out) (hck q u hq))
        have hcu := fun W D (h : Ext wr W) (hD : Blk W D [.string x.name, .string x.key] 65) => diff_under es [stepT x] _ _ W _ (some ⟨D, 0, none⟩) _ 1 (hr4.out.ext (hxr.out.trans h)) (WRow.oneB (s := stepT x) hD)
        have hfx := Hd.mk (fun W (h : Ext wr W) => hF.out (stepT x) W (kx4.out.trans (hxr.out.trans h)))
        have hsm2 : sumU es (a.kids.map stepT ++ newS a.kids ((b.kids.take (j + 1)).map stepT)) = z2 + (if findT a.kids (stepT x) < 0 then 1 else 0) := by
          rw [hst, newS_append, ← List.append_assoc, sumU_append, hz2.out]
          split
          · rename_i hf
            rw [newS_yes hf, sumU_one, hnew.out x hxm hf]
          · rename_i hf
            rw [newS_no hf]; rfl
        have hone : findT a.kids (stepT x) < 0 → countU es [stepT x] = 1 := fun h => hnew.out x hxm h
        replace hcu := Hd.mk hcu
        replace hone := Hd.mk hone
        replace hsm2 := Hd.mk hsm2
        simp only [cT, List.length_cons, List.length_nil, stepT] at kcx hcu hfx
        clear hck hx1 hre1 hst hxm
        have hlt2 := hlt
        go_wp2_with fail
        refine Flow.wp_region_flow_l (fun qq => match qq with
          | 59 => SP.eq (.pointer (some ⟨pA + 1, 5, none⟩))
          | 60 => SP.eq (.slice (some ⟨b1, o1, none⟩) b.kids.length c2)
          | 61 => SP.eq (.int .i64 (j : Nat))
          | 62 => SP.eq (.pointer (some ⟨b1, o1 + j * 6, none⟩))
          | 63 => SP.eq (.pointer (some ⟨b1, o1 + j * 6, none⟩))
          | 64 => SP.eq (.string x.name)
          | 65 => SP.eq (.pointer (some ⟨pA + 1, 5, none⟩))
          | 66 => SP.eq (.slice (some ⟨b1, o1, none⟩) b.kids.length c2)
          | 67 => SP.eq (.int .i64 (j : Nat))
          | 68 => SP.eq (.pointer (some ⟨b1, o1 + j * 6, none⟩))
          | 69 => SP.eq (.pointer (some ⟨b1, o1 + j * 6 + 1, none⟩))
          | 70 => SP.eq (.string x.key)
          | 71 => SP.eq (.agg #[.string x.name, .string x.key])
          | 11 => spPtr2 wr.heap.size [.string ⟨#[]⟩, .string ⟨#[]⟩] 65
          | _ => SP.any) 14 (by kernel_rfl) 146 rfl (by kernel_rfl) ?_ ?_
        · skip
          refine ⟨?_, ?_, ?_, ?_, ?_, ?_, ?_, ?_, ?_, ?_, ?_, ?_, ?_, ?_, trivial⟩
          · intro act W2 hk
            refine Flow.does_intro rfl (fun Kq hK => ?_)
            have e3 : act.tmps[3]?.getD undef = .pointer (some ⟨pA + 1, 0, none⟩) := hk.o 3 (by kernel_rfl)
            clear hk
            go_simp
            exact hK _ _ (Ext.refl _) (fun d hd => by cases hd; rfl)
          · intro act W2 hk
            refine Flow.does_intro rfl (fun Kq hK => ?_)
            have e59 : act.tmps[59]?.getD undef = .pointer (some ⟨pA + 1, 5, none⟩) := hk.v 59 (by kernel_rfl)
            have g := ((qB.out).ext ((Ext.drew wr).trans hk.ext)).cell
            clear hk
            go_simp
            exact hK _ _ (Ext.refl _) (fun d hd => by cases hd; rfl)
          · intro act W2 hk
            refine Flow.does_intro rfl (fun Kq hK => ?_)
            have e10 : act.tmps[10]?.getD undef = .int .i64 (j : Nat) := hk.o 10 (by kernel_rfl)
            clear hk
            go_simp
            exact hK _ _ (Ext.refl _) (fun d hd => by cases hd; rfl)
          · intro act W2 hk
            refine Flow.does_intro rfl (fun Kq hK => ?_)
            have e60 : act.tmps[60]?.getD undef = .slice (some ⟨b1, o1, none⟩) b.kids.length c2 := hk.v 60 (by kernel_rfl)
            have e61 : act.tmps[61]?.getD undef = .int .i64 (j : Nat) := hk.v 61 (by kernel_rfl)
            clear hk
            go_simp
            exact hK _ _ (Ext.refl _) (fun d hd => by cases hd; rfl)
          · intro act W2 hk
            refine Flow.does_intro rfl (fun Kq hK => ?_)
            have e62 : act.tmps[62]?.getD undef = .pointer (some ⟨b1, o1 + j * 6, none⟩) := hk.v 62 (by kernel_rfl)
            clear hk
            go_simp
            exact hK _ _ (Ext.refl _) (fun d hd => by cases hd; rfl)
          · intro act W2 hk
            refine Flow.does_intro rfl (fun Kq hK => ?_)
            have e63 : act.tmps[63]?.getD undef = .pointer (some ⟨b1, o1 + j * 6, none⟩) := hk.v 63 (by kernel_rfl)
            have g0 := Ext.cell ((Ext.drew wr).trans hk.ext) ((kcx.out) 0 _ rfl)
            rw [Nat.add_zero] at g0
            clear hk
            go_simp
            exact hK _ _ (Ext.refl _) (fun d hd => by cases hd; rfl)
          · intro act W2 hk
            refine Flow.does_intro rfl (fun Kq hK => ?_)
            have e3 : act.tmps[3]?.getD undef = .pointer (some ⟨pA + 1, 0, none⟩) := hk.o 3 (by kernel_rfl)
            clear hk
            go_simp
            exact hK _ _ (Ext.refl _) (fun d hd => by cases hd; rfl)
          · intro act W2 hk
            refine Flow.does_intro rfl (fun Kq hK => ?_)
            have e65 : act.tmps[65]?.getD undef = .pointer (some ⟨pA + 1, 5, none⟩) := hk.v 65 (by kernel_rfl)
            have g := ((qB.out).ext ((Ext.drew wr).trans hk.ext)).cell
            clear hk
            go_simp
            exact hK _ _ (Ext.refl _) (fun d hd => by cases hd; rfl)
          · intro act W2 hk
            refine Flow.does_intro rfl (fun Kq hK => ?_)
            have e10 : act.tmps[10]?.getD undef = .int .i64 (j : Nat) := hk.o 10 (by kernel_rfl)
            clear hk
            go_simp
            exact hK _ _ (Ext.refl _) (fun d hd => by cases hd; rfl)
          · intro act W2 hk
            refine Flow.does_intro rfl (fun Kq hK => ?_)
            have e66 : act.tmps[66]?.getD undef = .slice (some ⟨b1, o1, none⟩) b.kids.length c2 := hk.v 66 (by kernel_rfl)
            have e67 : act.tmps[67]?.getD undef = .int .i64 (j : Nat) := hk.v 67 (by kernel_rfl)
            clear hk
            go_simp
            exact hK _ _ (Ext.refl _) (fun d hd => by cases hd; rfl)
          · intro act W2 hk
            refine Flow.does_intro rfl (fun Kq hK => ?_)
            have e68 : act.tmps[68]?.getD undef = .pointer (some ⟨b1, o1 + j * 6, none⟩) := hk.v 68 (by kernel_rfl)
            clear hk
            go_simp
            exact hK _ _ (Ext.refl _) (fun d hd => by cases hd; rfl)
          · intro act W2 hk
            refine Flow.does_intro rfl (fun Kq hK => ?_)
            have e69 : act.tmps[69]?.getD undef = .pointer (some ⟨b1, o1 + j * 6 + 1, none⟩) := hk.v 69 (by kernel_rfl)
            have g1 := Ext.cell ((Ext.drew wr).trans hk.ext) ((kcx.out) 1 _ rfl)
            clear hk
            go_simp
            exact hK _ _ (Ext.refl _) (fun d hd => by cases hd; rfl)
          · intro act W2 hk
            refine Flow.does_intro rfl (fun Kq hK => ?_)
            have e64 : act.tmps[64]?.getD undef = .string x.name := hk.v 64 (by kernel_rfl)
            have e70 : act.tmps[70]?.getD undef = .string x.key := hk.v 70 (by kernel_rfl)
            clear hk
            go_simp
            exact hK _ _ (Ext.refl _) (fun d hd => by cases hd; rfl)
          · intro act W2 hk
            refine Flow.does_intro rfl (fun Kq hK => ?_)
            have hx0 := Hd.mk hk.ext
            clear hk
            go_simp
            exact hK _ _ (Ext.alloc _ _) (fun d hd => by cases hd; exact ⟨_, rfl, ((Ext.drew wr).trans hx0.out).size, Blk.new _ _ _⟩)
        · intro act W2 he
          have hxW2 := Hd.mk ((Ext.drew wr).trans he.ext)
          obtain ⟨us, hA, hF⟩ := he.out [59, 60, 61, 62, 63, 64, 65, 66, 67, 68, 69, 70, 71, 11] (by kernel_rfl)
          simp only [Flow.fillL, List.contains_cons, List.contains_nil, Nat.reduceBEq, Bool.or_false, Bool.false_or, Bool.or_true, Bool.true_or, ↓reduceIte, Nat.reduceAdd, Bool.false_eq_true] at hA
          subst hA
          have f11 : (spPtr2 wr.heap.size [.string ⟨#[]⟩, .string ⟨#[]⟩] 65).p (us 11) W2 := hF 11 (by simp)
          have f71 : us 71 = .agg #[.string x.name, .string x.key] := hF 71 (by simp)
          clear hF he
          rw [f71]
          clear f71
          obtain ⟨D, e11, hDn, hD⟩ := (f11 : (spPtr2 _ _ _).p _ _)
          replace hDn := Hd.mk hDn
          replace hD := Hd.mk hD
          generalize us 59 = u59 at *
          generalize us 60 = u60 at *
          generalize us 61 = u61 at *
          generalize us 62 = u62 at *
          generalize us 63 = u63 at *
          generalize us 64 = u64 at *
          generalize us 65 = u65 at *
          generalize us 66 = u66 at *
          generalize us 67 = u67 at *
          generalize us 68 = u68 at *
          generalize us 69 = u69 at *
          generalize us 70 = u70 at *
          generalize us 11 = u11 at *
          subst e11
          have gD := hD.out.cell
          have fD := hD.out.free
          have lD := hD.out.lt
          clear gA gB
          refine (show wpList _ _ _ (⟨none, .store 65 (.tmp 11) (.tmp 71), _, _, _, none⟩ :: []) _ _ from ?_)
          go_wp2_with ((with_reducible refine stop_at (.load 54 (.tmp 2)) ?_))
          refine Stop.mk ?_
          have hu := (Upd.setCell W2 ⟨D, 0, none⟩ (.string x.name)).trans (Upd.setCell _ ⟨D, 1, none⟩ (.string x.key))
          have hD3 : Blk ((W2.setCell ⟨D, 0, none⟩ (.string x.name)).setCell ⟨D, 1, none⟩ (.string x.key)) D [.string x.name, .string x.key] 65 := (hD.out.setCell 0 (.string x.name)).setCell 1 (.string x.key)
          have hDb := hDn.out
          have kx5 := Hd.mk (show Ext wr _ from Below.trans hxW2.out (hu.below hDb))
          clear gD fD lD
          replace hD := Hd.mk hD3
          clear hD3 hu hxW2
          generalize (W2.setCell _ _).setCell _ _ = W5 at *
          replace qA := Hd.mk (qA.out.ext kx5.out)
          have gA := qA.out.cell
          have gD := hD.out.cell
          go_wp2_with fail
          refine Calls.mono (hfx.out _ kx5.out) ?_
          rintro e w6 ⟨rfl, hx⟩
          replace hD := Hd.mk (hD.out.ext hx)
          have kx6 := Hd.mk (kx5.out.trans hx)
          clear hx gA gD hfx
          have gD := hD.out.cell
          rcases findT_spec a.kids (x.name, x.key) with ⟨hf, _⟩ | ⟨i, _, hf, hi, _⟩
          · have hneg : findT a.kids (stepT x) < 0 := by show findT a.kids (x.name, x.key) < 0; rw [hf]; omega
            have h1c := Hd.mk (hone.out hneg)
            rw [hf]
            have hsm3 := Hd.mk (hsm2.out.trans (by rw [if_pos hneg]))
            clear hone hsm2 hneg hf
            go_wp2_with fail
            refine Calls.mono (hcu.out _ _ (kx6.out.trans (Ext.alloc _ _)) (Blk.new _ _ _)) ?_
            rintro e w7 ⟨rfl, hx⟩
            rw [show countU es [(x.name, x.key)] = 1 from h1c.out]
            have kx7 := Hd.mk ((kx6.out.trans (Ext.alloc _ _)).trans hx)
            clear hx gD
            go_wp2_with fail
            go_roundg (b.kids.length + 1 - (j + 1))
            case measure => have := hq.out; omega
            case rel => exact ⟨j + 1, z2 + 1, by omega, ⟨rfl⟩, by go_num, by go_num, ⟨hsm3.out.symm⟩, ⟨hxr.out.trans kx7.out⟩⟩
          · have hil := (List.getElem?_eq_some_iff.1 hi).1
            have hneg : ¬ findT a.kids (stepT x) < 0 := by show ¬ findT a.kids (x.name, x.key) < 0; rw [hf]; omega
            rw [hf]
            have hsm3 := Hd.mk (hsm2.out.trans (by rw [if_neg hneg]))
            clear hone hsm2 hneg hf hi
            go_wp2_with fail
            go_roundg (b.kids.length + 1 - (j + 1))
            case measure => have := hq.out; omega
            case rel => exact ⟨j + 1, z2, by omega, ⟨rfl⟩, rfl, by go_num, ⟨hsm3.out.symm⟩, ⟨hxr.out.trans kx6.out⟩⟩
      · have hjl : j = b.kids.length := by omega
        subst hjl
        rw [List.take_length, htot.out] at hz2
        replace hz2 := hz2.out
        subst hz2
        replace hr4 := Hd.mk (hr4.out.ext hxr.out)
        replace kx4 := Hd.mk (kx4.out.trans hxr.out)
        clear hxr hq hj hlt qA qB gA kA4 kB4 hz hzb hb1
        have hl4 := hr4.out.len
        go_wp2_with fail
        clear gB
        go_loopg [13] (es.length + 1) (fun q s13 wz => ∃ j : Nat, j ≤ es.length ∧ Hd (q = es.length + 1 - j) ∧ s13 = .int .i64 j ∧ Hd (Ext wr wz))
        case atStart => exact ⟨0, by omega, ⟨by omega⟩, rfl, ⟨Ext.refl _⟩⟩
        case round =>
        obtain ⟨j, hj, hq, rfl, hxr⟩ := hrel
        by_cases hlt : j < es.length
        · have hx1 := List.getElem?_eq_getElem hlt
          generalize es[j] = x at hx1
          obtain ⟨rr, hway⟩ := hlast.out x (List.mem_of_getElem? hx1)
          obtain ⟨b1, o1, d1, rfl, _, hre1, hck⟩ := hr4.out.edit j x hx1
          obtain ⟨kd, way, nde, old⟩ := x
          have hway : way = rr ++ [stepT (if kd = 2 then old else nde)] := hway
          obtain ⟨A3, a3, K3, k3, L3, l3, rfl, hw3, _, _⟩ := hre1
          have hwl : way.length = rr.length + 1 := by rw [hway]; simp
          have hwj : way[rr.length]? = some (stepT (if kd = 2 then old else nde)) := by rw [hway]; simp
          have hw3l := hw3.len
          obtain ⟨b2, o2, rfl, _, hdk⟩ := WRow.at hw3 hwj
          have kcy := Hd.mk (fun (q : Nat) u hq => Ext.cell hxr.out (hdk q u hq))
          have kcx := Hd.mk (fun (q : Nat) u hq => Ext.cell hxr.out (hck q u hq))
          obtain ⟨e0, e1, e2, e3, e4, e5, e6, e7, e8, e9, e10, e11, e12, e13⟩ := c14C hxr.out hck
          have lt1 := World.block_lt_of_cell? wr _ e0
          have hrl : rr.length ≤ 1048576 := by have h9 : way.length ≤ 1048576 := hw3l; omega
          simp only [cT, List.cons_append, List.nil_append] at kcx
          replace hwl := Hd.mk hwl
          clear hck hdk hx1 hw3 hway hwj hw3l
          have hlt2 := hlt
          rw [show (⟨kd, way, nde, old⟩ : E).way.length = rr.length + 1 from hwl.out] at e1 kcx
          clear hwl
          generalize rr.length = rl at *
          by_cases k2 : kd = 2
          · subst k2
            simp only [if_pos] at kcy
            go_wp2_with fail
            have kQ : Blk (wr.alloc (.cells #[.string old.name, .string old.key, .int .i64 old.kind, .int .u64 old.num, .string old.text, .slice L3 old.kids.length l3] 54)) wr.heap.size [.string old.name, .string old.key, .int .i64 old.kind, .int .u64 old.num, .string old.text, .slice L3 old.kids.length l3] 54 := (Blk.new wr #[.string old.name, .string old.key, .int .i64 old.kind, .int .u64 old.num, .string old.text, .slice L3 old.kids.length l3] 54)
            have kx5 : Ext wr (wr.alloc (.cells #[.string old.name, .string old.key, .int .i64 old.kind, .int .u64 old.num, .string old.text, .slice L3 old.kids.length l3] 54)) := (Ext.alloc wr (.cells #[.string old.name, .string old.key, .int .i64 old.kind, .int .u64 old.num, .string old.text, .slice L3 old.kids.length l3] 54))
            replace kQ := Hd.mk kQ
            replace kx5 := Hd.mk kx5
            clear e0 e1 e2 e3 e4 e5 e6 e7 e8 e9 e10 e11 e12 e13 lt1
            generalize (wr.alloc (.cells #[.string old.name, .string old.key, .int .i64 old.kind, .int .u64 old.num, .string old.text, .slice L3 old.kids.length l3] 54)) = W5 at *
            generalize wr.heap.size = pQ at *
            have kcx2 := Hd.mk (fun (q : Nat) u hq => Ext.cell kx5.out (kcx.out q u hq))
            have kcy2 := Hd.mk (fun (q : Nat) u hq => Ext.cell kx5.out (kcy.out q u hq))
            have hrl2 : (rl : Int) < (rl : Int) + 1 := by omega
            refine Flow.wp_region_flow_l (fun qq => match qq with
              | 116 => SP.eq (.pointer (some ⟨pQ, 0, none⟩))
              | 117 => SP.eq (.string old.name)
              | 118 => SP.eq (.slice (some ⟨b1, o1, none⟩) es.length r4)
              | 119 => SP.eq (.int .i64 (j : Nat))
              | 120 => SP.eq (.pointer (some ⟨b1, o1 + j * 14, none⟩))
              | 121 => SP.eq (.pointer (some ⟨b1, o1 + j * 14 + 1, none⟩))
              | 122 => SP.eq (.slice (some ⟨b2, o2, none⟩) (rl + 1) a3)
              | 123 => SP.eq (.int .i64 (rl : Nat))
              | 124 => SP.eq (.pointer (some ⟨b2, o2 + rl * 2, none⟩))
              | 125 => SP.eq (.pointer (some ⟨b2, o2 + rl * 2, none⟩))
              | 126 => SP.eq (.string old.name)
              | 127 => SP.eq (.bool false)
              | 128 => SP.eq (.bool false)
              | 129 => SP.eq (.pointer (some ⟨pQ, 1, none⟩))
              | 130 => SP.eq (.string old.key)
              | 131 => SP.eq (.slice (some ⟨b1, o1, none⟩) es.length r4)
              | 132 => SP.eq (.int .i64 (j : Nat))
              | 133 => SP.eq (.pointer (some ⟨b1, o1 + j * 14, none⟩))
              | 134 => SP.eq (.pointer (some ⟨b1, o1 + j * 14 + 1, none⟩))
              | 135 => SP.eq (.slice (some ⟨b2, o2, none⟩) (rl + 1) a3)
              | 136 => SP.eq (.int .i64 (rl : Nat))
              | 137 => SP.eq (.pointer (some ⟨b2, o2 + rl * 2, none⟩))
              | 138 => SP.eq (.pointer (some ⟨b2, o2 + rl * 2 + 1, none⟩))
              | 139 => SP.eq (.string old.key)
              | 140 => SP.eq (.bool false)
              | 141 => SP.eq (.bool false)
              | _ => SP.any) 26 (by kernel_rfl) 146 rfl (by kernel_rfl) ?_ ?_
            · skip
              refine ⟨?_, ?_, ?_, ?_, ?_, ?_, ?_, ?_, ?_, ?_, ?_, ?_, ?_, ?_, ?_, ?_, ?_, ?_, ?_, ?_, ?_, ?_, ?_, ?_, ?_, ?_, trivial⟩
              · intro act W2 hk
                refine Flow.does_intro rfl (fun Kq hK => ?_)
                have e15 : act.tmps[15]?.getD undef = .pointer (some ⟨pQ, 0, none⟩) := hk.o 15 (by kernel_rfl)
                clear hk
                go_simp
                exact hK _ _ (Ext.refl _) (fun d hd => by cases hd; rfl)
              · intro act W2 hk
                refine Flow.does_intro rfl (fun Kq hK => ?_)
                have e116 : act.tmps[116]?.getD undef = .pointer (some ⟨pQ, 0, none⟩) := hk.v 116 (by kernel_rfl)
                have g := ((kQ.out).ext ((Ext.drew W5).trans hk.ext)).cell
                clear hk
                go_simp
                exact hK _ _ (Ext.refl _) (fun d hd => by cases hd; rfl)
              · intro act W2 hk
                refine Flow.does_intro rfl (fun Kq hK => ?_)
                have e7 : act.tmps[7]?.getD undef = .slice (some ⟨b1, o1, none⟩) es.length r4 := hk.o 7 (by kernel_rfl)
                clear hk
                go_simp
                exact hK _ _ (Ext.refl _) (fun d hd => by cases hd; rfl)
              · intro act W2 hk
                refine Flow.does_intro rfl (fun Kq hK => ?_)
                have e13 : act.tmps[13]?.getD undef = .int .i64 (j : Nat) := hk.o 13 (by kernel_rfl)
                clear hk
                go_simp
                exact hK _ _ (Ext.refl _) (fun d hd => by cases hd; rfl)
              · intro act W2 hk
                refine Flow.does_intro rfl (fun Kq hK => ?_)
                have e118 : act.tmps[118]?.getD undef = .slice (some ⟨b1, o1, none⟩) es.length r4 := hk.v 118 (by kernel_rfl)
                have e119 : act.tmps[119]?.getD undef = .int .i64 (j : Nat) := hk.v 119 (by kernel_rfl)
                clear hk
                go_simp
                exact hK _ _ (Ext.refl _) (fun d hd => by cases hd; rfl)
              · intro act W2 hk
                refine Flow.does_intro rfl (fun Kq hK => ?_)
                have e120 : act.tmps[120]?.getD undef = .pointer (some ⟨b1, o1 + j * 14, none⟩) := hk.v 120 (by kernel_rfl)
                clear hk
                go_simp
                exact hK _ _ (Ext.refl _) (fun d hd => by cases hd; rfl)
              · intro act W2 hk
                refine Flow.does_intro rfl (fun Kq hK => ?_)
                have e121 : act.tmps[121]?.getD undef = .pointer (some ⟨b1, o1 + j * 14 + 1, none⟩) := hk.v 121 (by kernel_rfl)
                have g1 := Ext.cell ((Ext.drew W5).trans hk.ext) ((kcx2.out) 1 _ rfl)
                clear hk
                go_simp
                exact hK _ _ (Ext.refl _) (fun d hd => by cases hd; rfl)
              · intro act W2 hk
                refine Flow.does_intro rfl (fun Kq hK => ?_)
                have e14 : act.tmps[14]?.getD undef = .int .i64 (rl : Nat) := hk.o 14 (by kernel_rfl)
                clear hk
                go_simp
                exact hK _ _ (Ext.refl _) (fun d hd => by cases hd; rfl)
              · intro act W2 hk
                refine Flow.does_intro rfl (fun Kq hK => ?_)
                have e122 : act.tmps[122]?.getD undef = .slice (some ⟨b2, o2, none⟩) (rl + 1) a3 := hk.v 122 (by kernel_rfl)
                have e123 : act.tmps[123]?.getD undef = .int .i64 (rl : Nat) := hk.v 123 (by kernel_rfl)
                clear hk
                go_simp
                exact hK _ _ (Ext.refl _) (fun d hd => by cases hd; rfl)
              · intro act W2 hk
                refine Flow.does_intro rfl (fun Kq hK => ?_)
                have e124 : act.tmps[124]?.getD undef = .pointer (some ⟨b2, o2 + rl * 2, none⟩) := hk.v 124 (by kernel_rfl)
                clear hk
                go_simp
                exact hK _ _ (Ext.refl _) (fun d hd => by cases hd; rfl)
              · intro act W2 hk
                refine Flow.does_intro rfl (fun Kq hK => ?_)
                have e125 : act.tmps[125]?.getD undef = .pointer (some ⟨b2, o2 + rl * 2, none⟩) := hk.v 125 (by kernel_rfl)
                have g0 := Ext.cell ((Ext.drew W5).trans hk.ext) ((kcy2.out) 0 _ rfl)
                rw [Nat.add_zero] at g0
                clear hk
                go_simp
                exact hK _ _ (Ext.refl _) (fun d hd => by cases hd; rfl)
              · intro act W2 hk
                refine Flow.does_intro rfl (fun Kq hK => ?_)
                have e117 : act.tmps[117]?.getD undef = .string old.name := hk.v 117 (by kernel_rfl)
                have e126 : act.tmps[126]?.getD undef = .string old.name := hk.v 126 (by kernel_rfl)
                clear hk
                go_simp
                exact hK _ _ (Ext.refl _) (fun d hd => by cases hd; first | rfl | (show _ = _; go_num) | (simp [SP.eq]; omega))
              · intro act W2 hk
                refine Flow.does_intro rfl (fun Kq hK => ?_)
                have e127 : act.tmps[127]?.getD undef = .bool false := hk.v 127 (by kernel_rfl)
                clear hk
                go_simp
                exact hK _ _ (Ext.refl _) (fun d hd => by cases hd; rfl)
              · intro act W2 hk
                have eg : act.tmps[128]?.getD undef = .bool false := hk.v 128 (by kernel_rfl)
                refine Flow.does_intro (wanted_yes rfl rfl eg) (fun Kq hK => ?_)
                clear eg
                have e15 : act.tmps[15]?.getD undef = .pointer (some ⟨pQ, 0, none⟩) := hk.o 15 (by kernel_rfl)
                clear hk
                go_simp
                exact hK _ _ (Ext.refl _) (fun d hd => by cases hd; rfl)
              · intro act W2 hk
                have eg : act.tmps[128]?.getD undef = .bool false := hk.v 128 (by kernel_rfl)
                refine Flow.does_intro (wanted_yes rfl rfl eg) (fun Kq hK => ?_)
                clear eg
                have e129 : act.tmps[129]?.getD undef = .pointer (some ⟨pQ, 1, none⟩) := hk.v 129 (by kernel_rfl)
                have g := ((kQ.out).ext ((Ext.drew W5).trans hk.ext)).cell
                clear hk
                go_simp
                exact hK _ _ (Ext.refl _) (fun d hd => by cases hd; rfl)
              · intro act W2 hk
                have eg : act.tmps[128]?.getD undef = .bool false := hk.v 128 (by kernel_rfl)
                refine Flow.does_intro (wanted_yes rfl rfl eg) (fun Kq hK => ?_)
                clear eg
                have e7 : act.tmps[7]?.getD undef = .slice (some ⟨b1, o1, none⟩) es.length r4 := hk.o 7 (by kernel_rfl)
                clear hk
                go_simp
                exact hK _ _ (Ext.refl _) (fun d hd => by cases hd; rfl)
              · intro act W2 hk
                have eg : act.tmps[128]?.getD undef = .bool false := hk.v 128 (by kernel_rfl)
                refine Flow.does_intro (wanted_yes rfl rfl eg) (fun Kq hK => ?_)
                clear eg
                have e13 : act.tmps[13]?.getD undef = .int .i64 (j : Nat) := hk.o 13 (by kernel_rfl)
                clear hk
                go_simp
                exact hK _ _ (Ext.refl _) (fun d hd => by cases hd; rfl)
              · intro act W2 hk
                have eg : act.tmps[128]?.getD undef = .bool false := hk.v 128 (by kernel_rfl)
                refine Flow.does_intro (wanted_yes rfl rfl eg) (fun Kq hK => ?_)
                clear eg
                have e131 : act.tmps[131]?.getD undef = .slice (some ⟨b1, o1, none⟩) es.length r4 := hk.v 131 (by kernel_rfl)
                have e132 : act.tmps[132]?.getD undef = .int .i64 (j : Nat) := hk.v 132 (by kernel_rfl)
                clear hk
                go_simp
                exact hK _ _ (Ext.refl _) (fun d hd => by cases hd; rfl)
              · intro act W2 hk
                have eg : act.tmps[128]?.getD undef = .bool false := hk.v 128 (by kernel_rfl)
                refine Flow.does_intro (wanted_yes rfl rfl eg) (fun Kq hK => ?_)
                clear eg
                have e133 : act.tmps[133]?.getD undef = .pointer (some ⟨b1, o1 + j * 14, none⟩) := hk.v 133 (by kernel_rfl)
                clear hk
                go_simp
                exact hK _ _ (Ext.refl _) (fun d hd => by cases hd; rfl)
              · intro act W2 hk
                have eg : act.tmps[128]?.getD undef = .bool false := hk.v 128 (by kernel_rfl)
                refine Flow.does_intro (wanted_yes rfl rfl eg) (fun Kq hK => ?_)
                clear eg
                have e134 : act.tmps[134]?.getD undef = .pointer (some ⟨b1, o1 + j * 14 + 1, none⟩) := hk.v 134 (by kernel_rfl)
                have g1 := Ext.cell ((Ext.drew W5).trans hk.ext) ((kcx2.out) 1 _ rfl)
                clear hk
                go_simp
                exact hK _ _ (Ext.refl _) (fun d hd => by cases hd; rfl)
              · intro act W2 hk
                have eg : act.tmps[128]?.getD undef = .bool false := hk.v 128 (by kernel_rfl)
                refine Flow.does_intro (wanted_yes rfl rfl eg) (fun Kq hK => ?_)
                clear eg
                have e14 : act.tmps[14]?.getD undef = .int .i64 (rl : Nat) := hk.o 14 (by kernel_rfl)
                clear hk
                go_simp
                exact hK _ _ (Ext.refl _) (fun d hd => by cases hd; rfl)
              · intro act W2 hk
                have eg : act.tmps[128]?.getD undef = .bool false := hk.v 128 (by kernel_rfl)
                refine Flow.does_intro (wanted_yes rfl rfl eg) (fun Kq hK => ?_)
                clear eg
                have e135 : act.tmps[135]?.getD undef = .slice (some ⟨b2, o2, none⟩) (rl + 1) a3 := hk.v 135 (by kernel_rfl)
                have e136 : act.tmps[136]?.getD undef = .int .i64 (rl : Nat) := hk.v 136 (by kernel_rfl)
                clear hk
                go_simp
                exact hK _ _ (Ext.refl _) (fun d hd => by cases hd; rfl)
              · intro act W2 hk
                have eg : act.tmps[128]?.getD undef = .bool false := hk.v 128 (by kernel_rfl)
                refine Flow.does_intro (wanted_yes rfl rfl eg) (fun Kq hK => ?_)
                clear eg
                have e137 : act.tmps[137]?.getD undef = .pointer (some ⟨b2, o2 + rl * 2, none⟩) := hk.v 137 (by kernel_rfl)
                clear hk
                go_simp
                exact hK _ _ (Ext.refl _) (fun d hd => by cases hd; rfl)
              · intro act W2 hk
                have eg : act.tmps[128]?.getD undef = .bool false := hk.v 128 (by kernel_rfl)
                refine Flow.does_intro (wanted_yes rfl rfl eg) (fun Kq hK => ?_)
                clear eg
                have e138 : act.tmps[138]?.getD undef = .pointer (some ⟨b2, o2 + rl * 2 + 1, none⟩) := hk.v 138 (by kernel_rfl)
                have g1 := Ext.cell ((Ext.drew W5).trans hk.ext) ((kcy2.out) 1 _ rfl)
                clear hk
                go_simp
                exact hK _ _ (Ext.refl _) (fun d hd => by cases hd; rfl)
              · intro act W2 hk
                have eg : act.tmps[128]?.getD undef = .bool false := hk.v 128 (by kernel_rfl)
                refine Flow.does_intro (wanted_yes rfl rfl eg) (fun Kq hK => ?_)
                clear eg
                have e130 : act.tmps[130]?.getD undef = .string old.key := hk.v 130 (by kernel_rfl)
                have e139 : act.tmps[139]?.getD undef = .string old.key := hk.v 139 (by kernel_rfl)
                clear hk
                go_simp
                exact hK _ _ (Ext.refl _) (fun d hd => by cases hd; first | rfl | (show _ = _; go_num) | (simp [SP.eq]; omega))
              · intro act W2 hk
                refine Flow.does_intro rfl (fun Kq hK => ?_)
                have e128 : act.tmps[128]?.getD undef = .bool false := hk.v 128 (by kernel_rfl)
                have e140 : act.tmps[140]?.getD undef = .bool false := hk.v 140 (by kernel_rfl)
                clear hk
                go_simp
                exact hK _ _ (Ext.refl _) (fun d hd => by cases hd; rfl)
            · intro act W2 he
              have hxW2 := Hd.mk ((Ext.drew W5).trans he.ext)
              obtain ⟨us, hA, hF⟩ := he.out [116, 117, 118, 119, 120, 121, 122, 123, 124, 125, 126, 127, 128, 129, 130, 131, 132, 133, 134, 135, 136, 137, 138, 139, 140, 141] (by kernel_rfl)
              simp only [Flow.fillL, List.contains_cons, List.contains_nil, Nat.reduceBEq, Bool.or_false, Bool.false_or, Bool.or_true, Bool.true_or, ↓reduceIte, Nat.reduceAdd, Bool.false_eq_true] at hA
              subst hA
              have f141 : us 141 = .bool false := hF 141 (by simp)
              clear hF he
              rw [f141]
              clear f141
              refine (show wpList _ _ _ [] _ _ from ?_)
              go_wp2_with fail
              go_roundg (es.length + 1 - (j + 1))
              case measure => have := hq.out; omega
              case rel => exact ⟨j + 1, by omega, ⟨rfl⟩, by go_num, ⟨(hxr.out.trans kx5.out).trans hxW2.out⟩⟩
          · simp only [if_neg k2] at kcy
            go_wp2_with fail
            have kQ : Blk (wr.alloc (.cells #[.string nde.name, .string nde.key, .int .i64 nde.kind, .int .u64 nde.num, .string nde.text, .slice K3 nde.kids.length k3] 54)) wr.heap.size [.string nde.name, .string nde.key, .int .i64 nde.kind, .int .u64 nde.num, .string nde.text, .slice K3 nde.kids.length k3] 54 := (Blk.new wr #[.string nde.name, .string nde.key, .int .i64 nde.kind, .int .u64 nde.num, .string nde.text, .slice K3 nde.kids.length k3] 54)
            have kx5 : Ext wr (wr.alloc (.cells #[.string nde.name, .string nde.key, .int .i64 nde.kind, .int .u64 nde.num, .string nde.text, .slice K3 nde.kids.length k3] 54)) := (Ext.alloc wr (.cells #[.string nde.name, .string nde.key, .int .i64 nde.kind, .int .u64 nde.num, .string nde.text, .slice K3 nde.kids.length k3] 54))
            replace kQ := Hd.mk kQ
            replace kx5 := Hd.mk kx5
            clear e0 e1 e2 e3 e4 e5 e6 e7 e8 e9 e10 e11 e12 e13 lt1
            generalize (wr.alloc (.cells #[.string nde.name, .string nde.key, .int .i64 nde.kind, .int .u64 nde.num, .string nde.text, .slice K3 nde.kids.length k3] 54)) = W5 at *
            generalize wr.heap.size = pQ at *
            have kcx2 := Hd.mk (fun (q : Nat) u hq => Ext.cell kx5.out (kcx.out q u hq))
            have kcy2 := Hd.mk (fun (q : Nat) u hq => Ext.cell kx5.out (kcy.out q u hq))
            have hrl2 : (rl : Int) < (rl : Int) + 1 := by omega
            refine Flow.wp_region_flow_l (fun qq => match qq with
              | 116 => SP.eq (.pointer (some ⟨pQ, 0, none⟩))
              | 117 => SP.eq (.string nde.name)
              | 118 => SP.eq (.slice (some ⟨b1, o1, none⟩) es.length r4)
              | 119 => SP.eq (.int .i64 (j : Nat))
              | 120 => SP.eq (.pointer (some ⟨b1, o1 + j * 14, none⟩))
              | 121 => SP.eq (.pointer (some ⟨b1, o1 + j * 14 + 1, none⟩))
              | 122 => SP.eq (.slice (some ⟨b2, o2, none⟩) (rl + 1) a3)
              | 123 => SP.eq (.int .i64 (rl : Nat))
              | 124 => SP.eq (.pointer (some ⟨b2, o2 + rl * 2, none⟩))
              | 125 => SP.eq (.pointer (some ⟨b2, o2 + rl * 2, none⟩))
              | 126 => SP.eq (.string nde.name)
              | 127 => SP.eq (.bool false)
              | 128 => SP.eq (.bool false)
              | 129 => SP.eq (.pointer (some ⟨pQ, 1, none⟩))
              | 130 => SP.eq (.string nde.key)
              | 131 => SP.eq (.slice (some ⟨b1, o1, none⟩) es.length r4)
              | 132 => SP.eq (.int .i64 (j : Nat))
              | 133 => SP.eq (.pointer (some ⟨b1, o1 + j * 14, none⟩))
              | 134 => SP.eq (.pointer (some ⟨b1, o1 + j * 14 + 1, none⟩))
              | 135 => SP.eq (.slice (some ⟨b2, o2, none⟩) (rl + 1) a3)
              | 136 => SP.eq (.int .i64 (rl : Nat))
              | 137 => SP.eq (.pointer (some ⟨b2, o2 + rl * 2, none⟩))
              | 138 => SP.eq (.pointer (some ⟨b2, o2 + rl * 2 + 1, none⟩))
              | 139 => SP.eq (.string nde.key)
              | 140 => SP.eq (.bool false)
              | 141 => SP.eq (.bool false)
              | _ => SP.any) 26 (by kernel_rfl) 146 rfl (by kernel_rfl) ?_ ?_
            · skip
              refine ⟨?_, ?_, ?_, ?_, ?_, ?_, ?_, ?_, ?_, ?_, ?_, ?_, ?_, ?_, ?_, ?_, ?_, ?_, ?_, ?_, ?_, ?_, ?_, ?_, ?_, ?_, trivial⟩
              · intro act W2 hk
                refine Flow.does_intro rfl (fun Kq hK => ?_)
                have e15 : act.tmps[15]?.getD undef = .pointer (some ⟨pQ, 0, none⟩) := hk.o 15 (by kernel_rfl)
                clear hk
                go_simp
                exact hK _ _ (Ext.refl _) (fun d hd => by cases hd; rfl)
              · intro act W2 hk
                refine Flow.does_intro rfl (fun Kq hK => ?_)
                have e116 : act.tmps[116]?.getD undef = .pointer (some ⟨pQ, 0, none⟩) := hk.v 116 (by kernel_rfl)
                have g := ((kQ.out).ext ((Ext.drew W5).trans hk.ext)).cell
                clear hk
                go_simp
                exact hK _ _ (Ext.refl _) (fun d hd => by cases hd; rfl)
              · intro act W2 hk
                refine Flow.does_intro rfl (fun Kq hK => ?_)
                have e7 : act.tmps[7]?.getD undef = .slice (some ⟨b1, o1, none⟩) es.length r4 := hk.o 7 (by kernel_rfl)
                clear hk
                go_simp
                exact hK _ _ (Ext.refl _) (fun d hd => by cases hd; rfl)
              · intro act W2 hk
                refine Flow.does_intro rfl (fun Kq hK => ?_)
                have e13 : act.tmps[13]?.getD undef = .int .i64 (j : Nat) := hk.o 13 (by kernel_rfl)
                clear hk
                go_simp
                exact hK _ _ (Ext.refl _) (fun d hd => by cases hd; rfl)
              · intro act W2 hk
                refine Flow.does_intro rfl (fun Kq hK => ?_)
                have e118 : act.tmps[118]?.getD undef = .slice (some ⟨b1, o1, none⟩) es.length r4 := hk.v 118 (by kernel_rfl)
                have e119 : act.tmps[119]?.getD undef = .int .i64 (j : Nat) := hk.v 119 (by kernel_rfl)
                clear hk
                go_simp
                exact hK _ _ (Ext.refl _) (fun d hd => by cases hd; rfl)
              · intro act W2 hk
                refine Flow.does_intro rfl (fun Kq hK => ?_)
                have e120 : act.tmps[120]?.getD undef = .pointer (some ⟨b1, o1 + j * 14, none⟩) := hk.v 120 (by kernel_rfl)
                clear hk
                go_simp
                exact hK _ _ (Ext.refl _) (fun d hd => by cases hd; rfl)
              · intro act W2 hk
                refine Flow.does_intro rfl (fun Kq hK => ?_)
                have e121 : act.tmps[121]?.getD undef = .pointer (some ⟨b1, o1 + j * 14 + 1, none⟩) := hk.v 121 (by kernel_rfl)
                have g1 := Ext.cell ((Ext.drew W5).trans hk.ext) ((kcx2.out) 1 _ rfl)
                clear hk
                go_simp
                exact hK _ _ (Ext.refl _) (fun d hd => by cases hd; rfl)
              · intro act W2 hk
                refine Flow.does_intro rfl (fun Kq hK => ?_)
                have e14 : act.tmps[14]?.getD undef = .int .i64 (rl : Nat) := hk.o 14 (by kernel_rfl)
                clear hk
                go_simp
                exact hK _ _ (Ext.refl _) (fun d hd => by cases hd; rfl)
              · intro act W2 hk
                refine Flow.does_intro rfl (fun Kq hK => ?_)
                have e122 : act.tmps[122]?.getD undef = .slice (some ⟨b2, o2, none⟩) (rl + 1) a3 := hk.v 122 (by kernel_rfl)
                have e123 : act.tmps[123]?.getD undef = .int .i64 (rl : Nat) := hk.v 123 (by kernel_rfl)
                clear hk
                go_simp
                exact hK _ _ (Ext.refl _) (fun d hd => by cases hd; rfl)
              · intro act W2 hk
                refine Flow.does_intro rfl (fun Kq hK => ?_)
                have e124 : act.tmps[124]?.getD undef = .pointer (some ⟨b2, o2 + rl * 2, none⟩) := hk.v 124 (by kernel_rfl)
                clear hk
                go_simp
                exact hK _ _ (Ext.refl _) (fun d hd => by cases hd; rfl)
              · intro act W2 hk
                refine Flow.does_intro rfl (fun Kq hK => ?_)
                have e125 : act.tmps[125]?.getD undef = .pointer (some ⟨b2, o2 + rl * 2, none⟩) := hk.v 125 (by kernel_rfl)
                have g0 := Ext.cell ((Ext.drew W5).trans hk.ext) ((kcy2.out) 0 _ rfl)
                rw [Nat.add_zero] at g0
                clear hk
                go_simp
                exact hK _ _ (Ext.refl _) (fun d hd => by cases hd; rfl)
              · intro act W2 hk
                refine Flow.does_intro rfl (fun Kq hK => ?_)
                have e117 : act.tmps[117]?.getD undef = .string nde.name := hk.v 117 (by kernel_rfl)
                have e126 : act.tmps[126]?.getD undef = .string nde.name := hk.v 126 (by kernel_rfl)
                clear hk
                go_simp
                exact hK _ _ (Ext.refl _) (fun d hd => by cases hd; first | rfl | (show _ = _; go_num) | (simp [SP.eq]; omega))
              · intro act W2 hk
                refine Flow.does_intro rfl (fun Kq hK => ?_)
                have e127 : act.tmps[127]?.getD undef = .bool false := hk.v 127 (by kernel_rfl)
                clear hk
                go_simp
                exact hK _ _ (Ext.refl _) (fun d hd => by cases hd; rfl)
              · intro act W2 hk
                have eg : act.tmps[128]?.getD undef = .bool false := hk.v 128 (by kernel_rfl)
                refine Flow.does_intro (wanted_yes rfl rfl eg) (fun Kq hK => ?_)
                clear eg
                have e15 : act.tmps[15]?.getD undef = .pointer (some ⟨pQ, 0, none⟩) := hk.o 15 (by kernel_rfl)
                clear hk
                go_simp
                exact hK _ _ (Ext.refl _) (fun d hd => by cases hd; rfl)
              · intro act W2 hk
                have eg : act.tmps[128]?.getD undef = .bool false := hk.v 128 (by kernel_rfl)
                refine Flow.does_intro (wanted_yes rfl rfl eg) (fun Kq hK => ?_)
                clear eg
                have e129 : act.tmps[129]?.getD undef = .pointer (some ⟨pQ, 1, none⟩) := hk.v 129 (by kernel_rfl)
                have g := ((kQ.out).ext ((Ext.drew W5).trans hk.ext)).cell
                clear hk
                go_simp
                exact hK _ _ (Ext.refl _) (fun d hd => by cases hd; rfl)
              · intro act W2 hk
                have eg : act.tmps[128]?.getD undef = .bool false := hk.v 128 (by kernel_rfl)
                refine Flow.does_intro (wanted_yes rfl rfl eg) (fun Kq hK => ?_)
                clear eg
                have e7 : act.tmps[7]?.getD undef = .slice (some ⟨b1, o1, none⟩) es.length r4 := hk.o 7 (by kernel_rfl)
                clear hk
                go_simp
                exact hK _ _ (Ext.refl _) (fun d hd => by cases hd; rfl)
              · intro act W2 hk
                have eg : act.tmps[128]?.getD undef = .bool false := hk.v 128 (by kernel_rfl)
                refine Flow.does_intro (wanted_yes rfl rfl eg) (fun Kq hK => ?_)
                clear eg
                have e13 : act.tmps[13]?.getD undef = .int .i64 (j : Nat) := hk.o 13 (by kernel_rfl)
                clear hk
                go_simp
                exact hK _ _ (Ext.refl _) (fun d hd => by cases hd; rfl)
              · intro act W2 hk
                have eg : act.tmps[128]?.getD undef = .bool false := hk.v 128 (by kernel_rfl)
                refine Flow.does_intro (wanted_yes rfl rfl eg) (fun Kq hK => ?_)
                clear eg
                have e131 : act.tmps[131]?.getD undef = .slice (some ⟨b1, o1, none⟩) es.length r4 := hk.v 131 (by kernel_rfl)
                have e132 : act.tmps[132]?.getD undef = .int .i64 (j : Nat) := hk.v 132 (by kernel_rfl)
                clear hk
                go_simp
                exact hK _ _ (Ext.refl _) (fun d hd => by cases hd; rfl)
              · intro act W2 hk
                have eg : act.tmps[128]?.getD undef = .bool false := hk.v 128 (by kernel_rfl)
                refine Flow.does_intro (wanted_yes rfl rfl eg) (fun Kq hK => ?_)
                clear eg
                have e133 : act.tmps[133]?.getD undef = .pointer (some ⟨b1, o1 + j * 14, none⟩) := hk.v 133 (by kernel_rfl)
                clear hk
                go_simp
                exact hK _ _ (Ext.refl _) (fun d hd => by cases hd; rfl)
              · intro act W2 hk
                have eg : act.tmps[128]?.getD undef = .bool false := hk.v 128 (by kernel_rfl)
                refine Flow.does_intro (wanted_yes rfl rfl eg) (fun Kq hK => ?_)
                clear eg
                have e134 : act.tmps[134]?.getD undef = .pointer (some ⟨b1, o1 + j * 14 + 1, none⟩) := hk.v 134 (by kernel_rfl)
                have g1 := Ext.cell ((Ext.drew W5).trans hk.ext) ((kcx2.out) 1 _ rfl)
                clear hk
                go_simp
                exact hK _ _ (Ext.refl _) (fun d hd => by cases hd; rfl)
              · intro act W2 hk
                have eg : act.tmps[128]?.getD undef = .bool false := hk.v 128 (by kernel_rfl)
                refine Flow.does_intro (wanted_yes rfl rfl eg) (fun Kq hK => ?_)
                clear eg
                have e14 : act.tmps[14]?.getD undef = .int .i64 (rl : Nat) := hk.o 14 (by kernel_rfl)
                clear hk
                go_simp
                exact hK _ _ (Ext.refl _) (fun d hd => by cases hd; rfl)
              · intro act W2 hk
                have eg : act.tmps[128]?.getD undef = .bool false := hk.v 128 (by kernel_rfl)
                refine Flow.does_intro (wanted_yes rfl rfl eg) (fun Kq hK => ?_)
                clear eg
                have e135 : act.tmps[135]?.getD undef = .slice (some ⟨b2, o2, none⟩) (rl + 1) a3 := hk.v 135 (by kernel_rfl)
                have e136 : act.tmps[136]?.getD undef = .int .i64 (rl : Nat) := hk.v 136 (by kernel_rfl)
                clear hk
                go_simp
                exact hK _ _ (Ext.refl _) (fun d hd => by cases hd; rfl)
              · intro act W2 hk
                have eg : act.tmps[128]?.getD undef = .bool false := hk.v 128 (by kernel_rfl)
                refine Flow.does_intro (wanted_yes rfl rfl eg) (fun Kq hK => ?_)
                clear eg
                have e137 : act.tmps[137]?.getD undef = .pointer (some ⟨b2, o2 + rl * 2, none⟩) := hk.v 137 (by kernel_rfl)
                clear hk
                go_simp
                exact hK _ _ (Ext.refl _) (fun d hd => by cases hd; rfl)
              · intro act W2 hk
                have eg : act.tmps[128]?.getD undef = .bool false := hk.v 128 (by kernel_rfl)
                refine Flow.does_intro (wanted_yes rfl rfl eg) (fun Kq hK => ?_)
                clear eg
                have e138 : act.tmps[138]?.getD undef = .pointer (some ⟨b2, o2 + rl * 2 + 1, none⟩) := hk.v 138 (by kernel_rfl)
                have g1 := Ext.cell ((Ext.drew W5).trans hk.ext) ((kcy2.out) 1 _ rfl)
                clear hk
                go_simp
                exact hK _ _ (Ext.refl _) (fun d hd => by cases hd; rfl)
              · intro act W2 hk
                have eg : act.tmps[128]?.getD undef = .bool false := hk.v 128 (by kernel_rfl)
                refine Flow.does_intro (wanted_yes rfl rfl eg) (fun Kq hK => ?_)
                clear eg
                have e130 : act.tmps[130]?.getD undef = .string nde.key := hk.v 130 (by kernel_rfl)
                have e139 : act.tmps[139]?.getD undef = .string nde.key := hk.v 139 (by kernel_rfl)
                clear hk
                go_simp
                exact hK _ _ (Ext.refl _) (fun d hd => by cases hd; first | rfl | (show _ = _; go_num) | (simp [SP.eq]; omega))
              · intro act W2 hk
                refine Flow.does_intro rfl (fun Kq hK => ?_)
                have e128 : act.tmps[128]?.getD undef = .bool false := hk.v 128 (by kernel_rfl)
                have e140 : act.tmps[140]?.getD undef = .bool false := hk.v 140 (by kernel_rfl)
                clear hk
                go_simp
                exact hK _ _ (Ext.refl _) (fun d hd => by cases hd; rfl)
            · intro act W2 he
              have hxW2 := Hd.mk ((Ext.drew W5).trans he.ext)
              obtain ⟨us, hA, hF⟩ := he.out [116, 117, 118, 119, 120, 121, 122, 123, 124, 125, 126, 127, 128, 129, 130, 131, 132, 133, 134, 135, 136, 137, 138, 139, 140, 141] (by kernel_rfl)
              simp only [Flow.fillL, List.contains_cons, List.contains_nil, Nat.reduceBEq, Bool.or_false, Bool.false_or, Bool.or_true, Bool.true_or, ↓reduceIte, Nat.reduceAdd, Bool.false_eq_true] at hA
              subst hA
              have f141 : us 141 = .bool false := hF 141 (by simp)
              clear hF he
              rw [f141]
              clear f141
              refine (show wpList _ _ _ [] _ _ from ?_)
              go_wp2_with fail
              go_roundg (es.length + 1 - (j + 1))
              case measure => have := hq.out; omega
              case rel => exact ⟨j + 1, by omega, ⟨rfl⟩, by go_num, ⟨(hxr.out.trans kx5.out).trans hxW2.out⟩⟩
        · have hjl : j = es.length := by omega
          subst hjl
          go_wp2_with fail
          go_ret
          exact ⟨rfl, kx4.out.trans hxr.out⟩
end Go.Proofs.Ytgkgedjmnbjalaa
