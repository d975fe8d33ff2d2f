/- Find of the document's trees; plain laws on how many edits begin with a way.
   Conditions: none. -/
import Derived.Test.YtgkgedjmnbjalaaUG
import Derived.Test.YtgkgedjmnbjalaaTW
set_option linter.unusedSimpArgs false
namespace Go.Proofs.Ytgkgedjmnbjalaa
open Go.RowKit Go.Sort

/-- Where a kid with a step is. -/
def findAt : List T → Step → Nat → Int
  | [], _, _ => -1
  | x :: l, s, j => if stepT x = s then (j : Int) else findAt l s (j + 1)
def findT (l : List T) (s : Step) : Int := findAt l s 0
theorem findAt_drop {l : List T} {j : Nat} {x : T} (h : l[j]? = some x) (s : Step) : findAt (l.drop j) s j = if stepT x = s then (j : Int) else findAt (l.drop (j + 1)) s (j + 1) := by
  obtain ⟨h1, h2⟩ := List.getElem?_eq_some_iff.1 h
  rw [List.drop_eq_getElem_cons h1, h2, findAt]
theorem findAt_spec : ∀ (l : List T) (s : Step) (j : Nat), (findAt l s j = -1 ∧ ∀ x ∈ l, stepT x ≠ s) ∨ ∃ i x, findAt l s j = ((j + i : Nat) : Int) ∧ l[i]? = some x ∧ stepT x = s ∧ ∀ k y, k < i → l[k]? = some y → stepT y ≠ s
  | [], s, j => .inl ⟨rfl, by simp⟩
  | x :: l, s, j => by
    by_cases h : stepT x = s
    · exact .inr ⟨0, x, by rw [findAt, if_pos h]; rfl, rfl, h, fun k y hk => absurd hk (by omega)⟩
    · rw [findAt, if_neg h]
      rcases findAt_spec l s (j + 1) with ⟨h1, h2⟩ | ⟨i, y, h1, h2, h3, h4⟩
      · exact .inl ⟨h1, fun y hy => by rcases List.mem_cons.1 hy with rfl | hy; exact h; exact h2 y hy⟩
      · refine .inr ⟨i + 1, y, by rw [h1]; congr 1; omega, by simpa using h2, h3, fun k z hk hz => ?_⟩
        cases k with
        | zero => simp at hz; subst hz; exact h
        | succ k => exact h4 k z (by omega) (by simpa using hz)
theorem findT_spec (l : List T) (s : Step) : (findT l s = -1 ∧ ∀ x ∈ l, stepT x ≠ s) ∨ ∃ (i : Nat) (x : T), findT l s = (i : Int) ∧ l[i]? = some x ∧ stepT x = s ∧ ∀ (k : Nat) y, k < i → l[k]? = some y → stepT y ≠ s := by
  rcases findAt_spec l s 0 with h | ⟨i, x, h1, h2⟩
  · exact .inl h
  · exact .inr ⟨i, x, by rw [findT, h1, Nat.zero_add], h2⟩
theorem findT_neg {l : List T} {s : Step} (h : findT l s < 0) : ∀ x ∈ l, stepT x ≠ s := by
  rcases findT_spec l s with h1 | ⟨i, x, h1, _⟩
  · exact h1.2
  · rw [h1] at h; omega

theorem str_ne {a b : ByteArray} (h : a ≠ b) : ¬ a.toList = b.toList := fun e => h (of_decide_eq_true (by rw [← str_eq, e]; exact beq_self_eq_true _))

set_option maxRecDepth 100000 in
set_option maxHeartbeats 4000000 in
theorem ref_find (a : T) (s : Step) (S : Nat → Prop) (w : World) (c : List Value) (ha : RT S w a c) :
    Calls Try.prog 49 #[.agg c.toArray, .agg #[.string s.1, .string s.2]] w fun e w' => e = .returned (.int .i64 (findT a.kids s)) ∧ Ext w w' := by
  obtain ⟨K1, c1, rfl, hr1⟩ := ha.row
  obtain ⟨s1, s2⟩ := s
  have kr := Hd.mk hr1
  have hl := hr1.len
  clear ha hr1
  generalize hr : findT a.kids (s1, s2) = r
  replace hr := Hd.mk (show r = findAt (a.kids.drop 0) (s1, s2) 0 from hr.symm)
  simp only [cT]
  go_enter Try.func49, Try.ntmps49
  go_wp2_with fail
  have kx := Hd.mk ((Ext.alloc w (.cells #[.string a.name, .string a.key, .int .i64 a.kind, .int .u64 a.num, .string a.text, .slice K1 a.kids.length c1] 54)).trans (Ext.alloc _ (.cells #[.string s1, .string s2] 65)))
  have kA := Hd.mk ((Blk.new w #[.string a.name, .string a.key, .int .i64 a.kind, .int .u64 a.num, .string a.text, .slice K1 a.kids.length c1] 54).alloc (.cells #[.string s1, .string s2] 65))
  have kB := Hd.mk (Blk.new2 w (.cells #[.string a.name, .string a.key, .int .i64 a.kind, .int .u64 a.num, .string a.text, .slice K1 a.kids.length c1] 54) #[.string s1, .string s2] 65)
  generalize w.heap.size = pA at *
  generalize (w.alloc _).alloc _ = W at *
  go_loopg [5] (a.kids.length + 1) (fun q i wr => ∃ j : Nat, j ≤ a.kids.length ∧ Hd (q = a.kids.length + 1 - j) ∧ i = .int .i64 j ∧ Hd (r = findAt (a.kids.drop j) (s1, s2) j) ∧ Hd (Ext w wr) ∧ Hd (Blk wr pA [.string a.name, .string a.key, .int .i64 a.kind, .int .u64 a.num, .string a.text, .slice K1 a.kids.length c1] 54) ∧ Hd (Blk wr (pA + 1) [.string s1, .string s2] 65))
  case atStart => exact ⟨0, by omega, ⟨by omega⟩, rfl, hr, kx, kA, kB⟩
  case round =>
  obtain ⟨j, hj, hq, rfl, hI, hxr, qA, qB⟩ := hrel
  have gA := qA.out.cell
  by_cases hlt : j < a.kids.length
  · have hx1 := List.getElem?_eq_getElem hlt
    generalize a.kids[j] = x at hx1
    have hst := Hd.mk (findAt_drop hx1 (s1, s2))
    obtain ⟨b1, o1, d1, rfl, _, hre1, hck⟩ := kr.out.kid j x hx1
    obtain ⟨K2, c2, rfl, _⟩ := hre1.row
    have kcx := Hd.mk (fun (q : Nat) u hq => Ext.cell hxr.out (hck q u hq))
    simp only [cT] at kcx
    clear hck hx1 hre1
    have hlt2 := hlt
    go_wp2_with fail
    by_cases h1 : x.name = s1
    · by_cases h2 : x.key = s2
      · have hr0 : r = (j : Int) := by rw [hI.out, hst.out, if_pos (Prod.ext h1 h2)]
        subst hr0
        subst h1
        subst h2
        refine Flow.wp_region_flow_l (fun qq => match qq with
          | 13 => SP.eq (.pointer (some ⟨pA, 5, none⟩))
          | 14 => SP.eq (.slice (some ⟨b1, o1, none⟩) a.kids.length c1)
          | 15 => SP.eq (.int .i64 (j : Nat))
          | 16 => SP.eq (.pointer (some ⟨b1, o1 + j * 6, none⟩))
          | 17 => SP.eq (.pointer (some ⟨b1, o1 + j * 6, none⟩))
          | 18 => SP.eq (.string x.name)
          | 19 => SP.eq (.pointer (some ⟨pA + 1, 0, none⟩))
          | 20 => SP.eq (.string x.name)
          | 21 => SP.eq (.bool true)
          | 22 => SP.eq (.bool true)
          | 23 => SP.eq (.pointer (some ⟨pA, 5, none⟩))
          | 24 => SP.eq (.slice (some ⟨b1, o1, none⟩) a.kids.length c1)
          | 25 => SP.eq (.int .i64 (j : Nat))
          | 26 => SP.eq (.pointer (some ⟨b1, o1 + j * 6, none⟩))
          | 27 => SP.eq (.pointer (some ⟨b1, o1 + j * 6 + 1, none⟩))
          | 28 => SP.eq (.string x.key)
          | 29 => SP.eq (.pointer (some ⟨pA + 1, 1, none⟩))
          | 30 => SP.eq (.string x.key)
          | 31 => SP.eq (.bool true)
          | 32 => SP.eq (.bool true)
          | _ => SP.any) 20 (by kernel_rfl) 34 rfl (by kernel_rfl) ?_ ?_
        · skip
          refine ⟨?_, ?_, ?_, ?_, ?_, ?_, ?_, ?_, ?_, ?_, ?_, ?_, ?_, ?_, ?_, ?_, ?_, ?_, ?_, ?_, trivial⟩
          · intro act W2 hk
            refine Flow.does_intro rfl (fun Kq hK => ?_)
            have e2 : act.tmps[2]?.getD undef = .pointer (some ⟨pA, 0, none⟩) := hk.o 2 (by kernel_rfl)
            clear hk
            go_simp
            exact hK _ _ (Ext.refl _) (fun d hd => by cases hd; rfl)
          · intro act W2 hk
            refine Flow.does_intro rfl (fun Kq hK => ?_)
            have e13 : act.tmps[13]?.getD undef = .pointer (some ⟨pA, 5, none⟩) := hk.v 13 (by kernel_rfl)
            have g := ((qA.out).ext ((Ext.drew wr).trans hk.ext)).cell
            clear hk
            go_simp
            exact hK _ _ (Ext.refl _) (fun d hd => by cases hd; rfl)
          · intro act W2 hk
            refine Flow.does_intro rfl (fun Kq hK => ?_)
            have e5 : act.tmps[5]?.getD undef = .int .i64 (j : Nat) := hk.o 5 (by kernel_rfl)
            clear hk
            go_simp
            exact hK _ _ (Ext.refl _) (fun d hd => by cases hd; rfl)
          · intro act W2 hk
            refine Flow.does_intro rfl (fun Kq hK => ?_)
            have e14 : act.tmps[14]?.getD undef = .slice (some ⟨b1, o1, none⟩) a.kids.length c1 := hk.v 14 (by kernel_rfl)
            have e15 : act.tmps[15]?.getD undef = .int .i64 (j : Nat) := hk.v 15 (by kernel_rfl)
            clear hk
            go_simp
            exact hK _ _ (Ext.refl _) (fun d hd => by cases hd; rfl)
          · intro act W2 hk
            refine Flow.does_intro rfl (fun Kq hK => ?_)
            have e16 : act.tmps[16]?.getD undef = .pointer (some ⟨b1, o1 + j * 6, none⟩) := hk.v 16 (by kernel_rfl)
            clear hk
            go_simp
            exact hK _ _ (Ext.refl _) (fun d hd => by cases hd; rfl)
          · intro act W2 hk
            refine Flow.does_intro rfl (fun Kq hK => ?_)
            have e17 : act.tmps[17]?.getD undef = .pointer (some ⟨b1, o1 + j * 6, none⟩) := hk.v 17 (by kernel_rfl)
            have g0 := Ext.cell ((Ext.drew wr).trans hk.ext) ((kcx.out) 0 _ rfl)
            rw [Nat.add_zero] at g0
            clear hk
            go_simp
            exact hK _ _ (Ext.refl _) (fun d hd => by cases hd; first | rfl | (simp [SP.eq]; omega) | (simp [SP.eq, hne]))
          · intro act W2 hk
            refine Flow.does_intro rfl (fun Kq hK => ?_)
            have e3 : act.tmps[3]?.getD undef = .pointer (some ⟨pA + 1, 0, none⟩) := hk.o 3 (by kernel_rfl)
            clear hk
            go_simp
            exact hK _ _ (Ext.refl _) (fun d hd => by cases hd; rfl)
          · intro act W2 hk
            refine Flow.does_intro rfl (fun Kq hK => ?_)
            have e19 : act.tmps[19]?.getD undef = .pointer (some ⟨pA + 1, 0, none⟩) := hk.v 19 (by kernel_rfl)
            have g := ((qB.out).ext ((Ext.drew wr).trans hk.ext)).cell
            clear hk
            go_simp
            exact hK _ _ (Ext.refl _) (fun d hd => by cases hd; first | rfl | (simp [SP.eq]; omega) | (simp [SP.eq, hne]))
          · intro act W2 hk
            refine Flow.does_intro rfl (fun Kq hK => ?_)
            have e18 : act.tmps[18]?.getD undef = .string x.name := hk.v 18 (by kernel_rfl)
            have e20 : act.tmps[20]?.getD undef = .string x.name := hk.v 20 (by kernel_rfl)
            clear hk
            go_simp
            exact hK _ _ (Ext.refl _) (fun d hd => by cases hd; first | rfl | (simp [SP.eq]; omega) | (simp [SP.eq, hne]))
          · intro act W2 hk
            refine Flow.does_intro rfl (fun Kq hK => ?_)
            have e21 : act.tmps[21]?.getD undef = .bool true := hk.v 21 (by kernel_rfl)
            clear hk
            go_simp
            exact hK _ _ (Ext.refl _) (fun d hd => by cases hd; rfl)
          · intro act W2 hk
            have eg : act.tmps[22]?.getD undef = .bool true := hk.v 22 (by kernel_rfl)
            refine Flow.does_intro (wanted_yes rfl rfl eg) (fun Kq hK => ?_)
            clear eg
            have e2 : act.tmps[2]?.getD undef = .pointer (some ⟨pA, 0, none⟩) := hk.o 2 (by kernel_rfl)
            clear hk
            go_simp
            exact hK _ _ (Ext.refl _) (fun d hd => by cases hd; rfl)
          · intro act W2 hk
            have eg : act.tmps[22]?.getD undef = .bool true := hk.v 22 (by kernel_rfl)
            refine Flow.does_intro (wanted_yes rfl rfl eg) (fun Kq hK => ?_)
            clear eg
            have e23 : act.tmps[23]?.getD undef = .pointer (some ⟨pA, 5, none⟩) := hk.v 23 (by kernel_rfl)
            have g := ((qA.out).ext ((Ext.drew wr).trans hk.ext)).cell
            clear hk
            go_simp
            exact hK _ _ (Ext.refl _) (fun d hd => by cases hd; rfl)
          · intro act W2 hk
            have eg : act.tmps[22]?.getD undef = .bool true := hk.v 22 (by kernel_rfl)
            refine Flow.does_intro (wanted_yes rfl rfl eg) (fun Kq hK => ?_)
            clear eg
            have e5 : act.tmps[5]?.getD undef = .int .i64 (j : Nat) := hk.o 5 (by kernel_rfl)
            clear hk
            go_simp
            exact hK _ _ (Ext.refl _) (fun d hd => by cases hd; rfl)
          · intro act W2 hk
            have eg : act.tmps[22]?.getD undef = .bool true := hk.v 22 (by kernel_rfl)
            refine Flow.does_intro (wanted_yes rfl rfl eg) (fun Kq hK => ?_)
            clear eg
            have e24 : act.tmps[24]?.getD undef = .slice (some ⟨b1, o1, none⟩) a.kids.length c1 := hk.v 24 (by kernel_rfl)
            have e25 : act.tmps[25]?.getD undef = .int .i64 (j : Nat) := hk.v 25 (by kernel_rfl)
            clear hk
            go_simp
            exact hK _ _ (Ext.refl _) (fun d hd => by cases hd; rfl)
          · intro act W2 hk
            have eg : act.tmps[22]?.getD undef = .bool true := hk.v 22 (by kernel_rfl)
            refine Flow.does_intro (wanted_yes rfl rfl eg) (fun Kq hK => ?_)
            clear eg
            have e26 : act.tmps[26]?.getD undef = .pointer (some ⟨b1, o1 + j * 6, none⟩) := hk.v 26 (by kernel_rfl)
            clear hk
            go_simp
            exact hK _ _ (Ext.refl _) (fun d hd => by cases hd; rfl)
          · intro act W2 hk
            have eg : act.tmps[22]?.getD undef = .bool true := hk.v 22 (by kernel_rfl)
            refine Flow.does_intro (wanted_yes rfl rfl eg) (fun Kq hK => ?_)
            clear eg
            have e27 : act.tmps[27]?.getD undef = .pointer (some ⟨b1, o1 + j * 6 + 1, none⟩) := hk.v 27 (by kernel_rfl)
            have g1 := Ext.cell ((Ext.drew wr).trans hk.ext) ((kcx.out) 1 _ rfl)
            clear hk
            go_simp
            exact hK _ _ (Ext.refl _) (fun d hd => by cases hd; first | rfl | (simp [SP.eq]; omega) | (simp [SP.eq, hne]))
          · intro act W2 hk
            have eg : act.tmps[22]?.getD undef = .bool true := hk.v 22 (by kernel_rfl)
            refine Flow.does_intro (wanted_yes rfl rfl eg) (fun Kq hK => ?_)
            clear eg
            have e3 : act.tmps[3]?.getD undef = .pointer (some ⟨pA + 1, 0, none⟩) := hk.o 3 (by kernel_rfl)
            clear hk
            go_simp
            exact hK _ _ (Ext.refl _) (fun d hd => by cases hd; rfl)
          · intro act W2 hk
            have eg : act.tmps[22]?.getD undef = .bool true := hk.v 22 (by kernel_rfl)
            refine Flow.does_intro (wanted_yes rfl rfl eg) (fun Kq hK => ?_)
            clear eg
            have e29 : act.tmps[29]?.getD undef = .pointer (some ⟨pA + 1, 1, none⟩) := hk.v 29 (by kernel_rfl)
            have g := ((qB.out).ext ((Ext.drew wr).trans hk.ext)).cell
            clear hk
            go_simp
            exact hK _ _ (Ext.refl _) (fun d hd => by cases hd; first | rfl | (simp [SP.eq]; omega) | (simp [SP.eq, hne]))
          · intro act W2 hk
            have eg : act.tmps[22]?.getD undef = .bool true := hk.v 22 (by kernel_rfl)
            refine Flow.does_intro (wanted_yes rfl rfl eg) (fun Kq hK => ?_)
            clear eg
            have e28 : act.tmps[28]?.getD undef = .string x.key := hk.v 28 (by kernel_rfl)
            have e30 : act.tmps[30]?.getD undef = .string x.key := hk.v 30 (by kernel_rfl)
            clear hk
            go_simp
            exact hK _ _ (Ext.refl _) (fun d hd => by cases hd; first | rfl | (simp [SP.eq]; omega) | (simp [SP.eq, hne]))
          · intro act W2 hk
            refine Flow.does_intro rfl (fun Kq hK => ?_)
            have e22 : act.tmps[22]?.getD undef = .bool true := hk.v 22 (by kernel_rfl)
            have e31 : act.tmps[31]?.getD undef = .bool true := hk.v 31 (by kernel_rfl)
            clear hk
            go_simp
            exact hK _ _ (Ext.refl _) (fun d hd => by cases hd; rfl)
        · intro act W2 he
          have hxW2 := Hd.mk ((Ext.drew wr).trans he.ext)
          obtain ⟨us, hA, hF⟩ := he.out [13, 14, 15, 16, 17, 18, 19, 20, 21, 22, 23, 24, 25, 26, 27, 28, 29, 30, 31, 32] (by kernel_rfl)
          simp only [Flow.fillL, List.contains_cons, List.contains_nil, Nat.reduceBEq, Bool.or_false, Bool.false_or, Bool.or_true, Bool.true_or, ↓reduceIte, Nat.reduceAdd, Bool.false_eq_true] at hA
          subst hA
          have f32 : us 32 = .bool true := hF 32 (by simp)
          clear hF he
          rw [f32]
          clear f32
          refine (show wpList _ _ _ [] _ _ from ?_)
          go_wp2_with fail
          go_ret
          exact ⟨rfl, hxr.out.trans hxW2.out⟩
      · have hr0 : r = findAt (a.kids.drop (j + 1)) (s1, s2) (j + 1) := by rw [hI.out, hst.out, if_neg (fun e => h2 (congrArg Prod.snd e))]
        replace hr0 := Hd.mk hr0
        have hne := str_ne h2
        clear h2
        subst h1
        refine Flow.wp_region_flow_l (fun qq => match qq with
          | 13 => SP.eq (.pointer (some ⟨pA, 5, none⟩))
          | 14 => SP.eq (.slice (some ⟨b1, o1, none⟩) a.kids.length c1)
          | 15 => SP.eq (.int .i64 (j : Nat))
          | 16 => SP.eq (.pointer (some ⟨b1, o1 + j * 6, none⟩))
          | 17 => SP.eq (.pointer (some ⟨b1, o1 + j * 6, none⟩))
          | 18 => SP.eq (.string x.name)
          | 19 => SP.eq (.pointer (some ⟨pA + 1, 0, none⟩))
          | 20 => SP.eq (.string x.name)
          | 21 => SP.eq (.bool true)
          | 22 => SP.eq (.bool true)
          | 23 => SP.eq (.pointer (some ⟨pA, 5, none⟩))
          | 24 => SP.eq (.slice (some ⟨b1, o1, none⟩) a.kids.length c1)
          | 25 => SP.eq (.int .i64 (j : Nat))
          | 26 => SP.eq (.pointer (some ⟨b1, o1 + j * 6, none⟩))
          | 27 => SP.eq (.pointer (some ⟨b1, o1 + j * 6 + 1, none⟩))
          | 28 => SP.eq (.string x.key)
          | 29 => SP.eq (.pointer (some ⟨pA + 1, 1, none⟩))
          | 30 => SP.eq (.string s2)
          | 31 => SP.eq (.bool false)
          | 32 => SP.eq (.bool false)
          | _ => SP.any) 20 (by kernel_rfl) 34 rfl (by kernel_rfl) ?_ ?_
        · skip
          refine ⟨?_, ?_, ?_, ?_, ?_, ?_, ?_, ?_, ?_, ?_, ?_, ?_, ?_, ?_, ?_, ?_, ?_, ?_, ?_, ?_, trivial⟩
          · intro act W2 hk
            refine Flow.does_intro rfl (fun Kq hK => ?_)
            have e2 : act.tmps[2]?.getD undef = .pointer (some ⟨pA, 0, none⟩) := hk.o 2 (by kernel_rfl)
            clear hk
            go_simp
            exact hK _ _ (Ext.refl _) (fun d hd => by cases hd; rfl)
          · intro act W2 hk
            refine Flow.does_intro rfl (fun Kq hK => ?_)
            have e13 : act.tmps[13]?.getD undef = .pointer (some ⟨pA, 5, none⟩) := hk.v 13 (by kernel_rfl)
            have g := ((qA.out).ext ((Ext.drew wr).trans hk.ext)).cell
            clear hk
            go_simp
            exact hK _ _ (Ext.refl _) (fun d hd => by cases hd; rfl)
          · intro act W2 hk
            refine Flow.does_intro rfl (fun Kq hK => ?_)
            have e5 : act.tmps[5]?.getD undef = .int .i64 (j : Nat) := hk.o 5 (by kernel_rfl)
            clear hk
            go_simp
            exact hK _ _ (Ext.refl _) (fun d hd => by cases hd; rfl)
          · intro act W2 hk
            refine Flow.does_intro rfl (fun Kq hK => ?_)
            have e14 : act.tmps[14]?.getD undef = .slice (some ⟨b1, o1, none⟩) a.kids.length c1 := hk.v 14 (by kernel_rfl)
            have e15 : act.tmps[15]?.getD undef = .int .i64 (j : Nat) := hk.v 15 (by kernel_rfl)
            clear hk
            go_simp
            exact hK _ _ (Ext.refl _) (fun d hd => by cases hd; rfl)
          · intro act W2 hk
            refine Flow.does_intro rfl (fun Kq hK => ?_)
            have e16 : act.tmps[16]?.getD undef = .pointer (some ⟨b1, o1 + j * 6, none⟩) := hk.v 16 (by kernel_rfl)
            clear hk
            go_simp
            exact hK _ _ (Ext.refl _) (fun d hd => by cases hd; rfl)
          · intro act W2 hk
            refine Flow.does_intro rfl (fun Kq hK => ?_)
            have e17 : act.tmps[17]?.getD undef = .pointer (some ⟨b1, o1 + j * 6, none⟩) := hk.v 17 (by kernel_rfl)
            have g0 := Ext.cell ((Ext.drew wr).trans hk.ext) ((kcx.out) 0 _ rfl)
            rw [Nat.add_zero] at g0
            clear hk
            go_simp
            exact hK _ _ (Ext.refl _) (fun d hd => by cases hd; first | rfl | (simp [SP.eq]; omega) | (simp [SP.eq, hne]))
          · intro act W2 hk
            refine Flow.does_intro rfl (fun Kq hK => ?_)
            have e3 : act.tmps[3]?.getD undef = .pointer (some ⟨pA + 1, 0, none⟩) := hk.o 3 (by kernel_rfl)
            clear hk
            go_simp
            exact hK _ _ (Ext.refl _) (fun d hd => by cases hd; rfl)
          · intro act W2 hk
            refine Flow.does_intro rfl (fun Kq hK => ?_)
            have e19 : act.tmps[19]?.getD undef = .pointer (some ⟨pA + 1, 0, none⟩) := hk.v 19 (by kernel_rfl)
            have g := ((qB.out).ext ((Ext.drew wr).trans hk.ext)).cell
            clear hk
            go_simp
            exact hK _ _ (Ext.refl _) (fun d hd => by cases hd; first | rfl | (simp [SP.eq]; omega) | (simp [SP.eq, hne]))
          · intro act W2 hk
            refine Flow.does_intro rfl (fun Kq hK => ?_)
            have e18 : act.tmps[18]?.getD undef = .string x.name := hk.v 18 (by kernel_rfl)
            have e20 : act.tmps[20]?.getD undef = .string x.name := hk.v 20 (by kernel_rfl)
            clear hk
            go_simp
            exact hK _ _ (Ext.refl _) (fun d hd => by cases hd; first | rfl | (simp [SP.eq]; omega) | (simp [SP.eq, hne]))
          · intro act W2 hk
            refine Flow.does_intro rfl (fun Kq hK => ?_)
            have e21 : act.tmps[21]?.getD undef = .bool true := hk.v 21 (by kernel_rfl)
            clear hk
            go_simp
            exact hK _ _ (Ext.refl _) (fun d hd => by cases hd; rfl)
          · intro act W2 hk
            have eg : act.tmps[22]?.getD undef = .bool true := hk.v 22 (by kernel_rfl)
            refine Flow.does_intro (wanted_yes rfl rfl eg) (fun Kq hK => ?_)
            clear eg
            have e2 : act.tmps[2]?.getD undef = .pointer (some ⟨pA, 0, none⟩) := hk.o 2 (by kernel_rfl)
            clear hk
            go_simp
            exact hK _ _ (Ext.refl _) (fun d hd => by cases hd; rfl)
          · intro act W2 hk
            have eg : act.tmps[22]?.getD undef = .bool true := hk.v 22 (by kernel_rfl)
            refine Flow.does_intro (wanted_yes rfl rfl eg) (fun Kq hK => ?_)
            clear eg
            have e23 : act.tmps[23]?.getD undef = .pointer (some ⟨pA, 5, none⟩) := hk.v 23 (by kernel_rfl)
            have g := ((qA.out).ext ((Ext.drew wr).trans hk.ext)).cell
            clear hk
            go_simp
            exact hK _ _ (Ext.refl _) (fun d hd => by cases hd; rfl)
          · intro act W2 hk
            have eg : act.tmps[22]?.getD undef = .bool true := hk.v 22 (by kernel_rfl)
            refine Flow.does_intro (wanted_yes rfl rfl eg) (fun Kq hK => ?_)
            clear eg
            have e5 : act.tmps[5]?.getD undef = .int .i64 (j : Nat) := hk.o 5 (by kernel_rfl)
            clear hk
            go_simp
            exact hK _ _ (Ext.refl _) (fun d hd => by cases hd; rfl)
          · intro act W2 hk
            have eg : act.tmps[22]?.getD undef = .bool true := hk.v 22 (by kernel_rfl)
            refine Flow.does_intro (wanted_yes rfl rfl eg) (fun Kq hK => ?_)
            clear eg
            have e24 : act.tmps[24]?.getD undef = .slice (some ⟨b1, o1, none⟩) a.kids.length c1 := hk.v 24 (by kernel_rfl)
            have e25 : act.tmps[25]?.getD undef = .int .i64 (j : Nat) := hk.v 25 (by kernel_rfl)
            clear hk
            go_simp
            exact hK _ _ (Ext.refl _) (fun d hd => by cases hd; rfl)
          · intro act W2 hk
            have eg : act.tmps[22]?.getD undef = .bool true := hk.v 22 (by kernel_rfl)
            refine Flow.does_intro (wanted_yes rfl rfl eg) (fun Kq hK => ?_)
            clear eg
            have e26 : act.tmps[26]?.getD undef = .pointer (some ⟨b1, o1 + j * 6, none⟩) := hk.v 26 (by kernel_rfl)
            clear hk
            go_simp
            exact hK _ _ (Ext.refl _) (fun d hd => by cases hd; rfl)
          · intro act W2 hk
            have eg : act.tmps[22]?.getD undef = .bool true := hk.v 22 (by kernel_rfl)
            refine Flow.does_intro (wanted_yes rfl rfl eg) (fun Kq hK => ?_)
            clear eg
            have e27 : act.tmps[27]?.getD undef = .pointer (some ⟨b1, o1 + j * 6 + 1, none⟩) := hk.v 27 (by kernel_rfl)
            have g1 := Ext.cell ((Ext.drew wr).trans hk.ext) ((kcx.out) 1 _ rfl)
            clear hk
            go_simp
            exact hK _ _ (Ext.refl _) (fun d hd => by cases hd; first | rfl | (simp [SP.eq]; omega) | (simp [SP.eq, hne]))
          · intro act W2 hk
            have eg : act.tmps[22]?.getD undef = .bool true := hk.v 22 (by kernel_rfl)
            refine Flow.does_intro (wanted_yes rfl rfl eg) (fun Kq hK => ?_)
            clear eg
            have e3 : act.tmps[3]?.getD undef = .pointer (some ⟨pA + 1, 0, none⟩) := hk.o 3 (by kernel_rfl)
            clear hk
            go_simp
            exact hK _ _ (Ext.refl _) (fun d hd => by cases hd; rfl)
          · intro act W2 hk
            have eg : act.tmps[22]?.getD undef = .bool true := hk.v 22 (by kernel_rfl)
            refine Flow.does_intro (wanted_yes rfl rfl eg) (fun Kq hK => ?_)
            clear eg
            have e29 : act.tmps[29]?.getD undef = .pointer (some ⟨pA + 1, 1, none⟩) := hk.v 29 (by kernel_rfl)
            have g := ((qB.out).ext ((Ext.drew wr).trans hk.ext)).cell
            clear hk
            go_simp
            exact hK _ _ (Ext.refl _) (fun d hd => by cases hd; first | rfl | (simp [SP.eq]; omega) | (simp [SP.eq, hne]))
          · intro act W2 hk
            have eg : act.tmps[22]?.getD undef = .bool true := hk.v 22 (by kernel_rfl)
            refine Flow.does_intro (wanted_yes rfl rfl eg) (fun Kq hK => ?_)
            clear eg
            have e28 : act.tmps[28]?.getD undef = .string x.key := hk.v 28 (by kernel_rfl)
            have e30 : act.tmps[30]?.getD undef = .string s2 := hk.v 30 (by kernel_rfl)
            clear hk
            go_simp
            exact hK _ _ (Ext.refl _) (fun d hd => by cases hd; first | rfl | (simp [SP.eq]; omega) | (simp [SP.eq, hne]))
          · intro act W2 hk
            refine Flow.does_intro rfl (fun Kq hK => ?_)
            have e22 : act.tmps[22]?.getD undef = .bool true := hk.v 22 (by kernel_rfl)
            have e31 : act.tmps[31]?.getD undef = .bool false := hk.v 31 (by kernel_rfl)
            clear hk
            go_simp
            exact hK _ _ (Ext.refl _) (fun d hd => by cases hd; rfl)
        · intro act W2 he
          have hxW2 := Hd.mk ((Ext.drew wr).trans he.ext)
          obtain ⟨us, hA, hF⟩ := he.out [13, 14, 15, 16, 17, 18, 19, 20, 21, 22, 23, 24, 25, 26, 27, 28, 29, 30, 31, 32] (by kernel_rfl)
          simp only [Flow.fillL, List.contains_cons, List.contains_nil, Nat.reduceBEq, Bool.or_false, Bool.false_or, Bool.or_true, Bool.true_or, ↓reduceIte, Nat.reduceAdd, Bool.false_eq_true] at hA
          subst hA
          have f32 : us 32 = .bool false := hF 32 (by simp)
          clear hF he
          rw [f32]
          clear f32
          refine (show wpList _ _ _ [] _ _ from ?_)
          go_wp2_with fail
          go_roundg (a.kids.length + 1 - (j + 1))
          case measure => have := hq.out; omega
          case rel => exact ⟨j + 1, by omega, ⟨rfl⟩, by go_num, hr0, ⟨hxr.out.trans hxW2.out⟩, ⟨qA.out.ext hxW2.out⟩, ⟨qB.out.ext hxW2.out⟩⟩
    · have hr0 : r = findAt (a.kids.drop (j + 1)) (s1, s2) (j + 1) := by rw [hI.out, hst.out, if_neg (fun e => h1 (congrArg Prod.fst e))]
      replace hr0 := Hd.mk hr0
      have hne := str_ne h1
      clear h1
      refine Flow.wp_region_flow_l (fun qq => match qq with
        | 13 => SP.eq (.pointer (some ⟨pA, 5, none⟩))
        | 14 => SP.eq (.slice (some ⟨b1, o1, none⟩) a.kids.length c1)
        | 15 => SP.eq (.int .i64 (j : Nat))
        | 16 => SP.eq (.pointer (some ⟨b1, o1 + j * 6, none⟩))
        | 17 => SP.eq (.pointer (some ⟨b1, o1 + j * 6, none⟩))
        | 18 => SP.eq (.string x.name)
        | 19 => SP.eq (.pointer (some ⟨pA + 1, 0, none⟩))
        | 20 => SP.eq (.string s1)
        | 21 => SP.eq (.bool false)
        | 22 => SP.eq (.bool false)
        | 23 => SP.eq (undef)
        | 24 => SP.eq (undef)
        | 25 => SP.eq (undef)
        | 26 => SP.eq (undef)
        | 27 => SP.eq (undef)
        | 28 => SP.eq (undef)
        | 29 => SP.eq (undef)
        | 30 => SP.eq (undef)
        | 31 => SP.eq (undef)
        | 32 => SP.eq (.bool false)
        | _ => SP.any) 20 (by kernel_rfl) 34 rfl (by kernel_rfl) ?_ ?_
      · skip
        refine ⟨?_, ?_, ?_, ?_, ?_, ?_, ?_, ?_, ?_, ?_, ?_, ?_, ?_, ?_, ?_, ?_, ?_, ?_, ?_, ?_, trivial⟩
        · intro act W2 hk
          refine Flow.does_intro rfl (fun Kq hK => ?_)
          have e2 : act.tmps[2]?.getD undef = .pointer (some ⟨pA, 0, none⟩) := hk.o 2 (by kernel_rfl)
          clear hk
          go_simp
          exact hK _ _ (Ext.refl _) (fun d hd => by cases hd; rfl)
        · intro act W2 hk
          refine Flow.does_intro rfl (fun Kq hK => ?_)
          have e13 : act.tmps[13]?.getD undef = .pointer (some ⟨pA, 5, none⟩) := hk.v 13 (by kernel_rfl)
          have g := ((qA.out).ext ((Ext.drew wr).trans hk.ext)).cell
          clear hk
          go_simp
          exact hK _ _ (Ext.refl _) (fun d hd => by cases hd; rfl)
        · intro act W2 hk
          refine Flow.does_intro rfl (fun Kq hK => ?_)
          have e5 : act.tmps[5]?.getD undef = .int .i64 (j : Nat) := hk.o 5 (by kernel_rfl)
          clear hk
          go_simp
          exact hK _ _ (Ext.refl _) (fun d hd => by cases hd; rfl)
        · intro act W2 hk
          refine Flow.does_intro rfl (fun Kq hK => ?_)
          have e14 : act.tmps[14]?.getD undef = .slice (some ⟨b1, o1, none⟩) a.kids.length c1 := hk.v 14 (by kernel_rfl)
          have e15 : act.tmps[15]?.getD undef = .int .i64 (j : Nat) := hk.v 15 (by kernel_rfl)
          clear hk
          go_simp
          exact hK _ _ (Ext.refl _) (fun d hd => by cases hd; rfl)
        · intro act W2 hk
          refine Flow.does_intro rfl (fun Kq hK => ?_)
          have e16 : act.tmps[16]?.getD undef = .pointer (some ⟨b1, o1 + j * 6, none⟩) := hk.v 16 (by kernel_rfl)
          clear hk
          go_simp
          exact hK _ _ (Ext.refl _) (fun d hd => by cases hd; rfl)
        · intro act W2 hk
          refine Flow.does_intro rfl (fun Kq hK => ?_)
          have e17 : act.tmps[17]?.getD undef = .pointer (some ⟨b1, o1 + j * 6, none⟩) := hk.v 17 (by kernel_rfl)
          have g0 := Ext.cell ((Ext.drew wr).trans hk.ext) ((kcx.out) 0 _ rfl)
          rw [Nat.add_zero] at g0
          clear hk
          go_simp
          exact hK _ _ (Ext.refl _) (fun d hd => by cases hd; first | rfl | (simp [SP.eq]; omega) | (simp [SP.eq, hne]))
        · intro act W2 hk
          refine Flow.does_intro rfl (fun Kq hK => ?_)
          have e3 : act.tmps[3]?.getD undef = .pointer (some ⟨pA + 1, 0, none⟩) := hk.o 3 (by kernel_rfl)
          clear hk
          go_simp
          exact hK _ _ (Ext.refl _) (fun d hd => by cases hd; rfl)
        · intro act W2 hk
          refine Flow.does_intro rfl (fun Kq hK => ?_)
          have e19 : act.tmps[19]?.getD undef = .pointer (some ⟨pA + 1, 0, none⟩) := hk.v 19 (by kernel_rfl)
          have g := ((qB.out).ext ((Ext.drew wr).trans hk.ext)).cell
          clear hk
          go_simp
          exact hK _ _ (Ext.refl _) (fun d hd => by cases hd; first | rfl | (simp [SP.eq]; omega) | (simp [SP.eq, hne]))
        · intro act W2 hk
          refine Flow.does_intro rfl (fun Kq hK => ?_)
          have e18 : act.tmps[18]?.getD undef = .string x.name := hk.v 18 (by kernel_rfl)
          have e20 : act.tmps[20]?.getD undef = .string s1 := hk.v 20 (by kernel_rfl)
          clear hk
          go_simp
          exact hK _ _ (Ext.refl _) (fun d hd => by cases hd; first | rfl | (simp [SP.eq]; omega) | (simp [SP.eq, hne]))
        · intro act W2 hk
          refine Flow.does_intro rfl (fun Kq hK => ?_)
          have e21 : act.tmps[21]?.getD undef = .bool false := hk.v 21 (by kernel_rfl)
          clear hk
          go_simp
          exact hK _ _ (Ext.refl _) (fun d hd => by cases hd; rfl)
        · intro act W2 hk
          have eg : act.tmps[22]?.getD undef = .bool false := hk.v 22 (by kernel_rfl)
          exact Flow.does_skip (wanted_no rfl rfl eg) (fun d hd => by cases hd; rfl)
        · intro act W2 hk
          have eg : act.tmps[22]?.getD undef = .bool false := hk.v 22 (by kernel_rfl)
          exact Flow.does_skip (wanted_no rfl rfl eg) (fun d hd => by cases hd; rfl)
        · intro act W2 hk
          have eg : act.tmps[22]?.getD undef = .bool false := hk.v 22 (by kernel_rfl)
          exact Flow.does_skip (wanted_no rfl rfl eg) (fun d hd => by cases hd; rfl)
        · intro act W2 hk
          have eg : act.tmps[22]?.getD undef = .bool false := hk.v 22 (by kernel_rfl)
          exact Flow.does_skip (wanted_no rfl rfl eg) (fun d hd => by cases hd; rfl)
        · intro act W2 hk
          have eg : act.tmps[22]?.getD undef = .bool false := hk.v 22 (by kernel_rfl)
          exact Flow.does_skip (wanted_no rfl rfl eg) (fun d hd => by cases hd; rfl)
        · intro act W2 hk
          have eg : act.tmps[22]?.getD undef = .bool false := hk.v 22 (by kernel_rfl)
          exact Flow.does_skip (wanted_no rfl rfl eg) (fun d hd => by cases hd; rfl)
        · intro act W2 hk
          have eg : act.tmps[22]?.getD undef = .bool false := hk.v 22 (by kernel_rfl)
          exact Flow.does_skip (wanted_no rfl rfl eg) (fun d hd => by cases hd; rfl)
        · intro act W2 hk
          have eg : act.tmps[22]?.getD undef = .bool false := hk.v 22 (by kernel_rfl)
          exact Flow.does_skip (wanted_no rfl rfl eg) (fun d hd => by cases hd; rfl)
        · intro act W2 hk
          have eg : act.tmps[22]?.getD undef = .bool false := hk.v 22 (by kernel_rfl)
          exact Flow.does_skip (wanted_no rfl rfl eg) (fun d hd => by cases hd; rfl)
        · intro act W2 hk
          refine Flow.does_intro rfl (fun Kq hK => ?_)
          have e22 : act.tmps[22]?.getD undef = .bool false := hk.v 22 (by kernel_rfl)
          clear hk
          go_simp
          exact hK _ _ (Ext.refl _) (fun d hd => by cases hd; rfl)
      · intro act W2 he
        have hxW2 := Hd.mk ((Ext.drew wr).trans he.ext)
        obtain ⟨us, hA, hF⟩ := he.out [13, 14, 15, 16, 17, 18, 19, 20, 21, 22, 23, 24, 25, 26, 27, 28, 29, 30, 31, 32] (by kernel_rfl)
        simp only [Flow.fillL, List.contains_cons, List.contains_nil, Nat.reduceBEq, Bool.or_false, Bool.false_or, Bool.or_true, Bool.true_or, ↓reduceIte, Nat.reduceAdd, Bool.false_eq_true] at hA
        subst hA
        have f32 : us 32 = .bool false := hF 32 (by simp)
        clear hF he
        rw [f32]
        clear f32
        refine (show wpList _ _ _ [] _ _ from ?_)
        go_wp2_with fail
        go_roundg (a.kids.length + 1 - (j + 1))
        case measure => have := hq.out; omega
        case rel => exact ⟨j + 1, by omega, ⟨rfl⟩, by go_num, hr0, ⟨hxr.out.trans hxW2.out⟩, ⟨qA.out.ext hxW2.out⟩, ⟨qB.out.ext hxW2.out⟩⟩
  · have hjl : j = a.kids.length := by omega
    subst hjl
    have hr0 : r = -1 := by rw [hI.out, List.drop_length]; rfl
    subst hr0
    go_wp2_with fail
    go_ret
    exact ⟨rfl, hxr.out⟩

/-! ### How many edits begin with a way -/
theorem edits_front : ∀ (N : Nat) (a b : T) (way : List Step), ∀ e ∈ edits N a b way, ∃ s r, e.way = way ++ s :: r
  | 0, _, _, _ => by simp [edits]
  | N + 1, a, b, way => by
    rw [edits]
    refine mergeE_all _ _ _ (fun x _ e he => ?_) (fun y _ e he => ?_) (fun x _ y _ _ e he => ?_)
    · simp [cutE] at he; subst he; exact ⟨_, [], rfl⟩
    · simp [setE] at he; subst he; exact ⟨_, [], rfl⟩
    · unfold bothE at he
      split at he
      · cases he
      · split at he
        · simp at he; subst he; exact ⟨_, [], rfl⟩
        · split at he
          · simp [cutE, setE] at he
            rcases he with rfl | rfl
            · exact ⟨_, [], rfl⟩
            · exact ⟨_, [], rfl⟩
          · obtain ⟨s, r, h⟩ := edits_front N x y _ e he
            exact ⟨stepT x, s :: r, by rw [h]; simp⟩
/-- The last step of an edit's way is its node's. -/
theorem edits_last : ∀ (N : Nat) (a b : T) (way : List Step), ∀ e ∈ edits N a b way, ∃ r, e.way = r ++ [stepT (if e.kind = 2 then e.old else e.node)]
  | 0, _, _, _ => by simp [edits]
  | N + 1, a, b, way => by
    rw [edits]
    refine mergeE_all _ _ _ (fun x _ e he => ?_) (fun y _ e he => ?_) (fun x _ y _ hs e he => ?_)
    · simp [cutE] at he; subst he; exact ⟨_, rfl⟩
    · simp [setE] at he; subst he; exact ⟨_, rfl⟩
    · unfold bothE at he
      split at he
      · cases he
      · split at he
        · simp at he; subst he; exact ⟨way, by rw [hs]; rfl⟩
        · split at he
          · simp [cutE, setE] at he
            rcases he with rfl | rfl
            · exact ⟨_, rfl⟩
            · exact ⟨_, rfl⟩
          · exact edits_last N x y _ e he
theorem under_one (s r : Step) (l : List Step) : underW (s :: l) [r] = decide (s = r) := by simp [underW]
theorem countU_cons (e : E) (l : List E) (way : List Step) : countU (e :: l) way = (if underW e.way way = true then 1 else 0) + countU l way := by
  unfold countU
  rw [List.filter_cons]
  split <;> simp <;> omega
theorem countU_append (l m : List E) (way : List Step) : countU (l ++ m) way = countU l way + countU m way := by simp [countU]
theorem countU_none {l : List E} {s : Step} (h : ∀ e ∈ l, ∃ x r, e.way = x :: r ∧ x ≠ s) : countU l [s] = 0 := by
  unfold countU
  rw [List.length_eq_zero_iff, List.filter_eq_nil_iff]
  intro e he
  obtain ⟨x, r, h1, h2⟩ := h e he
  rw [h1, under_one]
  simpa using h2
/-- All kids of one tree: how many edits begin with their ways. -/
def sumU (l : List E) : List Step → Nat
  | [] => 0
  | s :: ss => countU l [s] + sumU l ss
theorem sumU_append (l : List E) : ∀ s t : List Step, sumU l (s ++ t) = sumU l s + sumU l t
  | [], t => by simp [sumU]
  | x :: s, t => by rw [List.cons_append, sumU, sumU, sumU_append l s t]; omega
theorem sumU_le (l : List E) : ∀ s : List Step, sumU l s ≤ s.length * l.length
  | [] => by simp [sumU]
  | x :: s => by have := sumU_le l s; have := countU_le l [x]; rw [sumU, List.length_cons, Nat.add_mul]; omega
theorem sumU_nil : ∀ ss : List Step, sumU [] ss = 0
  | [] => rfl
  | s :: ss => by rw [sumU, sumU_nil ss]; rfl
theorem sumU_cons_out (e : E) (l : List E) : ∀ (ss : List Step), (∀ s ∈ ss, underW e.way [s] = false) → sumU (e :: l) ss = sumU l ss
  | [], _ => rfl
  | s :: ss, h => by
    rw [sumU, sumU, countU_cons, h s (by simp), sumU_cons_out e l ss (fun t ht => h t (by simp [ht]))]
    simp
theorem sumU_cons_in (e : E) (l : List E) {x : Step} {r : List Step} (hw : e.way = x :: r) : ∀ (ss : List Step), ss.Nodup → x ∈ ss → sumU (e :: l) ss = sumU l ss + 1
  | [], _, h => by cases h
  | s :: ss, hn, hm => by
    rw [List.nodup_cons] at hn
    rw [sumU, sumU, countU_cons, hw, under_one]
    by_cases h : x = s
    · subst h
      rw [sumU_cons_out e l ss (fun t ht => by rw [hw, under_one]; exact decide_eq_false (fun h => hn.1 (h ▸ ht)))]
      simp
      omega
    · have hm' : x ∈ ss := by rcases List.mem_cons.1 hm with h' | h'; exact absurd h' h; exact h'
      rw [sumU_cons_in e l hw ss hn.2 hm', decide_eq_false h]
      simp
      omega
theorem sumU_all (ss : List Step) (hn : ss.Nodup) : ∀ l : List E, (∀ e ∈ l, ∃ x r, e.way = x :: r ∧ x ∈ ss) → sumU l ss = l.length
  | [], _ => sumU_nil ss
  | e :: l, h => by
    obtain ⟨x, r, h1, h2⟩ := h e (by simp)
    rw [sumU_cons_in e l h1 ss hn h2, sumU_all ss hn l (fun e he => h e (by simp [he])), List.length_cons]

/-! ### Kids that stand in order -/
theorem right_less {l : List T} : ∀ {p : T}, rightL (some p) l = true → ∀ x ∈ l, lessT p x = true := by
  induction l with
  | nil => intro p _ x hx; cases hx
  | cons y l ih =>
    intro p h x hx
    rw [rightL_cons, Bool.and_eq_true, Bool.and_eq_true] at h
    have h2 : lessT p y = true := h.1.2
    rcases List.mem_cons.1 hx with rfl | hx
    · exact h2
    · exact lessT_trans h2 (ih h.2 x hx)
theorem right_tail {p : Option T} {x : T} {l : List T} (h : rightL p (x :: l) = true) : rightL (some x) l = true := by
  rw [rightL_cons, Bool.and_eq_true] at h
  exact h.2
theorem less_ne {x y : T} (h : lessT x y = true) : stepT x ≠ stepT y := fun e => by
  have := (lessT_step (z := y) e).1
  rw [h, lessT_irr] at this
  cases this
theorem right_nodup : ∀ {l : List T} {p : Option T}, rightL p l = true → (l.map stepT).Nodup
  | [], _, _ => by simp
  | x :: l, p, h => by
    rw [List.map_cons, List.nodup_cons]
    refine ⟨fun hm => ?_, right_nodup (right_tail h)⟩
    obtain ⟨y, hy, e⟩ := List.mem_map.1 hm
    exact less_ne (right_less (right_tail h) y hy) e.symm

/-- Of a kid that only the second tree has there is one edit. -/
theorem mergeE_new {one other : T → List E} {both : T → T → List E} {s : Step} (h1 : ∀ x, stepT x ≠ s → countU (one x) [s] = 0) (h2 : ∀ y, countU (other y) [s] = if stepT y = s then 1 else 0) (h3 : ∀ x y, stepT x = stepT y → stepT x ≠ s → countU (both x y) [s] = 0) :
    ∀ (n : Nat) (xs ys : List T), xs.length + ys.length ≤ n → (∀ x ∈ xs, stepT x ≠ s) → countU (mergeE one other both n xs ys) [s] = ((ys.map stepT).filter (· = s)).length
  | 0, [], [], _, _ => rfl
  | 0, x :: xs, _, h, _ => by simp at h
  | 0, [], y :: ys, h, _ => by simp at h
  | n + 1, [], [], _, _ => rfl
  | n + 1, x :: xs, [], h, hx => by
    rw [mergeE_x, countU_append, h1 x (hx x (by simp)), mergeE_new h1 h2 h3 n xs [] (by simp at h ⊢; omega) (fun x hx' => hx x (by simp [hx']))]
    simp
  | n + 1, [], y :: ys, h, hx => by
    rw [mergeE_y, countU_append, h2, mergeE_new h1 h2 h3 n [] ys (by simp at h ⊢; omega) (by simp), List.map_cons, List.filter_cons]
    by_cases hy : stepT y = s
    · simp [hy]; omega
    · simp [hy]
  | n + 1, x :: xs, y :: ys, h, hx => by
    have hx1 := hx x (by simp)
    have hx2 : ∀ x ∈ xs, stepT x ≠ s := fun x hx' => hx x (by simp [hx'])
    cases hl : lessT x y with
    | true => rw [mergeE_lt n xs ys hl, countU_append, h1 x hx1, mergeE_new h1 h2 h3 n xs (y :: ys) (by simp at h ⊢; omega) hx2]; simp
    | false =>
      cases hg : lessT y x with
      | true =>
        rw [mergeE_gt n xs ys hl hg, countU_append, h2, mergeE_new h1 h2 h3 n (x :: xs) ys (by simp at h ⊢; omega) hx, List.map_cons, List.filter_cons]
        by_cases hy : stepT y = s
        · simp [hy]; omega
        · simp [hy]
      | false =>
        have hs := step_of_less hl hg
        rw [mergeE_eq n xs ys hl hg, countU_append, h3 x y hs hx1, mergeE_new h1 h2 h3 n xs ys (by simp at h ⊢; omega) hx2, List.map_cons, List.filter_cons]
        have : ¬ stepT y = s := by rw [← hs]; exact hx1
        simp [this]
theorem filter_one {s : Step} : ∀ {l : List Step}, l.Nodup → s ∈ l → (l.filter (· = s)).length = 1
  | [], _, h => by cases h
  | x :: l, hn, hm => by
    rw [List.nodup_cons] at hn
    rw [List.filter_cons]
    by_cases h : x = s
    · subst h
      have : l.filter (· = x) = [] := by
        rw [List.filter_eq_nil_iff]
        intro y hy
        simp only [decide_eq_true_eq]
        intro e
        exact hn.1 (e ▸ hy)
      simp [this]
    · have hm' : s ∈ l := by rcases List.mem_cons.1 hm with h' | h'; exact absurd h'.symm h; exact h'
      simp [h, filter_one hn.2 hm']
theorem edits_new {N : Nat} {a b y : T} (hN : a.deep ≤ N) (hb : rightL none b.kids = true) (hy : y ∈ b.kids) (hf : findT a.kids (stepT y) < 0) : countU (edits N a b []) [stepT y] = 1 := by
  cases N with
  | zero => rw [a.deep_eq] at hN; omega
  | succ N =>
    rw [edits, mergeE_new (s := stepT y) (fun x hx => ?_) (fun z => ?_) (fun x z hs hx => ?_) _ _ _ (Nat.le_refl _) (findT_neg hf), filter_one (right_nodup hb) (List.mem_map_of_mem hy)]
    · exact countU_none (fun e he => by simp [cutE] at he; subst he; exact ⟨_, [], rfl, hx⟩)
    · simp only [setE, countU_cons, List.nil_append, under_one]
      simp [countU]
    · refine countU_none (fun e he => ?_)
      unfold bothE at he
      split at he
      · cases he
      · split at he
        · simp at he; subst he; exact ⟨_, [], rfl, hx⟩
        · split at he
          · rename_i h1 h2 h3
            simp [cutE, setE] at he
            rcases he with rfl | rfl
            · exact ⟨_, [], rfl, hx⟩
            · exact ⟨_, [], rfl, by rw [← hs]; exact hx⟩
          · obtain ⟨q, r, h⟩ := edits_front N x z _ e he
            exact ⟨stepT x, q :: r, by rw [h]; simp, hx⟩
end Go.Proofs.Ytgkgedjmnbjalaa
