/- Texts that the law needs, joined.
   Conditions: none. -/
import Derived.Test.YtgkgedjmnbjalaaTqJ
import Derived.Test.YtgkgedjmnbjalaaTqA
import Derived.Test.YtgkgedjmnbjalaaTqE
import Derived.Test.YtgkgedjmnbjalaaTqC
import Derived.Laws.EntriesVeiled
set_option linter.unusedSimpArgs false
set_option linter.unusedVariables false
namespace Go.Proofs.Ytgkgedjmnbjalaa
open Go.RowKit Go.Sort
def Rb (B : Nat) (w w' : World) : Prop := (w'.os = w.os ∧ w'.tape = w.tape ∧ w'.output = w.output ∧ w.heap.size ≤ w'.heap.size) ∧ (∀ k, k < B → k < w.heap.size → w'.heap[k]? = w.heap[k]?) ∧ ∀ D c, Blk w D c 54 → c.length = 6 → ∃ c', Blk w' D c' 54 ∧ c'.length = 6
theorem rb_ext {B : Nat} {w w' : World} (h : Ext w w') : Rb B w w' := ⟨⟨h.os, h.tape, h.output, h.size⟩, fun k _ hk => h.block k hk, fun D c hD hc => ⟨c, hD.ext h, hc⟩⟩
theorem rb_trans {B : Nat} {a b c : World} (h : Rb B a b) (k : Rb B b c) : Rb B a c :=
  ⟨⟨k.1.1.trans h.1.1, k.1.2.1.trans h.1.2.1, k.1.2.2.1.trans h.1.2.2.1, Nat.le_trans h.1.2.2.2 k.1.2.2.2⟩, fun i hi hi2 => (k.2.1 i hi (Nat.lt_of_lt_of_le hi2 h.1.2.2.2)).trans (h.2.1 i hi hi2), fun D d hD hd => by
    obtain ⟨d', h1, h2⟩ := h.2.2 D d hD hd
    exact k.2.2 D d' h1 h2⟩
theorem rb_below {w w' : World} (h : Rb w.heap.size w w') : Ext w w' := ⟨h.1.1, h.1.2.1, h.1.2.2.1, h.1.2.2.2, fun k hk => h.2.1 k hk hk⟩
theorem rb_upd {B D : Nat} {w w' : World} (hB : B ≤ D) (hu : Upd w w' D) (h6 : ∃ c, Blk w' D c 54 ∧ c.length = 6) : Rb B w w' :=
  ⟨⟨hu.os, hu.tape, hu.output, Nat.le_of_eq hu.size.symm⟩, fun k hk _ => hu.block k (by omega), fun E c hE hc => by
    by_cases h : E = D
    · subst h; exact h6
    · exact ⟨c, hu.blk h hE, hc⟩⟩
def spBoxE (B : Nat) : SP := ⟨fun v w => ∃ D, v = .pointer (some ⟨D, 0, none⟩) ∧ B ≤ D ∧ ∃ c, Blk w D c 54 ∧ c.length = 6, fun _ _ _ h ⟨D, e, h1, c, hb, hc⟩ => ⟨D, e, h1, c, hb.ext h, hc⟩⟩
theorem rt_zero (S : Nat → Prop) (w : World) : RT S w zeroT [.string ⟨#[]⟩, .string ⟨#[]⟩, .int .i64 0, .int .u64 0, .string ⟨#[]⟩, .slice none 0 0] := (ot_zero S w).rt
def RChg (S : Nat → Prop) (r : T × Int) (w w' : World) (v : Value) : Prop := ∃ c : List Value, v = .tuple #[.agg c.toArray, .int .i64 r.2] ∧ RT (fun b => S b ∨ w.heap.size ≤ b) w' r.1 c ∧ Ext w w'
theorem setR_snoc2 (t x : T) (init : List Step) (s : Step) : setR t (init ++ [s]) x = if s = stepT x then (match getT t init with | none => (zeroT, (30 : Int)) | some p => if p.kind ≠ 0 then (zeroT, 30) else (setT t (init ++ [s]) x, 0)) else (zeroT, 1) := by
  unfold setR
  rw [List.getLast?_concat, List.dropLast_concat]
  by_cases h : s = stepT x
  · rw [if_pos (by rw [h]), if_pos h]; rfl
  · rw [if_neg (by simpa using h), if_neg h]
set_option maxRecDepth 100000 in
set_option maxHeartbeats 2000000 in
theorem refSet_nil (t x : T) (S : Nat → Prop) (w : World) (c cx : List Value) (A : Option Addr) (ac : Nat) (h : RT S w t c) (hx : RT S w x cx) :
    Calls Try.prog 71 #[.agg c.toArray, .slice A 0 ac, .agg cx.toArray] w (Ret (RChg S (setR t [] x) w)) := by
  obtain ⟨K, kc, rfl, _⟩ := h.row
  obtain ⟨Kx, kcx, rfl, _⟩ := hx.row
  clear h hx
  rw [setR_none]
  simp only [cT]
  go_enter Try.func71, Try.ntmps71
  go_wp2_with fail
  have kx := Hd.mk (((Ext.alloc w (.cells #[.string t.name, .string t.key, .int .i64 t.kind, .int .u64 t.num, .string t.text, .slice K t.kids.length kc] 54)).trans (Ext.alloc _ (.cells #[.string x.name, .string x.key, .int .i64 x.kind, .int .u64 x.num, .string x.text, .slice Kx x.kids.length kcx] 54))).trans (Ext.alloc _ (.cells #[.string ⟨#[]⟩, .string ⟨#[]⟩, .int .i64 0, .int .u64 0, .string ⟨#[]⟩, .slice none 0 0] 54)))
  have kA := Hd.mk (((Blk.new w #[.string t.name, .string t.key, .int .i64 t.kind, .int .u64 t.num, .string t.text, .slice K t.kids.length kc] 54).alloc (.cells #[.string x.name, .string x.key, .int .i64 x.kind, .int .u64 x.num, .string x.text, .slice Kx x.kids.length kcx] 54)).alloc (.cells #[.string ⟨#[]⟩, .string ⟨#[]⟩, .int .i64 0, .int .u64 0, .string ⟨#[]⟩, .slice none 0 0] 54))
  have kX := Hd.mk ((Blk.new2 w (.cells #[.string t.name, .string t.key, .int .i64 t.kind, .int .u64 t.num, .string t.text, .slice K t.kids.length kc] 54) #[.string x.name, .string x.key, .int .i64 x.kind, .int .u64 x.num, .string x.text, .slice Kx x.kids.length kcx] 54).alloc (.cells #[.string ⟨#[]⟩, .string ⟨#[]⟩, .int .i64 0, .int .u64 0, .string ⟨#[]⟩, .slice none 0 0] 54))
  have kR := Hd.mk (Blk.new3 w (.cells #[.string t.name, .string t.key, .int .i64 t.kind, .int .u64 t.num, .string t.text, .slice K t.kids.length kc] 54) (.cells #[.string x.name, .string x.key, .int .i64 x.kind, .int .u64 x.num, .string x.text, .slice Kx x.kids.length kcx] 54) #[.string ⟨#[]⟩, .string ⟨#[]⟩, .int .i64 0, .int .u64 0, .string ⟨#[]⟩, .slice none 0 0] 54)
  generalize ((w.alloc _).alloc _).alloc _ = W at *
  generalize hp : w.heap.size = p at *
  replace hp := Hd.mk hp
  refine Flow.wp_region_flow_l (fun qq => match qq with
    | 14 => SP.eq (.int .i64 (-1))
    | 15 => SP.eq (.bool true)
    | 16 => SP.eq (.bool true)
    | 17 => SP.eq (undef)
    | 18 => SP.eq (undef)
    | 19 => SP.eq (undef)
    | 20 => SP.eq (undef)
    | 21 => SP.eq (undef)
    | 22 => SP.eq (undef)
    | 23 => SP.eq (undef)
    | 24 => SP.eq (undef)
    | 25 => SP.eq (.bool true)
    | 26 => SP.eq (.bool true)
    | 27 => SP.eq (undef)
    | 28 => SP.eq (undef)
    | 29 => SP.eq (undef)
    | 30 => SP.eq (undef)
    | 31 => SP.eq (undef)
    | 32 => SP.eq (undef)
    | 33 => SP.eq (undef)
    | 34 => SP.eq (undef)
    | 35 => SP.eq (.bool true)
    | _ => SP.any) 22 (by kernel_rfl) 58 rfl (by kernel_rfl) ?_ ?_
  · skip
    refine ⟨?_, ?_, ?_, ?_, ?_, ?_, ?_, ?_, ?_, ?_, ?_, ?_, ?_, ?_, ?_, ?_, ?_, ?_, ?_, ?_, ?_, ?_, trivial⟩
    · intro act W2 hk
      refine Flow.does_intro rfl (fun Kq hK => ?_)
      have e8 : act.tmps[8]?.getD undef = .int .i64 (-1) := hk.o 8 (by kernel_rfl)
      clear hk
      go_simp
      exact hK _ _ (Ext.refl _) (fun d hd => by cases hd; rfl)
    · intro act W2 hk
      refine Flow.does_intro rfl (fun Kq hK => ?_)
      have e14 : act.tmps[14]?.getD undef = .int .i64 (-1) := hk.v 14 (by kernel_rfl)
      clear hk
      go_simp
      exact hK _ _ (Ext.refl _) (fun d hd => by cases hd; rfl)
    · intro act W2 hk
      refine Flow.does_intro rfl (fun Kq hK => ?_)
      have e15 : act.tmps[15]?.getD undef = .bool true := hk.v 15 (by kernel_rfl)
      clear hk
      go_simp
      exact hK _ _ (Ext.refl _) (fun d hd => by cases hd; rfl)
    · intro act W2 hk
      have eg : act.tmps[16]?.getD undef = .bool true := hk.v 16 (by kernel_rfl)
      exact Flow.does_skip (wanted_no rfl rfl eg) (fun d hd => by cases hd; rfl)
    · intro act W2 hk
      have eg : act.tmps[16]?.getD undef = .bool true := hk.v 16 (by kernel_rfl)
      exact Flow.does_skip (wanted_no rfl rfl eg) (fun d hd => by cases hd; rfl)
    · intro act W2 hk
      have eg : act.tmps[16]?.getD undef = .bool true := hk.v 16 (by kernel_rfl)
      exact Flow.does_skip (wanted_no rfl rfl eg) (fun d hd => by cases hd; rfl)
    · intro act W2 hk
      have eg : act.tmps[16]?.getD undef = .bool true := hk.v 16 (by kernel_rfl)
      exact Flow.does_skip (wanted_no rfl rfl eg) (fun d hd => by cases hd; rfl)
    · intro act W2 hk
      have eg : act.tmps[16]?.getD undef = .bool true := hk.v 16 (by kernel_rfl)
      exact Flow.does_skip (wanted_no rfl rfl eg) (fun d hd => by cases hd; rfl)
    · intro act W2 hk
      have eg : act.tmps[16]?.getD undef = .bool true := hk.v 16 (by kernel_rfl)
      exact Flow.does_skip (wanted_no rfl rfl eg) (fun d hd => by cases hd; rfl)
    · intro act W2 hk
      have eg : act.tmps[16]?.getD undef = .bool true := hk.v 16 (by kernel_rfl)
      exact Flow.does_skip (wanted_no rfl rfl eg) (fun d hd => by cases hd; rfl)
    · intro act W2 hk
      have eg : act.tmps[16]?.getD undef = .bool true := hk.v 16 (by kernel_rfl)
      exact Flow.does_skip (wanted_no rfl rfl eg) (fun d hd => by cases hd; rfl)
    · intro act W2 hk
      refine Flow.does_intro rfl (fun Kq hK => ?_)
      have e16 : act.tmps[16]?.getD undef = .bool true := hk.v 16 (by kernel_rfl)
      clear hk
      go_simp
      exact hK _ _ (Ext.refl _) (fun d hd => by cases hd; rfl)
    · intro act W2 hk
      refine Flow.does_intro rfl (fun Kq hK => ?_)
      have e25 : act.tmps[25]?.getD undef = .bool true := hk.v 25 (by kernel_rfl)
      clear hk
      go_simp
      exact hK _ _ (Ext.refl _) (fun d hd => by cases hd; rfl)
    · intro act W2 hk
      have eg : act.tmps[26]?.getD undef = .bool true := hk.v 26 (by kernel_rfl)
      exact Flow.does_skip (wanted_no rfl rfl eg) (fun d hd => by cases hd; rfl)
    · intro act W2 hk
      have eg : act.tmps[26]?.getD undef = .bool true := hk.v 26 (by kernel_rfl)
      exact Flow.does_skip (wanted_no rfl rfl eg) (fun d hd => by cases hd; rfl)
    · intro act W2 hk
      have eg : act.tmps[26]?.getD undef = .bool true := hk.v 26 (by kernel_rfl)
      exact Flow.does_skip (wanted_no rfl rfl eg) (fun d hd => by cases hd; rfl)
    · intro act W2 hk
      have eg : act.tmps[26]?.getD undef = .bool true := hk.v 26 (by kernel_rfl)
      exact Flow.does_skip (wanted_no rfl rfl eg) (fun d hd => by cases hd; rfl)
    · intro act W2 hk
      have eg : act.tmps[26]?.getD undef = .bool true := hk.v 26 (by kernel_rfl)
      exact Flow.does_skip (wanted_no rfl rfl eg) (fun d hd => by cases hd; rfl)
    · intro act W2 hk
      have eg : act.tmps[26]?.getD undef = .bool true := hk.v 26 (by kernel_rfl)
      exact Flow.does_skip (wanted_no rfl rfl eg) (fun d hd => by cases hd; rfl)
    · intro act W2 hk
      have eg : act.tmps[26]?.getD undef = .bool true := hk.v 26 (by kernel_rfl)
      exact Flow.does_skip (wanted_no rfl rfl eg) (fun d hd => by cases hd; rfl)
    · intro act W2 hk
      have eg : act.tmps[26]?.getD undef = .bool true := hk.v 26 (by kernel_rfl)
      exact Flow.does_skip (wanted_no rfl rfl eg) (fun d hd => by cases hd; rfl)
    · intro act W2 hk
      refine Flow.does_intro rfl (fun Kq hK => ?_)
      have e26 : act.tmps[26]?.getD undef = .bool true := hk.v 26 (by kernel_rfl)
      clear hk
      go_simp
      exact hK _ _ (Ext.refl _) (fun d hd => by cases hd; rfl)
  · intro act V he
    have hxV := Hd.mk ((Ext.drew W).trans he.ext)
    obtain ⟨us, hA, hF⟩ := he.out [14, 15, 16, 17, 18, 19, 20, 21, 22, 23, 24, 25, 26, 27, 28, 29, 30, 31, 32, 33, 34, 35] (by kernel_rfl)
    simp only [Flow.fillL, List.contains_cons, List.contains_nil, Nat.reduceBEq, Bool.or_false, Bool.false_or, Bool.or_true, Bool.true_or, ↓reduceIte, Nat.reduceAdd, Bool.false_eq_true] at hA
    subst hA
    have f35 : us 35 = .bool true := hF 35 (by simp)
    clear hF he
    rw [f35]
    clear f35
    refine (show wpList _ _ _ [] _ _ from ?_)
    replace kx := Hd.mk (kx.out.trans hxV.out)
    replace kR := Hd.mk (kR.out.ext hxV.out)
    replace kA := Hd.mk (kA.out.ext hxV.out)
    replace kX := Hd.mk (kX.out.ext hxV.out)
    clear hxV
    have gR := kR.out.cell
    have fR := kR.out.free
    go_wp2_with fail
    have hu := Hd.mk ((((((Upd.setCell V ⟨p + 1 + 1, 0, none⟩ (.string ⟨#[]⟩)).trans (Upd.setCell _ ⟨p + 1 + 1, 1, none⟩ (.string ⟨#[]⟩))).trans (Upd.setCell _ ⟨p + 1 + 1, 2, none⟩ (.int .i64 0))).trans (Upd.setCell _ ⟨p + 1 + 1, 3, none⟩ (.int .u64 0))).trans (Upd.setCell _ ⟨p + 1 + 1, 4, none⟩ (.string ⟨#[]⟩))).trans (Upd.setCell _ ⟨p + 1 + 1, 5, none⟩ (.slice none 0 0)))
    exact ret_box2 rfl (p + 1 + 1) _ 54 _ ((((((kR.out.setCell 0 (.string ⟨#[]⟩)).setCell 1 (.string ⟨#[]⟩)).setCell 2 (.int .i64 0)).setCell 3 (.int .u64 0)).setCell 4 (.string ⟨#[]⟩)).setCell 5 (.slice none 0 0)) rfl rfl Try.underlying54 rfl size54
      ⟨_, rfl, _, rfl, rt_zero _ _, Below.trans kx.out (hu.out.below (by rw [hp.out]; show p ≤ p + 1 + 1; omega))⟩
set_option maxRecDepth 100000 in
set_option maxHeartbeats 2000000 in
theorem refSet_ne (t x : T) (init : List Step) (s : Step) (S S' : Nat → Prop) (w : World) (c cx : List Value) (A : Option Addr) (ac : Nat) (h : RT S w t c) (hx : RT S w x cx) (hw : WRow S' w A (init ++ [s]) ac) (hne : s ≠ stepT x) :
    Calls Try.prog 71 #[.agg c.toArray, .slice A (init ++ [s]).length ac, .agg cx.toArray] w (Ret (RChg S (setR t (init ++ [s]) x) w)) := by
  rw [setR_snoc, if_neg hne]
  obtain ⟨K, kc, rfl, hrow⟩ := h.row
  obtain ⟨Kx, kcx, rfl, _⟩ := hx.row
  have kr := Hd.mk h
  have krx := Hd.mk hx
  have kw := Hd.mk hw
  have hlen : (init ++ [s]).length = init.length + 1 := by simp
  have hcap := hw.cap
  have hwl := hw.len
  obtain ⟨b2, o2, rfl, _, hdk⟩ := WRow.at hw (j := init.length) (x := s) (by simp)
  rw [hlen] at hcap hwl ⊢
  have kwi := Hd.mk hw.init
  have hlenH := Hd.mk hlen
  clear h hx hw hlen hrow
  simp only [cT] at kr krx ⊢
  obtain ⟨s1, s2⟩ := s
  have hv := not2 (show ¬ (s1 = x.name ∧ s2 = x.key) from fun h => hne (by rw [h.1, h.2]))
  generalize init.length = L at *
  clear hne
  go_enter Try.func71, Try.ntmps71
  go_wp2_with fail
  have kx := Hd.mk (((Ext.alloc w (.cells #[.string t.name, .string t.key, .int .i64 t.kind, .int .u64 t.num, .string t.text, .slice K t.kids.length kc] 54)).trans (Ext.alloc _ (.cells #[.string x.name, .string x.key, .int .i64 x.kind, .int .u64 x.num, .string x.text, .slice Kx x.kids.length kcx] 54))).trans (Ext.alloc _ (.cells #[.string ⟨#[]⟩, .string ⟨#[]⟩, .int .i64 0, .int .u64 0, .string ⟨#[]⟩, .slice none 0 0] 54)))
  have kA := Hd.mk (((Blk.new w #[.string t.name, .string t.key, .int .i64 t.kind, .int .u64 t.num, .string t.text, .slice K t.kids.length kc] 54).alloc (.cells #[.string x.name, .string x.key, .int .i64 x.kind, .int .u64 x.num, .string x.text, .slice Kx x.kids.length kcx] 54)).alloc (.cells #[.string ⟨#[]⟩, .string ⟨#[]⟩, .int .i64 0, .int .u64 0, .string ⟨#[]⟩, .slice none 0 0] 54))
  have kX := Hd.mk ((Blk.new2 w (.cells #[.string t.name, .string t.key, .int .i64 t.kind, .int .u64 t.num, .string t.text, .slice K t.kids.length kc] 54) #[.string x.name, .string x.key, .int .i64 x.kind, .int .u64 x.num, .string x.text, .slice Kx x.kids.length kcx] 54).alloc (.cells #[.string ⟨#[]⟩, .string ⟨#[]⟩, .int .i64 0, .int .u64 0, .string ⟨#[]⟩, .slice none 0 0] 54))
  have kR := Hd.mk (Blk.new3 w (.cells #[.string t.name, .string t.key, .int .i64 t.kind, .int .u64 t.num, .string t.text, .slice K t.kids.length kc] 54) (.cells #[.string x.name, .string x.key, .int .i64 x.kind, .int .u64 x.num, .string x.text, .slice Kx x.kids.length kcx] 54) #[.string ⟨#[]⟩, .string ⟨#[]⟩, .int .i64 0, .int .u64 0, .string ⟨#[]⟩, .slice none 0 0] 54)
  generalize ((w.alloc _).alloc _).alloc _ = W at *
  generalize hp : w.heap.size = p at *
  replace hp := Hd.mk hp
  have kcy := Hd.mk (fun (q : Nat) u hq => Ext.cell kx.out (hdk q u hq))
  have hLl : L < L + 1 := by omega
  rcases hv with q | ⟨q1, q⟩
  · have qb : (s1.toList == x.name.toList) = false := by simpa using q
    refine Flow.wp_region_flow_l (fun qq => match qq with
      | 14 => SP.eq (.int .i64 (L : Nat))
      | 15 => SP.eq (.bool false)
      | 16 => SP.eq (.bool false)
      | 17 => SP.eq (.slice (some ⟨b2, o2, none⟩) (L + 1) ac)
      | 18 => SP.eq (.int .i64 (L : Nat))
      | 19 => SP.eq (.pointer (some ⟨b2, o2 + L * 2, none⟩))
      | 20 => SP.eq (.pointer (some ⟨b2, o2 + L * 2, none⟩))
      | 21 => SP.eq (.string s1)
      | 22 => SP.eq (.pointer (some ⟨p + 1, 0, none⟩))
      | 23 => SP.eq (.string x.name)
      | 24 => SP.eq (.bool true)
      | 25 => SP.eq (.bool true)
      | 26 => SP.eq (.bool true)
      | 27 => SP.eq (undef)
      | 28 => SP.eq (undef)
      | 29 => SP.eq (undef)
      | 30 => SP.eq (undef)
      | 31 => SP.eq (undef)
      | 32 => SP.eq (undef)
      | 33 => SP.eq (undef)
      | 34 => SP.eq (undef)
      | 35 => SP.eq (.bool true)
      | _ => SP.any) 22 (by kernel_rfl) 58 rfl (by kernel_rfl) ?_ ?_
    · skip
      refine ⟨?_, ?_, ?_, ?_, ?_, ?_, ?_, ?_, ?_, ?_, ?_, ?_, ?_, ?_, ?_, ?_, ?_, ?_, ?_, ?_, ?_, ?_, trivial⟩
      · intro act W2 hk
        refine Flow.does_intro rfl (fun Kq hK => ?_)
        have e8 : act.tmps[8]?.getD undef = .int .i64 (L : Nat) := hk.o 8 (by kernel_rfl)
        clear hk
        go_simp
        exact hK _ _ (Ext.refl _) (fun d hd => by cases hd; rfl)
      · intro act W2 hk
        refine Flow.does_intro rfl (fun Kq hK => ?_)
        have e14 : act.tmps[14]?.getD undef = .int .i64 (L : Nat) := hk.v 14 (by kernel_rfl)
        clear hk
        go_simp
        exact hK _ _ (Ext.refl _) (fun d hd => by cases hd; first | rfl | (simp [SP.eq]; omega))
      · intro act W2 hk
        refine Flow.does_intro rfl (fun Kq hK => ?_)
        have e15 : act.tmps[15]?.getD undef = .bool false := hk.v 15 (by kernel_rfl)
        clear hk
        go_simp
        exact hK _ _ (Ext.refl _) (fun d hd => by cases hd; rfl)
      · intro act W2 hk
        have eg : act.tmps[16]?.getD undef = .bool false := hk.v 16 (by kernel_rfl)
        refine Flow.does_intro (wanted_yes rfl rfl eg) (fun Kq hK => ?_)
        clear eg
        have e1 : act.tmps[1]?.getD undef = .slice (some ⟨b2, o2, none⟩) (L + 1) ac := hk.o 1 (by kernel_rfl)
        clear hk
        go_simp
        exact hK _ _ (Ext.refl _) (fun d hd => by cases hd; rfl)
      · intro act W2 hk
        have eg : act.tmps[16]?.getD undef = .bool false := hk.v 16 (by kernel_rfl)
        refine Flow.does_intro (wanted_yes rfl rfl eg) (fun Kq hK => ?_)
        clear eg
        have e8 : act.tmps[8]?.getD undef = .int .i64 (L : Nat) := hk.o 8 (by kernel_rfl)
        clear hk
        go_simp
        exact hK _ _ (Ext.refl _) (fun d hd => by cases hd; rfl)
      · intro act W2 hk
        have eg : act.tmps[16]?.getD undef = .bool false := hk.v 16 (by kernel_rfl)
        refine Flow.does_intro (wanted_yes rfl rfl eg) (fun Kq hK => ?_)
        clear eg
        have e17 : act.tmps[17]?.getD undef = .slice (some ⟨b2, o2, none⟩) (L + 1) ac := hk.v 17 (by kernel_rfl)
        have e18 : act.tmps[18]?.getD undef = .int .i64 (L : Nat) := hk.v 18 (by kernel_rfl)
        have hLi : (L : Int) < (L : Int) + 1 := by omega
        clear hk
        go_simp
        exact hK _ _ (Ext.refl _) (fun d hd => by cases hd; rfl)
      · intro act W2 hk
        have eg : act.tmps[16]?.getD undef = .bool false := hk.v 16 (by kernel_rfl)
        refine Flow.does_intro (wanted_yes rfl rfl eg) (fun Kq hK => ?_)
        clear eg
        have e19 : act.tmps[19]?.getD undef = .pointer (some ⟨b2, o2 + L * 2, none⟩) := hk.v 19 (by kernel_rfl)
        clear hk
        go_simp
        exact hK _ _ (Ext.refl _) (fun d hd => by cases hd; rfl)
      · intro act W2 hk
        have eg : act.tmps[16]?.getD undef = .bool false := hk.v 16 (by kernel_rfl)
        refine Flow.does_intro (wanted_yes rfl rfl eg) (fun Kq hK => ?_)
        clear eg
        have e20 : act.tmps[20]?.getD undef = .pointer (some ⟨b2, o2 + L * 2, none⟩) := hk.v 20 (by kernel_rfl)
        have g0 := Ext.cell ((Ext.drew W).trans hk.ext) ((kcy.out) 0 _ rfl)
        rw [Nat.add_zero] at g0
        clear hk
        go_simp
        exact hK _ _ (Ext.refl _) (fun d hd => by cases hd; rfl)
      · intro act W2 hk
        have eg : act.tmps[16]?.getD undef = .bool false := hk.v 16 (by kernel_rfl)
        refine Flow.does_intro (wanted_yes rfl rfl eg) (fun Kq hK => ?_)
        clear eg
        have e5 : act.tmps[5]?.getD undef = .pointer (some ⟨p + 1, 0, none⟩) := hk.o 5 (by kernel_rfl)
        clear hk
        go_simp
        exact hK _ _ (Ext.refl _) (fun d hd => by cases hd; rfl)
      · intro act W2 hk
        have eg : act.tmps[16]?.getD undef = .bool false := hk.v 16 (by kernel_rfl)
        refine Flow.does_intro (wanted_yes rfl rfl eg) (fun Kq hK => ?_)
        clear eg
        have e22 : act.tmps[22]?.getD undef = .pointer (some ⟨p + 1, 0, none⟩) := hk.v 22 (by kernel_rfl)
        have g := ((kX.out).ext ((Ext.drew W).trans hk.ext)).cell
        clear hk
        go_simp
        exact hK _ _ (Ext.refl _) (fun d hd => by cases hd; rfl)
      · intro act W2 hk
        have eg : act.tmps[16]?.getD undef = .bool false := hk.v 16 (by kernel_rfl)
        refine Flow.does_intro (wanted_yes rfl rfl eg) (fun Kq hK => ?_)
        clear eg
        have e21 : act.tmps[21]?.getD undef = .string s1 := hk.v 21 (by kernel_rfl)
        have e23 : act.tmps[23]?.getD undef = .string x.name := hk.v 23 (by kernel_rfl)
        clear hk
        go_simp
        exact hK _ _ (Ext.refl _) (fun d hd => by cases hd; rfl)
      · intro act W2 hk
        refine Flow.does_intro rfl (fun Kq hK => ?_)
        have e16 : act.tmps[16]?.getD undef = .bool false := hk.v 16 (by kernel_rfl)
        have e24 : act.tmps[24]?.getD undef = .bool true := hk.v 24 (by kernel_rfl)
        clear hk
        go_simp
        exact hK _ _ (Ext.refl _) (fun d hd => by cases hd; rfl)
      · intro act W2 hk
        refine Flow.does_intro rfl (fun Kq hK => ?_)
        have e25 : act.tmps[25]?.getD undef = .bool true := hk.v 25 (by kernel_rfl)
        clear hk
        go_simp
        exact hK _ _ (Ext.refl _) (fun d hd => by cases hd; rfl)
      · intro act W2 hk
        have eg : act.tmps[26]?.getD undef = .bool true := hk.v 26 (by kernel_rfl)
        exact Flow.does_skip (wanted_no rfl rfl eg) (fun d hd => by cases hd; rfl)
      · intro act W2 hk
        have eg : act.tmps[26]?.getD undef = .bool true := hk.v 26 (by kernel_rfl)
        exact Flow.does_skip (wanted_no rfl rfl eg) (fun d hd => by cases hd; rfl)
      · intro act W2 hk
        have eg : act.tmps[26]?.getD undef = .bool true := hk.v 26 (by kernel_rfl)
        exact Flow.does_skip (wanted_no rfl rfl eg) (fun d hd => by cases hd; rfl)
      · intro act W2 hk
        have eg : act.tmps[26]?.getD undef = .bool true := hk.v 26 (by kernel_rfl)
        exact Flow.does_skip (wanted_no rfl rfl eg) (fun d hd => by cases hd; rfl)
      · intro act W2 hk
        have eg : act.tmps[26]?.getD undef = .bool true := hk.v 26 (by kernel_rfl)
        exact Flow.does_skip (wanted_no rfl rfl eg) (fun d hd => by cases hd; rfl)
      · intro act W2 hk
        have eg : act.tmps[26]?.getD undef = .bool true := hk.v 26 (by kernel_rfl)
        exact Flow.does_skip (wanted_no rfl rfl eg) (fun d hd => by cases hd; rfl)
      · intro act W2 hk
        have eg : act.tmps[26]?.getD undef = .bool true := hk.v 26 (by kernel_rfl)
        exact Flow.does_skip (wanted_no rfl rfl eg) (fun d hd => by cases hd; rfl)
      · intro act W2 hk
        have eg : act.tmps[26]?.getD undef = .bool true := hk.v 26 (by kernel_rfl)
        exact Flow.does_skip (wanted_no rfl rfl eg) (fun d hd => by cases hd; rfl)
      · intro act W2 hk
        refine Flow.does_intro rfl (fun Kq hK => ?_)
        have e26 : act.tmps[26]?.getD undef = .bool true := hk.v 26 (by kernel_rfl)
        clear hk
        go_simp
        exact hK _ _ (Ext.refl _) (fun d hd => by cases hd; rfl)
    · intro act V he
      have hxV := Hd.mk ((Ext.drew W).trans he.ext)
      obtain ⟨us, hA, hF⟩ := he.out [14, 15, 16, 17, 18, 19, 20, 21, 22, 23, 24, 25, 26, 27, 28, 29, 30, 31, 32, 33, 34, 35] (by kernel_rfl)
      simp only [Flow.fillL, List.contains_cons, List.contains_nil, Nat.reduceBEq, Bool.or_false, Bool.false_or, Bool.or_true, Bool.true_or, ↓reduceIte, Nat.reduceAdd, Bool.false_eq_true] at hA
      subst hA
      have f35 : us 35 = .bool true := hF 35 (by simp)
      clear hF he
      rw [f35]
      clear f35
      refine (show wpList _ _ _ [] _ _ from ?_)
      replace kx := Hd.mk (kx.out.trans hxV.out)
      replace kR := Hd.mk (kR.out.ext hxV.out)
      replace kA := Hd.mk (kA.out.ext hxV.out)
      replace kX := Hd.mk (kX.out.ext hxV.out)
      clear hxV
      have gR := kR.out.cell
      have fR := kR.out.free
      go_wp2_with fail
      have hu := Hd.mk ((((((Upd.setCell V ⟨p + 1 + 1, 0, none⟩ (.string ⟨#[]⟩)).trans (Upd.setCell _ ⟨p + 1 + 1, 1, none⟩ (.string ⟨#[]⟩))).trans (Upd.setCell _ ⟨p + 1 + 1, 2, none⟩ (.int .i64 0))).trans (Upd.setCell _ ⟨p + 1 + 1, 3, none⟩ (.int .u64 0))).trans (Upd.setCell _ ⟨p + 1 + 1, 4, none⟩ (.string ⟨#[]⟩))).trans (Upd.setCell _ ⟨p + 1 + 1, 5, none⟩ (.slice none 0 0)))
      exact ret_box2 rfl (p + 1 + 1) _ 54 _ ((((((kR.out.setCell 0 (.string ⟨#[]⟩)).setCell 1 (.string ⟨#[]⟩)).setCell 2 (.int .i64 0)).setCell 3 (.int .u64 0)).setCell 4 (.string ⟨#[]⟩)).setCell 5 (.slice none 0 0)) rfl rfl Try.underlying54 rfl size54
        ⟨_, rfl, _, rfl, rt_zero _ _, Below.trans kx.out (hu.out.below (by rw [hp.out]; show p ≤ p + 1 + 1; omega))⟩
  · have qb : (s2.toList == x.key.toList) = false := by simpa using q
    have qa : (s1.toList == x.name.toList) = true := by simpa using q1
    refine Flow.wp_region_flow_l (fun qq => match qq with
      | 14 => SP.eq (.int .i64 (L : Nat))
      | 15 => SP.eq (.bool false)
      | 16 => SP.eq (.bool false)
      | 17 => SP.eq (.slice (some ⟨b2, o2, none⟩) (L + 1) ac)
      | 18 => SP.eq (.int .i64 (L : Nat))
      | 19 => SP.eq (.pointer (some ⟨b2, o2 + L * 2, none⟩))
      | 20 => SP.eq (.pointer (some ⟨b2, o2 + L * 2, none⟩))
      | 21 => SP.eq (.string s1)
      | 22 => SP.eq (.pointer (some ⟨p + 1, 0, none⟩))
      | 23 => SP.eq (.string x.name)
      | 24 => SP.eq (.bool false)
      | 25 => SP.eq (.bool false)
      | 26 => SP.eq (.bool false)
      | 27 => SP.eq (.slice (some ⟨b2, o2, none⟩) (L + 1) ac)
      | 28 => SP.eq (.int .i64 (L : Nat))
      | 29 => SP.eq (.pointer (some ⟨b2, o2 + L * 2, none⟩))
      | 30 => SP.eq (.pointer (some ⟨b2, o2 + L * 2 + 1, none⟩))
      | 31 => SP.eq (.string s2)
      | 32 => SP.eq (.pointer (some ⟨p + 1, 1, none⟩))
      | 33 => SP.eq (.string x.key)
      | 34 => SP.eq (.bool true)
      | 35 => SP.eq (.bool true)
      | _ => SP.any) 22 (by kernel_rfl) 58 rfl (by kernel_rfl) ?_ ?_
    · skip
      refine ⟨?_, ?_, ?_, ?_, ?_, ?_, ?_, ?_, ?_, ?_, ?_, ?_, ?_, ?_, ?_, ?_, ?_, ?_, ?_, ?_, ?_, ?_, trivial⟩
      · intro act W2 hk
        refine Flow.does_intro rfl (fun Kq hK => ?_)
        have e8 : act.tmps[8]?.getD undef = .int .i64 (L : Nat) := hk.o 8 (by kernel_rfl)
        clear hk
        go_simp
        exact hK _ _ (Ext.refl _) (fun d hd => by cases hd; rfl)
      · intro act W2 hk
        refine Flow.does_intro rfl (fun Kq hK => ?_)
        have e14 : act.tmps[14]?.getD undef = .int .i64 (L : Nat) := hk.v 14 (by kernel_rfl)
        clear hk
        go_simp
        exact hK _ _ (Ext.refl _) (fun d hd => by cases hd; first | rfl | (simp [SP.eq]; omega))
      · intro act W2 hk
        refine Flow.does_intro rfl (fun Kq hK => ?_)
        have e15 : act.tmps[15]?.getD undef = .bool false := hk.v 15 (by kernel_rfl)
        clear hk
        go_simp
        exact hK _ _ (Ext.refl _) (fun d hd => by cases hd; rfl)
      · intro act W2 hk
        have eg : act.tmps[16]?.getD undef = .bool false := hk.v 16 (by kernel_rfl)
        refine Flow.does_intro (wanted_yes rfl rfl eg) (fun Kq hK => ?_)
        clear eg
        have e1 : act.tmps[1]?.getD undef = .slice (some ⟨b2, o2, none⟩) (L + 1) ac := hk.o 1 (by kernel_rfl)
        clear hk
        go_simp
        exact hK _ _ (Ext.refl _) (fun d hd => by cases hd; rfl)
      · intro act W2 hk
        have eg : act.tmps[16]?.getD undef = .bool false := hk.v 16 (by kernel_rfl)
        refine Flow.does_intro (wanted_yes rfl rfl eg) (fun Kq hK => ?_)
        clear eg
        have e8 : act.tmps[8]?.getD undef = .int .i64 (L : Nat) := hk.o 8 (by kernel_rfl)
        clear hk
        go_simp
        exact hK _ _ (Ext.refl _) (fun d hd => by cases hd; rfl)
      · intro act W2 hk
        have eg : act.tmps[16]?.getD undef = .bool false := hk.v 16 (by kernel_rfl)
        refine Flow.does_intro (wanted_yes rfl rfl eg) (fun Kq hK => ?_)
        clear eg
        have e17 : act.tmps[17]?.getD undef = .slice (some ⟨b2, o2, none⟩) (L + 1) ac := hk.v 17 (by kernel_rfl)
        have e18 : act.tmps[18]?.getD undef = .int .i64 (L : Nat) := hk.v 18 (by kernel_rfl)
        have hLi : (L : Int) < (L : Int) + 1 := by omega
        clear hk
        go_simp
        exact hK _ _ (Ext.refl _) (fun d hd => by cases hd; rfl)
      · intro act W2 hk
        have eg : act.tmps[16]?.getD undef = .bool false := hk.v 16 (by kernel_rfl)
        refine Flow.does_intro (wanted_yes rfl rfl eg) (fun Kq hK => ?_)
        clear eg
        have e19 : act.tmps[19]?.getD undef = .pointer (some ⟨b2, o2 + L * 2, none⟩) := hk.v 19 (by kernel_rfl)
        clear hk
        go_simp
        exact hK _ _ (Ext.refl _) (fun d hd => by cases hd; rfl)
      · intro act W2 hk
        have eg : act.tmps[16]?.getD undef = .bool false := hk.v 16 (by kernel_rfl)
        refine Flow.does_intro (wanted_yes rfl rfl eg) (fun Kq hK => ?_)
        clear eg
        have e20 : act.tmps[20]?.getD undef = .pointer (some ⟨b2, o2 + L * 2, none⟩) := hk.v 20 (by kernel_rfl)
        have g0 := Ext.cell ((Ext.drew W).trans hk.ext) ((kcy.out) 0 _ rfl)
        rw [Nat.add_zero] at g0
        clear hk
        go_simp
        exact hK _ _ (Ext.refl _) (fun d hd => by cases hd; rfl)
      · intro act W2 hk
        have eg : act.tmps[16]?.getD undef = .bool false := hk.v 16 (by kernel_rfl)
        refine Flow.does_intro (wanted_yes rfl rfl eg) (fun Kq hK => ?_)
        clear eg
        have e5 : act.tmps[5]?.getD undef = .pointer (some ⟨p + 1, 0, none⟩) := hk.o 5 (by kernel_rfl)
        clear hk
        go_simp
        exact hK _ _ (Ext.refl _) (fun d hd => by cases hd; rfl)
      · intro act W2 hk
        have eg : act.tmps[16]?.getD undef = .bool false := hk.v 16 (by kernel_rfl)
        refine Flow.does_intro (wanted_yes rfl rfl eg) (fun Kq hK => ?_)
        clear eg
        have e22 : act.tmps[22]?.getD undef = .pointer (some ⟨p + 1, 0, none⟩) := hk.v 22 (by kernel_rfl)
        have g := ((kX.out).ext ((Ext.drew W).trans hk.ext)).cell
        clear hk
        go_simp
        exact hK _ _ (Ext.refl _) (fun d hd => by cases hd; rfl)
      · intro act W2 hk
        have eg : act.tmps[16]?.getD undef = .bool false := hk.v 16 (by kernel_rfl)
        refine Flow.does_intro (wanted_yes rfl rfl eg) (fun Kq hK => ?_)
        clear eg
        have e21 : act.tmps[21]?.getD undef = .string s1 := hk.v 21 (by kernel_rfl)
        have e23 : act.tmps[23]?.getD undef = .string x.name := hk.v 23 (by kernel_rfl)
        clear hk
        go_simp
        exact hK _ _ (Ext.refl _) (fun d hd => by cases hd; rfl)
      · intro act W2 hk
        refine Flow.does_intro rfl (fun Kq hK => ?_)
        have e16 : act.tmps[16]?.getD undef = .bool false := hk.v 16 (by kernel_rfl)
        have e24 : act.tmps[24]?.getD undef = .bool false := hk.v 24 (by kernel_rfl)
        clear hk
        go_simp
        exact hK _ _ (Ext.refl _) (fun d hd => by cases hd; rfl)
      · intro act W2 hk
        refine Flow.does_intro rfl (fun Kq hK => ?_)
        have e25 : act.tmps[25]?.getD undef = .bool false := hk.v 25 (by kernel_rfl)
        clear hk
        go_simp
        exact hK _ _ (Ext.refl _) (fun d hd => by cases hd; rfl)
      · intro act W2 hk
        have eg : act.tmps[26]?.getD undef = .bool false := hk.v 26 (by kernel_rfl)
        refine Flow.does_intro (wanted_yes rfl rfl eg) (fun Kq hK => ?_)
        clear eg
        have e1 : act.tmps[1]?.getD undef = .slice (some ⟨b2, o2, none⟩) (L + 1) ac := hk.o 1 (by kernel_rfl)
        clear hk
        go_simp
        exact hK _ _ (Ext.refl _) (fun d hd => by cases hd; rfl)
      · intro act W2 hk
        have eg : act.tmps[26]?.getD undef = .bool false := hk.v 26 (by kernel_rfl)
        refine Flow.does_intro (wanted_yes rfl rfl eg) (fun Kq hK => ?_)
        clear eg
        have e8 : act.tmps[8]?.getD undef = .int .i64 (L : Nat) := hk.o 8 (by kernel_rfl)
        clear hk
        go_simp
        exact hK _ _ (Ext.refl _) (fun d hd => by cases hd; rfl)
      · intro act W2 hk
        have eg : act.tmps[26]?.getD undef = .bool false := hk.v 26 (by kernel_rfl)
        refine Flow.does_intro (wanted_yes rfl rfl eg) (fun Kq hK => ?_)
        clear eg
        have e27 : act.tmps[27]?.getD undef = .slice (some ⟨b2, o2, none⟩) (L + 1) ac := hk.v 27 (by kernel_rfl)
        have e28 : act.tmps[28]?.getD undef = .int .i64 (L : Nat) := hk.v 28 (by kernel_rfl)
        have hLi : (L : Int) < (L : Int) + 1 := by omega
        clear hk
        go_simp
        exact hK _ _ (Ext.refl _) (fun d hd => by cases hd; rfl)
      · intro act W2 hk
        have eg : act.tmps[26]?.getD undef = .bool false := hk.v 26 (by kernel_rfl)
        refine Flow.does_intro (wanted_yes rfl rfl eg) (fun Kq hK => ?_)
        clear eg
        have e29 : act.tmps[29]?.getD undef = .pointer (some ⟨b2, o2 + L * 2, none⟩) := hk.v 29 (by kernel_rfl)
        clear hk
        go_simp
        exact hK _ _ (Ext.refl _) (fun d hd => by cases hd; rfl)
      · intro act W2 hk
        have eg : act.tmps[26]?.getD undef = .bool false := hk.v 26 (by kernel_rfl)
        refine Flow.does_intro (wanted_yes rfl rfl eg) (fun Kq hK => ?_)
        clear eg
        have e30 : act.tmps[30]?.getD undef = .pointer (some ⟨b2, o2 + L * 2 + 1, none⟩) := hk.v 30 (by kernel_rfl)
        have g1 := Ext.cell ((Ext.drew W).trans hk.ext) ((kcy.out) 1 _ rfl)
        clear hk
        go_simp
        exact hK _ _ (Ext.refl _) (fun d hd => by cases hd; rfl)
      · intro act W2 hk
        have eg : act.tmps[26]?.getD undef = .bool false := hk.v 26 (by kernel_rfl)
        refine Flow.does_intro (wanted_yes rfl rfl eg) (fun Kq hK => ?_)
        clear eg
        have e5 : act.tmps[5]?.getD undef = .pointer (some ⟨p + 1, 0, none⟩) := hk.o 5 (by kernel_rfl)
        clear hk
        go_simp
        exact hK _ _ (Ext.refl _) (fun d hd => by cases hd; rfl)
      · intro act W2 hk
        have eg : act.tmps[26]?.getD undef = .bool false := hk.v 26 (by kernel_rfl)
        refine Flow.does_intro (wanted_yes rfl rfl eg) (fun Kq hK => ?_)
        clear eg
        have e32 : act.tmps[32]?.getD undef = .pointer (some ⟨p + 1, 1, none⟩) := hk.v 32 (by kernel_rfl)
        have g := ((kX.out).ext ((Ext.drew W).trans hk.ext)).cell
        clear hk
        go_simp
        exact hK _ _ (Ext.refl _) (fun d hd => by cases hd; rfl)
      · intro act W2 hk
        have eg : act.tmps[26]?.getD undef = .bool false := hk.v 26 (by kernel_rfl)
        refine Flow.does_intro (wanted_yes rfl rfl eg) (fun Kq hK => ?_)
        clear eg
        have e31 : act.tmps[31]?.getD undef = .string s2 := hk.v 31 (by kernel_rfl)
        have e33 : act.tmps[33]?.getD undef = .string x.key := hk.v 33 (by kernel_rfl)
        clear hk
        go_simp
        exact hK _ _ (Ext.refl _) (fun d hd => by cases hd; rfl)
      · intro act W2 hk
        refine Flow.does_intro rfl (fun Kq hK => ?_)
        have e26 : act.tmps[26]?.getD undef = .bool false := hk.v 26 (by kernel_rfl)
        have e34 : act.tmps[34]?.getD undef = .bool true := hk.v 34 (by kernel_rfl)
        clear hk
        go_simp
        exact hK _ _ (Ext.refl _) (fun d hd => by cases hd; rfl)
    · intro act V he
      have hxV := Hd.mk ((Ext.drew W).trans he.ext)
      obtain ⟨us, hA, hF⟩ := he.out [14, 15, 16, 17, 18, 19, 20, 21, 22, 23, 24, 25, 26, 27, 28, 29, 30, 31, 32, 33, 34, 35] (by kernel_rfl)
      simp only [Flow.fillL, List.contains_cons, List.contains_nil, Nat.reduceBEq, Bool.or_false, Bool.false_or, Bool.or_true, Bool.true_or, ↓reduceIte, Nat.reduceAdd, Bool.false_eq_true] at hA
      subst hA
      have f35 : us 35 = .bool true := hF 35 (by simp)
      clear hF he
      rw [f35]
      clear f35
      refine (show wpList _ _ _ [] _ _ from ?_)
      replace kx := Hd.mk (kx.out.trans hxV.out)
      replace kR := Hd.mk (kR.out.ext hxV.out)
      replace kA := Hd.mk (kA.out.ext hxV.out)
      replace kX := Hd.mk (kX.out.ext hxV.out)
      clear hxV
      have gR := kR.out.cell
      have fR := kR.out.free
      go_wp2_with fail
      have hu := Hd.mk ((((((Upd.setCell V ⟨p + 1 + 1, 0, none⟩ (.string ⟨#[]⟩)).trans (Upd.setCell _ ⟨p + 1 + 1, 1, none⟩ (.string ⟨#[]⟩))).trans (Upd.setCell _ ⟨p + 1 + 1, 2, none⟩ (.int .i64 0))).trans (Upd.setCell _ ⟨p + 1 + 1, 3, none⟩ (.int .u64 0))).trans (Upd.setCell _ ⟨p + 1 + 1, 4, none⟩ (.string ⟨#[]⟩))).trans (Upd.setCell _ ⟨p + 1 + 1, 5, none⟩ (.slice none 0 0)))
      exact ret_box2 rfl (p + 1 + 1) _ 54 _ ((((((kR.out.setCell 0 (.string ⟨#[]⟩)).setCell 1 (.string ⟨#[]⟩)).setCell 2 (.int .i64 0)).setCell 3 (.int .u64 0)).setCell 4 (.string ⟨#[]⟩)).setCell 5 (.slice none 0 0)) rfl rfl Try.underlying54 rfl size54
        ⟨_, rfl, _, rfl, rt_zero _ _, Below.trans kx.out (hu.out.below (by rw [hp.out]; show p ≤ p + 1 + 1; omega))⟩
set_option maxRecDepth 100000 in
set_option maxHeartbeats 2000000 in
theorem refSet_eq (t x : T) (init : List Step) (S S' : Nat → Prop) (w : World) (c cx : List Value) (A : Option Addr) (ac : Nat) (h : RT S w t c) (hx : RT S w x cx) (hw : WRow S' w A (init ++ [stepT x]) ac) (hsz : t.size + x.size ≤ 1048576) :
    Calls Try.prog 71 #[.agg c.toArray, .slice A (init ++ [stepT x]).length ac, .agg cx.toArray] w (Ret (RChg S (setR t (init ++ [stepT x]) x) w)) := by
  rw [setR_snoc2, if_pos rfl]
  generalize hr0 : (match getT t init with | none => (zeroT, (30 : Int)) | some p => if p.kind ≠ 0 then (zeroT, 30) else (setT t (init ++ [stepT x]) x, 0)) = r
  replace hr0 := Hd.mk hr0
  have hset := Hd.mk (fun W c1 c2 (hgi : (getT t init).isSome = true) (g1 : RT (fun b => S b ∧ b < w.heap.size) W t c1) (g2 : RT (fun b => S b ∧ b < w.heap.size) W x c2) (g3 : WRow S' W A (init ++ [stepT x]) ac) => ref_set (init ++ [stepT x]) t x (fun b => S b ∧ b < w.heap.size) S' W c1 c2 A ac (by rw [List.getLast?_concat]) (by rw [List.dropLast_concat]; exact hgi) g1 g2 g3 hsz)
  replace h := h.mono (S' := fun b => S b ∧ b < w.heap.size) (fun b hb hs => ⟨hs, hb⟩)
  replace hx := hx.mono (S' := fun b => S b ∧ b < w.heap.size) (fun b hb hs => ⟨hs, hb⟩)
  obtain ⟨K, kc, rfl, hrow⟩ := h.row
  obtain ⟨Kx, kcx, rfl, _⟩ := hx.row
  have kr := Hd.mk h
  have krx := Hd.mk hx
  have kw := Hd.mk hw
  have hlen : (init ++ [stepT x]).length = init.length + 1 := by simp
  have hcap := hw.cap
  have hwl := hw.len
  obtain ⟨b2, o2, rfl, _, hdk⟩ := WRow.at hw (j := init.length) (x := stepT x) (by simp)
  rw [hlen] at hcap hwl ⊢
  have kwi := Hd.mk hw.init
  have hlenH := Hd.mk hlen
  clear h hx hw hlen hrow
  simp only [cT] at kr krx ⊢
  generalize hL : init.length = L at *
  replace hL := Hd.mk hL
  clear hsz
  go_enter Try.func71, Try.ntmps71
  go_wp2_with fail
  have kx := Hd.mk (((Ext.alloc w (.cells #[.string t.name, .string t.key, .int .i64 t.kind, .int .u64 t.num, .string t.text, .slice K t.kids.length kc] 54)).trans (Ext.alloc _ (.cells #[.string x.name, .string x.key, .int .i64 x.kind, .int .u64 x.num, .string x.text, .slice Kx x.kids.length kcx] 54))).trans (Ext.alloc _ (.cells #[.string ⟨#[]⟩, .string ⟨#[]⟩, .int .i64 0, .int .u64 0, .string ⟨#[]⟩, .slice none 0 0] 54)))
  have kA := Hd.mk (((Blk.new w #[.string t.name, .string t.key, .int .i64 t.kind, .int .u64 t.num, .string t.text, .slice K t.kids.length kc] 54).alloc (.cells #[.string x.name, .string x.key, .int .i64 x.kind, .int .u64 x.num, .string x.text, .slice Kx x.kids.length kcx] 54)).alloc (.cells #[.string ⟨#[]⟩, .string ⟨#[]⟩, .int .i64 0, .int .u64 0, .string ⟨#[]⟩, .slice none 0 0] 54))
  have kX := Hd.mk ((Blk.new2 w (.cells #[.string t.name, .string t.key, .int .i64 t.kind, .int .u64 t.num, .string t.text, .slice K t.kids.length kc] 54) #[.string x.name, .string x.key, .int .i64 x.kind, .int .u64 x.num, .string x.text, .slice Kx x.kids.length kcx] 54).alloc (.cells #[.string ⟨#[]⟩, .string ⟨#[]⟩, .int .i64 0, .int .u64 0, .string ⟨#[]⟩, .slice none 0 0] 54))
  have kR := Hd.mk (Blk.new3 w (.cells #[.string t.name, .string t.key, .int .i64 t.kind, .int .u64 t.num, .string t.text, .slice K t.kids.length kc] 54) (.cells #[.string x.name, .string x.key, .int .i64 x.kind, .int .u64 x.num, .string x.text, .slice Kx x.kids.length kcx] 54) #[.string ⟨#[]⟩, .string ⟨#[]⟩, .int .i64 0, .int .u64 0, .string ⟨#[]⟩, .slice none 0 0] 54)
  generalize ((w.alloc _).alloc _).alloc _ = W at *
  generalize hp : w.heap.size = p at *
  replace hp := Hd.mk hp
  have kcy := Hd.mk (fun (q : Nat) u hq => Ext.cell kx.out (hdk q u hq))
  have hLl : L < L + 1 := by omega
  refine Flow.wp_region_flow_l (fun qq => match qq with
    | 14 => SP.eq (.int .i64 (L : Nat))
    | 15 => SP.eq (.bool false)
    | 16 => SP.eq (.bool false)
    | 17 => SP.eq (.slice (some ⟨b2, o2, none⟩) (L + 1) ac)
    | 18 => SP.eq (.int .i64 (L : Nat))
    | 19 => SP.eq (.pointer (some ⟨b2, o2 + L * 2, none⟩))
    | 20 => SP.eq (.pointer (some ⟨b2, o2 + L * 2, none⟩))
    | 21 => SP.eq (.string x.name)
    | 22 => SP.eq (.pointer (some ⟨p + 1, 0, none⟩))
    | 23 => SP.eq (.string x.name)
    | 24 => SP.eq (.bool false)
    | 25 => SP.eq (.bool false)
    | 26 => SP.eq (.bool false)
    | 27 => SP.eq (.slice (some ⟨b2, o2, none⟩) (L + 1) ac)
    | 28 => SP.eq (.int .i64 (L : Nat))
    | 29 => SP.eq (.pointer (some ⟨b2, o2 + L * 2, none⟩))
    | 30 => SP.eq (.pointer (some ⟨b2, o2 + L * 2 + 1, none⟩))
    | 31 => SP.eq (.string x.key)
    | 32 => SP.eq (.pointer (some ⟨p + 1, 1, none⟩))
    | 33 => SP.eq (.string x.key)
    | 34 => SP.eq (.bool false)
    | 35 => SP.eq (.bool false)
    | _ => SP.any) 22 (by kernel_rfl) 58 rfl (by kernel_rfl) ?_ ?_
  · skip
    refine ⟨?_, ?_, ?_, ?_, ?_, ?_, ?_, ?_, ?_, ?_, ?_, ?_, ?_, ?_, ?_, ?_, ?_, ?_, ?_, ?_, ?_, ?_, trivial⟩
    · intro act W2 hk
      refine Flow.does_intro rfl (fun Kq hK => ?_)
      have e8 : act.tmps[8]?.getD undef = .int .i64 (L : Nat) := hk.o 8 (by kernel_rfl)
      clear hk
      go_simp
      exact hK _ _ (Ext.refl _) (fun d hd => by cases hd; rfl)
    · intro act W2 hk
      refine Flow.does_intro rfl (fun Kq hK => ?_)
      have e14 : act.tmps[14]?.getD undef = .int .i64 (L : Nat) := hk.v 14 (by kernel_rfl)
      clear hk
      go_simp
      exact hK _ _ (Ext.refl _) (fun d hd => by cases hd; first | rfl | (simp [SP.eq]; omega))
    · intro act W2 hk
      refine Flow.does_intro rfl (fun Kq hK => ?_)
      have e15 : act.tmps[15]?.getD undef = .bool false := hk.v 15 (by kernel_rfl)
      clear hk
      go_simp
      exact hK _ _ (Ext.refl _) (fun d hd => by cases hd; rfl)
    · intro act W2 hk
      have eg : act.tmps[16]?.getD undef = .bool false := hk.v 16 (by kernel_rfl)
      refine Flow.does_intro (wanted_yes rfl rfl eg) (fun Kq hK => ?_)
      clear eg
      have e1 : act.tmps[1]?.getD undef = .slice (some ⟨b2, o2, none⟩) (L + 1) ac := hk.o 1 (by kernel_rfl)
      clear hk
      go_simp
      exact hK _ _ (Ext.refl _) (fun d hd => by cases hd; rfl)
    · intro act W2 hk
      have eg : act.tmps[16]?.getD undef = .bool false := hk.v 16 (by kernel_rfl)
      refine Flow.does_intro (wanted_yes rfl rfl eg) (fun Kq hK => ?_)
      clear eg
      have e8 : act.tmps[8]?.getD undef = .int .i64 (L : Nat) := hk.o 8 (by kernel_rfl)
      clear hk
      go_simp
      exact hK _ _ (Ext.refl _) (fun d hd => by cases hd; rfl)
    · intro act W2 hk
      have eg : act.tmps[16]?.getD undef = .bool false := hk.v 16 (by kernel_rfl)
      refine Flow.does_intro (wanted_yes rfl rfl eg) (fun Kq hK => ?_)
      clear eg
      have e17 : act.tmps[17]?.getD undef = .slice (some ⟨b2, o2, none⟩) (L + 1) ac := hk.v 17 (by kernel_rfl)
      have e18 : act.tmps[18]?.getD undef = .int .i64 (L : Nat) := hk.v 18 (by kernel_rfl)
      have hLi : (L : Int) < (L : Int) + 1 := by omega
      clear hk
      go_simp
      exact hK _ _ (Ext.refl _) (fun d hd => by cases hd; rfl)
    · intro act W2 hk
      have eg : act.tmps[16]?.getD undef = .bool false := hk.v 16 (by kernel_rfl)
      refine Flow.does_intro (wanted_yes rfl rfl eg) (fun Kq hK => ?_)
      clear eg
      have e19 : act.tmps[19]?.getD undef = .pointer (some ⟨b2, o2 + L * 2, none⟩) := hk.v 19 (by kernel_rfl)
      clear hk
      go_simp
      exact hK _ _ (Ext.refl _) (fun d hd => by cases hd; rfl)
    · intro act W2 hk
      have eg : act.tmps[16]?.getD undef = .bool false := hk.v 16 (by kernel_rfl)
      refine Flow.does_intro (wanted_yes rfl rfl eg) (fun Kq hK => ?_)
      clear eg
      have e20 : act.tmps[20]?.getD undef = .pointer (some ⟨b2, o2 + L * 2, none⟩) := hk.v 20 (by kernel_rfl)
      have g0 := Ext.cell ((Ext.drew W).trans hk.ext) ((kcy.out) 0 _ rfl)
      rw [Nat.add_zero] at g0
      clear hk
      go_simp
      exact hK _ _ (Ext.refl _) (fun d hd => by cases hd; rfl)
    · intro act W2 hk
      have eg : act.tmps[16]?.getD undef = .bool false := hk.v 16 (by kernel_rfl)
      refine Flow.does_intro (wanted_yes rfl rfl eg) (fun Kq hK => ?_)
      clear eg
      have e5 : act.tmps[5]?.getD undef = .pointer (some ⟨p + 1, 0, none⟩) := hk.o 5 (by kernel_rfl)
      clear hk
      go_simp
      exact hK _ _ (Ext.refl _) (fun d hd => by cases hd; rfl)
    · intro act W2 hk
      have eg : act.tmps[16]?.getD undef = .bool false := hk.v 16 (by kernel_rfl)
      refine Flow.does_intro (wanted_yes rfl rfl eg) (fun Kq hK => ?_)
      clear eg
      have e22 : act.tmps[22]?.getD undef = .pointer (some ⟨p + 1, 0, none⟩) := hk.v 22 (by kernel_rfl)
      have g := ((kX.out).ext ((Ext.drew W).trans hk.ext)).cell
      clear hk
      go_simp
      exact hK _ _ (Ext.refl _) (fun d hd => by cases hd; rfl)
    · intro act W2 hk
      have eg : act.tmps[16]?.getD undef = .bool false := hk.v 16 (by kernel_rfl)
      refine Flow.does_intro (wanted_yes rfl rfl eg) (fun Kq hK => ?_)
      clear eg
      have e21 : act.tmps[21]?.getD undef = .string x.name := hk.v 21 (by kernel_rfl)
      have e23 : act.tmps[23]?.getD undef = .string x.name := hk.v 23 (by kernel_rfl)
      clear hk
      go_simp
      exact hK _ _ (Ext.refl _) (fun d hd => by cases hd; rfl)
    · intro act W2 hk
      refine Flow.does_intro rfl (fun Kq hK => ?_)
      have e16 : act.tmps[16]?.getD undef = .bool false := hk.v 16 (by kernel_rfl)
      have e24 : act.tmps[24]?.getD undef = .bool false := hk.v 24 (by kernel_rfl)
      clear hk
      go_simp
      exact hK _ _ (Ext.refl _) (fun d hd => by cases hd; rfl)
    · intro act W2 hk
      refine Flow.does_intro rfl (fun Kq hK => ?_)
      have e25 : act.tmps[25]?.getD undef = .bool false := hk.v 25 (by kernel_rfl)
      clear hk
      go_simp
      exact hK _ _ (Ext.refl _) (fun d hd => by cases hd; rfl)
    · intro act W2 hk
      have eg : act.tmps[26]?.getD undef = .bool false := hk.v 26 (by kernel_rfl)
      refine Flow.does_intro (wanted_yes rfl rfl eg) (fun Kq hK => ?_)
      clear eg
      have e1 : act.tmps[1]?.getD undef = .slice (some ⟨b2, o2, none⟩) (L + 1) ac := hk.o 1 (by kernel_rfl)
      clear hk
      go_simp
      exact hK _ _ (Ext.refl _) (fun d hd => by cases hd; rfl)
    · intro act W2 hk
      have eg : act.tmps[26]?.getD undef = .bool false := hk.v 26 (by kernel_rfl)
      refine Flow.does_intro (wanted_yes rfl rfl eg) (fun Kq hK => ?_)
      clear eg
      have e8 : act.tmps[8]?.getD undef = .int .i64 (L : Nat) := hk.o 8 (by kernel_rfl)
      clear hk
      go_simp
      exact hK _ _ (Ext.refl _) (fun d hd => by cases hd; rfl)
    · intro act W2 hk
      have eg : act.tmps[26]?.getD undef = .bool false := hk.v 26 (by kernel_rfl)
      refine Flow.does_intro (wanted_yes rfl rfl eg) (fun Kq hK => ?_)
      clear eg
      have e27 : act.tmps[27]?.getD undef = .slice (some ⟨b2, o2, none⟩) (L + 1) ac := hk.v 27 (by kernel_rfl)
      have e28 : act.tmps[28]?.getD undef = .int .i64 (L : Nat) := hk.v 28 (by kernel_rfl)
      have hLi : (L : Int) < (L : Int) + 1 := by omega
      clear hk
      go_simp
      exact hK _ _ (Ext.refl _) (fun d hd => by cases hd; rfl)
    · intro act W2 hk
      have eg : act.tmps[26]?.getD undef = .bool false := hk.v 26 (by kernel_rfl)
      refine Flow.does_intro (wanted_yes rfl rfl eg) (fun Kq hK => ?_)
      clear eg
      have e29 : act.tmps[29]?.getD undef = .pointer (some ⟨b2, o2 + L * 2, none⟩) := hk.v 29 (by kernel_rfl)
      clear hk
      go_simp
      exact hK _ _ (Ext.refl _) (fun d hd => by cases hd; rfl)
    · intro act W2 hk
      have eg : act.tmps[26]?.getD undef = .bool false := hk.v 26 (by kernel_rfl)
      refine Flow.does_intro (wanted_yes rfl rfl eg) (fun Kq hK => ?_)
      clear eg
      have e30 : act.tmps[30]?.getD undef = .pointer (some ⟨b2, o2 + L * 2 + 1, none⟩) := hk.v 30 (by kernel_rfl)
      have g1 := Ext.cell ((Ext.drew W).trans hk.ext) ((kcy.out) 1 _ rfl)
      clear hk
      go_simp
      exact hK _ _ (Ext.refl _) (fun d hd => by cases hd; rfl)
    · intro act W2 hk
      have eg : act.tmps[26]?.getD undef = .bool false := hk.v 26 (by kernel_rfl)
      refine Flow.does_intro (wanted_yes rfl rfl eg) (fun Kq hK => ?_)
      clear eg
      have e5 : act.tmps[5]?.getD undef = .pointer (some ⟨p + 1, 0, none⟩) := hk.o 5 (by kernel_rfl)
      clear hk
      go_simp
      exact hK _ _ (Ext.refl _) (fun d hd => by cases hd; rfl)
    · intro act W2 hk
      have eg : act.tmps[26]?.getD undef = .bool false := hk.v 26 (by kernel_rfl)
      refine Flow.does_intro (wanted_yes rfl rfl eg) (fun Kq hK => ?_)
      clear eg
      have e32 : act.tmps[32]?.getD undef = .pointer (some ⟨p + 1, 1, none⟩) := hk.v 32 (by kernel_rfl)
      have g := ((kX.out).ext ((Ext.drew W).trans hk.ext)).cell
      clear hk
      go_simp
      exact hK _ _ (Ext.refl _) (fun d hd => by cases hd; rfl)
    · intro act W2 hk
      have eg : act.tmps[26]?.getD undef = .bool false := hk.v 26 (by kernel_rfl)
      refine Flow.does_intro (wanted_yes rfl rfl eg) (fun Kq hK => ?_)
      clear eg
      have e31 : act.tmps[31]?.getD undef = .string x.key := hk.v 31 (by kernel_rfl)
      have e33 : act.tmps[33]?.getD undef = .string x.key := hk.v 33 (by kernel_rfl)
      clear hk
      go_simp
      exact hK _ _ (Ext.refl _) (fun d hd => by cases hd; rfl)
    · intro act W2 hk
      refine Flow.does_intro rfl (fun Kq hK => ?_)
      have e26 : act.tmps[26]?.getD undef = .bool false := hk.v 26 (by kernel_rfl)
      have e34 : act.tmps[34]?.getD undef = .bool false := hk.v 34 (by kernel_rfl)
      clear hk
      go_simp
      exact hK _ _ (Ext.refl _) (fun d hd => by cases hd; rfl)
  · intro act V he
    have hxV := Hd.mk ((Ext.drew W).trans he.ext)
    obtain ⟨us, hA, hF⟩ := he.out [14, 15, 16, 17, 18, 19, 20, 21, 22, 23, 24, 25, 26, 27, 28, 29, 30, 31, 32, 33, 34, 35] (by kernel_rfl)
    simp only [Flow.fillL, List.contains_cons, List.contains_nil, Nat.reduceBEq, Bool.or_false, Bool.false_or, Bool.or_true, Bool.true_or, ↓reduceIte, Nat.reduceAdd, Bool.false_eq_true] at hA
    subst hA
    have f35 : us 35 = .bool false := hF 35 (by simp)
    clear hF he
    rw [f35]
    clear f35
    refine (show wpList _ _ _ [] _ _ from ?_)
    replace kx := Hd.mk (kx.out.trans hxV.out)
    replace kR := Hd.mk (kR.out.ext hxV.out)
    replace kA := Hd.mk (kA.out.ext hxV.out)
    replace kX := Hd.mk (kX.out.ext hxV.out)
    clear hxV
    have hpV := Hd.mk (show p < V.heap.size by have := kR.out.lt; omega)
    clear kcy hdk
    have hrec := Hd.mk (fun W (h : Ext V W) => ref_get init t _ S' W _ _ ac (kr.out.ext (kx.out.trans h)) (kwi.out.ext (kx.out.trans h)))
    rw [hL.out] at hrec
    have hLc : L ≤ ac := by omega
    have hLn : L ≤ L + 1 := by omega
    have hLi0 : (L : Int) ≤ (ac : Int) := by omega
    cases hgk : getT t init with
    | none =>
      have hgk := Hd.mk hgk
      have gA := kA.out.cell
      go_wp2_with fail
      clear gA
      refine FlowG.wp_region_flow_l (G := fun a w => ∀ D, a.tmps.getD 9 undef = .pointer (some ⟨D, 0, none⟩) → Blk w D [.string ⟨#[]⟩, .string ⟨#[]⟩, .int .i64 0, .int .u64 0, .string ⟨#[]⟩, .slice none 0 0] 54) ?_ (R := Rb V.heap.size) 9 (fun _ _ h => rb_ext h) (fun h k => rb_trans h k) (fun qq => match qq with
        | 38 => SP.eq (.agg #[.string t.name, .string t.key, .int .i64 t.kind, .int .u64 t.num, .string t.text, .slice K t.kids.length kc])
        | 39 => SP.eq (.slice (some ⟨b2, o2, none⟩) (L + 1) ac)
        | 40 => SP.eq (.int .i64 (L : Nat))
        | 41 => SP.eq (.slice (some ⟨b2, o2, none⟩) L ac)
        | 42 => SP.eq (.tuple #[.agg #[.string ⟨#[]⟩, .string ⟨#[]⟩, .int .i64 0, .int .u64 0, .string ⟨#[]⟩, .slice none 0 0], .bool false])
        | 37 => SP.eq (.tuple #[.agg #[.string ⟨#[]⟩, .string ⟨#[]⟩, .int .i64 0, .int .u64 0, .string ⟨#[]⟩, .slice none 0 0], .bool false])
        | 43 => SP.eq (.agg #[.string ⟨#[]⟩, .string ⟨#[]⟩, .int .i64 0, .int .u64 0, .string ⟨#[]⟩, .slice none 0 0])
        | 44 => SP.eq (.bool false)
        | 9 => spBoxE V.heap.size
        | _ => SP.any) 10 (by kernel_rfl) 58 rfl (by kernel_rfl) (of_decide_eq_true (by kernel_rfl)) (by decide) (by kernel_rfl) ?_ ?_ ?_
      · exact fun a v1 v2 hx h D hD => (h D hD).ext hx
      · intro q hq u' v1 v2 hR
        split
        all_goals first | exact fun h => h | exact fun ⟨D, e, h1, c, hb, hc⟩ => ⟨D, e, h1, hR.2.2 D c hb hc⟩
      · skip
        refine ⟨?_, ?_, ?_, ?_, ?_, ?_, ?_, ?_, ?_, ?_, trivial⟩
        · intro act W2 hk
          refine FlowG.does_intro rfl (fun Kq hK => ?_)
          have e3 : act.tmps[3]?.getD undef = .pointer (some ⟨p, 0, none⟩) := hk.o 3 (by kernel_rfl)
          have g := ((kA.out).ext ((Ext.drew V).trans (hk.early (.inr (by kernel_rfl))))).cell
          clear hk
          go_simp
          exact hK _ _ (Ext.refl _) (fun h => absurd h (by decide)) (fun d hd => by cases hd; rfl)
        · intro act W2 hk
          refine FlowG.does_intro rfl (fun Kq hK => ?_)
          have e1 : act.tmps[1]?.getD undef = .slice (some ⟨b2, o2, none⟩) (L + 1) ac := hk.o 1 (by kernel_rfl)
          clear hk
          go_simp
          exact hK _ _ (Ext.refl _) (fun h => absurd h (by decide)) (fun d hd => by cases hd; rfl)
        · intro act W2 hk
          refine FlowG.does_intro rfl (fun Kq hK => ?_)
          have e8 : act.tmps[8]?.getD undef = .int .i64 (L : Nat) := hk.o 8 (by kernel_rfl)
          clear hk
          go_simp
          exact hK _ _ (Ext.refl _) (fun h => absurd h (by decide)) (fun d hd => by cases hd; rfl)
        · intro act W2 hk
          refine FlowG.does_intro rfl (fun Kq hK => ?_)
          have e39 : act.tmps[39]?.getD undef = .slice (some ⟨b2, o2, none⟩) (L + 1) ac := hk.v 39 (by kernel_rfl)
          have e40 : act.tmps[40]?.getD undef = .int .i64 (L : Nat) := hk.v 40 (by kernel_rfl)
          clear hk
          go_simp
          exact hK _ _ (Ext.refl _) (fun h => absurd h (by decide)) (fun d hd => by cases hd; simp [SP.eq])
        · intro act W2 hk
          refine FlowG.does_intro rfl (fun Kq hK => ?_)
          have e38 : act.tmps[38]?.getD undef = .agg #[.string t.name, .string t.key, .int .i64 t.kind, .int .u64 t.num, .string t.text, .slice K t.kids.length kc] := hk.v 38 (by kernel_rfl)
          have e41 : act.tmps[41]?.getD undef = .slice (some ⟨b2, o2, none⟩) L ac := hk.v 41 (by kernel_rfl)
          have hx0 := Hd.mk ((Ext.drew V).trans (hk.early (.inr (by kernel_rfl))))
          clear hk
          go_simp
          refine Calls.mono (hrec.out _ hx0.out) ?_
          rintro e W3 ⟨_, rfl, hx, hh⟩
          exact hK _ _ hx (fun h => absurd h (by decide)) (fun d hd => by cases hd; (rcases hh with ⟨_, rfl⟩ | ⟨u9, c8, e9, _⟩; rfl; rw [hgk.out] at e9; cases e9))
        · intro act W2 hk
          refine FlowG.does_intro rfl (fun Kq hK => ?_)
          have e42 : act.tmps[42]?.getD undef = .tuple #[.agg #[.string ⟨#[]⟩, .string ⟨#[]⟩, .int .i64 0, .int .u64 0, .string ⟨#[]⟩, .slice none 0 0], .bool false] := hk.v 42 (by kernel_rfl)
          clear hk
          go_simp
          exact hK _ _ (Ext.refl _) (fun h => absurd h (by decide)) (fun d hd => by cases hd; rfl)
        · intro act W2 hk
          refine FlowG.does_intro rfl (fun Kq hK => ?_)
          have e37 : act.tmps[37]?.getD undef = .tuple #[.agg #[.string ⟨#[]⟩, .string ⟨#[]⟩, .int .i64 0, .int .u64 0, .string ⟨#[]⟩, .slice none 0 0], .bool false] := hk.v 37 (by kernel_rfl)
          clear hk
          go_simp
          exact hK _ _ (Ext.refl _) (fun h => absurd h (by decide)) (fun d hd => by cases hd; rfl)
        · intro act W2 hk
          refine FlowG.does_intro rfl (fun Kq hK => ?_)
          have e37 : act.tmps[37]?.getD undef = .tuple #[.agg #[.string ⟨#[]⟩, .string ⟨#[]⟩, .int .i64 0, .int .u64 0, .string ⟨#[]⟩, .slice none 0 0], .bool false] := hk.v 37 (by kernel_rfl)
          clear hk
          go_simp
          exact hK _ _ (Ext.refl _) (fun h => absurd h (by decide)) (fun d hd => by cases hd; rfl)
        · intro act W2 hk
          refine FlowG.does_intro rfl (fun Kq hK => ?_)
          have hx0 := Hd.mk ((Ext.drew V).trans (hk.early (.inr (by kernel_rfl))))
          clear hk
          go_simp
          exact hK _ _ (Ext.alloc _ _) (fun h => absurd h (by decide)) (fun d hd => by cases hd; exact ⟨_, rfl, hx0.out.size, _, Blk.new _ _ _, rfl⟩)
        · intro act W2 hk
          refine FlowG.does_intro rfl (fun Kq hK => ?_)
          obtain ⟨D, e9, hDn, cD, hD, hc6⟩ := (hk.v 9 (by kernel_rfl) : (spBoxE _).p _ _)
          have e43 : act.tmps[43]?.getD undef = .agg #[.string ⟨#[]⟩, .string ⟨#[]⟩, .int .i64 0, .int .u64 0, .string ⟨#[]⟩, .slice none 0 0] := hk.v 43 (by kernel_rfl)
          obtain ⟨x0, x1, x2, x3, x4, x5, rfl⟩ : ∃ x0 x1 x2 x3 x4 x5, cD = [x0, x1, x2, x3, x4, x5] := by match cD, hc6 with | [a, b, c, d, e, f], _ => exact ⟨a, b, c, d, e, f, rfl⟩
          have kD := Hd.mk hD
          have eA := Hd.mk e9
          have gD := kD.out.cell
          have fD := kD.out.free
          clear hD
          clear hk
          go_simp
          have hu := ((((((Upd.setCell W2 ⟨D, 0, none⟩ (.string ⟨#[]⟩)).trans (Upd.setCell _ ⟨D, 1, none⟩ (.string ⟨#[]⟩))).trans (Upd.setCell _ ⟨D, 2, none⟩ (.int .i64 0))).trans (Upd.setCell _ ⟨D, 3, none⟩ (.int .u64 0))).trans (Upd.setCell _ ⟨D, 4, none⟩ (.string ⟨#[]⟩))).trans (Upd.setCell _ ⟨D, 5, none⟩ (.slice none 0 0)))
          have kDn := ((((((kD.out.setCell 0 (.string ⟨#[]⟩)).setCell 1 (.string ⟨#[]⟩)).setCell 2 (.int .i64 0)).setCell 3 (.int .u64 0)).setCell 4 (.string ⟨#[]⟩)).setCell 5 (.slice none 0 0))
          refine hK undef _ (rb_upd hDn hu ⟨_, kDn, rfl⟩) (fun _ D2 hD2 => ?_) (fun d hd => by cases hd)
          have e9b := eA.out
          rw [Array.getD_eq_getD_getElem?] at hD2
          rw [e9b] at hD2
          cases hD2
          exact kDn
      · intro act V2 he
        have hxV2 := Hd.mk (rb_below (rb_trans (rb_ext (Ext.drew V)) he.ext))
        obtain ⟨a1, hG1, hG2⟩ := he.post
        have hG9 := hG2 9 (by kernel_rfl)
        obtain ⟨us, hA, hF⟩ := he.out [38, 39, 40, 41, 42, 37, 43, 44, 9] (by kernel_rfl)
        simp only [Flow.fillL, List.contains_cons, List.contains_nil, Nat.reduceBEq, Bool.or_false, Bool.false_or, Bool.or_true, Bool.true_or, ↓reduceIte, Nat.reduceAdd, Bool.false_eq_true] at hA
        subst hA
        have f43 : us 43 = .agg #[.string ⟨#[]⟩, .string ⟨#[]⟩, .int .i64 0, .int .u64 0, .string ⟨#[]⟩, .slice none 0 0] := hF 43 (by simp)
        have f44 : us 44 = .bool false := hF 44 (by simp)
        have f9 : (spBoxE V.heap.size).p (us 9) V2 := hF 9 (by simp)
        clear hF he
        rw [f43]
        clear f43
        rw [f44]
        clear f44
        have hG9b : a1.tmps.getD 9 undef = us 9 := hG9
        obtain ⟨D, e9, hDn, _⟩ := (f9 : (spBoxE _).p _ _)
        rw [e9] at hG9b
        have kD0 := hG1 D hG9b
        rw [e9]
        clear e9 hG1 hG2 hG9 hG9b
        have hDn := Hd.mk hDn
        have hVs := Hd.mk kR.out.lt
        have kD := Hd.mk kD0
        clear kD0
        replace kx := Hd.mk (kx.out.trans hxV2.out)
        replace kR := Hd.mk (kR.out.ext hxV2.out)
        replace kA := Hd.mk (kA.out.ext hxV2.out)
        replace kX := Hd.mk (kX.out.ext hxV2.out)
        clear hxV2
        generalize V2 = W5 at *
        refine (show wpList _ _ _ (⟨some 10, .assign (.tmp 44), _, _, _, none⟩ :: _) _ _ from ?_)
        obtain rfl : r = (zeroT, 30) := by rw [← hr0.out, hgk.out]
        clear kA kX
        have gR := kR.out.cell
        have fR := kR.out.free
        go_wp2_with fail
        have hu := Hd.mk ((((((Upd.setCell W5 ⟨p + 1 + 1, 0, none⟩ (.string ⟨#[]⟩)).trans (Upd.setCell _ ⟨p + 1 + 1, 1, none⟩ (.string ⟨#[]⟩))).trans (Upd.setCell _ ⟨p + 1 + 1, 2, none⟩ (.int .i64 0))).trans (Upd.setCell _ ⟨p + 1 + 1, 3, none⟩ (.int .u64 0))).trans (Upd.setCell _ ⟨p + 1 + 1, 4, none⟩ (.string ⟨#[]⟩))).trans (Upd.setCell _ ⟨p + 1 + 1, 5, none⟩ (.slice none 0 0)))
        exact ret_box2 rfl (p + 1 + 1) _ 54 _ ((((((kR.out.setCell 0 (.string ⟨#[]⟩)).setCell 1 (.string ⟨#[]⟩)).setCell 2 (.int .i64 0)).setCell 3 (.int .u64 0)).setCell 4 (.string ⟨#[]⟩)).setCell 5 (.slice none 0 0)) rfl rfl Try.underlying54 rfl size54
          ⟨_, rfl, _, rfl, rt_zero _ _, Below.trans kx.out (hu.out.below (by rw [hp.out]; show p ≤ p + 1 + 1; omega))⟩
    | some u =>
      have hgk := Hd.mk hgk
      have gA := kA.out.cell
      go_wp2_with fail
      clear gA
      refine FlowG.wp_region_flow_l (G := fun a w => ∀ D, a.tmps.getD 9 undef = .pointer (some ⟨D, 0, none⟩) → ∃ Ku ku, Blk w D [.string u.name, .string u.key, .int .i64 u.kind, .int .u64 u.num, .string u.text, .slice Ku u.kids.length ku] 54) ?_ (R := Rb V.heap.size) 9 (fun _ _ h => rb_ext h) (fun h k => rb_trans h k) (fun qq => match qq with
        | 38 => SP.eq (.agg #[.string t.name, .string t.key, .int .i64 t.kind, .int .u64 t.num, .string t.text, .slice K t.kids.length kc])
        | 39 => SP.eq (.slice (some ⟨b2, o2, none⟩) (L + 1) ac)
        | 40 => SP.eq (.int .i64 (L : Nat))
        | 41 => SP.eq (.slice (some ⟨b2, o2, none⟩) L ac)
        | 42 => spS2 (fun b => S b ∧ b < p) u (.bool true)
        | 37 => spS2 (fun b => S b ∧ b < p) u (.bool true)
        | 43 => spTS (fun b => S b ∧ b < p) u
        | 44 => SP.eq (.bool true)
        | 9 => spBoxE V.heap.size
        | _ => SP.any) 10 (by kernel_rfl) 58 rfl (by kernel_rfl) (of_decide_eq_true (by kernel_rfl)) (by decide) (by kernel_rfl) ?_ ?_ ?_
      · exact fun a v1 v2 hx h D hD => (h D hD).imp fun _ h => h.imp fun _ h => h.ext hx
      · intro q hq u' v1 v2 hR
        split
        all_goals first | exact fun h => h | exact fun ⟨c, e, hr⟩ => ⟨c, e, RT.keep (fun b off v hb hc => ⟨hb, by rw [← hc]; exact World.cell?_of_block (hR.2.1 b (Nat.lt_trans hb.2 hpV.out) (World.block_lt_of_cell? v1 _ hc))⟩) hr⟩ | exact fun ⟨D, e, h1, c, hb, hc⟩ => ⟨D, e, h1, hR.2.2 D c hb hc⟩
      · skip
        refine ⟨?_, ?_, ?_, ?_, ?_, ?_, ?_, ?_, ?_, ?_, trivial⟩
        · intro act W2 hk
          refine FlowG.does_intro rfl (fun Kq hK => ?_)
          have e3 : act.tmps[3]?.getD undef = .pointer (some ⟨p, 0, none⟩) := hk.o 3 (by kernel_rfl)
          have g := ((kA.out).ext ((Ext.drew V).trans (hk.early (.inr (by kernel_rfl))))).cell
          clear hk
          go_simp
          exact hK _ _ (Ext.refl _) (fun h => absurd h (by decide)) (fun d hd => by cases hd; rfl)
        · intro act W2 hk
          refine FlowG.does_intro rfl (fun Kq hK => ?_)
          have e1 : act.tmps[1]?.getD undef = .slice (some ⟨b2, o2, none⟩) (L + 1) ac := hk.o 1 (by kernel_rfl)
          clear hk
          go_simp
          exact hK _ _ (Ext.refl _) (fun h => absurd h (by decide)) (fun d hd => by cases hd; rfl)
        · intro act W2 hk
          refine FlowG.does_intro rfl (fun Kq hK => ?_)
          have e8 : act.tmps[8]?.getD undef = .int .i64 (L : Nat) := hk.o 8 (by kernel_rfl)
          clear hk
          go_simp
          exact hK _ _ (Ext.refl _) (fun h => absurd h (by decide)) (fun d hd => by cases hd; rfl)
        · intro act W2 hk
          refine FlowG.does_intro rfl (fun Kq hK => ?_)
          have e39 : act.tmps[39]?.getD undef = .slice (some ⟨b2, o2, none⟩) (L + 1) ac := hk.v 39 (by kernel_rfl)
          have e40 : act.tmps[40]?.getD undef = .int .i64 (L : Nat) := hk.v 40 (by kernel_rfl)
          clear hk
          go_simp
          exact hK _ _ (Ext.refl _) (fun h => absurd h (by decide)) (fun d hd => by cases hd; simp [SP.eq])
        · intro act W2 hk
          refine FlowG.does_intro rfl (fun Kq hK => ?_)
          have e38 : act.tmps[38]?.getD undef = .agg #[.string t.name, .string t.key, .int .i64 t.kind, .int .u64 t.num, .string t.text, .slice K t.kids.length kc] := hk.v 38 (by kernel_rfl)
          have e41 : act.tmps[41]?.getD undef = .slice (some ⟨b2, o2, none⟩) L ac := hk.v 41 (by kernel_rfl)
          have hx0 := Hd.mk ((Ext.drew V).trans (hk.early (.inr (by kernel_rfl))))
          clear hk
          go_simp
          refine Calls.mono (hrec.out _ hx0.out) ?_
          rintro e W3 ⟨_, rfl, hx, hh⟩
          exact hK _ _ hx (fun h => absurd h (by decide)) (fun d hd => by cases hd; (rcases hh with ⟨e9, _⟩ | ⟨u9, c8, e9, rfl, hr9⟩; rw [hgk.out] at e9; cases e9; rw [hgk.out] at e9; cases e9; exact ⟨c8, rfl, hr9⟩))
        · intro act W2 hk
          refine FlowG.does_intro rfl (fun Kq hK => ?_)
          have e42 : (spS2 (fun b => S b ∧ b < p) u (.bool true)).p (act.tmps[42]?.getD undef) W2 := hk.v 42 (by kernel_rfl)
          have e42 : (spS2 (fun b => S b ∧ b < p) u (.bool true)).p (act.tmps[42]?.getD undef) W2 := hk.v 42 (by kernel_rfl)
          clear hk
          go_simp
          exact hK _ _ (Ext.refl _) (fun h => absurd h (by decide)) (fun d hd => by cases hd; exact e42)
        · intro act W2 hk
          refine FlowG.does_intro rfl (fun Kq hK => ?_)
          obtain ⟨c8, e37, hr8⟩ := (hk.v 37 (by kernel_rfl) : (spS2 _ _ _).p _ _)
          clear hk
          go_simp
          exact hK _ _ (Ext.refl _) (fun h => absurd h (by decide)) (fun d hd => by cases hd; exact ⟨c8, rfl, hr8⟩)
        · intro act W2 hk
          refine FlowG.does_intro rfl (fun Kq hK => ?_)
          obtain ⟨c8, e37, hr8⟩ := (hk.v 37 (by kernel_rfl) : (spS2 _ _ _).p _ _)
          clear hk
          go_simp
          exact hK _ _ (Ext.refl _) (fun h => absurd h (by decide)) (fun d hd => by cases hd; rfl)
        · intro act W2 hk
          refine FlowG.does_intro rfl (fun Kq hK => ?_)
          have hx0 := Hd.mk ((Ext.drew V).trans (hk.early (.inr (by kernel_rfl))))
          clear hk
          go_simp
          exact hK _ _ (Ext.alloc _ _) (fun h => absurd h (by decide)) (fun d hd => by cases hd; exact ⟨_, rfl, hx0.out.size, _, Blk.new _ _ _, rfl⟩)
        · intro act W2 hk
          refine FlowG.does_intro rfl (fun Kq hK => ?_)
          obtain ⟨D, e9, hDn, cD, hD, hc6⟩ := (hk.v 9 (by kernel_rfl) : (spBoxE _).p _ _)
          obtain ⟨c8, e43, hr8⟩ := (hk.v 43 (by kernel_rfl) : (spTS _ _).p _ _)
          obtain ⟨Ku, ku, rfl, _⟩ := hr8.row
          simp only [cT] at e43
          obtain ⟨x0, x1, x2, x3, x4, x5, rfl⟩ : ∃ x0 x1 x2 x3 x4 x5, cD = [x0, x1, x2, x3, x4, x5] := by match cD, hc6 with | [a, b, c, d, e, f], _ => exact ⟨a, b, c, d, e, f, rfl⟩
          have kD := Hd.mk hD
          have eA := Hd.mk e9
          have gD := kD.out.cell
          have fD := kD.out.free
          clear hD
          clear hk
          go_simp
          have hu := ((((((Upd.setCell W2 ⟨D, 0, none⟩ (.string u.name)).trans (Upd.setCell _ ⟨D, 1, none⟩ (.string u.key))).trans (Upd.setCell _ ⟨D, 2, none⟩ (.int .i64 u.kind))).trans (Upd.setCell _ ⟨D, 3, none⟩ (.int .u64 u.num))).trans (Upd.setCell _ ⟨D, 4, none⟩ (.string u.text))).trans (Upd.setCell _ ⟨D, 5, none⟩ (.slice Ku u.kids.length ku)))
          have kDn := ((((((kD.out.setCell 0 (.string u.name)).setCell 1 (.string u.key)).setCell 2 (.int .i64 u.kind)).setCell 3 (.int .u64 u.num)).setCell 4 (.string u.text)).setCell 5 (.slice Ku u.kids.length ku))
          refine hK undef _ (rb_upd hDn hu ⟨_, kDn, rfl⟩) (fun _ D2 hD2 => ?_) (fun d hd => by cases hd)
          have e9b := eA.out
          rw [Array.getD_eq_getD_getElem?] at hD2
          rw [e9b] at hD2
          cases hD2
          exact ⟨Ku, ku, kDn⟩
      · intro act V2 he
        have hxV2 := Hd.mk (rb_below (rb_trans (rb_ext (Ext.drew V)) he.ext))
        obtain ⟨a1, hG1, hG2⟩ := he.post
        have hG9 := hG2 9 (by kernel_rfl)
        obtain ⟨us, hA, hF⟩ := he.out [38, 39, 40, 41, 42, 37, 43, 44, 9] (by kernel_rfl)
        simp only [Flow.fillL, List.contains_cons, List.contains_nil, Nat.reduceBEq, Bool.or_false, Bool.false_or, Bool.or_true, Bool.true_or, ↓reduceIte, Nat.reduceAdd, Bool.false_eq_true] at hA
        subst hA
        have f43 : (spTS (fun b => S b ∧ b < p) u).p (us 43) V2 := hF 43 (by simp)
        have f44 : us 44 = .bool true := hF 44 (by simp)
        have f9 : (spBoxE V.heap.size).p (us 9) V2 := hF 9 (by simp)
        clear hF he
        rw [f44]
        clear f44
        have hG9b : a1.tmps.getD 9 undef = us 9 := hG9
        obtain ⟨D, e9, hDn, _⟩ := (f9 : (spBoxE _).p _ _)
        rw [e9] at hG9b
        have kD0 := hG1 D hG9b
        rw [e9]
        clear e9 hG1 hG2 hG9 hG9b
        have hDn := Hd.mk hDn
        have hVs := Hd.mk kR.out.lt
        obtain ⟨Ku, ku, kD1⟩ := kD0
        have kD := Hd.mk kD1
        clear kD1
        replace kx := Hd.mk (kx.out.trans hxV2.out)
        replace kR := Hd.mk (kR.out.ext hxV2.out)
        replace kA := Hd.mk (kA.out.ext hxV2.out)
        replace kX := Hd.mk (kX.out.ext hxV2.out)
        clear hxV2
        generalize V2 = W5 at *
        refine (show wpList _ _ _ (⟨some 10, .assign (.tmp 44), _, _, _, none⟩ :: _) _ _ from ?_)
        have gD := kD.out.cell
        by_cases hk : u.kind = 0
        · have hkb : (u.kind != 0) = false := by simp [hk]
          obtain rfl : r = (setT t (init ++ [stepT x]) x, 0) := by rw [← hr0.out, hgk.out]; simp [hk]
          have hst := hset.out W5 _ _ (by rw [hgk.out]; rfl) (kr.out.ext kx.out) (krx.out.ext kx.out) (kw.out.ext kx.out)
          rw [hlenH.out] at hst
          generalize setT t (init ++ [stepT x]) x = ro at *
          replace hst := Hd.mk hst
          clear hset
          have gA := kA.out.cell
          have gX := kX.out.cell
          go_wp2_with fail
          clear gA gX gD
          refine Calls.mono hst.out ?_
          rintro e w9 ⟨_, rfl, c9, rfl, hr9, hx9⟩
          obtain ⟨Km, km, rfl, _⟩ := hr9.row
          have hr9 := Hd.mk hr9
          have hW5 := Hd.mk (kR.out.lt)
          simp only [cT] at hr9 ⊢
          replace kx := Hd.mk (kx.out.trans hx9)
          replace kR := Hd.mk (kR.out.ext hx9)
          clear hx9 hst
          have gR := kR.out.cell
          have fR := kR.out.free
          go_wp2_with fail
          have hu := Hd.mk ((((((Upd.setCell w9 ⟨p + 1 + 1, 0, none⟩ (.string ro.name)).trans (Upd.setCell _ ⟨p + 1 + 1, 1, none⟩ (.string ro.key))).trans (Upd.setCell _ ⟨p + 1 + 1, 2, none⟩ (.int .i64 ro.kind))).trans (Upd.setCell _ ⟨p + 1 + 1, 3, none⟩ (.int .u64 ro.num))).trans (Upd.setCell _ ⟨p + 1 + 1, 4, none⟩ (.string ro.text))).trans (Upd.setCell _ ⟨p + 1 + 1, 5, none⟩ (.slice Km ro.kids.length km)))
          exact ret_box2 rfl (p + 1 + 1) _ 54 _ ((((((kR.out.setCell 0 (.string ro.name)).setCell 1 (.string ro.key)).setCell 2 (.int .i64 ro.kind)).setCell 3 (.int .u64 ro.num)).setCell 4 (.string ro.text)).setCell 5 (.slice Km ro.kids.length km)) rfl rfl Try.underlying54 rfl size54
            ⟨_, rfl, _, rfl, RT.keep (S' := fun b => S b ∨ w.heap.size ≤ b) (fun b off v hb hc => ⟨by have := hp.out; have := hW5.out; rcases hb with ⟨h1, _⟩ | h; exact .inl h1; exact .inr (by omega), by rw [← hc]; exact World.cell?_of_block (hu.out.block b (by have := hW5.out; show b ≠ p + 1 + 1; rcases hb with ⟨_, h⟩ | h <;> omega))⟩) hr9.out, Below.trans kx.out (hu.out.below (by rw [hp.out]; show p ≤ p + 1 + 1; omega))⟩
        · have hkb : (u.kind != 0) = true := by simp [hk]
          obtain rfl : r = (zeroT, 30) := by rw [← hr0.out, hgk.out]; simp [hk]
          clear kA kX
          have gR := kR.out.cell
          have fR := kR.out.free
          go_wp2_with fail
          have hu := Hd.mk ((((((Upd.setCell W5 ⟨p + 1 + 1, 0, none⟩ (.string ⟨#[]⟩)).trans (Upd.setCell _ ⟨p + 1 + 1, 1, none⟩ (.string ⟨#[]⟩))).trans (Upd.setCell _ ⟨p + 1 + 1, 2, none⟩ (.int .i64 0))).trans (Upd.setCell _ ⟨p + 1 + 1, 3, none⟩ (.int .u64 0))).trans (Upd.setCell _ ⟨p + 1 + 1, 4, none⟩ (.string ⟨#[]⟩))).trans (Upd.setCell _ ⟨p + 1 + 1, 5, none⟩ (.slice none 0 0)))
          exact ret_box2 rfl (p + 1 + 1) _ 54 _ ((((((kR.out.setCell 0 (.string ⟨#[]⟩)).setCell 1 (.string ⟨#[]⟩)).setCell 2 (.int .i64 0)).setCell 3 (.int .u64 0)).setCell 4 (.string ⟨#[]⟩)).setCell 5 (.slice none 0 0)) rfl rfl Try.underlying54 rfl size54
            ⟨_, rfl, _, rfl, rt_zero _ _, Below.trans kx.out (hu.out.below (by rw [hp.out]; show p ≤ p + 1 + 1; omega))⟩
theorem refSet (t x : T) (way : List Step) (S S' : Nat → Prop) (w : World) (c cx : List Value) (A : Option Addr) (ac : Nat) (h : RT S w t c) (hx : RT S w x cx) (hw : WRow S' w A way ac) (hsz : t.size + x.size ≤ 1048576) :
    Calls Try.prog 71 #[.agg c.toArray, .slice A way.length ac, .agg cx.toArray] w (Ret (RChg S (setR t way x) w)) := by
  rcases List.eq_nil_or_concat way with rfl | ⟨init, s, rfl⟩
  · exact refSet_nil t x S w c cx A ac h hx
  · rw [List.concat_eq_append] at hw ⊢
    by_cases hs : s = stepT x
    · subst hs
      exact refSet_eq t x init S S' w c cx A ac h hx hw hsz
    · exact refSet_ne t x init s S S' w c cx A ac h hx hw hs
end Go.Proofs.Ytgkgedjmnbjalaa
set_option linter.unusedSimpArgs false
namespace Go.Proofs.Ytgkgedjmnbjalaa
open Go.RowKit Go.Sort
set_option maxRecDepth 100000 in
set_option maxHeartbeats 2000000 in
theorem refCut (t : T) (way : List Step) (S S' : Nat → Prop) (w : World) (c : List Value) (A : Option Addr) (ac : Nat) (h : RT S w t c) (hw : WRow S' w A way ac) (hsz : t.size ≤ 1048576) :
    Calls Try.prog 73 #[.agg c.toArray, .slice A way.length ac] w (Ret (RChg S (cutR t way) w)) := by
  generalize hr0 : cutR t way = r
  replace hr0 := Hd.mk hr0
  have hcut := Hd.mk (fun W c1 (hne : way ≠ []) (hgi : (getT t way).isSome = true) (g1 : RT (fun b => S b ∧ b < w.heap.size) W t c1) (g3 : WRow S' W A way ac) => ref_cut way t (fun b => S b ∧ b < w.heap.size) S' W c1 A ac hne hgi g1 g3 hsz)
  replace h := h.mono (S' := fun b => S b ∧ b < w.heap.size) (fun b hb hs => ⟨hs, hb⟩)
  obtain ⟨K, kc, rfl, hrow⟩ := h.row
  have kr := Hd.mk h
  have kw := Hd.mk hw
  have hwl := hw.len
  clear h hw hrow hsz
  simp only [cT] at kr ⊢
  go_enter Try.func73, Try.ntmps73
  go_wp2_with ((with_reducible refine stop_at (.load 54 (.tmp 2)) ?_))
  refine Stop.mk ?_
  have kx := Hd.mk ((Ext.alloc w (.cells #[.string t.name, .string t.key, .int .i64 t.kind, .int .u64 t.num, .string t.text, .slice K t.kids.length kc] 54)).trans (Ext.alloc _ (.cells #[.string ⟨#[]⟩, .string ⟨#[]⟩, .int .i64 0, .int .u64 0, .string ⟨#[]⟩, .slice none 0 0] 54)))
  have kA := Hd.mk ((Blk.new w #[.string t.name, .string t.key, .int .i64 t.kind, .int .u64 t.num, .string t.text, .slice K t.kids.length kc] 54).alloc (.cells #[.string ⟨#[]⟩, .string ⟨#[]⟩, .int .i64 0, .int .u64 0, .string ⟨#[]⟩, .slice none 0 0] 54))
  have kR := Hd.mk (Blk.new2 w (.cells #[.string t.name, .string t.key, .int .i64 t.kind, .int .u64 t.num, .string t.text, .slice K t.kids.length kc] 54) #[.string ⟨#[]⟩, .string ⟨#[]⟩, .int .i64 0, .int .u64 0, .string ⟨#[]⟩, .slice none 0 0] 54)
  generalize (w.alloc _).alloc _ = W at *
  generalize hp : w.heap.size = p at *
  replace hp := Hd.mk hp
  have gA := kA.out.cell
  go_wp2_with fail
  refine Calls.mono (ref_get way t _ S' W _ _ ac (kr.out.ext kx.out) (kw.out.ext kx.out)) ?_
  rintro e w5 ⟨_, rfl, hx, hh⟩
  replace kx := Hd.mk (kx.out.trans hx)
  replace kA := Hd.mk (kA.out.ext hx)
  replace kR := Hd.mk (kR.out.ext hx)
  clear hx gA
  rcases hh with ⟨hg, rfl⟩ | ⟨u, c9, hg, rfl, hr9⟩
  · obtain rfl : r = (zeroT, 30) := by
      rw [← hr0.out]; unfold cutR
      split
      · rfl
      · rw [hg]
    clear hg
    go_wp2_with ((with_reducible refine stop_at (.unOp .not 4 (.tmp 14)) ?_))
    refine Stop.mk ?_
    have kxN := Hd.mk (kx.out.trans (Ext.alloc w5 (.cells #[.string ⟨#[]⟩, .string ⟨#[]⟩, .int .i64 0, .int .u64 0, .string ⟨#[]⟩, .slice none 0 0] 54)))
    have kRN := Hd.mk (kR.out.ext (Ext.alloc w5 (.cells #[.string ⟨#[]⟩, .string ⟨#[]⟩, .int .i64 0, .int .u64 0, .string ⟨#[]⟩, .slice none 0 0] 54)))
    have kAN := Hd.mk (kA.out.ext (Ext.alloc w5 (.cells #[.string ⟨#[]⟩, .string ⟨#[]⟩, .int .i64 0, .int .u64 0, .string ⟨#[]⟩, .slice none 0 0] 54)))
    clear kx kR kA
    replace kx := kxN
    replace kR := kRN
    generalize w5.alloc _ = w6 at *
    clear kAN
    have gR := kR.out.cell
    have fR := kR.out.free
    go_wp2_with fail
    have hu := Hd.mk ((((((Upd.setCell w6 ⟨p + 1, 0, none⟩ (.string ⟨#[]⟩)).trans (Upd.setCell _ ⟨p + 1, 1, none⟩ (.string ⟨#[]⟩))).trans (Upd.setCell _ ⟨p + 1, 2, none⟩ (.int .i64 0))).trans (Upd.setCell _ ⟨p + 1, 3, none⟩ (.int .u64 0))).trans (Upd.setCell _ ⟨p + 1, 4, none⟩ (.string ⟨#[]⟩))).trans (Upd.setCell _ ⟨p + 1, 5, none⟩ (.slice none 0 0)))
    exact ret_box2 rfl (p + 1) _ 54 _ ((((((kR.out.setCell 0 (.string ⟨#[]⟩)).setCell 1 (.string ⟨#[]⟩)).setCell 2 (.int .i64 0)).setCell 3 (.int .u64 0)).setCell 4 (.string ⟨#[]⟩)).setCell 5 (.slice none 0 0)) rfl rfl Try.underlying54 rfl size54
      ⟨_, rfl, _, rfl, rt_zero _ _, Below.trans kx.out (hu.out.below (by rw [hp.out]; show p ≤ p + 1; omega))⟩
  · obtain ⟨Ku, ku, rfl, _⟩ := hr9.row
    simp only [cT] at hr9 ⊢
    by_cases hne : way = []
    · subst hne
      obtain rfl : r = (zeroT, 30) := hr0.out.symm
      clear hg hr9 hcut
      simp only [List.length_nil]
      go_wp2_with ((with_reducible refine stop_at (.unOp .not 4 (.tmp 14)) ?_))
      refine Stop.mk ?_
      have kxN := Hd.mk (kx.out.trans (Ext.alloc w5 (.cells #[.string u.name, .string u.key, .int .i64 u.kind, .int .u64 u.num, .string u.text, .slice Ku u.kids.length ku] 54)))
      have kRN := Hd.mk (kR.out.ext (Ext.alloc w5 (.cells #[.string u.name, .string u.key, .int .i64 u.kind, .int .u64 u.num, .string u.text, .slice Ku u.kids.length ku] 54)))
      have kAN := Hd.mk (kA.out.ext (Ext.alloc w5 (.cells #[.string u.name, .string u.key, .int .i64 u.kind, .int .u64 u.num, .string u.text, .slice Ku u.kids.length ku] 54)))
      clear kx kR kA
      replace kx := kxN
      replace kR := kRN
      generalize w5.alloc _ = w6 at *
      clear kAN
      have gR := kR.out.cell
      have fR := kR.out.free
      go_wp2_with fail
      have hu := Hd.mk ((((((Upd.setCell w6 ⟨p + 1, 0, none⟩ (.string ⟨#[]⟩)).trans (Upd.setCell _ ⟨p + 1, 1, none⟩ (.string ⟨#[]⟩))).trans (Upd.setCell _ ⟨p + 1, 2, none⟩ (.int .i64 0))).trans (Upd.setCell _ ⟨p + 1, 3, none⟩ (.int .u64 0))).trans (Upd.setCell _ ⟨p + 1, 4, none⟩ (.string ⟨#[]⟩))).trans (Upd.setCell _ ⟨p + 1, 5, none⟩ (.slice none 0 0)))
      exact ret_box2 rfl (p + 1) _ 54 _ ((((((kR.out.setCell 0 (.string ⟨#[]⟩)).setCell 1 (.string ⟨#[]⟩)).setCell 2 (.int .i64 0)).setCell 3 (.int .u64 0)).setCell 4 (.string ⟨#[]⟩)).setCell 5 (.slice none 0 0)) rfl rfl Try.underlying54 rfl size54
        ⟨_, rfl, _, rfl, rt_zero _ _, Below.trans kx.out (hu.out.below (by rw [hp.out]; show p ≤ p + 1; omega))⟩
    · obtain rfl : r = (cutT t way, 0) := by
        rw [← hr0.out]; unfold cutR
        rw [if_neg hne, hg]
      have hlen : ((way.length : Int) == 0) = false := by rw [beq_eq_false_iff_ne]; have := List.length_pos_iff.2 hne; omega
      have hgi : (getT t way).isSome = true := by rw [hg]; rfl
      have hgi := Hd.mk hgi
      have hneH := Hd.mk hne
      clear hg hr9 hne
      go_wp2_with ((with_reducible refine stop_at (.unOp .not 4 (.tmp 14)) ?_))
      refine Stop.mk ?_
      have kxN := Hd.mk (kx.out.trans (Ext.alloc w5 (.cells #[.string u.name, .string u.key, .int .i64 u.kind, .int .u64 u.num, .string u.text, .slice Ku u.kids.length ku] 54)))
      have kRN := Hd.mk (kR.out.ext (Ext.alloc w5 (.cells #[.string u.name, .string u.key, .int .i64 u.kind, .int .u64 u.num, .string u.text, .slice Ku u.kids.length ku] 54)))
      have kAN := Hd.mk (kA.out.ext (Ext.alloc w5 (.cells #[.string u.name, .string u.key, .int .i64 u.kind, .int .u64 u.num, .string u.text, .slice Ku u.kids.length ku] 54)))
      clear kx kR kA
      replace kx := kxN
      replace kR := kRN
      have kA := kAN
      generalize w5.alloc _ = w6 at *
      clear kAN kxN kRN
      have hst := hcut.out w6 _ hneH.out hgi.out (kr.out.ext kx.out) (kw.out.ext kx.out)
      generalize cutT t way = ro at *
      replace hst := Hd.mk hst
      clear hcut
      have gA := kA.out.cell
      go_wp2_with fail
      clear gA
      refine Calls.mono hst.out ?_
      rintro e w9 ⟨_, rfl, c9, rfl, hr9, hx9⟩
      obtain ⟨Km, km, rfl, _⟩ := hr9.row
      have hr9 := Hd.mk hr9
      have hW5 := Hd.mk (kR.out.lt)
      simp only [cT] at hr9 ⊢
      replace kx := Hd.mk (kx.out.trans hx9)
      replace kR := Hd.mk (kR.out.ext hx9)
      clear hx9 hst
      have gR := kR.out.cell
      have fR := kR.out.free
      go_wp2_with fail
      have hu := Hd.mk ((((((Upd.setCell w9 ⟨p + 1, 0, none⟩ (.string ro.name)).trans (Upd.setCell _ ⟨p + 1, 1, none⟩ (.string ro.key))).trans (Upd.setCell _ ⟨p + 1, 2, none⟩ (.int .i64 ro.kind))).trans (Upd.setCell _ ⟨p + 1, 3, none⟩ (.int .u64 ro.num))).trans (Upd.setCell _ ⟨p + 1, 4, none⟩ (.string ro.text))).trans (Upd.setCell _ ⟨p + 1, 5, none⟩ (.slice Km ro.kids.length km)))
      exact ret_box2 rfl (p + 1) _ 54 _ ((((((kR.out.setCell 0 (.string ro.name)).setCell 1 (.string ro.key)).setCell 2 (.int .i64 ro.kind)).setCell 3 (.int .u64 ro.num)).setCell 4 (.string ro.text)).setCell 5 (.slice Km ro.kids.length km)) rfl rfl Try.underlying54 rfl size54
        ⟨_, rfl, _, rfl, RT.keep (S' := fun b => S b ∨ w.heap.size ≤ b) (fun b off v hb hc => ⟨by have := hp.out; have := hW5.out; rcases hb with ⟨h1, _⟩ | h; exact .inl h1; exact .inr (by omega), by rw [← hc]; exact World.cell?_of_block (hu.out.block b (by have := hW5.out; show b ≠ p + 1; rcases hb with ⟨_, h⟩ | h <;> omega))⟩) hr9.out, Below.trans kx.out (hu.out.below (by rw [hp.out]; show p ≤ p + 1; omega))⟩
end Go.Proofs.Ytgkgedjmnbjalaa
set_option linter.unusedSimpArgs false
namespace Go.Proofs.Ytgkgedjmnbjalaa
open Go.RowKit Go.Sort
theorem agg_inj {c d : List Value} (h : Value.agg c.toArray = .agg d.toArray) : c = d := by injection h with h; simpa using h
theorem xt_no {C : Array Nat} {F : Tmp → SP} {G : Act → World → Prop} {J : Value → Value → World → Prop} {s x tx : Nat} {Y : List (Nat × Tmp)} {i : Nat} {a : Act} {w : World} {v : Value} {w' : World} (h1 : i ≠ s) (h2 : i ≠ x) (h3 : (Y.all fun p => p.1 != i) = true) : FlowJ.Xt C F G J s x tx Y i a w v w' :=
  ⟨fun h => absurd h h1, fun h => absurd h h2, fun p hp h => by
    rw [List.all_eq_true] at h3
    have := h3 p hp
    rw [← h] at this
    simp at this⟩
theorem over_ne {k : Tmp} {q : SP} {l : List (Tmp × SP)} {F : Tmp → SP} {t : Tmp} (h : t ≠ k) : FlowJ.over ((k, q) :: l) F t = FlowJ.over l F t := by
  have hb : Nat.beq t k = false := by
    cases hb : Nat.beq t k
    · rfl
    · exact absurd (Nat.eq_of_beq_eq_true hb) h
  rw [FlowJ.over, hb]
  rfl
end Go.Proofs.Ytgkgedjmnbjalaa
set_option linter.unusedSimpArgs false
namespace Go.Proofs.Ytgkgedjmnbjalaa
open Go.RowKit Go.Sort
def NewPost (t : T) (xs : List Value) (w w' : World) (v : Value) : Prop := ∃ c : List Value, v = .tuple (Value.agg c.toArray :: xs).toArray ∧ RT (fun b => w.heap.size ≤ b) w' t c ∧ Ext w w'
def spTupX (t : T) (xs : List Value) : SP := ⟨fun v w => ∃ c : List Value, v = .tuple (Value.agg c.toArray :: xs).toArray ∧ RT (fun _ => True) w t c, fun _ _ _ hx ⟨c, e, h⟩ => ⟨c, e, h.ext hx⟩⟩
def spAggX (t : T) : SP := ⟨fun v w => ∃ c : List Value, v = .agg c.toArray ∧ RT (fun _ => True) w t c, fun _ _ _ hx ⟨c, e, h⟩ => ⟨c, e, h.ext hx⟩⟩
def spFormX (xs : List Value) : SP := ⟨fun v _ => ∃ c : List Value, v = .tuple (Value.agg c.toArray :: xs).toArray, fun _ _ _ _ h => h⟩
def JX (t : T) (xs : List Value) (u v : Value) (w : World) : Prop := ∀ D (c : List Value), u = .pointer (some ⟨D, 0, none⟩) → (v = .tuple (Value.agg c.toArray :: xs).toArray ∨ v = .agg c.toArray) → RT (fun b => b ≠ D) w t c
theorem jx_mono (t : T) (xs : List Value) : ∀ u u' w w', Ext w w' → JX t xs u u' w → JX t xs u u' w' := fun _ _ _ _ hx h D c h1 h2 => (h D c h1 h2).ext hx
theorem tupx_inj {c d : List Value} {xs : List Value} (h : Value.tuple (Value.agg c.toArray :: xs).toArray = .tuple (Value.agg d.toArray :: xs).toArray) : c = d := by
  injection h with h
  have h2 := List.toArray_inj h
  injection h2 with h3
  exact agg_inj h3
theorem jx_call {t : T} {xs : List Value} {B : Nat} {w w' : World} {c : List Value} (h : RT (fun b => w.heap.size ≤ b) w' t c) {u : Value} (hu : (spBoxE B).p u w) : JX t xs u (.tuple (Value.agg c.toArray :: xs).toArray) w' := by
  intro D d h1 h2
  obtain ⟨D', rfl, hD, cc, hb, _⟩ := hu
  have hlt := hb.lt
  obtain rfl : D' = D := by injection h1 with h1; injection h1 with h1; injection h1
  rcases h2 with h2 | h2
  · obtain rfl := tupx_inj h2
    exact h.mono fun b _ hb => by omega
  · cases h2
theorem jx_alloc {t : T} {xs : List Value} {w : World} {o : Obj} {v : Value} (h : (spTupX t xs).p v w ∨ (spAggX t).p v w) : JX t xs (.pointer (some ⟨w.heap.size, 0, none⟩)) v (w.alloc o) := by
  intro D d h1 h2
  obtain rfl : w.heap.size = D := by injection h1 with h1; injection h1 with h1; injection h1
  have hd : RT (fun _ => True) w t d := by
    rcases h with ⟨c, rfl, h⟩ | ⟨c, rfl, h⟩
    · rcases h2 with h2 | h2
      · rw [← tupx_inj h2]; exact h
      · cases h2
    · rcases h2 with h2 | h2
      · cases h2
      · rw [← agg_inj h2]; exact h
  exact (hd.mono fun b hb _ => Nat.ne_of_lt hb).ext (Ext.alloc _ _)
theorem jx_take {t : T} {xs : List Value} {w : World} {u : Value} {c : List Value} (h : JX t xs u (.tuple (Value.agg c.toArray :: xs).toArray) w) : JX t xs u (.agg c.toArray) w := by
  intro D d h1 h2
  rcases h2 with h2 | h2
  · cases h2
  · rw [← agg_inj h2]; exact h D c h1 (.inl rfl)
def GX (tx : Nat) (t : T) (a : Act) (w : World) : Prop := ∀ D, a.tmps.getD tx undef = .pointer (some ⟨D, 0, none⟩) → ∃ c : List Value, Blk w D c 54 ∧ RT (fun b => b ≠ D) w t c
theorem gx_ext (tx : Nat) (t : T) : ∀ a w w', Ext w w' → GX tx t a w → GX tx t a w' := fun a w w' hx h D hD => by
  obtain ⟨c, h1, h2⟩ := h D hD
  exact ⟨c, h1.ext hx, h2.ext hx⟩
end Go.Proofs.Ytgkgedjmnbjalaa
