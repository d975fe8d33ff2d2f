/- Less, compare: how two nodes stand.
   Conditions: none. -/
import Derived.Test.YtgkgedjmnbjalaaTA
import Derived.Laws.Cover1
import Derived.Sort.Walk0
set_option linter.unusedSimpArgs false
namespace Go.Proofs.Ytgkgedjmnbjalaa
open Go.RowKit Go.Sort

def ltB (a b : ByteArray) : Bool := Op.bytesLess a.toList b.toList
/-- The document's order of two nodes. -/
def lessT (a b : T) : Bool := ltB a.name b.name || decide (a.name = b.name) && ltB a.key b.key
def cmpB (a b : ByteArray) : Int := if ltB a b = true then -1 else if a = b then 0 else 1
def cmpT (a b : T) : Int := if cmpB a.name b.name ≠ 0 then cmpB a.name b.name else cmpB a.key b.key

set_option maxHeartbeats 2000000 in
theorem cmp_compare (a b : ByteArray) (w : World) : Calls Try.prog 148 #[.string a, .string b] w fun e w' => e = .returned (.int .i64 (cmpB a b)) ∧ w' = w := by
  have hs := str_eq a b
  by_cases hlt : ltB a b = true
  · have h1 : cmpB a b = -1 := if_pos hlt
    have h2 : Op.bytesLess a.toList b.toList = true := hlt
    rw [h1]
    clear hs hlt h1
    go_enter Try.func148, Try.ntmps148
    go_wp2
    go_ret
    exact ⟨rfl, rfl⟩
  · have h2 : Op.bytesLess a.toList b.toList = false := by simpa [ltB] using hlt
    by_cases hab : a = b
    · have h1 : cmpB a b = 0 := by rw [cmpB, if_neg hlt, if_pos hab]
      have h3 : (a.toList == b.toList) = true := by rw [hs]; simpa using hab
      rw [h1]
      clear hs hlt h1 hab
      go_enter Try.func148, Try.ntmps148
      go_wp2
      go_ret
      exact ⟨rfl, rfl⟩
    · have h1 : cmpB a b = 1 := by rw [cmpB, if_neg hlt, if_neg hab]
      have h3 : (a.toList == b.toList) = false := by rw [hs]; simpa using hab
      rw [h1]
      clear hs hlt h1 hab
      go_enter Try.func148, Try.ntmps148
      go_wp2
      go_ret
      exact ⟨rfl, rfl⟩

set_option maxHeartbeats 2000000 in
theorem cmp_or (x y : Int) (b c : Nat) (w : World) (h0 : w.cell? ⟨b, 0, none⟩ = some (.int .i64 x)) (h1 : w.cell? ⟨b, 1, none⟩ = some (.int .i64 y)) :
    Calls Try.prog 147 #[.slice (some ⟨b, 0, none⟩) 2 c] w fun e w' => e = .returned (.int .i64 (if x ≠ 0 then x else y)) ∧ w' = w := by
  generalize hr : (if x ≠ 0 then x else y) = r
  go_enter Try.func147, Try.ntmps147
  go_wp2
  go_loopg [5, 8] 3 (fun q i j wr => wr = w ∧ ∃ n : Nat, n ≤ 2 ∧ q = 3 - n ∧ j = .int .i64 n ∧ (1 ≤ n → x = 0) ∧ (2 ≤ n → y = 0))
  case atStart => exact ⟨rfl, 0, by omega, rfl, rfl, by omega, by omega⟩
  case round =>
  obtain ⟨rfl, n, hn, hq, rfl, hx, hy⟩ := hrel
  have hr := Hd.mk hr
  have hc : n = 0 ∨ n = 1 ∨ n = 2 := by omega
  rcases hc with rfl | rfl | rfl
  · by_cases h : x = 0
    · have h2 : (x != 0) = false := by simpa using h
      go_wp2
      go_roundg 2
      case measure => omega
      case rel => exact ⟨rfl, 1, by omega, rfl, rfl, fun _ => h, by omega⟩
    · have h2 : (x != 0) = true := by simpa using h
      go_wp2
      go_ret
      exact ⟨ret_int (by rw [← hr.out, if_pos h]), rfl⟩
  · have hx0 := hx (by omega)
    by_cases h : y = 0
    · have h2 : (y != 0) = false := by simpa using h
      go_wp2
      go_roundg 1
      case measure => omega
      case rel => exact ⟨rfl, 2, by omega, rfl, rfl, fun _ => hx0, fun _ => h⟩
    · have h2 : (y != 0) = true := by simpa using h
      go_wp2
      go_ret
      exact ⟨ret_int (by rw [← hr.out, if_neg (by simpa using hx0)]), rfl⟩
  · have hx0 := hx (by omega)
    have hy0 := hy (by omega)
    go_wp2
    go_ret
    exact ⟨ret_int (by rw [← hr.out, if_neg (by simpa using hx0), hy0]), rfl⟩

/-- A row of two numbers has been made. -/
def two (x y : Int) : SP := ⟨fun v w => ∃ D, v = .slice (some ⟨D, 0, none⟩) 2 2 ∧ Blk w D [.int .i64 x, .int .i64 y] 3, fun _ _ _ h ⟨D, e, hb⟩ => ⟨D, e, hb.ext h⟩⟩

set_option maxRecDepth 100000 in
set_option maxHeartbeats 4000000 in
theorem tree_compare (a b : T) (K1 K2 : Option Addr) (n1 c1 n2 c2 : Nat) (w : World) :
    Calls Try.prog 116 #[.agg (cT a.name a.key a.kind a.num a.text K1 n1 c1).toArray, .agg (cT b.name b.key b.kind b.num b.text K2 n2 c2).toArray] w fun e w' => e = .returned (.int .i64 (cmpT a b)) ∧ Ext w w' := by
  simp only [cT]
  go_enter Try.func116, Try.ntmps116
  go_wp2_with fail
  have kx := Hd.mk ((Ext.alloc w (.cells #[.string a.name, .string a.key, .int .i64 a.kind, .int .u64 a.num, .string a.text, .slice K1 n1 c1] 54)).trans (Ext.alloc _ (.cells #[.string b.name, .string b.key, .int .i64 b.kind, .int .u64 b.num, .string b.text, .slice K2 n2 c2] 54)))
  have ka := Hd.mk ((Blk.new w #[.string a.name, .string a.key, .int .i64 a.kind, .int .u64 a.num, .string a.text, .slice K1 n1 c1] 54).alloc (.cells #[.string b.name, .string b.key, .int .i64 b.kind, .int .u64 b.num, .string b.text, .slice K2 n2 c2] 54))
  have kb := Hd.mk (Blk.new2 w (.cells #[.string a.name, .string a.key, .int .i64 a.kind, .int .u64 a.num, .string a.text, .slice K1 n1 c1] 54) #[.string b.name, .string b.key, .int .i64 b.kind, .int .u64 b.num, .string b.text, .slice K2 n2 c2] 54)
  generalize w.heap.size = pA at *
  generalize ((w.alloc _).alloc _) = W at *
  refine Flow.wp_region_flow_l (fun t => match t with
    | 5 => SP.eq (.pointer (some ⟨pA, 0, none⟩))
    | 6 => SP.eq (.string a.name)
    | 7 => SP.eq (.pointer (some ⟨(pA + 1), 0, none⟩))
    | 8 => SP.eq (.string b.name)
    | 9 => SP.eq (.int .i64 (cmpB a.name b.name))
    | 10 => SP.eq (.pointer (some ⟨pA, 1, none⟩))
    | 11 => SP.eq (.string a.key)
    | 12 => SP.eq (.pointer (some ⟨(pA + 1), 1, none⟩))
    | 13 => SP.eq (.string b.key)
    | 14 => SP.eq (.int .i64 (cmpB a.key b.key))
    | 15 => two (cmpB a.name b.name) (cmpB a.key b.key)
    | 16 => SP.eq (.int .i64 (cmpT a b))
    | 4 => SP.eq (.int .i64 (cmpT a b))
    | _ => SP.any) 13 (by kernel_rfl) 17 rfl (by kernel_rfl) ?_ ?_
  · skip
    refine ⟨?_, ?_, ?_, ?_, ?_, ?_, ?_, ?_, ?_, ?_, ?_, ?_, ?_, trivial⟩
    · intro act W2 hk
      refine Flow.does_intro rfl (fun K hK => ?_)
      have e2 : act.tmps[2]?.getD undef = .pointer (some ⟨pA, 0, none⟩) := hk.o 2 (by kernel_rfl)
      clear hk
      go_simp
      exact hK _ _ (Ext.refl _) (fun d hd => by cases hd; rfl)
    · intro act W2 hk
      refine Flow.does_intro rfl (fun K hK => ?_)
      have e5 : act.tmps[5]?.getD undef = .pointer (some ⟨pA, 0, none⟩) := hk.v 5 (by kernel_rfl)
      have g := ((ka.out).ext ((Ext.drew W).trans hk.ext)).cell
      clear hk
      go_simp
      exact hK _ _ (Ext.refl _) (fun d hd => by cases hd; rfl)
    · intro act W2 hk
      refine Flow.does_intro rfl (fun K hK => ?_)
      have e3 : act.tmps[3]?.getD undef = .pointer (some ⟨(pA + 1), 0, none⟩) := hk.o 3 (by kernel_rfl)
      clear hk
      go_simp
      exact hK _ _ (Ext.refl _) (fun d hd => by cases hd; rfl)
    · intro act W2 hk
      refine Flow.does_intro rfl (fun K hK => ?_)
      have e7 : act.tmps[7]?.getD undef = .pointer (some ⟨(pA + 1), 0, none⟩) := hk.v 7 (by kernel_rfl)
      have g := ((kb.out).ext ((Ext.drew W).trans hk.ext)).cell
      clear hk
      go_simp
      exact hK _ _ (Ext.refl _) (fun d hd => by cases hd; rfl)
    · intro act W2 hk
      refine Flow.does_intro rfl (fun K hK => ?_)
      have e6 : act.tmps[6]?.getD undef = .string a.name := hk.v 6 (by kernel_rfl)
      have e8 : act.tmps[8]?.getD undef = .string b.name := hk.v 8 (by kernel_rfl)
      clear hk
      go_simp
      refine Calls.mono (cmp_compare _ _ _) ?_
      rintro e W3 ⟨rfl, rfl⟩
      exact hK _ _ (Ext.refl _) (fun d hd => by cases hd; rfl)
    · intro act W2 hk
      refine Flow.does_intro rfl (fun K hK => ?_)
      have e2 : act.tmps[2]?.getD undef = .pointer (some ⟨pA, 0, none⟩) := hk.o 2 (by kernel_rfl)
      clear hk
      go_simp
      exact hK _ _ (Ext.refl _) (fun d hd => by cases hd; rfl)
    · intro act W2 hk
      refine Flow.does_intro rfl (fun K hK => ?_)
      have e10 : act.tmps[10]?.getD undef = .pointer (some ⟨pA, 1, none⟩) := hk.v 10 (by kernel_rfl)
      have g := ((ka.out).ext ((Ext.drew W).trans hk.ext)).cell
      clear hk
      go_simp
      exact hK _ _ (Ext.refl _) (fun d hd => by cases hd; rfl)
    · intro act W2 hk
      refine Flow.does_intro rfl (fun K hK => ?_)
      have e3 : act.tmps[3]?.getD undef = .pointer (some ⟨(pA + 1), 0, none⟩) := hk.o 3 (by kernel_rfl)
      clear hk
      go_simp
      exact hK _ _ (Ext.refl _) (fun d hd => by cases hd; rfl)
    · intro act W2 hk
      refine Flow.does_intro rfl (fun K hK => ?_)
      have e12 : act.tmps[12]?.getD undef = .pointer (some ⟨(pA + 1), 1, none⟩) := hk.v 12 (by kernel_rfl)
      have g := ((kb.out).ext ((Ext.drew W).trans hk.ext)).cell
      clear hk
      go_simp
      exact hK _ _ (Ext.refl _) (fun d hd => by cases hd; rfl)
    · intro act W2 hk
      refine Flow.does_intro rfl (fun K hK => ?_)
      have e11 : act.tmps[11]?.getD undef = .string a.key := hk.v 11 (by kernel_rfl)
      have e13 : act.tmps[13]?.getD undef = .string b.key := hk.v 13 (by kernel_rfl)
      clear hk
      go_simp
      refine Calls.mono (cmp_compare _ _ _) ?_
      rintro e W3 ⟨rfl, rfl⟩
      exact hK _ _ (Ext.refl _) (fun d hd => by cases hd; rfl)
    · intro act W2 hk
      refine Flow.does_intro rfl (fun K hK => ?_)
      have e9 : act.tmps[9]?.getD undef = .int .i64 (cmpB a.name b.name) := hk.v 9 (by kernel_rfl)
      have e14 : act.tmps[14]?.getD undef = .int .i64 (cmpB a.key b.key) := hk.v 14 (by kernel_rfl)
      clear hk
      go_simp
      exact hK _ _ (Ext.alloc _ _) (fun d hd => by cases hd; exact ⟨_, rfl, Blk.new _ _ _⟩)
    · intro act W2 hk
      refine Flow.does_intro rfl (fun K hK => ?_)
      obtain ⟨D, e15, hD⟩ : (two _ _).p _ _ := hk.v 15 (by kernel_rfl)
      have hD := Hd.mk hD
      clear hk
      go_simp
      refine Calls.mono (cmp_or _ _ D 2 _ (hD.out.cell 0) (hD.out.cell 1)) ?_
      rintro e W3 ⟨rfl, rfl⟩
      exact hK _ _ (Ext.refl _) (fun d hd => by cases hd; rfl)
    · intro act W2 hk
      refine Flow.does_intro rfl (fun K hK => ?_)
      have e16 : act.tmps[16]?.getD undef = .int .i64 (cmpT a b) := hk.v 16 (by kernel_rfl)
      clear hk
      go_simp
      exact hK _ _ (Ext.refl _) (fun d hd => by cases hd; rfl)
  · intro act W2 he
    have hxW2 := Hd.mk ((Ext.drew W).trans he.ext)
    obtain ⟨us, hA, hF⟩ := he.out [5, 6, 7, 8, 9, 10, 11, 12, 13, 14, 15, 16, 4] (by kernel_rfl)
    simp only [Flow.fillL, List.contains_cons, List.contains_nil, Nat.reduceBEq, Bool.or_false, Bool.false_or, Bool.or_true, Bool.true_or, ↓reduceIte, Nat.reduceAdd, Bool.false_eq_true] at hA
    subst hA
    have f4 : us 4 = .int .i64 (cmpT a b) := hF 4 (by simp)
    clear hF he
    rw [f4]
    clear f4
    refine (show wpList _ _ _ [] _ _ from ?_)
    go_wp2_with fail
    go_ret
    exact ⟨rfl, kx.out.trans hxW2.out⟩

theorem ltB_iff (a b : ByteArray) : ltB a b = decide (a.toList < b.toList) := bytesLess_eq _ _
theorem cmpB_neg (a b : ByteArray) : (cmpB a b < 0) ↔ ltB a b = true := by
  unfold cmpB
  split
  · simp_all
  · rename_i h
    split <;> simp_all
theorem cmpB_zero {a b : ByteArray} : cmpB a b = 0 ↔ (ltB a b = false ∧ a = b) := by
  unfold cmpB
  by_cases h : ltB a b = true
  · simp [h]
  · by_cases h2 : a = b <;> simp [h, h2]
theorem ltB_irr (a : ByteArray) : ltB a a = false := by rw [ltB_iff]; simp
theorem cmpT_neg (a b : T) : decide (cmpT a b < 0) = lessT a b := by
  unfold cmpT lessT
  by_cases h : cmpB a.name b.name = 0
  · obtain ⟨h1, h2⟩ := cmpB_zero.1 h
    rw [if_neg (by simpa using h), h1, h2]
    simp [cmpB_neg]
  · rw [if_pos h]
    by_cases h1 : ltB a.name b.name = true
    · simp [(cmpB_neg _ _).2 h1, h1]
    · have h3 : ¬ cmpB a.name b.name < 0 := fun hh => h1 ((cmpB_neg _ _).1 hh)
      have h4 : a.name ≠ b.name := fun hh => h (cmpB_zero.2 ⟨by simpa using h1, hh⟩)
      simp [h3, h1, h4]

set_option maxRecDepth 100000 in
set_option maxHeartbeats 4000000 in
theorem tree_less (a b : T) (K1 K2 : Option Addr) (n1 c1 n2 c2 : Nat) (w : World) :
    Calls Try.prog 66 #[.agg (cT a.name a.key a.kind a.num a.text K1 n1 c1).toArray, .agg (cT b.name b.key b.kind b.num b.text K2 n2 c2).toArray] w fun e w' => e = .returned (.bool (lessT a b)) ∧ Ext w w' := by
  rw [← cmpT_neg]
  have hc := Hd.mk (tree_compare a b K1 K2 n1 c1 n2 c2)
  simp only [cT] at hc ⊢
  go_enter Try.func66, Try.ntmps66
  go_wp2_with fail
  refine (hc.out _).mono ?_
  rintro e w1 ⟨rfl, hx⟩
  have kx := Hd.mk (((Ext.alloc w (.cells #[.string a.name, .string a.key, .int .i64 a.kind, .int .u64 a.num, .string a.text, .slice K1 n1 c1] 54)).trans (Ext.alloc _ (.cells #[.string b.name, .string b.key, .int .i64 b.kind, .int .u64 b.num, .string b.text, .slice K2 n2 c2] 54))).trans hx)
  go_wp2_with fail
  go_ret
  exact ⟨rfl, kx.out⟩

set_option maxRecDepth 100000 in
set_option maxHeartbeats 4000000 in
theorem ref_less (a b : T) (K1 K2 : Option Addr) (n1 c1 n2 c2 : Nat) (w : World) :
    Calls Try.prog 67 #[.agg (cT a.name a.key a.kind a.num a.text K1 n1 c1).toArray, .agg (cT b.name b.key b.kind b.num b.text K2 n2 c2).toArray] w fun e w' => e = .returned (.bool (lessT a b)) ∧ Ext w w' := by
  by_cases h1 : ltB a.name b.name = true
  · have h1' : Op.bytesLess a.name.toList b.name.toList = true := h1
    have hr : lessT a b = true := by rw [lessT, h1]; rfl
    rw [hr]
    clear hr h1
    simp only [cT]
    go_enter Try.func67, Try.ntmps67
    have kx := Hd.mk ((Ext.alloc w (.cells #[.string a.name, .string a.key, .int .i64 a.kind, .int .u64 a.num, .string a.text, .slice K1 n1 c1] 54)).trans (Ext.alloc _ (.cells #[.string b.name, .string b.key, .int .i64 b.kind, .int .u64 b.num, .string b.text, .slice K2 n2 c2] 54)))
    go_wp2_with fail
    go_ret
    exact ⟨rfl, kx.out⟩
  · have h1' : Op.bytesLess a.name.toList b.name.toList = false := (Bool.not_eq_true _).mp h1
    have h1'' : ltB a.name b.name = false := h1'
    by_cases h2 : a.name = b.name
    · have hr : lessT a b = Op.bytesLess a.key.toList b.key.toList := by rw [lessT, h1'', decide_eq_true h2]; rfl
      have h2' : (a.name.toList == b.name.toList) = true := by rw [str_eq]; exact decide_eq_true h2
      rw [hr]
      clear hr h1 h1'' h2
      simp only [cT]
      go_enter Try.func67, Try.ntmps67
      have kx := Hd.mk ((Ext.alloc w (.cells #[.string a.name, .string a.key, .int .i64 a.kind, .int .u64 a.num, .string a.text, .slice K1 n1 c1] 54)).trans (Ext.alloc _ (.cells #[.string b.name, .string b.key, .int .i64 b.kind, .int .u64 b.num, .string b.text, .slice K2 n2 c2] 54)))
      go_wp2_with fail
      go_ret
      exact ⟨rfl, kx.out⟩
    · have hr : lessT a b = false := by rw [lessT, h1'', decide_eq_false h2]; rfl
      have h2' : (a.name.toList == b.name.toList) = false := by rw [str_eq]; exact decide_eq_false h2
      rw [hr]
      clear hr h1 h1'' h2
      simp only [cT]
      go_enter Try.func67, Try.ntmps67
      have kx := Hd.mk ((Ext.alloc w (.cells #[.string a.name, .string a.key, .int .i64 a.kind, .int .u64 a.num, .string a.text, .slice K1 n1 c1] 54)).trans (Ext.alloc _ (.cells #[.string b.name, .string b.key, .int .i64 b.kind, .int .u64 b.num, .string b.text, .slice K2 n2 c2] 54)))
      go_wp2_with fail
      go_ret
      exact ⟨rfl, kx.out⟩
end Go.Proofs.Ytgkgedjmnbjalaa
