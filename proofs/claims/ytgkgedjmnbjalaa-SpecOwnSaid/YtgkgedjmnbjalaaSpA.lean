/- The makers of the table of chapter 7: what spec.leaf, list, from, of, must give.
   Conditions: none. -/
import Derived.Test.YtgkgedjmnbjalaaMem
namespace Go.Proofs.Ytgkgedjmnbjalaa
open Go.RowKit

def specV (nm : ByteArray) (kind ty mn mx : Int) (N : Option Addr) (nl nc : Nat) (must : Bool) (most : Int) (K : Option Addr) (kl kc : Nat) : Value :=
  .agg #[.string nm, .int .i64 kind, .int .i64 ty, .int .u64 mn, .int .u64 mx, .slice N nl nc, .bool must, .int .i64 most, .slice K kl kc]

theorem sp_list (nm : ByteArray) (most : Int) (K : Option Addr) (kl kc : Nat) (w : World) :
    Calls Try.prog 131 #[.string nm, .int .i64 most, .slice K kl kc] w fun e w' => e = .returned (.agg #[.string nm, .int .i64 3, .int .i64 0, .int .u64 0, .int .u64 0, .slice none 0 0, .bool false, .int .i64 most, .slice K kl kc]) ∧ Ext w w' := by
  go_enter Try.func131, Try.ntmps131
  go_wp2_with fail
  refine bodyPost_ret (v := specV nm 3 0 0 0 none 0 0 false most K kl kc) (by simp [results, Try.results131, go_sem, specV]) rfl ⟨rfl, Ext.alloc _ _⟩

theorem sp_from (lo hi : Int) (w : World) :
    Calls Try.prog 133 #[.int .u64 lo, .int .u64 hi] w fun e w' => e = .returned (.func (.func 154) #[] #[.pointer (some ⟨w.heap.size, 0, none⟩), .pointer (some ⟨w.heap.size + 1, 0, none⟩)]) ∧
      w' = (w.alloc (.cells #[.int .u64 lo] 24)).alloc (.cells #[.int .u64 hi] 24) := by
  go_enter Try.func133, Try.ntmps133
  go_wp2_with fail
  go_ret
  exact ⟨rfl, rfl⟩

theorem sp_of (A : Option Addr) (n c : Nat) (w : World) :
    Calls Try.prog 138 #[.slice A n c] w fun e w' => e = .returned (.func (.func 155) #[] #[.pointer (some ⟨w.heap.size, 0, none⟩)]) ∧
      w' = w.alloc (.cells #[.slice A n c] 22) := by
  go_enter Try.func138, Try.ntmps138
  go_wp2_with fail
  go_ret
  exact ⟨rfl, rfl⟩

theorem sp_must (b off : Nat) (w : World) (u : Value) (h : w.cell? ⟨b, off + 6, none⟩ = some u) (hf : w.frozen? ⟨b, off + 6, none⟩ = false) :
    Calls Try.prog 134 #[.pointer (some ⟨b, off, none⟩)] w fun e w' => e = .returned (.tuple #[]) ∧ w' = w.setCell ⟨b, off + 6, none⟩ (.bool true) := by
  go_enter Try.func134, Try.ntmps134
  go_wp2_with fail
  go_end0
  exact ⟨rfl, rfl⟩

theorem sp_from1 (b off c1 c2 : Nat) (lo hi : Int) (w : World) (u3 u4 : Value) (h3 : w.cell? ⟨b, off + 3, none⟩ = some u3) (h4 : w.cell? ⟨b, off + 4, none⟩ = some u4)
    (hf3 : w.frozen? ⟨b, off + 3, none⟩ = false) (hf4 : w.frozen? ⟨b, off + 4, none⟩ = false)
    (h1 : w.cell? ⟨c1, 0, none⟩ = some (.int .u64 lo)) (h2 : w.cell? ⟨c2, 0, none⟩ = some (.int .u64 hi)) :
    Calls Try.prog 154 #[.pointer (some ⟨b, off, none⟩), .pointer (some ⟨c1, 0, none⟩), .pointer (some ⟨c2, 0, none⟩)] w fun e w' => e = .returned (.tuple #[]) ∧
      w' = ((w.setCell ⟨b, off + 3, none⟩ (.int .u64 lo)).setCell ⟨b, off + 4, none⟩ (.int .u64 hi)).drew := by
  go_enter Try.func154, Try.ntmps154
  go_wp2
  go_region
  all_goals (go_wp2; go_end0; exact ⟨rfl, rfl⟩)

theorem sp_of1 (b off c1 : Nat) (A : Option Addr) (n c : Nat) (w : World) (u3 : Value) (h3 : w.cell? ⟨b, off + 5, none⟩ = some u3)
    (hf3 : w.frozen? ⟨b, off + 5, none⟩ = false) (h1 : w.cell? ⟨c1, 0, none⟩ = some (.slice A n c)) :
    Calls Try.prog 155 #[.pointer (some ⟨b, off, none⟩), .pointer (some ⟨c1, 0, none⟩)] w fun e w' => e = .returned (.tuple #[]) ∧
      w' = w.setCell ⟨b, off + 5, none⟩ (.slice A n c) := by
  go_enter Try.func155, Try.ntmps155
  go_wp2
  go_end0
  exact ⟨rfl, rfl⟩

/-- What a leaf has besides its name and its type. -/
inductive Mod where
  | must
  | bnd (lo hi : Int)
  | names (A : Option Addr) (n c : Nat)
/-- The fields that they turn: Min, Max, Names, Must. -/
structure LeafF where
  mn : Int
  mx : Int
  N : Option Addr
  nl : Nat
  nc : Nat
  must : Bool
def Mod.run : LeafF → Mod → LeafF
  | f, .must => { f with must := true }
  | f, .bnd lo hi => { f with mn := lo, mx := hi }
  | f, .names A n c => { f with N := A, nl := n, nc := c }
def Mod.is (w : World) (v : Value) : Mod → Prop
  | .must => v = .func (.func 134) #[] #[]
  | .bnd lo hi => ∃ b1 b2, v = .func (.func 154) #[] #[.pointer (some ⟨b1, 0, none⟩), .pointer (some ⟨b2, 0, none⟩)] ∧ w.cell? ⟨b1, 0, none⟩ = some (.int .u64 lo) ∧ w.cell? ⟨b2, 0, none⟩ = some (.int .u64 hi)
  | .names A n c => ∃ b1, v = .func (.func 155) #[] #[.pointer (some ⟨b1, 0, none⟩)] ∧ w.cell? ⟨b1, 0, none⟩ = some (.slice A n c)

def leafCells (nm : ByteArray) (ty : Int) (f : LeafF) : List Value :=
  [.string nm, .int .i64 1, .int .i64 ty, .int .u64 f.mn, .int .u64 f.mx, .slice f.N f.nl f.nc, .bool f.must, .int .i64 0, .slice none 0 0]


set_option maxHeartbeats 1000000 in
theorem sp_leaf (nm : ByteArray) (ty : Int) (ms : List Mod) (A : Option Addr) (c : Nat) (w : World) (hl : ms.length ≤ 10)
    (hm : ∀ i m, ms[i]? = some m → ∃ b off v, A = some ⟨b, off, none⟩ ∧ w.cell? ⟨b, off + i, none⟩ = some v ∧ m.is w v) :
    Calls Try.prog 132 #[.string nm, .int .i64 ty, .slice A ms.length c] w fun e w' => e = .returned (.agg (leafCells nm ty (ms.foldl Mod.run ⟨0, 0, none, 0, 0, false⟩)).toArray) ∧ Ext w w' := by
  have hm2 := Hd.mk hm
  clear hm
  go_enter Try.func132, Try.ntmps132
  go_wp2_with fail
  go_loopg [15] (ms.length + 1) (fun q i wr => ∃ j : Nat, j ≤ ms.length ∧ Hd (q = ms.length + 1 - j) ∧ i = .int .i64 j ∧ Ext w wr ∧
    Hd (Blk wr (w.heap.size + 1) (leafCells nm ty ((ms.take j).foldl Mod.run ⟨0, 0, none, 0, 0, false⟩)) 27) ∧
    Hd (∃ cs, Blk wr w.heap.size cs 27 ∧ cs.length = 9))
  case atStart =>
    refine ⟨0, Nat.zero_le _, ⟨by omega⟩, rfl, (Ext.alloc _ _).trans (Ext.alloc _ _), ⟨?_⟩, ⟨_, (Blk.new _ _ _).alloc _, rfl⟩⟩
    simp only [List.take_zero, List.foldl_nil]
    exact Blk.new2 _ _ _ _
  case round =>
  obtain ⟨j, hj, hq, rfl, hx, hb, hr⟩ := hrel
  generalize hf : (ms.take j).foldl Mod.run ⟨0, 0, none, 0, 0, false⟩ = f at hb
  have hf2 := Hd.mk hf
  clear hf
  obtain ⟨mn, mx, N, nl, nc, mu⟩ := f
  have g := fun k => hb.out.cell k
  have gf := fun k => hb.out.free k
  simp only [leafCells] at g
  by_cases hlt : j < ms.length
  · obtain ⟨b, off, v, rfl, hc, hi⟩ := hm2.out j _ (List.getElem?_eq_getElem hlt)
    have hc1 := Ext.cell hx hc
    have hfs : ((ms.take (j+1)).foldl Mod.run ⟨0, 0, none, 0, 0, false⟩) = Mod.run ⟨mn, mx, N, nl, nc, mu⟩ ms[j] := by
      rw [List.take_succ_eq_append_getElem hlt, List.foldl_append, hf2.out]; rfl
    cases hmj : ms[j] with
    | must =>
      rw [hmj] at hi hfs
      obtain rfl := hi
      have hfs2 := Hd.mk hfs
      clear hmj hfs hc
      go_wp2_with fail
      have k := sp_must (w.heap.size + 1) 0 wr _ (by rw [g]; rfl) (gf _)
      simp only [Nat.zero_add] at k
      refine k.mono ?_
      rintro e w1 ⟨rfl, hw1⟩
      clear k g gf hc1 hm2
      go_wp2_with fail
      go_roundg (ms.length + 1 - (j + 1))
      case measure => have := hq.out; omega
      case rel =>
        refine ⟨j + 1, by omega, ⟨rfl⟩, by go_num, ?_, ⟨?_⟩, ?_⟩
        · subst hw1; exact hx.setCell (by simp) _
        · subst hw1; rw [hfs2.out]; exact hb.out.setCell 6 _
        · subst hw1; obtain ⟨cs, h1, h2⟩ := hr.out; exact ⟨cs, h1.setCell_other (by simp) _, h2⟩
    | bnd lo hi' =>
      rw [hmj] at hi hfs
      obtain ⟨b1, b2, rfl, e1, e2⟩ := hi
      have hfs2 := Hd.mk hfs
      have e1' := Hd.mk (Ext.cell hx e1)
      have e2' := Hd.mk (Ext.cell hx e2)
      clear hmj hfs hc e1 e2
      go_wp2_with fail
      have k := sp_from1 (w.heap.size + 1) 0 b1 b2 lo hi' wr _ _ (by rw [g]; rfl) (by rw [g]; rfl) (gf _) (gf _) e1'.out e2'.out
      simp only [Nat.zero_add] at k
      refine k.mono ?_
      rintro e w1 ⟨rfl, hw1⟩
      clear k g gf hc1 hm2
      go_wp2_with fail
      go_roundg (ms.length + 1 - (j + 1))
      case measure => have := hq.out; omega
      case rel =>
        refine ⟨j + 1, by omega, ⟨rfl⟩, by go_num, ?_, ⟨?_⟩, ?_⟩
        · subst hw1; exact ((hx.setCell (by simp) _).setCell (by simp) _).drew
        · subst hw1; rw [hfs2.out]; exact (hb.out.setCell 3 _).setCell 4 _
        · subst hw1; obtain ⟨cs, h1, h2⟩ := hr.out; exact ⟨cs, (h1.setCell_other (by simp) _).setCell_other (by simp) _, h2⟩
    | names A' n c' =>
      rw [hmj] at hi hfs
      obtain ⟨b1, rfl, e1⟩ := hi
      have hfs2 := Hd.mk hfs
      have e1' := Hd.mk (Ext.cell hx e1)
      clear hmj hfs hc e1
      go_wp2_with fail
      have k := sp_of1 (w.heap.size + 1) 0 b1 A' n c' wr _ (by rw [g]; rfl) (gf _) e1'.out
      simp only [Nat.zero_add] at k
      refine k.mono ?_
      rintro e w1 ⟨rfl, hw1⟩
      clear k g gf hc1 hm2
      go_wp2_with fail
      go_roundg (ms.length + 1 - (j + 1))
      case measure => have := hq.out; omega
      case rel =>
        refine ⟨j + 1, by omega, ⟨rfl⟩, by go_num, ?_, ⟨?_⟩, ?_⟩
        · subst hw1; exact hx.setCell (by simp) _
        · subst hw1; rw [hfs2.out]; exact hb.out.setCell 5 _
        · subst hw1; obtain ⟨cs, h1, h2⟩ := hr.out; exact ⟨cs, h1.setCell_other (by simp) _, h2⟩
  · have hjl : j = ms.length := by omega
    have hfin : ms.foldl Mod.run ⟨0, 0, none, 0, 0, false⟩ = ⟨mn, mx, N, nl, nc, mu⟩ := by rw [← hf2.out, hjl, List.take_length]
    have hfin2 := Hd.mk hfin
    obtain ⟨cs, hr1, hr2⟩ := hr.out
    have hr3 := Hd.mk hr1
    have hr4 := Hd.mk hr2
    clear hfin hjl hr1 hr2 hf2
    go_wp2_with ((with_reducible refine at_op (.store 27 (.tmp 6) (.tmp 22)) ?_); refine wpl_store_box 27 (.tmp 6) (.tmp 22) _ _ _ w.heap.size _ 27 cs hr3.out rfl rfl size27 hr4.out rfl ?_; intro w1 hu hb1)
    refine ret_box rfl w.heap.size _ 27 _ hb1 rfl rfl Try.underlying27 rfl size27 ⟨?_, Below.trans hx (hu.below (Nat.le_refl _))⟩
    rw [hfin2.out]
    rfl

end Go.Proofs.Ytgkgedjmnbjalaa
