/- awake: the document's example of edits.
   Conditions: none. -/
import Derived.Test.YtgkgedjmnbjalaaTZ
import Derived.Test.YtgkgedjmnbjalaaTW
import Derived.Test.YtgkgedjmnbjalaaTO
set_option linter.unusedSimpArgs false
namespace Go.Proofs.Ytgkgedjmnbjalaa
open Go.RowKit Go.Sort

def upT : T := .mk ⟨#[117, 112]⟩ ⟨#[]⟩ 3 1 ⟨#[]⟩ []
def awB : T := .mk ⟨#[]⟩ ⟨#[]⟩ 0 0 ⟨#[]⟩ [upT]
def awL : List E := [⟨1, [(⟨#[117, 112]⟩, ⟨#[]⟩)], upT, zeroT⟩]
def awM : List E := [⟨2, [(⟨#[117, 112]⟩, ⟨#[]⟩)], zeroT, upT⟩]
theorem aw_edits : edits 1 zeroT awB [] = awL := rfl
theorem aw_inv : inverse awL = awM := by simp [inverse, awL, awM, inv1]
theorem aw_same1 : sameEL awL awL = true := by simp [awL, sameEL, sameE_refl]
theorem aw_same2 : sameEL awL awM = false := by simp [awL, awM, sameEL, sameE]
theorem aw_under1 : countU awL [] = 1 := by simp [countU, awL, underW]
theorem aw_under2 : countU awL [(⟨#[120]⟩, ⟨#[]⟩)] = 0 := by decide +kernel
theorem upT_rt (w : World) : RT (fun _ => True) w upT [.string ⟨#[117, 112]⟩, .string ⟨#[]⟩, .int .i64 3, .int .u64 1, .string ⟨#[]⟩, .slice none 0 0] :=
  RT.of_row (t := upT) (K := none) (kc := 0) (RRow.nil _ _ _ _ (fun _ => rfl))
theorem zero_rt (w : World) : RT (fun _ => True) w zeroT [.string ⟨#[]⟩, .string ⟨#[]⟩, .int .i64 0, .int .u64 0, .string ⟨#[]⟩, .slice none 0 0] :=
  RT.of_row (t := zeroT) (K := none) (kc := 0) (RRow.nil _ _ _ _ (fun _ => rfl))
theorem awB_rt {w : World} {g : Nat} (h : Blk w g [.string ⟨#[117, 112]⟩, .string ⟨#[]⟩, .int .i64 3, .int .u64 1, .string ⟨#[]⟩, .slice none 0 0] 54) : RT (fun _ => True) w awB [.string ⟨#[]⟩, .string ⟨#[]⟩, .int .i64 0, .int .u64 0, .string ⟨#[]⟩, .slice (some ⟨g, 0, none⟩) 1 1] :=
  RT.of_row (t := awB) (K := some ⟨g, 0, none⟩) (kc := 1) ⟨Nat.le_refl _, by simp [awB, T.kids], fun h => (by cases h), fun i k hi => by
    cases i with
    | zero => simp [awB, T.kids] at hi; subst hi; exact ⟨g, 0, _, rfl, trivial, upT_rt w, fun j v hv => by rw [show 0 + 0 * 6 + j = j by omega, h.cell]; exact hv⟩
    | succ i => simp [awB, T.kids] at hi⟩

set_option maxRecDepth 100000 in
set_option maxHeartbeats 4000000 in
theorem awake16 (w : World) : Calls Try.prog 37 #[] w fun e w' => e = .returned (.bool true) ∧ Ext w w' := by
  go_enter Try.func37, Try.ntmps37
  go_wp2_with fail
  have kx := Hd.mk ((Ext.alloc w (.cells #[.string ⟨#[117, 112]⟩, .string ⟨#[]⟩, .int .i64 3, .int .u64 1, .string ⟨#[]⟩, .slice none 0 0] 54)).trans (Ext.alloc _ (.cells #[.string ⟨#[117, 112]⟩, .string ⟨#[]⟩, .int .i64 3, .int .u64 1, .string ⟨#[]⟩, .slice none 0 0] 54)))
  have kB := Hd.mk (Blk.new2 w (.cells #[.string ⟨#[117, 112]⟩, .string ⟨#[]⟩, .int .i64 3, .int .u64 1, .string ⟨#[]⟩, .slice none 0 0] 54) #[.string ⟨#[117, 112]⟩, .string ⟨#[]⟩, .int .i64 3, .int .u64 1, .string ⟨#[]⟩, .slice none 0 0] 54)
  generalize w.heap.size + 1 = pB at *
  generalize (w.alloc _).alloc _ = W at *
  refine Calls.mono (diff_edits (N := 1) (a := zeroT) (b := awB) (Nat.le_refl _) (zero_rt W) (awB_rt kB.out) (by decide) (by decide)) ?_
  rintro e w1 ⟨_, rfl, A, c, rfl, hr, hx⟩
  rw [aw_edits] at hr ⊢
  have kx1 := Hd.mk (kx.out.trans hx)
  replace hr := Hd.mk hr
  clear hx kx kB
  go_wp2_with fail
  refine Calls.mono (diff_inverse awL _ w1 A c hr.out) ?_
  rintro e w2 ⟨_, rfl, A2, c2, rfl, hr2, hx⟩
  rw [aw_inv] at hr2 ⊢
  replace hr := Hd.mk (hr.out.ext hx)
  replace hr2 := Hd.mk hr2
  have kx2 := Hd.mk (kx1.out.trans hx)
  clear hx kx1
  obtain ⟨b1, o1, d1, rfl, _, hre1, hc1⟩ := hr.out.edit 0 _ rfl
  obtain ⟨b2, o2, d2, rfl, _, hre2, hc2⟩ := hr2.out.edit 0 _ rfl
  obtain ⟨Aw, aw, K1, k1, L1, l1, rfl, hw, _, _⟩ := hre1
  obtain ⟨Bw, bw, K2, k2, L2, l2, rfl, _, _, _⟩ := hre2
  obtain ⟨bw1, ow1, rfl, _, hcw⟩ := hw.row (by simp)
  obtain ⟨e0, e1, -⟩ := c14C (Ext.refl _) hc1
  obtain ⟨f0, -⟩ := c14C (Ext.refl _) hc2
  have g0 := hcw 0 _ rfl
  have g1 := hcw 1 _ rfl
  rw [Nat.add_zero] at g0
  have lt1 := World.block_lt_of_cell? w2 _ e0
  have lt2 := World.block_lt_of_cell? w2 _ f0
  have lt3 := World.block_lt_of_cell? w2 _ g0
  clear hc1 hc2 hcw hw
  simp only [List.length_cons, List.length_nil] at e1
  simp only [Nat.zero_mul, Nat.add_zero] at e0 e1 f0
  have hl1 : awL.length = 1 := rfl
  have hl2 : awM.length = 1 := rfl
  simp only [hl1, hl2]
  have hS1 := Hd.mk (diff_same awL awL (fun _ => True) w2 _ _ _ _ hr.out hr.out)
  have hS2 := Hd.mk (fun W (h : Ext w2 W) => diff_same awL awM (fun _ => True) W _ _ _ _ (hr.out.ext h) (hr2.out.ext h))
  have hU1 := Hd.mk (fun W (h : Ext w2 W) => diff_under awL [] (fun _ => True) (fun _ => True) W _ none _ 0 (hr.out.ext h) (WRow.nil _ _ _ _ (fun _ => rfl)))
  have hU2 := Hd.mk (fun W g (h : Ext w2 W) (hb : Blk W g [.string ⟨#[120]⟩, .string ⟨#[]⟩] 65) => diff_under awL [(⟨#[120]⟩, ⟨#[]⟩)] (fun _ => True) (fun _ => True) W _ (some ⟨g, 0, none⟩) _ 1 (hr.out.ext h) ⟨Nat.le_refl _, by simp, fun h => (by cases h), fun _ => ⟨g, 0, rfl, trivial, fun j v hv => by rw [Nat.zero_add, hb.cell]; exact hv⟩⟩)
  rw [aw_same1] at hS1
  rw [aw_same2] at hS2
  rw [aw_under1] at hU1
  rw [aw_under2] at hU2
  simp only [hl1, hl2, List.length_cons, List.length_nil] at hS1 hS2 hU1 hU2
  clear hl1 hl2 hr hr2
  go_wp2_with fail
  refine Calls.mono hS1.out ?_
  rintro e w3 ⟨rfl, hx3⟩
  have hx3 := Hd.mk hx3
  clear hS1 e0 e1 f0 g0 g1 lt1 lt2 lt3
  go_wp2_with fail
  refine Calls.mono (hS2.out _ hx3.out) ?_
  rintro e w4 ⟨rfl, hx⟩
  have hx4 := Hd.mk (hx3.out.trans hx)
  clear hS2 hx hx3
  go_wp2_with fail
  refine Calls.mono (hU1.out _ hx4.out) ?_
  rintro e w5 ⟨rfl, hx⟩
  have hx5 := Hd.mk (hx4.out.trans hx)
  clear hU1 hx hx4
  go_wp2_with fail
  refine Calls.mono (hU2.out _ _ (hx5.out.trans (Ext.alloc _ _)) (Blk.new _ _ _)) ?_
  rintro e w6 ⟨rfl, hx⟩
  have hx6 := Hd.mk ((hx5.out.trans (Ext.alloc _ _)).trans hx)
  clear hU2 hx hx5
  go_wp2_with fail
  go_ret
  exact ⟨rfl, kx2.out.trans hx6.out⟩
end Go.Proofs.Ytgkgedjmnbjalaa
