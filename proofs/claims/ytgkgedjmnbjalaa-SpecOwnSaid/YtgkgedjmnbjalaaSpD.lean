/- The table of version 1, as spec.first makes it.
   Conditions: none. -/
import Derived.Test.YtgkgedjmnbjalaaSpC
set_option linter.unusedSimpArgs false
namespace Go.Proofs.Ytgkgedjmnbjalaa
open Go.RowKit Go.Sort

theorem sp_leaf0 (nm : ByteArray) (ty : Int) (w : World) :
    Calls Try.prog 132 #[.string nm, .int .i64 ty, .slice none 0 0] w fun e w' => e = .returned (.agg #[.string nm, .int .i64 1, .int .i64 ty, .int .u64 0, .int .u64 0, .slice none 0 0, .bool false, .int .i64 0, .slice none 0 0]) ∧ Ext w w' :=
  sp_leaf nm ty [] none 0 w (by simp) (fun i m h => by simp at h)
theorem sp_leafM (nm : ByteArray) (ty : Int) (b : Nat) (w : World) (h0 : w.cell? ⟨b, 0, none⟩ = some (.func (.func 134) #[] #[])) :
    Calls Try.prog 132 #[.string nm, .int .i64 ty, .slice (some ⟨b, 0, none⟩) 1 1] w fun e w' => e = .returned (.agg #[.string nm, .int .i64 1, .int .i64 ty, .int .u64 0, .int .u64 0, .slice none 0 0, .bool true, .int .i64 0, .slice none 0 0]) ∧ Ext w w' :=
  sp_leaf nm ty [.must] (some ⟨b, 0, none⟩) 1 w (by simp) (fun i m h => by
    match i, h with
    | 0, h => simp at h; subst h; exact ⟨b, 0, _, rfl, h0, rfl⟩
    | i + 1, h => simp at h)
theorem sp_leafB (nm : ByteArray) (ty lo hi : Int) (b c1 c2 : Nat) (w : World) (h0 : w.cell? ⟨b, 0, none⟩ = some (.func (.func 154) #[] #[.pointer (some ⟨c1, 0, none⟩), .pointer (some ⟨c2, 0, none⟩)]))
    (h1 : w.cell? ⟨c1, 0, none⟩ = some (.int .u64 lo)) (h2 : w.cell? ⟨c2, 0, none⟩ = some (.int .u64 hi)) :
    Calls Try.prog 132 #[.string nm, .int .i64 ty, .slice (some ⟨b, 0, none⟩) 1 1] w fun e w' => e = .returned (.agg #[.string nm, .int .i64 1, .int .i64 ty, .int .u64 lo, .int .u64 hi, .slice none 0 0, .bool false, .int .i64 0, .slice none 0 0]) ∧ Ext w w' :=
  sp_leaf nm ty [.bnd lo hi] (some ⟨b, 0, none⟩) 1 w (by simp) (fun i m h => by
    match i, h with
    | 0, h => simp at h; subst h; exact ⟨b, 0, _, rfl, h0, c1, c2, rfl, h1, h2⟩
    | i + 1, h => simp at h)
theorem sp_leafN (nm : ByteArray) (ty : Int) (A : Option Addr) (n c : Nat) (b c1 : Nat) (w : World) (h0 : w.cell? ⟨b, 0, none⟩ = some (.func (.func 155) #[] #[.pointer (some ⟨c1, 0, none⟩)]))
    (h1 : w.cell? ⟨c1, 0, none⟩ = some (.slice A n c)) :
    Calls Try.prog 132 #[.string nm, .int .i64 ty, .slice (some ⟨b, 0, none⟩) 1 1] w fun e w' => e = .returned (.agg #[.string nm, .int .i64 1, .int .i64 ty, .int .u64 0, .int .u64 0, .slice A n c, .bool false, .int .i64 0, .slice none 0 0]) ∧ Ext w w' :=
  sp_leaf nm ty [.names A n c] (some ⟨b, 0, none⟩) 1 w (by simp) (fun i m h => by
    match i, h with
    | 0, h => simp at h; subst h; exact ⟨b, 0, _, rfl, h0, c1, rfl, h1⟩
    | i + 1, h => simp at h)
theorem sp_leafBM (nm : ByteArray) (ty lo hi : Int) (b c1 c2 : Nat) (w : World) (h0 : w.cell? ⟨b, 0, none⟩ = some (.func (.func 154) #[] #[.pointer (some ⟨c1, 0, none⟩), .pointer (some ⟨c2, 0, none⟩)]))
    (h0' : w.cell? ⟨b, 1, none⟩ = some (.func (.func 134) #[] #[])) (h1 : w.cell? ⟨c1, 0, none⟩ = some (.int .u64 lo)) (h2 : w.cell? ⟨c2, 0, none⟩ = some (.int .u64 hi)) :
    Calls Try.prog 132 #[.string nm, .int .i64 ty, .slice (some ⟨b, 0, none⟩) 2 2] w fun e w' => e = .returned (.agg #[.string nm, .int .i64 1, .int .i64 ty, .int .u64 lo, .int .u64 hi, .slice none 0 0, .bool true, .int .i64 0, .slice none 0 0]) ∧ Ext w w' :=
  sp_leaf nm ty [.bnd lo hi, .must] (some ⟨b, 0, none⟩) 2 w (by simp) (fun i m h => by
    match i, h with
    | 0, h => simp at h; subst h; exact ⟨b, 0, _, rfl, h0, c1, c2, rfl, h1, h2⟩
    | 1, h => simp at h; subst h; exact ⟨b, 0, _, rfl, h0', rfl⟩
    | i + 2, h => simp at h)

theorem ext_upd {w w' w2 : World} {g : Nat} (h : Ext w w') (hu : Upd w' w2 g) (hg : w.heap.size ≤ g) : Ext w w2 := Below.trans h (hu.below hg)
theorem ext3 {w w' : World} {A B C : Obj} (h : Ext (((w.alloc A).alloc B).alloc C) w') : Ext w w' := (((Ext.alloc _ _).trans (Ext.alloc _ _)).trans (Ext.alloc _ _)).trans h

/-- The cells of a leaf with bounds. -/
def cLeaf (nm : ByteArray) (ty mn mx : Int) (must : Bool) : List Value := [.string nm, .int .i64 1, .int .i64 ty, .int .u64 mn, .int .u64 mx, .slice none 0 0, .bool must, .int .i64 0, .slice none 0 0]
def cList (nm : ByteArray) (most : Int) (B n c : Nat) : List Value := [.string nm, .int .i64 3, .int .i64 0, .int .u64 0, .int .u64 0, .slice none 0 0, .bool false, .int .i64 most, .slice (some ⟨B, 0, none⟩) n c]
abbrev nUp : ByteArray := ⟨#[117, 112]⟩
abbrev nClass : ByteArray := ⟨#[99, 108, 97, 115, 115]⟩
abbrev nRule : ByteArray := ⟨#[114, 117, 108, 101]⟩
abbrev nDefault : ByteArray := ⟨#[100, 101, 102, 97, 117, 108, 116]⟩
abbrev nPort : ByteArray := ⟨#[112, 111, 114, 116]⟩
abbrev nSystem : ByteArray := ⟨#[115, 121, 115, 116, 101, 109]⟩
def vUp : Value := .agg (cLeaf nUp 3 0 0 false).toArray
def vDef : Value := .agg (cLeaf nDefault 6 0 0 true).toArray
def vClass (B : Nat) : Value := .agg (cList nClass 8 B 4 4).toArray
def vRule (B : Nat) : Value := .agg (cList nRule 16 B 3 3).toArray
def cPort (Bc Br : Nat) : List Value := cLeaf nUp 3 0 0 false ++ cList nClass 8 Bc 4 4 ++ cList nRule 16 Br 3 3 ++ cLeaf nDefault 6 0 0 true
def cRoot (B n c : Nat) : List Value := [.string ⟨#[]⟩, .int .i64 2, .int .i64 0, .int .u64 0, .int .u64 0, .slice none 0 0, .bool false, .int .i64 0, .slice (some ⟨B, 0, none⟩) n c]
def cClass1 : List Value := cLeaf ⟨#[113, 117, 97, 110, 116, 117, 109]⟩ 1 1500 100000 true ++ cLeaf ⟨#[114, 97, 116, 101]⟩ 2 0 1000000 true ++ cLeaf ⟨#[98, 117, 114, 115, 116]⟩ 1 1500 1000000 true ++ cLeaf ⟨#[108, 105, 109, 105, 116]⟩ 1 1 64 true
def cRule : List Value := cLeaf ⟨#[108, 111, 119]⟩ 1 0 65535 true ++ cLeaf ⟨#[104, 105, 103, 104]⟩ 1 0 65535 true ++ cLeaf nClass 6 0 0 true
/-- What spec.first gives: the root, and four rows, each behind the ones that it names. -/
def FirstPost (w w' : World) (v : Value) : Prop := ∃ Bk Bp Bc Br, v = .agg (cRoot Bk 2 2).toArray ∧ w.heap.size < Bc ∧ Bc < Br ∧ Br < Bp ∧ Bp < Bk ∧
  Blk w' Bk (cLeaf nSystem 5 0 0 false ++ cList nPort 4 Bp 4 4) 27 ∧ Blk w' Bp (cPort Bc Br) 27 ∧ Blk w' Bc cClass1 27 ∧ Blk w' Br cRule 27 ∧ Ext w w'
/-- It returns a value of which this holds. -/
def Ret (R : World → Value → Prop) (e : Ending) (w' : World) : Prop := ∃ v, e = .returned v ∧ R w' v
def spRoot (B : Nat) (cs : List Value) (n : Nat) : SP := ⟨fun v w => ∃ b, v = .agg (cRoot b n n).toArray ∧ B ≤ b ∧ Blk w b cs 27, fun _ _ _ hx ⟨b, h, l, k⟩ => ⟨b, h, l, k.ext hx⟩⟩
/-- A slice of one cell, in a block that holds this. -/
def spOne (x : Value) (t : TypeId) : SP := ⟨fun v w => ∃ b, v = .slice (some ⟨b, 0, none⟩) 1 1 ∧ Blk w b [x] t, fun _ _ _ hx ⟨b, h, k⟩ => ⟨b, h, k.ext hx⟩⟩
/-- A new row. -/
def spRow (B : Nat) (cs : List Value) (t : TypeId) (n : Nat) : SP := ⟨fun v w => ∃ b, v = .slice (some ⟨b, 0, none⟩) n n ∧ B ≤ b ∧ Blk w b cs t, fun _ _ _ hx ⟨b, h, l, k⟩ => ⟨b, h, l, k.ext hx⟩⟩
/-- A new box. -/
def spBox (B : Nat) (t : TypeId) (n : Nat) : SP := ⟨fun v w => ∃ b cs, v = .pointer (some ⟨b, 0, none⟩) ∧ B ≤ b ∧ Blk w b cs t ∧ cs.length = n, fun _ _ _ hx ⟨b, cs, h, l, k, m⟩ => ⟨b, cs, h, l, k.ext hx, m⟩⟩
def spPort (B : Nat) (cs : List Value) : SP := ⟨fun v w => ∃ b, v = .agg (cList nPort 4 b 4 4).toArray ∧ B ≤ b ∧ Blk w b cs 27, fun _ _ _ hx ⟨b, h, l, k⟩ => ⟨b, h, l, k.ext hx⟩⟩

set_option maxHeartbeats 1000000 in
set_option maxRecDepth 100000 in
theorem sp_first (w : World) : Calls Try.prog 86 #[] w (Ret (FirstPost w)) := by
  go_enter Try.func86, Try.ntmps86
  go_wp2_with fail
  refine (sp_from _ _ _).mono ?_
  rintro e _ ⟨rfl, rfl⟩
  go_wp2_with fail
  refine Calls.mono (sp_leafBM _ _ 1500 100000 _ (w.heap.size + 1) (w.heap.size + 1 + 1) _ ?_ ?_ ?_ ?_) ?_
  · go_simp
  · go_simp
  · go_simp
  · go_simp
  rintro e w1 ⟨rfl, hx⟩
  replace hx := ext3 hx
  have hxw1 := Hd.mk (((Ext.alloc w _).trans hx))
  have hb0 := Hd.mk ((Blk.new w _ 27).ext hx)
  have lw1 := Hd.mk (Nat.lt_of_lt_of_le (show w.heap.size < (w.alloc _).heap.size by rw [World.size_alloc]; omega) hx.size)
  clear hx
  go_wp2_with fail
  refine (sp_from _ _ _).mono ?_
  rintro e _ ⟨rfl, rfl⟩
  go_wp2_with fail
  refine Calls.mono (sp_leafBM _ _ 0 1000000 _ (w1.heap.size) (w1.heap.size + 1) _ ?_ ?_ ?_ ?_) ?_
  · go_simp
  · go_simp
  · go_simp
  · go_simp
  rintro e w2 ⟨rfl, hx⟩
  replace hx := ext3 hx
  have hxw2 := Hd.mk (hxw1.out.trans hx)
  replace hb0 := Hd.mk (hb0.out.ext hx)
  have lw2 := Hd.mk hx.size
  clear hx
  go_wp2_with fail
  refine (sp_from _ _ _).mono ?_
  rintro e _ ⟨rfl, rfl⟩
  go_wp2_with fail
  refine Calls.mono (sp_leafBM _ _ 1500 1000000 _ (w2.heap.size) (w2.heap.size + 1) _ ?_ ?_ ?_ ?_) ?_
  · go_simp
  · go_simp
  · go_simp
  · go_simp
  rintro e w3 ⟨rfl, hx⟩
  replace hx := ext3 hx
  have hxw3 := Hd.mk (hxw2.out.trans hx)
  replace hb0 := Hd.mk (hb0.out.ext hx)
  have lw3 := Hd.mk hx.size
  clear hx
  go_wp2_with fail
  refine (sp_from _ _ _).mono ?_
  rintro e _ ⟨rfl, rfl⟩
  go_wp2_with fail
  refine Calls.mono (sp_leafBM _ _ 1 64 _ (w3.heap.size) (w3.heap.size + 1) _ ?_ ?_ ?_ ?_) ?_
  · go_simp
  · go_simp
  · go_simp
  · go_simp
  rintro e w4 ⟨rfl, hx⟩
  replace hx := ext3 hx
  have hxw4 := Hd.mk (hxw3.out.trans hx)
  replace hb0 := Hd.mk (hb0.out.ext hx)
  have lw4 := Hd.mk hx.size
  clear hx
  go_wp2_with fail
  refine (sp_list _ _ _ _ _ _).mono ?_
  rintro e w5 ⟨rfl, hx⟩
  have hxw5 := Hd.mk (hxw4.out.trans ((Ext.alloc _ _).trans hx))
  replace hb0 := Hd.mk ((hb0.out.alloc _).ext hx)
  have hBc := Hd.mk ((Blk.new w4 _ 27).ext hx)
  have lw5 := Hd.mk (Nat.lt_of_lt_of_le (show w4.heap.size < (w4.alloc _).heap.size by rw [World.size_alloc]; omega) hx.size)
  clear hx
  go_wp2_with fail
  refine (sp_from _ _ _).mono ?_
  rintro e _ ⟨rfl, rfl⟩
  go_wp2_with fail
  refine Calls.mono (sp_leafBM _ _ 0 65535 _ (w5.heap.size + 1) (w5.heap.size + 1 + 1) _ ?_ ?_ ?_ ?_) ?_
  · go_simp
  · go_simp
  · go_simp
  · go_simp
  rintro e w6 ⟨rfl, hx⟩
  replace hx := ext3 hx
  have hxw6 := Hd.mk (hxw5.out.trans ((Ext.alloc w5 _).trans hx))
  replace hb0 := Hd.mk ((hb0.out.alloc _).ext hx)
  replace hBc := Hd.mk ((hBc.out.alloc _).ext hx)
  have hb1 := Hd.mk ((Blk.new w5 _ 27).ext hx)
  have lw6 := Hd.mk (Nat.lt_of_lt_of_le (show w5.heap.size < (w5.alloc _).heap.size by rw [World.size_alloc]; omega) hx.size)
  clear hx
  go_wp2_with fail
  refine (sp_from _ _ _).mono ?_
  rintro e _ ⟨rfl, rfl⟩
  go_wp2_with fail
  refine Calls.mono (sp_leafBM _ _ 0 65535 _ (w6.heap.size) (w6.heap.size + 1) _ ?_ ?_ ?_ ?_) ?_
  · go_simp
  · go_simp
  · go_simp
  · go_simp
  rintro e w7 ⟨rfl, hx⟩
  replace hx := ext3 hx
  have hxw7 := Hd.mk (hxw6.out.trans hx)
  replace hb0 := Hd.mk (hb0.out.ext hx)
  replace hBc := Hd.mk (hBc.out.ext hx)
  replace hb1 := Hd.mk (hb1.out.ext hx)
  have lw7 := Hd.mk hx.size
  clear hx
  go_wp2_with fail
  refine Calls.mono (sp_leafM _ _ _ _ ?_) ?_
  · go_simp
  rintro e w8 ⟨rfl, hx⟩
  have hxw8 := Hd.mk (hxw7.out.trans ((Ext.alloc _ _).trans hx))
  replace hb0 := Hd.mk ((hb0.out.alloc _).ext hx)
  replace hBc := Hd.mk ((hBc.out.alloc _).ext hx)
  replace hb1 := Hd.mk ((hb1.out.alloc _).ext hx)
  have lw8 := Hd.mk (Nat.le_trans (show w7.heap.size ≤ (w7.alloc _).heap.size by rw [World.size_alloc]; omega) hx.size)
  clear hx
  go_wp2_with fail
  refine (sp_list _ _ _ _ _ _).mono ?_
  rintro e w9 ⟨rfl, hx⟩
  have hxw9 := Hd.mk (hxw8.out.trans ((Ext.alloc _ _).trans hx))
  replace hb0 := Hd.mk ((hb0.out.alloc _).ext hx)
  replace hBc := Hd.mk ((hBc.out.alloc _).ext hx)
  replace hb1 := Hd.mk ((hb1.out.alloc _).ext hx)
  have hBr := Hd.mk ((Blk.new w8 _ 27).ext hx)
  have lw9 := Hd.mk (Nat.lt_of_lt_of_le (show w8.heap.size < (w8.alloc _).heap.size by rw [World.size_alloc]; omega) hx.size)
  clear hx
  go_wp2_with fail
  have hb2 := Hd.mk (Blk.new w9 #[.string ⟨#[114, 117, 108, 101]⟩, .int .i64 3, .int .i64 0, .int .u64 0, .int .u64 0, .slice none 0 0, .bool false, .int .i64 16, .slice (some ⟨w8.heap.size, 0, none⟩) 3 3] 27)
  replace hb0 := Hd.mk (hb0.out.alloc (.cells #[.string ⟨#[114, 117, 108, 101]⟩, .int .i64 3, .int .i64 0, .int .u64 0, .int .u64 0, .slice none 0 0, .bool false, .int .i64 16, .slice (some ⟨w8.heap.size, 0, none⟩) 3 3] 27))
  replace hb1 := Hd.mk (hb1.out.alloc (.cells #[.string ⟨#[114, 117, 108, 101]⟩, .int .i64 3, .int .i64 0, .int .u64 0, .int .u64 0, .slice none 0 0, .bool false, .int .i64 16, .slice (some ⟨w8.heap.size, 0, none⟩) 3 3] 27))
  replace hBc := Hd.mk (hBc.out.alloc (.cells #[.string ⟨#[114, 117, 108, 101]⟩, .int .i64 3, .int .i64 0, .int .u64 0, .int .u64 0, .slice none 0 0, .bool false, .int .i64 16, .slice (some ⟨w8.heap.size, 0, none⟩) 3 3] 27))
  replace hBr := Hd.mk (hBr.out.alloc (.cells #[.string ⟨#[114, 117, 108, 101]⟩, .int .i64 3, .int .i64 0, .int .u64 0, .int .u64 0, .slice none 0 0, .bool false, .int .i64 16, .slice (some ⟨w8.heap.size, 0, none⟩) 3 3] 27))
  have hxW := Hd.mk (hxw9.out.trans (Ext.alloc w9 (.cells #[.string ⟨#[114, 117, 108, 101]⟩, .int .i64 3, .int .i64 0, .int .u64 0, .int .u64 0, .slice none 0 0, .bool false, .int .i64 16, .slice (some ⟨w8.heap.size, 0, none⟩) 3 3] 27)))
  have lW := Hd.mk (show w9.heap.size < (w9.alloc (.cells #[.string ⟨#[114, 117, 108, 101]⟩, .int .i64 3, .int .i64 0, .int .u64 0, .int .u64 0, .slice none 0 0, .bool false, .int .i64 16, .slice (some ⟨w8.heap.size, 0, none⟩) 3 3] 27)).heap.size by rw [World.size_alloc]; omega)
  generalize w9.alloc (.cells #[.string ⟨#[114, 117, 108, 101]⟩, .int .i64 3, .int .i64 0, .int .u64 0, .int .u64 0, .slice none 0 0, .bool false, .int .i64 16, .slice (some ⟨w8.heap.size, 0, none⟩) 3 3] 27) = W at *
  refine Flow.wp_region_flow_l (fun t => match t with
    | 28 => SP.eq vUp
    | 29 => SP.eq (vClass w4.heap.size)
    | 30 => SP.eq (vRule w8.heap.size)
    | 31 => spOne (.func (.func 134) #[] #[]) 153
    | 32 => SP.eq vDef
    | 33 => spRow W.heap.size (cPort w4.heap.size w8.heap.size) 27 4
    | 34 => spPort W.heap.size (cPort w4.heap.size w8.heap.size)
    | 3 => spBox W.heap.size 27 9
    | _ => SP.any) 8 (by kernel_rfl) 39 rfl (by kernel_rfl) ?_ ?_
  · refine ⟨?_, ?_, ?_, ?_, ?_, ?_, ?_, ?_, trivial⟩
    · intro a W1 hk
      refine Flow.does_intro rfl (fun K hK => ?_)
      clear hk hb0 hb1 hb2 hBc hBr
      go_simp
      refine (sp_leaf0 _ _ _).mono ?_
      rintro e W2 ⟨rfl, hx⟩
      exact hK _ _ hx (fun d hd => by cases hd; rfl)
    · intro a W1 hk
      refine Flow.does_intro rfl (fun K hK => ?_)
      have e1 : a.tmps[1]?.getD undef = .pointer (some ⟨w5.heap.size, 0, none⟩) := hk.o 1 (by kernel_rfl)
      have g := (hb1.out.ext ((Ext.drew W).trans hk.ext)).cell
      clear hk hb0 hb1 hb2 hBc hBr
      go_simp
      exact hK _ _ (Ext.refl _) (fun d hd => by cases hd; rfl)
    · intro a W1 hk
      refine Flow.does_intro rfl (fun K hK => ?_)
      have e1 : a.tmps[2]?.getD undef = .pointer (some ⟨w9.heap.size, 0, none⟩) := hk.o 2 (by kernel_rfl)
      have g := (hb2.out.ext ((Ext.drew W).trans hk.ext)).cell
      clear hk hb0 hb1 hb2 hBc hBr
      go_simp
      exact hK _ _ (Ext.refl _) (fun d hd => by cases hd; rfl)
    · intro a W1 hk
      refine Flow.does_intro rfl (fun K hK => ?_)
      clear hk hb0 hb1 hb2 hBc hBr
      go_simp
      exact hK _ _ (Ext.alloc _ _) (fun d hd => by cases hd; exact ⟨_, rfl, Blk.new _ _ _⟩)
    · intro a W1 hk
      refine Flow.does_intro rfl (fun K hK => ?_)
      obtain ⟨b, e1, hb⟩ := (hk.v 31 (by kernel_rfl) : (spOne _ _).p _ _)
      have g := hb.cell 0
      have g' := Hd.mk g
      clear hk hb0 hb1 hb2 hBc hBr g hb
      go_simp
      refine (sp_leafM _ _ _ _ g'.out).mono ?_
      rintro e W2 ⟨rfl, hx⟩
      exact hK _ _ hx (fun d hd => by cases hd; rfl)
    · intro a W1 hk
      refine Flow.does_intro rfl (fun K hK => ?_)
      have e28 : a.tmps[28]?.getD undef = _ := hk.v 28 (by kernel_rfl)
      have e29 : a.tmps[29]?.getD undef = _ := hk.v 29 (by kernel_rfl)
      have e30 : a.tmps[30]?.getD undef = _ := hk.v 30 (by kernel_rfl)
      have e32 : a.tmps[32]?.getD undef = _ := hk.v 32 (by kernel_rfl)
      have hs := ((Ext.drew W).trans hk.ext).size
      simp only [vUp, vClass, vRule, vDef, cLeaf, cList] at e28 e29 e30 e32
      clear hk hb0 hb1 hb2 hBc hBr
      go_simp
      exact hK _ _ (Ext.alloc _ _) (fun d hd => by cases hd; exact ⟨_, rfl, hs, Blk.new _ _ _⟩)
    · intro a W1 hk
      refine Flow.does_intro rfl (fun K hK => ?_)
      obtain ⟨b, e1, hle, hb⟩ := (hk.v 33 (by kernel_rfl) : (spRow _ _ _ _).p _ _)
      have hb' := Hd.mk hb
      clear hk hb0 hb1 hb2 hBc hBr hb
      go_simp
      refine (sp_list _ _ _ _ _ _).mono ?_
      rintro e W2 ⟨rfl, hx⟩
      exact hK _ _ hx (fun d hd => by cases hd; exact ⟨b, rfl, hle, hb'.out.ext hx⟩)
    · intro a W1 hk
      refine Flow.does_intro rfl (fun K hK => ?_)
      have hs := ((Ext.drew W).trans hk.ext).size
      clear hk hb0 hb1 hb2 hBc hBr
      go_simp
      exact hK _ _ (Ext.alloc _ _) (fun d hd => by cases hd; exact ⟨_, _, rfl, hs, Blk.new _ _ _, rfl⟩)
  · intro a W1 he
    have hxX := Hd.mk ((Ext.drew W).trans he.ext)
    obtain ⟨us, hA, hF⟩ := he.out [28, 29, 30, 31, 32, 33, 34, 3] (by kernel_rfl)
    simp only [Flow.fillL, List.contains_cons, List.contains_nil, Nat.reduceBEq, Bool.or_false, Bool.false_or, Bool.or_true, Bool.true_or, ↓reduceIte, Nat.reduceAdd, Bool.false_eq_true] at hA
    subst hA
    have f34 := hF 34 (by simp)
    have f3 := hF 3 (by simp)
    clear hF he
    generalize us 28 = u28 at *
    generalize us 29 = u29 at *
    generalize us 30 = u30 at *
    generalize us 31 = u31 at *
    generalize us 32 = u32 at *
    generalize us 33 = u33 at *
    generalize us 34 = u34 at *
    generalize us 3 = u3 at *
    obtain ⟨Bp, rfl, hBp1, hBp2⟩ := (f34 : (spPort _ _).p _ _)
    obtain ⟨b3, cs3, rfl, hb31, hb32, hb33⟩ := (f3 : (spBox _ _ _).p _ _)
    have hne : b3 ≠ Bp := by
      rintro rfl
      have h1 := hb32.inj hBp2
      rw [h1] at hb33
      simp [cPort, cLeaf, cList] at hb33
    have hw48 := Hd.mk (show w4.heap.size < w8.heap.size by have := lw5.out; have := lw6.out; have := lw7.out; have := lw8.out; omega)
    have hw1 := Hd.mk (show w.heap.size < w4.heap.size by have := lw1.out; have := lw2.out; have := lw3.out; have := lw4.out; omega)
    have hBcr := Hd.mk (show w8.heap.size < W.heap.size by have := lw9.out; have := lW.out; omega)
    have kBpl0 := Hd.mk hBp2.lt
    have hBcl := Hd.mk (show w4.heap.size < W.heap.size by have := lw5.out; have := lw6.out; have := lw7.out; have := lw8.out; have := lw9.out; have := lW.out; omega)
    have kBp1 := Hd.mk hBp1
    have kb31 := Hd.mk hb31
    have kb32 := Hd.mk hb32
    have kb33 := Hd.mk hb33
    have kne := Hd.mk hne
    have kBp2 := Hd.mk hBp2
    have kb0 := Hd.mk (hb0.out.ext hxX.out)
    have kBc := Hd.mk (hBc.out.ext hxX.out)
    have kBr := Hd.mk (hBr.out.ext hxX.out)
    clear hBp1 hb31 hb32 hb33 hne hBp2 hb0 hb1 hb2 hBc hBr
    refine (show wpList _ _ _ [⟨none, .store 27 (.tmp 3) (.tmp 34), _, _, _, none⟩] _ _ from ?_)
    refine wpl_store_box 27 (.tmp 3) (.tmp 34) _ _ _ b3 (cList nPort 4 Bp 4 4).toArray 27 cs3 kb32.out rfl rfl size27 kb33.out rfl ?_
    intro X hu hbX
    have kbX := Hd.mk hbX
    have kBpl := Hd.mk (show Bp < X.heap.size by rw [hu.size]; exact kBpl0.out)
    have lX := Hd.mk (show W.heap.size ≤ X.heap.size by rw [hu.size]; exact hxX.out.size)
    have hxX2 := Hd.mk (show Ext w X from ext_upd (hxW.out.trans hxX.out) hu (Nat.le_trans hxW.out.size kb31.out))
    replace kBp2 := Hd.mk (hu.blk kne.out.symm kBp2.out)
    have l0 : w.heap.size ≠ b3 := by have := hxW.out.size; have := lw1.out; have := kb31.out; have := (hxw9.out).size; have := lW.out; omega
    replace kb0 := Hd.mk (hu.blk l0 kb0.out)
    have l1 : w4.heap.size ≠ b3 := by have := hBcl.out; have := kb31.out; omega
    have l2 : w8.heap.size ≠ b3 := by have := lw9.out; have := lW.out; have := kb31.out; omega
    replace kBc := Hd.mk (hu.blk l1 kBc.out)
    replace kBr := Hd.mk (hu.blk l2 kBr.out)
    clear hbX hu l0 l1 l2
    go_wp2_with fail
    refine Flow.wp_region_flow_l (fun t => match t with
      | 35 => SP.eq (.agg (cLeaf nSystem 5 0 0 false).toArray)
      | 36 => SP.eq (.agg (cList nPort 4 Bp 4 4).toArray)
      | 37 => spRow X.heap.size (cLeaf nSystem 5 0 0 false ++ cList nPort 4 Bp 4 4) 27 2
      | 38 => spRoot X.heap.size (cLeaf nSystem 5 0 0 false ++ cList nPort 4 Bp 4 4) 2
      | _ => SP.any) 4 (by kernel_rfl) 39 rfl (by kernel_rfl) ?_ ?_
    · refine ⟨?_, ?_, ?_, ?_, trivial⟩
      · intro a W2 hk
        refine Flow.does_intro rfl (fun K hK => ?_)
        clear hk
        go_simp
        refine (sp_leaf0 _ _ _).mono ?_
        rintro e W3 ⟨rfl, hx⟩
        exact hK _ _ hx (fun d hd => by cases hd; rfl)
      · intro a W2 hk
        refine Flow.does_intro rfl (fun K hK => ?_)
        have e1 : a.tmps[3]?.getD undef = .pointer (some ⟨b3, 0, none⟩) := hk.o 3 (by kernel_rfl)
        have g := (kbX.out.ext ((Ext.drew X).trans hk.ext)).cell
        simp only [cList] at g
        clear hk
        go_simp
        exact hK _ _ (Ext.refl _) (fun d hd => by cases hd; rfl)
      · intro a W2 hk
        refine Flow.does_intro rfl (fun K hK => ?_)
        have e1 : a.tmps[35]?.getD undef = _ := hk.v 35 (by kernel_rfl)
        have e2 : a.tmps[36]?.getD undef = _ := hk.v 36 (by kernel_rfl)
        have hs := ((Ext.drew X).trans hk.ext).size
        simp only [cLeaf, cList] at e1 e2
        clear hk
        go_simp
        exact hK _ _ (Ext.alloc _ _) (fun d hd => by cases hd; exact ⟨_, rfl, hs, Blk.new _ _ _⟩)
      · intro a W2 hk
        refine Flow.does_intro rfl (fun K hK => ?_)
        obtain ⟨b, e1, hle, hb⟩ := (hk.v 37 (by kernel_rfl) : (spRow _ _ _ _).p _ _)
        have hb' := Hd.mk hb
        clear hk hb
        go_simp
        exact hK _ _ (Ext.refl _) (fun d hd => by cases hd; exact ⟨b, rfl, hle, hb'.out⟩)
    · intro a W2 he
      have hxX3 := Hd.mk ((Ext.drew X).trans he.ext)
      obtain ⟨us, hA, hF⟩ := he.out [35, 36, 37, 38] (by kernel_rfl)
      simp only [Flow.fillL, List.contains_cons, List.contains_nil, Nat.reduceBEq, Bool.or_false, Bool.false_or, Bool.or_true, Bool.true_or, ↓reduceIte, Nat.reduceAdd, Bool.false_eq_true] at hA
      subst hA
      have f38 := hF 38 (by simp)
      clear hF he
      generalize us 35 = u35 at *
      generalize us 36 = u36 at *
      generalize us 37 = u37 at *
      generalize us 38 = u38 at *
      obtain ⟨Bk, rfl, hBk1, hBk2⟩ := (f38 : (spRoot _ _ _).p _ _)
      have kBk1 := Hd.mk hBk1
      have kBk2 := Hd.mk hBk2
      replace kb0 := Hd.mk (kb0.out.ext hxX3.out)
      replace kBp2 := Hd.mk (kBp2.out.ext hxX3.out)
      replace kBc := Hd.mk (kBc.out.ext hxX3.out)
      replace kBr := Hd.mk (kBr.out.ext hxX3.out)
      have kBpX := Hd.mk (show Bp < X.heap.size by have := kBp2.out; exact kBpl.out)
      clear hBk1 hBk2
      refine (show wpList _ _ _ [⟨none, .store 27 (.tmp 0) (.tmp 38), _, _, _, none⟩] _ _ from ?_)
      refine wpl_store_box 27 (.tmp 0) (.tmp 38) _ _ _ w.heap.size (cRoot Bk 2 2).toArray 27 _ kb0.out rfl rfl size27 rfl rfl ?_
      intro Y hu hbY
      have o1 := lw1.out
      have o2 := hxW.out.size
      have o3 := lX.out
      have o4 := kBk1.out
      have o5 := kBp1.out
      have o6 := lw9.out
      have o7 := lW.out
      have o8 := lw5.out
      have o9 := hBcl.out
      have o10 := hxw4.out.size
      have o11 := hxw8.out.size
      have o12 := hBcr.out
      have o13 := kBpX.out
      have o14 := hw48.out
      have o15 := hw1.out
      have hfin : FirstPost w Y (.agg (cRoot Bk 2 2).toArray) :=
        ⟨Bk, Bp, w4.heap.size, w8.heap.size, rfl, by omega, by omega, by omega, by omega, hu.blk (by omega) kBk2.out, hu.blk (by omega) kBp2.out, hu.blk (by omega) kBc.out, hu.blk (by omega) kBr.out, ext_upd (hxX2.out.trans hxX3.out) hu (Nat.le_refl _)⟩
      have hfin' := Hd.mk hfin
      have hbY' := Hd.mk hbY
      clear hfin hbY hu o1 o2 o3 o4 o5 o6 o7 o8 o9 o10 o11 o12 o13 o14 o15
      go_wp2_with fail
      exact ret_box rfl w.heap.size _ 27 _ hbY'.out rfl rfl Try.underlying27 rfl size27 ⟨_, rfl, hfin'.out⟩

end Go.Proofs.Ytgkgedjmnbjalaa
