/- Get at no way; diff's clone.
   Conditions: none. -/
import Derived.Test.YtgkgedjmnbjalaaTH
set_option linter.unusedSimpArgs false
namespace Go.Proofs.Ytgkgedjmnbjalaa
open Go.RowKit Go.Sort

set_option maxRecDepth 100000 in
set_option maxHeartbeats 1000000 in
theorem at_nil (p : Addr) (w : World) : Calls Try.prog 120 #[.pointer (some p), .slice none 0 0] w fun e w' => e = .returned (.pointer (some p)) ∧ w' = w := by
  go_enter Try.func120, Try.ntmps120
  go_wp2
  go_loopg [0, 10] 1 (fun q p0 i wr => wr = w ∧ p0 = .pointer (some p) ∧ i = .int .i64 0)
  case atStart => exact ⟨rfl, rfl, rfl⟩
  case round =>
  obtain ⟨rfl, rfl, rfl⟩ := hrel
  go_wp2
  go_ret
  exact ⟨rfl, rfl⟩

set_option maxRecDepth 100000 in
set_option maxHeartbeats 2000000 in
theorem get_nil (t : T) (S : Nat → Prop) (w : World) (c : List Value) (h : RT S w t c) :
    Calls Try.prog 68 #[.agg c.toArray, .slice none 0 0] w (Ret fun w' v => ∃ c' : List Value, v = .tuple #[.agg c'.toArray, .bool true] ∧ RT (w.heap.size ≤ ·) w' t c' ∧ Ext w w') := by
  obtain ⟨K, kc, rfl, hrow⟩ := h.row
  have kr := Hd.mk h
  clear hrow h
  simp only [cT] at kr ⊢
  go_enter Try.func68, Try.ntmps68
  go_wp2_with fail
  have kx := Hd.mk ((Ext.alloc w (.cells #[.string t.name, .string t.key, .int .i64 t.kind, .int .u64 t.num, .string t.text, .slice K t.kids.length kc] 54)).trans (Ext.alloc _ (.cells #[.string ⟨#[]⟩, .string ⟨#[]⟩, .int .i64 0, .int .u64 0, .string ⟨#[]⟩, .slice none 0 0] 54)))
  have kA := Hd.mk ((Blk.new w #[.string t.name, .string t.key, .int .i64 t.kind, .int .u64 t.num, .string t.text, .slice K t.kids.length kc] 54).alloc (.cells #[.string ⟨#[]⟩, .string ⟨#[]⟩, .int .i64 0, .int .u64 0, .string ⟨#[]⟩, .slice none 0 0] 54))
  have kR := Hd.mk (Blk.new2 w (.cells #[.string t.name, .string t.key, .int .i64 t.kind, .int .u64 t.num, .string t.text, .slice K t.kids.length kc] 54) #[.string ⟨#[]⟩, .string ⟨#[]⟩, .int .i64 0, .int .u64 0, .string ⟨#[]⟩, .slice none 0 0] 54)
  generalize (w.alloc _).alloc _ = W at *
  refine Calls.mono (at_nil _ _) ?_
  rintro e w1 ⟨rfl, rfl⟩
  have gA := kA.out.cell
  go_wp2_with fail
  refine Calls.mono (tree_clone _ t S _ _ (Nat.le_refl _) (kr.out.ext kx.out)) ?_
  rintro e w1 ⟨_, rfl, c', rfl, hr', hx⟩
  obtain ⟨K2, kc2, rfl, _⟩ := hr'.row
  have hr' := Hd.mk hr'
  have kR1 := Hd.mk (kR.out.ext hx)
  have kx1 := Hd.mk (kx.out.trans hx)
  have hsz := Hd.mk kx.out.size
  have hlt := Hd.mk kR.out.lt
  clear gA kA kR hx
  simp only [cT] at hr' ⊢
  have gR := kR1.out.cell
  have fR := kR1.out.free
  go_wp2_with fail
  have hu := Hd.mk ((((((Upd.setCell w1 ⟨w.heap.size + 1, 0, none⟩ (.string t.name)).trans (Upd.setCell _ ⟨w.heap.size + 1, 1, none⟩ (.string t.key))).trans (Upd.setCell _ ⟨w.heap.size + 1, 2, none⟩ (.int .i64 t.kind))).trans (Upd.setCell _ ⟨w.heap.size + 1, 3, none⟩ (.int .u64 t.num))).trans (Upd.setCell _ ⟨w.heap.size + 1, 4, none⟩ (.string t.text))).trans (Upd.setCell _ ⟨w.heap.size + 1, 5, none⟩ (.slice K2 t.kids.length kc2)))
  exact ret_box2 rfl (w.heap.size + 1) _ 54 _ ((((((kR1.out.setCell 0 (.string t.name)).setCell 1 (.string t.key)).setCell 2 (.int .i64 t.kind)).setCell 3 (.int .u64 t.num)).setCell 4 (.string t.text)).setCell 5 (.slice K2 t.kids.length kc2)) rfl rfl Try.underlying54 rfl size54
    ⟨_, rfl, _, rfl, (hr'.out.upd hu.out (Nat.not_le.2 hlt.out)).mono (fun b _ hb => Nat.le_trans hsz.out hb), Below.trans kx1.out (hu.out.below (Nat.le_succ _))⟩

set_option maxRecDepth 100000 in
set_option maxHeartbeats 2000000 in
theorem diff_clone (t : T) (S : Nat → Prop) (w : World) (c : List Value) (h : RT S w t c) : Calls Try.prog 96 #[.agg c.toArray] w (Ret (ClPost t w)) := by
  obtain ⟨K, kc, rfl, hrow⟩ := h.row
  have kr := Hd.mk h
  clear hrow h
  simp only [cT] at kr ⊢
  go_enter Try.func96, Try.ntmps96
  go_wp2_with fail
  have kx := Hd.mk ((Ext.alloc w (.cells #[.string t.name, .string t.key, .int .i64 t.kind, .int .u64 t.num, .string t.text, .slice K t.kids.length kc] 54)).trans (Ext.alloc _ (.cells #[.string ⟨#[]⟩, .string ⟨#[]⟩, .int .i64 0, .int .u64 0, .string ⟨#[]⟩, .slice none 0 0] 54)))
  have kR := Hd.mk (Blk.new2 w (.cells #[.string t.name, .string t.key, .int .i64 t.kind, .int .u64 t.num, .string t.text, .slice K t.kids.length kc] 54) #[.string ⟨#[]⟩, .string ⟨#[]⟩, .int .i64 0, .int .u64 0, .string ⟨#[]⟩, .slice none 0 0] 54)
  generalize (w.alloc _).alloc _ = W at *
  refine Calls.mono (get_nil t S _ _ (kr.out.ext kx.out)) ?_
  rintro e w1 ⟨_, rfl, c', rfl, hr', hx⟩
  obtain ⟨K2, kc2, rfl, _⟩ := hr'.row
  have hr' := Hd.mk hr'
  have kR1 := Hd.mk (kR.out.ext hx)
  have kx1 := Hd.mk (kx.out.trans hx)
  have hsz := Hd.mk kx.out.size
  have hlt := Hd.mk kR.out.lt
  clear kR hx
  simp only [cT] at hr' ⊢
  have kR2 := Hd.mk (kR1.out.alloc (.cells #[.string t.name, .string t.key, .int .i64 t.kind, .int .u64 t.num, .string t.text, .slice K2 t.kids.length kc2] 54))
  have kx2 := Hd.mk (kx1.out.trans (Ext.alloc w1 (.cells #[.string t.name, .string t.key, .int .i64 t.kind, .int .u64 t.num, .string t.text, .slice K2 t.kids.length kc2] 54)))
  have hr2 := Hd.mk (hr'.out.ext (Ext.alloc w1 (.cells #[.string t.name, .string t.key, .int .i64 t.kind, .int .u64 t.num, .string t.text, .slice K2 t.kids.length kc2] 54)))
  have gR := kR2.out.cell
  have fR := kR2.out.free
  go_wp2_with fail
  have hu := Hd.mk ((((((Upd.setCell (w1.alloc (.cells #[.string t.name, .string t.key, .int .i64 t.kind, .int .u64 t.num, .string t.text, .slice K2 t.kids.length kc2] 54)) ⟨w.heap.size + 1, 0, none⟩ (.string t.name)).trans (Upd.setCell _ ⟨w.heap.size + 1, 1, none⟩ (.string t.key))).trans (Upd.setCell _ ⟨w.heap.size + 1, 2, none⟩ (.int .i64 t.kind))).trans (Upd.setCell _ ⟨w.heap.size + 1, 3, none⟩ (.int .u64 t.num))).trans (Upd.setCell _ ⟨w.heap.size + 1, 4, none⟩ (.string t.text))).trans (Upd.setCell _ ⟨w.heap.size + 1, 5, none⟩ (.slice K2 t.kids.length kc2)))
  exact ret_box rfl (w.heap.size + 1) _ 54 _ ((((((kR2.out.setCell 0 (.string t.name)).setCell 1 (.string t.key)).setCell 2 (.int .i64 t.kind)).setCell 3 (.int .u64 t.num)).setCell 4 (.string t.text)).setCell 5 (.slice K2 t.kids.length kc2)) rfl rfl Try.underlying54 rfl size54
    ⟨_, rfl, _, rfl, (hr2.out.upd hu.out (Nat.not_le.2 hlt.out)).mono (fun b _ hb => Nat.le_trans hsz.out hb), Below.trans kx2.out (hu.out.below (Nat.le_succ _))⟩
end Go.Proofs.Ytgkgedjmnbjalaa
