/- Small laws on memory, used by all walks: a store into a box of one's own, results that lie in memory, blocks that are told by what they hold.
   Conditions: none. -/
import Derived.Test.YtgkgedjmnbjalaaProg
import Derived.Test.YtgkgedjmnbjalaaFlow
import Derived.WalkKit
import Derived.KernelRfl
import Derived.Deep.LoopGhost
import Derived.Maps.AppendAt
namespace Go.Proofs.Ytgkgedjmnbjalaa
open Go.RowKit

theorem bcell {W w1 : World} (hb : Ext W w1) : (∀ b o, b < W.heap.size → w1.cell? ⟨b, o, none⟩ = W.cell? ⟨b, o, none⟩) ∧ (∀ b o, b < W.heap.size → w1.frozen? ⟨b, o, none⟩ = W.frozen? ⟨b, o, none⟩) :=
  ⟨fun b o h => Below.cell hb (p := ⟨b, o, none⟩) h, fun b o h => Below.frozen hb (p := ⟨b, o, none⟩) h⟩

theorem heap_alloc (w : World) (o : Obj) (k : Nat) : (w.alloc o).heap[k]? = if k = w.heap.size then some o else w.heap[k]? := by
  show (w.heap.push o)[k]? = _
  rw [Array.getElem?_push]
theorem heap_lt {w : World} {b : Nat} {o : Obj} (h : w.heap[b]? = some o) : b < w.heap.size := by
  rcases Nat.lt_or_ge b w.heap.size with h' | h'
  · exact h'
  · simp [Array.getElem?_eq_none h'] at h

/-- Block g holds, and nobody else shares it with a string. -/
def Blk (w : World) (g : Nat) (cs : List Value) (t : TypeId) : Prop := w.heap[g]? = some (.cells cs.toArray t (0, 0))
theorem Blk.cell {w : World} {g : Nat} {cs : List Value} {t : TypeId} (h : Blk w g cs t) (k : Nat) : w.cell? ⟨g, k, none⟩ = cs[k]? := by
  rw [cell_of_row w g k _ _ _ h]; simp
theorem Blk.free {w : World} {g : Nat} {cs : List Value} {t : TypeId} (h : Blk w g cs t) (k : Nat) : w.frozen? ⟨g, k, none⟩ = false := frozen_of_row w g k _ t h
theorem Blk.lt {w : World} {g : Nat} {cs : List Value} {t : TypeId} (h : Blk w g cs t) : g < w.heap.size := heap_lt h
theorem Blk.ext {w w' : World} (hx : Ext w w') {g : Nat} {cs : List Value} {t : TypeId} (h : Blk w g cs t) : Blk w' g cs t := Ext.heap hx h
theorem Blk.below {B : Nat} {w w' : World} (hx : Below B w w') {g : Nat} (hg : g < B) {cs : List Value} {t : TypeId} (h : Blk w g cs t) : Blk w' g cs t := (hx.block g hg).trans h
theorem Blk.inj {w : World} {g : Nat} {cs ds : List Value} {t t' : TypeId} (h : Blk w g cs t) (k : Blk w g ds t') : cs = ds := by
  unfold Blk at h k
  rw [h] at k
  simp only [Option.some.injEq, Obj.cells.injEq] at k
  exact List.toArray_inj k.1
theorem Blk.new (w : World) (cs : Array Value) (t : TypeId) : Blk (w.alloc (.cells cs t)) w.heap.size cs.toList t := by
  unfold Blk
  rw [heap_alloc, if_pos rfl]
theorem Blk.alloc {w : World} {g : Nat} {cs : List Value} {t : TypeId} (h : Blk w g cs t) (o : Obj) : Blk (w.alloc o) g cs t := by
  unfold Blk
  rw [heap_alloc, if_neg (Nat.ne_of_lt h.lt)]
  exact h

theorem Blk.new2 (w : World) (A : Obj) (cs : Array Value) (t : TypeId) : Blk ((w.alloc A).alloc (.cells cs t)) (w.heap.size + 1) cs.toList t := by
  have := Blk.new (w.alloc A) cs t
  simpa using this

/-- One block has turned, nothing else. -/
structure Upd (w w' : World) (g : Nat) : Prop where
  os : w'.os = w.os
  tape : w'.tape = w.tape
  output : w'.output = w.output
  size : w'.heap.size = w.heap.size
  block : ∀ k, k ≠ g → w'.heap[k]? = w.heap[k]?
theorem Upd.below {w w' : World} {g B : Nat} (h : Upd w w' g) (hB : B ≤ g) : Below B w w' := ⟨h.os, h.tape, h.output, Nat.le_of_eq h.size.symm, fun k hk => h.block k (by omega)⟩
theorem Upd.blk {w w' : World} {g k : Nat} (h : Upd w w' g) (hk : k ≠ g) {cs : List Value} {t : TypeId} (hb : Blk w k cs t) : Blk w' k cs t := (h.block k hk).trans hb
theorem Upd.trans {a b c : World} {g : Nat} (h : Upd a b g) (k : Upd b c g) : Upd a c g :=
  ⟨k.os.trans h.os, k.tape.trans h.tape, k.output.trans h.output, k.size.trans h.size, fun i hi => (k.block i hi).trans (h.block i hi)⟩
theorem Upd.setRow (w : World) (g : Nat) (cs : Array Value) : Upd w (w.setRow g cs) g := ⟨rfl, rfl, rfl, by simp, fun k hk => setRow_other w g k cs hk⟩
theorem Upd.setCell (w : World) (a : Addr) (v : Value) : Upd w (w.setCell a v) a.block := ⟨rfl, rfl, rfl, by simp, fun k hk => heap_setCell_other w a k v hk⟩
theorem Blk.setRow {w : World} {g : Nat} {cs : List Value} {t : TypeId} (h : Blk w g cs t) (ds : Array Value) : Blk (w.setRow g ds) g ds.toList t := setRow_heap w g _ ds t _ h
theorem Blk.setCell {w : World} {g : Nat} {cs : List Value} {t : TypeId} (h : Blk w g cs t) (i : Nat) (v : Value) : Blk (w.setCell ⟨g, i, none⟩ v) g (cs.set i v) t := by
  unfold Blk
  rw [heap_setCell_same w g i _ t v h]
  simp
theorem Blk.setCell_other {w : World} {g : Nat} {cs : List Value} {t : TypeId} (h : Blk w g cs t) {a : Addr} (ha : g ≠ a.block) (v : Value) : Blk (w.setCell a v) g cs t := (heap_setCell_other w a g v ha).trans h

section
variable {P : Program} {ops : Array Oper} {rest : List Oper} {a : Act} {w : World} {Q : Exit → Act → World → Prop}
/-- A guard for the walk: the next operation is this one. -/
theorem at_op (op : Op) {d : Option Tmp} {p1 : TypeId} {p2 : String} {p3 : Array Edge} {gd : Option (Nat × Bool)} (h : wpList P ops Q (⟨d, op, p1, p2, p3, gd⟩ :: rest) a w) : wpList P ops Q (⟨d, op, p1, p2, p3, gd⟩ :: rest) a w := h
/-- The walk stops here. -/
structure Stop (p : Prop) : Prop where mk :: (out : p)
/-- A guard that stops the walk ahead of an operation. -/
theorem stop_at (op : Op) {d : Option Tmp} {p1 : TypeId} {p2 : String} {p3 : Array Edge} {gd : Option (Nat × Bool)} (h : Stop (wpList P ops Q (⟨d, op, p1, p2, p3, gd⟩ :: rest) a w)) : wpList P ops Q (⟨d, op, p1, p2, p3, gd⟩ :: rest) a w := h.out
/-- A whole struct is stored into a box of its own type. -/
theorem wpl_store_box (ty : TypeId) (x y : Operand) (p1 : TypeId) (p2 : String) (p3 : Array Edge)
    (g : Nat) (cells : Array Value) (t : TypeId) (old : List Value) (hg : Blk w g old t)
    (hx : a.eval x = .pointer (some ⟨g, 0, none⟩)) (hy : a.eval y = .agg cells) (hi : (P.info? ty).map (·.size) = some cells.size)
    (hold : old.length = cells.size) (h1 : cells.toList.all (·.oneCell') = true)
    (h : ∀ w', Upd w w' g → Blk w' g cells.toList t → wpList P ops Q rest a w') : wpList P ops Q (⟨none, .store ty x y, p1, p2, p3, none⟩ :: rest) a w :=
  wpList_store_row rfl ty x y rfl g cells hx hy t old.toArray hg hi (by simpa using hold) (by rw [← Array.all_toList]; exact h1) (h _ (Upd.setRow w g cells) (hg.setRow cells))
end

theorem str_eq (a b : ByteArray) : (a.toList == b.toList) = decide (a = b) := by
  rw [← beq_toListBytes]
  show (a.data == b.data) = _
  by_cases h : a = b
  · subst h; simp
  · have h' : a.data ≠ b.data := fun e => h (by cases a; cases b; simp_all)
    simp [h, h']
theorem ret_bool {a b : Bool} (h : a = b) : Ending.returned (.bool a) = .returned (.bool b) := by rw [h]
theorem ret_int {k : IntKind} {a b : Int} (h : a = b) : Ending.returned (.int k a) = .returned (.int k b) := by rw [h]

theorem size27 : (Try.prog.info? 27).map (·.size) = some 9 := by kernel_rfl
theorem size33 : (Try.prog.info? 33).map (·.size) = some 9 := by kernel_rfl
theorem size54 : (Try.prog.info? 54).map (·.size) = some 6 := by kernel_rfl
theorem size65 : (Try.prog.info? 65).map (·.size) = some 2 := by kernel_rfl
theorem size68 : (Try.prog.info? 68).map (·.size) = some 14 := by kernel_rfl

/-- A slice type, its element's type, size and bytes. -/
def SlT (P : Program) (T E : TypeId) (sz by_ : Nat) : Prop := P.underlying T = some (.slice E) ∧ ∃ i z, P.info? E = some i ∧ i.zero = some z ∧ i.size = sz ∧ i.bytes = by_ ∧ z.cells.size = sz
theorem slT_mk {P : Program} {T E : TypeId} {sz by_ : Nat} (ht : P.underlying T = some (.slice E)) (h : (P.info? E).map (fun i => (i.zero.map (·.cells.size), i.size, i.bytes)) = some (some sz, sz, by_)) : SlT P T E sz by_ := by
  refine ⟨ht, ?_⟩
  cases hi : P.info? E with
  | none => simp [hi] at h
  | some i =>
    simp only [hi, Option.map_some, Option.some.injEq, Prod.mk.injEq, Option.map_eq_some_iff] at h
    obtain ⟨⟨z, h1, h2⟩, h3, h4⟩ := h
    exact ⟨i, z, rfl, h1, h3, h4, h2⟩
theorem sl22 : SlT Try.prog 22 9 1 16 := slT_mk Try.underlying22 (by kernel_rfl)
theorem sl25 : SlT Try.prog 25 27 9 112 := slT_mk Try.underlying25 (by kernel_rfl)
theorem sl31 : SlT Try.prog 31 33 9 112 := slT_mk Try.underlying31 (by kernel_rfl)
theorem sl52 : SlT Try.prog 52 54 6 88 := slT_mk Try.underlying52 (by kernel_rfl)
theorem sl57 : SlT Try.prog 57 68 14 208 := slT_mk Try.underlying57 (by kernel_rfl)
theorem sl59 : SlT Try.prog 59 65 2 32 := slT_mk Try.underlying59 (by kernel_rfl)

/-- A slice that is one's own, with at least one element: where it lies, and what lies behind it. -/
theorem own_form {w : World} {base : Nat} {e : TypeId} {sz n : Nat} {v : Value} {xs : List Value} (h : w.ownsRow base e sz v n xs) (hn : 0 < n) :
    ∃ g cap sp, v = .slice (some ⟨g, 0, none⟩) n cap ∧ base ≤ g ∧ Blk w g (xs ++ sp) e ∧ n ≤ cap ∧ cap ≤ maxLen ∧ (xs ++ sp).length = cap * sz := by
  rcases h.2 with ⟨_, h0⟩ | ⟨g, cap, cur, hv, hb, hg, hc, hm, hs, ht⟩
  · omega
  · refine ⟨g, cap, cur.toList.drop (n * sz), hv, hb, ?_, hc, hm, ?_⟩
    · unfold Blk
      rw [← ht, List.take_append_drop, Array.toArray_toList]
      exact hg
    · rw [← ht, List.take_append_drop, Array.length_toList]
      exact hs
theorem own_intro {w : World} {base : Nat} {e : TypeId} {sz n cap g : Nat} {xs sp : List Value} (hb : base ≤ g) (hg : Blk w g (xs ++ sp) e) (hn : n ≤ cap) (hm : cap ≤ maxLen) (hs : (xs ++ sp).length = cap * sz) (hx : xs.length = n * sz) :
    w.ownsRow base e sz (.slice (some ⟨g, 0, none⟩) n cap) n xs :=
  ⟨hx, .inr ⟨g, cap, (xs ++ sp).toArray, rfl, hb, hg, hn, hm, by simpa using hs, by simp [← hx]⟩⟩

theorem World.grownBy.free {w w' : World} {row : Option Nat} (hg : w.grownBy w' row) {a : Addr} (hlt : a.block < w.heap.size) (hne : some a.block ≠ row) : w'.frozen? a = w.frozen? a := World.frozen?_of_block (hg.block a.block hlt hne)
theorem own_at {g B s n c n' c' : Nat} (h : (Value.slice (some ⟨g, 0, none⟩) n c).ownBlock = (Value.slice (some ⟨B, 0, none⟩) n' c').ownBlock ∨ (Value.slice (some ⟨g, 0, none⟩) n c).ownBlock = some s) : g = B ∨ g = s := by
  simpa [Value.ownBlock] using h

theorem own_ext {w w' : World} (hx : Ext w w') {base : Nat} {e : TypeId} {sz n : Nat} {v : Value} {xs : List Value} (h : w.ownsRow base e sz v n xs) : w'.ownsRow base e sz v n xs :=
  h.kept (row := none) ⟨hx.os, hx.tape, hx.output, hx.size, fun k hk _ => hx.block k hk⟩ (by cases v.ownBlock <;> simp)
theorem own_new {w : World} {base : Nat} {e : TypeId} {sz n : Nat} {cs : Array Value} (hb : base ≤ w.heap.size) (hn : n ≤ maxLen) (hs : cs.size = n * sz) : (w.alloc (.cells cs e)).ownsRow base e sz (.slice (some ⟨w.heap.size, 0, none⟩) n n) n cs.toList := by
  refine own_intro (sp := []) hb (by rw [List.append_nil]; exact Blk.new _ _ _) (Nat.le_refl _) hn ?_ ?_ <;> simpa using hs
theorem own_below {w w' : World} {B : Nat} {g : Nat} (h : Below B w w') {w2 : World} (hg : w'.grownBy w2 (some g)) (hB : B ≤ g) (hw : B ≤ w'.heap.size) : Below B w w2 :=
  h.grown hg hw (fun k hk => by injection hk with hk; omega)
theorem addr_add (g o j : Nat) : (⟨g, o, none⟩ : Addr).add j = ⟨g, o + j, none⟩ := by
  unfold Addr.add
  split
  · subst_vars; rfl
  · rfl

/-- append(s, x...) onto a slice of one's own (or nil). -/
theorem wpl_append {P : Program} {ops : Array Oper} {rest : List Oper} {a : Act} {w : World} {Q : Exit → Act → World → Prop} {T E : TypeId} {sz by_ : Nat} (hT : SlT P T E sz by_) (hsz : 0 < sz) (hby : 0 < by_)
    (s x : Operand) (d : Tmp) (p1 : TypeId) (p2 : String) (p3 : Array Edge) (base : Nat)
    (v : Value) (n : Nat) (xs : List Value) (hs : a.eval s = v) (hown : w.ownsRow base E sz v n xs)
    (D off m c : Nat) (news : List Value) (hx : a.eval x = .slice (some ⟨D, off, none⟩) m c) (hl : news.length = m * sz) (hnews : ∀ j u, news[j]? = some u → w.cell? ⟨D, off + j, none⟩ = some u)
    (h1 : news.all (·.oneCell') = true) (hbytes : (n + m) * by_ ≤ 140737488355328) (hbase : base ≤ w.heap.size)
    (h : ∀ v' w', w'.ownsRow base E sz v' (n + m) (xs ++ news) → w.grownBy w' v.ownBlock → (v'.ownBlock = v.ownBlock ∨ v'.ownBlock = some w.heap.size) → wpList P ops Q rest (a.put (some d) v') w') :
    wpList P ops Q (⟨some d, .call { callee := .builtin .append, args := #[s, x], argTypes := #[T, T] }, p1, p2, p3, none⟩ :: rest) a w := by
  obtain ⟨ht, i, z, hi, hz, hz1, hz2, hz3⟩ := hT
  have hle : n + m ≤ 140737488355328 := Nat.le_trans (Nat.le_mul_of_pos_right _ hby) hbytes
  exact wpList_append_own_at w rfl s x T rfl base E i z sz by_ ht hi hz hz1 hz2 hz3 hsz v n xs hs hown ⟨D, off, none⟩ m c news hx hl (fun j u hj => by rw [addr_add]; exact hnews j u hj)
    (by rw [List.all_eq_true] at h1; exact h1) (by simp only [maxLen]; omega) hbytes hbase fun v' w' a1 a2 _ a4 => h v' w' a1 a2 a4

/-- The one result lies in a box. -/
theorem ret_box {P : Program} {fn : Func} {R : Ending → World → Prop} {a : Act} {w : World} {p : Tmp} {ty : TypeId} (h : fn.results = #[.cell p ty]) (g : Nat) (cs : List Value) (t : TypeId) (d : TypeDesc)
    (hg : Blk w g cs t) (hp : a.tmps.getD p undef = .pointer (some ⟨g, 0, none⟩)) (hd' : a.defers = [])
    (hu : P.underlying ty = some d) (hd : (match d with | .struct _ | .array _ _ => true | _ => false) = true) (hi : (P.info? ty).map (·.size) = some cs.length)
    (hR : R (.returned (.agg cs.toArray)) w) : bodyPost P fn R .ret a w :=
  ⟨hd', _, results_cell_row h a.tmps w g t cs.toArray (0, 0) d hp hg hu hd (by simpa using hi), hR⟩

theorem run_load_box {P : Program} {w : World} {ty : TypeId} {d : TypeDesc} {g : Nat} {cs : List Value} {t : TypeId} (hg : Blk w g cs t)
    (hu : P.underlying ty = some d) (hd : (match d with | .struct _ | .array _ _ => true | _ => false) = true) (hi : (P.info? ty).map (·.size) = some cs.length) :
    (loadVar ty ⟨g, 0, none⟩).run P w = .ok (.agg cs.toArray) w := run_loadVar_row w g t ty cs.toArray (0, 0) d hg hu hd (by simpa using hi)

/-- Two results, the first one in a box. -/
theorem ret_box2 {P : Program} {fn : Func} {R : Ending → World → Prop} {a : Act} {w : World} {p u : Tmp} {ty : TypeId} (h : fn.results = #[.cell p ty, .tmp u]) (g : Nat) (cs : List Value) (t : TypeId) (d : TypeDesc)
    (hg : Blk w g cs t) (hp : a.tmps.getD p undef = .pointer (some ⟨g, 0, none⟩)) (hd' : a.defers = [])
    (hu : P.underlying ty = some d) (hd : (match d with | .struct _ | .array _ _ => true | _ => false) = true) (hi : (P.info? ty).map (·.size) = some cs.length)
    (hR : R (.returned (.tuple #[.agg cs.toArray, a.tmps.getD u undef])) w) : bodyPost P fn R .ret a w := by
  refine ⟨hd', _, ?_, hR⟩
  rw [results_cell_tmp h, hp]
  simp [asAddr, run_load_box hg hu hd hi]

end Go.Proofs.Ytgkgedjmnbjalaa
