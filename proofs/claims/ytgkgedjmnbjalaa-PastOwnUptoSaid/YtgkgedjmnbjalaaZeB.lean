/- Texts that the law needs, joined.
   Conditions: none. -/
import Derived.Test.YtgkgedjmnbjalaaProg
import Derived.Test.YtgkgedjmnbjalaaZeA
import Derived.WalkKit
import Derived.KernelRfl
import Derived.Deep.LoopGhost
import Derived.Maps.AppendAt
import Derived.Lib.QuietBelow
import Derived.BigQuiet
import Derived.ChangeOld
import Derived.DataReads
import Derived.Laws.Cover1
import Derived.Sort.Walk0
namespace Go.Proofs.Ytgkgedjmnbjalaa
open Go.RowKit
theorem heap_alloc (w : World) (o : Obj) (k : Nat) : (w.alloc o).heap[k]? = if k = w.heap.size then some o else w.heap[k]? := by
  show (w.heap.push o)[k]? = _
  rw [Array.getElem?_push]
theorem heap_lt {w : World} {b : Nat} {o : Obj} (h : w.heap[b]? = some o) : b < w.heap.size := by
  rcases Nat.lt_or_ge b w.heap.size with h' | h'
  · exact h'
  · simp [Array.getElem?_eq_none h'] at h
def Blk (w : World) (g : Nat) (cs : List Value) (t : TypeId) : Prop := w.heap[g]? = some (.cells cs.toArray t (0, 0))
theorem Blk.cell {w : World} {g : Nat} {cs : List Value} {t : TypeId} (h : Blk w g cs t) (k : Nat) : w.cell? ⟨g, k, none⟩ = cs[k]? := by
  rw [cell_of_row w g k _ _ _ h]; simp
theorem Blk.free {w : World} {g : Nat} {cs : List Value} {t : TypeId} (h : Blk w g cs t) (k : Nat) : w.frozen? ⟨g, k, none⟩ = false := frozen_of_row w g k _ t h
theorem Blk.lt {w : World} {g : Nat} {cs : List Value} {t : TypeId} (h : Blk w g cs t) : g < w.heap.size := heap_lt h
theorem Blk.ext {w w' : World} (hx : Ext w w') {g : Nat} {cs : List Value} {t : TypeId} (h : Blk w g cs t) : Blk w' g cs t := Ext.heap hx h
theorem Blk.inj {w : World} {g : Nat} {cs ds : List Value} {t t' : TypeId} (h : Blk w g cs t) (k : Blk w g ds t') : cs = ds := by
  unfold Blk at h k
  rw [h] at k
  simp only [Option.some.injEq, Obj.cells.injEq] at k
  exact List.toArray_inj k.1
theorem Blk.new (w : World) (cs : Array Value) (t : TypeId) : Blk (w.alloc (.cells cs t)) w.heap.size cs.toList t := by
  unfold Blk
  rw [heap_alloc, if_pos rfl]
theorem Blk.alloc {w : World} {g : Nat} {cs : List Value} {t : TypeId} (h : Blk w g cs t) (o : Obj) : Blk (w.alloc o) g cs t := by
  unfold Blk
  rw [heap_alloc, if_neg (Nat.ne_of_lt h.lt)]
  exact h
theorem Blk.new2 (w : World) (A : Obj) (cs : Array Value) (t : TypeId) : Blk ((w.alloc A).alloc (.cells cs t)) (w.heap.size + 1) cs.toList t := by
  have := Blk.new (w.alloc A) cs t
  simpa using this
structure Upd (w w' : World) (g : Nat) : Prop where
  os : w'.os = w.os
  tape : w'.tape = w.tape
  output : w'.output = w.output
  size : w'.heap.size = w.heap.size
  block : ∀ k, k ≠ g → w'.heap[k]? = w.heap[k]?
theorem Upd.below {w w' : World} {g B : Nat} (h : Upd w w' g) (hB : B ≤ g) : Below B w w' := ⟨h.os, h.tape, h.output, Nat.le_of_eq h.size.symm, fun k hk => h.block k (by omega)⟩
theorem Upd.blk {w w' : World} {g k : Nat} (h : Upd w w' g) (hk : k ≠ g) {cs : List Value} {t : TypeId} (hb : Blk w k cs t) : Blk w' k cs t := (h.block k hk).trans hb
theorem Upd.trans {a b c : World} {g : Nat} (h : Upd a b g) (k : Upd b c g) : Upd a c g :=
  ⟨k.os.trans h.os, k.tape.trans h.tape, k.output.trans h.output, k.size.trans h.size, fun i hi => (k.block i hi).trans (h.block i hi)⟩
theorem Upd.setRow (w : World) (g : Nat) (cs : Array Value) : Upd w (w.setRow g cs) g := ⟨rfl, rfl, rfl, by simp, fun k hk => setRow_other w g k cs hk⟩
theorem Upd.setCell (w : World) (a : Addr) (v : Value) : Upd w (w.setCell a v) a.block := ⟨rfl, rfl, rfl, by simp, fun k hk => heap_setCell_other w a k v hk⟩
theorem Blk.setRow {w : World} {g : Nat} {cs : List Value} {t : TypeId} (h : Blk w g cs t) (ds : Array Value) : Blk (w.setRow g ds) g ds.toList t := setRow_heap w g _ ds t _ h
theorem Blk.setCell {w : World} {g : Nat} {cs : List Value} {t : TypeId} (h : Blk w g cs t) (i : Nat) (v : Value) : Blk (w.setCell ⟨g, i, none⟩ v) g (cs.set i v) t := by
  unfold Blk
  rw [heap_setCell_same w g i _ t v h]
  simp
section
variable {P : Program} {ops : Array Oper} {rest : List Oper} {a : Act} {w : World} {Q : Exit → Act → World → Prop}
structure Stop (p : Prop) : Prop where mk :: (out : p)
theorem stop_at (op : Op) {d : Option Tmp} {p1 : TypeId} {p2 : String} {p3 : Array Edge} {gd : Option (Nat × Bool)} (h : Stop (wpList P ops Q (⟨d, op, p1, p2, p3, gd⟩ :: rest) a w)) : wpList P ops Q (⟨d, op, p1, p2, p3, gd⟩ :: rest) a w := h.out
theorem wpl_store_box (ty : TypeId) (x y : Operand) (p1 : TypeId) (p2 : String) (p3 : Array Edge)
    (g : Nat) (cells : Array Value) (t : TypeId) (old : List Value) (hg : Blk w g old t)
    (hx : a.eval x = .pointer (some ⟨g, 0, none⟩)) (hy : a.eval y = .agg cells) (hi : (P.info? ty).map (·.size) = some cells.size)
    (hold : old.length = cells.size) (h1 : cells.toList.all (·.oneCell') = true)
    (h : ∀ w', Upd w w' g → Blk w' g cells.toList t → wpList P ops Q rest a w') : wpList P ops Q (⟨none, .store ty x y, p1, p2, p3, none⟩ :: rest) a w :=
  wpList_store_row rfl ty x y rfl g cells hx hy t old.toArray hg hi (by simpa using hold) (by rw [← Array.all_toList]; exact h1) (h _ (Upd.setRow w g cells) (hg.setRow cells))
end
theorem str_eq (a b : ByteArray) : (a.toList == b.toList) = decide (a = b) := by
  rw [← beq_toListBytes]
  show (a.data == b.data) = _
  by_cases h : a = b
  · subst h; simp
  · have h' : a.data ≠ b.data := fun e => h (by cases a; cases b; simp_all)
    simp [h, h']
theorem ret_int {k : IntKind} {a b : Int} (h : a = b) : Ending.returned (.int k a) = .returned (.int k b) := by rw [h]
theorem size54 : (Try.prog.info? 54).map (·.size) = some 6 := by kernel_rfl
theorem size65 : (Try.prog.info? 65).map (·.size) = some 2 := by kernel_rfl
def SlT (P : Program) (T E : TypeId) (sz by_ : Nat) : Prop := P.underlying T = some (.slice E) ∧ ∃ i z, P.info? E = some i ∧ i.zero = some z ∧ i.size = sz ∧ i.bytes = by_ ∧ z.cells.size = sz
theorem slT_mk {P : Program} {T E : TypeId} {sz by_ : Nat} (ht : P.underlying T = some (.slice E)) (h : (P.info? E).map (fun i => (i.zero.map (·.cells.size), i.size, i.bytes)) = some (some sz, sz, by_)) : SlT P T E sz by_ := by
  refine ⟨ht, ?_⟩
  cases hi : P.info? E with
  | none => simp [hi] at h
  | some i =>
    simp only [hi, Option.map_some, Option.some.injEq, Prod.mk.injEq, Option.map_eq_some_iff] at h
    obtain ⟨⟨z, h1, h2⟩, h3, h4⟩ := h
    exact ⟨i, z, rfl, h1, h3, h4, h2⟩
theorem sl52 : SlT Try.prog 52 54 6 88 := slT_mk Try.underlying52 (by kernel_rfl)
theorem sl57 : SlT Try.prog 57 68 14 208 := slT_mk Try.underlying57 (by kernel_rfl)
theorem sl59 : SlT Try.prog 59 65 2 32 := slT_mk Try.underlying59 (by kernel_rfl)
theorem own_form {w : World} {base : Nat} {e : TypeId} {sz n : Nat} {v : Value} {xs : List Value} (h : w.ownsRow base e sz v n xs) (hn : 0 < n) :
    ∃ g cap sp, v = .slice (some ⟨g, 0, none⟩) n cap ∧ base ≤ g ∧ Blk w g (xs ++ sp) e ∧ n ≤ cap ∧ cap ≤ maxLen ∧ (xs ++ sp).length = cap * sz := by
  rcases h.2 with ⟨_, h0⟩ | ⟨g, cap, cur, hv, hb, hg, hc, hm, hs, ht⟩
  · omega
  · refine ⟨g, cap, cur.toList.drop (n * sz), hv, hb, ?_, hc, hm, ?_⟩
    · unfold Blk
      rw [← ht, List.take_append_drop, Array.toArray_toList]
      exact hg
    · rw [← ht, List.take_append_drop, Array.length_toList]
      exact hs
theorem own_intro {w : World} {base : Nat} {e : TypeId} {sz n cap g : Nat} {xs sp : List Value} (hb : base ≤ g) (hg : Blk w g (xs ++ sp) e) (hn : n ≤ cap) (hm : cap ≤ maxLen) (hs : (xs ++ sp).length = cap * sz) (hx : xs.length = n * sz) :
    w.ownsRow base e sz (.slice (some ⟨g, 0, none⟩) n cap) n xs :=
  ⟨hx, .inr ⟨g, cap, (xs ++ sp).toArray, rfl, hb, hg, hn, hm, by simpa using hs, by simp [← hx]⟩⟩
theorem own_ext {w w' : World} (hx : Ext w w') {base : Nat} {e : TypeId} {sz n : Nat} {v : Value} {xs : List Value} (h : w.ownsRow base e sz v n xs) : w'.ownsRow base e sz v n xs :=
  h.kept (row := none) ⟨hx.os, hx.tape, hx.output, hx.size, fun k hk _ => hx.block k hk⟩ (by cases v.ownBlock <;> simp)
theorem own_new {w : World} {base : Nat} {e : TypeId} {sz n : Nat} {cs : Array Value} (hb : base ≤ w.heap.size) (hn : n ≤ maxLen) (hs : cs.size = n * sz) : (w.alloc (.cells cs e)).ownsRow base e sz (.slice (some ⟨w.heap.size, 0, none⟩) n n) n cs.toList := by
  refine own_intro (sp := []) hb (by rw [List.append_nil]; exact Blk.new _ _ _) (Nat.le_refl _) hn ?_ ?_ <;> simpa using hs
theorem own_below {w w' : World} {B : Nat} {g : Nat} (h : Below B w w') {w2 : World} (hg : w'.grownBy w2 (some g)) (hB : B ≤ g) (hw : B ≤ w'.heap.size) : Below B w w2 :=
  h.grown hg hw (fun k hk => by injection hk with hk; omega)
theorem addr_add (g o j : Nat) : (⟨g, o, none⟩ : Addr).add j = ⟨g, o + j, none⟩ := by
  unfold Addr.add
  split
  · subst_vars; rfl
  · rfl
theorem wpl_append {P : Program} {ops : Array Oper} {rest : List Oper} {a : Act} {w : World} {Q : Exit → Act → World → Prop} {T E : TypeId} {sz by_ : Nat} (hT : SlT P T E sz by_) (hsz : 0 < sz) (hby : 0 < by_)
    (s x : Operand) (d : Tmp) (p1 : TypeId) (p2 : String) (p3 : Array Edge) (base : Nat)
    (v : Value) (n : Nat) (xs : List Value) (hs : a.eval s = v) (hown : w.ownsRow base E sz v n xs)
    (D off m c : Nat) (news : List Value) (hx : a.eval x = .slice (some ⟨D, off, none⟩) m c) (hl : news.length = m * sz) (hnews : ∀ j u, news[j]? = some u → w.cell? ⟨D, off + j, none⟩ = some u)
    (h1 : news.all (·.oneCell') = true) (hbytes : (n + m) * by_ ≤ 140737488355328) (hbase : base ≤ w.heap.size)
    (h : ∀ v' w', w'.ownsRow base E sz v' (n + m) (xs ++ news) → w.grownBy w' v.ownBlock → (v'.ownBlock = v.ownBlock ∨ v'.ownBlock = some w.heap.size) → wpList P ops Q rest (a.put (some d) v') w') :
    wpList P ops Q (⟨some d, .call { callee := .builtin .append, args := #[s, x], argTypes := #[T, T] }, p1, p2, p3, none⟩ :: rest) a w := by
  obtain ⟨ht, i, z, hi, hz, hz1, hz2, hz3⟩ := hT
  have hle : n + m ≤ 140737488355328 := Nat.le_trans (Nat.le_mul_of_pos_right _ hby) hbytes
  exact wpList_append_own_at w rfl s x T rfl base E i z sz by_ ht hi hz hz1 hz2 hz3 hsz v n xs hs hown ⟨D, off, none⟩ m c news hx hl (fun j u hj => by rw [addr_add]; exact hnews j u hj)
    (by rw [List.all_eq_true] at h1; exact h1) (by simp only [maxLen]; omega) hbytes hbase fun v' w' a1 a2 _ a4 => h v' w' a1 a2 a4
theorem ret_box {P : Program} {fn : Func} {R : Ending → World → Prop} {a : Act} {w : World} {p : Tmp} {ty : TypeId} (h : fn.results = #[.cell p ty]) (g : Nat) (cs : List Value) (t : TypeId) (d : TypeDesc)
    (hg : Blk w g cs t) (hp : a.tmps.getD p undef = .pointer (some ⟨g, 0, none⟩)) (hd' : a.defers = [])
    (hu : P.underlying ty = some d) (hd : (match d with | .struct _ | .array _ _ => true | _ => false) = true) (hi : (P.info? ty).map (·.size) = some cs.length)
    (hR : R (.returned (.agg cs.toArray)) w) : bodyPost P fn R .ret a w :=
  ⟨hd', _, results_cell_row h a.tmps w g t cs.toArray (0, 0) d hp hg hu hd (by simpa using hi), hR⟩
theorem run_load_box {P : Program} {w : World} {ty : TypeId} {d : TypeDesc} {g : Nat} {cs : List Value} {t : TypeId} (hg : Blk w g cs t)
    (hu : P.underlying ty = some d) (hd : (match d with | .struct _ | .array _ _ => true | _ => false) = true) (hi : (P.info? ty).map (·.size) = some cs.length) :
    (loadVar ty ⟨g, 0, none⟩).run P w = .ok (.agg cs.toArray) w := run_loadVar_row w g t ty cs.toArray (0, 0) d hg hu hd (by simpa using hi)
theorem ret_box2 {P : Program} {fn : Func} {R : Ending → World → Prop} {a : Act} {w : World} {p u : Tmp} {ty : TypeId} (h : fn.results = #[.cell p ty, .tmp u]) (g : Nat) (cs : List Value) (t : TypeId) (d : TypeDesc)
    (hg : Blk w g cs t) (hp : a.tmps.getD p undef = .pointer (some ⟨g, 0, none⟩)) (hd' : a.defers = [])
    (hu : P.underlying ty = some d) (hd : (match d with | .struct _ | .array _ _ => true | _ => false) = true) (hi : (P.info? ty).map (·.size) = some cs.length)
    (hR : R (.returned (.tuple #[.agg cs.toArray, a.tmps.getD u undef])) w) : bodyPost P fn R .ret a w := by
  refine ⟨hd', _, ?_, hR⟩
  rw [results_cell_tmp h, hp]
  simp [asAddr, run_load_box hg hu hd hi]
end Go.Proofs.Ytgkgedjmnbjalaa
set_option linter.unusedSimpArgs false
namespace Go.Proofs.Ytgkgedjmnbjalaa
open Go.RowKit Go.Sort
theorem ext_regrown (w : World) (d : Nat) (os : Array Obj) : Ext w (grow (redrawn w d) os) := below_regrown w d os
def Ret (R : World → Value → Prop) (e : Ending) (w' : World) : Prop := ∃ v, e = .returned v ∧ R w' v
theorem cell_some {w : World} {b : Nat} {cs : List Value} {t : TypeId} (h : Blk w b cs t) {i : Nat} (hi : i < cs.length) : ∃ u, w.cell? ⟨b, i, none⟩ = some u := ⟨_, by rw [h.cell]; exact List.getElem?_eq_getElem hi⟩
theorem wanted_yes {ops : Array Oper} {o : Oper} {a : Act} {j : Nat} {t : Tmp} {b : Bool} (hg : o.guard = some (j, b)) (hd : (ops[j]?).bind (·.dst) = some t) (he : a.tmps[t]?.getD undef = .bool b) : Region.wanted o (yielded ops a.tmps) = true := by
  have h : a.tmps[t]? = some (.bool b) := by
    cases h : a.tmps[t]? with
    | none => rw [h] at he; simp [undef] at he
    | some v => rw [h] at he; simpa using he
  simp [Region.wanted, hg, yielded, hd, h]
theorem wanted_no {ops : Array Oper} {o : Oper} {a : Act} {j : Nat} {t : Tmp} {b c : Bool} (hg : o.guard = some (j, b)) (hd : (ops[j]?).bind (·.dst) = some t) (he : a.tmps[t]?.getD undef = .bool c) (hbc : (c == b) = false := by rfl) : Region.wanted o (yielded ops a.tmps) = false := by
  have h : a.tmps[t]? = some (.bool c) := by
    cases h : a.tmps[t]? with
    | none => rw [h] at he; simp [undef] at he
    | some v => rw [h] at he; simpa using he
  simp only [Region.wanted, hg, yielded, hd, h, Option.bind_some]
  cases b <;> cases c <;> first | rfl | simp_all
theorem wanted_off {ops : Array Oper} {o : Oper} {a : Act} {j : Nat} {t : Tmp} {b : Bool} (hg : o.guard = some (j, b)) (hd : (ops[j]?).bind (·.dst) = some t) (he : a.tmps[t]?.getD undef = undef) : Region.wanted o (yielded ops a.tmps) = false := by
  have h : a.tmps[t]? ≠ some (.bool b) := by
    intro h
    rw [h] at he
    simp [undef] at he
  simp only [Region.wanted, hg, yielded, hd, Option.bind_some]
  cases h2 : a.tmps[t]? with
  | none => rfl
  | some v => 
    rw [h2] at he h
    simp only [Option.getD_some] at he
    subst he
    rfl
theorem flatten_get {n : Nat} : ∀ (cs : List (List Value)), (∀ c ∈ cs, c.length = n) → ∀ (i : Nat) (c : List Value), cs[i]? = some c → ∀ (j : Nat) (v : Value), c[j]? = some v → cs.flatten[i * n + j]? = some v
  | [], _, i, c, h, _, _, _ => by simp at h
  | d :: cs, hl, 0, c, h, j, v, hv => by
    simp at h
    subst h
    rw [List.flatten_cons, Nat.zero_mul, Nat.zero_add, List.getElem?_append_left (List.getElem?_eq_some_iff.1 hv).1]
    exact hv
  | d :: cs, hl, i + 1, c, h, j, v, hv => by
    have h0 := hl d (by simp)
    rw [List.flatten_cons, List.getElem?_append_right (by rw [h0, Nat.add_mul]; omega), h0]
    have := flatten_get cs (fun c hc => hl c (by simp [hc])) i c (by simpa using h) j v hv
    rw [show (i + 1) * n + j - n = i * n + j by rw [Nat.add_mul]; omega]
    exact this
theorem flatten_len {n : Nat} : ∀ (cs : List (List Value)), (∀ c ∈ cs, c.length = n) → cs.flatten.length = cs.length * n
  | [], _ => by simp
  | d :: cs, hl => by
    rw [List.flatten_cons, List.length_append, flatten_len cs (fun c hc => hl c (by simp [hc])), hl d (by simp), List.length_cons, Nat.add_mul]
    omega
inductive T where
  | mk (name key : ByteArray) (kind num : Int) (text : ByteArray) (kids : List T)
def T.name : T → ByteArray | .mk n .. => n
def T.key : T → ByteArray | .mk _ k .. => k
def T.kind : T → Int | .mk _ _ k .. => k
def T.num : T → Int | .mk _ _ _ n .. => n
def T.text : T → ByteArray | .mk _ _ _ _ t _ => t
def T.kids : T → List T | .mk _ _ _ _ _ l => l
def zeroT : T := .mk ⟨#[]⟩ ⟨#[]⟩ 0 0 ⟨#[]⟩ []
mutual
/-- How many nodes. -/
def T.size : T → Nat
  | .mk _ _ _ _ _ kids => 1 + sizeL kids
def sizeL : List T → Nat
  | [] => 0
  | t :: l => t.size + sizeL l
end
mutual
/-- How deep. -/
def T.deep : T → Nat
  | .mk _ _ _ _ _ kids => 1 + deepL kids
def deepL : List T → Nat
  | [] => 0
  | t :: l => max t.deep (deepL l)
end
theorem T.size_eq (t : T) : t.size = 1 + sizeL t.kids := by cases t; rfl
theorem T.deep_eq (t : T) : t.deep = 1 + deepL t.kids := by cases t; rfl
theorem size_pos (t : T) : 0 < t.size := by rw [t.size_eq]; omega
theorem sizeL_append : ∀ (l m : List T), sizeL (l ++ m) = sizeL l + sizeL m
  | [], m => by simp [sizeL]
  | t :: l, m => by simp [sizeL, sizeL_append l m]; omega
theorem sizeL_len : ∀ (l : List T), l.length ≤ sizeL l
  | [] => by simp
  | t :: l => by have := sizeL_len l; have := size_pos t; simp [sizeL]; omega
theorem sizeL_mem : ∀ {l : List T} {i : Nat} {t : T}, l[i]? = some t → t.size ≤ sizeL l
  | [], _, _, h => by simp at h
  | x :: l, 0, t, h => by simp at h; subst h; simp [sizeL]
  | x :: l, i + 1, t, h => by have := sizeL_mem (l := l) (i := i) (t := t) (by simpa using h); simp [sizeL]; omega
theorem deepL_mem : ∀ {l : List T} {i : Nat} {t : T}, l[i]? = some t → t.deep ≤ deepL l
  | [], _, _, h => by simp at h
  | x :: l, 0, t, h => by simp at h; subst h; simp [deepL]; omega
  | x :: l, i + 1, t, h => by have := deepL_mem (l := l) (i := i) (t := t) (by simpa using h); simp [deepL]; omega
mutual
theorem T.deep_le : ∀ t : T, t.deep ≤ t.size
  | .mk _ _ _ _ _ kids => by have := deepL_le kids; simp [T.deep, T.size]; omega
theorem deepL_le : ∀ l : List T, deepL l ≤ sizeL l
  | [] => by simp [deepL]
  | t :: l => by have := T.deep_le t; have := deepL_le l; simp [deepL, sizeL]; omega
end
theorem kid_size {t k : T} {i : Nat} (h : t.kids[i]? = some k) : k.size < t.size := by have := sizeL_mem h; rw [t.size_eq]; omega
theorem kid_deep {t k : T} {i : Nat} (h : t.kids[i]? = some k) : k.deep < t.deep := by have := deepL_mem h; rw [t.deep_eq]; omega
def cT (name key : ByteArray) (kind num : Int) (text : ByteArray) (K : Option Addr) (kl kc : Nat) : List Value := [.string name, .string key, .int .i64 kind, .int .u64 num, .string text, .slice K kl kc]
inductive RT (S : Nat → Prop) (w : World) : T → List Value → Prop where
  | mk (name key : ByteArray) (kind num : Int) (text : ByteArray) (kids : List T) (K : Option Addr) (kc : Nat) (css : List (List Value))
    (hl : css.length = kids.length) (h6 : ∀ c ∈ css, c.length = 6)
    (hK : kids ≠ [] → ∃ b off, K = some ⟨b, off, none⟩ ∧ S b ∧ ∀ j v, css.flatten[j]? = some v → w.cell? ⟨b, off + j, none⟩ = some v)
    (hr : ∀ (i : Nat) k c, kids[i]? = some k → css[i]? = some c → RT S w k c)
    (hb : kids.length ≤ kc ∧ kids.length ≤ 1048576 ∧ (K = none → kc = 0)) :
    RT S w (.mk name key kind num text kids) (cT name key kind num text K kids.length kc)
structure RRow (S : Nat → Prop) (w : World) (K : Option Addr) (kids : List T) (kc : Nat) : Prop where
  cap : kids.length ≤ kc
  len : kids.length ≤ 1048576
  nul : K = none → kc = 0
  kid : ∀ (i : Nat) k, kids[i]? = some k → ∃ b off c, K = some ⟨b, off, none⟩ ∧ S b ∧ RT S w k c ∧ ∀ j v, c[j]? = some v → w.cell? ⟨b, off + i * 6 + j, none⟩ = some v
theorem RT.row {S : Nat → Prop} {w : World} {t : T} {c : List Value} (h : RT S w t c) : ∃ K kc, c = cT t.name t.key t.kind t.num t.text K t.kids.length kc ∧ RRow S w K t.kids kc := by
  cases h with
  | mk name key kind num text kids K kc css hl h6 hK hr hb =>
    refine ⟨K, kc, rfl, hb.1, hb.2.1, hb.2.2, fun i k hi => ?_⟩
    have hi' : kids[i]? = some k := hi
    have hne : kids ≠ [] := by rintro rfl; simp at hi'
    obtain ⟨b, off, h1, h2, h3⟩ := hK hne
    have hlt : i < css.length := by rw [hl]; exact (List.getElem?_eq_some_iff.1 hi').1
    have hci := List.getElem?_eq_getElem hlt
    refine ⟨b, off, _, h1, h2, hr i k _ hi' hci, fun j v hv => ?_⟩
    rw [Nat.add_assoc]
    exact h3 _ _ (flatten_get css h6 i _ hci j v hv)
theorem RT.ext {S : Nat → Prop} {w w' : World} (hx : Ext w w') {t : T} {c : List Value} (h : RT S w t c) : RT S w' t c := by
  induction h with
  | mk name key kind num text kids K kc css hl h6 hK hr hb ih =>
    refine .mk name key kind num text kids K kc css hl h6 (fun hn => ?_) ih hb
    obtain ⟨b, off, h1, h2, h3⟩ := hK hn
    exact ⟨b, off, h1, h2, fun j v hv => Ext.cell hx (h3 j v hv)⟩
theorem RT.keep {S S' : Nat → Prop} {w w' : World} (hk : ∀ b off v, S b → w.cell? ⟨b, off, none⟩ = some v → S' b ∧ w'.cell? ⟨b, off, none⟩ = some v) {t : T} {c : List Value} (h : RT S w t c) : RT S' w' t c := by
  induction h with
  | mk name key kind num text kids K kc css hl h6 hK hr hb ih =>
    refine .mk name key kind num text kids K kc css hl h6 (fun hn => ?_) ih hb
    obtain ⟨b, off, h1, h2, h3⟩ := hK hn
    refine ⟨b, off, h1, ?_, fun j v hv => (hk b _ v h2 (h3 j v hv)).2⟩
    cases css with
    | nil => simp at hl; exact absurd (List.eq_nil_of_length_eq_zero hl.symm) hn
    | cons d css =>
      have hd := h6 d (by simp)
      cases d with
      | nil => simp at hd
      | cons v d => exact (hk b _ v h2 (h3 0 v (by simp))).1
theorem RT.mono {S S' : Nat → Prop} {w : World} (hs : ∀ b, b < w.heap.size → S b → S' b) {t : T} {c : List Value} (h : RT S w t c) : RT S' w t c :=
  h.keep fun b _ _ hb hc => ⟨hs b (World.block_lt_of_cell? w _ hc) hb, hc⟩
theorem RRow.ext {S : Nat → Prop} {w w' : World} (hx : Ext w w') {K : Option Addr} {l : List T} {kc : Nat} (h : RRow S w K l kc) : RRow S w' K l kc :=
  ⟨h.cap, h.len, h.nul, fun i k hi => by
    obtain ⟨b, off, c, h1, h2, h3, h4⟩ := h.kid i k hi
    exact ⟨b, off, c, h1, h2, h3.ext hx, fun j v hv => Ext.cell hx (h4 j v hv)⟩⟩
theorem RT.len {S : Nat → Prop} {w : World} {t : T} {c : List Value} (h : RT S w t c) : c.length = 6 := by cases h; rfl
theorem RRow.keep {S S' : Nat → Prop} {w w' : World} (hk : ∀ b off v, S b → w.cell? ⟨b, off, none⟩ = some v → S' b ∧ w'.cell? ⟨b, off, none⟩ = some v) {K : Option Addr} {l : List T} {kc : Nat} (h : RRow S w K l kc) : RRow S' w' K l kc :=
  ⟨h.cap, h.len, h.nul, fun i k hi => by
    obtain ⟨b, off, c, h1, h2, h3, h4⟩ := h.kid i k hi
    have h6 := h3.len
    refine ⟨b, off, c, h1, ?_, h3.keep hk, fun j v hv => (hk b _ v h2 (h4 j v hv)).2⟩
    cases c with
    | nil => simp at h6
    | cons v c => exact (hk b _ v h2 (h4 0 v (by simp))).1⟩
theorem RRow.tail {S : Nat → Prop} {w : World} {b off : Nat} {x : T} {l : List T} {kc : Nat} (h : RRow S w (some ⟨b, off, none⟩) (x :: l) kc) : RRow S w (some ⟨b, off + 6, none⟩) l (kc - 1) := by
  refine ⟨by have := h.cap; simp at this; omega, by have := h.len; simp at this; omega, fun h => (by cases h), fun i k hi => ?_⟩
  obtain ⟨b', off', c, h1, h2, h3, h4⟩ := h.kid (i + 1) k (by simpa using hi)
  simp only [Option.some.injEq, Addr.mk.injEq, and_true] at h1
  obtain ⟨rfl, rfl⟩ := h1
  refine ⟨b, off + 6, c, rfl, h2, h3, fun j v hv => ?_⟩
  have := h4 j v hv
  rw [show off + 6 + i * 6 + j = off + (i + 1) * 6 + j by omega]
  exact this
theorem RRow.nil (S : Nat → Prop) (w : World) (K : Option Addr) (kc : Nat) (h : K = none → kc = 0) : RRow S w K [] kc := ⟨by simp, by simp, h, fun i k hi => by simp at hi⟩
theorem RT.of_row {S : Nat → Prop} {w : World} {t : T} {K : Option Addr} {kc : Nat} (h : RRow S w K t.kids kc) : RT S w t (cT t.name t.key t.kind t.num t.text K t.kids.length kc) := by
  obtain ⟨name, key, kind, num, text, kids⟩ := t
  have h' : RRow S w K kids kc := h
  clear h
  by_cases hn : kids = []
  · subst hn
    exact .mk name key kind num text [] K kc [] rfl (by simp) (fun h => absurd rfl h) (fun i k c h => by simp at h) ⟨h'.cap, h'.len, h'.nul⟩
  · obtain ⟨x, l, rfl⟩ := List.exists_cons_of_ne_nil hn
    obtain ⟨b, off, _, h1, h2, _, _⟩ := h'.kid 0 x rfl
    subst h1
    have key2 : ∀ i k, (x :: l)[i]? = some k → ∃ c, RT S w k c ∧ ∀ j v, c[j]? = some v → w.cell? ⟨b, off + i * 6 + j, none⟩ = some v := by
      intro i k hi
      obtain ⟨b', off', c, e, _, h3, h4⟩ := h'.kid i k hi
      simp only [Option.some.injEq, Addr.mk.injEq, and_true] at e
      obtain ⟨rfl, rfl⟩ := e
      exact ⟨c, h3, h4⟩
    have hex : ∀ (m : List T) (s : Nat), (∀ i k, m[i]? = some k → ∃ c, RT S w k c ∧ ∀ j v, c[j]? = some v → w.cell? ⟨b, off + (s + i) * 6 + j, none⟩ = some v) →
        ∃ css : List (List Value), css.length = m.length ∧ (∀ c ∈ css, c.length = 6) ∧ (∀ (i : Nat) k c, m[i]? = some k → css[i]? = some c → RT S w k c) ∧ ∀ j v, css.flatten[j]? = some v → w.cell? ⟨b, off + s * 6 + j, none⟩ = some v := by
      intro m
      induction m with
      | nil => intro s _; exact ⟨[], rfl, by simp, by simp, by simp⟩
      | cons y m ih =>
        intro s hm
        obtain ⟨c, hc1, hc2⟩ := hm 0 y rfl
        obtain ⟨css, e1, e2, e3, e4⟩ := ih (s + 1) (fun i k hi => by
          obtain ⟨c, h1, h2⟩ := hm (i + 1) k (by simpa using hi)
          exact ⟨c, h1, fun j v hv => by have := h2 j v hv; rw [show s + 1 + i = s + (i + 1) by omega]; exact this⟩)
        refine ⟨c :: css, by simp [e1], fun d hd => ?_, fun i k d hi hd => ?_, fun j v hv => ?_⟩
        · rcases List.mem_cons.1 hd with rfl | hd
          · exact hc1.len
          · exact e2 d hd
        · cases i with
          | zero => simp at hi hd; subst hi hd; exact hc1
          | succ i => exact e3 i k d (by simpa using hi) (by simpa using hd)
        · rw [List.flatten_cons] at hv
          by_cases hj : j < c.length
          · rw [List.getElem?_append_left hj] at hv
            have := hc2 j v hv
            rwa [Nat.add_zero] at this
          · rw [List.getElem?_append_right (by omega), hc1.len] at hv
            have := e4 _ v hv
            have h6 := hc1.len
            rw [show off + (s + 1) * 6 + (j - 6) = off + s * 6 + j by omega] at this
            exact this
    obtain ⟨css, e1, e2, e3, e4⟩ := hex (x :: l) 0 (fun i k hi => by rw [Nat.zero_add]; exact key2 i k hi)
    exact .mk name key kind num text (x :: l) (some ⟨b, off, none⟩) kc css e1 e2 (fun _ => ⟨b, off, rfl, h2, fun j v hv => by have := e4 j v hv; rwa [Nat.zero_mul, Nat.add_zero] at this⟩) e3 ⟨h'.cap, h'.len, h'.nul⟩
theorem RRow.head {S : Nat → Prop} {w : World} {K : Option Addr} {x : T} {l : List T} {kc : Nat} (h : RRow S w K (x :: l) kc) : ∃ b off c, K = some ⟨b, off, none⟩ ∧ S b ∧ RT S w x c ∧ ∀ j v, c[j]? = some v → w.cell? ⟨b, off + j, none⟩ = some v := by
  obtain ⟨b, off, c, h1, h2, h3, h4⟩ := h.kid 0 x rfl
  refine ⟨b, off, c, h1, h2, h3, fun j v hv => ?_⟩
  have := h4 j v hv
  rwa [Nat.zero_mul, Nat.add_zero] at this
end Go.Proofs.Ytgkgedjmnbjalaa
set_option linter.unusedSimpArgs false
namespace Go.Proofs.Ytgkgedjmnbjalaa
open Go.RowKit Go.ChangeShapes Go.WideShapes
theorem cells54 : Try.prog.cellsOf 54 = 6 := by kernel_rfl
theorem cells51 : Try.prog.cellsOf 51 = 3 := by kernel_rfl
theorem cells52 : Try.prog.cellsOf 52 = 1 := by kernel_rfl
theorem cells9 : Try.prog.cellsOf 9 = 1 := by kernel_rfl
theorem cells3 : Try.prog.cellsOf 3 = 1 := by kernel_rfl
theorem cells24 : Try.prog.cellsOf 24 = 1 := by kernel_rfl
theorem list6 {cs : List Value} (h : cs.length = 6) : ∃ a b c d e f, cs = [a, b, c, d, e, f] := by
  match cs, h with
  | [a, b, c, d, e, f], _ => exact ⟨a, b, c, d, e, f, rfl⟩
variable {H : Type} {enc : TypeId × Value → H} {W : World} {base : Nat} {spare : Nat → Bool} {held : Bool}
theorem node_open : ∀ (fuel : Nat) (cs : List Value) (x : DataW H × List MemPlace), DataW.trod enc Try.prog W base spare held fuel 54 cs = some x → Rows.uptoBulk x.1 ≤ 1048576 →
    ∃ t : T, RT (fun _ => True) W t cs ∧ t.size ≤ Rows.uptoBulk x.1 := by
  intro fuel
  induction fuel using Nat.strongRecOn with
  | _ fuel ih =>
    intro cs x h hx
    obtain ⟨xs, n, rfl, rfl, hl, hlen, hf⟩ := DataW.trod_struct Try.underlying54 h
    rw [cells54] at hl
    obtain ⟨c0, c1, c2, c3, c4, c5, rfl⟩ := list6 hl
    obtain ⟨x0, x1, x2, x3, rfl⟩ : ∃ x0 x1 x2 x3, xs = [x0, x1, x2, x3] := by
      match xs, hlen with
      | [x0, x1, x2, x3], _ => exact ⟨x0, x1, x2, x3, rfl⟩
    have f0 := hf 0 ⟨"Name", 9, 0, false, "", "", 0⟩ rfl
    have f1 := hf 1 ⟨"Key", 9, 1, false, "", "", 16⟩ rfl
    have f2 := hf 2 ⟨"Val", 51, 2, false, "", "", 32⟩ rfl
    have f3 := hf 3 ⟨"Kids", 52, 5, false, "", "", 64⟩ rfl
    simp only [cells9, cells51, cells52, List.drop_zero, List.drop_succ_cons, List.take_succ_cons, List.take_zero, List.getElem?_cons_zero, List.getElem?_cons_succ] at f0 f1 f2 f3
    obtain ⟨s0, e0, rfl, _⟩ := DataW.trod_string Try.underlying9 f0
    obtain ⟨s1, e1, rfl, _⟩ := DataW.trod_string Try.underlying9 f1
    obtain ⟨ys, m, hm, rfl, _, hlen2, hf2⟩ := DataW.trod_struct Try.underlying51 f2
    obtain ⟨y0, y1, y2, rfl⟩ : ∃ y0 y1 y2, ys = [y0, y1, y2] := by
      match ys, hlen2 with
      | [y0, y1, y2], _ => exact ⟨y0, y1, y2, rfl⟩
    have g0 := hf2 0 ⟨"Kind", 3, 0, false, "", "", 0⟩ rfl
    have g1 := hf2 1 ⟨"Num", 24, 1, false, "", "", 8⟩ rfl
    have g2 := hf2 2 ⟨"Text", 9, 2, false, "", "", 16⟩ rfl
    simp only [cells9, cells3, cells24, List.drop_zero, List.drop_succ_cons, List.take_succ_cons, List.take_zero, List.getElem?_cons_zero, List.getElem?_cons_succ] at g0 g1 g2
    obtain ⟨k0, e2, rfl, _⟩ := DataW.trod_int Try.underlying3 g0
    obtain ⟨k1, e3, rfl, _⟩ := DataW.trod_int Try.underlying24 g1
    obtain ⟨s2, e4, rfl, _⟩ := DataW.trod_string Try.underlying9 g2
    obtain rfl : c0 = .string s0 := by simpa using e0
    obtain rfl : c1 = .string s1 := by simpa using e1
    obtain rfl : c2 = .int .i64 k0 := by simpa using e2
    obtain rfl : c3 = .int .u64 k1 := by simpa using e3
    obtain rfl : c4 = .string s2 := by simpa using e4
    simp only [List.map_cons, List.map_nil] at hx ⊢
    rw [show ∀ l : List (DataW H), Rows.uptoBulk (.agg l) = Rows.uptoBulkAll l + 1 from fun l => by simp [Rows.uptoBulk]] at hx ⊢
    simp only [Rows.uptoBulkAll] at hx ⊢
    rcases DataW.trod_slice Try.underlying52 f3 with ⟨e5, rfl⟩ | ⟨a, len, cap, elems, rest, k, hk, e5, rfl, _, hlc, hcm, hel, helem, _, _⟩
    · obtain rfl : c5 = .slice none 0 0 := by simpa using e5
      refine ⟨.mk s0 s1 k0 k1 s2 [], .mk s0 s1 k0 k1 s2 [] none 0 [] rfl (by simp) (fun h => absurd rfl h) (fun i k c h => by simp at h) ⟨Nat.le_refl _, by simp, fun _ => rfl⟩, ?_⟩
      simp only [T.size, sizeL]
      omega
    · obtain rfl : c5 = .slice (some a) len cap := by simpa using e5
      simp only [Rows.uptoBulk] at hx ⊢
      subst hel
      rw [cells54] at helem
      have hsub : ∀ (i : Nat) (y : DataW H × List MemPlace), elems[i]? = some y → Rows.uptoBulk y.1 ≤ Rows.uptoBulkAll (elems.map (·.1)) := fun i y hi => bulks.part_le (List.mem_map_of_mem (List.mem_of_getElem? hi))
      have hone : ∀ (i : Nat) (y : DataW H × List MemPlace), elems[i]? = some y → ∃ (c : List Value) (t : T), RT (fun _ => True) W t c ∧ t.size ≤ Rows.uptoBulk y.1 ∧ (∀ q v, c[q]? = some v → W.cell? ((a.add (i * 6)).add q) = some v) := by
        intro i y hi
        have hlt := (List.getElem?_eq_some_iff.1 hi).1
        have hb := helem i hlt
        rw [hi, Option.bind_eq_some_iff] at hb
        obtain ⟨c, hc, hy⟩ := hb
        obtain ⟨t, ht, hs⟩ := ih k (by omega) c y hy (by have := hsub i y hi; omega)
        obtain ⟨_, hcl, hcc⟩ := World.cells?_some hc
        refine ⟨c, t, ht, hs, fun q v hv => ?_⟩
        have hq := (List.getElem?_eq_some_iff.1 hv).1
        rw [hcc q (by omega), hv]
      have hall : ∀ (l : List (DataW H × List MemPlace)) (s : Nat), (∀ (i : Nat) (y : DataW H × List MemPlace), l[i]? = some y → elems[s + i]? = some y) → ∃ (css : List (List Value)) (ts : List T), css.length = l.length ∧ ts.length = l.length ∧ sizeL ts ≤ Rows.uptoBulkAll (l.map (·.1)) ∧
          ∀ (i : Nat) (c : List Value) (t : T), css[i]? = some c → ts[i]? = some t → RT (fun _ => True) W t c ∧ ∀ q v, c[q]? = some v → W.cell? ((a.add ((s + i) * 6)).add q) = some v := by
        intro l
        induction l with
        | nil => intro s _; exact ⟨[], [], rfl, rfl, by simp [sizeL], by simp⟩
        | cons y l ihl =>
          intro s hl
          obtain ⟨c, t, h1, h2, h3⟩ := hone s y (by have := hl 0 y rfl; simpa using this)
          obtain ⟨css, ts, q1, q2, q3, q4⟩ := ihl (s + 1) (fun i z hi => by have := hl (i + 1) z (by simpa using hi); rw [show s + 1 + i = s + (i + 1) by omega]; exact this)
          refine ⟨c :: css, t :: ts, by simp [q1], by simp [q2], ?_, fun i d u hd hu => ?_⟩
          · simp only [sizeL, List.map_cons, Rows.uptoBulkAll]; omega
          · cases i with
            | zero => simp at hd hu; subst hd hu; exact ⟨h1, h3⟩
            | succ i =>
              have := q4 i d u (by simpa using hd) (by simpa using hu)
              rw [show s + (i + 1) = s + 1 + i by omega]
              exact this
      obtain ⟨css, ts, q1, q2, q3, q4⟩ := hall elems 0 (fun i y hi => by rw [Nat.zero_add]; exact hi)
      have hlen' : ts.length ≤ 1048576 := by have := sizeL_len ts; omega
      refine ⟨.mk s0 s1 k0 k1 s2 ts, ?_, by simp only [T.size]; omega⟩
      rw [← q2]
      have hrow : RRow (fun _ => True) W (some a) ts cap := by
        refine ⟨by omega, hlen', fun h => (by cases h), fun i t hi => ?_⟩
        have hlt : i < css.length := by rw [q1, ← q2]; exact (List.getElem?_eq_some_iff.1 hi).1
        obtain ⟨h1, h2⟩ := q4 i _ t (List.getElem?_eq_getElem hlt) hi
        have h6 := h1.len
        generalize css[i] = c at h1 h2 h6
        have hlt0 : 0 < css.length := by omega
        have hlt1 : 0 < ts.length := by omega
        obtain ⟨z1, z2⟩ := q4 0 _ _ (List.getElem?_eq_getElem hlt0) (List.getElem?_eq_getElem hlt1)
        have z6 := z1.len
        generalize css[0] = d at z1 z2 z6
        obtain ⟨b, off, spot⟩ := a
        have hs : spot = none := by
          cases d with
          | nil => simp at z6
          | cons v d => simpa [Addr.add] using World.cell?_spot (z2 0 v rfl)
        subst hs
        refine ⟨b, off, c, rfl, trivial, h1, fun q v hv => ?_⟩
        have := h2 q v hv
        rw [Nat.zero_add, addr_add, addr_add] at this
        exact this
      exact RT.of_row (t := .mk s0 s1 k0 k1 s2 ts) hrow
end Go.Proofs.Ytgkgedjmnbjalaa
set_option linter.unusedSimpArgs false
namespace Go.Proofs.Ytgkgedjmnbjalaa
open Go.RowKit Go.Sort
def ltB (a b : ByteArray) : Bool := Op.bytesLess a.toList b.toList
def lessT (a b : T) : Bool := ltB a.name b.name || decide (a.name = b.name) && ltB a.key b.key
def cmpB (a b : ByteArray) : Int := if ltB a b = true then -1 else if a = b then 0 else 1
def cmpT (a b : T) : Int := if cmpB a.name b.name ≠ 0 then cmpB a.name b.name else cmpB a.key b.key
set_option maxHeartbeats 2000000 in
theorem cmp_compare (a b : ByteArray) (w : World) : Calls Try.prog 148 #[.string a, .string b] w fun e w' => e = .returned (.int .i64 (cmpB a b)) ∧ w' = w := by
  have hs := str_eq a b
  by_cases hlt : ltB a b = true
  · have h1 : cmpB a b = -1 := if_pos hlt
    have h2 : Op.bytesLess a.toList b.toList = true := hlt
    rw [h1]
    clear hs hlt h1
    go_enter Try.func148, Try.ntmps148
    go_wp2
    go_ret
    exact ⟨rfl, rfl⟩
  · have h2 : Op.bytesLess a.toList b.toList = false := by simpa [ltB] using hlt
    by_cases hab : a = b
    · have h1 : cmpB a b = 0 := by rw [cmpB, if_neg hlt, if_pos hab]
      have h3 : (a.toList == b.toList) = true := by rw [hs]; simpa using hab
      rw [h1]
      clear hs hlt h1 hab
      go_enter Try.func148, Try.ntmps148
      go_wp2
      go_ret
      exact ⟨rfl, rfl⟩
    · have h1 : cmpB a b = 1 := by rw [cmpB, if_neg hlt, if_neg hab]
      have h3 : (a.toList == b.toList) = false := by rw [hs]; simpa using hab
      rw [h1]
      clear hs hlt h1 hab
      go_enter Try.func148, Try.ntmps148
      go_wp2
      go_ret
      exact ⟨rfl, rfl⟩
set_option maxHeartbeats 2000000 in
theorem cmp_or (x y : Int) (b c : Nat) (w : World) (h0 : w.cell? ⟨b, 0, none⟩ = some (.int .i64 x)) (h1 : w.cell? ⟨b, 1, none⟩ = some (.int .i64 y)) :
    Calls Try.prog 147 #[.slice (some ⟨b, 0, none⟩) 2 c] w fun e w' => e = .returned (.int .i64 (if x ≠ 0 then x else y)) ∧ w' = w := by
  generalize hr : (if x ≠ 0 then x else y) = r
  go_enter Try.func147, Try.ntmps147
  go_wp2
  go_loopg [5, 8] 3 (fun q i j wr => wr = w ∧ ∃ n : Nat, n ≤ 2 ∧ q = 3 - n ∧ j = .int .i64 n ∧ (1 ≤ n → x = 0) ∧ (2 ≤ n → y = 0))
  case atStart => exact ⟨rfl, 0, by omega, rfl, rfl, by omega, by omega⟩
  case round =>
  obtain ⟨rfl, n, hn, hq, rfl, hx, hy⟩ := hrel
  have hr := Hd.mk hr
  have hc : n = 0 ∨ n = 1 ∨ n = 2 := by omega
  rcases hc with rfl | rfl | rfl
  · by_cases h : x = 0
    · have h2 : (x != 0) = false := by simpa using h
      go_wp2
      go_roundg 2
      case measure => omega
      case rel => exact ⟨rfl, 1, by omega, rfl, rfl, fun _ => h, by omega⟩
    · have h2 : (x != 0) = true := by simpa using h
      go_wp2
      go_ret
      exact ⟨ret_int (by rw [← hr.out, if_pos h]), rfl⟩
  · have hx0 := hx (by omega)
    by_cases h : y = 0
    · have h2 : (y != 0) = false := by simpa using h
      go_wp2
      go_roundg 1
      case measure => omega
      case rel => exact ⟨rfl, 2, by omega, rfl, rfl, fun _ => hx0, fun _ => h⟩
    · have h2 : (y != 0) = true := by simpa using h
      go_wp2
      go_ret
      exact ⟨ret_int (by rw [← hr.out, if_neg (by simpa using hx0)]), rfl⟩
  · have hx0 := hx (by omega)
    have hy0 := hy (by omega)
    go_wp2
    go_ret
    exact ⟨ret_int (by rw [← hr.out, if_neg (by simpa using hx0), hy0]), rfl⟩
def two (x y : Int) : SP := ⟨fun v w => ∃ D, v = .slice (some ⟨D, 0, none⟩) 2 2 ∧ Blk w D [.int .i64 x, .int .i64 y] 3, fun _ _ _ h ⟨D, e, hb⟩ => ⟨D, e, hb.ext h⟩⟩
set_option maxRecDepth 100000 in
set_option maxHeartbeats 4000000 in
theorem tree_compare (a b : T) (K1 K2 : Option Addr) (n1 c1 n2 c2 : Nat) (w : World) :
    Calls Try.prog 116 #[.agg (cT a.name a.key a.kind a.num a.text K1 n1 c1).toArray, .agg (cT b.name b.key b.kind b.num b.text K2 n2 c2).toArray] w fun e w' => e = .returned (.int .i64 (cmpT a b)) ∧ Ext w w' := by
  simp only [cT]
  go_enter Try.func116, Try.ntmps116
  go_wp2_with fail
  have kx := Hd.mk ((Ext.alloc w (.cells #[.string a.name, .string a.key, .int .i64 a.kind, .int .u64 a.num, .string a.text, .slice K1 n1 c1] 54)).trans (Ext.alloc _ (.cells #[.string b.name, .string b.key, .int .i64 b.kind, .int .u64 b.num, .string b.text, .slice K2 n2 c2] 54)))
  have ka := Hd.mk ((Blk.new w #[.string a.name, .string a.key, .int .i64 a.kind, .int .u64 a.num, .string a.text, .slice K1 n1 c1] 54).alloc (.cells #[.string b.name, .string b.key, .int .i64 b.kind, .int .u64 b.num, .string b.text, .slice K2 n2 c2] 54))
  have kb := Hd.mk (Blk.new2 w (.cells #[.string a.name, .string a.key, .int .i64 a.kind, .int .u64 a.num, .string a.text, .slice K1 n1 c1] 54) #[.string b.name, .string b.key, .int .i64 b.kind, .int .u64 b.num, .string b.text, .slice K2 n2 c2] 54)
  generalize w.heap.size = pA at *
  generalize ((w.alloc _).alloc _) = W at *
  refine Flow.wp_region_flow_l (fun t => match t with
    | 5 => SP.eq (.pointer (some ⟨pA, 0, none⟩))
    | 6 => SP.eq (.string a.name)
    | 7 => SP.eq (.pointer (some ⟨(pA + 1), 0, none⟩))
    | 8 => SP.eq (.string b.name)
    | 9 => SP.eq (.int .i64 (cmpB a.name b.name))
    | 10 => SP.eq (.pointer (some ⟨pA, 1, none⟩))
    | 11 => SP.eq (.string a.key)
    | 12 => SP.eq (.pointer (some ⟨(pA + 1), 1, none⟩))
    | 13 => SP.eq (.string b.key)
    | 14 => SP.eq (.int .i64 (cmpB a.key b.key))
    | 15 => two (cmpB a.name b.name) (cmpB a.key b.key)
    | 16 => SP.eq (.int .i64 (cmpT a b))
    | 4 => SP.eq (.int .i64 (cmpT a b))
    | _ => SP.any) 13 (by kernel_rfl) 17 rfl (by kernel_rfl) ?_ ?_
  · skip
    refine ⟨?_, ?_, ?_, ?_, ?_, ?_, ?_, ?_, ?_, ?_, ?_, ?_, ?_, trivial⟩
    · intro act W2 hk
      refine Flow.does_intro rfl (fun K hK => ?_)
      have e2 : act.tmps[2]?.getD undef = .pointer (some ⟨pA, 0, none⟩) := hk.o 2 (by kernel_rfl)
      clear hk
      go_simp
      exact hK _ _ (Ext.refl _) (fun d hd => by cases hd; rfl)
    · intro act W2 hk
      refine Flow.does_intro rfl (fun K hK => ?_)
      have e5 : act.tmps[5]?.getD undef = .pointer (some ⟨pA, 0, none⟩) := hk.v 5 (by kernel_rfl)
      have g := ((ka.out).ext ((Ext.drew W).trans hk.ext)).cell
      clear hk
      go_simp
      exact hK _ _ (Ext.refl _) (fun d hd => by cases hd; rfl)
    · intro act W2 hk
      refine Flow.does_intro rfl (fun K hK => ?_)
      have e3 : act.tmps[3]?.getD undef = .pointer (some ⟨(pA + 1), 0, none⟩) := hk.o 3 (by kernel_rfl)
      clear hk
      go_simp
      exact hK _ _ (Ext.refl _) (fun d hd => by cases hd; rfl)
    · intro act W2 hk
      refine Flow.does_intro rfl (fun K hK => ?_)
      have e7 : act.tmps[7]?.getD undef = .pointer (some ⟨(pA + 1), 0, none⟩) := hk.v 7 (by kernel_rfl)
      have g := ((kb.out).ext ((Ext.drew W).trans hk.ext)).cell
      clear hk
      go_simp
      exact hK _ _ (Ext.refl _) (fun d hd => by cases hd; rfl)
    · intro act W2 hk
      refine Flow.does_intro rfl (fun K hK => ?_)
      have e6 : act.tmps[6]?.getD undef = .string a.name := hk.v 6 (by kernel_rfl)
      have e8 : act.tmps[8]?.getD undef = .string b.name := hk.v 8 (by kernel_rfl)
      clear hk
      go_simp
      refine Calls.mono (cmp_compare _ _ _) ?_
      rintro e W3 ⟨rfl, rfl⟩
      exact hK _ _ (Ext.refl _) (fun d hd => by cases hd; rfl)
    · intro act W2 hk
      refine Flow.does_intro rfl (fun K hK => ?_)
      have e2 : act.tmps[2]?.getD undef = .pointer (some ⟨pA, 0, none⟩) := hk.o 2 (by kernel_rfl)
      clear hk
      go_simp
      exact hK _ _ (Ext.refl _) (fun d hd => by cases hd; rfl)
    · intro act W2 hk
      refine Flow.does_intro rfl (fun K hK => ?_)
      have e10 : act.tmps[10]?.getD undef = .pointer (some ⟨pA, 1, none⟩) := hk.v 10 (by kernel_rfl)
      have g := ((ka.out).ext ((Ext.drew W).trans hk.ext)).cell
      clear hk
      go_simp
      exact hK _ _ (Ext.refl _) (fun d hd => by cases hd; rfl)
    · intro act W2 hk
      refine Flow.does_intro rfl (fun K hK => ?_)
      have e3 : act.tmps[3]?.getD undef = .pointer (some ⟨(pA + 1), 0, none⟩) := hk.o 3 (by kernel_rfl)
      clear hk
      go_simp
      exact hK _ _ (Ext.refl _) (fun d hd => by cases hd; rfl)
    · intro act W2 hk
      refine Flow.does_intro rfl (fun K hK => ?_)
      have e12 : act.tmps[12]?.getD undef = .pointer (some ⟨(pA + 1), 1, none⟩) := hk.v 12 (by kernel_rfl)
      have g := ((kb.out).ext ((Ext.drew W).trans hk.ext)).cell
      clear hk
      go_simp
      exact hK _ _ (Ext.refl _) (fun d hd => by cases hd; rfl)
    · intro act W2 hk
      refine Flow.does_intro rfl (fun K hK => ?_)
      have e11 : act.tmps[11]?.getD undef = .string a.key := hk.v 11 (by kernel_rfl)
      have e13 : act.tmps[13]?.getD undef = .string b.key := hk.v 13 (by kernel_rfl)
      clear hk
      go_simp
      refine Calls.mono (cmp_compare _ _ _) ?_
      rintro e W3 ⟨rfl, rfl⟩
      exact hK _ _ (Ext.refl _) (fun d hd => by cases hd; rfl)
    · intro act W2 hk
      refine Flow.does_intro rfl (fun K hK => ?_)
      have e9 : act.tmps[9]?.getD undef = .int .i64 (cmpB a.name b.name) := hk.v 9 (by kernel_rfl)
      have e14 : act.tmps[14]?.getD undef = .int .i64 (cmpB a.key b.key) := hk.v 14 (by kernel_rfl)
      clear hk
      go_simp
      exact hK _ _ (Ext.alloc _ _) (fun d hd => by cases hd; exact ⟨_, rfl, Blk.new _ _ _⟩)
    · intro act W2 hk
      refine Flow.does_intro rfl (fun K hK => ?_)
      obtain ⟨D, e15, hD⟩ : (two _ _).p _ _ := hk.v 15 (by kernel_rfl)
      have hD := Hd.mk hD
      clear hk
      go_simp
      refine Calls.mono (cmp_or _ _ D 2 _ (hD.out.cell 0) (hD.out.cell 1)) ?_
      rintro e W3 ⟨rfl, rfl⟩
      exact hK _ _ (Ext.refl _) (fun d hd => by cases hd; rfl)
    · intro act W2 hk
      refine Flow.does_intro rfl (fun K hK => ?_)
      have e16 : act.tmps[16]?.getD undef = .int .i64 (cmpT a b) := hk.v 16 (by kernel_rfl)
      clear hk
      go_simp
      exact hK _ _ (Ext.refl _) (fun d hd => by cases hd; rfl)
  · intro act W2 he
    have hxW2 := Hd.mk ((Ext.drew W).trans he.ext)
    obtain ⟨us, hA, hF⟩ := he.out [5, 6, 7, 8, 9, 10, 11, 12, 13, 14, 15, 16, 4] (by kernel_rfl)
    simp only [Flow.fillL, List.contains_cons, List.contains_nil, Nat.reduceBEq, Bool.or_false, Bool.false_or, Bool.or_true, Bool.true_or, ↓reduceIte, Nat.reduceAdd, Bool.false_eq_true] at hA
    subst hA
    have f4 : us 4 = .int .i64 (cmpT a b) := hF 4 (by simp)
    clear hF he
    rw [f4]
    clear f4
    refine (show wpList _ _ _ [] _ _ from ?_)
    go_wp2_with fail
    go_ret
    exact ⟨rfl, kx.out.trans hxW2.out⟩
theorem ltB_iff (a b : ByteArray) : ltB a b = decide (a.toList < b.toList) := bytesLess_eq _ _
theorem cmpB_neg (a b : ByteArray) : (cmpB a b < 0) ↔ ltB a b = true := by
  unfold cmpB
  split
  · simp_all
  · rename_i h
    split <;> simp_all
theorem cmpB_zero {a b : ByteArray} : cmpB a b = 0 ↔ (ltB a b = false ∧ a = b) := by
  unfold cmpB
  by_cases h : ltB a b = true
  · simp [h]
  · by_cases h2 : a = b <;> simp [h, h2]
theorem ltB_irr (a : ByteArray) : ltB a a = false := by rw [ltB_iff]; simp
theorem cmpT_neg (a b : T) : decide (cmpT a b < 0) = lessT a b := by
  unfold cmpT lessT
  by_cases h : cmpB a.name b.name = 0
  · obtain ⟨h1, h2⟩ := cmpB_zero.1 h
    rw [if_neg (by simpa using h), h1, h2]
    simp [cmpB_neg]
  · rw [if_pos h]
    by_cases h1 : ltB a.name b.name = true
    · simp [(cmpB_neg _ _).2 h1, h1]
    · have h3 : ¬ cmpB a.name b.name < 0 := fun hh => h1 ((cmpB_neg _ _).1 hh)
      have h4 : a.name ≠ b.name := fun hh => h (cmpB_zero.2 ⟨by simpa using h1, hh⟩)
      simp [h3, h1, h4]
set_option maxRecDepth 100000 in
set_option maxHeartbeats 4000000 in
theorem tree_less (a b : T) (K1 K2 : Option Addr) (n1 c1 n2 c2 : Nat) (w : World) :
    Calls Try.prog 66 #[.agg (cT a.name a.key a.kind a.num a.text K1 n1 c1).toArray, .agg (cT b.name b.key b.kind b.num b.text K2 n2 c2).toArray] w fun e w' => e = .returned (.bool (lessT a b)) ∧ Ext w w' := by
  rw [← cmpT_neg]
  have hc := Hd.mk (tree_compare a b K1 K2 n1 c1 n2 c2)
  simp only [cT] at hc ⊢
  go_enter Try.func66, Try.ntmps66
  go_wp2_with fail
  refine (hc.out _).mono ?_
  rintro e w1 ⟨rfl, hx⟩
  have kx := Hd.mk (((Ext.alloc w (.cells #[.string a.name, .string a.key, .int .i64 a.kind, .int .u64 a.num, .string a.text, .slice K1 n1 c1] 54)).trans (Ext.alloc _ (.cells #[.string b.name, .string b.key, .int .i64 b.kind, .int .u64 b.num, .string b.text, .slice K2 n2 c2] 54))).trans hx)
  go_wp2_with fail
  go_ret
  exact ⟨rfl, kx.out⟩
set_option maxRecDepth 100000 in
set_option maxHeartbeats 4000000 in
theorem ref_less (a b : T) (K1 K2 : Option Addr) (n1 c1 n2 c2 : Nat) (w : World) :
    Calls Try.prog 67 #[.agg (cT a.name a.key a.kind a.num a.text K1 n1 c1).toArray, .agg (cT b.name b.key b.kind b.num b.text K2 n2 c2).toArray] w fun e w' => e = .returned (.bool (lessT a b)) ∧ Ext w w' := by
  by_cases h1 : ltB a.name b.name = true
  · have h1' : Op.bytesLess a.name.toList b.name.toList = true := h1
    have hr : lessT a b = true := by rw [lessT, h1]; rfl
    rw [hr]
    clear hr h1
    simp only [cT]
    go_enter Try.func67, Try.ntmps67
    have kx := Hd.mk ((Ext.alloc w (.cells #[.string a.name, .string a.key, .int .i64 a.kind, .int .u64 a.num, .string a.text, .slice K1 n1 c1] 54)).trans (Ext.alloc _ (.cells #[.string b.name, .string b.key, .int .i64 b.kind, .int .u64 b.num, .string b.text, .slice K2 n2 c2] 54)))
    go_wp2_with fail
    go_ret
    exact ⟨rfl, kx.out⟩
  · have h1' : Op.bytesLess a.name.toList b.name.toList = false := (Bool.not_eq_true _).mp h1
    have h1'' : ltB a.name b.name = false := h1'
    by_cases h2 : a.name = b.name
    · have hr : lessT a b = Op.bytesLess a.key.toList b.key.toList := by rw [lessT, h1'', decide_eq_true h2]; rfl
      have h2' : (a.name.toList == b.name.toList) = true := by rw [str_eq]; exact decide_eq_true h2
      rw [hr]
      clear hr h1 h1'' h2
      simp only [cT]
      go_enter Try.func67, Try.ntmps67
      have kx := Hd.mk ((Ext.alloc w (.cells #[.string a.name, .string a.key, .int .i64 a.kind, .int .u64 a.num, .string a.text, .slice K1 n1 c1] 54)).trans (Ext.alloc _ (.cells #[.string b.name, .string b.key, .int .i64 b.kind, .int .u64 b.num, .string b.text, .slice K2 n2 c2] 54)))
      go_wp2_with fail
      go_ret
      exact ⟨rfl, kx.out⟩
    · have hr : lessT a b = false := by rw [lessT, h1'', decide_eq_false h2]; rfl
      have h2' : (a.name.toList == b.name.toList) = false := by rw [str_eq]; exact decide_eq_false h2
      rw [hr]
      clear hr h1 h1'' h2
      simp only [cT]
      go_enter Try.func67, Try.ntmps67
      have kx := Hd.mk ((Ext.alloc w (.cells #[.string a.name, .string a.key, .int .i64 a.kind, .int .u64 a.num, .string a.text, .slice K1 n1 c1] 54)).trans (Ext.alloc _ (.cells #[.string b.name, .string b.key, .int .i64 b.kind, .int .u64 b.num, .string b.text, .slice K2 n2 c2] 54)))
      go_wp2_with fail
      go_ret
      exact ⟨rfl, kx.out⟩
end Go.Proofs.Ytgkgedjmnbjalaa
set_option linter.unusedSimpArgs false
namespace Go.Proofs.Ytgkgedjmnbjalaa
open Go.RowKit Go.Sort
theorem six {w w' : World} (hx : Ext w w') {b o : Nat} {x0 x1 x2 x3 x4 x5 : Value} (h : ∀ (j : Nat) v, [x0, x1, x2, x3, x4, x5][j]? = some v → w.cell? ⟨b, o + j, none⟩ = some v) :
    w'.cell? ⟨b, o, none⟩ = some x0 ∧ w'.cell? ⟨b, o + 1, none⟩ = some x1 ∧ w'.cell? ⟨b, o + 2, none⟩ = some x2 ∧ w'.cell? ⟨b, o + 3, none⟩ = some x3 ∧ w'.cell? ⟨b, o + 4, none⟩ = some x4 ∧ w'.cell? ⟨b, o + 5, none⟩ = some x5 :=
  ⟨Ext.cell hx (h 0 _ rfl), Ext.cell hx (h 1 _ rfl), Ext.cell hx (h 2 _ rfl), Ext.cell hx (h 3 _ rfl), Ext.cell hx (h 4 _ rfl), Ext.cell hx (h 5 _ rfl)⟩
theorem sizeL_take {l : List T} {j : Nat} {k : T} (h : l[j]? = some k) : sizeL (l.take (j + 1)) = sizeL (l.take j) + k.size := by
  rw [List.take_add_one, h, sizeL_append]
  simp [sizeL]
theorem sizeL_take_le : ∀ (l : List T) (j : Nat), sizeL (l.take j) ≤ sizeL l
  | [], j => by simp
  | t :: l, 0 => by simp [sizeL]
  | t :: l, j + 1 => by have := sizeL_take_le l j; simp [sizeL]; omega
set_option maxRecDepth 100000 in
set_option maxHeartbeats 4000000 in
theorem ref_size : ∀ (n : Nat) (t : T) (S : Nat → Prop) (w : World) (c : List Value), t.size ≤ n → t.size ≤ 1048576 → RT S w t c →
    Calls Try.prog 64 #[.agg c.toArray] w fun e w' => e = .returned (.int .i64 (t.size : Nat)) ∧ Ext w w'
  | 0, t, S, w, c, hn, _, _ => by have := size_pos t; omega
  | n + 1, t, S, w, c, hn, hb, h => by
    obtain ⟨K, kc, rfl, hrow⟩ := h.row
    have kr := Hd.mk hrow
    have kn := Hd.mk hn
    have hsz := t.size_eq
    have hlen := sizeL_len t.kids
    have hlb := hrow.len
    have ih := Hd.mk (ref_size n)
    clear hrow h hn
    simp only [cT]
    go_enter Try.func64, Try.ntmps64
    go_wp2_with fail
    have kA := Hd.mk (Blk.new w #[.string t.name, .string t.key, .int .i64 t.kind, .int .u64 t.num, .string t.text, .slice K t.kids.length kc] 54)
    have kx := Hd.mk (Ext.alloc w (.cells #[.string t.name, .string t.key, .int .i64 t.kind, .int .u64 t.num, .string t.text, .slice K t.kids.length kc] 54))
    generalize w.heap.size = pA at *
    generalize w.alloc _ = W at *
    go_loopg [3, 4] (t.kids.length + 1) (fun q m i wr => ∃ j : Nat, j ≤ t.kids.length ∧ Hd (q = t.kids.length + 1 - j) ∧ i = .int .i64 j ∧ m = .int .i64 ((1 + sizeL (t.kids.take j) : Nat)) ∧ Hd (Ext W wr))
    case atStart => exact ⟨0, by omega, ⟨by omega⟩, rfl, rfl, ⟨Ext.refl _⟩⟩
    case round =>
    obtain ⟨j, hj, hq, rfl, rfl, hxr⟩ := hrel
    have gA := (kA.out.ext hxr.out).cell
    by_cases hlt : j < t.kids.length
    · have hkj := List.getElem?_eq_getElem hlt
      generalize t.kids[j] = k at hkj
      obtain ⟨b, off, ck, rfl, _, hrk, hck⟩ := kr.out.kid j k hkj
      obtain ⟨K', kc', rfl, _⟩ := hrk.row
      obtain ⟨e0, e1, e2, e3, e4, e5⟩ := six (kx.out.trans hxr.out) hck
      have hks := kid_size hkj
      have hst := Hd.mk (sizeL_take hkj)
      have hsl := sizeL_take_le t.kids (j + 1)
      rw [hst.out] at hsl
      have hcall := Hd.mk (fun w h => ih.out k S w _ (by have := kn.out; omega) (by omega) (hrk.ext h))
      simp only [cT] at hcall
      clear hck hrk hkj hks
      generalize sizeL (t.kids.take j) = z at *
      go_wp2_with fail
      refine (hcall.out wr (kx.out.trans hxr.out)).mono ?_
      rintro e w2 ⟨rfl, hx2⟩
      have hx2 := Hd.mk (hxr.out.trans hx2)
      have gA := (kA.out.ext hx2.out).cell
      go_wp2_with fail
      go_roundg (t.kids.length + 1 - (j + 1))
      case measure => have := hq.out; omega
      case rel => exact ⟨j + 1, by omega, ⟨rfl⟩, by go_num, by rw [hst.out]; go_num, hx2⟩
    · have hjl : j = t.kids.length := by omega
      subst hjl
      rw [List.take_length]
      go_wp2_with fail
      go_ret
      exact ⟨ret_int (by omega), kx.out.trans hxr.out⟩
end Go.Proofs.Ytgkgedjmnbjalaa
set_option linter.unusedSimpArgs false
namespace Go.Proofs.Ytgkgedjmnbjalaa
open Go.RowKit Go.Sort
mutual
/-- Two trees are the same. -/
def sameT : T → T → Bool
  | .mk n k d m t l, .mk n' k' d' m' t' l' => decide (n = n') && decide (k = k') && (decide (d = d') && decide (m = m') && decide (t = t')) && sameL l l'
def sameL : List T → List T → Bool
  | [], [] => true
  | x :: l, y :: m => sameT x y && sameL l m
  | _, _ => false
end
theorem sameL_len : ∀ (l m : List T), sameL l m = true → l.length = m.length
  | [], [], _ => rfl
  | x :: l, y :: m, h => by
    rw [sameL, Bool.and_eq_true] at h
    simp [sameL_len l m h.2]
  | [], _ :: _, h => by simp [sameL] at h
  | _ :: _, [], h => by simp [sameL] at h
theorem sameL_drop {l m : List T} {j : Nat} {x y : T} (hx : l[j]? = some x) (hy : m[j]? = some y) : sameL (l.drop j) (m.drop j) = (sameT x y && sameL (l.drop (j + 1)) (m.drop (j + 1))) := by
  obtain ⟨h1, h2⟩ := List.getElem?_eq_some_iff.1 hx
  obtain ⟨h3, h4⟩ := List.getElem?_eq_some_iff.1 hy
  rw [List.drop_eq_getElem_cons h1, List.drop_eq_getElem_cons h3, sameL, h2, h4]
theorem sameT_mk (n k : ByteArray) (d m : Int) (t : ByteArray) (l : List T) (n' k' : ByteArray) (d' m' : Int) (t' : ByteArray) (l' : List T) :
    sameT (.mk n k d m t l) (.mk n' k' d' m' t' l') = (decide (n = n') && decide (k = k') && (decide (d = d') && decide (m = m') && decide (t = t')) && sameL l l') := rfl
set_option maxRecDepth 100000 in
set_option maxHeartbeats 4000000 in
theorem ref_same : ∀ (N : Nat) (a b : T) (S : Nat → Prop) (w : World) (c d : List Value), a.deep ≤ N → RT S w a c → RT S w b d →
    Calls Try.prog 48 #[.agg c.toArray, .agg d.toArray] w fun e w' => e = .returned (.bool (sameT a b)) ∧ Ext w w'
  | 0, a, b, S, w, c, d, hn, _, _ => by rw [a.deep_eq] at hn; omega
  | N + 1, .mk n k d m t l, .mk n' k' d' m' t' l', S, w, c, d2, hn, ha, hb => by
    obtain ⟨K1, c1, rfl, hr1⟩ := ha.row
    obtain ⟨K2, c2, rfl, hr2⟩ := hb.row
    simp only [T.name, T.key, T.kind, T.num, T.text, T.kids] at hr1 hr2 ⊢
    have kr1 := Hd.mk hr1
    have kr2 := Hd.mk hr2
    have kn := Hd.mk (show deepL l ≤ N by rw [T.deep_eq] at hn; simp only [T.kids] at hn; omega)
    have hl1 := hr1.len
    have hl2 := hr2.len
    have ih := Hd.mk (ref_same N)
    have hsame := Hd.mk (sameT_mk n k d m t l n' k' d' m' t' l')
    clear hr1 hr2 ha hb hn
    generalize sameT _ _ = r at *
    have sN := str_eq n n'
    have sK := str_eq k k'
    have sT := str_eq t t'
    simp only [cT]
    by_cases h1 : n = n'
    · subst h1
      by_cases h2 : k = k'
      · subst h2
        by_cases h3 : d = d'
        · subst h3
          by_cases h4 : m = m'
          · subst h4
            by_cases h5 : t = t'
            · subst h5
              clear sN sK sT
              by_cases h6 : l.length = l'.length
              · have hr : r = sameL l l' := by rw [hsame.out]; simp
                clear hsame
                rw [h6]
                replace h6 := Hd.mk h6
                clear hl1
                go_enter Try.func48, Try.ntmps48
                go_wp2_with fail
                have kA := Hd.mk ((Blk.new w #[.string n, .string k, .int .i64 d, .int .u64 m, .string t, .slice K1 l'.length c1] 54).alloc (.cells #[.string n, .string k, .int .i64 d, .int .u64 m, .string t, .slice K2 l'.length c2] 54))
                have kB := Hd.mk (Blk.new2 w (.cells #[.string n, .string k, .int .i64 d, .int .u64 m, .string t, .slice K1 l'.length c1] 54) #[.string n, .string k, .int .i64 d, .int .u64 m, .string t, .slice K2 l'.length c2] 54)
                have kx := Hd.mk ((Ext.alloc w (.cells #[.string n, .string k, .int .i64 d, .int .u64 m, .string t, .slice K1 l'.length c1] 54)).trans (Ext.alloc _ (.cells #[.string n, .string k, .int .i64 d, .int .u64 m, .string t, .slice K2 l'.length c2] 54)))
                generalize w.heap.size = pA at *
                generalize (w.alloc _).alloc _ = W at *
                replace hr := Hd.mk hr
                go_loopg [5, 6] (l'.length + 1) (fun q i _ wr => ∃ j : Nat, j ≤ l'.length ∧ Hd (q = l'.length + 1 - j) ∧ i = .int .i64 j ∧ Hd (r = sameL (l.drop j) (l'.drop j)) ∧ Hd (Ext W wr))
                case atStart => exact ⟨0, by omega, ⟨by omega⟩, rfl, hr, ⟨Ext.refl _⟩⟩
                case round =>
                obtain ⟨j, hj, hq, rfl, hI, hxr⟩ := hrel
                have gA := (kA.out.ext hxr.out).cell
                have gB := (kB.out.ext hxr.out).cell
                by_cases hlt : j < l'.length
                · have hlt1 : j < l.length := by have := h6.out; omega
                  have hx1 := List.getElem?_eq_getElem hlt1
                  have hx2 := List.getElem?_eq_getElem hlt
                  generalize l[j] = x at hx1
                  generalize l'[j] = y at hx2
                  obtain ⟨b1, o1, ck, rfl, _, hrk, hck⟩ := kr1.out.kid j x hx1
                  obtain ⟨b2, o2, dk, rfl, _, hrd, hdk⟩ := kr2.out.kid j y hx2
                  obtain ⟨K3, c3, rfl, _⟩ := hrk.row
                  obtain ⟨K4, c4, rfl, _⟩ := hrd.row
                  have hcall := Hd.mk (fun W' (h : Ext w W') => ih.out x y S W' _ _ (by have := deepL_mem hx1; have := kn.out; omega) (hrk.ext h) (hrd.ext h))
                  have hdrop := Hd.mk (sameL_drop hx1 hx2)
                  obtain ⟨e0, e1, e2, e3, e4, e5⟩ := six (kx.out.trans hxr.out) hck
                  obtain ⟨f0, f1, f2, f3, f4, f5⟩ := six (kx.out.trans hxr.out) hdk
                  have c0 := cell_regrown e0
                  have c1 := cell_regrown e1
                  have c2 := cell_regrown e2
                  have c3 := cell_regrown e3
                  have c4 := cell_regrown e4
                  have c5 := cell_regrown e5
                  have d0 := cell_regrown f0
                  have d1 := cell_regrown f1
                  have d2 := cell_regrown f2
                  have d3 := cell_regrown f3
                  have d4 := cell_regrown f4
                  have d5 := cell_regrown f5
                  clear e0 e1 e2 e3 e4 e5 f0 f1 f2 f3 f4 f5 hck hdk hrk hrd hx1 hx2
                  simp only [cT] at hcall
                  go_wp2_with fail
                  have k3 := cell_regrown ((gA 5).trans rfl)
                  have k4 := cell_regrown ((gB 5).trans rfl)
                  have cF := fun dd os => Calls.regrown_of (d := dd) (os := os) (hcall.out (grow (redrawn wr dd) os) ((kx.out.trans hxr.out).trans (ext_regrown wr dd os)))
                  clear gA gB hcall
                  refine wp_region_quiet_below (by kernel_rfl) (by kernel_rfl) ?_
                  repeat (quiet_step (exact cF _ _))
                  refine wpQuiet_nil ?_
                  intro _ hw'
                  obtain ⟨⟨dq, osq⟩, hw''⟩ := hw'
                  subst hw''
                  have hx3 := ext_regrown wr dq osq
                  clear cF k3 k4 c0 c1 c2 c3 c4 c5 d0 d1 d2 d3 d4 d5
                  generalize grow (redrawn wr dq) osq = w3 at *
                  have hxr3 := Hd.mk (hxr.out.trans hx3)
                  clear hx3
                  cases hs : sameT x y with
                  | true =>
                    go_wp2_with fail
                    go_roundg (l'.length + 1 - (j + 1))
                    case measure => have := hq.out; omega
                    case rel => exact ⟨j + 1, by omega, ⟨rfl⟩, by go_num, ⟨by rw [hI.out, hdrop.out, hs]; rfl⟩, hxr3⟩
                  | false =>
                    have hr0 : r = false := by rw [hI.out, hdrop.out, hs]; rfl
                    subst hr0
                    go_wp2_with fail
                    go_ret
                    exact ⟨rfl, kx.out.trans hxr3.out⟩
                · have hjl : j = l'.length := by omega
                  subst hjl
                  have hr0 : r = true := by rw [hI.out, ← h6.out, List.drop_length, h6.out, List.drop_length]; rfl
                  subst hr0
                  go_wp2_with fail
                  go_ret
                  exact ⟨rfl, kx.out.trans hxr.out⟩
              · have hr : r = false := by
                  rw [hsame.out]
                  cases hs : sameL l l' with
                  | false => simp
                  | true => exact absurd (sameL_len _ _ hs) h6
                subst hr
                have h6' : ((l.length : Int) != (l'.length : Int)) = true := by rw [bne_iff_ne]; omega
                clear hsame
                go_enter Try.func48, Try.ntmps48
                go_wp2_with fail
                go_ret
                exact ⟨rfl, (Ext.alloc _ _).trans (Ext.alloc _ _)⟩
            · have hr : r = false := by rw [hsame.out]; simp [h5]
              subst hr
              have h5' : (t.toList == t'.toList) = false := by rw [sT]; exact decide_eq_false h5
              clear hsame sN sK sT
              go_enter Try.func48, Try.ntmps48
              go_wp2_with fail
              go_ret
              exact ⟨rfl, (Ext.alloc _ _).trans (Ext.alloc _ _)⟩
          · have hr : r = false := by rw [hsame.out]; simp [h4]
            subst hr
            clear hsame sN sK sT
            go_enter Try.func48, Try.ntmps48
            go_wp2_with fail
            go_ret
            exact ⟨rfl, (Ext.alloc _ _).trans (Ext.alloc _ _)⟩
        · have hr : r = false := by rw [hsame.out]; simp [h3]
          subst hr
          clear hsame sN sK sT
          go_enter Try.func48, Try.ntmps48
          go_wp2_with fail
          go_ret
          exact ⟨rfl, (Ext.alloc _ _).trans (Ext.alloc _ _)⟩
      · have hr : r = false := by rw [hsame.out]; simp [h2]
        subst hr
        have h2' : (k.toList == k'.toList) = false := by rw [sK]; exact decide_eq_false h2
        clear hsame sN sK sT
        go_enter Try.func48, Try.ntmps48
        go_wp2_with fail
        go_ret
        exact ⟨rfl, (Ext.alloc _ _).trans (Ext.alloc _ _)⟩
    · have hr : r = false := by rw [hsame.out]; simp [h1]
      subst hr
      have h1' : (n.toList == n'.toList) = false := by rw [sN]; exact decide_eq_false h1
      clear hsame sN sK sT
      go_enter Try.func48, Try.ntmps48
      go_wp2_with fail
      go_ret
      exact ⟨rfl, (Ext.alloc _ _).trans (Ext.alloc _ _)⟩
end Go.Proofs.Ytgkgedjmnbjalaa
