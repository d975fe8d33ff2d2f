/- Edits: what they are, how they lie in memory, how one more is laid.
   Conditions: none. -/
import Derived.Test.YtgkgedjmnbjalaaTJ
set_option linter.unusedSimpArgs false
namespace Go.Proofs.Ytgkgedjmnbjalaa
open Go.RowKit Go.Sort

/-- An edit. -/
structure E where
  kind : Int
  way : List Step
  node : T
  old : T
abbrev stepT (t : T) : Step := (t.name, t.key)
def cutE (way : List Step) (x : T) : List E := [⟨2, way ++ [stepT x], zeroT, x⟩]
def setE (way : List Step) (y : T) : List E := [⟨1, way ++ [stepT y], y, zeroT⟩]
def bothE (rec : T → T → List Step → List E) (way : List Step) (x y : T) : List E :=
  if sameT x y = true then [] else if x.kind ≠ 0 ∧ y.kind ≠ 0 then [⟨3, way ++ [stepT x], y, x⟩] else if x.kind ≠ 0 ∨ y.kind ≠ 0 then cutE way x ++ setE way y else rec x y (way ++ [stepT x])
def mergeE (one other : T → List E) (both : T → T → List E) : Nat → List T → List T → List E
  | 0, _, _ => []
  | _ + 1, [], [] => []
  | n + 1, x :: xs, [] => one x ++ mergeE one other both n xs []
  | n + 1, [], y :: ys => other y ++ mergeE one other both n [] ys
  | n + 1, x :: xs, y :: ys => if lessT x y = true then one x ++ mergeE one other both n xs (y :: ys) else if lessT y x = true then other y ++ mergeE one other both n (x :: xs) ys else both x y ++ mergeE one other both n xs ys
/-- The document's edits of two trees, at the end of a way; n: at least as deep as the first one. -/
def edits : Nat → T → T → List Step → List E
  | 0, _, _, _ => []
  | n + 1, a, b, way => mergeE (cutE way) (setE way) (bothE (edits n) way) (a.kids.length + b.kids.length) a.kids b.kids

theorem mergeE_len {one other : T → List E} {both : T → T → List E} (h1 : ∀ x, (one x).length ≤ x.size) (h2 : ∀ y, (other y).length ≤ y.size) (h3 : ∀ x y, (both x y).length ≤ x.size + y.size) :
    ∀ (n : Nat) (xs ys : List T), (mergeE one other both n xs ys).length ≤ sizeL xs + sizeL ys
  | 0, _, _ => by simp [mergeE]
  | n + 1, [], [] => by simp [mergeE]
  | n + 1, x :: xs, [] => by have := mergeE_len h1 h2 h3 n xs []; have := h1 x; simp only [mergeE, sizeL, List.length_append] at *; omega
  | n + 1, [], y :: ys => by have := mergeE_len h1 h2 h3 n [] ys; have := h2 y; simp only [mergeE, sizeL, List.length_append] at *; omega
  | n + 1, x :: xs, y :: ys => by
    have e1 := mergeE_len h1 h2 h3 n xs (y :: ys)
    have e2 := mergeE_len h1 h2 h3 n (x :: xs) ys
    have e3 := mergeE_len h1 h2 h3 n xs ys
    have := h1 x
    have := h2 y
    have := h3 x y
    simp only [mergeE, sizeL] at *
    split
    · simp only [List.length_append]; omega
    · split
      · simp only [List.length_append]; omega
      · simp only [List.length_append]; omega
theorem bothE_len {rec : T → T → List Step → List E} (h : ∀ x y w, (rec x y w).length ≤ x.size + y.size) (way : List Step) (x y : T) : (bothE rec way x y).length ≤ x.size + y.size := by
  have := size_pos x
  have := size_pos y
  unfold bothE
  split
  · simp
  · split
    · simp; omega
    · split
      · simp [cutE, setE]; omega
      · exact h _ _ _
theorem edits_len : ∀ (n : Nat) (a b : T) (way : List Step), (edits n a b way).length ≤ a.size + b.size
  | 0, a, b, way => by simp [edits]
  | n + 1, a, b, way => by
    have := mergeE_len (one := cutE way) (other := setE way) (both := bothE (edits n) way) (fun x => by have := size_pos x; simp [cutE]; omega) (fun y => by have := size_pos y; simp [setE]; omega)
      (bothE_len (edits_len n) way) (a.kids.length + b.kids.length) a.kids b.kids
    rw [edits, a.size_eq, b.size_eq]
    omega

/-- These fourteen cells read as an edit. -/
def RE (S : Nat → Prop) (w : World) (e : E) (c : List Value) : Prop :=
  ∃ A ac Kn kn Ko ko, c = [.int .i64 e.kind, .slice A e.way.length ac] ++ cT e.node.name e.node.key e.node.kind e.node.num e.node.text Kn e.node.kids.length kn ++ cT e.old.name e.old.key e.old.kind e.old.num e.old.text Ko e.old.kids.length ko ∧
    WRow S w A e.way ac ∧ RRow S w Kn e.node.kids kn ∧ RRow S w Ko e.old.kids ko
theorem RE.keep {S S' : Nat → Prop} {w w' : World} (hk : ∀ b off v, S b → w.cell? ⟨b, off, none⟩ = some v → S' b ∧ w'.cell? ⟨b, off, none⟩ = some v) {e : E} {c : List Value} (h : RE S w e c) : RE S' w' e c := by
  obtain ⟨A, ac, Kn, kn, Ko, ko, h1, h2, h3, h4⟩ := h
  exact ⟨A, ac, Kn, kn, Ko, ko, h1, h2.keep hk, h3.keep hk, h4.keep hk⟩
theorem RE.ext {S : Nat → Prop} {w w' : World} (hx : Ext w w') {e : E} {c : List Value} (h : RE S w e c) : RE S w' e c := h.keep fun _ _ _ hb hc => ⟨hb, Ext.cell hx hc⟩
theorem RE.mono {S S' : Nat → Prop} {w : World} (hs : ∀ b, b < w.heap.size → S b → S' b) {e : E} {c : List Value} (h : RE S w e c) : RE S' w e c := h.keep fun b _ _ hb hc => ⟨hs b (World.block_lt_of_cell? w _ hc) hb, hc⟩
theorem RE.len {S : Nat → Prop} {w : World} {e : E} {c : List Value} (h : RE S w e c) : c.length = 14 := by obtain ⟨A, ac, Kn, kn, Ko, ko, rfl, _⟩ := h; rfl
theorem RE.one {S : Nat → Prop} {w : World} {e : E} {c : List Value} (h : RE S w e c) : c.all (·.oneCell') = true := by obtain ⟨A, ac, Kn, kn, Ko, ko, rfl, _⟩ := h; rfl

/-- Out: the box O holds the row v of the edits. -/
structure Outs (B O : Nat) (w : World) (v : Value) (css : List (List Value)) (es : List E) : Prop where
  box : Blk w O [v] 57
  ob : B ≤ O
  len : css.length = es.length
  c14 : ∀ c ∈ css, c.length = 14
  own : w.ownsRow B 68 14 v es.length css.flatten
  each : ∀ (i : Nat) e c, es[i]? = some e → css[i]? = some c → RE (fun b => b ≠ O ∧ v.ownBlock ≠ some b) w e c
  ne : v.ownBlock ≠ some O

/-- How the world turns while edits are laid. -/
structure Fr (O : Nat) (w : World) (v : Value) (w' : World) (v' : Value) : Prop where
  os : w'.os = w.os
  tape : w'.tape = w.tape
  output : w'.output = w.output
  size : w.heap.size ≤ w'.heap.size
  block : ∀ b, b < w.heap.size → b ≠ O → v.ownBlock ≠ some b → w'.heap[b]? = w.heap[b]?
  new : v'.ownBlock = v.ownBlock ∨ ∃ x, v'.ownBlock = some x ∧ w.heap.size ≤ x
theorem Fr.refl (O : Nat) (w : World) (v : Value) : Fr O w v w v := ⟨rfl, rfl, rfl, Nat.le_refl _, fun _ _ _ _ => rfl, .inl rfl⟩
theorem Fr.of_ext {O : Nat} {w w' : World} {v : Value} (hx : Ext w w') : Fr O w v w' v := ⟨hx.os, hx.tape, hx.output, hx.size, fun b hb _ _ => hx.block b hb, .inl rfl⟩
theorem Fr.trans {O : Nat} {w w1 w2 : World} {v v1 v2 : Value} (h : Fr O w v w1 v1) (k : Fr O w1 v1 w2 v2) : Fr O w v w2 v2 := by
  refine ⟨k.os.trans h.os, k.tape.trans h.tape, k.output.trans h.output, Nat.le_trans h.size k.size, fun b hb h1 h2 => ?_, ?_⟩
  · rw [k.block b (Nat.lt_of_lt_of_le hb h.size) h1 ?_, h.block b hb h1 h2]
    rcases h.new with e | ⟨x, e, hx⟩
    · rw [e]; exact h2
    · rw [e]; intro he; injection he; omega
  · rcases k.new with e | ⟨x, e, hx⟩
    · rw [e]; exact h.new
    · exact .inr ⟨x, e, Nat.le_trans h.size hx⟩
theorem Fr.below {O B : Nat} {w w' : World} {v v' : Value} (h : Fr O w v w' v') (hO : B ≤ O) (hw : B ≤ w.heap.size) (hv : ∀ k, v.ownBlock = some k → B ≤ k) : Below B w w' :=
  ⟨h.os, h.tape, h.output, h.size, fun b hb => h.block b (by omega) (by omega) (fun e => by have := hv b e; omega)⟩
theorem Fr.blk {O : Nat} {w w' : World} {v v' : Value} (h : Fr O w v w' v') {g : Nat} {cs : List Value} {t : TypeId} (hb : Blk w g cs t) (h1 : g ≠ O) (h2 : v.ownBlock ≠ some g) : Blk w' g cs t := (h.block g hb.lt h1 h2).trans hb
theorem Fr.keep {O : Nat} {w w' : World} {v v' : Value} (h : Fr O w v w' v') : ∀ b off u, (b ≠ O ∧ v.ownBlock ≠ some b) → w.cell? ⟨b, off, none⟩ = some u → (b ≠ O ∧ v'.ownBlock ≠ some b) ∧ w'.cell? ⟨b, off, none⟩ = some u := fun b off u hb hc => by
  have hlt := World.block_lt_of_cell? w _ hc
  refine ⟨⟨hb.1, ?_⟩, ?_⟩
  · rcases h.new with e | ⟨x, e, hx⟩
    · rw [e]; exact hb.2
    · rw [e]; intro he; injection he with he; simp only at hlt; omega
  · rw [← hc]; exact World.cell?_of_block (h.block b hlt hb.1 hb.2)
theorem Fr.ne {O : Nat} {w w' : World} {v v' : Value} (h : Fr O w v w' v') {g : Nat} (hg : g < w.heap.size) (h2 : v.ownBlock ≠ some g) : v'.ownBlock ≠ some g := by
  rcases h.new with e | ⟨x, e, hx⟩
  · rw [e]; exact h2
  · rw [e]; intro he; injection he with he; omega
/-- What lies below B stays. -/
theorem Fr.args {O B : Nat} {w w' : World} {v v' : Value} (h : Fr O w v w' v') (hO : B ≤ O) (hv : ∀ k, v.ownBlock = some k → B ≤ k) : ∀ b off u, b < B → w.cell? ⟨b, off, none⟩ = some u → b < B ∧ w'.cell? ⟨b, off, none⟩ = some u := fun b off u hb hc => by
  have hlt := World.block_lt_of_cell? w _ hc
  refine ⟨hb, ?_⟩
  rw [← hc]
  exact World.cell?_of_block (h.block b hlt (by omega) (fun e => by have := hv b e; omega))
theorem Outs.base {B O : Nat} {w : World} {v : Value} {css : List (List Value)} {es : List E} (h : Outs B O w v css es) : ∀ k, v.ownBlock = some k → B ≤ k := own_base h.own
theorem own_lt {w : World} {base : Nat} {e : TypeId} {sz n : Nat} {v : Value} {xs : List Value} (h : w.ownsRow base e sz v n xs) : ∀ k, v.ownBlock = some k → k < w.heap.size := fun k hk => by
  rcases h.2 with ⟨h1, _⟩ | ⟨g, cap, cur, hv, hb, hg, _⟩
  · rw [h1] at hk; simp [Value.ownBlock] at hk
  · rw [hv] at hk; simp [Value.ownBlock] at hk; subst hk; exact heap_lt hg
theorem Outs.ext {B O : Nat} {w w' : World} {v : Value} {css : List (List Value)} {es : List E} (hx : Ext w w') (h : Outs B O w v css es) : Outs B O w' v css es :=
  ⟨h.box.ext hx, h.ob, h.len, h.c14, own_ext hx h.own, fun i e c he hc => (h.each i e c he hc).ext hx, h.ne⟩

/-- One more edit is laid. -/
theorem Outs.push {B O : Nat} {w w' : World} {v v' : Value} {css : List (List Value)} {es : List E} {e : E} {c : List Value} (h : Outs B O w v css es)
    (hc : RE (fun b => b ≠ O ∧ v.ownBlock ≠ some b) w e c) (hown : w'.ownsRow B 68 14 v' (es.length + 1) (css.flatten ++ c)) (hg : w.grownBy w' v.ownBlock) (hat : v'.ownBlock = v.ownBlock ∨ v'.ownBlock = some w.heap.size) :
    Outs B O (w'.setCell ⟨O, 0, none⟩ v') v' (css ++ [c]) (es ++ [e]) ∧ Fr O w v (w'.setCell ⟨O, 0, none⟩ v') v' := by
  have hu := Upd.setCell w' ⟨O, 0, none⟩ v'
  have hlt := h.box.lt
  have hne : v'.ownBlock ≠ some O := by
    rcases hat with e | e
    · rw [e]; exact h.ne
    · rw [e]; intro he; injection he with he; omega
  have hfr : Fr O w v (w'.setCell ⟨O, 0, none⟩ v') v' := by
    refine ⟨hu.os.trans hg.os, hu.tape.trans hg.tape, hu.output.trans hg.output, by rw [hu.size]; exact hg.size, fun b hb h1 h2 => (hu.block b h1).trans (hg.block b hb (fun e => h2 e.symm)), ?_⟩
    rcases hat with e | e
    · exact .inl e
    · exact .inr ⟨_, e, Nat.le_refl _⟩
  have hbox : Blk w' O [v] 57 := (hg.block O hlt (fun e => h.ne e.symm)).trans h.box
  refine ⟨⟨hbox.setCell 0 v', h.ob, by simp [h.len], ?_, ?_, fun i e' c' he hc' => ?_, hne⟩, hfr⟩
  · intro d hd
    rcases List.mem_append.1 hd with hd | hd
    · exact h.c14 d hd
    · simp at hd; subst hd; exact hc.len
  · have h2 : (w'.setCell ⟨O, 0, none⟩ v').ownsRow B 68 14 v' (es.length + 1) (css.flatten ++ c) := by
      refine hown.kept (row := some O) ⟨hu.os, hu.tape, hu.output, Nat.le_of_eq hu.size.symm, fun k _ hk => hu.block k (fun e => hk (by rw [e]))⟩ ?_
      rcases hown.2 with ⟨h1, _⟩ | ⟨g, cap, cur, hv, _⟩
      · left; rw [h1]; rfl
      · right; exact hne
    simpa using h2
  · by_cases hi : i < es.length
    · rw [List.getElem?_append_left hi] at he
      rw [List.getElem?_append_left (by rw [h.len]; exact hi)] at hc'
      exact (h.each i e' c' he hc').keep hfr.keep
    · rw [List.getElem?_append_right (by omega)] at he
      rw [List.getElem?_append_right (by rw [h.len]; omega), h.len] at hc'
      have h0 : i - es.length = 0 := by
        have := (List.getElem?_eq_some_iff.1 he).1
        simp at this
        omega
      rw [h0] at he hc'
      simp at he hc'
      subst he hc'
      exact hc.keep hfr.keep
end Go.Proofs.Ytgkgedjmnbjalaa
