/- Edits of two trees.
   Conditions: none. -/
import Derived.Test.YtgkgedjmnbjalaaTN
import Derived.Laws.EntriesVeiled
set_option linter.unusedSimpArgs false
namespace Go.Proofs.Ytgkgedjmnbjalaa
open Go.RowKit Go.Sort

theorem deepL_kids (t : T) : deepL t.kids + 1 = t.deep := by rw [t.deep_eq]; omega

set_option maxRecDepth 100000 in
set_option maxHeartbeats 4000000 in
theorem edits_at : ∀ N, EditsAt N
  | 0 => fun B O Ed w v css es way A c a b ca cb hd _ _ _ _ _ _ _ => by rw [a.deep_eq] at hd; omega
  | N + 1 => by
    intro B O Ed w v css es way A c a b ca cb hd ho hE hW ha hb hwl hes
    obtain ⟨K1, c1, rfl, hr1⟩ := ha.row
    obtain ⟨K2, c2, rfl, hr2⟩ := hb.row
    have ko := Hd.mk ho
    have kE := Hd.mk hE
    have kW := Hd.mk hW
    have kr1 := Hd.mk hr1
    have kr2 := Hd.mk hr2
    have ih := Hd.mk (edits_at N)
    have hdk := Hd.mk (deepL_kids a)
    have hd := Hd.mk hd
    have hwl := Hd.mk hwl
    have hes := Hd.mk hes
    have hsa := Hd.mk a.size_eq
    have hsb := Hd.mk b.size_eq
    clear ho hE hW hr1 hr2 ha hb
    simp only [cT]
    go_enter Try.func93, Try.ntmps93
    go_wp2_with fail
    have kx := Hd.mk (show Ext w (((((w.alloc (.cells #[.string a.name, .string a.key, .int .i64 a.kind, .int .u64 a.num, .string a.text, .slice K1 a.kids.length c1] 54)).alloc (.cells #[.string b.name, .string b.key, .int .i64 b.kind, .int .u64 b.num, .string b.text, .slice K2 b.kids.length c2] 54)).alloc (.cells #[.slice A way.length c] 59)).alloc (.cells #[.func (.func 94) #[] #[.pointer (some ⟨O, 0, none⟩), .pointer (some ⟨w.heap.size + 1 + 1, 0, none⟩)]] 85)).alloc (.cells #[.func (.func 97) #[] #[.pointer (some ⟨O, 0, none⟩), .pointer (some ⟨w.heap.size + 1 + 1, 0, none⟩)]] 85)) from ((((Ext.alloc _ _).trans (Ext.alloc _ _)).trans (Ext.alloc _ _)).trans (Ext.alloc _ _)).trans (Ext.alloc _ _))
    have q3 : Blk (((((w.alloc (.cells #[.string a.name, .string a.key, .int .i64 a.kind, .int .u64 a.num, .string a.text, .slice K1 a.kids.length c1] 54)).alloc (.cells #[.string b.name, .string b.key, .int .i64 b.kind, .int .u64 b.num, .string b.text, .slice K2 b.kids.length c2] 54)).alloc (.cells #[.slice A way.length c] 59)).alloc (.cells #[.func (.func 94) #[] #[.pointer (some ⟨O, 0, none⟩), .pointer (some ⟨w.heap.size + 1 + 1, 0, none⟩)]] 85)).alloc (.cells #[.func (.func 97) #[] #[.pointer (some ⟨O, 0, none⟩), .pointer (some ⟨w.heap.size + 1 + 1, 0, none⟩)]] 85)) (w.heap.size + 1 + 1) [.slice A way.length c] 59 := by
      have := ((Blk.new ((w.alloc (.cells #[.string a.name, .string a.key, .int .i64 a.kind, .int .u64 a.num, .string a.text, .slice K1 a.kids.length c1] 54)).alloc (.cells #[.string b.name, .string b.key, .int .i64 b.kind, .int .u64 b.num, .string b.text, .slice K2 b.kids.length c2] 54)) #[.slice A way.length c] 59).alloc (.cells #[.func (.func 94) #[] #[.pointer (some ⟨O, 0, none⟩), .pointer (some ⟨w.heap.size + 1 + 1, 0, none⟩)]] 85)).alloc (.cells #[.func (.func 97) #[] #[.pointer (some ⟨O, 0, none⟩), .pointer (some ⟨w.heap.size + 1 + 1, 0, none⟩)]] 85)
      rw [World.size_alloc, World.size_alloc] at this
      exact this
    have q4 : Blk (((((w.alloc (.cells #[.string a.name, .string a.key, .int .i64 a.kind, .int .u64 a.num, .string a.text, .slice K1 a.kids.length c1] 54)).alloc (.cells #[.string b.name, .string b.key, .int .i64 b.kind, .int .u64 b.num, .string b.text, .slice K2 b.kids.length c2] 54)).alloc (.cells #[.slice A way.length c] 59)).alloc (.cells #[.func (.func 94) #[] #[.pointer (some ⟨O, 0, none⟩), .pointer (some ⟨w.heap.size + 1 + 1, 0, none⟩)]] 85)).alloc (.cells #[.func (.func 97) #[] #[.pointer (some ⟨O, 0, none⟩), .pointer (some ⟨w.heap.size + 1 + 1, 0, none⟩)]] 85)) (w.heap.size + 1 + 1 + 1) [.func (.func 94) #[] #[.pointer (some ⟨O, 0, none⟩), .pointer (some ⟨w.heap.size + 1 + 1, 0, none⟩)]] 85 := by
      have := (Blk.new (((w.alloc (.cells #[.string a.name, .string a.key, .int .i64 a.kind, .int .u64 a.num, .string a.text, .slice K1 a.kids.length c1] 54)).alloc (.cells #[.string b.name, .string b.key, .int .i64 b.kind, .int .u64 b.num, .string b.text, .slice K2 b.kids.length c2] 54)).alloc (.cells #[.slice A way.length c] 59)) #[.func (.func 94) #[] #[.pointer (some ⟨O, 0, none⟩), .pointer (some ⟨w.heap.size + 1 + 1, 0, none⟩)]] 85).alloc (.cells #[.func (.func 97) #[] #[.pointer (some ⟨O, 0, none⟩), .pointer (some ⟨w.heap.size + 1 + 1, 0, none⟩)]] 85)
      rw [World.size_alloc, World.size_alloc, World.size_alloc] at this
      exact this
    have q5 : Blk (((((w.alloc (.cells #[.string a.name, .string a.key, .int .i64 a.kind, .int .u64 a.num, .string a.text, .slice K1 a.kids.length c1] 54)).alloc (.cells #[.string b.name, .string b.key, .int .i64 b.kind, .int .u64 b.num, .string b.text, .slice K2 b.kids.length c2] 54)).alloc (.cells #[.slice A way.length c] 59)).alloc (.cells #[.func (.func 94) #[] #[.pointer (some ⟨O, 0, none⟩), .pointer (some ⟨w.heap.size + 1 + 1, 0, none⟩)]] 85)).alloc (.cells #[.func (.func 97) #[] #[.pointer (some ⟨O, 0, none⟩), .pointer (some ⟨w.heap.size + 1 + 1, 0, none⟩)]] 85)) (w.heap.size + 1 + 1 + 1 + 1) [.func (.func 97) #[] #[.pointer (some ⟨O, 0, none⟩), .pointer (some ⟨w.heap.size + 1 + 1, 0, none⟩)]] 85 := by
      have := Blk.new ((((w.alloc (.cells #[.string a.name, .string a.key, .int .i64 a.kind, .int .u64 a.num, .string a.text, .slice K1 a.kids.length c1] 54)).alloc (.cells #[.string b.name, .string b.key, .int .i64 b.kind, .int .u64 b.num, .string b.text, .slice K2 b.kids.length c2] 54)).alloc (.cells #[.slice A way.length c] 59)).alloc (.cells #[.func (.func 94) #[] #[.pointer (some ⟨O, 0, none⟩), .pointer (some ⟨w.heap.size + 1 + 1, 0, none⟩)]] 85)) #[.func (.func 97) #[] #[.pointer (some ⟨O, 0, none⟩), .pointer (some ⟨w.heap.size + 1 + 1, 0, none⟩)]] 85
      rw [World.size_alloc, World.size_alloc, World.size_alloc, World.size_alloc] at this
      exact this
    have q3 := Hd.mk (Aside.new ko.out (by omega) q3)
    have q4 := Hd.mk (Aside.new ko.out (by omega) q4)
    have q5 := Hd.mk (Aside.new ko.out (by omega) q5)
    generalize (((((w.alloc (.cells #[.string a.name, .string a.key, .int .i64 a.kind, .int .u64 a.num, .string a.text, .slice K1 a.kids.length c1] 54)).alloc (.cells #[.string b.name, .string b.key, .int .i64 b.kind, .int .u64 b.num, .string b.text, .slice K2 b.kids.length c2] 54)).alloc (.cells #[.slice A way.length c] 59)).alloc (.cells #[.func (.func 94) #[] #[.pointer (some ⟨O, 0, none⟩), .pointer (some ⟨w.heap.size + 1 + 1, 0, none⟩)]] 85)).alloc (.cells #[.func (.func 97) #[] #[.pointer (some ⟨O, 0, none⟩), .pointer (some ⟨w.heap.size + 1 + 1, 0, none⟩)]] 85)) = W at *
    have henv : Env2 B O (w.heap.size + 1 + 1) (w.heap.size + 1 + 1 + 1) (w.heap.size + 1 + 1 + 1 + 1) Ed W v css es way A c :=
      ⟨⟨ko.out.ext kx.out, q3.out.blk, q3.out.ne1, q3.out.ne2, kW.out.ext kx.out⟩, q4.out, q5.out, kE.out.ext kx.out⟩
    have hleft : Left N B W way K1 K2 a.kids b.kids a.kids.length c1 b.kids.length c2 (es ++ edits (N + 1) a b way) es :=
      ⟨kr1.out.ext kx.out, kr2.out.ext kx.out, rfl, rfl, rfl, by have := hdk.out; have := hd.out; omega, by have := hdk.out; have := hwl.out; omega, by have := hsa.out; have := hsb.out; have := hes.out; omega⟩
    refine Calls.mono (pairs_any N ih.out henv hleft) ?_
    rintro e w6 ⟨rfl, v6, css6, ho6, hf6⟩
    have ho6 := Hd.mk ho6
    have hf6 := Hd.mk ((Fr.of_ext kx.out).trans hf6)
    clear henv hleft q3 q4 q5 kx
    go_wp2_with fail
    go_end0
    exact ⟨rfl, v6, css6, ho6.out, hf6.out⟩

/-- A row of edits lies in memory. -/
structure ERow (S : Nat → Prop) (w : World) (A : Option Addr) (es : List E) (c : Nat) : Prop where
  cap : es.length ≤ c
  len : es.length ≤ 1048576
  nul : A = none → c = 0
  edit : ∀ (i : Nat) e, es[i]? = some e → ∃ b off d, A = some ⟨b, off, none⟩ ∧ S b ∧ RE S w e d ∧ ∀ j v, d[j]? = some v → w.cell? ⟨b, off + i * 14 + j, none⟩ = some v
theorem ERow.keep {S S' : Nat → Prop} {w w' : World} (hk : ∀ b off v, S b → w.cell? ⟨b, off, none⟩ = some v → S' b ∧ w'.cell? ⟨b, off, none⟩ = some v) {A : Option Addr} {l : List E} {c : Nat} (h : ERow S w A l c) : ERow S' w' A l c :=
  ⟨h.cap, h.len, h.nul, fun i e hi => by
    obtain ⟨b, off, d, h1, h2, h3, h4⟩ := h.edit i e hi
    have h14 := h3.len
    refine ⟨b, off, d, h1, ?_, h3.keep hk, fun j v hv => (hk b _ v h2 (h4 j v hv)).2⟩
    cases d with
    | nil => simp at h14
    | cons v d => exact (hk b _ v h2 (h4 0 v (by simp))).1⟩
theorem ERow.ext {S : Nat → Prop} {w w' : World} (hx : Ext w w') {A : Option Addr} {l : List E} {c : Nat} (h : ERow S w A l c) : ERow S w' A l c := h.keep fun _ _ _ hb hc => ⟨hb, Ext.cell hx hc⟩
theorem Outs.row {B O : Nat} {w : World} {v : Value} {css : List (List Value)} {es : List E} (hl : es.length ≤ 1048576) (h : Outs B O w v css es) : ∃ A c, v = .slice A es.length c ∧ ERow (fun _ => True) w A es c := by
  obtain ⟨A, c, h1, h2, h3, h4⟩ := own_slice h.own
  refine ⟨A, c, h1, h2, hl, h3, fun i e hi => ?_⟩
  have hlt := (List.getElem?_eq_some_iff.1 hi).1
  obtain ⟨g, sp, e1, e2, e3⟩ := h4 (by omega)
  have hlt' : i < css.length := by rw [h.len]; exact hlt
  have hci := List.getElem?_eq_getElem hlt'
  refine ⟨g, 0, css[i], e1, trivial, (h.each i e _ hi hci).mono (fun _ _ _ => trivial), fun j v hv => ?_⟩
  have h5 := flatten_get css h.c14 i _ hci j v hv
  rw [e3.cell, Nat.zero_add, List.getElem?_append_left (List.getElem?_eq_some_iff.1 h5).1]
  exact h5

/-- What Edits tells. -/
def EdPost (es : List E) (w w' : World) (v : Value) : Prop := ∃ A c, v = .slice A es.length c ∧ ERow (fun _ => True) w' A es c ∧ Ext w w'

set_option maxRecDepth 100000 in
set_option maxHeartbeats 4000000 in
theorem diff_edits {N : Nat} {S : Nat → Prop} {w : World} {a b : T} {ca cb : List Value} (hd : a.deep ≤ N) (ha : RT S w a ca) (hb : RT S w b cb) (hdb : a.deep ≤ 1000000) (hes : a.size + b.size ≤ 1000000) :
    Calls Try.prog 40 #[.agg ca.toArray, .agg cb.toArray] w (Ret (EdPost (edits N a b []) w)) := by
  obtain ⟨K1, c1, rfl, hr1⟩ := ha.row
  obtain ⟨K2, c2, rfl, hr2⟩ := hb.row
  have ka := Hd.mk (ha.mono (S' := (· < w.heap.size)) (fun b hb _ => hb))
  have kb := Hd.mk (hb.mono (S' := (· < w.heap.size)) (fun b hb _ => hb))
  have hd := Hd.mk hd
  have hdb := Hd.mk hdb
  have hes := Hd.mk hes
  have hlen := Hd.mk (edits_len N a b [])
  clear hr1 hr2 ha hb
  simp only [cT] at ka kb ⊢
  go_enter Try.func40, Try.ntmps40
  go_wp2_with fail
  have kx := Hd.mk (show Ext w ((((w.alloc (.cells #[.string a.name, .string a.key, .int .i64 a.kind, .int .u64 a.num, .string a.text, .slice K1 a.kids.length c1] 54)).alloc (.cells #[.string b.name, .string b.key, .int .i64 b.kind, .int .u64 b.num, .string b.text, .slice K2 b.kids.length c2] 54)).alloc (.cells #[.slice none 0 0] 57)).alloc (.cells #[.func (.func 93) #[] #[.pointer (some ⟨w.heap.size + 1 + 1, 0, none⟩), .pointer (some ⟨w.heap.size + 1 + 1 + 1, 0, none⟩)]] 113)) from (((Ext.alloc _ _).trans (Ext.alloc _ _)).trans (Ext.alloc _ _)).trans (Ext.alloc _ _))
  have q3 : Blk ((((w.alloc (.cells #[.string a.name, .string a.key, .int .i64 a.kind, .int .u64 a.num, .string a.text, .slice K1 a.kids.length c1] 54)).alloc (.cells #[.string b.name, .string b.key, .int .i64 b.kind, .int .u64 b.num, .string b.text, .slice K2 b.kids.length c2] 54)).alloc (.cells #[.slice none 0 0] 57)).alloc (.cells #[.func (.func 93) #[] #[.pointer (some ⟨w.heap.size + 1 + 1, 0, none⟩), .pointer (some ⟨w.heap.size + 1 + 1 + 1, 0, none⟩)]] 113)) (w.heap.size + 1 + 1) [.slice none 0 0] 57 := by
    have := (Blk.new ((w.alloc (.cells #[.string a.name, .string a.key, .int .i64 a.kind, .int .u64 a.num, .string a.text, .slice K1 a.kids.length c1] 54)).alloc (.cells #[.string b.name, .string b.key, .int .i64 b.kind, .int .u64 b.num, .string b.text, .slice K2 b.kids.length c2] 54)) #[.slice none 0 0] 57).alloc (.cells #[.func (.func 93) #[] #[.pointer (some ⟨w.heap.size + 1 + 1, 0, none⟩), .pointer (some ⟨w.heap.size + 1 + 1 + 1, 0, none⟩)]] 113)
    rw [World.size_alloc, World.size_alloc] at this
    exact this
  have q4 : Blk ((((w.alloc (.cells #[.string a.name, .string a.key, .int .i64 a.kind, .int .u64 a.num, .string a.text, .slice K1 a.kids.length c1] 54)).alloc (.cells #[.string b.name, .string b.key, .int .i64 b.kind, .int .u64 b.num, .string b.text, .slice K2 b.kids.length c2] 54)).alloc (.cells #[.slice none 0 0] 57)).alloc (.cells #[.func (.func 93) #[] #[.pointer (some ⟨w.heap.size + 1 + 1, 0, none⟩), .pointer (some ⟨w.heap.size + 1 + 1 + 1, 0, none⟩)]] 113)) (w.heap.size + 1 + 1 + 1) [.func (.func 93) #[] #[.pointer (some ⟨w.heap.size + 1 + 1, 0, none⟩), .pointer (some ⟨w.heap.size + 1 + 1 + 1, 0, none⟩)]] 113 := by
    have := Blk.new (((w.alloc (.cells #[.string a.name, .string a.key, .int .i64 a.kind, .int .u64 a.num, .string a.text, .slice K1 a.kids.length c1] 54)).alloc (.cells #[.string b.name, .string b.key, .int .i64 b.kind, .int .u64 b.num, .string b.text, .slice K2 b.kids.length c2] 54)).alloc (.cells #[.slice none 0 0] 57)) #[.func (.func 93) #[] #[.pointer (some ⟨w.heap.size + 1 + 1, 0, none⟩), .pointer (some ⟨w.heap.size + 1 + 1 + 1, 0, none⟩)]] 113
    rw [World.size_alloc, World.size_alloc, World.size_alloc] at this
    exact this
  have q3 := Hd.mk q3
  have q4 := Hd.mk q4
  generalize ((((w.alloc (.cells #[.string a.name, .string a.key, .int .i64 a.kind, .int .u64 a.num, .string a.text, .slice K1 a.kids.length c1] 54)).alloc (.cells #[.string b.name, .string b.key, .int .i64 b.kind, .int .u64 b.num, .string b.text, .slice K2 b.kids.length c2] 54)).alloc (.cells #[.slice none 0 0] 57)).alloc (.cells #[.func (.func 93) #[] #[.pointer (some ⟨w.heap.size + 1 + 1, 0, none⟩), .pointer (some ⟨w.heap.size + 1 + 1 + 1, 0, none⟩)]] 113)) = W at *
  have ho : Outs w.heap.size (w.heap.size + 1 + 1) W (.slice none 0 0) [] [] := ⟨q3.out, by omega, rfl, by simp, ⟨rfl, .inl ⟨rfl, rfl⟩⟩, fun i e c h => by simp at h, by simp [Value.ownBlock]⟩
  have hE : Aside (w.heap.size + 1 + 1) W (.slice none 0 0) (w.heap.size + 1 + 1 + 1) (.func (.func 93) #[] #[.pointer (some ⟨w.heap.size + 1 + 1, 0, none⟩), .pointer (some ⟨w.heap.size + 1 + 1 + 1, 0, none⟩)]) 113 := ⟨q4.out, by omega, by simp [Value.ownBlock]⟩
  refine Calls.mono (edits_at N _ _ _ W _ [] [] [] none 0 a b _ _ hd.out ho hE (WRow.nil _ _ _ _ (fun _ => rfl)) (ka.out.ext kx.out) (kb.out.ext kx.out) (by simpa using hdb.out) (by simpa using hes.out)) ?_
  rintro e w6 ⟨rfl, v6, css6, ho6, hf6⟩
  rw [List.nil_append] at ho6
  obtain ⟨A6, c6, rfl, hrow⟩ := ho6.row (by have := hlen.out; have := hes.out; omega)
  have kO := Hd.mk ho6.box
  have hrow := Hd.mk hrow
  have hxx := Hd.mk (show Ext w w6 from Below.trans kx.out (hf6.below (by omega) kx.out.size (fun k hk => by simp [Value.ownBlock] at hk)))
  clear ho hE ho6 hf6 q3 q4 kx
  have gO := kO.out.cell
  go_wp2_with fail
  go_ret
  exact ⟨_, rfl, A6, c6, rfl, hrow.out, hxx.out⟩
end Go.Proofs.Ytgkgedjmnbjalaa
