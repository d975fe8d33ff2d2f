/- Texts that the law needs, joined.
   Conditions: none. -/
import Derived.Test.YtgkgedjmnbjalaaPtK
set_option linter.unusedSimpArgs false
set_option linter.unusedVariables false
set_option linter.unusedVariables false
namespace Go.Proofs.Ytgkgedjmnbjalaa
open Go.RowKit Go.Sort
theorem one1 (n x y : T) (init : List Step) (s : Step) : oneT n ⟨1, init ++ [s], x, y⟩ = (if stepT x ≠ s then (zeroT, (1 : Int)) else if (getT n (init ++ [s])).isSome = true then (zeroT, 24) else setR n (init ++ [s]) x) := by
  unfold oneT
  by_cases h : stepT x = s
  · rw [if_neg (c := stepT x ≠ s) (by simp [h]), if_neg (by simp [List.getLast?_concat, h]), if_pos rfl]
  · rw [if_pos (.inr (.inr (.inl ⟨by simp, by simp [List.getLast?_concat]; exact fun e => h e.symm⟩))), if_pos h]
theorem one2 (n x y : T) (init : List Step) (s : Step) : oneT n ⟨2, init ++ [s], x, y⟩ = (if stepT y ≠ s then (zeroT, (1 : Int)) else match getT n (init ++ [s]) with | none => (zeroT, 30) | some z => if sameT z y = false then (zeroT, 23) else cutR n (init ++ [s])) := by
  unfold oneT
  by_cases h : stepT y = s
  · rw [if_neg (c := stepT y ≠ s) (by simp [h]), if_neg (by simp [List.getLast?_concat, h]), if_neg (by simp)]
    cases hg : getT n (init ++ [s]) with
    | none => rfl
    | some z => simp only [↓reduceIte]
  · rw [if_pos (.inr (.inr (.inr ⟨by simp, by simp [List.getLast?_concat]; exact fun e => h e.symm⟩))), if_pos h]
theorem one3 (n x y : T) (init : List Step) (s : Step) : oneT n ⟨3, init ++ [s], x, y⟩ = (if stepT x ≠ s ∨ stepT y ≠ s then (zeroT, (1 : Int)) else match getT n (init ++ [s]) with | none => (zeroT, 30) | some z => if sameT z y = false then (zeroT, 23) else if x.kind = 0 ∨ y.kind = 0 then (zeroT, 23) else setR n (init ++ [s]) x) := by
  unfold oneT
  by_cases h : stepT x = s
  · by_cases h2 : stepT y = s
    · rw [if_neg (c := stepT x ≠ s ∨ stepT y ≠ s) (by simp [h, h2]), if_neg (by simp [List.getLast?_concat, h, h2]), if_neg (by simp)]
      cases hg : getT n (init ++ [s]) with
      | none => rfl
      | some z => rw [if_neg (c := (3 : Int) = 2) (by decide)]
    · rw [if_pos (.inr (.inr (.inr ⟨by simp, by simp [List.getLast?_concat]; exact fun e => h2 e.symm⟩))), if_pos (.inr h2)]
  · rw [if_pos (.inr (.inr (.inl ⟨by simp, by simp [List.getLast?_concat]; exact fun e => h e.symm⟩))), if_pos (.inl h)]
set_option maxRecDepth 100000 in
set_option maxHeartbeats 2000000 in
theorem patchOne_nil (n : T) (e : E) (S : Nat → Prop) (w : World) (c ce : List Value) (hn : RT S w n c) (he : RE S w e ce) (hri : rightT n = true) (hsz : n.size + e.node.size ≤ 1048576) (hwy : e.way = []) :
    Calls Try.prog 53 #[.agg c.toArray, .agg ce.toArray] w (Ret (ChgPost (oneT n e) w)) := by
  obtain ⟨d, way, x, y⟩ := e
  obtain ⟨A, ac, Kx, kx1, Ky, ky1, rfl, hw, hxr, hyr⟩ := he
  have kr := Hd.mk hn.all
  have krx := Hd.mk (RT.of_row hxr).all
  have kry := Hd.mk (RT.of_row hyr).all
  obtain ⟨Kn, kn, rfl, hrow⟩ := hn.row
  have hwl := hw.len
  have kw0 := Hd.mk hw
  have hw0 := hw
  have hriH := Hd.mk hri
  have hszH := Hd.mk hsz
  clear hn hrow hxr hyr hri hsz
  simp only [cT, List.cons_append, List.nil_append] at kr krx kry ⊢
  generalize hr0 : oneT n ⟨d, way, x, y⟩ = r
  replace hr0 := Hd.mk hr0
  obtain rfl : way = [] := hwy
  obtain rfl : r = (zeroT, 1) := by rw [← hr0.out]; unfold oneT; rw [if_pos (.inl rfl)]
  simp only [List.length_nil]
  clear hw hw0
  go_enter Try.func53, Try.ntmps53
  go_wp2_with ((with_reducible refine stop_at (.fieldAddr 68 (.tmp 3) 1) ?_))
  refine Stop.mk ?_
  have kx := Hd.mk (((Ext.alloc w (.cells #[.string n.name, .string n.key, .int .i64 n.kind, .int .u64 n.num, .string n.text, .slice Kn n.kids.length kn] 54)).trans (Ext.alloc _ (.cells #[.int .i64 d, .slice A 0 ac, .string x.name, .string x.key, .int .i64 x.kind, .int .u64 x.num, .string x.text, .slice Kx x.kids.length kx1, .string y.name, .string y.key, .int .i64 y.kind, .int .u64 y.num, .string y.text, .slice Ky y.kids.length ky1] 68))).trans (Ext.alloc _ (.cells #[.string ⟨#[]⟩, .string ⟨#[]⟩, .int .i64 0, .int .u64 0, .string ⟨#[]⟩, .slice none 0 0] 54)))
  have kN := Hd.mk (((Blk.new w #[.string n.name, .string n.key, .int .i64 n.kind, .int .u64 n.num, .string n.text, .slice Kn n.kids.length kn] 54).alloc (.cells #[.int .i64 d, .slice A 0 ac, .string x.name, .string x.key, .int .i64 x.kind, .int .u64 x.num, .string x.text, .slice Kx x.kids.length kx1, .string y.name, .string y.key, .int .i64 y.kind, .int .u64 y.num, .string y.text, .slice Ky y.kids.length ky1] 68)).alloc (.cells #[.string ⟨#[]⟩, .string ⟨#[]⟩, .int .i64 0, .int .u64 0, .string ⟨#[]⟩, .slice none 0 0] 54))
  have kE := Hd.mk ((Blk.new2 w (.cells #[.string n.name, .string n.key, .int .i64 n.kind, .int .u64 n.num, .string n.text, .slice Kn n.kids.length kn] 54) #[.int .i64 d, .slice A 0 ac, .string x.name, .string x.key, .int .i64 x.kind, .int .u64 x.num, .string x.text, .slice Kx x.kids.length kx1, .string y.name, .string y.key, .int .i64 y.kind, .int .u64 y.num, .string y.text, .slice Ky y.kids.length ky1] 68).alloc (.cells #[.string ⟨#[]⟩, .string ⟨#[]⟩, .int .i64 0, .int .u64 0, .string ⟨#[]⟩, .slice none 0 0] 54))
  have kR := Hd.mk (Blk.new3 w (.cells #[.string n.name, .string n.key, .int .i64 n.kind, .int .u64 n.num, .string n.text, .slice Kn n.kids.length kn] 54) (.cells #[.int .i64 d, .slice A 0 ac, .string x.name, .string x.key, .int .i64 x.kind, .int .u64 x.num, .string x.text, .slice Kx x.kids.length kx1, .string y.name, .string y.key, .int .i64 y.kind, .int .u64 y.num, .string y.text, .slice Ky y.kids.length ky1] 68) #[.string ⟨#[]⟩, .string ⟨#[]⟩, .int .i64 0, .int .u64 0, .string ⟨#[]⟩, .slice none 0 0] 54)
  generalize ((w.alloc _).alloc _).alloc _ = W at *
  generalize hp : w.heap.size = p at *
  replace hp := Hd.mk hp
  have gN := kN.out.cell
  have gE := kE.out.cell
  have gR := kR.out.cell
  have fR := kR.out.free
  go_wp2_with fail
  have hu := Hd.mk ((((((Upd.setCell W ⟨p + 1 + 1, 0, none⟩ (.string ⟨#[]⟩)).trans (Upd.setCell _ ⟨p + 1 + 1, 1, none⟩ (.string ⟨#[]⟩))).trans (Upd.setCell _ ⟨p + 1 + 1, 2, none⟩ (.int .i64 0))).trans (Upd.setCell _ ⟨p + 1 + 1, 3, none⟩ (.int .u64 0))).trans (Upd.setCell _ ⟨p + 1 + 1, 4, none⟩ (.string ⟨#[]⟩))).trans (Upd.setCell _ ⟨p + 1 + 1, 5, none⟩ (.slice none 0 0)))
  exact ret_box2 rfl (p + 1 + 1) _ 54 _ ((((((kR.out.setCell 0 (.string ⟨#[]⟩)).setCell 1 (.string ⟨#[]⟩)).setCell 2 (.int .i64 0)).setCell 3 (.int .u64 0)).setCell 4 (.string ⟨#[]⟩)).setCell 5 (.slice none 0 0)) rfl rfl Try.underlying54 rfl size54
    ⟨_, rfl, _, rfl, ot_zero _ _, Below.trans kx.out (hu.out.below (by rw [hp.out]; show p ≤ p + 1 + 1; omega))⟩
set_option maxRecDepth 100000 in
set_option maxHeartbeats 2000000 in
theorem patchOne_other (n : T) (e : E) (S : Nat → Prop) (w : World) (c ce : List Value) (hn : RT S w n c) (he : RE S w e ce) (hri : rightT n = true) (hsz : n.size + e.node.size ≤ 1048576) (hd : e.kind ≠ 1 ∧ e.kind ≠ 2 ∧ e.kind ≠ 3) (hwy : e.way ≠ []) :
    Calls Try.prog 53 #[.agg c.toArray, .agg ce.toArray] w (Ret (ChgPost (oneT n e) w)) := by
  obtain ⟨d, way, x, y⟩ := e
  obtain ⟨A, ac, Kx, kx1, Ky, ky1, rfl, hw, hxr, hyr⟩ := he
  have kr := Hd.mk hn.all
  have krx := Hd.mk (RT.of_row hxr).all
  have kry := Hd.mk (RT.of_row hyr).all
  obtain ⟨Kn, kn, rfl, hrow⟩ := hn.row
  have hwl := hw.len
  have kw0 := Hd.mk hw
  have hw0 := hw
  have hriH := Hd.mk hri
  have hszH := Hd.mk hsz
  clear hn hrow hxr hyr hri hsz
  simp only [cT, List.cons_append, List.nil_append] at kr krx kry ⊢
  generalize hr0 : oneT n ⟨d, way, x, y⟩ = r
  replace hr0 := Hd.mk hr0
  have hwy : way ≠ [] := hwy
  obtain ⟨init, s, rfl⟩ : ∃ init s, way = init ++ [s] := by
    rcases List.eq_nil_or_concat way with h | ⟨init, s, h⟩
    · exact absurd h hwy
    · exact ⟨init, s, by rw [h, List.concat_eq_append]⟩
  obtain ⟨b2, o2, rfl, _, _⟩ := WRow.at hw0 (j := init.length) (x := s) (by simp)
  have kw := Hd.mk kw0.out
  have hlenH := Hd.mk (show (init ++ [s]).length = init.length + 1 by simp)
  rw [hlenH.out] at hwl ⊢
  generalize hL : init.length = L at *
  replace hL := Hd.mk hL
  have hlen0 : ((L : Int) + 1 == 0) = false := by rw [beq_eq_false_iff_ne]; omega
  clear hwy kw0 hw hw0
  obtain ⟨h1, h2, h3⟩ : d ≠ 1 ∧ d ≠ 2 ∧ d ≠ 3 := hd
  have q1 : (d == 1) = false := by simpa using h1
  have q2 : (d == 2) = false := by simpa using h2
  have q3 : (d == 3) = false := by simpa using h3
  obtain rfl : r = (zeroT, 1) := by rw [← hr0.out]; unfold oneT; rw [if_pos (.inr (.inl (by simp only; omega)))]
  go_enter Try.func53, Try.ntmps53
  go_wp2_with ((with_reducible refine stop_at (.fieldAddr 68 (.tmp 3) 1) ?_))
  refine Stop.mk ?_
  have kx := Hd.mk (((Ext.alloc w (.cells #[.string n.name, .string n.key, .int .i64 n.kind, .int .u64 n.num, .string n.text, .slice Kn n.kids.length kn] 54)).trans (Ext.alloc _ (.cells #[.int .i64 d, .slice (some ⟨b2, o2, none⟩) (L + 1) ac, .string x.name, .string x.key, .int .i64 x.kind, .int .u64 x.num, .string x.text, .slice Kx x.kids.length kx1, .string y.name, .string y.key, .int .i64 y.kind, .int .u64 y.num, .string y.text, .slice Ky y.kids.length ky1] 68))).trans (Ext.alloc _ (.cells #[.string ⟨#[]⟩, .string ⟨#[]⟩, .int .i64 0, .int .u64 0, .string ⟨#[]⟩, .slice none 0 0] 54)))
  have kN := Hd.mk (((Blk.new w #[.string n.name, .string n.key, .int .i64 n.kind, .int .u64 n.num, .string n.text, .slice Kn n.kids.length kn] 54).alloc (.cells #[.int .i64 d, .slice (some ⟨b2, o2, none⟩) (L + 1) ac, .string x.name, .string x.key, .int .i64 x.kind, .int .u64 x.num, .string x.text, .slice Kx x.kids.length kx1, .string y.name, .string y.key, .int .i64 y.kind, .int .u64 y.num, .string y.text, .slice Ky y.kids.length ky1] 68)).alloc (.cells #[.string ⟨#[]⟩, .string ⟨#[]⟩, .int .i64 0, .int .u64 0, .string ⟨#[]⟩, .slice none 0 0] 54))
  have kE := Hd.mk ((Blk.new2 w (.cells #[.string n.name, .string n.key, .int .i64 n.kind, .int .u64 n.num, .string n.text, .slice Kn n.kids.length kn] 54) #[.int .i64 d, .slice (some ⟨b2, o2, none⟩) (L + 1) ac, .string x.name, .string x.key, .int .i64 x.kind, .int .u64 x.num, .string x.text, .slice Kx x.kids.length kx1, .string y.name, .string y.key, .int .i64 y.kind, .int .u64 y.num, .string y.text, .slice Ky y.kids.length ky1] 68).alloc (.cells #[.string ⟨#[]⟩, .string ⟨#[]⟩, .int .i64 0, .int .u64 0, .string ⟨#[]⟩, .slice none 0 0] 54))
  have kR := Hd.mk (Blk.new3 w (.cells #[.string n.name, .string n.key, .int .i64 n.kind, .int .u64 n.num, .string n.text, .slice Kn n.kids.length kn] 54) (.cells #[.int .i64 d, .slice (some ⟨b2, o2, none⟩) (L + 1) ac, .string x.name, .string x.key, .int .i64 x.kind, .int .u64 x.num, .string x.text, .slice Kx x.kids.length kx1, .string y.name, .string y.key, .int .i64 y.kind, .int .u64 y.num, .string y.text, .slice Ky y.kids.length ky1] 68) #[.string ⟨#[]⟩, .string ⟨#[]⟩, .int .i64 0, .int .u64 0, .string ⟨#[]⟩, .slice none 0 0] 54)
  generalize ((w.alloc _).alloc _).alloc _ = W at *
  generalize hp : w.heap.size = p at *
  replace hp := Hd.mk hp
  have gN := kN.out.cell
  have gE := kE.out.cell
  have gN2 := (kN.out.alloc (.cells #[.string n.name, .string n.key, .int .i64 n.kind, .int .u64 n.num, .string n.text, .slice Kn n.kids.length kn, .int .i64 d, .slice (some ⟨b2, o2, none⟩) (L + 1) ac, .string x.name, .string x.key, .int .i64 x.kind, .int .u64 x.num, .string x.text, .slice Kx x.kids.length kx1, .string y.name, .string y.key, .int .i64 y.kind, .int .u64 y.num, .string y.text, .slice Ky y.kids.length ky1, .string ⟨#[]⟩, .string ⟨#[]⟩, .int .i64 0, .int .u64 0, .string ⟨#[]⟩, .slice none 0 0, .bool false] 126)).cell
  have gE2 := (kE.out.alloc (.cells #[.string n.name, .string n.key, .int .i64 n.kind, .int .u64 n.num, .string n.text, .slice Kn n.kids.length kn, .int .i64 d, .slice (some ⟨b2, o2, none⟩) (L + 1) ac, .string x.name, .string x.key, .int .i64 x.kind, .int .u64 x.num, .string x.text, .slice Kx x.kids.length kx1, .string y.name, .string y.key, .int .i64 y.kind, .int .u64 y.num, .string y.text, .slice Ky y.kids.length ky1, .string ⟨#[]⟩, .string ⟨#[]⟩, .int .i64 0, .int .u64 0, .string ⟨#[]⟩, .slice none 0 0, .bool false] 126)).cell
  go_wp2_with fail
  have kG := Hd.mk (Blk.new W #[.string n.name, .string n.key, .int .i64 n.kind, .int .u64 n.num, .string n.text, .slice Kn n.kids.length kn, .int .i64 d, .slice (some ⟨b2, o2, none⟩) (L + 1) ac, .string x.name, .string x.key, .int .i64 x.kind, .int .u64 x.num, .string x.text, .slice Kx x.kids.length kx1, .string y.name, .string y.key, .int .i64 y.kind, .int .u64 y.num, .string y.text, .slice Ky y.kids.length ky1, .string ⟨#[]⟩, .string ⟨#[]⟩, .int .i64 0, .int .u64 0, .string ⟨#[]⟩, .slice none 0 0, .bool false] 126)
  have hxA := Ext.alloc W (.cells #[.string n.name, .string n.key, .int .i64 n.kind, .int .u64 n.num, .string n.text, .slice Kn n.kids.length kn, .int .i64 d, .slice (some ⟨b2, o2, none⟩) (L + 1) ac, .string x.name, .string x.key, .int .i64 x.kind, .int .u64 x.num, .string x.text, .slice Kx x.kids.length kx1, .string y.name, .string y.key, .int .i64 y.kind, .int .u64 y.num, .string y.text, .slice Ky y.kids.length ky1, .string ⟨#[]⟩, .string ⟨#[]⟩, .int .i64 0, .int .u64 0, .string ⟨#[]⟩, .slice none 0 0, .bool false] 126)
  have hgW := Hd.mk kR.out.lt
  replace kx := Hd.mk (kx.out.trans hxA)
  replace kN := Hd.mk (kN.out.ext hxA)
  replace kE := Hd.mk (kE.out.ext hxA)
  replace kR := Hd.mk (kR.out.ext hxA)
  generalize W.heap.size = g at *
  generalize W.alloc _ = V at *
  have hgV1 := Hd.mk kG.out.lt
  clear hxA gN gE gN2 gE2
  have hc := tree_get n (init ++ [s]) _ S V _ (some ⟨b2, o2, none⟩) ac (kr.out.ext kx.out) (kw.out.ext kx.out)
  rw [hlenH.out] at hc
  refine Calls.mono hc ?_
  clear hc
  rintro e wg ⟨_, rfl, hx, hh⟩
  replace kx := Hd.mk (kx.out.trans hx)
  replace kE := Hd.mk (kE.out.ext hx)
  replace kR := Hd.mk (kR.out.ext hx)
  replace kG := Hd.mk (kG.out.ext hx)
  have hgV := Hd.mk kG.out.lt
  clear hx kN
  rcases hh with ⟨hg, rfl⟩ | ⟨u, c9, hg, rfl, hru⟩
  · skip
    have gG := kG.out.cell
    have fG := kG.out.free
    have gE := kE.out.cell
    go_wp2_with ((with_reducible refine stop_at (.fieldAddr 68 (.tmp 3) 0) ?_))
    refine Stop.mk ?_
    have hu := (((((((Upd.setCell wg ⟨g, 20, none⟩ (.string ⟨#[]⟩)).trans (Upd.setCell _ ⟨g, 21, none⟩ (.string ⟨#[]⟩))).trans (Upd.setCell _ ⟨g, 22, none⟩ (.int .i64 0))).trans (Upd.setCell _ ⟨g, 23, none⟩ (.int .u64 0))).trans (Upd.setCell _ ⟨g, 24, none⟩ (.string ⟨#[]⟩))).trans (Upd.setCell _ ⟨g, 25, none⟩ (.slice none 0 0))).trans (Upd.setCell _ ⟨g, 26, none⟩ (.bool false)))
    have kGn : Blk (((((((wg.setCell ⟨g, 20, none⟩ (.string ⟨#[]⟩)).setCell ⟨g, 21, none⟩ (.string ⟨#[]⟩)).setCell ⟨g, 22, none⟩ (.int .i64 0)).setCell ⟨g, 23, none⟩ (.int .u64 0)).setCell ⟨g, 24, none⟩ (.string ⟨#[]⟩)).setCell ⟨g, 25, none⟩ (.slice none 0 0)).setCell ⟨g, 26, none⟩ (.bool false)) g [.string n.name, .string n.key, .int .i64 n.kind, .int .u64 n.num, .string n.text, .slice Kn n.kids.length kn, .int .i64 d, .slice (some ⟨b2, o2, none⟩) (L + 1) ac, .string x.name, .string x.key, .int .i64 x.kind, .int .u64 x.num, .string x.text, .slice Kx x.kids.length kx1, .string y.name, .string y.key, .int .i64 y.kind, .int .u64 y.num, .string y.text, .slice Ky y.kids.length ky1, .string ⟨#[]⟩, .string ⟨#[]⟩, .int .i64 0, .int .u64 0, .string ⟨#[]⟩, .slice none 0 0, .bool false] 126 := (((((((kG.out.setCell 20 (.string ⟨#[]⟩)).setCell 21 (.string ⟨#[]⟩)).setCell 22 (.int .i64 0)).setCell 23 (.int .u64 0)).setCell 24 (.string ⟨#[]⟩)).setCell 25 (.slice none 0 0)).setCell 26 (.bool false))
    generalize (((((((wg.setCell ⟨g, 20, none⟩ (.string ⟨#[]⟩)).setCell ⟨g, 21, none⟩ (.string ⟨#[]⟩)).setCell ⟨g, 22, none⟩ (.int .i64 0)).setCell ⟨g, 23, none⟩ (.int .u64 0)).setCell ⟨g, 24, none⟩ (.string ⟨#[]⟩)).setCell ⟨g, 25, none⟩ (.slice none 0 0)).setCell ⟨g, 26, none⟩ (.bool false)) = w5 at *
    replace kG := Hd.mk kGn
    clear kGn
    replace kx := Hd.mk (show Ext w w5 from Below.trans kx.out (hu.below (by rw [hp.out]; have := hgW.out; show p ≤ g; omega)))
    replace kE := Hd.mk (hu.blk (by have := hgW.out; show p + 1 ≠ g; omega) kE.out)
    replace kR := Hd.mk (hu.blk (by have := hgW.out; show p + 1 + 1 ≠ g; omega) kR.out)
    clear hu gG fG gE
    have gE := kE.out.cell
    have gR := kR.out.cell
    have fR := kR.out.free
    go_wp2_with fail
    have hu := Hd.mk ((((((Upd.setCell w5 ⟨p + 1 + 1, 0, none⟩ (.string ⟨#[]⟩)).trans (Upd.setCell _ ⟨p + 1 + 1, 1, none⟩ (.string ⟨#[]⟩))).trans (Upd.setCell _ ⟨p + 1 + 1, 2, none⟩ (.int .i64 0))).trans (Upd.setCell _ ⟨p + 1 + 1, 3, none⟩ (.int .u64 0))).trans (Upd.setCell _ ⟨p + 1 + 1, 4, none⟩ (.string ⟨#[]⟩))).trans (Upd.setCell _ ⟨p + 1 + 1, 5, none⟩ (.slice none 0 0)))
    exact ret_box2 rfl (p + 1 + 1) _ 54 _ ((((((kR.out.setCell 0 (.string ⟨#[]⟩)).setCell 1 (.string ⟨#[]⟩)).setCell 2 (.int .i64 0)).setCell 3 (.int .u64 0)).setCell 4 (.string ⟨#[]⟩)).setCell 5 (.slice none 0 0)) rfl rfl Try.underlying54 rfl size54
      ⟨_, rfl, _, rfl, ot_zero _ _, Below.trans kx.out (hu.out.below (by rw [hp.out]; show p ≤ p + 1 + 1; omega))⟩
  · skip
    obtain ⟨Ku, ku, _, _, rfl, _⟩ := hru.row
    simp only [cT] at hru ⊢
    have hgV0 := Hd.mk (show g < V.heap.size from hgV1.out)
    have gG := kG.out.cell
    have fG := kG.out.free
    have gE := kE.out.cell
    go_wp2_with ((with_reducible refine stop_at (.fieldAddr 68 (.tmp 3) 0) ?_))
    refine Stop.mk ?_
    have hu := (((((((Upd.setCell wg ⟨g, 20, none⟩ (.string u.name)).trans (Upd.setCell _ ⟨g, 21, none⟩ (.string u.key))).trans (Upd.setCell _ ⟨g, 22, none⟩ (.int .i64 u.kind))).trans (Upd.setCell _ ⟨g, 23, none⟩ (.int .u64 u.num))).trans (Upd.setCell _ ⟨g, 24, none⟩ (.string u.text))).trans (Upd.setCell _ ⟨g, 25, none⟩ (.slice Ku u.kids.length ku))).trans (Upd.setCell _ ⟨g, 26, none⟩ (.bool true)))
    have kGn : Blk (((((((wg.setCell ⟨g, 20, none⟩ (.string u.name)).setCell ⟨g, 21, none⟩ (.string u.key)).setCell ⟨g, 22, none⟩ (.int .i64 u.kind)).setCell ⟨g, 23, none⟩ (.int .u64 u.num)).setCell ⟨g, 24, none⟩ (.string u.text)).setCell ⟨g, 25, none⟩ (.slice Ku u.kids.length ku)).setCell ⟨g, 26, none⟩ (.bool true)) g [.string n.name, .string n.key, .int .i64 n.kind, .int .u64 n.num, .string n.text, .slice Kn n.kids.length kn, .int .i64 d, .slice (some ⟨b2, o2, none⟩) (L + 1) ac, .string x.name, .string x.key, .int .i64 x.kind, .int .u64 x.num, .string x.text, .slice Kx x.kids.length kx1, .string y.name, .string y.key, .int .i64 y.kind, .int .u64 y.num, .string y.text, .slice Ky y.kids.length ky1, .string u.name, .string u.key, .int .i64 u.kind, .int .u64 u.num, .string u.text, .slice Ku u.kids.length ku, .bool true] 126 := (((((((kG.out.setCell 20 (.string u.name)).setCell 21 (.string u.key)).setCell 22 (.int .i64 u.kind)).setCell 23 (.int .u64 u.num)).setCell 24 (.string u.text)).setCell 25 (.slice Ku u.kids.length ku)).setCell 26 (.bool true))
    generalize (((((((wg.setCell ⟨g, 20, none⟩ (.string u.name)).setCell ⟨g, 21, none⟩ (.string u.key)).setCell ⟨g, 22, none⟩ (.int .i64 u.kind)).setCell ⟨g, 23, none⟩ (.int .u64 u.num)).setCell ⟨g, 24, none⟩ (.string u.text)).setCell ⟨g, 25, none⟩ (.slice Ku u.kids.length ku)).setCell ⟨g, 26, none⟩ (.bool true)) = w5 at *
    replace kG := Hd.mk kGn
    clear kGn
    replace kx := Hd.mk (show Ext w w5 from Below.trans kx.out (hu.below (by rw [hp.out]; have := hgW.out; show p ≤ g; omega)))
    replace kE := Hd.mk (hu.blk (by have := hgW.out; show p + 1 ≠ g; omega) kE.out)
    replace kR := Hd.mk (hu.blk (by have := hgW.out; show p + 1 + 1 ≠ g; omega) kR.out)
    have hru5 := Hd.mk ((hru.keep fun b hb => hu.block b (by have := hgW.out; have := hgV0.out; show b ≠ g; omega)).rt.all)
    clear hu gG fG gE
    have gE := kE.out.cell
    have gR := kR.out.cell
    have fR := kR.out.free
    go_wp2_with fail
    have hu := Hd.mk ((((((Upd.setCell w5 ⟨p + 1 + 1, 0, none⟩ (.string ⟨#[]⟩)).trans (Upd.setCell _ ⟨p + 1 + 1, 1, none⟩ (.string ⟨#[]⟩))).trans (Upd.setCell _ ⟨p + 1 + 1, 2, none⟩ (.int .i64 0))).trans (Upd.setCell _ ⟨p + 1 + 1, 3, none⟩ (.int .u64 0))).trans (Upd.setCell _ ⟨p + 1 + 1, 4, none⟩ (.string ⟨#[]⟩))).trans (Upd.setCell _ ⟨p + 1 + 1, 5, none⟩ (.slice none 0 0)))
    exact ret_box2 rfl (p + 1 + 1) _ 54 _ ((((((kR.out.setCell 0 (.string ⟨#[]⟩)).setCell 1 (.string ⟨#[]⟩)).setCell 2 (.int .i64 0)).setCell 3 (.int .u64 0)).setCell 4 (.string ⟨#[]⟩)).setCell 5 (.slice none 0 0)) rfl rfl Try.underlying54 rfl size54
      ⟨_, rfl, _, rfl, ot_zero _ _, Below.trans kx.out (hu.out.below (by rw [hp.out]; show p ≤ p + 1 + 1; omega))⟩
set_option maxRecDepth 100000 in
set_option maxHeartbeats 2000000 in
theorem patchOne_create (n : T) (e : E) (S : Nat → Prop) (w : World) (c ce : List Value) (hn : RT S w n c) (he : RE S w e ce) (hri : rightT n = true) (hsz : n.size + e.node.size ≤ 1048576) (hd : e.kind = 1) (hwy : e.way ≠ []) :
    Calls Try.prog 53 #[.agg c.toArray, .agg ce.toArray] w (Ret (ChgPost (oneT n e) w)) := by
  obtain ⟨d, way, x, y⟩ := e
  obtain ⟨A, ac, Kx, kx1, Ky, ky1, rfl, hw, hxr, hyr⟩ := he
  have kr := Hd.mk hn.all
  have krx := Hd.mk (RT.of_row hxr).all
  have kry := Hd.mk (RT.of_row hyr).all
  obtain ⟨Kn, kn, rfl, hrow⟩ := hn.row
  have hwl := hw.len
  have kw0 := Hd.mk hw
  have hw0 := hw
  have hriH := Hd.mk hri
  have hszH := Hd.mk hsz
  clear hn hrow hxr hyr hri hsz
  simp only [cT, List.cons_append, List.nil_append] at kr krx kry ⊢
  generalize hr0 : oneT n ⟨d, way, x, y⟩ = r
  replace hr0 := Hd.mk hr0
  obtain rfl : d = 1 := hd
  have hwy : way ≠ [] := hwy
  obtain ⟨init, s, rfl⟩ : ∃ init s, way = init ++ [s] := by
    rcases List.eq_nil_or_concat way with h | ⟨init, s, h⟩
    · exact absurd h hwy
    · exact ⟨init, s, by rw [h, List.concat_eq_append]⟩
  obtain ⟨b2, o2, rfl, _, _⟩ := WRow.at hw0 (j := init.length) (x := s) (by simp)
  have kw := Hd.mk kw0.out
  have hlenH := Hd.mk (show (init ++ [s]).length = init.length + 1 by simp)
  rw [hlenH.out] at hwl ⊢
  generalize hL : init.length = L at *
  replace hL := Hd.mk hL
  have hlen0 : ((L : Int) + 1 == 0) = false := by rw [beq_eq_false_iff_ne]; omega
  clear hwy kw0 hw hw0
  go_enter Try.func53, Try.ntmps53
  go_wp2_with ((with_reducible refine stop_at (.fieldAddr 68 (.tmp 3) 1) ?_))
  refine Stop.mk ?_
  have kx := Hd.mk (((Ext.alloc w (.cells #[.string n.name, .string n.key, .int .i64 n.kind, .int .u64 n.num, .string n.text, .slice Kn n.kids.length kn] 54)).trans (Ext.alloc _ (.cells #[.int .i64 1, .slice (some ⟨b2, o2, none⟩) (L + 1) ac, .string x.name, .string x.key, .int .i64 x.kind, .int .u64 x.num, .string x.text, .slice Kx x.kids.length kx1, .string y.name, .string y.key, .int .i64 y.kind, .int .u64 y.num, .string y.text, .slice Ky y.kids.length ky1] 68))).trans (Ext.alloc _ (.cells #[.string ⟨#[]⟩, .string ⟨#[]⟩, .int .i64 0, .int .u64 0, .string ⟨#[]⟩, .slice none 0 0] 54)))
  have kN := Hd.mk (((Blk.new w #[.string n.name, .string n.key, .int .i64 n.kind, .int .u64 n.num, .string n.text, .slice Kn n.kids.length kn] 54).alloc (.cells #[.int .i64 1, .slice (some ⟨b2, o2, none⟩) (L + 1) ac, .string x.name, .string x.key, .int .i64 x.kind, .int .u64 x.num, .string x.text, .slice Kx x.kids.length kx1, .string y.name, .string y.key, .int .i64 y.kind, .int .u64 y.num, .string y.text, .slice Ky y.kids.length ky1] 68)).alloc (.cells #[.string ⟨#[]⟩, .string ⟨#[]⟩, .int .i64 0, .int .u64 0, .string ⟨#[]⟩, .slice none 0 0] 54))
  have kE := Hd.mk ((Blk.new2 w (.cells #[.string n.name, .string n.key, .int .i64 n.kind, .int .u64 n.num, .string n.text, .slice Kn n.kids.length kn] 54) #[.int .i64 1, .slice (some ⟨b2, o2, none⟩) (L + 1) ac, .string x.name, .string x.key, .int .i64 x.kind, .int .u64 x.num, .string x.text, .slice Kx x.kids.length kx1, .string y.name, .string y.key, .int .i64 y.kind, .int .u64 y.num, .string y.text, .slice Ky y.kids.length ky1] 68).alloc (.cells #[.string ⟨#[]⟩, .string ⟨#[]⟩, .int .i64 0, .int .u64 0, .string ⟨#[]⟩, .slice none 0 0] 54))
  have kR := Hd.mk (Blk.new3 w (.cells #[.string n.name, .string n.key, .int .i64 n.kind, .int .u64 n.num, .string n.text, .slice Kn n.kids.length kn] 54) (.cells #[.int .i64 1, .slice (some ⟨b2, o2, none⟩) (L + 1) ac, .string x.name, .string x.key, .int .i64 x.kind, .int .u64 x.num, .string x.text, .slice Kx x.kids.length kx1, .string y.name, .string y.key, .int .i64 y.kind, .int .u64 y.num, .string y.text, .slice Ky y.kids.length ky1] 68) #[.string ⟨#[]⟩, .string ⟨#[]⟩, .int .i64 0, .int .u64 0, .string ⟨#[]⟩, .slice none 0 0] 54)
  generalize ((w.alloc _).alloc _).alloc _ = W at *
  generalize hp : w.heap.size = p at *
  replace hp := Hd.mk hp
  have gN := kN.out.cell
  have gE := kE.out.cell
  have gN2 := (kN.out.alloc (.cells #[.string n.name, .string n.key, .int .i64 n.kind, .int .u64 n.num, .string n.text, .slice Kn n.kids.length kn, .int .i64 1, .slice (some ⟨b2, o2, none⟩) (L + 1) ac, .string x.name, .string x.key, .int .i64 x.kind, .int .u64 x.num, .string x.text, .slice Kx x.kids.length kx1, .string y.name, .string y.key, .int .i64 y.kind, .int .u64 y.num, .string y.text, .slice Ky y.kids.length ky1, .string ⟨#[]⟩, .string ⟨#[]⟩, .int .i64 0, .int .u64 0, .string ⟨#[]⟩, .slice none 0 0, .bool false] 126)).cell
  have gE2 := (kE.out.alloc (.cells #[.string n.name, .string n.key, .int .i64 n.kind, .int .u64 n.num, .string n.text, .slice Kn n.kids.length kn, .int .i64 1, .slice (some ⟨b2, o2, none⟩) (L + 1) ac, .string x.name, .string x.key, .int .i64 x.kind, .int .u64 x.num, .string x.text, .slice Kx x.kids.length kx1, .string y.name, .string y.key, .int .i64 y.kind, .int .u64 y.num, .string y.text, .slice Ky y.kids.length ky1, .string ⟨#[]⟩, .string ⟨#[]⟩, .int .i64 0, .int .u64 0, .string ⟨#[]⟩, .slice none 0 0, .bool false] 126)).cell
  go_wp2_with fail
  have kG := Hd.mk (Blk.new W #[.string n.name, .string n.key, .int .i64 n.kind, .int .u64 n.num, .string n.text, .slice Kn n.kids.length kn, .int .i64 1, .slice (some ⟨b2, o2, none⟩) (L + 1) ac, .string x.name, .string x.key, .int .i64 x.kind, .int .u64 x.num, .string x.text, .slice Kx x.kids.length kx1, .string y.name, .string y.key, .int .i64 y.kind, .int .u64 y.num, .string y.text, .slice Ky y.kids.length ky1, .string ⟨#[]⟩, .string ⟨#[]⟩, .int .i64 0, .int .u64 0, .string ⟨#[]⟩, .slice none 0 0, .bool false] 126)
  have hxA := Ext.alloc W (.cells #[.string n.name, .string n.key, .int .i64 n.kind, .int .u64 n.num, .string n.text, .slice Kn n.kids.length kn, .int .i64 1, .slice (some ⟨b2, o2, none⟩) (L + 1) ac, .string x.name, .string x.key, .int .i64 x.kind, .int .u64 x.num, .string x.text, .slice Kx x.kids.length kx1, .string y.name, .string y.key, .int .i64 y.kind, .int .u64 y.num, .string y.text, .slice Ky y.kids.length ky1, .string ⟨#[]⟩, .string ⟨#[]⟩, .int .i64 0, .int .u64 0, .string ⟨#[]⟩, .slice none 0 0, .bool false] 126)
  have hgW := Hd.mk kR.out.lt
  replace kx := Hd.mk (kx.out.trans hxA)
  replace kN := Hd.mk (kN.out.ext hxA)
  replace kE := Hd.mk (kE.out.ext hxA)
  replace kR := Hd.mk (kR.out.ext hxA)
  generalize W.heap.size = g at *
  generalize W.alloc _ = V at *
  have hgV1 := Hd.mk kG.out.lt
  clear hxA gN gE gN2 gE2
  have hc := tree_get n (init ++ [s]) _ S V _ (some ⟨b2, o2, none⟩) ac (kr.out.ext kx.out) (kw.out.ext kx.out)
  rw [hlenH.out] at hc
  refine Calls.mono hc ?_
  clear hc
  rintro e wg ⟨_, rfl, hx, hh⟩
  replace kx := Hd.mk (kx.out.trans hx)
  replace kE := Hd.mk (kE.out.ext hx)
  replace kR := Hd.mk (kR.out.ext hx)
  replace kG := Hd.mk (kG.out.ext hx)
  have hgV := Hd.mk kG.out.lt
  clear hx kN
  rcases hh with ⟨hg, rfl⟩ | ⟨u, c9, hg, rfl, hru⟩
  · skip
    have gG := kG.out.cell
    have fG := kG.out.free
    have gE := kE.out.cell
    go_wp2_with ((with_reducible refine stop_at (.fieldAddr 68 (.tmp 3) 0) ?_))
    refine Stop.mk ?_
    have hu := (((((((Upd.setCell wg ⟨g, 20, none⟩ (.string ⟨#[]⟩)).trans (Upd.setCell _ ⟨g, 21, none⟩ (.string ⟨#[]⟩))).trans (Upd.setCell _ ⟨g, 22, none⟩ (.int .i64 0))).trans (Upd.setCell _ ⟨g, 23, none⟩ (.int .u64 0))).trans (Upd.setCell _ ⟨g, 24, none⟩ (.string ⟨#[]⟩))).trans (Upd.setCell _ ⟨g, 25, none⟩ (.slice none 0 0))).trans (Upd.setCell _ ⟨g, 26, none⟩ (.bool false)))
    have kGn : Blk (((((((wg.setCell ⟨g, 20, none⟩ (.string ⟨#[]⟩)).setCell ⟨g, 21, none⟩ (.string ⟨#[]⟩)).setCell ⟨g, 22, none⟩ (.int .i64 0)).setCell ⟨g, 23, none⟩ (.int .u64 0)).setCell ⟨g, 24, none⟩ (.string ⟨#[]⟩)).setCell ⟨g, 25, none⟩ (.slice none 0 0)).setCell ⟨g, 26, none⟩ (.bool false)) g [.string n.name, .string n.key, .int .i64 n.kind, .int .u64 n.num, .string n.text, .slice Kn n.kids.length kn, .int .i64 1, .slice (some ⟨b2, o2, none⟩) (L + 1) ac, .string x.name, .string x.key, .int .i64 x.kind, .int .u64 x.num, .string x.text, .slice Kx x.kids.length kx1, .string y.name, .string y.key, .int .i64 y.kind, .int .u64 y.num, .string y.text, .slice Ky y.kids.length ky1, .string ⟨#[]⟩, .string ⟨#[]⟩, .int .i64 0, .int .u64 0, .string ⟨#[]⟩, .slice none 0 0, .bool false] 126 := (((((((kG.out.setCell 20 (.string ⟨#[]⟩)).setCell 21 (.string ⟨#[]⟩)).setCell 22 (.int .i64 0)).setCell 23 (.int .u64 0)).setCell 24 (.string ⟨#[]⟩)).setCell 25 (.slice none 0 0)).setCell 26 (.bool false))
    generalize (((((((wg.setCell ⟨g, 20, none⟩ (.string ⟨#[]⟩)).setCell ⟨g, 21, none⟩ (.string ⟨#[]⟩)).setCell ⟨g, 22, none⟩ (.int .i64 0)).setCell ⟨g, 23, none⟩ (.int .u64 0)).setCell ⟨g, 24, none⟩ (.string ⟨#[]⟩)).setCell ⟨g, 25, none⟩ (.slice none 0 0)).setCell ⟨g, 26, none⟩ (.bool false)) = w5 at *
    replace kG := Hd.mk kGn
    clear kGn
    replace kx := Hd.mk (show Ext w w5 from Below.trans kx.out (hu.below (by rw [hp.out]; have := hgW.out; show p ≤ g; omega)))
    replace kE := Hd.mk (hu.blk (by have := hgW.out; show p + 1 ≠ g; omega) kE.out)
    replace kR := Hd.mk (hu.blk (by have := hgW.out; show p + 1 + 1 ≠ g; omega) kR.out)
    clear hu gG fG gE
    have gE := kE.out.cell
    have hst := work_create n x y zeroT Kn Kx Ky none kn kx1 ky1 0 1 b2 o2 L ac false init s (fun _ => True) S w5 g hL.out kG.out (kr.out.ext kx.out) (krx.out.ext kx.out) (kry.out.ext kx.out) (rt_zero _ _) (kw.out.ext kx.out) hriH.out hszH.out
    have hr1 := hr0.out
    rw [one1, hg] at hr1
    simp only [Option.isSome_none, Bool.false_eq_true, ↓reduceIte] at hr1 hst
    rw [hr1] at hst
    replace hst := Hd.mk hst
    obtain ⟨m, rc⟩ := r
    clear hr1
    go_wp2_with fail
    clear gE
    refine Calls.mono hst.out ?_
    rintro e w9 ⟨_, rfl, cm, rfl, hrm, hx⟩
    obtain ⟨Km, km, _, _, rfl, _⟩ := hrm.row
    have hrm := Hd.mk hrm
    simp only [cT] at hrm ⊢
    have hVs := Hd.mk kR.out.lt
    replace kx := Hd.mk (kx.out.trans hx)
    replace kR := Hd.mk (kR.out.ext hx)
    clear hx
    have gR := kR.out.cell
    have fR := kR.out.free
    go_wp2_with fail
    have hu := Hd.mk ((((((Upd.setCell w9 ⟨p + 1 + 1, 0, none⟩ (.string m.name)).trans (Upd.setCell _ ⟨p + 1 + 1, 1, none⟩ (.string m.key))).trans (Upd.setCell _ ⟨p + 1 + 1, 2, none⟩ (.int .i64 m.kind))).trans (Upd.setCell _ ⟨p + 1 + 1, 3, none⟩ (.int .u64 m.num))).trans (Upd.setCell _ ⟨p + 1 + 1, 4, none⟩ (.string m.text))).trans (Upd.setCell _ ⟨p + 1 + 1, 5, none⟩ (.slice Km m.kids.length km)))
    exact ret_box2 rfl (p + 1 + 1) _ 54 _ ((((((kR.out.setCell 0 (.string m.name)).setCell 1 (.string m.key)).setCell 2 (.int .i64 m.kind)).setCell 3 (.int .u64 m.num)).setCell 4 (.string m.text)).setCell 5 (.slice Km m.kids.length km)) rfl rfl Try.underlying54 rfl size54
      ⟨_, rfl, _, rfl, (hrm.out.keep fun b hb => hu.out.block b (by have := hVs.out; show b ≠ p + 1 + 1; omega)).mono fun b hb => ⟨by rw [hp.out]; have := hVs.out; omega, by rw [hu.out.size]; omega⟩, Below.trans kx.out (hu.out.below (by rw [hp.out]; show p ≤ p + 1 + 1; omega))⟩
  · skip
    obtain ⟨Ku, ku, _, _, rfl, _⟩ := hru.row
    simp only [cT] at hru ⊢
    have hgV0 := Hd.mk (show g < V.heap.size from hgV1.out)
    have gG := kG.out.cell
    have fG := kG.out.free
    have gE := kE.out.cell
    go_wp2_with ((with_reducible refine stop_at (.fieldAddr 68 (.tmp 3) 0) ?_))
    refine Stop.mk ?_
    have hu := (((((((Upd.setCell wg ⟨g, 20, none⟩ (.string u.name)).trans (Upd.setCell _ ⟨g, 21, none⟩ (.string u.key))).trans (Upd.setCell _ ⟨g, 22, none⟩ (.int .i64 u.kind))).trans (Upd.setCell _ ⟨g, 23, none⟩ (.int .u64 u.num))).trans (Upd.setCell _ ⟨g, 24, none⟩ (.string u.text))).trans (Upd.setCell _ ⟨g, 25, none⟩ (.slice Ku u.kids.length ku))).trans (Upd.setCell _ ⟨g, 26, none⟩ (.bool true)))
    have kGn : Blk (((((((wg.setCell ⟨g, 20, none⟩ (.string u.name)).setCell ⟨g, 21, none⟩ (.string u.key)).setCell ⟨g, 22, none⟩ (.int .i64 u.kind)).setCell ⟨g, 23, none⟩ (.int .u64 u.num)).setCell ⟨g, 24, none⟩ (.string u.text)).setCell ⟨g, 25, none⟩ (.slice Ku u.kids.length ku)).setCell ⟨g, 26, none⟩ (.bool true)) g [.string n.name, .string n.key, .int .i64 n.kind, .int .u64 n.num, .string n.text, .slice Kn n.kids.length kn, .int .i64 1, .slice (some ⟨b2, o2, none⟩) (L + 1) ac, .string x.name, .string x.key, .int .i64 x.kind, .int .u64 x.num, .string x.text, .slice Kx x.kids.length kx1, .string y.name, .string y.key, .int .i64 y.kind, .int .u64 y.num, .string y.text, .slice Ky y.kids.length ky1, .string u.name, .string u.key, .int .i64 u.kind, .int .u64 u.num, .string u.text, .slice Ku u.kids.length ku, .bool true] 126 := (((((((kG.out.setCell 20 (.string u.name)).setCell 21 (.string u.key)).setCell 22 (.int .i64 u.kind)).setCell 23 (.int .u64 u.num)).setCell 24 (.string u.text)).setCell 25 (.slice Ku u.kids.length ku)).setCell 26 (.bool true))
    generalize (((((((wg.setCell ⟨g, 20, none⟩ (.string u.name)).setCell ⟨g, 21, none⟩ (.string u.key)).setCell ⟨g, 22, none⟩ (.int .i64 u.kind)).setCell ⟨g, 23, none⟩ (.int .u64 u.num)).setCell ⟨g, 24, none⟩ (.string u.text)).setCell ⟨g, 25, none⟩ (.slice Ku u.kids.length ku)).setCell ⟨g, 26, none⟩ (.bool true)) = w5 at *
    replace kG := Hd.mk kGn
    clear kGn
    replace kx := Hd.mk (show Ext w w5 from Below.trans kx.out (hu.below (by rw [hp.out]; have := hgW.out; show p ≤ g; omega)))
    replace kE := Hd.mk (hu.blk (by have := hgW.out; show p + 1 ≠ g; omega) kE.out)
    replace kR := Hd.mk (hu.blk (by have := hgW.out; show p + 1 + 1 ≠ g; omega) kR.out)
    have hru5 := Hd.mk ((hru.keep fun b hb => hu.block b (by have := hgW.out; have := hgV0.out; show b ≠ g; omega)).rt.all)
    clear hu gG fG gE
    have gE := kE.out.cell
    have hst := work_create n x y u Kn Kx Ky Ku kn kx1 ky1 ku 1 b2 o2 L ac true init s (fun _ => True) S w5 g hL.out kG.out (kr.out.ext kx.out) (krx.out.ext kx.out) (kry.out.ext kx.out) hru5.out (kw.out.ext kx.out) hriH.out hszH.out
    have hr1 := hr0.out
    rw [one1, hg] at hr1
    simp only [Option.isSome_some, ↓reduceIte] at hr1 hst
    rw [hr1] at hst
    replace hst := Hd.mk hst
    obtain ⟨m, rc⟩ := r
    clear hr1
    go_wp2_with fail
    clear gE
    refine Calls.mono hst.out ?_
    rintro e w9 ⟨_, rfl, cm, rfl, hrm, hx⟩
    obtain ⟨Km, km, _, _, rfl, _⟩ := hrm.row
    have hrm := Hd.mk hrm
    simp only [cT] at hrm ⊢
    have hVs := Hd.mk kR.out.lt
    replace kx := Hd.mk (kx.out.trans hx)
    replace kR := Hd.mk (kR.out.ext hx)
    clear hx
    have gR := kR.out.cell
    have fR := kR.out.free
    go_wp2_with fail
    have hu := Hd.mk ((((((Upd.setCell w9 ⟨p + 1 + 1, 0, none⟩ (.string m.name)).trans (Upd.setCell _ ⟨p + 1 + 1, 1, none⟩ (.string m.key))).trans (Upd.setCell _ ⟨p + 1 + 1, 2, none⟩ (.int .i64 m.kind))).trans (Upd.setCell _ ⟨p + 1 + 1, 3, none⟩ (.int .u64 m.num))).trans (Upd.setCell _ ⟨p + 1 + 1, 4, none⟩ (.string m.text))).trans (Upd.setCell _ ⟨p + 1 + 1, 5, none⟩ (.slice Km m.kids.length km)))
    exact ret_box2 rfl (p + 1 + 1) _ 54 _ ((((((kR.out.setCell 0 (.string m.name)).setCell 1 (.string m.key)).setCell 2 (.int .i64 m.kind)).setCell 3 (.int .u64 m.num)).setCell 4 (.string m.text)).setCell 5 (.slice Km m.kids.length km)) rfl rfl Try.underlying54 rfl size54
      ⟨_, rfl, _, rfl, (hrm.out.keep fun b hb => hu.out.block b (by have := hVs.out; show b ≠ p + 1 + 1; omega)).mono fun b hb => ⟨by rw [hp.out]; have := hVs.out; omega, by rw [hu.out.size]; omega⟩, Below.trans kx.out (hu.out.below (by rw [hp.out]; show p ≤ p + 1 + 1; omega))⟩
set_option maxRecDepth 100000 in
set_option maxHeartbeats 2000000 in
theorem patchOne_delete (n : T) (e : E) (S : Nat → Prop) (w : World) (c ce : List Value) (hn : RT S w n c) (he : RE S w e ce) (hri : rightT n = true) (hsz : n.size + e.node.size ≤ 1048576) (hd : e.kind = 2) (hwy : e.way ≠ []) :
    Calls Try.prog 53 #[.agg c.toArray, .agg ce.toArray] w (Ret (ChgPost (oneT n e) w)) := by
  obtain ⟨d, way, x, y⟩ := e
  obtain ⟨A, ac, Kx, kx1, Ky, ky1, rfl, hw, hxr, hyr⟩ := he
  have kr := Hd.mk hn.all
  have krx := Hd.mk (RT.of_row hxr).all
  have kry := Hd.mk (RT.of_row hyr).all
  obtain ⟨Kn, kn, rfl, hrow⟩ := hn.row
  have hwl := hw.len
  have kw0 := Hd.mk hw
  have hw0 := hw
  have hriH := Hd.mk hri
  have hszH := Hd.mk hsz
  clear hn hrow hxr hyr hri hsz
  simp only [cT, List.cons_append, List.nil_append] at kr krx kry ⊢
  generalize hr0 : oneT n ⟨d, way, x, y⟩ = r
  replace hr0 := Hd.mk hr0
  obtain rfl : d = 2 := hd
  have hwy : way ≠ [] := hwy
  obtain ⟨init, s, rfl⟩ : ∃ init s, way = init ++ [s] := by
    rcases List.eq_nil_or_concat way with h | ⟨init, s, h⟩
    · exact absurd h hwy
    · exact ⟨init, s, by rw [h, List.concat_eq_append]⟩
  obtain ⟨b2, o2, rfl, _, _⟩ := WRow.at hw0 (j := init.length) (x := s) (by simp)
  have kw := Hd.mk kw0.out
  have hlenH := Hd.mk (show (init ++ [s]).length = init.length + 1 by simp)
  rw [hlenH.out] at hwl ⊢
  generalize hL : init.length = L at *
  replace hL := Hd.mk hL
  have hlen0 : ((L : Int) + 1 == 0) = false := by rw [beq_eq_false_iff_ne]; omega
  clear hwy kw0 hw hw0
  go_enter Try.func53, Try.ntmps53
  go_wp2_with ((with_reducible refine stop_at (.fieldAddr 68 (.tmp 3) 1) ?_))
  refine Stop.mk ?_
  have kx := Hd.mk (((Ext.alloc w (.cells #[.string n.name, .string n.key, .int .i64 n.kind, .int .u64 n.num, .string n.text, .slice Kn n.kids.length kn] 54)).trans (Ext.alloc _ (.cells #[.int .i64 2, .slice (some ⟨b2, o2, none⟩) (L + 1) ac, .string x.name, .string x.key, .int .i64 x.kind, .int .u64 x.num, .string x.text, .slice Kx x.kids.length kx1, .string y.name, .string y.key, .int .i64 y.kind, .int .u64 y.num, .string y.text, .slice Ky y.kids.length ky1] 68))).trans (Ext.alloc _ (.cells #[.string ⟨#[]⟩, .string ⟨#[]⟩, .int .i64 0, .int .u64 0, .string ⟨#[]⟩, .slice none 0 0] 54)))
  have kN := Hd.mk (((Blk.new w #[.string n.name, .string n.key, .int .i64 n.kind, .int .u64 n.num, .string n.text, .slice Kn n.kids.length kn] 54).alloc (.cells #[.int .i64 2, .slice (some ⟨b2, o2, none⟩) (L + 1) ac, .string x.name, .string x.key, .int .i64 x.kind, .int .u64 x.num, .string x.text, .slice Kx x.kids.length kx1, .string y.name, .string y.key, .int .i64 y.kind, .int .u64 y.num, .string y.text, .slice Ky y.kids.length ky1] 68)).alloc (.cells #[.string ⟨#[]⟩, .string ⟨#[]⟩, .int .i64 0, .int .u64 0, .string ⟨#[]⟩, .slice none 0 0] 54))
  have kE := Hd.mk ((Blk.new2 w (.cells #[.string n.name, .string n.key, .int .i64 n.kind, .int .u64 n.num, .string n.text, .slice Kn n.kids.length kn] 54) #[.int .i64 2, .slice (some ⟨b2, o2, none⟩) (L + 1) ac, .string x.name, .string x.key, .int .i64 x.kind, .int .u64 x.num, .string x.text, .slice Kx x.kids.length kx1, .string y.name, .string y.key, .int .i64 y.kind, .int .u64 y.num, .string y.text, .slice Ky y.kids.length ky1] 68).alloc (.cells #[.string ⟨#[]⟩, .string ⟨#[]⟩, .int .i64 0, .int .u64 0, .string ⟨#[]⟩, .slice none 0 0] 54))
  have kR := Hd.mk (Blk.new3 w (.cells #[.string n.name, .string n.key, .int .i64 n.kind, .int .u64 n.num, .string n.text, .slice Kn n.kids.length kn] 54) (.cells #[.int .i64 2, .slice (some ⟨b2, o2, none⟩) (L + 1) ac, .string x.name, .string x.key, .int .i64 x.kind, .int .u64 x.num, .string x.text, .slice Kx x.kids.length kx1, .string y.name, .string y.key, .int .i64 y.kind, .int .u64 y.num, .string y.text, .slice Ky y.kids.length ky1] 68) #[.string ⟨#[]⟩, .string ⟨#[]⟩, .int .i64 0, .int .u64 0, .string ⟨#[]⟩, .slice none 0 0] 54)
  generalize ((w.alloc _).alloc _).alloc _ = W at *
  generalize hp : w.heap.size = p at *
  replace hp := Hd.mk hp
  have gN := kN.out.cell
  have gE := kE.out.cell
  have gN2 := (kN.out.alloc (.cells #[.string n.name, .string n.key, .int .i64 n.kind, .int .u64 n.num, .string n.text, .slice Kn n.kids.length kn, .int .i64 2, .slice (some ⟨b2, o2, none⟩) (L + 1) ac, .string x.name, .string x.key, .int .i64 x.kind, .int .u64 x.num, .string x.text, .slice Kx x.kids.length kx1, .string y.name, .string y.key, .int .i64 y.kind, .int .u64 y.num, .string y.text, .slice Ky y.kids.length ky1, .string ⟨#[]⟩, .string ⟨#[]⟩, .int .i64 0, .int .u64 0, .string ⟨#[]⟩, .slice none 0 0, .bool false] 126)).cell
  have gE2 := (kE.out.alloc (.cells #[.string n.name, .string n.key, .int .i64 n.kind, .int .u64 n.num, .string n.text, .slice Kn n.kids.length kn, .int .i64 2, .slice (some ⟨b2, o2, none⟩) (L + 1) ac, .string x.name, .string x.key, .int .i64 x.kind, .int .u64 x.num, .string x.text, .slice Kx x.kids.length kx1, .string y.name, .string y.key, .int .i64 y.kind, .int .u64 y.num, .string y.text, .slice Ky y.kids.length ky1, .string ⟨#[]⟩, .string ⟨#[]⟩, .int .i64 0, .int .u64 0, .string ⟨#[]⟩, .slice none 0 0, .bool false] 126)).cell
  go_wp2_with fail
  have kG := Hd.mk (Blk.new W #[.string n.name, .string n.key, .int .i64 n.kind, .int .u64 n.num, .string n.text, .slice Kn n.kids.length kn, .int .i64 2, .slice (some ⟨b2, o2, none⟩) (L + 1) ac, .string x.name, .string x.key, .int .i64 x.kind, .int .u64 x.num, .string x.text, .slice Kx x.kids.length kx1, .string y.name, .string y.key, .int .i64 y.kind, .int .u64 y.num, .string y.text, .slice Ky y.kids.length ky1, .string ⟨#[]⟩, .string ⟨#[]⟩, .int .i64 0, .int .u64 0, .string ⟨#[]⟩, .slice none 0 0, .bool false] 126)
  have hxA := Ext.alloc W (.cells #[.string n.name, .string n.key, .int .i64 n.kind, .int .u64 n.num, .string n.text, .slice Kn n.kids.length kn, .int .i64 2, .slice (some ⟨b2, o2, none⟩) (L + 1) ac, .string x.name, .string x.key, .int .i64 x.kind, .int .u64 x.num, .string x.text, .slice Kx x.kids.length kx1, .string y.name, .string y.key, .int .i64 y.kind, .int .u64 y.num, .string y.text, .slice Ky y.kids.length ky1, .string ⟨#[]⟩, .string ⟨#[]⟩, .int .i64 0, .int .u64 0, .string ⟨#[]⟩, .slice none 0 0, .bool false] 126)
  have hgW := Hd.mk kR.out.lt
  replace kx := Hd.mk (kx.out.trans hxA)
  replace kN := Hd.mk (kN.out.ext hxA)
  replace kE := Hd.mk (kE.out.ext hxA)
  replace kR := Hd.mk (kR.out.ext hxA)
  generalize W.heap.size = g at *
  generalize W.alloc _ = V at *
  have hgV1 := Hd.mk kG.out.lt
  clear hxA gN gE gN2 gE2
  have hc := tree_get n (init ++ [s]) _ S V _ (some ⟨b2, o2, none⟩) ac (kr.out.ext kx.out) (kw.out.ext kx.out)
  rw [hlenH.out] at hc
  refine Calls.mono hc ?_
  clear hc
  rintro e wg ⟨_, rfl, hx, hh⟩
  replace kx := Hd.mk (kx.out.trans hx)
  replace kE := Hd.mk (kE.out.ext hx)
  replace kR := Hd.mk (kR.out.ext hx)
  replace kG := Hd.mk (kG.out.ext hx)
  have hgV := Hd.mk kG.out.lt
  clear hx kN
  rcases hh with ⟨hg, rfl⟩ | ⟨u, c9, hg, rfl, hru⟩
  · skip
    have gG := kG.out.cell
    have fG := kG.out.free
    have gE := kE.out.cell
    go_wp2_with ((with_reducible refine stop_at (.fieldAddr 68 (.tmp 3) 0) ?_))
    refine Stop.mk ?_
    have hu := (((((((Upd.setCell wg ⟨g, 20, none⟩ (.string ⟨#[]⟩)).trans (Upd.setCell _ ⟨g, 21, none⟩ (.string ⟨#[]⟩))).trans (Upd.setCell _ ⟨g, 22, none⟩ (.int .i64 0))).trans (Upd.setCell _ ⟨g, 23, none⟩ (.int .u64 0))).trans (Upd.setCell _ ⟨g, 24, none⟩ (.string ⟨#[]⟩))).trans (Upd.setCell _ ⟨g, 25, none⟩ (.slice none 0 0))).trans (Upd.setCell _ ⟨g, 26, none⟩ (.bool false)))
    have kGn : Blk (((((((wg.setCell ⟨g, 20, none⟩ (.string ⟨#[]⟩)).setCell ⟨g, 21, none⟩ (.string ⟨#[]⟩)).setCell ⟨g, 22, none⟩ (.int .i64 0)).setCell ⟨g, 23, none⟩ (.int .u64 0)).setCell ⟨g, 24, none⟩ (.string ⟨#[]⟩)).setCell ⟨g, 25, none⟩ (.slice none 0 0)).setCell ⟨g, 26, none⟩ (.bool false)) g [.string n.name, .string n.key, .int .i64 n.kind, .int .u64 n.num, .string n.text, .slice Kn n.kids.length kn, .int .i64 2, .slice (some ⟨b2, o2, none⟩) (L + 1) ac, .string x.name, .string x.key, .int .i64 x.kind, .int .u64 x.num, .string x.text, .slice Kx x.kids.length kx1, .string y.name, .string y.key, .int .i64 y.kind, .int .u64 y.num, .string y.text, .slice Ky y.kids.length ky1, .string ⟨#[]⟩, .string ⟨#[]⟩, .int .i64 0, .int .u64 0, .string ⟨#[]⟩, .slice none 0 0, .bool false] 126 := (((((((kG.out.setCell 20 (.string ⟨#[]⟩)).setCell 21 (.string ⟨#[]⟩)).setCell 22 (.int .i64 0)).setCell 23 (.int .u64 0)).setCell 24 (.string ⟨#[]⟩)).setCell 25 (.slice none 0 0)).setCell 26 (.bool false))
    generalize (((((((wg.setCell ⟨g, 20, none⟩ (.string ⟨#[]⟩)).setCell ⟨g, 21, none⟩ (.string ⟨#[]⟩)).setCell ⟨g, 22, none⟩ (.int .i64 0)).setCell ⟨g, 23, none⟩ (.int .u64 0)).setCell ⟨g, 24, none⟩ (.string ⟨#[]⟩)).setCell ⟨g, 25, none⟩ (.slice none 0 0)).setCell ⟨g, 26, none⟩ (.bool false)) = w5 at *
    replace kG := Hd.mk kGn
    clear kGn
    replace kx := Hd.mk (show Ext w w5 from Below.trans kx.out (hu.below (by rw [hp.out]; have := hgW.out; show p ≤ g; omega)))
    replace kE := Hd.mk (hu.blk (by have := hgW.out; show p + 1 ≠ g; omega) kE.out)
    replace kR := Hd.mk (hu.blk (by have := hgW.out; show p + 1 + 1 ≠ g; omega) kR.out)
    clear hu gG fG gE
    have gE := kE.out.cell
    have hst := work_delete n x y zeroT Kn Kx Ky none kn kx1 ky1 0 2 b2 o2 L ac false init s (fun _ => True) S w5 g hL.out kG.out (kr.out.ext kx.out) (krx.out.ext kx.out) (kry.out.ext kx.out) (rt_zero _ _) (kw.out.ext kx.out) hriH.out hszH.out
    have hr1 := hr0.out
    rw [one2, hg] at hr1
    simp only [↓reduceIte] at hr1 hst
    rw [hr1] at hst
    replace hst := Hd.mk hst
    obtain ⟨m, rc⟩ := r
    clear hr1
    go_wp2_with fail
    clear gE
    refine Calls.mono hst.out ?_
    rintro e w9 ⟨_, rfl, cm, rfl, hrm, hx⟩
    obtain ⟨Km, km, _, _, rfl, _⟩ := hrm.row
    have hrm := Hd.mk hrm
    simp only [cT] at hrm ⊢
    have hVs := Hd.mk kR.out.lt
    replace kx := Hd.mk (kx.out.trans hx)
    replace kR := Hd.mk (kR.out.ext hx)
    clear hx
    have gR := kR.out.cell
    have fR := kR.out.free
    go_wp2_with fail
    have hu := Hd.mk ((((((Upd.setCell w9 ⟨p + 1 + 1, 0, none⟩ (.string m.name)).trans (Upd.setCell _ ⟨p + 1 + 1, 1, none⟩ (.string m.key))).trans (Upd.setCell _ ⟨p + 1 + 1, 2, none⟩ (.int .i64 m.kind))).trans (Upd.setCell _ ⟨p + 1 + 1, 3, none⟩ (.int .u64 m.num))).trans (Upd.setCell _ ⟨p + 1 + 1, 4, none⟩ (.string m.text))).trans (Upd.setCell _ ⟨p + 1 + 1, 5, none⟩ (.slice Km m.kids.length km)))
    exact ret_box2 rfl (p + 1 + 1) _ 54 _ ((((((kR.out.setCell 0 (.string m.name)).setCell 1 (.string m.key)).setCell 2 (.int .i64 m.kind)).setCell 3 (.int .u64 m.num)).setCell 4 (.string m.text)).setCell 5 (.slice Km m.kids.length km)) rfl rfl Try.underlying54 rfl size54
      ⟨_, rfl, _, rfl, (hrm.out.keep fun b hb => hu.out.block b (by have := hVs.out; show b ≠ p + 1 + 1; omega)).mono fun b hb => ⟨by rw [hp.out]; have := hVs.out; omega, by rw [hu.out.size]; omega⟩, Below.trans kx.out (hu.out.below (by rw [hp.out]; show p ≤ p + 1 + 1; omega))⟩
  · skip
    obtain ⟨Ku, ku, _, _, rfl, _⟩ := hru.row
    simp only [cT] at hru ⊢
    have hgV0 := Hd.mk (show g < V.heap.size from hgV1.out)
    have gG := kG.out.cell
    have fG := kG.out.free
    have gE := kE.out.cell
    go_wp2_with ((with_reducible refine stop_at (.fieldAddr 68 (.tmp 3) 0) ?_))
    refine Stop.mk ?_
    have hu := (((((((Upd.setCell wg ⟨g, 20, none⟩ (.string u.name)).trans (Upd.setCell _ ⟨g, 21, none⟩ (.string u.key))).trans (Upd.setCell _ ⟨g, 22, none⟩ (.int .i64 u.kind))).trans (Upd.setCell _ ⟨g, 23, none⟩ (.int .u64 u.num))).trans (Upd.setCell _ ⟨g, 24, none⟩ (.string u.text))).trans (Upd.setCell _ ⟨g, 25, none⟩ (.slice Ku u.kids.length ku))).trans (Upd.setCell _ ⟨g, 26, none⟩ (.bool true)))
    have kGn : Blk (((((((wg.setCell ⟨g, 20, none⟩ (.string u.name)).setCell ⟨g, 21, none⟩ (.string u.key)).setCell ⟨g, 22, none⟩ (.int .i64 u.kind)).setCell ⟨g, 23, none⟩ (.int .u64 u.num)).setCell ⟨g, 24, none⟩ (.string u.text)).setCell ⟨g, 25, none⟩ (.slice Ku u.kids.length ku)).setCell ⟨g, 26, none⟩ (.bool true)) g [.string n.name, .string n.key, .int .i64 n.kind, .int .u64 n.num, .string n.text, .slice Kn n.kids.length kn, .int .i64 2, .slice (some ⟨b2, o2, none⟩) (L + 1) ac, .string x.name, .string x.key, .int .i64 x.kind, .int .u64 x.num, .string x.text, .slice Kx x.kids.length kx1, .string y.name, .string y.key, .int .i64 y.kind, .int .u64 y.num, .string y.text, .slice Ky y.kids.length ky1, .string u.name, .string u.key, .int .i64 u.kind, .int .u64 u.num, .string u.text, .slice Ku u.kids.length ku, .bool true] 126 := (((((((kG.out.setCell 20 (.string u.name)).setCell 21 (.string u.key)).setCell 22 (.int .i64 u.kind)).setCell 23 (.int .u64 u.num)).setCell 24 (.string u.text)).setCell 25 (.slice Ku u.kids.length ku)).setCell 26 (.bool true))
    generalize (((((((wg.setCell ⟨g, 20, none⟩ (.string u.name)).setCell ⟨g, 21, none⟩ (.string u.key)).setCell ⟨g, 22, none⟩ (.int .i64 u.kind)).setCell ⟨g, 23, none⟩ (.int .u64 u.num)).setCell ⟨g, 24, none⟩ (.string u.text)).setCell ⟨g, 25, none⟩ (.slice Ku u.kids.length ku)).setCell ⟨g, 26, none⟩ (.bool true)) = w5 at *
    replace kG := Hd.mk kGn
    clear kGn
    replace kx := Hd.mk (show Ext w w5 from Below.trans kx.out (hu.below (by rw [hp.out]; have := hgW.out; show p ≤ g; omega)))
    replace kE := Hd.mk (hu.blk (by have := hgW.out; show p + 1 ≠ g; omega) kE.out)
    replace kR := Hd.mk (hu.blk (by have := hgW.out; show p + 1 + 1 ≠ g; omega) kR.out)
    have hru5 := Hd.mk ((hru.keep fun b hb => hu.block b (by have := hgW.out; have := hgV0.out; show b ≠ g; omega)).rt.all)
    clear hu gG fG gE
    have gE := kE.out.cell
    have hst := work_delete n x y u Kn Kx Ky Ku kn kx1 ky1 ku 2 b2 o2 L ac true init s (fun _ => True) S w5 g hL.out kG.out (kr.out.ext kx.out) (krx.out.ext kx.out) (kry.out.ext kx.out) hru5.out (kw.out.ext kx.out) hriH.out hszH.out
    have hr1 := hr0.out
    rw [one2, hg] at hr1
    simp only [Bool.true_eq_false, ↓reduceIte] at hr1 hst
    rw [hr1] at hst
    replace hst := Hd.mk hst
    obtain ⟨m, rc⟩ := r
    clear hr1
    go_wp2_with fail
    clear gE
    refine Calls.mono hst.out ?_
    rintro e w9 ⟨_, rfl, cm, rfl, hrm, hx⟩
    obtain ⟨Km, km, _, _, rfl, _⟩ := hrm.row
    have hrm := Hd.mk hrm
    simp only [cT] at hrm ⊢
    have hVs := Hd.mk kR.out.lt
    replace kx := Hd.mk (kx.out.trans hx)
    replace kR := Hd.mk (kR.out.ext hx)
    clear hx
    have gR := kR.out.cell
    have fR := kR.out.free
    go_wp2_with fail
    have hu := Hd.mk ((((((Upd.setCell w9 ⟨p + 1 + 1, 0, none⟩ (.string m.name)).trans (Upd.setCell _ ⟨p + 1 + 1, 1, none⟩ (.string m.key))).trans (Upd.setCell _ ⟨p + 1 + 1, 2, none⟩ (.int .i64 m.kind))).trans (Upd.setCell _ ⟨p + 1 + 1, 3, none⟩ (.int .u64 m.num))).trans (Upd.setCell _ ⟨p + 1 + 1, 4, none⟩ (.string m.text))).trans (Upd.setCell _ ⟨p + 1 + 1, 5, none⟩ (.slice Km m.kids.length km)))
    exact ret_box2 rfl (p + 1 + 1) _ 54 _ ((((((kR.out.setCell 0 (.string m.name)).setCell 1 (.string m.key)).setCell 2 (.int .i64 m.kind)).setCell 3 (.int .u64 m.num)).setCell 4 (.string m.text)).setCell 5 (.slice Km m.kids.length km)) rfl rfl Try.underlying54 rfl size54
      ⟨_, rfl, _, rfl, (hrm.out.keep fun b hb => hu.out.block b (by have := hVs.out; show b ≠ p + 1 + 1; omega)).mono fun b hb => ⟨by rw [hp.out]; have := hVs.out; omega, by rw [hu.out.size]; omega⟩, Below.trans kx.out (hu.out.below (by rw [hp.out]; show p ≤ p + 1 + 1; omega))⟩
set_option maxRecDepth 100000 in
set_option maxHeartbeats 2000000 in
theorem patchOne_replace (n : T) (e : E) (S : Nat → Prop) (w : World) (c ce : List Value) (hn : RT S w n c) (he : RE S w e ce) (hri : rightT n = true) (hsz : n.size + e.node.size ≤ 1048576) (hd : e.kind = 3) (hwy : e.way ≠ []) :
    Calls Try.prog 53 #[.agg c.toArray, .agg ce.toArray] w (Ret (ChgPost (oneT n e) w)) := by
  obtain ⟨d, way, x, y⟩ := e
  obtain ⟨A, ac, Kx, kx1, Ky, ky1, rfl, hw, hxr, hyr⟩ := he
  have kr := Hd.mk hn.all
  have krx := Hd.mk (RT.of_row hxr).all
  have kry := Hd.mk (RT.of_row hyr).all
  obtain ⟨Kn, kn, rfl, hrow⟩ := hn.row
  have hwl := hw.len
  have kw0 := Hd.mk hw
  have hw0 := hw
  have hriH := Hd.mk hri
  have hszH := Hd.mk hsz
  clear hn hrow hxr hyr hri hsz
  simp only [cT, List.cons_append, List.nil_append] at kr krx kry ⊢
  generalize hr0 : oneT n ⟨d, way, x, y⟩ = r
  replace hr0 := Hd.mk hr0
  obtain rfl : d = 3 := hd
  have hwy : way ≠ [] := hwy
  obtain ⟨init, s, rfl⟩ : ∃ init s, way = init ++ [s] := by
    rcases List.eq_nil_or_concat way with h | ⟨init, s, h⟩
    · exact absurd h hwy
    · exact ⟨init, s, by rw [h, List.concat_eq_append]⟩
  obtain ⟨b2, o2, rfl, _, _⟩ := WRow.at hw0 (j := init.length) (x := s) (by simp)
  have kw := Hd.mk kw0.out
  have hlenH := Hd.mk (show (init ++ [s]).length = init.length + 1 by simp)
  rw [hlenH.out] at hwl ⊢
  generalize hL : init.length = L at *
  replace hL := Hd.mk hL
  have hlen0 : ((L : Int) + 1 == 0) = false := by rw [beq_eq_false_iff_ne]; omega
  clear hwy kw0 hw hw0
  go_enter Try.func53, Try.ntmps53
  go_wp2_with ((with_reducible refine stop_at (.fieldAddr 68 (.tmp 3) 1) ?_))
  refine Stop.mk ?_
  have kx := Hd.mk (((Ext.alloc w (.cells #[.string n.name, .string n.key, .int .i64 n.kind, .int .u64 n.num, .string n.text, .slice Kn n.kids.length kn] 54)).trans (Ext.alloc _ (.cells #[.int .i64 3, .slice (some ⟨b2, o2, none⟩) (L + 1) ac, .string x.name, .string x.key, .int .i64 x.kind, .int .u64 x.num, .string x.text, .slice Kx x.kids.length kx1, .string y.name, .string y.key, .int .i64 y.kind, .int .u64 y.num, .string y.text, .slice Ky y.kids.length ky1] 68))).trans (Ext.alloc _ (.cells #[.string ⟨#[]⟩, .string ⟨#[]⟩, .int .i64 0, .int .u64 0, .string ⟨#[]⟩, .slice none 0 0] 54)))
  have kN := Hd.mk (((Blk.new w #[.string n.name, .string n.key, .int .i64 n.kind, .int .u64 n.num, .string n.text, .slice Kn n.kids.length kn] 54).alloc (.cells #[.int .i64 3, .slice (some ⟨b2, o2, none⟩) (L + 1) ac, .string x.name, .string x.key, .int .i64 x.kind, .int .u64 x.num, .string x.text, .slice Kx x.kids.length kx1, .string y.name, .string y.key, .int .i64 y.kind, .int .u64 y.num, .string y.text, .slice Ky y.kids.length ky1] 68)).alloc (.cells #[.string ⟨#[]⟩, .string ⟨#[]⟩, .int .i64 0, .int .u64 0, .string ⟨#[]⟩, .slice none 0 0] 54))
  have kE := Hd.mk ((Blk.new2 w (.cells #[.string n.name, .string n.key, .int .i64 n.kind, .int .u64 n.num, .string n.text, .slice Kn n.kids.length kn] 54) #[.int .i64 3, .slice (some ⟨b2, o2, none⟩) (L + 1) ac, .string x.name, .string x.key, .int .i64 x.kind, .int .u64 x.num, .string x.text, .slice Kx x.kids.length kx1, .string y.name, .string y.key, .int .i64 y.kind, .int .u64 y.num, .string y.text, .slice Ky y.kids.length ky1] 68).alloc (.cells #[.string ⟨#[]⟩, .string ⟨#[]⟩, .int .i64 0, .int .u64 0, .string ⟨#[]⟩, .slice none 0 0] 54))
  have kR := Hd.mk (Blk.new3 w (.cells #[.string n.name, .string n.key, .int .i64 n.kind, .int .u64 n.num, .string n.text, .slice Kn n.kids.length kn] 54) (.cells #[.int .i64 3, .slice (some ⟨b2, o2, none⟩) (L + 1) ac, .string x.name, .string x.key, .int .i64 x.kind, .int .u64 x.num, .string x.text, .slice Kx x.kids.length kx1, .string y.name, .string y.key, .int .i64 y.kind, .int .u64 y.num, .string y.text, .slice Ky y.kids.length ky1] 68) #[.string ⟨#[]⟩, .string ⟨#[]⟩, .int .i64 0, .int .u64 0, .string ⟨#[]⟩, .slice none 0 0] 54)
  generalize ((w.alloc _).alloc _).alloc _ = W at *
  generalize hp : w.heap.size = p at *
  replace hp := Hd.mk hp
  have gN := kN.out.cell
  have gE := kE.out.cell
  have gN2 := (kN.out.alloc (.cells #[.string n.name, .string n.key, .int .i64 n.kind, .int .u64 n.num, .string n.text, .slice Kn n.kids.length kn, .int .i64 3, .slice (some ⟨b2, o2, none⟩) (L + 1) ac, .string x.name, .string x.key, .int .i64 x.kind, .int .u64 x.num, .string x.text, .slice Kx x.kids.length kx1, .string y.name, .string y.key, .int .i64 y.kind, .int .u64 y.num, .string y.text, .slice Ky y.kids.length ky1, .string ⟨#[]⟩, .string ⟨#[]⟩, .int .i64 0, .int .u64 0, .string ⟨#[]⟩, .slice none 0 0, .bool false] 126)).cell
  have gE2 := (kE.out.alloc (.cells #[.string n.name, .string n.key, .int .i64 n.kind, .int .u64 n.num, .string n.text, .slice Kn n.kids.length kn, .int .i64 3, .slice (some ⟨b2, o2, none⟩) (L + 1) ac, .string x.name, .string x.key, .int .i64 x.kind, .int .u64 x.num, .string x.text, .slice Kx x.kids.length kx1, .string y.name, .string y.key, .int .i64 y.kind, .int .u64 y.num, .string y.text, .slice Ky y.kids.length ky1, .string ⟨#[]⟩, .string ⟨#[]⟩, .int .i64 0, .int .u64 0, .string ⟨#[]⟩, .slice none 0 0, .bool false] 126)).cell
  go_wp2_with fail
  have kG := Hd.mk (Blk.new W #[.string n.name, .string n.key, .int .i64 n.kind, .int .u64 n.num, .string n.text, .slice Kn n.kids.length kn, .int .i64 3, .slice (some ⟨b2, o2, none⟩) (L + 1) ac, .string x.name, .string x.key, .int .i64 x.kind, .int .u64 x.num, .string x.text, .slice Kx x.kids.length kx1, .string y.name, .string y.key, .int .i64 y.kind, .int .u64 y.num, .string y.text, .slice Ky y.kids.length ky1, .string ⟨#[]⟩, .string ⟨#[]⟩, .int .i64 0, .int .u64 0, .string ⟨#[]⟩, .slice none 0 0, .bool false] 126)
  have hxA := Ext.alloc W (.cells #[.string n.name, .string n.key, .int .i64 n.kind, .int .u64 n.num, .string n.text, .slice Kn n.kids.length kn, .int .i64 3, .slice (some ⟨b2, o2, none⟩) (L + 1) ac, .string x.name, .string x.key, .int .i64 x.kind, .int .u64 x.num, .string x.text, .slice Kx x.kids.length kx1, .string y.name, .string y.key, .int .i64 y.kind, .int .u64 y.num, .string y.text, .slice Ky y.kids.length ky1, .string ⟨#[]⟩, .string ⟨#[]⟩, .int .i64 0, .int .u64 0, .string ⟨#[]⟩, .slice none 0 0, .bool false] 126)
  have hgW := Hd.mk kR.out.lt
  replace kx := Hd.mk (kx.out.trans hxA)
  replace kN := Hd.mk (kN.out.ext hxA)
  replace kE := Hd.mk (kE.out.ext hxA)
  replace kR := Hd.mk (kR.out.ext hxA)
  generalize W.heap.size = g at *
  generalize W.alloc _ = V at *
  have hgV1 := Hd.mk kG.out.lt
  clear hxA gN gE gN2 gE2
  have hc := tree_get n (init ++ [s]) _ S V _ (some ⟨b2, o2, none⟩) ac (kr.out.ext kx.out) (kw.out.ext kx.out)
  rw [hlenH.out] at hc
  refine Calls.mono hc ?_
  clear hc
  rintro e wg ⟨_, rfl, hx, hh⟩
  replace kx := Hd.mk (kx.out.trans hx)
  replace kE := Hd.mk (kE.out.ext hx)
  replace kR := Hd.mk (kR.out.ext hx)
  replace kG := Hd.mk (kG.out.ext hx)
  have hgV := Hd.mk kG.out.lt
  clear hx kN
  rcases hh with ⟨hg, rfl⟩ | ⟨u, c9, hg, rfl, hru⟩
  · skip
    have gG := kG.out.cell
    have fG := kG.out.free
    have gE := kE.out.cell
    go_wp2_with ((with_reducible refine stop_at (.fieldAddr 68 (.tmp 3) 0) ?_))
    refine Stop.mk ?_
    have hu := (((((((Upd.setCell wg ⟨g, 20, none⟩ (.string ⟨#[]⟩)).trans (Upd.setCell _ ⟨g, 21, none⟩ (.string ⟨#[]⟩))).trans (Upd.setCell _ ⟨g, 22, none⟩ (.int .i64 0))).trans (Upd.setCell _ ⟨g, 23, none⟩ (.int .u64 0))).trans (Upd.setCell _ ⟨g, 24, none⟩ (.string ⟨#[]⟩))).trans (Upd.setCell _ ⟨g, 25, none⟩ (.slice none 0 0))).trans (Upd.setCell _ ⟨g, 26, none⟩ (.bool false)))
    have kGn : Blk (((((((wg.setCell ⟨g, 20, none⟩ (.string ⟨#[]⟩)).setCell ⟨g, 21, none⟩ (.string ⟨#[]⟩)).setCell ⟨g, 22, none⟩ (.int .i64 0)).setCell ⟨g, 23, none⟩ (.int .u64 0)).setCell ⟨g, 24, none⟩ (.string ⟨#[]⟩)).setCell ⟨g, 25, none⟩ (.slice none 0 0)).setCell ⟨g, 26, none⟩ (.bool false)) g [.string n.name, .string n.key, .int .i64 n.kind, .int .u64 n.num, .string n.text, .slice Kn n.kids.length kn, .int .i64 3, .slice (some ⟨b2, o2, none⟩) (L + 1) ac, .string x.name, .string x.key, .int .i64 x.kind, .int .u64 x.num, .string x.text, .slice Kx x.kids.length kx1, .string y.name, .string y.key, .int .i64 y.kind, .int .u64 y.num, .string y.text, .slice Ky y.kids.length ky1, .string ⟨#[]⟩, .string ⟨#[]⟩, .int .i64 0, .int .u64 0, .string ⟨#[]⟩, .slice none 0 0, .bool false] 126 := (((((((kG.out.setCell 20 (.string ⟨#[]⟩)).setCell 21 (.string ⟨#[]⟩)).setCell 22 (.int .i64 0)).setCell 23 (.int .u64 0)).setCell 24 (.string ⟨#[]⟩)).setCell 25 (.slice none 0 0)).setCell 26 (.bool false))
    generalize (((((((wg.setCell ⟨g, 20, none⟩ (.string ⟨#[]⟩)).setCell ⟨g, 21, none⟩ (.string ⟨#[]⟩)).setCell ⟨g, 22, none⟩ (.int .i64 0)).setCell ⟨g, 23, none⟩ (.int .u64 0)).setCell ⟨g, 24, none⟩ (.string ⟨#[]⟩)).setCell ⟨g, 25, none⟩ (.slice none 0 0)).setCell ⟨g, 26, none⟩ (.bool false)) = w5 at *
    replace kG := Hd.mk kGn
    clear kGn
    replace kx := Hd.mk (show Ext w w5 from Below.trans kx.out (hu.below (by rw [hp.out]; have := hgW.out; show p ≤ g; omega)))
    replace kE := Hd.mk (hu.blk (by have := hgW.out; show p + 1 ≠ g; omega) kE.out)
    replace kR := Hd.mk (hu.blk (by have := hgW.out; show p + 1 + 1 ≠ g; omega) kR.out)
    clear hu gG fG gE
    have gE := kE.out.cell
    have hst := work_replace n x y zeroT Kn Kx Ky none kn kx1 ky1 0 3 b2 o2 L ac false init s (fun _ => True) S w5 g hL.out kG.out (kr.out.ext kx.out) (krx.out.ext kx.out) (kry.out.ext kx.out) (rt_zero _ _) (kw.out.ext kx.out) hriH.out hszH.out
    have hr1 := hr0.out
    rw [one3, hg] at hr1
    simp only [↓reduceIte] at hr1 hst
    rw [hr1] at hst
    replace hst := Hd.mk hst
    obtain ⟨m, rc⟩ := r
    clear hr1
    go_wp2_with fail
    clear gE
    refine Calls.mono hst.out ?_
    rintro e w9 ⟨_, rfl, cm, rfl, hrm, hx⟩
    obtain ⟨Km, km, _, _, rfl, _⟩ := hrm.row
    have hrm := Hd.mk hrm
    simp only [cT] at hrm ⊢
    have hVs := Hd.mk kR.out.lt
    replace kx := Hd.mk (kx.out.trans hx)
    replace kR := Hd.mk (kR.out.ext hx)
    clear hx
    have gR := kR.out.cell
    have fR := kR.out.free
    go_wp2_with fail
    have hu := Hd.mk ((((((Upd.setCell w9 ⟨p + 1 + 1, 0, none⟩ (.string m.name)).trans (Upd.setCell _ ⟨p + 1 + 1, 1, none⟩ (.string m.key))).trans (Upd.setCell _ ⟨p + 1 + 1, 2, none⟩ (.int .i64 m.kind))).trans (Upd.setCell _ ⟨p + 1 + 1, 3, none⟩ (.int .u64 m.num))).trans (Upd.setCell _ ⟨p + 1 + 1, 4, none⟩ (.string m.text))).trans (Upd.setCell _ ⟨p + 1 + 1, 5, none⟩ (.slice Km m.kids.length km)))
    exact ret_box2 rfl (p + 1 + 1) _ 54 _ ((((((kR.out.setCell 0 (.string m.name)).setCell 1 (.string m.key)).setCell 2 (.int .i64 m.kind)).setCell 3 (.int .u64 m.num)).setCell 4 (.string m.text)).setCell 5 (.slice Km m.kids.length km)) rfl rfl Try.underlying54 rfl size54
      ⟨_, rfl, _, rfl, (hrm.out.keep fun b hb => hu.out.block b (by have := hVs.out; show b ≠ p + 1 + 1; omega)).mono fun b hb => ⟨by rw [hp.out]; have := hVs.out; omega, by rw [hu.out.size]; omega⟩, Below.trans kx.out (hu.out.below (by rw [hp.out]; show p ≤ p + 1 + 1; omega))⟩
  · skip
    obtain ⟨Ku, ku, _, _, rfl, _⟩ := hru.row
    simp only [cT] at hru ⊢
    have hgV0 := Hd.mk (show g < V.heap.size from hgV1.out)
    have gG := kG.out.cell
    have fG := kG.out.free
    have gE := kE.out.cell
    go_wp2_with ((with_reducible refine stop_at (.fieldAddr 68 (.tmp 3) 0) ?_))
    refine Stop.mk ?_
    have hu := (((((((Upd.setCell wg ⟨g, 20, none⟩ (.string u.name)).trans (Upd.setCell _ ⟨g, 21, none⟩ (.string u.key))).trans (Upd.setCell _ ⟨g, 22, none⟩ (.int .i64 u.kind))).trans (Upd.setCell _ ⟨g, 23, none⟩ (.int .u64 u.num))).trans (Upd.setCell _ ⟨g, 24, none⟩ (.string u.text))).trans (Upd.setCell _ ⟨g, 25, none⟩ (.slice Ku u.kids.length ku))).trans (Upd.setCell _ ⟨g, 26, none⟩ (.bool true)))
    have kGn : Blk (((((((wg.setCell ⟨g, 20, none⟩ (.string u.name)).setCell ⟨g, 21, none⟩ (.string u.key)).setCell ⟨g, 22, none⟩ (.int .i64 u.kind)).setCell ⟨g, 23, none⟩ (.int .u64 u.num)).setCell ⟨g, 24, none⟩ (.string u.text)).setCell ⟨g, 25, none⟩ (.slice Ku u.kids.length ku)).setCell ⟨g, 26, none⟩ (.bool true)) g [.string n.name, .string n.key, .int .i64 n.kind, .int .u64 n.num, .string n.text, .slice Kn n.kids.length kn, .int .i64 3, .slice (some ⟨b2, o2, none⟩) (L + 1) ac, .string x.name, .string x.key, .int .i64 x.kind, .int .u64 x.num, .string x.text, .slice Kx x.kids.length kx1, .string y.name, .string y.key, .int .i64 y.kind, .int .u64 y.num, .string y.text, .slice Ky y.kids.length ky1, .string u.name, .string u.key, .int .i64 u.kind, .int .u64 u.num, .string u.text, .slice Ku u.kids.length ku, .bool true] 126 := (((((((kG.out.setCell 20 (.string u.name)).setCell 21 (.string u.key)).setCell 22 (.int .i64 u.kind)).setCell 23 (.int .u64 u.num)).setCell 24 (.string u.text)).setCell 25 (.slice Ku u.kids.length ku)).setCell 26 (.bool true))
    generalize (((((((wg.setCell ⟨g, 20, none⟩ (.string u.name)).setCell ⟨g, 21, none⟩ (.string u.key)).setCell ⟨g, 22, none⟩ (.int .i64 u.kind)).setCell ⟨g, 23, none⟩ (.int .u64 u.num)).setCell ⟨g, 24, none⟩ (.string u.text)).setCell ⟨g, 25, none⟩ (.slice Ku u.kids.length ku)).setCell ⟨g, 26, none⟩ (.bool true)) = w5 at *
    replace kG := Hd.mk kGn
    clear kGn
    replace kx := Hd.mk (show Ext w w5 from Below.trans kx.out (hu.below (by rw [hp.out]; have := hgW.out; show p ≤ g; omega)))
    replace kE := Hd.mk (hu.blk (by have := hgW.out; show p + 1 ≠ g; omega) kE.out)
    replace kR := Hd.mk (hu.blk (by have := hgW.out; show p + 1 + 1 ≠ g; omega) kR.out)
    have hru5 := Hd.mk ((hru.keep fun b hb => hu.block b (by have := hgW.out; have := hgV0.out; show b ≠ g; omega)).rt.all)
    clear hu gG fG gE
    have gE := kE.out.cell
    have hst := work_replace n x y u Kn Kx Ky Ku kn kx1 ky1 ku 3 b2 o2 L ac true init s (fun _ => True) S w5 g hL.out kG.out (kr.out.ext kx.out) (krx.out.ext kx.out) (kry.out.ext kx.out) hru5.out (kw.out.ext kx.out) hriH.out hszH.out
    have hr1 := hr0.out
    rw [one3, hg] at hr1
    simp only [Bool.true_eq_false, ↓reduceIte] at hr1 hst
    rw [hr1] at hst
    replace hst := Hd.mk hst
    obtain ⟨m, rc⟩ := r
    clear hr1
    go_wp2_with fail
    clear gE
    refine Calls.mono hst.out ?_
    rintro e w9 ⟨_, rfl, cm, rfl, hrm, hx⟩
    obtain ⟨Km, km, _, _, rfl, _⟩ := hrm.row
    have hrm := Hd.mk hrm
    simp only [cT] at hrm ⊢
    have hVs := Hd.mk kR.out.lt
    replace kx := Hd.mk (kx.out.trans hx)
    replace kR := Hd.mk (kR.out.ext hx)
    clear hx
    have gR := kR.out.cell
    have fR := kR.out.free
    go_wp2_with fail
    have hu := Hd.mk ((((((Upd.setCell w9 ⟨p + 1 + 1, 0, none⟩ (.string m.name)).trans (Upd.setCell _ ⟨p + 1 + 1, 1, none⟩ (.string m.key))).trans (Upd.setCell _ ⟨p + 1 + 1, 2, none⟩ (.int .i64 m.kind))).trans (Upd.setCell _ ⟨p + 1 + 1, 3, none⟩ (.int .u64 m.num))).trans (Upd.setCell _ ⟨p + 1 + 1, 4, none⟩ (.string m.text))).trans (Upd.setCell _ ⟨p + 1 + 1, 5, none⟩ (.slice Km m.kids.length km)))
    exact ret_box2 rfl (p + 1 + 1) _ 54 _ ((((((kR.out.setCell 0 (.string m.name)).setCell 1 (.string m.key)).setCell 2 (.int .i64 m.kind)).setCell 3 (.int .u64 m.num)).setCell 4 (.string m.text)).setCell 5 (.slice Km m.kids.length km)) rfl rfl Try.underlying54 rfl size54
      ⟨_, rfl, _, rfl, (hrm.out.keep fun b hb => hu.out.block b (by have := hVs.out; show b ≠ p + 1 + 1; omega)).mono fun b hb => ⟨by rw [hp.out]; have := hVs.out; omega, by rw [hu.out.size]; omega⟩, Below.trans kx.out (hu.out.below (by rw [hp.out]; show p ≤ p + 1 + 1; omega))⟩
theorem patchOne (n : T) (e : E) (S : Nat → Prop) (w : World) (c ce : List Value) (hn : RT S w n c) (he : RE S w e ce) (hri : rightT n = true) (hsz : n.size + e.node.size ≤ 1048576) :
    Calls Try.prog 53 #[.agg c.toArray, .agg ce.toArray] w (Ret (ChgPost (oneT n e) w)) := by
  by_cases hw : e.way = []
  · exact patchOne_nil n e S w c ce hn he hri hsz hw
  · by_cases h1 : e.kind = 1
    · exact patchOne_create n e S w c ce hn he hri hsz h1 hw
    · by_cases h2 : e.kind = 2
      · exact patchOne_delete n e S w c ce hn he hri hsz h2 hw
      · by_cases h3 : e.kind = 3
        · exact patchOne_replace n e S w c ce hn he hri hsz h3 hw
        · exact patchOne_other n e S w c ce hn he hri hsz ⟨h1, h2, h3⟩ hw
end Go.Proofs.Ytgkgedjmnbjalaa
set_option linter.unusedSimpArgs false
namespace Go.Proofs.Ytgkgedjmnbjalaa
open Go.RowKit Go.Sort
theorem rep_size {l : List T} {s : Step} {k : T} (x : T) (hk : kid l s = some k) : sizeL (repL l s x) + k.size = sizeL l + x.size := by
  obtain ⟨pre, suf, rfl, h1, h2⟩ := kid_some hk
  rw [rep_at h2 h1, sizeL_append, sizeL_append, sizeL_cons, sizeL_cons]
  omega
theorem ins_size (x : T) : ∀ l : List T, sizeL (insL l x) = sizeL l + x.size
  | [] => by simp [insL, sizeL_cons, sizeL]
  | y :: l => by
    rw [insL]
    split
    · rw [sizeL_cons, sizeL_cons, ins_size x l]; omega
    · rw [sizeL_cons, sizeL_cons]; omega
theorem cutL_size (s : Step) : ∀ l : List T, sizeL (cutL l s) ≤ sizeL l
  | [] => by simp [cutL]
  | y :: l => by
    rw [cutL]
    split
    · rw [sizeL_cons]; omega
    · rw [sizeL_cons, sizeL_cons]; have := cutL_size s l; omega
theorem setL_size (l : List T) (x : T) : sizeL (setL l x) ≤ sizeL l + x.size := by
  unfold setL
  split
  · rename_i h
    obtain ⟨k, hk⟩ := Option.isSome_iff_exists.1 h
    have := rep_size x hk
    omega
  · rw [ins_size]; omega
theorem setR_size : ∀ (way : List Step) (n x m : T), setR n way x = (m, 0) → m.size ≤ n.size + x.size
  | [], n, x, m, h => by simp [setR] at h
  | [s], n, x, m, h => by
    rw [setR_one] at h
    split at h
    · split at h
      · simp at h
      · simp at h
        subst h
        rw [wk_size, n.size_eq]
        have := setL_size n.kids x
        omega
    · simp at h
  | s :: q :: r, n, x, m, h => by
    rw [setR_cons] at h
    split at h
    · cases hk : kid n.kids s with
      | none => rw [hk] at h; simp at h
      | some k =>
        rw [hk] at h
        simp only at h
        by_cases hz : (setR k (q :: r) x).2 = 0
        · rw [if_pos hz] at h
          simp at h
          subst h
          have h1 : (setR k (q :: r) x).fst.size ≤ k.size + x.size := setR_size (q :: r) k x _ (Prod.ext rfl hz)
          have h2 := rep_size (setR k (q :: r) x).1 hk
          rw [wk_size, n.size_eq]
          omega
        · rw [if_neg hz] at h; rw [h] at hz; exact absurd rfl hz
    · simp at h
theorem cutR_size : ∀ (way : List Step) (n m : T), cutR n way = (m, 0) → m.size ≤ n.size
  | [], n, m, h => by simp [cutR] at h
  | [s], n, m, h => by
    rw [cutR_one] at h
    cases hk : kid n.kids s with
    | none => rw [hk] at h; simp at h
    | some k =>
      rw [hk] at h
      simp at h
      subst h
      rw [wk_size, n.size_eq]
      have := cutL_size s n.kids
      omega
  | s :: q :: r, n, m, h => by
    rw [cutR_cons] at h
    cases hk : kid n.kids s with
    | none => rw [hk] at h; simp at h
    | some k =>
      rw [hk] at h
      simp only at h
      by_cases hz : (cutR k (q :: r)).2 = 0
      · rw [if_pos hz] at h
        simp at h
        subst h
        have h1 : (cutR k (q :: r)).fst.size ≤ k.size := cutR_size (q :: r) k _ (Prod.ext rfl hz)
        have h2 := rep_size (cutR k (q :: r)).1 hk
        rw [wk_size, n.size_eq]
        omega
      · rw [if_neg hz] at h; rw [h] at hz; exact absurd rfl hz
theorem oneT_size {n m : T} {e : E} (h : oneT n e = (m, 0)) : m.size ≤ n.size + e.node.size := by
  unfold oneT at h
  split at h
  · simp at h
  · split at h
    · split at h
      · simp at h
      · exact setR_size _ _ _ _ h
    · split at h
      · simp at h
      · split at h
        · simp at h
        · split at h
          · have := cutR_size _ _ _ h; omega
          · split at h
            · simp at h
            · exact setR_size _ _ _ _ h
def sizeE (l : List E) : Nat := (l.map fun e => e.node.size).sum
theorem sizeE_cons (e : E) (l : List E) : sizeE (e :: l) = e.node.size + sizeE l := by simp [sizeE]
theorem sizeE_drop {l : List E} {j : Nat} {e : E} (h : l[j]? = some e) : sizeE (l.drop j) = e.node.size + sizeE (l.drop (j + 1)) := by
  obtain ⟨hj, rfl⟩ := List.getElem?_eq_some_iff.1 h
  rw [List.drop_eq_getElem_cons hj, sizeE_cons]
theorem sizeE_le {B : Nat} : ∀ {l : List E}, (∀ e ∈ l, e.node.size ≤ B) → sizeE l ≤ l.length * B
  | [], _ => by simp [sizeE]
  | e :: l, h => by
    rw [sizeE_cons, List.length_cons, Nat.add_mul]
    have h1 := h e (by simp)
    have h2 := sizeE_le (l := l) (fun x hx => h x (by simp [hx]))
    omega
theorem applyT_drop {n : T} {l : List E} {j : Nat} {e : E} (h : l[j]? = some e) : applyT n (l.drop j) j = if (oneT n e).2 = 0 then applyT (oneT n e).1 (l.drop (j + 1)) (j + 1) else (zeroT, (oneT n e).2, j) := by
  obtain ⟨hj, rfl⟩ := List.getElem?_eq_some_iff.1 h
  rw [List.drop_eq_getElem_cons hj, applyT]
end Go.Proofs.Ytgkgedjmnbjalaa
set_option linter.unusedSimpArgs false
namespace Go.Proofs.Ytgkgedjmnbjalaa
open Go.RowKit Go.Sort
theorem ret_box3 {P : Program} {fn : Func} {R : Ending → World → Prop} {a : Act} {w : World} {p u u2 : Tmp} {ty : TypeId} (h : fn.results = #[.cell p ty, .tmp u, .tmp u2]) (g : Nat) (cs : List Value) (t : TypeId) (d : TypeDesc)
    (hg : Blk w g cs t) (hp : a.tmps.getD p undef = .pointer (some ⟨g, 0, none⟩)) (hd' : a.defers = [])
    (hu : P.underlying ty = some d) (hd : (match d with | .struct _ | .array _ _ => true | _ => false) = true) (hi : (P.info? ty).map (·.size) = some cs.length)
    (hR : R (.returned (.tuple #[.agg cs.toArray, a.tmps.getD u undef, a.tmps.getD u2 undef])) w) : bodyPost P fn R .ret a w := by
  refine ⟨hd', _, ?_, hR⟩
  simp only [results, h]
  simp [Sem.run_bind, Result.andThen] at hp ⊢
  simp [hp, asAddr, run_load_box hg hu hd hi]
def ApPost (r : T × Int × Nat) (w w' : World) (v : Value) : Prop := ∃ c : List Value, v = .tuple #[.agg c.toArray, .int .i64 r.2.1, .int .i64 (r.2.2 : Nat)] ∧ RT (fun b => w.heap.size ≤ b) w' r.1 c ∧ Ext w w'
set_option maxRecDepth 100000 in
set_option maxHeartbeats 4000000 in
theorem patch_apply (n : T) (es : List E) (S S' : Nat → Prop) (w : World) (c : List Value) (A : Option Addr) (ac : Nat) (h : RT S w n c) (he : ERow S' w A es ac) (hri : rightT n = true) (hre : ∀ e ∈ es, e.kind ≠ 2 → rightT e.node = true) (hsz : n.size + sizeE es ≤ 1048576) :
    Calls Try.prog 55 #[.agg c.toArray, .slice A es.length ac] w (Ret (ApPost (applyT n es 0) w)) := by
  obtain ⟨Kn, kn, rfl, _⟩ := h.row
  have kr := Hd.mk h
  have ke := Hd.mk he
  have hl1 := he.len
  replace hri := Hd.mk hri
  replace hre := Hd.mk hre
  replace hsz := Hd.mk hsz
  generalize hr0 : applyT n es 0 = r
  replace hr0 := Hd.mk hr0
  clear h he
  simp only [cT] at kr ⊢
  go_enter Try.func55, Try.ntmps55
  go_wp2_with fail
  have kx := Hd.mk ((Ext.alloc w (.cells #[.string n.name, .string n.key, .int .i64 n.kind, .int .u64 n.num, .string n.text, .slice Kn n.kids.length kn] 54)).trans (Ext.alloc _ (.cells #[.string ⟨#[]⟩, .string ⟨#[]⟩, .int .i64 0, .int .u64 0, .string ⟨#[]⟩, .slice none 0 0] 54)))
  have kR := Hd.mk (Blk.new2 w (.cells #[.string n.name, .string n.key, .int .i64 n.kind, .int .u64 n.num, .string n.text, .slice Kn n.kids.length kn] 54) #[.string ⟨#[]⟩, .string ⟨#[]⟩, .int .i64 0, .int .u64 0, .string ⟨#[]⟩, .slice none 0 0] 54)
  generalize (w.alloc _).alloc _ = W at *
  generalize hp : w.heap.size = p at *
  replace hp := Hd.mk hp
  refine Calls.mono (get_nil n S W _ (kr.out.ext kx.out)) ?_
  rintro e0 w1 ⟨_, rfl, cm, rfl, hrm, hx⟩
  obtain ⟨Km, km, rfl, _⟩ := hrm.row
  simp only [cT] at hrm ⊢
  have hW := Hd.mk kR.out.lt
  replace kx := Hd.mk (kx.out.trans hx)
  replace kR := Hd.mk (kR.out.ext hx)
  replace hrm := hrm.mono (S' := fun b => p + 1 < b ∧ b < w1.heap.size) (fun b hb hb2 => ⟨by have := hW.out; omega, hb⟩)
  clear hx kr
  go_wp2_with fail
  have hg1 := Hd.mk kR.out.lt
  have kC := Hd.mk (Blk.new w1 #[.string n.name, .string n.key, .int .i64 n.kind, .int .u64 n.num, .string n.text, .slice Km n.kids.length km] 54)
  have hxA := Ext.alloc w1 (.cells #[.string n.name, .string n.key, .int .i64 n.kind, .int .u64 n.num, .string n.text, .slice Km n.kids.length km] 54)
  replace kx := Hd.mk (kx.out.trans hxA)
  replace kR := Hd.mk (kR.out.ext hxA)
  have hm0 := Hd.mk ((hrm.ext hxA).mono (S' := fun b => p + 1 < b ∧ b ≠ w1.heap.size) (fun b _ hb => ⟨hb.1, by have := hb.2; omega⟩))
  clear hxA hrm
  generalize w1.heap.size = g at *
  generalize w1.alloc _ = w2 at *
  go_loopg [20] (es.length + 1) (fun q i wr => ∃ j : Nat, j ≤ es.length ∧ Hd (q = es.length + 1 - j) ∧ i = .int .i64 j ∧ ∃ (m : T) (Km : Option Addr) (km : Nat), Hd (applyT m (es.drop j) j = r) ∧ Hd (rightT m = true) ∧ Hd (m.size + sizeE (es.drop j) ≤ 1048576) ∧ Hd (Blk wr g [.string m.name, .string m.key, .int .i64 m.kind, .int .u64 m.num, .string m.text, .slice Km m.kids.length km] 54) ∧ Hd (Blk wr (p + 1) [.string ⟨#[]⟩, .string ⟨#[]⟩, .int .i64 0, .int .u64 0, .string ⟨#[]⟩, .slice none 0 0] 54) ∧ Hd (RT (fun b => p + 1 < b ∧ b ≠ g) wr m [.string m.name, .string m.key, .int .i64 m.kind, .int .u64 m.num, .string m.text, .slice Km m.kids.length km]) ∧ Hd (Ext w wr))
  case atStart => exact ⟨0, by omega, ⟨by omega⟩, rfl, n, Km, km, hr0, hri, hsz, kC, kR, hm0, kx⟩
  case round =>
  clear kC kR hm0 kx hr0 hri hsz
  obtain ⟨j, hj, hq, rfl, m, Km, km, hr0, hri, hsz, kC, kR, kM, kx⟩ := hrel
  by_cases hlt : j < es.length
  · have hx1 := List.getElem?_eq_getElem hlt
    have hmem := Hd.mk (List.getElem_mem hlt)
    generalize es[j] = e at hx1 hmem
    obtain ⟨b1, o1, ck, rfl, _, hrk, hck⟩ := ke.out.edit j e hx1
    have hs1 := Hd.mk (sizeE_drop hx1)
    have hap := Hd.mk (applyT_drop (n := m) hx1)
    have hrE := Hd.mk hrk
    obtain ⟨A1, a1, K3, k3, L3, l3, rfl, _⟩ := hrk
    simp only [cT, List.cons_append, List.nil_append] at hck hrE
    obtain ⟨e0, e1, e2, e3, e4, e5, e6, e7, e8, e9, e10, e11, e12, e13⟩ := c14C kx.out hck
    have gC := kC.out.cell
    have gC2 := (kC.out.alloc (.cells #[.int .i64 e.kind, .slice A1 e.way.length a1, .string e.node.name, .string e.node.key, .int .i64 e.node.kind, .int .u64 e.node.num, .string e.node.text, .slice K3 e.node.kids.length k3, .string e.old.name, .string e.old.key, .int .i64 e.old.kind, .int .u64 e.old.num, .string e.old.text, .slice L3 e.old.kids.length l3] 68)).cell
    have gE2 := (Blk.new wr #[.int .i64 e.kind, .slice A1 e.way.length a1, .string e.node.name, .string e.node.key, .int .i64 e.node.kind, .int .u64 e.node.num, .string e.node.text, .slice K3 e.node.kids.length k3, .string e.old.name, .string e.old.key, .int .i64 e.old.kind, .int .u64 e.old.num, .string e.old.text, .slice L3 e.old.kids.length l3] 68).cell
    clear hck hx1
    go_wp2_with fail
    have hxb := Hd.mk (Ext.alloc wr (.cells #[.int .i64 e.kind, .slice A1 e.way.length a1, .string e.node.name, .string e.node.key, .int .i64 e.node.kind, .int .u64 e.node.num, .string e.node.text, .slice K3 e.node.kids.length k3, .string e.old.name, .string e.old.key, .int .i64 e.old.kind, .int .u64 e.old.num, .string e.old.text, .slice L3 e.old.kids.length l3] 68))
    clear e0 e1 e2 e3 e4 e5 e6 e7 e8 e9 e10 e11 e12 e13 gC gC2 gE2
    replace kx := Hd.mk (kx.out.trans hxb.out)
    replace kC := Hd.mk (kC.out.ext hxb.out)
    replace kR := Hd.mk (kR.out.ext hxb.out)
    replace kM := Hd.mk (kM.out.ext hxb.out)
    clear hxb
    generalize wr.heap.size = pB at *
    generalize wr.alloc _ = W5 at *
    refine Calls.mono (patchOne m e (fun _ => True) W5 _ _ (kM.out.mono fun _ _ _ => trivial) ((hrE.out.ext kx.out).mono fun _ _ _ => trivial) hri.out (by have := hsz.out; have := hs1.out; omega)) ?_
    rintro e9 w6 ⟨_, rfl, cm, rfl, hrm, hx⟩
    obtain ⟨Ku, ku, _, _, rfl, _⟩ := hrm.row
    have hrm := Hd.mk hrm
    simp only [cT] at hrm ⊢
    have hgl := Hd.mk kC.out.lt
    have hgR := Hd.mk kR.out.lt
    replace kx := Hd.mk (kx.out.trans hx)
    replace kC := Hd.mk (kC.out.ext hx)
    replace kR := Hd.mk (kR.out.ext hx)
    have hrig := Hd.mk (fun m' => oneT_right (n := m) (e := e) (m := m') hri.out (hre.out e hmem.out))
    have hsq := Hd.mk (fun m' => oneT_size (n := m) (e := e) (m := m'))
    clear hx kM
    generalize hon : oneT m e = on at *
    obtain ⟨m2, rc⟩ := on
    replace hon := Hd.mk hon
    have hr1 := hr0.out
    rw [hap.out] at hr1
    by_cases hz : rc = 0
    · subst hz
      rw [if_pos rfl] at hr1
      replace hr1 := Hd.mk hr1
      have gU := (Blk.new w6 #[.string m2.name, .string m2.key, .int .i64 m2.kind, .int .u64 m2.num, .string m2.text, .slice Ku m2.kids.length ku] 54).cell
      have gC := (kC.out.alloc (.cells #[.string m2.name, .string m2.key, .int .i64 m2.kind, .int .u64 m2.num, .string m2.text, .slice Ku m2.kids.length ku] 54)).cell
      have fC := (kC.out.alloc (.cells #[.string m2.name, .string m2.key, .int .i64 m2.kind, .int .u64 m2.num, .string m2.text, .slice Ku m2.kids.length ku] 54)).free
      go_wp2_with fail
      have hxb := Hd.mk (Ext.alloc w6 (.cells #[.string m2.name, .string m2.key, .int .i64 m2.kind, .int .u64 m2.num, .string m2.text, .slice Ku m2.kids.length ku] 54))
      clear gU gC fC
      replace kx := Hd.mk (kx.out.trans hxb.out)
      replace kC := Hd.mk (kC.out.ext hxb.out)
      replace kR := Hd.mk (kR.out.ext hxb.out)
      replace hrm := Hd.mk (hrm.out.keep fun b hb => hxb.out.block b hb.2)
      have hjs := Hd.mk (show m2.size + sizeE (es.drop (j + 1)) ≤ 1048576 by have h1 := hsz.out; have h2 := hs1.out; have h3 := hsq.out m2 rfl; omega)
      have hm2 := Hd.mk (hrig.out m2 rfl).1
      clear hxb hs1 hsq hrig hap hon hr0 hsz
      generalize w6.heap.size = pD at *
      generalize w6.alloc _ = W7 at *
      have hu := Hd.mk ((((((Upd.setCell W7 ⟨g, 0, none⟩ (.string m2.name)).trans (Upd.setCell _ ⟨g, 1, none⟩ (.string m2.key))).trans (Upd.setCell _ ⟨g, 2, none⟩ (.int .i64 m2.kind))).trans (Upd.setCell _ ⟨g, 3, none⟩ (.int .u64 m2.num))).trans (Upd.setCell _ ⟨g, 4, none⟩ (.string m2.text))).trans (Upd.setCell _ ⟨g, 5, none⟩ (.slice Ku m2.kids.length ku)))
      have kCn := Hd.mk (show Blk _ g [.string m2.name, .string m2.key, .int .i64 m2.kind, .int .u64 m2.num, .string m2.text, .slice Ku m2.kids.length ku] 54 from ((((((kC.out.setCell 0 (.string m2.name)).setCell 1 (.string m2.key)).setCell 2 (.int .i64 m2.kind)).setCell 3 (.int .u64 m2.num)).setCell 4 (.string m2.text)).setCell 5 (.slice Ku m2.kids.length ku)))
      go_roundg (es.length + 1 - (j + 1))
      case measure => have := hq.out; omega
      case rel => exact ⟨j + 1, by omega, ⟨rfl⟩, by go_num, m2, Ku, ku, hr1, hm2, hjs, kCn, ⟨hu.out.blk (by have := hg1.out; show p + 1 ≠ g; omega) kR.out⟩,
        ⟨((hrm.out.keep fun b hb => hu.out.block b (by have := hgl.out; show b ≠ g; have := hb.1; omega)).rt.mono fun b _ hb => ⟨by have := hgR.out; have := hb.1; omega, by have := hgl.out; have := hb.1; omega⟩)⟩, ⟨Below.trans kx.out (hu.out.below (by rw [hp.out]; have := hg1.out; show p ≤ g; omega))⟩⟩
    · rw [if_neg (show ¬ ((m2, rc) : T × Int).2 = 0 from hz)] at hr1
      have hz1 : (rc == 0) = false := by simpa using hz
      have hz2 : (rc != 0) = true := by simpa using hz
      have gR := (kR.out.alloc (.cells #[.string m2.name, .string m2.key, .int .i64 m2.kind, .int .u64 m2.num, .string m2.text, .slice Ku m2.kids.length ku] 54)).cell
      have fR := (kR.out.alloc (.cells #[.string m2.name, .string m2.key, .int .i64 m2.kind, .int .u64 m2.num, .string m2.text, .slice Ku m2.kids.length ku] 54)).free
      obtain rfl : r = (zeroT, rc, j) := hr1.symm
      clear hr0 hap hon
      go_wp2_with fail
      have hxb := Hd.mk (Ext.alloc w6 (.cells #[.string m2.name, .string m2.key, .int .i64 m2.kind, .int .u64 m2.num, .string m2.text, .slice Ku m2.kids.length ku] 54))
      replace kx := Hd.mk (kx.out.trans hxb.out)
      replace kR := Hd.mk (kR.out.ext hxb.out)
      generalize w6.alloc _ = W7 at *
      have hu := Hd.mk ((((((Upd.setCell W7 ⟨p + 1, 0, none⟩ (.string ⟨#[]⟩)).trans (Upd.setCell _ ⟨p + 1, 1, none⟩ (.string ⟨#[]⟩))).trans (Upd.setCell _ ⟨p + 1, 2, none⟩ (.int .i64 0))).trans (Upd.setCell _ ⟨p + 1, 3, none⟩ (.int .u64 0))).trans (Upd.setCell _ ⟨p + 1, 4, none⟩ (.string ⟨#[]⟩))).trans (Upd.setCell _ ⟨p + 1, 5, none⟩ (.slice none 0 0)))
      exact ret_box3 rfl (p + 1) _ 54 _ ((((((kR.out.setCell 0 (.string ⟨#[]⟩)).setCell 1 (.string ⟨#[]⟩)).setCell 2 (.int .i64 0)).setCell 3 (.int .u64 0)).setCell 4 (.string ⟨#[]⟩)).setCell 5 (.slice none 0 0)) rfl rfl Try.underlying54 rfl size54
        ⟨_, rfl, _, rfl, rt_zero _ _, Below.trans kx.out (hu.out.below (by rw [hp.out]; show p ≤ p + 1; omega))⟩
  · have hjl : j = es.length := by omega
    have hr1 := hr0.out
    rw [hjl, List.drop_length, applyT] at hr1
    obtain rfl : r = (m, 0, 0) := hr1.symm
    clear hr0
    have gC := kC.out.cell
    have gR := kR.out.cell
    have fR := kR.out.free
    go_wp2_with fail
    have hu := Hd.mk ((((((Upd.setCell wr ⟨p + 1, 0, none⟩ (.string m.name)).trans (Upd.setCell _ ⟨p + 1, 1, none⟩ (.string m.key))).trans (Upd.setCell _ ⟨p + 1, 2, none⟩ (.int .i64 m.kind))).trans (Upd.setCell _ ⟨p + 1, 3, none⟩ (.int .u64 m.num))).trans (Upd.setCell _ ⟨p + 1, 4, none⟩ (.string m.text))).trans (Upd.setCell _ ⟨p + 1, 5, none⟩ (.slice Km m.kids.length km)))
    exact ret_box3 rfl (p + 1) _ 54 _ ((((((kR.out.setCell 0 (.string m.name)).setCell 1 (.string m.key)).setCell 2 (.int .i64 m.kind)).setCell 3 (.int .u64 m.num)).setCell 4 (.string m.text)).setCell 5 (.slice Km m.kids.length km)) rfl rfl Try.underlying54 rfl size54
      ⟨_, rfl, _, rfl, (kM.out.upd hu.out (fun h => Nat.lt_irrefl _ h.1)).mono (fun b _ hb => by rw [hp.out]; have := hb.1; omega), Below.trans kx.out (hu.out.below (by rw [hp.out]; show p ≤ p + 1; omega))⟩
end Go.Proofs.Ytgkgedjmnbjalaa
