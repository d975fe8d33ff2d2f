/- Texts that the law needs, joined.
   Conditions: none. -/
import Derived.Test.YtgkgedjmnbjalaaPtI
set_option linter.unusedSimpArgs false
set_option linter.unusedVariables false
set_option linter.unusedVariables false
namespace Go.Proofs.Ytgkgedjmnbjalaa
open Go.RowKit Go.Sort
set_option maxRecDepth 100000 in
set_option maxHeartbeats 1000000 in
theorem ref_has (n : T) (K1 : Option Addr) (c1 : Nat) (init : List Step) (s : Step) (S' : Nat → Prop) (w : World) (A : Option Addr) (ac : Nat) (hw : WRow S' w A (init ++ [s]) ac) :
    Calls Try.prog 112 #[.agg #[.string n.name, .string n.key, .int .i64 n.kind, .int .u64 n.num, .string n.text, .slice K1 n.kids.length c1], .slice A (init ++ [s]).length ac] w fun e w' => e = .returned (.bool (decide (stepT n = s))) ∧ Ext w w' := by
  have hwl := hw.len
  have hlen : (init ++ [s]).length = init.length + 1 := by simp
  obtain ⟨b2, o2, rfl, _, hdk⟩ := WRow.at hw (j := init.length) (x := s) (by simp)
  rw [hlen] at hwl ⊢
  clear hw hlen
  obtain ⟨s1, s2⟩ := s
  generalize init.length = L at *
  generalize hr : decide (stepT n = (s1, s2)) = r
  replace hr := Hd.mk hr
  obtain ⟨d0, d1⟩ := twoC (Ext.alloc w (.cells #[.string n.name, .string n.key, .int .i64 n.kind, .int .u64 n.num, .string n.text, .slice K1 n.kids.length c1] 54)) hdk
  have ltd := World.block_lt_of_cell? _ _ d0
  have hLi : (L : Int) < (L : Int) + 1 := by omega
  have sN := str_eq n.name s1
  have sK := str_eq n.key s2
  go_enter Try.func112, Try.ntmps112
  by_cases h1 : n.name = s1
  · by_cases h2 : n.key = s2
    · obtain rfl : r = true := by rw [← hr.out]; simp [stepT, h1, h2]
      have q1 : (n.name.toList == s1.toList) = true := by rw [sN]; simpa using h1
      have q2 : (n.key.toList == s2.toList) = true := by rw [sK]; simpa using h2
      clear sN sK h1 h2 hr
      go_wp2_with fail
      go_ret
      exact ⟨rfl, (Ext.alloc _ _).trans (Ext.alloc _ _)⟩
    · obtain rfl : r = false := by rw [← hr.out]; simp [stepT, h2]
      have q1 : (n.name.toList == s1.toList) = true := by rw [sN]; simpa using h1
      have q2 : (n.key.toList == s2.toList) = false := by rw [sK]; simpa using h2
      clear sN sK h1 h2 hr
      go_wp2_with fail
      go_ret
      exact ⟨rfl, (Ext.alloc _ _).trans (Ext.alloc _ _)⟩
  · obtain rfl : r = false := by rw [← hr.out]; simp [stepT, h1]
    have q1 : (n.name.toList == s1.toList) = false := by rw [sN]; simpa using h1
    clear sN sK h1 hr
    go_wp2_with fail
    go_ret
    exact ⟨rfl, (Ext.alloc _ _).trans (Ext.alloc _ _)⟩
set_option maxRecDepth 100000 in
set_option maxHeartbeats 2000000 in
theorem refOne_other (n : T) (e : E) (S : Nat → Prop) (w : World) (c ce : List Value) (hn : RT S w n c) (he : RE S w e ce) (hsz : n.size + e.node.size ≤ 1048576) (hd : e.kind ≠ 1 ∧ e.kind ≠ 2 ∧ e.kind ≠ 3) :
    Calls Try.prog 54 #[.agg c.toArray, .agg ce.toArray] w (Ret (RChg S (oneT n e) w)) := by
  obtain ⟨d, way, x, y⟩ := e
  obtain ⟨A, ac, Kx, kx1, Ky, ky1, rfl, hw, hxr, hyr⟩ := he
  have kr := Hd.mk (hn.mono (S' := fun b => S b ∧ b < w.heap.size) (fun b hb hs => ⟨hs, hb⟩))
  have krx := Hd.mk ((RT.of_row hxr).mono (S' := fun b => S b ∧ b < w.heap.size) (fun b hb hs => ⟨hs, hb⟩))
  have kry := Hd.mk ((RT.of_row hyr).mono (S' := fun b => S b ∧ b < w.heap.size) (fun b hb hs => ⟨hs, hb⟩))
  obtain ⟨K, kc, rfl, hrow⟩ := hn.row
  have hwl := Hd.mk hw.len
  have kw0 := Hd.mk hw
  clear hn hrow hw hxr hyr
  simp only [cT, List.cons_append, List.nil_append] at kr krx kry hsz ⊢
  have hszH := Hd.mk hsz
  clear hsz
  generalize hr0 : oneT n ⟨d, way, x, y⟩ = r
  replace hr0 := Hd.mk hr0
  obtain ⟨h1, h2, h3⟩ : d ≠ 1 ∧ d ≠ 2 ∧ d ≠ 3 := hd
  have q1 : (d == 1) = false := by simpa using h1
  have q2 : (d == 2) = false := by simpa using h2
  have q3 : (d == 3) = false := by simpa using h3
  obtain rfl : r = (zeroT, 1) := by rw [← hr0.out]; unfold oneT; rw [if_pos (.inr (.inl (by simp only; omega)))]
  go_enter Try.func54, Try.ntmps54
  go_wp2_with ((with_reducible refine stop_at (.fieldAddr 68 (.tmp 3) 0) ?_))
  refine Stop.mk ?_
  have kx := Hd.mk (((Ext.alloc w (.cells #[.string n.name, .string n.key, .int .i64 n.kind, .int .u64 n.num, .string n.text, .slice K n.kids.length kc] 54)).trans (Ext.alloc _ (.cells #[.int .i64 d, .slice A way.length ac, .string x.name, .string x.key, .int .i64 x.kind, .int .u64 x.num, .string x.text, .slice Kx x.kids.length kx1, .string y.name, .string y.key, .int .i64 y.kind, .int .u64 y.num, .string y.text, .slice Ky y.kids.length ky1] 68))).trans (Ext.alloc _ (.cells #[.string ⟨#[]⟩, .string ⟨#[]⟩, .int .i64 0, .int .u64 0, .string ⟨#[]⟩, .slice none 0 0] 54)))
  have kN := Hd.mk (((Blk.new w #[.string n.name, .string n.key, .int .i64 n.kind, .int .u64 n.num, .string n.text, .slice K n.kids.length kc] 54).alloc (.cells #[.int .i64 d, .slice A way.length ac, .string x.name, .string x.key, .int .i64 x.kind, .int .u64 x.num, .string x.text, .slice Kx x.kids.length kx1, .string y.name, .string y.key, .int .i64 y.kind, .int .u64 y.num, .string y.text, .slice Ky y.kids.length ky1] 68)).alloc (.cells #[.string ⟨#[]⟩, .string ⟨#[]⟩, .int .i64 0, .int .u64 0, .string ⟨#[]⟩, .slice none 0 0] 54))
  have kE := Hd.mk ((Blk.new2 w (.cells #[.string n.name, .string n.key, .int .i64 n.kind, .int .u64 n.num, .string n.text, .slice K n.kids.length kc] 54) #[.int .i64 d, .slice A way.length ac, .string x.name, .string x.key, .int .i64 x.kind, .int .u64 x.num, .string x.text, .slice Kx x.kids.length kx1, .string y.name, .string y.key, .int .i64 y.kind, .int .u64 y.num, .string y.text, .slice Ky y.kids.length ky1] 68).alloc (.cells #[.string ⟨#[]⟩, .string ⟨#[]⟩, .int .i64 0, .int .u64 0, .string ⟨#[]⟩, .slice none 0 0] 54))
  have kR := Hd.mk (Blk.new3 w (.cells #[.string n.name, .string n.key, .int .i64 n.kind, .int .u64 n.num, .string n.text, .slice K n.kids.length kc] 54) (.cells #[.int .i64 d, .slice A way.length ac, .string x.name, .string x.key, .int .i64 x.kind, .int .u64 x.num, .string x.text, .slice Kx x.kids.length kx1, .string y.name, .string y.key, .int .i64 y.kind, .int .u64 y.num, .string y.text, .slice Ky y.kids.length ky1] 68) #[.string ⟨#[]⟩, .string ⟨#[]⟩, .int .i64 0, .int .u64 0, .string ⟨#[]⟩, .slice none 0 0] 54)
  generalize ((w.alloc _).alloc _).alloc _ = W at *
  generalize hp : w.heap.size = p at *
  replace hp := Hd.mk hp
  have gE := kE.out.cell
  have gR := kR.out.cell
  have fR := kR.out.free
  go_wp2_with fail
  have hu := Hd.mk ((((((Upd.setCell W ⟨p + 1 + 1, 0, none⟩ (.string ⟨#[]⟩)).trans (Upd.setCell _ ⟨p + 1 + 1, 1, none⟩ (.string ⟨#[]⟩))).trans (Upd.setCell _ ⟨p + 1 + 1, 2, none⟩ (.int .i64 0))).trans (Upd.setCell _ ⟨p + 1 + 1, 3, none⟩ (.int .u64 0))).trans (Upd.setCell _ ⟨p + 1 + 1, 4, none⟩ (.string ⟨#[]⟩))).trans (Upd.setCell _ ⟨p + 1 + 1, 5, none⟩ (.slice none 0 0)))
  exact ret_box2 rfl (p + 1 + 1) _ 54 _ ((((((kR.out.setCell 0 (.string ⟨#[]⟩)).setCell 1 (.string ⟨#[]⟩)).setCell 2 (.int .i64 0)).setCell 3 (.int .u64 0)).setCell 4 (.string ⟨#[]⟩)).setCell 5 (.slice none 0 0)) rfl rfl Try.underlying54 rfl size54
    ⟨_, rfl, _, rfl, rt_zero _ _, Below.trans kx.out (hu.out.below (by rw [hp.out]; show p ≤ p + 1 + 1; omega))⟩
set_option maxRecDepth 100000 in
set_option maxHeartbeats 2000000 in
theorem refOne_nil (n : T) (e : E) (S : Nat → Prop) (w : World) (c ce : List Value) (hn : RT S w n c) (he : RE S w e ce) (hsz : n.size + e.node.size ≤ 1048576) (hd : e.kind = 1 ∨ e.kind = 2 ∨ e.kind = 3) (hwy : e.way = []) :
    Calls Try.prog 54 #[.agg c.toArray, .agg ce.toArray] w (Ret (RChg S (oneT n e) w)) := by
  obtain ⟨d, way, x, y⟩ := e
  obtain ⟨A, ac, Kx, kx1, Ky, ky1, rfl, hw, hxr, hyr⟩ := he
  have kr := Hd.mk (hn.mono (S' := fun b => S b ∧ b < w.heap.size) (fun b hb hs => ⟨hs, hb⟩))
  have krx := Hd.mk ((RT.of_row hxr).mono (S' := fun b => S b ∧ b < w.heap.size) (fun b hb hs => ⟨hs, hb⟩))
  have kry := Hd.mk ((RT.of_row hyr).mono (S' := fun b => S b ∧ b < w.heap.size) (fun b hb hs => ⟨hs, hb⟩))
  obtain ⟨K, kc, rfl, hrow⟩ := hn.row
  have hwl := Hd.mk hw.len
  have kw0 := Hd.mk hw
  clear hn hrow hw hxr hyr
  simp only [cT, List.cons_append, List.nil_append] at kr krx kry hsz ⊢
  have hszH := Hd.mk hsz
  clear hsz
  generalize hr0 : oneT n ⟨d, way, x, y⟩ = r
  replace hr0 := Hd.mk hr0
  obtain rfl : way = [] := hwy
  obtain rfl : r = (zeroT, 1) := by rw [← hr0.out]; unfold oneT; rw [if_pos (.inl rfl)]
  simp only [List.length_nil]
  have hd : d = 1 ∨ d = 2 ∨ d = 3 := hd
  rcases hd with rfl | rfl | rfl
  · skip
    go_enter Try.func54, Try.ntmps54
    go_wp2_with ((with_reducible refine stop_at (.fieldAddr 68 (.tmp 3) 0) ?_))
    refine Stop.mk ?_
    have kx := Hd.mk (((Ext.alloc w (.cells #[.string n.name, .string n.key, .int .i64 n.kind, .int .u64 n.num, .string n.text, .slice K n.kids.length kc] 54)).trans (Ext.alloc _ (.cells #[.int .i64 1, .slice A 0 ac, .string x.name, .string x.key, .int .i64 x.kind, .int .u64 x.num, .string x.text, .slice Kx x.kids.length kx1, .string y.name, .string y.key, .int .i64 y.kind, .int .u64 y.num, .string y.text, .slice Ky y.kids.length ky1] 68))).trans (Ext.alloc _ (.cells #[.string ⟨#[]⟩, .string ⟨#[]⟩, .int .i64 0, .int .u64 0, .string ⟨#[]⟩, .slice none 0 0] 54)))
    have kN := Hd.mk (((Blk.new w #[.string n.name, .string n.key, .int .i64 n.kind, .int .u64 n.num, .string n.text, .slice K n.kids.length kc] 54).alloc (.cells #[.int .i64 1, .slice A 0 ac, .string x.name, .string x.key, .int .i64 x.kind, .int .u64 x.num, .string x.text, .slice Kx x.kids.length kx1, .string y.name, .string y.key, .int .i64 y.kind, .int .u64 y.num, .string y.text, .slice Ky y.kids.length ky1] 68)).alloc (.cells #[.string ⟨#[]⟩, .string ⟨#[]⟩, .int .i64 0, .int .u64 0, .string ⟨#[]⟩, .slice none 0 0] 54))
    have kE := Hd.mk ((Blk.new2 w (.cells #[.string n.name, .string n.key, .int .i64 n.kind, .int .u64 n.num, .string n.text, .slice K n.kids.length kc] 54) #[.int .i64 1, .slice A 0 ac, .string x.name, .string x.key, .int .i64 x.kind, .int .u64 x.num, .string x.text, .slice Kx x.kids.length kx1, .string y.name, .string y.key, .int .i64 y.kind, .int .u64 y.num, .string y.text, .slice Ky y.kids.length ky1] 68).alloc (.cells #[.string ⟨#[]⟩, .string ⟨#[]⟩, .int .i64 0, .int .u64 0, .string ⟨#[]⟩, .slice none 0 0] 54))
    have kR := Hd.mk (Blk.new3 w (.cells #[.string n.name, .string n.key, .int .i64 n.kind, .int .u64 n.num, .string n.text, .slice K n.kids.length kc] 54) (.cells #[.int .i64 1, .slice A 0 ac, .string x.name, .string x.key, .int .i64 x.kind, .int .u64 x.num, .string x.text, .slice Kx x.kids.length kx1, .string y.name, .string y.key, .int .i64 y.kind, .int .u64 y.num, .string y.text, .slice Ky y.kids.length ky1] 68) #[.string ⟨#[]⟩, .string ⟨#[]⟩, .int .i64 0, .int .u64 0, .string ⟨#[]⟩, .slice none 0 0] 54)
    generalize ((w.alloc _).alloc _).alloc _ = W at *
    generalize hp : w.heap.size = p at *
    replace hp := Hd.mk hp
    have gE := kE.out.cell
    have gR := kR.out.cell
    have fR := kR.out.free
    go_wp2_with fail
    have hu := Hd.mk ((((((Upd.setCell W ⟨p + 1 + 1, 0, none⟩ (.string ⟨#[]⟩)).trans (Upd.setCell _ ⟨p + 1 + 1, 1, none⟩ (.string ⟨#[]⟩))).trans (Upd.setCell _ ⟨p + 1 + 1, 2, none⟩ (.int .i64 0))).trans (Upd.setCell _ ⟨p + 1 + 1, 3, none⟩ (.int .u64 0))).trans (Upd.setCell _ ⟨p + 1 + 1, 4, none⟩ (.string ⟨#[]⟩))).trans (Upd.setCell _ ⟨p + 1 + 1, 5, none⟩ (.slice none 0 0)))
    exact ret_box2 rfl (p + 1 + 1) _ 54 _ ((((((kR.out.setCell 0 (.string ⟨#[]⟩)).setCell 1 (.string ⟨#[]⟩)).setCell 2 (.int .i64 0)).setCell 3 (.int .u64 0)).setCell 4 (.string ⟨#[]⟩)).setCell 5 (.slice none 0 0)) rfl rfl Try.underlying54 rfl size54
      ⟨_, rfl, _, rfl, rt_zero _ _, Below.trans kx.out (hu.out.below (by rw [hp.out]; show p ≤ p + 1 + 1; omega))⟩
  · skip
    go_enter Try.func54, Try.ntmps54
    go_wp2_with ((with_reducible refine stop_at (.fieldAddr 68 (.tmp 3) 0) ?_))
    refine Stop.mk ?_
    have kx := Hd.mk (((Ext.alloc w (.cells #[.string n.name, .string n.key, .int .i64 n.kind, .int .u64 n.num, .string n.text, .slice K n.kids.length kc] 54)).trans (Ext.alloc _ (.cells #[.int .i64 2, .slice A 0 ac, .string x.name, .string x.key, .int .i64 x.kind, .int .u64 x.num, .string x.text, .slice Kx x.kids.length kx1, .string y.name, .string y.key, .int .i64 y.kind, .int .u64 y.num, .string y.text, .slice Ky y.kids.length ky1] 68))).trans (Ext.alloc _ (.cells #[.string ⟨#[]⟩, .string ⟨#[]⟩, .int .i64 0, .int .u64 0, .string ⟨#[]⟩, .slice none 0 0] 54)))
    have kN := Hd.mk (((Blk.new w #[.string n.name, .string n.key, .int .i64 n.kind, .int .u64 n.num, .string n.text, .slice K n.kids.length kc] 54).alloc (.cells #[.int .i64 2, .slice A 0 ac, .string x.name, .string x.key, .int .i64 x.kind, .int .u64 x.num, .string x.text, .slice Kx x.kids.length kx1, .string y.name, .string y.key, .int .i64 y.kind, .int .u64 y.num, .string y.text, .slice Ky y.kids.length ky1] 68)).alloc (.cells #[.string ⟨#[]⟩, .string ⟨#[]⟩, .int .i64 0, .int .u64 0, .string ⟨#[]⟩, .slice none 0 0] 54))
    have kE := Hd.mk ((Blk.new2 w (.cells #[.string n.name, .string n.key, .int .i64 n.kind, .int .u64 n.num, .string n.text, .slice K n.kids.length kc] 54) #[.int .i64 2, .slice A 0 ac, .string x.name, .string x.key, .int .i64 x.kind, .int .u64 x.num, .string x.text, .slice Kx x.kids.length kx1, .string y.name, .string y.key, .int .i64 y.kind, .int .u64 y.num, .string y.text, .slice Ky y.kids.length ky1] 68).alloc (.cells #[.string ⟨#[]⟩, .string ⟨#[]⟩, .int .i64 0, .int .u64 0, .string ⟨#[]⟩, .slice none 0 0] 54))
    have kR := Hd.mk (Blk.new3 w (.cells #[.string n.name, .string n.key, .int .i64 n.kind, .int .u64 n.num, .string n.text, .slice K n.kids.length kc] 54) (.cells #[.int .i64 2, .slice A 0 ac, .string x.name, .string x.key, .int .i64 x.kind, .int .u64 x.num, .string x.text, .slice Kx x.kids.length kx1, .string y.name, .string y.key, .int .i64 y.kind, .int .u64 y.num, .string y.text, .slice Ky y.kids.length ky1] 68) #[.string ⟨#[]⟩, .string ⟨#[]⟩, .int .i64 0, .int .u64 0, .string ⟨#[]⟩, .slice none 0 0] 54)
    generalize ((w.alloc _).alloc _).alloc _ = W at *
    generalize hp : w.heap.size = p at *
    replace hp := Hd.mk hp
    have gE := kE.out.cell
    have gR := kR.out.cell
    have fR := kR.out.free
    go_wp2_with fail
    have hu := Hd.mk ((((((Upd.setCell W ⟨p + 1 + 1, 0, none⟩ (.string ⟨#[]⟩)).trans (Upd.setCell _ ⟨p + 1 + 1, 1, none⟩ (.string ⟨#[]⟩))).trans (Upd.setCell _ ⟨p + 1 + 1, 2, none⟩ (.int .i64 0))).trans (Upd.setCell _ ⟨p + 1 + 1, 3, none⟩ (.int .u64 0))).trans (Upd.setCell _ ⟨p + 1 + 1, 4, none⟩ (.string ⟨#[]⟩))).trans (Upd.setCell _ ⟨p + 1 + 1, 5, none⟩ (.slice none 0 0)))
    exact ret_box2 rfl (p + 1 + 1) _ 54 _ ((((((kR.out.setCell 0 (.string ⟨#[]⟩)).setCell 1 (.string ⟨#[]⟩)).setCell 2 (.int .i64 0)).setCell 3 (.int .u64 0)).setCell 4 (.string ⟨#[]⟩)).setCell 5 (.slice none 0 0)) rfl rfl Try.underlying54 rfl size54
      ⟨_, rfl, _, rfl, rt_zero _ _, Below.trans kx.out (hu.out.below (by rw [hp.out]; show p ≤ p + 1 + 1; omega))⟩
  · skip
    go_enter Try.func54, Try.ntmps54
    go_wp2_with ((with_reducible refine stop_at (.fieldAddr 68 (.tmp 3) 0) ?_))
    refine Stop.mk ?_
    have kx := Hd.mk (((Ext.alloc w (.cells #[.string n.name, .string n.key, .int .i64 n.kind, .int .u64 n.num, .string n.text, .slice K n.kids.length kc] 54)).trans (Ext.alloc _ (.cells #[.int .i64 3, .slice A 0 ac, .string x.name, .string x.key, .int .i64 x.kind, .int .u64 x.num, .string x.text, .slice Kx x.kids.length kx1, .string y.name, .string y.key, .int .i64 y.kind, .int .u64 y.num, .string y.text, .slice Ky y.kids.length ky1] 68))).trans (Ext.alloc _ (.cells #[.string ⟨#[]⟩, .string ⟨#[]⟩, .int .i64 0, .int .u64 0, .string ⟨#[]⟩, .slice none 0 0] 54)))
    have kN := Hd.mk (((Blk.new w #[.string n.name, .string n.key, .int .i64 n.kind, .int .u64 n.num, .string n.text, .slice K n.kids.length kc] 54).alloc (.cells #[.int .i64 3, .slice A 0 ac, .string x.name, .string x.key, .int .i64 x.kind, .int .u64 x.num, .string x.text, .slice Kx x.kids.length kx1, .string y.name, .string y.key, .int .i64 y.kind, .int .u64 y.num, .string y.text, .slice Ky y.kids.length ky1] 68)).alloc (.cells #[.string ⟨#[]⟩, .string ⟨#[]⟩, .int .i64 0, .int .u64 0, .string ⟨#[]⟩, .slice none 0 0] 54))
    have kE := Hd.mk ((Blk.new2 w (.cells #[.string n.name, .string n.key, .int .i64 n.kind, .int .u64 n.num, .string n.text, .slice K n.kids.length kc] 54) #[.int .i64 3, .slice A 0 ac, .string x.name, .string x.key, .int .i64 x.kind, .int .u64 x.num, .string x.text, .slice Kx x.kids.length kx1, .string y.name, .string y.key, .int .i64 y.kind, .int .u64 y.num, .string y.text, .slice Ky y.kids.length ky1] 68).alloc (.cells #[.string ⟨#[]⟩, .string ⟨#[]⟩, .int .i64 0, .int .u64 0, .string ⟨#[]⟩, .slice none 0 0] 54))
    have kR := Hd.mk (Blk.new3 w (.cells #[.string n.name, .string n.key, .int .i64 n.kind, .int .u64 n.num, .string n.text, .slice K n.kids.length kc] 54) (.cells #[.int .i64 3, .slice A 0 ac, .string x.name, .string x.key, .int .i64 x.kind, .int .u64 x.num, .string x.text, .slice Kx x.kids.length kx1, .string y.name, .string y.key, .int .i64 y.kind, .int .u64 y.num, .string y.text, .slice Ky y.kids.length ky1] 68) #[.string ⟨#[]⟩, .string ⟨#[]⟩, .int .i64 0, .int .u64 0, .string ⟨#[]⟩, .slice none 0 0] 54)
    generalize ((w.alloc _).alloc _).alloc _ = W at *
    generalize hp : w.heap.size = p at *
    replace hp := Hd.mk hp
    have gE := kE.out.cell
    have gR := kR.out.cell
    have fR := kR.out.free
    go_wp2_with fail
    have hu := Hd.mk ((((((Upd.setCell W ⟨p + 1 + 1, 0, none⟩ (.string ⟨#[]⟩)).trans (Upd.setCell _ ⟨p + 1 + 1, 1, none⟩ (.string ⟨#[]⟩))).trans (Upd.setCell _ ⟨p + 1 + 1, 2, none⟩ (.int .i64 0))).trans (Upd.setCell _ ⟨p + 1 + 1, 3, none⟩ (.int .u64 0))).trans (Upd.setCell _ ⟨p + 1 + 1, 4, none⟩ (.string ⟨#[]⟩))).trans (Upd.setCell _ ⟨p + 1 + 1, 5, none⟩ (.slice none 0 0)))
    exact ret_box2 rfl (p + 1 + 1) _ 54 _ ((((((kR.out.setCell 0 (.string ⟨#[]⟩)).setCell 1 (.string ⟨#[]⟩)).setCell 2 (.int .i64 0)).setCell 3 (.int .u64 0)).setCell 4 (.string ⟨#[]⟩)).setCell 5 (.slice none 0 0)) rfl rfl Try.underlying54 rfl size54
      ⟨_, rfl, _, rfl, rt_zero _ _, Below.trans kx.out (hu.out.below (by rw [hp.out]; show p ≤ p + 1 + 1; omega))⟩
set_option maxRecDepth 100000 in
set_option maxHeartbeats 2000000 in
theorem refOne_create (n : T) (e : E) (S : Nat → Prop) (w : World) (c ce : List Value) (hn : RT S w n c) (he : RE S w e ce) (hsz : n.size + e.node.size ≤ 1048576) (hd : e.kind = 1) (hwy : e.way ≠ []) :
    Calls Try.prog 54 #[.agg c.toArray, .agg ce.toArray] w (Ret (RChg S (oneT n e) w)) := by
  obtain ⟨d, way, x, y⟩ := e
  obtain ⟨A, ac, Kx, kx1, Ky, ky1, rfl, hw, hxr, hyr⟩ := he
  have kr := Hd.mk (hn.mono (S' := fun b => S b ∧ b < w.heap.size) (fun b hb hs => ⟨hs, hb⟩))
  have krx := Hd.mk ((RT.of_row hxr).mono (S' := fun b => S b ∧ b < w.heap.size) (fun b hb hs => ⟨hs, hb⟩))
  have kry := Hd.mk ((RT.of_row hyr).mono (S' := fun b => S b ∧ b < w.heap.size) (fun b hb hs => ⟨hs, hb⟩))
  obtain ⟨K, kc, rfl, hrow⟩ := hn.row
  have hwl := Hd.mk hw.len
  have kw0 := Hd.mk hw
  clear hn hrow hw hxr hyr
  simp only [cT, List.cons_append, List.nil_append] at kr krx kry hsz ⊢
  have hszH := Hd.mk hsz
  clear hsz
  generalize hr0 : oneT n ⟨d, way, x, y⟩ = r
  replace hr0 := Hd.mk hr0
  obtain rfl : d = 1 := hd
  have hwy : way ≠ [] := hwy
  obtain ⟨init, s, rfl⟩ : ∃ init s, way = init ++ [s] := by
    rcases List.eq_nil_or_concat way with h | ⟨init, s, h⟩
    · exact absurd h hwy
    · exact ⟨init, s, by rw [h, List.concat_eq_append]⟩
  have kw := Hd.mk kw0.out
  have hlenH := Hd.mk (show (init ++ [s]).length = init.length + 1 by simp)
  rw [hlenH.out]
  generalize init.length = L at *
  have hlen0 : ((L : Int) + 1 == 0) = false := by rw [beq_eq_false_iff_ne]; omega
  clear hwy kw0
  go_enter Try.func54, Try.ntmps54
  go_wp2_with ((with_reducible refine stop_at (.fieldAddr 68 (.tmp 3) 0) ?_))
  refine Stop.mk ?_
  have kx := Hd.mk (((Ext.alloc w (.cells #[.string n.name, .string n.key, .int .i64 n.kind, .int .u64 n.num, .string n.text, .slice K n.kids.length kc] 54)).trans (Ext.alloc _ (.cells #[.int .i64 1, .slice A (L + 1) ac, .string x.name, .string x.key, .int .i64 x.kind, .int .u64 x.num, .string x.text, .slice Kx x.kids.length kx1, .string y.name, .string y.key, .int .i64 y.kind, .int .u64 y.num, .string y.text, .slice Ky y.kids.length ky1] 68))).trans (Ext.alloc _ (.cells #[.string ⟨#[]⟩, .string ⟨#[]⟩, .int .i64 0, .int .u64 0, .string ⟨#[]⟩, .slice none 0 0] 54)))
  have kN := Hd.mk (((Blk.new w #[.string n.name, .string n.key, .int .i64 n.kind, .int .u64 n.num, .string n.text, .slice K n.kids.length kc] 54).alloc (.cells #[.int .i64 1, .slice A (L + 1) ac, .string x.name, .string x.key, .int .i64 x.kind, .int .u64 x.num, .string x.text, .slice Kx x.kids.length kx1, .string y.name, .string y.key, .int .i64 y.kind, .int .u64 y.num, .string y.text, .slice Ky y.kids.length ky1] 68)).alloc (.cells #[.string ⟨#[]⟩, .string ⟨#[]⟩, .int .i64 0, .int .u64 0, .string ⟨#[]⟩, .slice none 0 0] 54))
  have kE := Hd.mk ((Blk.new2 w (.cells #[.string n.name, .string n.key, .int .i64 n.kind, .int .u64 n.num, .string n.text, .slice K n.kids.length kc] 54) #[.int .i64 1, .slice A (L + 1) ac, .string x.name, .string x.key, .int .i64 x.kind, .int .u64 x.num, .string x.text, .slice Kx x.kids.length kx1, .string y.name, .string y.key, .int .i64 y.kind, .int .u64 y.num, .string y.text, .slice Ky y.kids.length ky1] 68).alloc (.cells #[.string ⟨#[]⟩, .string ⟨#[]⟩, .int .i64 0, .int .u64 0, .string ⟨#[]⟩, .slice none 0 0] 54))
  have kR := Hd.mk (Blk.new3 w (.cells #[.string n.name, .string n.key, .int .i64 n.kind, .int .u64 n.num, .string n.text, .slice K n.kids.length kc] 54) (.cells #[.int .i64 1, .slice A (L + 1) ac, .string x.name, .string x.key, .int .i64 x.kind, .int .u64 x.num, .string x.text, .slice Kx x.kids.length kx1, .string y.name, .string y.key, .int .i64 y.kind, .int .u64 y.num, .string y.text, .slice Ky y.kids.length ky1] 68) #[.string ⟨#[]⟩, .string ⟨#[]⟩, .int .i64 0, .int .u64 0, .string ⟨#[]⟩, .slice none 0 0] 54)
  generalize ((w.alloc _).alloc _).alloc _ = W at *
  generalize hp : w.heap.size = p at *
  replace hp := Hd.mk hp
  have gN := kN.out.cell
  have gE := kE.out.cell
  go_wp2_with fail
  clear gN gE
  have hc := ref_has x Kx kx1 init s _ _ A ac (kw.out.ext kx.out)
  rw [hlenH.out] at hc
  refine Calls.mono hc ?_
  clear hc
  rintro e wh ⟨rfl, hx⟩
  replace kx := Hd.mk (kx.out.trans hx)
  replace kN := Hd.mk (kN.out.ext hx)
  replace kE := Hd.mk (kE.out.ext hx)
  replace kR := Hd.mk (kR.out.ext hx)
  clear hx
  by_cases hhx : stepT x = s
  · rw [decide_eq_true hhx]
    have gN := kN.out.cell
    have gE := kE.out.cell
    go_wp2_with fail
    clear gN gE
    have hc := ref_get (init ++ [s]) n _ S _ _ A ac (kr.out.ext kx.out) (kw.out.ext kx.out)
    rw [hlenH.out] at hc
    refine Calls.mono hc ?_
    clear hc
    rintro e wg ⟨_, rfl, hx, hh⟩
    replace kx := Hd.mk (kx.out.trans hx)
    replace kN := Hd.mk (kN.out.ext hx)
    replace kE := Hd.mk (kE.out.ext hx)
    replace kR := Hd.mk (kR.out.ext hx)
    clear hx
    rcases hh with ⟨hg, rfl⟩ | ⟨u, c9, hg, rfl, hru⟩
    · have hg := Hd.mk hg
      have gN := kN.out.cell
      have gE := kE.out.cell
      go_wp2_with ((with_reducible refine stop_at (.load 54 (.tmp 9)) ?_))
      refine Stop.mk ?_
      have kD := Hd.mk (Blk.new wg #[.string ⟨#[]⟩, .string ⟨#[]⟩, .int .i64 0, .int .u64 0, .string ⟨#[]⟩, .slice none 0 0] 54)
      have hxA := (Ext.alloc wg (.cells #[.string ⟨#[]⟩, .string ⟨#[]⟩, .int .i64 0, .int .u64 0, .string ⟨#[]⟩, .slice none 0 0] 54))
      replace kx := Hd.mk (kx.out.trans hxA)
      replace kN := Hd.mk (kN.out.ext hxA)
      replace kE := Hd.mk (kE.out.ext hxA)
      replace kR := Hd.mk (kR.out.ext hxA)
      clear hxA
      generalize wg.heap.size = D at *
      generalize wg.alloc _ = wd at *
      clear gN gE
      have gN := kN.out.cell
      have gE := kE.out.cell
      have gD := kD.out.cell
      go_wp2_with fail
      clear gN gE
      clear gD
      refine Calls.mono (ref_same 1 zeroT y (fun b => S b ∧ b < p) _ _ _ (by decide) (rt_zero _ _) (kry.out.ext kx.out)) ?_
      rintro e ws ⟨rfl, hx⟩
      replace kD := Hd.mk (kD.out.ext hx)
      replace kx := Hd.mk (kx.out.trans hx)
      replace kN := Hd.mk (kN.out.ext hx)
      replace kE := Hd.mk (kE.out.ext hx)
      replace kR := Hd.mk (kR.out.ext hx)
      clear hx
      have hst := refSet n x (init ++ [s]) (fun b => S b ∧ b < p) S ws _ _ A ac (kr.out.ext kx.out) (krx.out.ext kx.out) (kw.out.ext kx.out) hszH.out
      rw [show setR n (init ++ [s]) x = r by rw [← hr0.out]; unfold oneT; rw [if_neg (by simp [List.getLast?_concat, hhx]), if_pos rfl, if_neg (by simp only [hg.out]; simp)], hlenH.out] at hst
      replace hst := Hd.mk hst
      obtain ⟨m, rc⟩ := r
      have gN := kN.out.cell
      have gE := kE.out.cell
      go_wp2_with fail
      clear gN gE
      refine Calls.mono hst.out ?_
      rintro e w9 ⟨_, rfl, c9, rfl, hr9, hx9⟩
      obtain ⟨Km, km, rfl, _⟩ := hr9.row
      have hr9 := Hd.mk hr9
      have hW5 := Hd.mk (kR.out.lt)
      simp only [cT] at hr9 ⊢
      replace kx := Hd.mk (kx.out.trans hx9)
      replace kR := Hd.mk (kR.out.ext hx9)
      clear hx9
      have gR := kR.out.cell
      have fR := kR.out.free
      go_wp2_with fail
      have hu := Hd.mk ((((((Upd.setCell w9 ⟨p + 1 + 1, 0, none⟩ (.string m.name)).trans (Upd.setCell _ ⟨p + 1 + 1, 1, none⟩ (.string m.key))).trans (Upd.setCell _ ⟨p + 1 + 1, 2, none⟩ (.int .i64 m.kind))).trans (Upd.setCell _ ⟨p + 1 + 1, 3, none⟩ (.int .u64 m.num))).trans (Upd.setCell _ ⟨p + 1 + 1, 4, none⟩ (.string m.text))).trans (Upd.setCell _ ⟨p + 1 + 1, 5, none⟩ (.slice Km m.kids.length km)))
      exact ret_box2 rfl (p + 1 + 1) _ 54 _ ((((((kR.out.setCell 0 (.string m.name)).setCell 1 (.string m.key)).setCell 2 (.int .i64 m.kind)).setCell 3 (.int .u64 m.num)).setCell 4 (.string m.text)).setCell 5 (.slice Km m.kids.length km)) rfl rfl Try.underlying54 rfl size54
        ⟨_, rfl, _, rfl, RT.keep (S' := fun b => S b ∨ w.heap.size ≤ b) (fun b off v hb hc => ⟨by have := hp.out; have := hW5.out; rcases hb with ⟨h1, _⟩ | h; exact .inl h1; exact .inr (by omega), by rw [← hc]; exact World.cell?_of_block (hu.out.block b (by have := hW5.out; show b ≠ p + 1 + 1; rcases hb with ⟨_, h⟩ | h <;> omega))⟩) hr9.out, Below.trans kx.out (hu.out.below (by rw [hp.out]; show p ≤ p + 1 + 1; omega))⟩
    · have hg := Hd.mk hg
      obtain ⟨Ku, ku, rfl, _⟩ := hru.row
      have hru := Hd.mk hru
      simp only [cT] at hru ⊢
      have gN := kN.out.cell
      have gE := kE.out.cell
      go_wp2_with ((with_reducible refine stop_at (.load 54 (.tmp 9)) ?_))
      refine Stop.mk ?_
      have kD := Hd.mk (Blk.new wg #[.string u.name, .string u.key, .int .i64 u.kind, .int .u64 u.num, .string u.text, .slice Ku u.kids.length ku] 54)
      have hxA := (Ext.alloc wg (.cells #[.string u.name, .string u.key, .int .i64 u.kind, .int .u64 u.num, .string u.text, .slice Ku u.kids.length ku] 54))
      replace hru := Hd.mk (hru.out.ext hxA)
      replace kx := Hd.mk (kx.out.trans hxA)
      replace kN := Hd.mk (kN.out.ext hxA)
      replace kE := Hd.mk (kE.out.ext hxA)
      replace kR := Hd.mk (kR.out.ext hxA)
      clear hxA
      generalize wg.heap.size = D at *
      generalize wg.alloc _ = wd at *
      clear gN gE
      have gN := kN.out.cell
      have gE := kE.out.cell
      have gD := kD.out.cell
      go_wp2_with fail
      clear gN gE
      clear gD
      refine Calls.mono (ref_same _ u y (fun b => S b ∧ b < p) _ _ _ (Nat.le_refl _) (hru.out) (kry.out.ext kx.out)) ?_
      rintro e ws ⟨rfl, hx⟩
      replace kD := Hd.mk (kD.out.ext hx)
      replace kx := Hd.mk (kx.out.trans hx)
      replace kN := Hd.mk (kN.out.ext hx)
      replace kE := Hd.mk (kE.out.ext hx)
      replace kR := Hd.mk (kR.out.ext hx)
      clear hx
      have gN := kN.out.cell
      have gE := kE.out.cell
      obtain rfl : r = (zeroT, 24) := by rw [← hr0.out]; unfold oneT; rw [if_neg (by simp [List.getLast?_concat, hhx]), if_pos rfl, if_pos (by simp only [hg.out]; rfl)]
      clear gN gE
      clear kN kD
      have gE := kE.out.cell
      have gR := kR.out.cell
      have fR := kR.out.free
      go_wp2_with fail
      have hu := Hd.mk ((((((Upd.setCell ws ⟨p + 1 + 1, 0, none⟩ (.string ⟨#[]⟩)).trans (Upd.setCell _ ⟨p + 1 + 1, 1, none⟩ (.string ⟨#[]⟩))).trans (Upd.setCell _ ⟨p + 1 + 1, 2, none⟩ (.int .i64 0))).trans (Upd.setCell _ ⟨p + 1 + 1, 3, none⟩ (.int .u64 0))).trans (Upd.setCell _ ⟨p + 1 + 1, 4, none⟩ (.string ⟨#[]⟩))).trans (Upd.setCell _ ⟨p + 1 + 1, 5, none⟩ (.slice none 0 0)))
      exact ret_box2 rfl (p + 1 + 1) _ 54 _ ((((((kR.out.setCell 0 (.string ⟨#[]⟩)).setCell 1 (.string ⟨#[]⟩)).setCell 2 (.int .i64 0)).setCell 3 (.int .u64 0)).setCell 4 (.string ⟨#[]⟩)).setCell 5 (.slice none 0 0)) rfl rfl Try.underlying54 rfl size54
        ⟨_, rfl, _, rfl, rt_zero _ _, Below.trans kx.out (hu.out.below (by rw [hp.out]; show p ≤ p + 1 + 1; omega))⟩
  · rw [decide_eq_false hhx]
    obtain rfl : r = (zeroT, 1) := by rw [← hr0.out]; unfold oneT; rw [if_pos (by right; right; left; exact ⟨by simp, by simp [List.getLast?_concat]; exact fun h => hhx h.symm⟩)]
    have gR := kR.out.cell
    have fR := kR.out.free
    go_wp2_with fail
    have hu := Hd.mk ((((((Upd.setCell wh ⟨p + 1 + 1, 0, none⟩ (.string ⟨#[]⟩)).trans (Upd.setCell _ ⟨p + 1 + 1, 1, none⟩ (.string ⟨#[]⟩))).trans (Upd.setCell _ ⟨p + 1 + 1, 2, none⟩ (.int .i64 0))).trans (Upd.setCell _ ⟨p + 1 + 1, 3, none⟩ (.int .u64 0))).trans (Upd.setCell _ ⟨p + 1 + 1, 4, none⟩ (.string ⟨#[]⟩))).trans (Upd.setCell _ ⟨p + 1 + 1, 5, none⟩ (.slice none 0 0)))
    exact ret_box2 rfl (p + 1 + 1) _ 54 _ ((((((kR.out.setCell 0 (.string ⟨#[]⟩)).setCell 1 (.string ⟨#[]⟩)).setCell 2 (.int .i64 0)).setCell 3 (.int .u64 0)).setCell 4 (.string ⟨#[]⟩)).setCell 5 (.slice none 0 0)) rfl rfl Try.underlying54 rfl size54
      ⟨_, rfl, _, rfl, rt_zero _ _, Below.trans kx.out (hu.out.below (by rw [hp.out]; show p ≤ p + 1 + 1; omega))⟩
set_option maxRecDepth 100000 in
set_option maxHeartbeats 2000000 in
theorem refOne_delete (n : T) (e : E) (S : Nat → Prop) (w : World) (c ce : List Value) (hn : RT S w n c) (he : RE S w e ce) (hsz : n.size + e.node.size ≤ 1048576) (hd : e.kind = 2) (hwy : e.way ≠ []) :
    Calls Try.prog 54 #[.agg c.toArray, .agg ce.toArray] w (Ret (RChg S (oneT n e) w)) := by
  obtain ⟨d, way, x, y⟩ := e
  obtain ⟨A, ac, Kx, kx1, Ky, ky1, rfl, hw, hxr, hyr⟩ := he
  have kr := Hd.mk (hn.mono (S' := fun b => S b ∧ b < w.heap.size) (fun b hb hs => ⟨hs, hb⟩))
  have krx := Hd.mk ((RT.of_row hxr).mono (S' := fun b => S b ∧ b < w.heap.size) (fun b hb hs => ⟨hs, hb⟩))
  have kry := Hd.mk ((RT.of_row hyr).mono (S' := fun b => S b ∧ b < w.heap.size) (fun b hb hs => ⟨hs, hb⟩))
  obtain ⟨K, kc, rfl, hrow⟩ := hn.row
  have hwl := Hd.mk hw.len
  have kw0 := Hd.mk hw
  clear hn hrow hw hxr hyr
  simp only [cT, List.cons_append, List.nil_append] at kr krx kry hsz ⊢
  have hszH := Hd.mk hsz
  clear hsz
  generalize hr0 : oneT n ⟨d, way, x, y⟩ = r
  replace hr0 := Hd.mk hr0
  obtain rfl : d = 2 := hd
  have hwy : way ≠ [] := hwy
  obtain ⟨init, s, rfl⟩ : ∃ init s, way = init ++ [s] := by
    rcases List.eq_nil_or_concat way with h | ⟨init, s, h⟩
    · exact absurd h hwy
    · exact ⟨init, s, by rw [h, List.concat_eq_append]⟩
  have kw := Hd.mk kw0.out
  have hlenH := Hd.mk (show (init ++ [s]).length = init.length + 1 by simp)
  rw [hlenH.out]
  generalize init.length = L at *
  have hlen0 : ((L : Int) + 1 == 0) = false := by rw [beq_eq_false_iff_ne]; omega
  clear hwy kw0
  go_enter Try.func54, Try.ntmps54
  go_wp2_with ((with_reducible refine stop_at (.fieldAddr 68 (.tmp 3) 0) ?_))
  refine Stop.mk ?_
  have kx := Hd.mk (((Ext.alloc w (.cells #[.string n.name, .string n.key, .int .i64 n.kind, .int .u64 n.num, .string n.text, .slice K n.kids.length kc] 54)).trans (Ext.alloc _ (.cells #[.int .i64 2, .slice A (L + 1) ac, .string x.name, .string x.key, .int .i64 x.kind, .int .u64 x.num, .string x.text, .slice Kx x.kids.length kx1, .string y.name, .string y.key, .int .i64 y.kind, .int .u64 y.num, .string y.text, .slice Ky y.kids.length ky1] 68))).trans (Ext.alloc _ (.cells #[.string ⟨#[]⟩, .string ⟨#[]⟩, .int .i64 0, .int .u64 0, .string ⟨#[]⟩, .slice none 0 0] 54)))
  have kN := Hd.mk (((Blk.new w #[.string n.name, .string n.key, .int .i64 n.kind, .int .u64 n.num, .string n.text, .slice K n.kids.length kc] 54).alloc (.cells #[.int .i64 2, .slice A (L + 1) ac, .string x.name, .string x.key, .int .i64 x.kind, .int .u64 x.num, .string x.text, .slice Kx x.kids.length kx1, .string y.name, .string y.key, .int .i64 y.kind, .int .u64 y.num, .string y.text, .slice Ky y.kids.length ky1] 68)).alloc (.cells #[.string ⟨#[]⟩, .string ⟨#[]⟩, .int .i64 0, .int .u64 0, .string ⟨#[]⟩, .slice none 0 0] 54))
  have kE := Hd.mk ((Blk.new2 w (.cells #[.string n.name, .string n.key, .int .i64 n.kind, .int .u64 n.num, .string n.text, .slice K n.kids.length kc] 54) #[.int .i64 2, .slice A (L + 1) ac, .string x.name, .string x.key, .int .i64 x.kind, .int .u64 x.num, .string x.text, .slice Kx x.kids.length kx1, .string y.name, .string y.key, .int .i64 y.kind, .int .u64 y.num, .string y.text, .slice Ky y.kids.length ky1] 68).alloc (.cells #[.string ⟨#[]⟩, .string ⟨#[]⟩, .int .i64 0, .int .u64 0, .string ⟨#[]⟩, .slice none 0 0] 54))
  have kR := Hd.mk (Blk.new3 w (.cells #[.string n.name, .string n.key, .int .i64 n.kind, .int .u64 n.num, .string n.text, .slice K n.kids.length kc] 54) (.cells #[.int .i64 2, .slice A (L + 1) ac, .string x.name, .string x.key, .int .i64 x.kind, .int .u64 x.num, .string x.text, .slice Kx x.kids.length kx1, .string y.name, .string y.key, .int .i64 y.kind, .int .u64 y.num, .string y.text, .slice Ky y.kids.length ky1] 68) #[.string ⟨#[]⟩, .string ⟨#[]⟩, .int .i64 0, .int .u64 0, .string ⟨#[]⟩, .slice none 0 0] 54)
  generalize ((w.alloc _).alloc _).alloc _ = W at *
  generalize hp : w.heap.size = p at *
  replace hp := Hd.mk hp
  have gN := kN.out.cell
  have gE := kE.out.cell
  go_wp2_with fail
  clear gN gE
  have hc := ref_has y Ky ky1 init s _ _ A ac (kw.out.ext kx.out)
  rw [hlenH.out] at hc
  refine Calls.mono hc ?_
  clear hc
  rintro e wh ⟨rfl, hx⟩
  replace kx := Hd.mk (kx.out.trans hx)
  replace kN := Hd.mk (kN.out.ext hx)
  replace kE := Hd.mk (kE.out.ext hx)
  replace kR := Hd.mk (kR.out.ext hx)
  clear hx
  by_cases hhy : stepT y = s
  · rw [decide_eq_true hhy]
    have gN := kN.out.cell
    have gE := kE.out.cell
    go_wp2_with fail
    clear gN gE
    have hc := ref_get (init ++ [s]) n _ S _ _ A ac (kr.out.ext kx.out) (kw.out.ext kx.out)
    rw [hlenH.out] at hc
    refine Calls.mono hc ?_
    clear hc
    rintro e wg ⟨_, rfl, hx, hh⟩
    replace kx := Hd.mk (kx.out.trans hx)
    replace kN := Hd.mk (kN.out.ext hx)
    replace kE := Hd.mk (kE.out.ext hx)
    replace kR := Hd.mk (kR.out.ext hx)
    clear hx
    rcases hh with ⟨hg, rfl⟩ | ⟨u, c9, hg, rfl, hru⟩
    · have hg := Hd.mk hg
      have gN := kN.out.cell
      have gE := kE.out.cell
      go_wp2_with ((with_reducible refine stop_at (.load 54 (.tmp 9)) ?_))
      refine Stop.mk ?_
      have kD := Hd.mk (Blk.new wg #[.string ⟨#[]⟩, .string ⟨#[]⟩, .int .i64 0, .int .u64 0, .string ⟨#[]⟩, .slice none 0 0] 54)
      have hxA := (Ext.alloc wg (.cells #[.string ⟨#[]⟩, .string ⟨#[]⟩, .int .i64 0, .int .u64 0, .string ⟨#[]⟩, .slice none 0 0] 54))
      replace kx := Hd.mk (kx.out.trans hxA)
      replace kN := Hd.mk (kN.out.ext hxA)
      replace kE := Hd.mk (kE.out.ext hxA)
      replace kR := Hd.mk (kR.out.ext hxA)
      clear hxA
      generalize wg.heap.size = D at *
      generalize wg.alloc _ = wd at *
      clear gN gE
      have gN := kN.out.cell
      have gE := kE.out.cell
      have gD := kD.out.cell
      go_wp2_with fail
      clear gN gE
      clear gD
      refine Calls.mono (ref_same 1 zeroT y (fun b => S b ∧ b < p) _ _ _ (by decide) (rt_zero _ _) (kry.out.ext kx.out)) ?_
      rintro e ws ⟨rfl, hx⟩
      replace kD := Hd.mk (kD.out.ext hx)
      replace kx := Hd.mk (kx.out.trans hx)
      replace kN := Hd.mk (kN.out.ext hx)
      replace kE := Hd.mk (kE.out.ext hx)
      replace kR := Hd.mk (kR.out.ext hx)
      clear hx
      obtain rfl : r = (zeroT, 30) := by rw [← hr0.out]; unfold oneT; rw [if_neg (by simp [List.getLast?_concat, hhy]), if_neg (by simp)]; simp only [hg.out]
      have gN := kN.out.cell
      have gE := kE.out.cell
      clear kN kD
      have gR := kR.out.cell
      have fR := kR.out.free
      go_wp2_with fail
      have hu := Hd.mk ((((((Upd.setCell ws ⟨p + 1 + 1, 0, none⟩ (.string ⟨#[]⟩)).trans (Upd.setCell _ ⟨p + 1 + 1, 1, none⟩ (.string ⟨#[]⟩))).trans (Upd.setCell _ ⟨p + 1 + 1, 2, none⟩ (.int .i64 0))).trans (Upd.setCell _ ⟨p + 1 + 1, 3, none⟩ (.int .u64 0))).trans (Upd.setCell _ ⟨p + 1 + 1, 4, none⟩ (.string ⟨#[]⟩))).trans (Upd.setCell _ ⟨p + 1 + 1, 5, none⟩ (.slice none 0 0)))
      exact ret_box2 rfl (p + 1 + 1) _ 54 _ ((((((kR.out.setCell 0 (.string ⟨#[]⟩)).setCell 1 (.string ⟨#[]⟩)).setCell 2 (.int .i64 0)).setCell 3 (.int .u64 0)).setCell 4 (.string ⟨#[]⟩)).setCell 5 (.slice none 0 0)) rfl rfl Try.underlying54 rfl size54
        ⟨_, rfl, _, rfl, rt_zero _ _, Below.trans kx.out (hu.out.below (by rw [hp.out]; show p ≤ p + 1 + 1; omega))⟩
    · have hg := Hd.mk hg
      obtain ⟨Ku, ku, rfl, _⟩ := hru.row
      have hru := Hd.mk hru
      simp only [cT] at hru ⊢
      have gN := kN.out.cell
      have gE := kE.out.cell
      go_wp2_with ((with_reducible refine stop_at (.load 54 (.tmp 9)) ?_))
      refine Stop.mk ?_
      have kD := Hd.mk (Blk.new wg #[.string u.name, .string u.key, .int .i64 u.kind, .int .u64 u.num, .string u.text, .slice Ku u.kids.length ku] 54)
      have hxA := (Ext.alloc wg (.cells #[.string u.name, .string u.key, .int .i64 u.kind, .int .u64 u.num, .string u.text, .slice Ku u.kids.length ku] 54))
      replace hru := Hd.mk (hru.out.ext hxA)
      replace kx := Hd.mk (kx.out.trans hxA)
      replace kN := Hd.mk (kN.out.ext hxA)
      replace kE := Hd.mk (kE.out.ext hxA)
      replace kR := Hd.mk (kR.out.ext hxA)
      clear hxA
      generalize wg.heap.size = D at *
      generalize wg.alloc _ = wd at *
      clear gN gE
      have gN := kN.out.cell
      have gE := kE.out.cell
      have gD := kD.out.cell
      go_wp2_with fail
      clear gN gE
      clear gD
      refine Calls.mono (ref_same _ u y (fun b => S b ∧ b < p) _ _ _ (Nat.le_refl _) (hru.out) (kry.out.ext kx.out)) ?_
      rintro e ws ⟨rfl, hx⟩
      replace kD := Hd.mk (kD.out.ext hx)
      replace kx := Hd.mk (kx.out.trans hx)
      replace kN := Hd.mk (kN.out.ext hx)
      replace kE := Hd.mk (kE.out.ext hx)
      replace kR := Hd.mk (kR.out.ext hx)
      clear hx
      cases hsm : sameT u y with
      | false =>
        obtain rfl : r = (zeroT, 23) := by rw [← hr0.out]; unfold oneT; rw [if_neg (by simp [List.getLast?_concat, hhy]), if_neg (by simp)]; simp only [hg.out]; rw [if_pos hsm]
        have gN := kN.out.cell
        have gE := kE.out.cell
        clear kN kD
        have gR := kR.out.cell
        have fR := kR.out.free
        go_wp2_with fail
        have hu := Hd.mk ((((((Upd.setCell ws ⟨p + 1 + 1, 0, none⟩ (.string ⟨#[]⟩)).trans (Upd.setCell _ ⟨p + 1 + 1, 1, none⟩ (.string ⟨#[]⟩))).trans (Upd.setCell _ ⟨p + 1 + 1, 2, none⟩ (.int .i64 0))).trans (Upd.setCell _ ⟨p + 1 + 1, 3, none⟩ (.int .u64 0))).trans (Upd.setCell _ ⟨p + 1 + 1, 4, none⟩ (.string ⟨#[]⟩))).trans (Upd.setCell _ ⟨p + 1 + 1, 5, none⟩ (.slice none 0 0)))
        exact ret_box2 rfl (p + 1 + 1) _ 54 _ ((((((kR.out.setCell 0 (.string ⟨#[]⟩)).setCell 1 (.string ⟨#[]⟩)).setCell 2 (.int .i64 0)).setCell 3 (.int .u64 0)).setCell 4 (.string ⟨#[]⟩)).setCell 5 (.slice none 0 0)) rfl rfl Try.underlying54 rfl size54
          ⟨_, rfl, _, rfl, rt_zero _ _, Below.trans kx.out (hu.out.below (by rw [hp.out]; show p ≤ p + 1 + 1; omega))⟩
      | true =>
        have hst := refCut n (init ++ [s]) (fun b => S b ∧ b < p) S ws _ A ac (kr.out.ext kx.out) (kw.out.ext kx.out) (by have := hszH.out; omega)
        rw [show cutR n (init ++ [s]) = r by rw [← hr0.out]; unfold oneT; rw [if_neg (by simp [List.getLast?_concat, hhy]), if_neg (by simp)]; simp only [hg.out]; rw [if_neg (by simp [hsm]), if_pos trivial], hlenH.out] at hst
        replace hst := Hd.mk hst
        obtain ⟨m, rc⟩ := r
        have gN := kN.out.cell
        have gE := kE.out.cell
        go_wp2_with fail
        clear gN gE
        refine Calls.mono hst.out ?_
        rintro e w9 ⟨_, rfl, c9, rfl, hr9, hx9⟩
        obtain ⟨Km, km, rfl, _⟩ := hr9.row
        have hr9 := Hd.mk hr9
        have hW5 := Hd.mk (kR.out.lt)
        simp only [cT] at hr9 ⊢
        replace kx := Hd.mk (kx.out.trans hx9)
        replace kR := Hd.mk (kR.out.ext hx9)
        clear hx9
        have gR := kR.out.cell
        have fR := kR.out.free
        go_wp2_with fail
        have hu := Hd.mk ((((((Upd.setCell w9 ⟨p + 1 + 1, 0, none⟩ (.string m.name)).trans (Upd.setCell _ ⟨p + 1 + 1, 1, none⟩ (.string m.key))).trans (Upd.setCell _ ⟨p + 1 + 1, 2, none⟩ (.int .i64 m.kind))).trans (Upd.setCell _ ⟨p + 1 + 1, 3, none⟩ (.int .u64 m.num))).trans (Upd.setCell _ ⟨p + 1 + 1, 4, none⟩ (.string m.text))).trans (Upd.setCell _ ⟨p + 1 + 1, 5, none⟩ (.slice Km m.kids.length km)))
        exact ret_box2 rfl (p + 1 + 1) _ 54 _ ((((((kR.out.setCell 0 (.string m.name)).setCell 1 (.string m.key)).setCell 2 (.int .i64 m.kind)).setCell 3 (.int .u64 m.num)).setCell 4 (.string m.text)).setCell 5 (.slice Km m.kids.length km)) rfl rfl Try.underlying54 rfl size54
          ⟨_, rfl, _, rfl, RT.keep (S' := fun b => S b ∨ w.heap.size ≤ b) (fun b off v hb hc => ⟨by have := hp.out; have := hW5.out; rcases hb with ⟨h1, _⟩ | h; exact .inl h1; exact .inr (by omega), by rw [← hc]; exact World.cell?_of_block (hu.out.block b (by have := hW5.out; show b ≠ p + 1 + 1; rcases hb with ⟨_, h⟩ | h <;> omega))⟩) hr9.out, Below.trans kx.out (hu.out.below (by rw [hp.out]; show p ≤ p + 1 + 1; omega))⟩
  · rw [decide_eq_false hhy]
    obtain rfl : r = (zeroT, 1) := by rw [← hr0.out]; unfold oneT; rw [if_pos (by right; right; right; exact ⟨by simp, by simp [List.getLast?_concat]; exact fun h => hhy h.symm⟩)]
    have gR := kR.out.cell
    have fR := kR.out.free
    go_wp2_with fail
    have hu := Hd.mk ((((((Upd.setCell wh ⟨p + 1 + 1, 0, none⟩ (.string ⟨#[]⟩)).trans (Upd.setCell _ ⟨p + 1 + 1, 1, none⟩ (.string ⟨#[]⟩))).trans (Upd.setCell _ ⟨p + 1 + 1, 2, none⟩ (.int .i64 0))).trans (Upd.setCell _ ⟨p + 1 + 1, 3, none⟩ (.int .u64 0))).trans (Upd.setCell _ ⟨p + 1 + 1, 4, none⟩ (.string ⟨#[]⟩))).trans (Upd.setCell _ ⟨p + 1 + 1, 5, none⟩ (.slice none 0 0)))
    exact ret_box2 rfl (p + 1 + 1) _ 54 _ ((((((kR.out.setCell 0 (.string ⟨#[]⟩)).setCell 1 (.string ⟨#[]⟩)).setCell 2 (.int .i64 0)).setCell 3 (.int .u64 0)).setCell 4 (.string ⟨#[]⟩)).setCell 5 (.slice none 0 0)) rfl rfl Try.underlying54 rfl size54
      ⟨_, rfl, _, rfl, rt_zero _ _, Below.trans kx.out (hu.out.below (by rw [hp.out]; show p ≤ p + 1 + 1; omega))⟩
set_option maxRecDepth 100000 in
set_option maxHeartbeats 2000000 in
theorem refOne_replace (n : T) (e : E) (S : Nat → Prop) (w : World) (c ce : List Value) (hn : RT S w n c) (he : RE S w e ce) (hsz : n.size + e.node.size ≤ 1048576) (hd : e.kind = 3) (hwy : e.way ≠ []) :
    Calls Try.prog 54 #[.agg c.toArray, .agg ce.toArray] w (Ret (RChg S (oneT n e) w)) := by
  obtain ⟨d, way, x, y⟩ := e
  obtain ⟨A, ac, Kx, kx1, Ky, ky1, rfl, hw, hxr, hyr⟩ := he
  have kr := Hd.mk (hn.mono (S' := fun b => S b ∧ b < w.heap.size) (fun b hb hs => ⟨hs, hb⟩))
  have krx := Hd.mk ((RT.of_row hxr).mono (S' := fun b => S b ∧ b < w.heap.size) (fun b hb hs => ⟨hs, hb⟩))
  have kry := Hd.mk ((RT.of_row hyr).mono (S' := fun b => S b ∧ b < w.heap.size) (fun b hb hs => ⟨hs, hb⟩))
  obtain ⟨K, kc, rfl, hrow⟩ := hn.row
  have hwl := Hd.mk hw.len
  have kw0 := Hd.mk hw
  clear hn hrow hw hxr hyr
  simp only [cT, List.cons_append, List.nil_append] at kr krx kry hsz ⊢
  have hszH := Hd.mk hsz
  clear hsz
  generalize hr0 : oneT n ⟨d, way, x, y⟩ = r
  replace hr0 := Hd.mk hr0
  obtain rfl : d = 3 := hd
  have hwy : way ≠ [] := hwy
  obtain ⟨init, s, rfl⟩ : ∃ init s, way = init ++ [s] := by
    rcases List.eq_nil_or_concat way with h | ⟨init, s, h⟩
    · exact absurd h hwy
    · exact ⟨init, s, by rw [h, List.concat_eq_append]⟩
  have kw := Hd.mk kw0.out
  have hlenH := Hd.mk (show (init ++ [s]).length = init.length + 1 by simp)
  rw [hlenH.out]
  generalize init.length = L at *
  have hlen0 : ((L : Int) + 1 == 0) = false := by rw [beq_eq_false_iff_ne]; omega
  clear hwy kw0
  go_enter Try.func54, Try.ntmps54
  go_wp2_with ((with_reducible refine stop_at (.fieldAddr 68 (.tmp 3) 0) ?_))
  refine Stop.mk ?_
  have kx := Hd.mk (((Ext.alloc w (.cells #[.string n.name, .string n.key, .int .i64 n.kind, .int .u64 n.num, .string n.text, .slice K n.kids.length kc] 54)).trans (Ext.alloc _ (.cells #[.int .i64 3, .slice A (L + 1) ac, .string x.name, .string x.key, .int .i64 x.kind, .int .u64 x.num, .string x.text, .slice Kx x.kids.length kx1, .string y.name, .string y.key, .int .i64 y.kind, .int .u64 y.num, .string y.text, .slice Ky y.kids.length ky1] 68))).trans (Ext.alloc _ (.cells #[.string ⟨#[]⟩, .string ⟨#[]⟩, .int .i64 0, .int .u64 0, .string ⟨#[]⟩, .slice none 0 0] 54)))
  have kN := Hd.mk (((Blk.new w #[.string n.name, .string n.key, .int .i64 n.kind, .int .u64 n.num, .string n.text, .slice K n.kids.length kc] 54).alloc (.cells #[.int .i64 3, .slice A (L + 1) ac, .string x.name, .string x.key, .int .i64 x.kind, .int .u64 x.num, .string x.text, .slice Kx x.kids.length kx1, .string y.name, .string y.key, .int .i64 y.kind, .int .u64 y.num, .string y.text, .slice Ky y.kids.length ky1] 68)).alloc (.cells #[.string ⟨#[]⟩, .string ⟨#[]⟩, .int .i64 0, .int .u64 0, .string ⟨#[]⟩, .slice none 0 0] 54))
  have kE := Hd.mk ((Blk.new2 w (.cells #[.string n.name, .string n.key, .int .i64 n.kind, .int .u64 n.num, .string n.text, .slice K n.kids.length kc] 54) #[.int .i64 3, .slice A (L + 1) ac, .string x.name, .string x.key, .int .i64 x.kind, .int .u64 x.num, .string x.text, .slice Kx x.kids.length kx1, .string y.name, .string y.key, .int .i64 y.kind, .int .u64 y.num, .string y.text, .slice Ky y.kids.length ky1] 68).alloc (.cells #[.string ⟨#[]⟩, .string ⟨#[]⟩, .int .i64 0, .int .u64 0, .string ⟨#[]⟩, .slice none 0 0] 54))
  have kR := Hd.mk (Blk.new3 w (.cells #[.string n.name, .string n.key, .int .i64 n.kind, .int .u64 n.num, .string n.text, .slice K n.kids.length kc] 54) (.cells #[.int .i64 3, .slice A (L + 1) ac, .string x.name, .string x.key, .int .i64 x.kind, .int .u64 x.num, .string x.text, .slice Kx x.kids.length kx1, .string y.name, .string y.key, .int .i64 y.kind, .int .u64 y.num, .string y.text, .slice Ky y.kids.length ky1] 68) #[.string ⟨#[]⟩, .string ⟨#[]⟩, .int .i64 0, .int .u64 0, .string ⟨#[]⟩, .slice none 0 0] 54)
  generalize ((w.alloc _).alloc _).alloc _ = W at *
  generalize hp : w.heap.size = p at *
  replace hp := Hd.mk hp
  have gN := kN.out.cell
  have gE := kE.out.cell
  go_wp2_with fail
  clear gN gE
  have hc := ref_has x Kx kx1 init s _ _ A ac (kw.out.ext kx.out)
  rw [hlenH.out] at hc
  refine Calls.mono hc ?_
  clear hc
  rintro e wh ⟨rfl, hx⟩
  replace kx := Hd.mk (kx.out.trans hx)
  replace kN := Hd.mk (kN.out.ext hx)
  replace kE := Hd.mk (kE.out.ext hx)
  replace kR := Hd.mk (kR.out.ext hx)
  clear hx
  by_cases hhx : stepT x = s
  · rw [decide_eq_true hhx]
    have gN := kN.out.cell
    have gE := kE.out.cell
    go_wp2_with fail
    clear gN gE
    have hc := ref_has y Ky ky1 init s _ _ A ac (kw.out.ext kx.out)
    rw [hlenH.out] at hc
    refine Calls.mono hc ?_
    clear hc
    rintro e wh ⟨rfl, hx⟩
    replace kx := Hd.mk (kx.out.trans hx)
    replace kN := Hd.mk (kN.out.ext hx)
    replace kE := Hd.mk (kE.out.ext hx)
    replace kR := Hd.mk (kR.out.ext hx)
    clear hx
    by_cases hhy : stepT y = s
    · rw [decide_eq_true hhy]
      have gN := kN.out.cell
      have gE := kE.out.cell
      go_wp2_with fail
      clear gN gE
      have hc := ref_get (init ++ [s]) n _ S _ _ A ac (kr.out.ext kx.out) (kw.out.ext kx.out)
      rw [hlenH.out] at hc
      refine Calls.mono hc ?_
      clear hc
      rintro e wg ⟨_, rfl, hx, hh⟩
      replace kx := Hd.mk (kx.out.trans hx)
      replace kN := Hd.mk (kN.out.ext hx)
      replace kE := Hd.mk (kE.out.ext hx)
      replace kR := Hd.mk (kR.out.ext hx)
      clear hx
      rcases hh with ⟨hg, rfl⟩ | ⟨u, c9, hg, rfl, hru⟩
      · have hg := Hd.mk hg
        have gN := kN.out.cell
        have gE := kE.out.cell
        go_wp2_with ((with_reducible refine stop_at (.load 54 (.tmp 9)) ?_))
        refine Stop.mk ?_
        have kD := Hd.mk (Blk.new wg #[.string ⟨#[]⟩, .string ⟨#[]⟩, .int .i64 0, .int .u64 0, .string ⟨#[]⟩, .slice none 0 0] 54)
        have hxA := (Ext.alloc wg (.cells #[.string ⟨#[]⟩, .string ⟨#[]⟩, .int .i64 0, .int .u64 0, .string ⟨#[]⟩, .slice none 0 0] 54))
        replace kx := Hd.mk (kx.out.trans hxA)
        replace kN := Hd.mk (kN.out.ext hxA)
        replace kE := Hd.mk (kE.out.ext hxA)
        replace kR := Hd.mk (kR.out.ext hxA)
        clear hxA
        generalize wg.heap.size = D at *
        generalize wg.alloc _ = wd at *
        clear gN gE
        have gN := kN.out.cell
        have gE := kE.out.cell
        have gD := kD.out.cell
        go_wp2_with fail
        clear gN gE
        clear gD
        refine Calls.mono (ref_same 1 zeroT y (fun b => S b ∧ b < p) _ _ _ (by decide) (rt_zero _ _) (kry.out.ext kx.out)) ?_
        rintro e ws ⟨rfl, hx⟩
        replace kD := Hd.mk (kD.out.ext hx)
        replace kx := Hd.mk (kx.out.trans hx)
        replace kN := Hd.mk (kN.out.ext hx)
        replace kE := Hd.mk (kE.out.ext hx)
        replace kR := Hd.mk (kR.out.ext hx)
        clear hx
        obtain rfl : r = (zeroT, 30) := by rw [← hr0.out]; unfold oneT; rw [if_neg (by simp [List.getLast?_concat, hhx, hhy]), if_neg (by simp)]; simp only [hg.out]
        have gN := kN.out.cell
        have gE := kE.out.cell
        clear kN kD
        have gR := kR.out.cell
        have fR := kR.out.free
        go_wp2_with fail
        have hu := Hd.mk ((((((Upd.setCell ws ⟨p + 1 + 1, 0, none⟩ (.string ⟨#[]⟩)).trans (Upd.setCell _ ⟨p + 1 + 1, 1, none⟩ (.string ⟨#[]⟩))).trans (Upd.setCell _ ⟨p + 1 + 1, 2, none⟩ (.int .i64 0))).trans (Upd.setCell _ ⟨p + 1 + 1, 3, none⟩ (.int .u64 0))).trans (Upd.setCell _ ⟨p + 1 + 1, 4, none⟩ (.string ⟨#[]⟩))).trans (Upd.setCell _ ⟨p + 1 + 1, 5, none⟩ (.slice none 0 0)))
        exact ret_box2 rfl (p + 1 + 1) _ 54 _ ((((((kR.out.setCell 0 (.string ⟨#[]⟩)).setCell 1 (.string ⟨#[]⟩)).setCell 2 (.int .i64 0)).setCell 3 (.int .u64 0)).setCell 4 (.string ⟨#[]⟩)).setCell 5 (.slice none 0 0)) rfl rfl Try.underlying54 rfl size54
          ⟨_, rfl, _, rfl, rt_zero _ _, Below.trans kx.out (hu.out.below (by rw [hp.out]; show p ≤ p + 1 + 1; omega))⟩
      · have hg := Hd.mk hg
        obtain ⟨Ku, ku, rfl, _⟩ := hru.row
        have hru := Hd.mk hru
        simp only [cT] at hru ⊢
        have gN := kN.out.cell
        have gE := kE.out.cell
        go_wp2_with ((with_reducible refine stop_at (.load 54 (.tmp 9)) ?_))
        refine Stop.mk ?_
        have kD := Hd.mk (Blk.new wg #[.string u.name, .string u.key, .int .i64 u.kind, .int .u64 u.num, .string u.text, .slice Ku u.kids.length ku] 54)
        have hxA := (Ext.alloc wg (.cells #[.string u.name, .string u.key, .int .i64 u.kind, .int .u64 u.num, .string u.text, .slice Ku u.kids.length ku] 54))
        replace hru := Hd.mk (hru.out.ext hxA)
        replace kx := Hd.mk (kx.out.trans hxA)
        replace kN := Hd.mk (kN.out.ext hxA)
        replace kE := Hd.mk (kE.out.ext hxA)
        replace kR := Hd.mk (kR.out.ext hxA)
        clear hxA
        generalize wg.heap.size = D at *
        generalize wg.alloc _ = wd at *
        clear gN gE
        have gN := kN.out.cell
        have gE := kE.out.cell
        have gD := kD.out.cell
        go_wp2_with fail
        clear gN gE
        clear gD
        refine Calls.mono (ref_same _ u y (fun b => S b ∧ b < p) _ _ _ (Nat.le_refl _) (hru.out) (kry.out.ext kx.out)) ?_
        rintro e ws ⟨rfl, hx⟩
        replace kD := Hd.mk (kD.out.ext hx)
        replace kx := Hd.mk (kx.out.trans hx)
        replace kN := Hd.mk (kN.out.ext hx)
        replace kE := Hd.mk (kE.out.ext hx)
        replace kR := Hd.mk (kR.out.ext hx)
        clear hx
        cases hsm : sameT u y with
        | false =>
          obtain rfl : r = (zeroT, 23) := by rw [← hr0.out]; unfold oneT; rw [if_neg (by simp [List.getLast?_concat, hhx, hhy]), if_neg (by simp)]; simp only [hg.out]; rw [if_pos hsm]
          have gN := kN.out.cell
          have gE := kE.out.cell
          clear kN kD
          have gR := kR.out.cell
          have fR := kR.out.free
          go_wp2_with fail
          have hu := Hd.mk ((((((Upd.setCell ws ⟨p + 1 + 1, 0, none⟩ (.string ⟨#[]⟩)).trans (Upd.setCell _ ⟨p + 1 + 1, 1, none⟩ (.string ⟨#[]⟩))).trans (Upd.setCell _ ⟨p + 1 + 1, 2, none⟩ (.int .i64 0))).trans (Upd.setCell _ ⟨p + 1 + 1, 3, none⟩ (.int .u64 0))).trans (Upd.setCell _ ⟨p + 1 + 1, 4, none⟩ (.string ⟨#[]⟩))).trans (Upd.setCell _ ⟨p + 1 + 1, 5, none⟩ (.slice none 0 0)))
          exact ret_box2 rfl (p + 1 + 1) _ 54 _ ((((((kR.out.setCell 0 (.string ⟨#[]⟩)).setCell 1 (.string ⟨#[]⟩)).setCell 2 (.int .i64 0)).setCell 3 (.int .u64 0)).setCell 4 (.string ⟨#[]⟩)).setCell 5 (.slice none 0 0)) rfl rfl Try.underlying54 rfl size54
            ⟨_, rfl, _, rfl, rt_zero _ _, Below.trans kx.out (hu.out.below (by rw [hp.out]; show p ≤ p + 1 + 1; omega))⟩
        | true =>
          by_cases hkx : x.kind = 0
          · have qx : (x.kind == 0) = true := by simpa using hkx
            obtain rfl : r = (zeroT, 23) := by rw [← hr0.out]; unfold oneT; rw [if_neg (by simp [List.getLast?_concat, hhx, hhy]), if_neg (by simp)]; simp only [hg.out]; rw [if_neg (by simp [hsm]), if_neg (by simp), if_pos (.inl hkx)]
            have gN := kN.out.cell
            have gE := kE.out.cell
            clear kN kD
            have gR := kR.out.cell
            have fR := kR.out.free
            go_wp2_with fail
            have hu := Hd.mk ((((((Upd.setCell ws ⟨p + 1 + 1, 0, none⟩ (.string ⟨#[]⟩)).trans (Upd.setCell _ ⟨p + 1 + 1, 1, none⟩ (.string ⟨#[]⟩))).trans (Upd.setCell _ ⟨p + 1 + 1, 2, none⟩ (.int .i64 0))).trans (Upd.setCell _ ⟨p + 1 + 1, 3, none⟩ (.int .u64 0))).trans (Upd.setCell _ ⟨p + 1 + 1, 4, none⟩ (.string ⟨#[]⟩))).trans (Upd.setCell _ ⟨p + 1 + 1, 5, none⟩ (.slice none 0 0)))
            exact ret_box2 rfl (p + 1 + 1) _ 54 _ ((((((kR.out.setCell 0 (.string ⟨#[]⟩)).setCell 1 (.string ⟨#[]⟩)).setCell 2 (.int .i64 0)).setCell 3 (.int .u64 0)).setCell 4 (.string ⟨#[]⟩)).setCell 5 (.slice none 0 0)) rfl rfl Try.underlying54 rfl size54
              ⟨_, rfl, _, rfl, rt_zero _ _, Below.trans kx.out (hu.out.below (by rw [hp.out]; show p ≤ p + 1 + 1; omega))⟩
          · have qx : (x.kind == 0) = false := by simpa using hkx
            by_cases hky : y.kind = 0
            · have qy : (y.kind == 0) = true := by simpa using hky
              obtain rfl : r = (zeroT, 23) := by rw [← hr0.out]; unfold oneT; rw [if_neg (by simp [List.getLast?_concat, hhx, hhy]), if_neg (by simp)]; simp only [hg.out]; rw [if_neg (by simp [hsm]), if_neg (by simp), if_pos (.inr hky)]
              have gN := kN.out.cell
              have gE := kE.out.cell
              clear kN kD
              have gR := kR.out.cell
              have fR := kR.out.free
              go_wp2_with fail
              have hu := Hd.mk ((((((Upd.setCell ws ⟨p + 1 + 1, 0, none⟩ (.string ⟨#[]⟩)).trans (Upd.setCell _ ⟨p + 1 + 1, 1, none⟩ (.string ⟨#[]⟩))).trans (Upd.setCell _ ⟨p + 1 + 1, 2, none⟩ (.int .i64 0))).trans (Upd.setCell _ ⟨p + 1 + 1, 3, none⟩ (.int .u64 0))).trans (Upd.setCell _ ⟨p + 1 + 1, 4, none⟩ (.string ⟨#[]⟩))).trans (Upd.setCell _ ⟨p + 1 + 1, 5, none⟩ (.slice none 0 0)))
              exact ret_box2 rfl (p + 1 + 1) _ 54 _ ((((((kR.out.setCell 0 (.string ⟨#[]⟩)).setCell 1 (.string ⟨#[]⟩)).setCell 2 (.int .i64 0)).setCell 3 (.int .u64 0)).setCell 4 (.string ⟨#[]⟩)).setCell 5 (.slice none 0 0)) rfl rfl Try.underlying54 rfl size54
                ⟨_, rfl, _, rfl, rt_zero _ _, Below.trans kx.out (hu.out.below (by rw [hp.out]; show p ≤ p + 1 + 1; omega))⟩
            · have qy : (y.kind == 0) = false := by simpa using hky
              have hst := refSet n x (init ++ [s]) (fun b => S b ∧ b < p) S ws _ _ A ac (kr.out.ext kx.out) (krx.out.ext kx.out) (kw.out.ext kx.out) hszH.out
              rw [show setR n (init ++ [s]) x = r by rw [← hr0.out]; unfold oneT; rw [if_neg (by simp [List.getLast?_concat, hhx, hhy]), if_neg (by simp)]; simp only [hg.out]; rw [if_neg (by simp [hsm]), if_neg (by simp), if_neg (by simp [hkx, hky])], hlenH.out] at hst
              replace hst := Hd.mk hst
              obtain ⟨m, rc⟩ := r
              have gN := kN.out.cell
              have gE := kE.out.cell
              go_wp2_with fail
              clear gN gE
              refine Calls.mono hst.out ?_
              rintro e w9 ⟨_, rfl, c9, rfl, hr9, hx9⟩
              obtain ⟨Km, km, rfl, _⟩ := hr9.row
              have hr9 := Hd.mk hr9
              have hW5 := Hd.mk (kR.out.lt)
              simp only [cT] at hr9 ⊢
              replace kx := Hd.mk (kx.out.trans hx9)
              replace kR := Hd.mk (kR.out.ext hx9)
              clear hx9
              have gR := kR.out.cell
              have fR := kR.out.free
              go_wp2_with fail
              have hu := Hd.mk ((((((Upd.setCell w9 ⟨p + 1 + 1, 0, none⟩ (.string m.name)).trans (Upd.setCell _ ⟨p + 1 + 1, 1, none⟩ (.string m.key))).trans (Upd.setCell _ ⟨p + 1 + 1, 2, none⟩ (.int .i64 m.kind))).trans (Upd.setCell _ ⟨p + 1 + 1, 3, none⟩ (.int .u64 m.num))).trans (Upd.setCell _ ⟨p + 1 + 1, 4, none⟩ (.string m.text))).trans (Upd.setCell _ ⟨p + 1 + 1, 5, none⟩ (.slice Km m.kids.length km)))
              exact ret_box2 rfl (p + 1 + 1) _ 54 _ ((((((kR.out.setCell 0 (.string m.name)).setCell 1 (.string m.key)).setCell 2 (.int .i64 m.kind)).setCell 3 (.int .u64 m.num)).setCell 4 (.string m.text)).setCell 5 (.slice Km m.kids.length km)) rfl rfl Try.underlying54 rfl size54
                ⟨_, rfl, _, rfl, RT.keep (S' := fun b => S b ∨ w.heap.size ≤ b) (fun b off v hb hc => ⟨by have := hp.out; have := hW5.out; rcases hb with ⟨h1, _⟩ | h; exact .inl h1; exact .inr (by omega), by rw [← hc]; exact World.cell?_of_block (hu.out.block b (by have := hW5.out; show b ≠ p + 1 + 1; rcases hb with ⟨_, h⟩ | h <;> omega))⟩) hr9.out, Below.trans kx.out (hu.out.below (by rw [hp.out]; show p ≤ p + 1 + 1; omega))⟩
    · rw [decide_eq_false hhy]
      obtain rfl : r = (zeroT, 1) := by rw [← hr0.out]; unfold oneT; rw [if_pos (by right; right; right; exact ⟨by simp, by simp [List.getLast?_concat]; exact fun h => hhy h.symm⟩)]
      have gR := kR.out.cell
      have fR := kR.out.free
      go_wp2_with fail
      have hu := Hd.mk ((((((Upd.setCell wh ⟨p + 1 + 1, 0, none⟩ (.string ⟨#[]⟩)).trans (Upd.setCell _ ⟨p + 1 + 1, 1, none⟩ (.string ⟨#[]⟩))).trans (Upd.setCell _ ⟨p + 1 + 1, 2, none⟩ (.int .i64 0))).trans (Upd.setCell _ ⟨p + 1 + 1, 3, none⟩ (.int .u64 0))).trans (Upd.setCell _ ⟨p + 1 + 1, 4, none⟩ (.string ⟨#[]⟩))).trans (Upd.setCell _ ⟨p + 1 + 1, 5, none⟩ (.slice none 0 0)))
      exact ret_box2 rfl (p + 1 + 1) _ 54 _ ((((((kR.out.setCell 0 (.string ⟨#[]⟩)).setCell 1 (.string ⟨#[]⟩)).setCell 2 (.int .i64 0)).setCell 3 (.int .u64 0)).setCell 4 (.string ⟨#[]⟩)).setCell 5 (.slice none 0 0)) rfl rfl Try.underlying54 rfl size54
        ⟨_, rfl, _, rfl, rt_zero _ _, Below.trans kx.out (hu.out.below (by rw [hp.out]; show p ≤ p + 1 + 1; omega))⟩
  · rw [decide_eq_false hhx]
    obtain rfl : r = (zeroT, 1) := by rw [← hr0.out]; unfold oneT; rw [if_pos (by right; right; left; exact ⟨by simp, by simp [List.getLast?_concat]; exact fun h => hhx h.symm⟩)]
    have gR := kR.out.cell
    have fR := kR.out.free
    go_wp2_with fail
    have hu := Hd.mk ((((((Upd.setCell wh ⟨p + 1 + 1, 0, none⟩ (.string ⟨#[]⟩)).trans (Upd.setCell _ ⟨p + 1 + 1, 1, none⟩ (.string ⟨#[]⟩))).trans (Upd.setCell _ ⟨p + 1 + 1, 2, none⟩ (.int .i64 0))).trans (Upd.setCell _ ⟨p + 1 + 1, 3, none⟩ (.int .u64 0))).trans (Upd.setCell _ ⟨p + 1 + 1, 4, none⟩ (.string ⟨#[]⟩))).trans (Upd.setCell _ ⟨p + 1 + 1, 5, none⟩ (.slice none 0 0)))
    exact ret_box2 rfl (p + 1 + 1) _ 54 _ ((((((kR.out.setCell 0 (.string ⟨#[]⟩)).setCell 1 (.string ⟨#[]⟩)).setCell 2 (.int .i64 0)).setCell 3 (.int .u64 0)).setCell 4 (.string ⟨#[]⟩)).setCell 5 (.slice none 0 0)) rfl rfl Try.underlying54 rfl size54
      ⟨_, rfl, _, rfl, rt_zero _ _, Below.trans kx.out (hu.out.below (by rw [hp.out]; show p ≤ p + 1 + 1; omega))⟩
theorem refOne (n : T) (e : E) (S : Nat → Prop) (w : World) (c ce : List Value) (hn : RT S w n c) (he : RE S w e ce) (hsz : n.size + e.node.size ≤ 1048576) :
    Calls Try.prog 54 #[.agg c.toArray, .agg ce.toArray] w (Ret (RChg S (oneT n e) w)) := by
  by_cases h : e.kind = 1 ∨ e.kind = 2 ∨ e.kind = 3
  · by_cases hw : e.way = []
    · exact refOne_nil n e S w c ce hn he hsz h hw
    · rcases h with h | h | h
      · exact refOne_create n e S w c ce hn he hsz h hw
      · exact refOne_delete n e S w c ce hn he hsz h hw
      · exact refOne_replace n e S w c ce hn he hsz h hw
  · exact refOne_other n e S w c ce hn he hsz ⟨fun h1 => h (.inl h1), fun h1 => h (.inr (.inl h1)), fun h1 => h (.inr (.inr h1))⟩
end Go.Proofs.Ytgkgedjmnbjalaa
set_option linter.unusedSimpArgs false
namespace Go.Proofs.Ytgkgedjmnbjalaa
open Go.RowKit Go.Sort
def cWk (n x y z : T) (Kn Kx Ky Kz : Option Addr) (kn kx1 ky1 kz : Nat) (d : Int) (b2 o2 L ac : Nat) (iz : Bool) : List Value := [.string n.name, .string n.key, .int .i64 n.kind, .int .u64 n.num, .string n.text, .slice Kn n.kids.length kn, .int .i64 d, .slice (some ⟨b2, o2, none⟩) (L + 1) ac, .string x.name, .string x.key, .int .i64 x.kind, .int .u64 x.num, .string x.text, .slice Kx x.kids.length kx1, .string y.name, .string y.key, .int .i64 y.kind, .int .u64 y.num, .string y.text, .slice Ky y.kids.length ky1, .string z.name, .string z.key, .int .i64 z.kind, .int .u64 z.num, .string z.text, .slice Kz z.kids.length kz, .bool iz]
set_option maxRecDepth 100000 in
set_option maxHeartbeats 2000000 in
theorem work_has (m n x y z : T) (Km Kn Kx Ky Kz : Option Addr) (km kn kx1 ky1 kz : Nat) (d : Int) (b2 o2 L ac : Nat) (iz : Bool) (s : Step) (w : World) (g : Nat) (hL : L + 1 ≤ 1048576) (hg : Blk w g (cWk n x y z Kn Kx Ky Kz kn kx1 ky1 kz d b2 o2 L ac iz) 126)
    (hdk : ∀ (j : Nat) v, [Value.string s.1, .string s.2][j]? = some v → w.cell? ⟨b2, o2 + L * 2 + j, none⟩ = some v) :
    Calls Try.prog 143 #[.pointer (some ⟨g, 0, none⟩), .agg #[.string m.name, .string m.key, .int .i64 m.kind, .int .u64 m.num, .string m.text, .slice Km m.kids.length km]] w fun e w' => e = .returned (.bool (decide (stepT m = s))) ∧ Ext w w' := by
  obtain ⟨s1, s2⟩ := s
  have kG := Hd.mk (show Blk w g [.string n.name, .string n.key, .int .i64 n.kind, .int .u64 n.num, .string n.text, .slice Kn n.kids.length kn, .int .i64 d, .slice (some ⟨b2, o2, none⟩) (L + 1) ac, .string x.name, .string x.key, .int .i64 x.kind, .int .u64 x.num, .string x.text, .slice Kx x.kids.length kx1, .string y.name, .string y.key, .int .i64 y.kind, .int .u64 y.num, .string y.text, .slice Ky y.kids.length ky1, .string z.name, .string z.key, .int .i64 z.kind, .int .u64 z.num, .string z.text, .slice Kz z.kids.length kz, .bool iz] 126 from hg)
  have hdk := Hd.mk hdk
  clear hg
  generalize hr : decide (stepT m = (s1, s2)) = r
  replace hr := Hd.mk hr
  have sN := str_eq m.name s1
  have sK := str_eq m.key s2
  have hLi : (L : Int) < (L : Int) + 1 := by omega
  have hLl : L < L + 1 := by omega
  go_enter Try.func143, Try.ntmps143
  go_wp2_with fail
  have kx := Hd.mk (Ext.alloc w (.cells #[.string m.name, .string m.key, .int .i64 m.kind, .int .u64 m.num, .string m.text, .slice Km m.kids.length km] 54))
  have kM := Hd.mk (Blk.new w #[.string m.name, .string m.key, .int .i64 m.kind, .int .u64 m.num, .string m.text, .slice Km m.kids.length km] 54)
  replace kG := Hd.mk (kG.out.ext kx.out)
  have kcy := Hd.mk (fun (q : Nat) u hq => Ext.cell kx.out (hdk.out q u hq))
  generalize w.heap.size = pM at *
  generalize w.alloc _ = W at *
  clear hdk
  by_cases h1 : m.name = s1 ∧ m.key = s2
  · obtain ⟨rfl, rfl⟩ := h1
    obtain rfl : r = true := by rw [← hr.out]; simp [stepT]
    clear hr
    refine Flow.wp_region_flow_l (fun qq => match qq with
      | 5 => SP.eq (.pointer (some ⟨g, 0, none⟩))
      | 6 => SP.eq (.pointer (some ⟨g, 0, none⟩))
      | 7 => SP.eq (.pointer (some ⟨g, 6, none⟩))
      | 8 => SP.eq (.pointer (some ⟨g, 7, none⟩))
      | 9 => SP.eq (.slice (some ⟨b2, o2, none⟩) (L + 1) ac)
      | 10 => SP.eq (.pointer (some ⟨g, 0, none⟩))
      | 11 => SP.eq (.pointer (some ⟨g, 0, none⟩))
      | 12 => SP.eq (.pointer (some ⟨g, 6, none⟩))
      | 13 => SP.eq (.pointer (some ⟨g, 7, none⟩))
      | 14 => SP.eq (.slice (some ⟨b2, o2, none⟩) (L + 1) ac)
      | 15 => SP.eq (.int .i64 ((L + 1) : Nat))
      | 16 => SP.eq (.int .i64 (L : Nat))
      | 17 => SP.eq (.pointer (some ⟨b2, o2 + L * 2, none⟩))
      | 18 => SP.eq (.agg #[.string m.name, .string m.key])
      | 19 => SP.eq (.pointer (some ⟨pM, 0, none⟩))
      | 20 => SP.eq (.string m.name)
      | 21 => SP.eq (.pointer (some ⟨pM, 1, none⟩))
      | 22 => SP.eq (.string m.key)
      | 23 => SP.eq (.agg #[.string m.name, .string m.key])
      | 24 => SP.eq (.bool true)
      | 4 => SP.eq (.bool true)
      | _ => SP.any) 21 (by kernel_rfl) 25 rfl (by kernel_rfl) ?_ ?_
    · skip
      refine ⟨?_, ?_, ?_, ?_, ?_, ?_, ?_, ?_, ?_, ?_, ?_, ?_, ?_, ?_, ?_, ?_, ?_, ?_, ?_, ?_, ?_, trivial⟩
      · intro act W2 hk
        refine Flow.does_intro rfl (fun Kq hK => ?_)
        have e0 : act.tmps[0]?.getD undef = .pointer (some ⟨g, 0, none⟩) := hk.o 0 (by kernel_rfl)
        clear hk
        go_simp
        exact hK _ _ (Ext.refl _) (fun d hd => by cases hd; rfl)
      · intro act W2 hk
        refine Flow.does_intro rfl (fun Kq hK => ?_)
        have e5 : act.tmps[5]?.getD undef = .pointer (some ⟨g, 0, none⟩) := hk.v 5 (by kernel_rfl)
        clear hk
        go_simp
        exact hK _ _ (Ext.refl _) (fun d hd => by cases hd; rfl)
      · intro act W2 hk
        refine Flow.does_intro rfl (fun Kq hK => ?_)
        have e6 : act.tmps[6]?.getD undef = .pointer (some ⟨g, 0, none⟩) := hk.v 6 (by kernel_rfl)
        clear hk
        go_simp
        exact hK _ _ (Ext.refl _) (fun d hd => by cases hd; rfl)
      · intro act W2 hk
        refine Flow.does_intro rfl (fun Kq hK => ?_)
        have e7 : act.tmps[7]?.getD undef = .pointer (some ⟨g, 6, none⟩) := hk.v 7 (by kernel_rfl)
        clear hk
        go_simp
        exact hK _ _ (Ext.refl _) (fun d hd => by cases hd; rfl)
      · intro act W2 hk
        refine Flow.does_intro rfl (fun Kq hK => ?_)
        have e8 : act.tmps[8]?.getD undef = .pointer (some ⟨g, 7, none⟩) := hk.v 8 (by kernel_rfl)
        have g := ((kG.out).ext ((Ext.drew W).trans hk.ext)).cell
        clear hk
        go_simp
        exact hK _ _ (Ext.refl _) (fun d hd => by cases hd; rfl)
      · intro act W2 hk
        refine Flow.does_intro rfl (fun Kq hK => ?_)
        have e0 : act.tmps[0]?.getD undef = .pointer (some ⟨g, 0, none⟩) := hk.o 0 (by kernel_rfl)
        clear hk
        go_simp
        exact hK _ _ (Ext.refl _) (fun d hd => by cases hd; rfl)
      · intro act W2 hk
        refine Flow.does_intro rfl (fun Kq hK => ?_)
        have e10 : act.tmps[10]?.getD undef = .pointer (some ⟨g, 0, none⟩) := hk.v 10 (by kernel_rfl)
        clear hk
        go_simp
        exact hK _ _ (Ext.refl _) (fun d hd => by cases hd; rfl)
      · intro act W2 hk
        refine Flow.does_intro rfl (fun Kq hK => ?_)
        have e11 : act.tmps[11]?.getD undef = .pointer (some ⟨g, 0, none⟩) := hk.v 11 (by kernel_rfl)
        clear hk
        go_simp
        exact hK _ _ (Ext.refl _) (fun d hd => by cases hd; rfl)
      · intro act W2 hk
        refine Flow.does_intro rfl (fun Kq hK => ?_)
        have e12 : act.tmps[12]?.getD undef = .pointer (some ⟨g, 6, none⟩) := hk.v 12 (by kernel_rfl)
        clear hk
        go_simp
        exact hK _ _ (Ext.refl _) (fun d hd => by cases hd; rfl)
      · intro act W2 hk
        refine Flow.does_intro rfl (fun Kq hK => ?_)
        have e13 : act.tmps[13]?.getD undef = .pointer (some ⟨g, 7, none⟩) := hk.v 13 (by kernel_rfl)
        have g := ((kG.out).ext ((Ext.drew W).trans hk.ext)).cell
        clear hk
        go_simp
        exact hK _ _ (Ext.refl _) (fun d hd => by cases hd; rfl)
      · intro act W2 hk
        refine Flow.does_intro rfl (fun Kq hK => ?_)
        have e14 : act.tmps[14]?.getD undef = .slice (some ⟨b2, o2, none⟩) (L + 1) ac := hk.v 14 (by kernel_rfl)
        clear hk
        go_simp
        exact hK _ _ (Ext.refl _) (fun d hd => by cases hd; rfl)
      · intro act W2 hk
        refine Flow.does_intro rfl (fun Kq hK => ?_)
        have e15 : act.tmps[15]?.getD undef = .int .i64 ((L + 1) : Nat) := hk.v 15 (by kernel_rfl)
        clear hk
        go_simp
        exact hK _ _ (Ext.refl _) (fun d hd => by cases hd; first | rfl | (simp [SP.eq]; rw [IntKind.wrap_i64]; omega))
      · intro act W2 hk
        refine Flow.does_intro rfl (fun Kq hK => ?_)
        have e9 : act.tmps[9]?.getD undef = .slice (some ⟨b2, o2, none⟩) (L + 1) ac := hk.v 9 (by kernel_rfl)
        have e16 : act.tmps[16]?.getD undef = .int .i64 (L : Nat) := hk.v 16 (by kernel_rfl)
        clear hk
        go_simp
        exact hK _ _ (Ext.refl _) (fun d hd => by cases hd; rfl)
      · intro act W2 hk
        refine Flow.does_intro rfl (fun Kq hK => ?_)
        have e17 : act.tmps[17]?.getD undef = .pointer (some ⟨b2, o2 + L * 2, none⟩) := hk.v 17 (by kernel_rfl)
        have g0 := Ext.cell ((Ext.drew W).trans hk.ext) ((kcy.out) 0 _ rfl)
        rw [Nat.add_zero] at g0
        have g1 := Ext.cell ((Ext.drew W).trans hk.ext) ((kcy.out) 1 _ rfl)
        clear hk
        go_simp
        exact hK _ _ (Ext.refl _) (fun d hd => by cases hd; rfl)
      · intro act W2 hk
        refine Flow.does_intro rfl (fun Kq hK => ?_)
        have e3 : act.tmps[3]?.getD undef = .pointer (some ⟨pM, 0, none⟩) := hk.o 3 (by kernel_rfl)
        clear hk
        go_simp
        exact hK _ _ (Ext.refl _) (fun d hd => by cases hd; rfl)
      · intro act W2 hk
        refine Flow.does_intro rfl (fun Kq hK => ?_)
        have e19 : act.tmps[19]?.getD undef = .pointer (some ⟨pM, 0, none⟩) := hk.v 19 (by kernel_rfl)
        have g := ((kM.out).ext ((Ext.drew W).trans hk.ext)).cell
        clear hk
        go_simp
        exact hK _ _ (Ext.refl _) (fun d hd => by cases hd; rfl)
      · intro act W2 hk
        refine Flow.does_intro rfl (fun Kq hK => ?_)
        have e3 : act.tmps[3]?.getD undef = .pointer (some ⟨pM, 0, none⟩) := hk.o 3 (by kernel_rfl)
        clear hk
        go_simp
        exact hK _ _ (Ext.refl _) (fun d hd => by cases hd; rfl)
      · intro act W2 hk
        refine Flow.does_intro rfl (fun Kq hK => ?_)
        have e21 : act.tmps[21]?.getD undef = .pointer (some ⟨pM, 1, none⟩) := hk.v 21 (by kernel_rfl)
        have g := ((kM.out).ext ((Ext.drew W).trans hk.ext)).cell
        clear hk
        go_simp
        exact hK _ _ (Ext.refl _) (fun d hd => by cases hd; rfl)
      · intro act W2 hk
        refine Flow.does_intro rfl (fun Kq hK => ?_)
        have e20 : act.tmps[20]?.getD undef = .string m.name := hk.v 20 (by kernel_rfl)
        have e22 : act.tmps[22]?.getD undef = .string m.key := hk.v 22 (by kernel_rfl)
        clear hk
        go_simp
        exact hK _ _ (Ext.refl _) (fun d hd => by cases hd; rfl)
      · intro act W2 hk
        refine Flow.does_intro rfl (fun Kq hK => ?_)
        have e18 : act.tmps[18]?.getD undef = .agg #[.string m.name, .string m.key] := hk.v 18 (by kernel_rfl)
        have e23 : act.tmps[23]?.getD undef = .agg #[.string m.name, .string m.key] := hk.v 23 (by kernel_rfl)
        clear hk
        go_simp
        exact hK _ _ (Ext.refl _) (fun d hd => by cases hd; rfl)
      · intro act W2 hk
        refine Flow.does_intro rfl (fun Kq hK => ?_)
        have e24 : act.tmps[24]?.getD undef = .bool true := hk.v 24 (by kernel_rfl)
        clear hk
        go_simp
        exact hK _ _ (Ext.refl _) (fun d hd => by cases hd; rfl)
    · intro act W2 he
      have hxW2 := Hd.mk ((Ext.drew W).trans he.ext)
      obtain ⟨us, hA, hF⟩ := he.out [5, 6, 7, 8, 9, 10, 11, 12, 13, 14, 15, 16, 17, 18, 19, 20, 21, 22, 23, 24, 4] (by kernel_rfl)
      simp only [Flow.fillL, List.contains_cons, List.contains_nil, Nat.reduceBEq, Bool.or_false, Bool.false_or, Bool.or_true, Bool.true_or, ↓reduceIte, Nat.reduceAdd, Bool.false_eq_true] at hA
      subst hA
      have f4 : us 4 = .bool true := hF 4 (by simp)
      clear hF he
      rw [f4]
      clear f4
      refine (show wpList _ _ _ [] _ _ from ?_)
      go_wp2_with fail
      go_ret
      exact ⟨rfl, kx.out.trans hxW2.out⟩
  · obtain rfl : r = false := by rw [← hr.out]; simp only [stepT, Prod.mk.injEq, decide_eq_false_iff_not]; exact h1
    have hv := not2 (show ¬ (s1 = m.name ∧ s2 = m.key) from fun h => h1 ⟨h.1.symm, h.2.symm⟩)
    have hv := Hd.mk hv
    clear hr sN sK h1
    refine Flow.wp_region_flow_l (fun qq => match qq with
      | 5 => SP.eq (.pointer (some ⟨g, 0, none⟩))
      | 6 => SP.eq (.pointer (some ⟨g, 0, none⟩))
      | 7 => SP.eq (.pointer (some ⟨g, 6, none⟩))
      | 8 => SP.eq (.pointer (some ⟨g, 7, none⟩))
      | 9 => SP.eq (.slice (some ⟨b2, o2, none⟩) (L + 1) ac)
      | 10 => SP.eq (.pointer (some ⟨g, 0, none⟩))
      | 11 => SP.eq (.pointer (some ⟨g, 0, none⟩))
      | 12 => SP.eq (.pointer (some ⟨g, 6, none⟩))
      | 13 => SP.eq (.pointer (some ⟨g, 7, none⟩))
      | 14 => SP.eq (.slice (some ⟨b2, o2, none⟩) (L + 1) ac)
      | 15 => SP.eq (.int .i64 ((L + 1) : Nat))
      | 16 => SP.eq (.int .i64 (L : Nat))
      | 17 => SP.eq (.pointer (some ⟨b2, o2 + L * 2, none⟩))
      | 18 => SP.eq (.agg #[.string s1, .string s2])
      | 19 => SP.eq (.pointer (some ⟨pM, 0, none⟩))
      | 20 => SP.eq (.string m.name)
      | 21 => SP.eq (.pointer (some ⟨pM, 1, none⟩))
      | 22 => SP.eq (.string m.key)
      | 23 => SP.eq (.agg #[.string m.name, .string m.key])
      | 24 => SP.eq (.bool false)
      | 4 => SP.eq (.bool false)
      | _ => SP.any) 21 (by kernel_rfl) 25 rfl (by kernel_rfl) ?_ ?_
    · skip
      refine ⟨?_, ?_, ?_, ?_, ?_, ?_, ?_, ?_, ?_, ?_, ?_, ?_, ?_, ?_, ?_, ?_, ?_, ?_, ?_, ?_, ?_, trivial⟩
      · intro act W2 hk
        refine Flow.does_intro rfl (fun Kq hK => ?_)
        have e0 : act.tmps[0]?.getD undef = .pointer (some ⟨g, 0, none⟩) := hk.o 0 (by kernel_rfl)
        clear hk
        go_simp
        exact hK _ _ (Ext.refl _) (fun d hd => by cases hd; rfl)
      · intro act W2 hk
        refine Flow.does_intro rfl (fun Kq hK => ?_)
        have e5 : act.tmps[5]?.getD undef = .pointer (some ⟨g, 0, none⟩) := hk.v 5 (by kernel_rfl)
        clear hk
        go_simp
        exact hK _ _ (Ext.refl _) (fun d hd => by cases hd; rfl)
      · intro act W2 hk
        refine Flow.does_intro rfl (fun Kq hK => ?_)
        have e6 : act.tmps[6]?.getD undef = .pointer (some ⟨g, 0, none⟩) := hk.v 6 (by kernel_rfl)
        clear hk
        go_simp
        exact hK _ _ (Ext.refl _) (fun d hd => by cases hd; rfl)
      · intro act W2 hk
        refine Flow.does_intro rfl (fun Kq hK => ?_)
        have e7 : act.tmps[7]?.getD undef = .pointer (some ⟨g, 6, none⟩) := hk.v 7 (by kernel_rfl)
        clear hk
        go_simp
        exact hK _ _ (Ext.refl _) (fun d hd => by cases hd; rfl)
      · intro act W2 hk
        refine Flow.does_intro rfl (fun Kq hK => ?_)
        have e8 : act.tmps[8]?.getD undef = .pointer (some ⟨g, 7, none⟩) := hk.v 8 (by kernel_rfl)
        have g := ((kG.out).ext ((Ext.drew W).trans hk.ext)).cell
        clear hk
        go_simp
        exact hK _ _ (Ext.refl _) (fun d hd => by cases hd; rfl)
      · intro act W2 hk
        refine Flow.does_intro rfl (fun Kq hK => ?_)
        have e0 : act.tmps[0]?.getD undef = .pointer (some ⟨g, 0, none⟩) := hk.o 0 (by kernel_rfl)
        clear hk
        go_simp
        exact hK _ _ (Ext.refl _) (fun d hd => by cases hd; rfl)
      · intro act W2 hk
        refine Flow.does_intro rfl (fun Kq hK => ?_)
        have e10 : act.tmps[10]?.getD undef = .pointer (some ⟨g, 0, none⟩) := hk.v 10 (by kernel_rfl)
        clear hk
        go_simp
        exact hK _ _ (Ext.refl _) (fun d hd => by cases hd; rfl)
      · intro act W2 hk
        refine Flow.does_intro rfl (fun Kq hK => ?_)
        have e11 : act.tmps[11]?.getD undef = .pointer (some ⟨g, 0, none⟩) := hk.v 11 (by kernel_rfl)
        clear hk
        go_simp
        exact hK _ _ (Ext.refl _) (fun d hd => by cases hd; rfl)
      · intro act W2 hk
        refine Flow.does_intro rfl (fun Kq hK => ?_)
        have e12 : act.tmps[12]?.getD undef = .pointer (some ⟨g, 6, none⟩) := hk.v 12 (by kernel_rfl)
        clear hk
        go_simp
        exact hK _ _ (Ext.refl _) (fun d hd => by cases hd; rfl)
      · intro act W2 hk
        refine Flow.does_intro rfl (fun Kq hK => ?_)
        have e13 : act.tmps[13]?.getD undef = .pointer (some ⟨g, 7, none⟩) := hk.v 13 (by kernel_rfl)
        have g := ((kG.out).ext ((Ext.drew W).trans hk.ext)).cell
        clear hk
        go_simp
        exact hK _ _ (Ext.refl _) (fun d hd => by cases hd; rfl)
      · intro act W2 hk
        refine Flow.does_intro rfl (fun Kq hK => ?_)
        have e14 : act.tmps[14]?.getD undef = .slice (some ⟨b2, o2, none⟩) (L + 1) ac := hk.v 14 (by kernel_rfl)
        clear hk
        go_simp
        exact hK _ _ (Ext.refl _) (fun d hd => by cases hd; rfl)
      · intro act W2 hk
        refine Flow.does_intro rfl (fun Kq hK => ?_)
        have e15 : act.tmps[15]?.getD undef = .int .i64 ((L + 1) : Nat) := hk.v 15 (by kernel_rfl)
        clear hk
        go_simp
        exact hK _ _ (Ext.refl _) (fun d hd => by cases hd; first | rfl | (simp [SP.eq]; rw [IntKind.wrap_i64]; omega))
      · intro act W2 hk
        refine Flow.does_intro rfl (fun Kq hK => ?_)
        have e9 : act.tmps[9]?.getD undef = .slice (some ⟨b2, o2, none⟩) (L + 1) ac := hk.v 9 (by kernel_rfl)
        have e16 : act.tmps[16]?.getD undef = .int .i64 (L : Nat) := hk.v 16 (by kernel_rfl)
        clear hk
        go_simp
        exact hK _ _ (Ext.refl _) (fun d hd => by cases hd; rfl)
      · intro act W2 hk
        refine Flow.does_intro rfl (fun Kq hK => ?_)
        have e17 : act.tmps[17]?.getD undef = .pointer (some ⟨b2, o2 + L * 2, none⟩) := hk.v 17 (by kernel_rfl)
        have g0 := Ext.cell ((Ext.drew W).trans hk.ext) ((kcy.out) 0 _ rfl)
        rw [Nat.add_zero] at g0
        have g1 := Ext.cell ((Ext.drew W).trans hk.ext) ((kcy.out) 1 _ rfl)
        clear hk
        go_simp
        exact hK _ _ (Ext.refl _) (fun d hd => by cases hd; rfl)
      · intro act W2 hk
        refine Flow.does_intro rfl (fun Kq hK => ?_)
        have e3 : act.tmps[3]?.getD undef = .pointer (some ⟨pM, 0, none⟩) := hk.o 3 (by kernel_rfl)
        clear hk
        go_simp
        exact hK _ _ (Ext.refl _) (fun d hd => by cases hd; rfl)
      · intro act W2 hk
        refine Flow.does_intro rfl (fun Kq hK => ?_)
        have e19 : act.tmps[19]?.getD undef = .pointer (some ⟨pM, 0, none⟩) := hk.v 19 (by kernel_rfl)
        have g := ((kM.out).ext ((Ext.drew W).trans hk.ext)).cell
        clear hk
        go_simp
        exact hK _ _ (Ext.refl _) (fun d hd => by cases hd; rfl)
      · intro act W2 hk
        refine Flow.does_intro rfl (fun Kq hK => ?_)
        have e3 : act.tmps[3]?.getD undef = .pointer (some ⟨pM, 0, none⟩) := hk.o 3 (by kernel_rfl)
        clear hk
        go_simp
        exact hK _ _ (Ext.refl _) (fun d hd => by cases hd; rfl)
      · intro act W2 hk
        refine Flow.does_intro rfl (fun Kq hK => ?_)
        have e21 : act.tmps[21]?.getD undef = .pointer (some ⟨pM, 1, none⟩) := hk.v 21 (by kernel_rfl)
        have g := ((kM.out).ext ((Ext.drew W).trans hk.ext)).cell
        clear hk
        go_simp
        exact hK _ _ (Ext.refl _) (fun d hd => by cases hd; rfl)
      · intro act W2 hk
        refine Flow.does_intro rfl (fun Kq hK => ?_)
        have e20 : act.tmps[20]?.getD undef = .string m.name := hk.v 20 (by kernel_rfl)
        have e22 : act.tmps[22]?.getD undef = .string m.key := hk.v 22 (by kernel_rfl)
        clear hk
        go_simp
        exact hK _ _ (Ext.refl _) (fun d hd => by cases hd; rfl)
      · intro act W2 hk
        refine Flow.does_intro rfl (fun Kq hK => ?_)
        have e18 : act.tmps[18]?.getD undef = .agg #[.string s1, .string s2] := hk.v 18 (by kernel_rfl)
        have e23 : act.tmps[23]?.getD undef = .agg #[.string m.name, .string m.key] := hk.v 23 (by kernel_rfl)
        clear hk
        skip
        rcases hv.out with q | ⟨q1, q⟩
        all_goals go_simp
        all_goals exact hK _ _ (Ext.refl _) (fun d hd => by cases hd; rfl)
      · intro act W2 hk
        refine Flow.does_intro rfl (fun Kq hK => ?_)
        have e24 : act.tmps[24]?.getD undef = .bool false := hk.v 24 (by kernel_rfl)
        clear hk
        go_simp
        exact hK _ _ (Ext.refl _) (fun d hd => by cases hd; rfl)
    · intro act W2 he
      have hxW2 := Hd.mk ((Ext.drew W).trans he.ext)
      obtain ⟨us, hA, hF⟩ := he.out [5, 6, 7, 8, 9, 10, 11, 12, 13, 14, 15, 16, 17, 18, 19, 20, 21, 22, 23, 24, 4] (by kernel_rfl)
      simp only [Flow.fillL, List.contains_cons, List.contains_nil, Nat.reduceBEq, Bool.or_false, Bool.false_or, Bool.or_true, Bool.true_or, ↓reduceIte, Nat.reduceAdd, Bool.false_eq_true] at hA
      subst hA
      have f4 : us 4 = .bool false := hF 4 (by simp)
      clear hF he
      rw [f4]
      clear f4
      refine (show wpList _ _ _ [] _ _ from ?_)
      go_wp2_with fail
      go_ret
      exact ⟨rfl, kx.out.trans hxW2.out⟩
set_option maxRecDepth 100000 in
set_option maxHeartbeats 2000000 in
theorem work_wrong (n x y z : T) (Kn Kx Ky Kz : Option Addr) (kn kx1 ky1 kz : Nat) (d : Int) (b2 o2 L ac : Nat) (iz : Bool) (S : Nat → Prop) (w : World) (g : Nat) (hg : Blk w g (cWk n x y z Kn Kx Ky Kz kn kx1 ky1 kz d b2 o2 L ac iz) 126)
    (hy : RT S w y [.string y.name, .string y.key, .int .i64 y.kind, .int .u64 y.num, .string y.text, .slice Ky y.kids.length ky1]) (hz : RT S w z [.string z.name, .string z.key, .int .i64 z.kind, .int .u64 z.num, .string z.text, .slice Kz z.kids.length kz]) :
    Calls Try.prog 144 #[.pointer (some ⟨g, 0, none⟩)] w fun e w' => e = .returned (.int .i64 (if iz = false then 30 else if sameT z y = false then 23 else 0)) ∧ Ext w w' := by
  have kG := Hd.mk (show Blk w g [.string n.name, .string n.key, .int .i64 n.kind, .int .u64 n.num, .string n.text, .slice Kn n.kids.length kn, .int .i64 d, .slice (some ⟨b2, o2, none⟩) (L + 1) ac, .string x.name, .string x.key, .int .i64 x.kind, .int .u64 x.num, .string x.text, .slice Kx x.kids.length kx1, .string y.name, .string y.key, .int .i64 y.kind, .int .u64 y.num, .string y.text, .slice Ky y.kids.length ky1, .string z.name, .string z.key, .int .i64 z.kind, .int .u64 z.num, .string z.text, .slice Kz z.kids.length kz, .bool iz] 126 from hg)
  have hsm := Hd.mk (fun W (h : Ext w W) => tree_same _ z y S W _ _ (Nat.le_refl _) (hz.ext h) (hy.ext h))
  clear hg hy hz
  have gG := kG.out.cell
  go_enter Try.func144, Try.ntmps144
  cases iz with
  | false =>
    go_wp2_with fail
    go_ret
    exact ⟨rfl, Ext.refl _⟩
  | true =>
    go_wp2_with fail
    clear gG
    refine Flow.wp_region_flow_l (fun qq => match qq with
      | 10 => SP.eq (.pointer (some ⟨g, 0, none⟩))
      | 11 => SP.eq (.pointer (some ⟨g, 0, none⟩))
      | 12 => SP.eq (.pointer (some ⟨g, 20, none⟩))
      | 13 => SP.eq (.agg #[.string z.name, .string z.key, .int .i64 z.kind, .int .u64 z.num, .string z.text, .slice Kz z.kids.length kz])
      | 14 => SP.eq (.pointer (some ⟨g, 0, none⟩))
      | 15 => SP.eq (.pointer (some ⟨g, 0, none⟩))
      | 16 => SP.eq (.pointer (some ⟨g, 6, none⟩))
      | 17 => SP.eq (.pointer (some ⟨g, 14, none⟩))
      | 18 => SP.eq (.agg #[.string y.name, .string y.key, .int .i64 y.kind, .int .u64 y.num, .string y.text, .slice Ky y.kids.length ky1])
      | 19 => SP.eq (.bool (sameT z y))
      | 20 => SP.eq (.bool (!sameT z y))
      | 9 => SP.eq (.bool (!sameT z y))
      | _ => SP.any) 12 (by kernel_rfl) 21 rfl (by kernel_rfl) ?_ ?_
    · skip
      refine ⟨?_, ?_, ?_, ?_, ?_, ?_, ?_, ?_, ?_, ?_, ?_, ?_, trivial⟩
      · intro act W2 hk
        refine Flow.does_intro rfl (fun Kq hK => ?_)
        have e0 : act.tmps[0]?.getD undef = .pointer (some ⟨g, 0, none⟩) := hk.o 0 (by kernel_rfl)
        clear hk
        go_simp
        exact hK _ _ (Ext.refl _) (fun d hd => by cases hd; rfl)
      · intro act W2 hk
        refine Flow.does_intro rfl (fun Kq hK => ?_)
        have e10 : act.tmps[10]?.getD undef = .pointer (some ⟨g, 0, none⟩) := hk.v 10 (by kernel_rfl)
        clear hk
        go_simp
        exact hK _ _ (Ext.refl _) (fun d hd => by cases hd; rfl)
      · intro act W2 hk
        refine Flow.does_intro rfl (fun Kq hK => ?_)
        have e11 : act.tmps[11]?.getD undef = .pointer (some ⟨g, 0, none⟩) := hk.v 11 (by kernel_rfl)
        clear hk
        go_simp
        exact hK _ _ (Ext.refl _) (fun d hd => by cases hd; rfl)
      · intro act W2 hk
        refine Flow.does_intro rfl (fun Kq hK => ?_)
        have e12 : act.tmps[12]?.getD undef = .pointer (some ⟨g, 20, none⟩) := hk.v 12 (by kernel_rfl)
        have g := ((kG.out).ext ((Ext.drew w).trans hk.ext)).cell
        clear hk
        go_simp
        exact hK _ _ (Ext.refl _) (fun d hd => by cases hd; rfl)
      · intro act W2 hk
        refine Flow.does_intro rfl (fun Kq hK => ?_)
        have e0 : act.tmps[0]?.getD undef = .pointer (some ⟨g, 0, none⟩) := hk.o 0 (by kernel_rfl)
        clear hk
        go_simp
        exact hK _ _ (Ext.refl _) (fun d hd => by cases hd; rfl)
      · intro act W2 hk
        refine Flow.does_intro rfl (fun Kq hK => ?_)
        have e14 : act.tmps[14]?.getD undef = .pointer (some ⟨g, 0, none⟩) := hk.v 14 (by kernel_rfl)
        clear hk
        go_simp
        exact hK _ _ (Ext.refl _) (fun d hd => by cases hd; rfl)
      · intro act W2 hk
        refine Flow.does_intro rfl (fun Kq hK => ?_)
        have e15 : act.tmps[15]?.getD undef = .pointer (some ⟨g, 0, none⟩) := hk.v 15 (by kernel_rfl)
        clear hk
        go_simp
        exact hK _ _ (Ext.refl _) (fun d hd => by cases hd; rfl)
      · intro act W2 hk
        refine Flow.does_intro rfl (fun Kq hK => ?_)
        have e16 : act.tmps[16]?.getD undef = .pointer (some ⟨g, 6, none⟩) := hk.v 16 (by kernel_rfl)
        clear hk
        go_simp
        exact hK _ _ (Ext.refl _) (fun d hd => by cases hd; rfl)
      · intro act W2 hk
        refine Flow.does_intro rfl (fun Kq hK => ?_)
        have e17 : act.tmps[17]?.getD undef = .pointer (some ⟨g, 14, none⟩) := hk.v 17 (by kernel_rfl)
        have g := ((kG.out).ext ((Ext.drew w).trans hk.ext)).cell
        clear hk
        go_simp
        exact hK _ _ (Ext.refl _) (fun d hd => by cases hd; rfl)
      · intro act W2 hk
        refine Flow.does_intro rfl (fun Kq hK => ?_)
        have e13 : act.tmps[13]?.getD undef = .agg #[.string z.name, .string z.key, .int .i64 z.kind, .int .u64 z.num, .string z.text, .slice Kz z.kids.length kz] := hk.v 13 (by kernel_rfl)
        have e18 : act.tmps[18]?.getD undef = .agg #[.string y.name, .string y.key, .int .i64 y.kind, .int .u64 y.num, .string y.text, .slice Ky y.kids.length ky1] := hk.v 18 (by kernel_rfl)
        have hx0 := Hd.mk ((Ext.drew w).trans hk.ext)
        clear hk
        go_simp
        refine Calls.mono (hsm.out _ hx0.out) ?_
        rintro e W3 ⟨rfl, hx⟩
        exact hK _ _ hx (fun d hd => by cases hd; rfl)
      · intro act W2 hk
        refine Flow.does_intro rfl (fun Kq hK => ?_)
        have e19 : act.tmps[19]?.getD undef = .bool (sameT z y) := hk.v 19 (by kernel_rfl)
        clear hk
        go_simp
        exact hK _ _ (Ext.refl _) (fun d hd => by cases hd; rfl)
      · intro act W2 hk
        refine Flow.does_intro rfl (fun Kq hK => ?_)
        have e20 : act.tmps[20]?.getD undef = .bool (!sameT z y) := hk.v 20 (by kernel_rfl)
        clear hk
        go_simp
        exact hK _ _ (Ext.refl _) (fun d hd => by cases hd; rfl)
    · intro act W2 he
      have hxW2 := Hd.mk ((Ext.drew w).trans he.ext)
      obtain ⟨us, hA, hF⟩ := he.out [10, 11, 12, 13, 14, 15, 16, 17, 18, 19, 20, 9] (by kernel_rfl)
      simp only [Flow.fillL, List.contains_cons, List.contains_nil, Nat.reduceBEq, Bool.or_false, Bool.false_or, Bool.or_true, Bool.true_or, ↓reduceIte, Nat.reduceAdd, Bool.false_eq_true] at hA
      subst hA
      have f9 : us 9 = .bool (!sameT z y) := hF 9 (by simp)
      clear hF he
      rw [f9]
      clear f9
      refine (show wpList _ _ _ [] _ _ from ?_)
      cases hb : sameT z y with
      | false =>
        go_wp2_with fail
        go_ret
        exact ⟨rfl, hxW2.out⟩
      | true =>
        go_wp2_with fail
        go_ret
        exact ⟨rfl, hxW2.out⟩
end Go.Proofs.Ytgkgedjmnbjalaa
