/- The program's Inverse of a row of edits.
   Conditions: none. -/
import Derived.Test.YtgkgedjmnbjalaaTY
import Derived.Test.YtgkgedjmnbjalaaFlowIn
set_option linter.unusedSimpArgs false
namespace Go.Proofs.Ytgkgedjmnbjalaa
open Go.RowKit Go.Sort Go.Shelf

attribute [local go_sem] Oper.semAt_some

/-- The inverse of an edit. -/
def inv1 (e : E) : List E := if e.kind = 1 then [⟨2, e.way, zeroT, e.node⟩] else if e.kind = 2 then [⟨1, e.way, e.old, zeroT⟩] else if e.kind = 3 then [⟨3, e.way, e.old, e.node⟩] else []
def inverse (es : List E) : List E := es.reverse.flatMap inv1
theorem inv1_len (e : E) : (inv1 e).length ≤ 1 := by unfold inv1; split; · simp
                                                     · split; · simp
                                                       · split <;> simp
theorem inverse_len' : ∀ l : List E, (l.flatMap inv1).length ≤ l.length
  | [] => by simp
  | e :: l => by have := inverse_len' l; have := inv1_len e; simp only [List.flatMap_cons, List.length_append, List.length_cons]; omega
theorem inverse_len (es : List E) : (inverse es).length ≤ es.length := by have := inverse_len' es.reverse; simpa [inverse] using this

section
variable {F : Fence} {n : Nat} {P : Program} {ops : Array Oper} {rest : List Oper} {a : Act} {w : World} {Q : Exit → Act → World → Prop}
/-- A guard that stops the walk ahead of an operation, in a round. -/
theorem stopIn_at (op : Op) {d : Option Tmp} {p1 : TypeId} {p2 : String} {p3 : Array Edge} {gd : Option (Nat × Bool)} (h : Stop (wpListIn F n P ops Q (⟨d, op, p1, p2, p3, gd⟩ :: rest) a w)) : wpListIn F n P ops Q (⟨d, op, p1, p2, p3, gd⟩ :: rest) a w := h.out
end
theorem fr_keeps {N B O : Nat} {W V : World} {v v' : Value} {css : List (List Value)} {es : List E} (hI2 : Outs B O W v css es) (hf : Fr O W v V v') : KeepsFrom N W V :=
  ⟨hf.size, fun k o _ hk ho => by
    by_cases h1 : k = O
    · subst h1
      have hb := hI2.box
      unfold Blk at hb
      rw [hb] at hk
      cases hk
      cases ho
    · by_cases h2 : v.ownBlock = some k
      · rcases hI2.own.2 with ⟨h3, _⟩ | ⟨g, cap, cur, hv, _, hgb, _⟩
        · rw [h3] at h2; cases h2
        · rw [hv] at h2
          simp only [Value.ownBlock, Option.some.injEq] at h2
          subst h2
          rw [hgb] at hk
          cases hk
          cases ho
      · exact (hf.block k (heap_lt hk) h1 h2).trans hk⟩
theorem fr_kb {B : Nat} {W V : World} {v v' : Value} {css : List (List Value)} {es : List E} (h : Outs B B W v css es) (hne : v.ownBlock ≠ some (B + 1)) (hf : Fr B W v V v') : Kb B (B + 1) W V :=
  ⟨hf.below (Nat.le_refl _) (Nat.le_of_lt h.box.lt) h.base, fun cs t hb => hf.blk hb (by omega) hne⟩

/-- What out holds between two rounds. -/
def InvI (w : World) (es : List E) (W : World) : Prop := ∃ v css, Outs w.heap.size w.heap.size W v css es ∧ v.ownBlock ≠ some (w.heap.size + 1) ∧ w.heap.size + 2 ≤ W.heap.size ∧ Ext w W
theorem InvI.ext {w W W' : World} {es : List E} (hx : Ext W W') (h : InvI w es W) : InvI w es W' := by
  obtain ⟨v, css, ho, hne, hs, hx0⟩ := h
  exact ⟨v, css, ho.ext hx, hne, Nat.le_trans hs hx.size, hx0.trans hx⟩
theorem Outs.other {B O : Nat} {W W' : World} {v : Value} {css : List (List Value)} {es : List E} {row : Option Nat} (h : Outs B O W v css es) (hg : W.grownBy W' row) (hr : ∀ r, row = some r → ∃ o : Obj, W.heap[r]? = some o ∧ o.isCells = false) : Outs B O W' v css es := by
  have hc : ∀ b off (u : Value), W.cell? ⟨b, off, none⟩ = some u → W'.cell? ⟨b, off, none⟩ = some u := fun b off u hu => cell_kept hu hg hr
  refine ⟨grownBy_blk' hg (fun e => ?_) h.box, h.ob, h.len, h.c14, h.own.kept hg ?_, fun i e c he hc' => (h.each i e c he hc').keep (fun b off u hb hu => ⟨hb, hc b off u hu⟩), h.ne⟩
  · obtain ⟨o, ho, hcc⟩ := hr O e.symm
    have hb := h.box
    unfold Blk at hb
    rw [hb] at ho
    cases ho
    cases hcc
  · rcases h.own.2 with ⟨h1, _⟩ | ⟨g, cap, cur, hv, _, hgb, _⟩
    · left; rw [h1]; rfl
    · right
      intro e
      rw [hv] at e
      obtain ⟨o, ho, hcc⟩ := hr g (by rw [← e]; rfl)
      rw [hgb] at ho
      cases ho
      cases hcc
theorem InvI.own (w : World) {α : Type} (f : List α → List E) (B : Nat) (hB : w.heap.size ≤ B) : OwnFrom B (fun pre W => InvI w (f pre) W) := fun pre W W' row hs hg hr => by
  obtain ⟨v, css, ho, hne, hsz, hx0⟩ := hs
  exact ⟨v, css, ho.other hg (fun r e => (hr r e).2), hne, Nat.le_trans hsz hg.size, Below.grown hx0 hg hx0.size (fun k e => Nat.le_trans hB (hr k e).1)⟩

set_option maxRecDepth 100000 in
set_option maxHeartbeats 4000000 in
theorem diff_inverse (es : List E) (S : Nat → Prop) (w : World) (A : Option Addr) (c : Nat) (hr : ERow S w A es c) :
    Calls Try.prog 43 #[.slice A es.length c] w (Ret (EdPost (inverse es) w)) := by
  have kr := Hd.mk (hr.keep (S' := (· < w.heap.size)) (fun b off v hb hc => ⟨World.block_lt_of_cell? w _ hc, hc⟩))
  have hlen := hr.len
  clear hr
  refine (callsIn_wide (n := 6)).1 ?_
  refine callsIn_of_wp_marks Try.func43 rfl trivial ?_ rfl
  simp only [Try.ntmps43, List.size_toArray, List.length_cons, List.length_nil, Nat.reduceAdd, Nat.reduceSub, Array.replicate_succ, Array.replicate_zero, List.push_toArray, List.append_toArray, List.nil_append, List.cons_append]
  gi_wp2_with (refine ⟨trivial, ?_⟩; gi_at_call 102; refine (back_in _ _ trivial rfl _ _ _ _).mono ?_; rintro e w' ⟨rfl, rfl⟩)
  have bO := (Blk.new w #[.slice none 0 0] 57).alloc (.cells #[.slice A es.length c] 57)
  have bS := Blk.new2 w (.cells #[.slice none 0 0] 57) #[.slice A es.length c] 57
  have kx : Ext w ((w.alloc (.cells #[.slice none 0 0] 57)).alloc (.cells #[.slice A es.length c] 57)) := (Ext.alloc _ _).trans (Ext.alloc _ _)
  have hsz : ((w.alloc (.cells #[.slice none 0 0] 57)).alloc (.cells #[.slice A es.length c] 57)).heap.size = w.heap.size + 2 := by simp
  generalize (w.alloc (.cells #[.slice none 0 0] 57)).alloc (.cells #[.slice A es.length c] 57) = W0 at *
  have h0 : InvI w [] W0 := ⟨.slice none 0 0, [], ⟨bO, Nat.le_refl _, rfl, by simp, ⟨rfl, .inl ⟨rfl, rfl⟩⟩, fun i e c h => by simp at h, by simp [Value.ownBlock]⟩, by simp [Value.ownBlock], Nat.le_of_eq hsz.symm, kx⟩
  have hOwn := InvI.own w (α := EdAt w es) (fun pre => (pre.map (·.1.2.1)).flatMap inv1) W0.heap.size kx.size
  refine wpIn_rangeFunc_ownH rfl (by omega) (gf := 142) (lb := #[.pointer (some ⟨w.heap.size + 1, 0, none⟩)]) rfl trivial (enters_of Try.func142 (by kernel_rfl) rfl)
    (back_stops _ _ trivial rfl (by omega) (w.heap.size + 1) w W0 A c es kr.out kx bS) Kb.trans
    (fun W l o o' hl ho hc hk => ⟨belowK_b (w := W0) kx.size W l o o' hl ho hc hk, fun cs t hb => (World.putObj_heap_other (fun e => by subst e; unfold Blk at hb; rw [hb] at ho; cases ho; cases hc)).trans hb⟩) (Below.refl _ _) (fun _ => rfl)
    (fun pre W => InvI w ((pre.map (·.1.2.1)).flatMap inv1) W) (fun _ _ _ => False) hOwn (fun _ _ _ _ _ hs _ _ => hs) h0
    (fun x a' W => ∃ Bx, w.heap.size + 1 < Bx ∧ Blk W Bx x.1.2.2 68 ∧ a' = { tmps := (Value.slice A es.length c :: undef :: Value.slice none 0 0 :: Value.pointer (some ⟨w.heap.size, 0, none⟩) :: undef :: Value.pointer (some ⟨Bx, 0, none⟩) :: undef :: Value.slice A es.length c :: Value.func (.func 142) #[] #[.pointer (some ⟨w.heap.size + 1, 0, none⟩)] :: Value.int .i64 (x.1.1 : Int) :: Value.agg x.1.2.2.toArray :: undef :: undef :: undef :: undef :: undef :: undef :: undef :: undef :: undef :: undef :: undef :: undef :: undef :: undef :: undef :: undef :: undef :: undef :: undef :: undef :: undef :: undef :: undef :: undef :: undef :: undef :: undef :: undef :: undef :: undef :: undef :: undef :: undef :: undef :: undef :: undef :: []).toArray, defers := [] })
    (fun x a' _ X Y row hs hg hr => by
      obtain ⟨Bx, h1, h2, h3⟩ := hs
      refine ⟨Bx, h1, grownBy_blk' hg (fun e => ?_) h2, h3⟩
      obtain ⟨_, o, ho, hcc⟩ := hr Bx e.symm
      unfold Blk at h2
      rw [h2] at ho
      cases ho
      cases hcc)
    ?assign ?body ?done ?stop
  case assign =>
    rintro l pre ⟨⟨j, e, ck⟩, hej, hre⟩ W K hI hK
    have hsW : w.heap.size + 2 ≤ W.heap.size := by obtain ⟨_, _, _, _, h, _⟩ := hI; exact h
    have hI := Hd.mk hI
    change RE _ _ e ck at hre
    change es[j]? = some e at hej
    obtain ⟨A1, a1, K3, k3, L3, l3, rfl, _⟩ := hre
    simp only [EdAt.enc, cT, List.cons_append, List.nil_append] at hK ⊢
    have hK := Hd.mk hK
    gi_wp2
    refine hK.out _ _ ((KeepsOthers.alloc _ _).from _) ⟨(Below.refl _ W).alloc (by omega) _, fun cs t hb => hb.alloc _⟩ (hI.out.ext (Ext.alloc _ _)) ⟨W.heap.size, by omega, Blk.new _ _ _, rfl⟩
  case body =>
    rintro l pre ⟨⟨j, e, ck⟩, hej, hre⟩ a' W hl ⟨r, hr⟩ hI ⟨Bx, hBx, hX, rfl⟩ hlt
    change RE _ _ e ck at hre
    change es[j]? = some e at hej
    change Blk W Bx ck 68 at hX
    replace hI := Hd.mk hI
    have kxW : Ext w W := by obtain ⟨_, _, _, _, _, h⟩ := hI.out; exact h
    have hsW : w.heap.size + 2 ≤ W.heap.size := by obtain ⟨_, _, _, _, h, _⟩ := hI.out; exact h
    replace kxW := Hd.mk kxW
    have hIn : (List.map (fun x : EdAt w es => x.1.2.1) (pre ++ [⟨(j, e, ck), hej, hre⟩])).flatMap inv1 = (List.map (fun x : EdAt w es => x.1.2.1) pre).flatMap inv1 ++ inv1 e := by
      rw [List.map_append, List.flatMap_append]
      show _ ++ List.flatMap inv1 [e] = _
      simp
    replace hIn := Hd.mk hIn
    have hpl : ((List.map (fun x : EdAt w es => x.1.2.1) pre).flatMap inv1).length + 1 ≤ 1048576 := by
      have := inverse_len' (List.map (fun x : EdAt w es => x.1.2.1) pre)
      rw [List.length_map] at this
      omega
    obtain ⟨kd, way, node, old⟩ := e
    have hre' := hre
    obtain ⟨A1, a1, K3, k3, L3, l3, rfl, hw, hn, ho⟩ := hre'
    have hwl := Hd.mk hw.len
    have hcl := Hd.mk (fun W' (h : Ext w W') => clone_steps hw h)
    have hT1 := Hd.mk (fun W' (h : Ext w W') => diff_clone node (· < w.heap.size) W' _ ((RT.of_row hn).ext h))
    have hT2 := Hd.mk (fun W' (h : Ext w W') => diff_clone old (· < w.heap.size) W' _ ((RT.of_row ho).ext h))
    replace hX := Hd.mk hX
    have gX := hX.out.cell
    have hlX := hX.out.lt
    simp only [cT, List.cons_append, List.nil_append] at hT1 hT2 gX ⊢
    clear hw hn ho hr hl hlt
    generalize hpost : ownPostG W0.heap.size (Kb w.heap.size (w.heap.size + 1)) _ _ _ W = Q
    have hQ : ¬ LetsOut Q := by rintro ⟨a0, w0, h⟩; rw [← hpost] at h; exact h
    replace hQ := Hd.mk hQ
    have hQn : ∀ (a0 : Act) (V : World), KeepsFrom W0.heap.size W V → Kb w.heap.size (w.heap.size + 1) W V → InvI w ((List.map (fun x : EdAt w es => x.1.2.1) pre).flatMap inv1 ++ inv1 ⟨kd, way, node, old⟩) V → Q .normal a0 V := fun a0 V h1 h2 h3 => by
      rw [← hpost]
      exact ⟨h1, h2, Eq.mpr (congrArg (fun q => InvI w q V) hIn.out) h3⟩
    replace hQn := Hd.mk hQn
    clear hpost hIn hre hej
    generalize (List.map (fun x : EdAt w es => x.1.2.1) pre).flatMap inv1 = done at *
    gi_wp2_with (first
      | (refine ⟨trivial, ?_⟩; gi_at_call 103; refine (CallsIn.inRound l (callsIn_wide.2 (hcl.out _ kxW.out))).mono ?_; rintro e w' ⟨v', rfl, hv', hx'⟩; obtain ⟨A4, c4, rfl, hw4⟩ := WRow.of_own hwl.out rfl hv'; replace hw4 := Hd.mk hw4; replace hx' := Hd.mk hx')
      | (with_reducible refine stopIn_at (.fieldAddr 68 (.tmp 5) 0) ?_))
    refine Stop.mk ?_
    replace hw4 := Hd.mk ((hw4.out.mono (S' := fun b => W.heap.size ≤ b ∧ b ≠ w'.heap.size) (fun b hb h => ⟨h, by omega⟩)).ext (Ext.alloc w' (.cells #[.int .i64 0, .slice A4 way.length c4, .string ⟨#[]⟩, .string ⟨#[]⟩, .int .i64 0, .int .u64 0, .string ⟨#[]⟩, .slice none 0 0, .string ⟨#[]⟩, .string ⟨#[]⟩, .int .i64 0, .int .u64 0, .string ⟨#[]⟩, .slice none 0 0] 68)))
    have kxY := Hd.mk (hx'.out.trans (Ext.alloc w' (.cells #[.int .i64 0, .slice A4 way.length c4, .string ⟨#[]⟩, .string ⟨#[]⟩, .int .i64 0, .int .u64 0, .string ⟨#[]⟩, .slice none 0 0, .string ⟨#[]⟩, .string ⟨#[]⟩, .int .i64 0, .int .u64 0, .string ⟨#[]⟩, .slice none 0 0] 68)))
    have hY := Hd.mk (Blk.new w' #[.int .i64 0, .slice A4 way.length c4, .string ⟨#[]⟩, .string ⟨#[]⟩, .int .i64 0, .int .u64 0, .string ⟨#[]⟩, .slice none 0 0, .string ⟨#[]⟩, .string ⟨#[]⟩, .int .i64 0, .int .u64 0, .string ⟨#[]⟩, .slice none 0 0] 68)
    have hBy := hx'.out.size
    replace hX := Hd.mk (hX.out.ext kxY.out)
    clear gX hlX hx' hcl
    generalize w'.heap.size = By at *
    generalize w'.alloc _ = W3 at *
    have gX := hX.out.cell
    have gY := hY.out.cell
    have fY := hY.out.free
    have hlX := hX.out.lt
    have hlY := hY.out.lt
    simp only [cT, List.cons_append, List.nil_append, List.toList_toArray] at gX gY
    by_cases k1 : kd = 1
    · subst k1
      gi_wp2_with (first
        | (refine ⟨trivial, ?_⟩; gi_at_call 96; refine (CallsIn.inRound l (callsIn_wide.2 (hT1.out _ (kxW.out.trans kxY.out)))).mono ?_; rintro e w4 ⟨_, rfl, cc, rfl, hr3, hx3⟩; obtain ⟨K4, k4, rfl, hr4⟩ := hr3.row; replace hr4 := Hd.mk hr4; replace hx3 := Hd.mk hx3; replace hw4 := Hd.mk (hw4.out.ext hx3.out); replace kxY := Hd.mk (kxY.out.trans hx3.out); replace hY := Hd.mk (hY.out.ext hx3.out); clear gX gY fY hlX hr3; have gY := hY.out.cell; have fY := hY.out.free; simp only [cT, List.toList_toArray] at gY ⊢)
        | (with_reducible refine stopIn_at (.load 57 (.tmp 3)) ?_))
      refine Stop.mk ?_
      have hu := Hd.mk (((((((Upd.setCell w4 ⟨By, 0, none⟩ (.int .i64 2)).trans (Upd.setCell _ ⟨By, 8, none⟩ (.string node.name))).trans (Upd.setCell _ ⟨By, 9, none⟩ (.string node.key))).trans (Upd.setCell _ ⟨By, 10, none⟩ (.int .i64 node.kind))).trans (Upd.setCell _ ⟨By, 11, none⟩ (.int .u64 node.num))).trans (Upd.setCell _ ⟨By, 12, none⟩ (.string node.text))).trans (Upd.setCell _ ⟨By, 13, none⟩ (.slice K4 node.kids.length k4)))
      have hD : Blk (((((((w4.setCell ⟨By, 0, none⟩ (.int .i64 2)).setCell ⟨By, 8, none⟩ (.string node.name)).setCell ⟨By, 9, none⟩ (.string node.key)).setCell ⟨By, 10, none⟩ (.int .i64 node.kind)).setCell ⟨By, 11, none⟩ (.int .u64 node.num)).setCell ⟨By, 12, none⟩ (.string node.text)).setCell ⟨By, 13, none⟩ (.slice K4 node.kids.length k4)) By [.int .i64 2, .slice A4 way.length c4, .string ⟨#[]⟩, .string ⟨#[]⟩, .int .i64 0, .int .u64 0, .string ⟨#[]⟩, .slice none 0 0, .string node.name, .string node.key, .int .i64 node.kind, .int .u64 node.num, .string node.text, .slice K4 node.kids.length k4] 68 := (((((((hY.out.setCell 0 (.int .i64 2)).setCell 8 (.string node.name)).setCell 9 (.string node.key)).setCell 10 (.int .i64 node.kind)).setCell 11 (.int .u64 node.num)).setCell 12 (.string node.text)).setCell 13 (.slice K4 node.kids.length k4))
      have hB4 := (hY.out.lt)
      replace hD := Hd.mk hD
      generalize hW5 : (((((((w4.setCell ⟨By, 0, none⟩ (.int .i64 2)).setCell ⟨By, 8, none⟩ (.string node.name)).setCell ⟨By, 9, none⟩ (.string node.key)).setCell ⟨By, 10, none⟩ (.int .i64 node.kind)).setCell ⟨By, 11, none⟩ (.int .u64 node.num)).setCell ⟨By, 12, none⟩ (.string node.text)).setCell ⟨By, 13, none⟩ (.slice K4 node.kids.length k4)) = W5 at *
      clear hW5 gY fY hY
      have kx5 : Ext W W5 := Below.trans kxY.out (hu.out.below hBy)
      replace kx5 := Hd.mk kx5
      have hw5 : WRow (fun b => W.heap.size ≤ b ∧ b ≠ By) W5 A4 way c4 := hw4.out.keep (fun b off v hb hc => ⟨⟨hb.1, hb.2⟩, (World.cell?_of_block (hu.out.block b hb.2)).trans hc⟩)
      skip
      have hr5 : RRow (W.heap.size ≤ ·) W5 K4 node.kids k4 := hr4.out.keep (fun b off v hb hc => by have hb2 : W3.heap.size ≤ b := hb; exact ⟨by show W.heap.size ≤ b; omega, (World.cell?_of_block (hu.out.block b (by show b ≠ By; omega))).trans hc⟩)
      have hre : RE (W.heap.size ≤ ·) W5 (⟨2, way, zeroT, node⟩ : E) [.int .i64 2, .slice A4 way.length c4, .string ⟨#[]⟩, .string ⟨#[]⟩, .int .i64 0, .int .u64 0, .string ⟨#[]⟩, .slice none 0 0, .string node.name, .string node.key, .int .i64 node.kind, .int .u64 node.num, .string node.text, .slice K4 node.kids.length k4] := ⟨A4, c4, _, _, _, _, rfl, hw5.mono (fun b _ h => h.1), RRow.nil _ _ _ _ (fun _ => rfl), hr5⟩
      replace hre := Hd.mk hre
      have hBx2 : W.heap.size ≤ By := hBy
      clear hw4 hw5 hr4 hu kxY hx3
      refine Flow.listIn_of_list (by rintro ⟨a0, w0, h⟩; exact hQ.out ⟨a0, w0, h⟩) _ rfl _ _ ?_
      obtain ⟨v, css, hos, hne, hsz, hx0⟩ := hI.out
      obtain ⟨V, vc, rfl, _⟩ := own_slice hos.own
      have hos0 := Hd.mk hos
      have hos5 := Hd.mk (hos.ext kx5.out)
      have hlt5 := Hd.mk (own_lt hos.own)
      replace hne := Hd.mk hne
      have hO := Hd.mk hos5.out.box
      have gO := hO.out.cell
      have fO := hO.out.free
      have gD := hD.out.cell
      have hlD := hD.out.lt
      have hlO := hO.out.lt
      clear hos hsz hx0
      go_wp2_with ((with_reducible refine stop_at (.call { callee := .builtin .append, args := #[.tmp 42, .tmp 44], argTypes := #[57, 57] }) ?_))
      refine Stop.mk ?_
      have hD6 := Hd.mk (Blk.new W5 #[.int .i64 2, .slice A4 way.length c4, .string ⟨#[]⟩, .string ⟨#[]⟩, .int .i64 0, .int .u64 0, .string ⟨#[]⟩, .slice none 0 0, .string node.name, .string node.key, .int .i64 node.kind, .int .u64 node.num, .string node.text, .slice K4 node.kids.length k4] 68)
      have kx6 := Hd.mk (Ext.alloc W5 (.cells #[.int .i64 2, .slice A4 way.length c4, .string ⟨#[]⟩, .string ⟨#[]⟩, .int .i64 0, .int .u64 0, .string ⟨#[]⟩, .slice none 0 0, .string node.name, .string node.key, .int .i64 node.kind, .int .u64 node.num, .string node.text, .slice K4 node.kids.length k4] 68))
      have hos6 := Hd.mk (hos5.out.ext kx6.out)
      have hre6 := Hd.mk (hre.out.ext kx6.out)
      have hs6 := kx5.out.size
      generalize W5.heap.size = B6 at *
      generalize W5.alloc _ = W6 at *
      refine wpl_append' sl57 (by omega) (by omega) (.tmp 42) (.tmp 44) 45 _ _ _ w.heap.size (.slice V done.length vc) done.length css.flatten rfl hos6.out.own ⟨B6, 0, none⟩ 1 1 _ rfl (by rw [hre6.out.len]) (fun i u hi => by rw [addr_add, Nat.zero_add, hD6.out.cell]; exact hi) hre6.out.one (by omega) (by have := hos6.out.box.lt; omega) ?_
      intro v' w' hown hgr hat
      obtain ⟨V', vc', rfl, _⟩ := own_slice hown
      have hp := Hd.mk (Outs.push hos6.out (hre6.out.mono (fun b _ hb => by refine ⟨by omega, fun hh => ?_⟩; have h6 := hlt5.out b hh; omega)) hown hgr hat)
      have hbox := Hd.mk (grownBy_blk' hgr (fun e => hos6.out.ne e.symm) hos6.out.box)
      clear hown hgr hat gO fO gD hlD hlO
      have gO := hbox.out.cell
      have fO := hbox.out.free
      go_wp2_with fail
      have hfr := (Fr.of_ext (O := w.heap.size) (v := .slice V done.length vc) (kx5.out.trans kx6.out)).trans hp.out.2
      exact hQn.out _ _ (fr_keeps (hI2 := hos0.out) hfr) (fr_kb hos0.out hne.out hfr) ⟨_, _, hp.out.1, hfr.ne (by omega) hne.out, Nat.le_trans (by omega) hfr.size, Below.trans kxW.out (hfr.below (Nat.le_refl _) kxW.out.size hos0.out.base)⟩
    · by_cases k2 : kd = 2
      · subst k2
        gi_wp2_with (first
          | (refine ⟨trivial, ?_⟩; gi_at_call 96; refine (CallsIn.inRound l (callsIn_wide.2 (hT2.out _ (kxW.out.trans kxY.out)))).mono ?_; rintro e w4 ⟨_, rfl, cc, rfl, hr3, hx3⟩; obtain ⟨K4, k4, rfl, hr4⟩ := hr3.row; replace hr4 := Hd.mk hr4; replace hx3 := Hd.mk hx3; replace hw4 := Hd.mk (hw4.out.ext hx3.out); replace kxY := Hd.mk (kxY.out.trans hx3.out); replace hY := Hd.mk (hY.out.ext hx3.out); clear gX gY fY hlX hr3; have gY := hY.out.cell; have fY := hY.out.free; simp only [cT, List.toList_toArray] at gY ⊢)
          | (with_reducible refine stopIn_at (.load 57 (.tmp 3)) ?_))
        refine Stop.mk ?_
        have hu := Hd.mk (((((((Upd.setCell w4 ⟨By, 0, none⟩ (.int .i64 1)).trans (Upd.setCell _ ⟨By, 2, none⟩ (.string old.name))).trans (Upd.setCell _ ⟨By, 3, none⟩ (.string old.key))).trans (Upd.setCell _ ⟨By, 4, none⟩ (.int .i64 old.kind))).trans (Upd.setCell _ ⟨By, 5, none⟩ (.int .u64 old.num))).trans (Upd.setCell _ ⟨By, 6, none⟩ (.string old.text))).trans (Upd.setCell _ ⟨By, 7, none⟩ (.slice K4 old.kids.length k4)))
        have hD : Blk (((((((w4.setCell ⟨By, 0, none⟩ (.int .i64 1)).setCell ⟨By, 2, none⟩ (.string old.name)).setCell ⟨By, 3, none⟩ (.string old.key)).setCell ⟨By, 4, none⟩ (.int .i64 old.kind)).setCell ⟨By, 5, none⟩ (.int .u64 old.num)).setCell ⟨By, 6, none⟩ (.string old.text)).setCell ⟨By, 7, none⟩ (.slice K4 old.kids.length k4)) By [.int .i64 1, .slice A4 way.length c4, .string old.name, .string old.key, .int .i64 old.kind, .int .u64 old.num, .string old.text, .slice K4 old.kids.length k4, .string ⟨#[]⟩, .string ⟨#[]⟩, .int .i64 0, .int .u64 0, .string ⟨#[]⟩, .slice none 0 0] 68 := (((((((hY.out.setCell 0 (.int .i64 1)).setCell 2 (.string old.name)).setCell 3 (.string old.key)).setCell 4 (.int .i64 old.kind)).setCell 5 (.int .u64 old.num)).setCell 6 (.string old.text)).setCell 7 (.slice K4 old.kids.length k4))
        have hB4 := (hY.out.lt)
        replace hD := Hd.mk hD
        generalize hW5 : (((((((w4.setCell ⟨By, 0, none⟩ (.int .i64 1)).setCell ⟨By, 2, none⟩ (.string old.name)).setCell ⟨By, 3, none⟩ (.string old.key)).setCell ⟨By, 4, none⟩ (.int .i64 old.kind)).setCell ⟨By, 5, none⟩ (.int .u64 old.num)).setCell ⟨By, 6, none⟩ (.string old.text)).setCell ⟨By, 7, none⟩ (.slice K4 old.kids.length k4)) = W5 at *
        clear hW5 gY fY hY
        have kx5 : Ext W W5 := Below.trans kxY.out (hu.out.below hBy)
        replace kx5 := Hd.mk kx5
        have hw5 : WRow (fun b => W.heap.size ≤ b ∧ b ≠ By) W5 A4 way c4 := hw4.out.keep (fun b off v hb hc => ⟨⟨hb.1, hb.2⟩, (World.cell?_of_block (hu.out.block b hb.2)).trans hc⟩)
        have hr5 : RRow (W.heap.size ≤ ·) W5 K4 old.kids k4 := hr4.out.keep (fun b off v hb hc => by have hb2 : W3.heap.size ≤ b := hb; exact ⟨by show W.heap.size ≤ b; omega, (World.cell?_of_block (hu.out.block b (by show b ≠ By; omega))).trans hc⟩)
        skip
        have hre : RE (W.heap.size ≤ ·) W5 (⟨1, way, old, zeroT⟩ : E) [.int .i64 1, .slice A4 way.length c4, .string old.name, .string old.key, .int .i64 old.kind, .int .u64 old.num, .string old.text, .slice K4 old.kids.length k4, .string ⟨#[]⟩, .string ⟨#[]⟩, .int .i64 0, .int .u64 0, .string ⟨#[]⟩, .slice none 0 0] := ⟨A4, c4, _, _, _, _, rfl, hw5.mono (fun b _ h => h.1), hr5, RRow.nil _ _ _ _ (fun _ => rfl)⟩
        replace hre := Hd.mk hre
        have hBx2 : W.heap.size ≤ By := hBy
        clear hw4 hw5 hr4 hu kxY hx3
        refine Flow.listIn_of_list (by rintro ⟨a0, w0, h⟩; exact hQ.out ⟨a0, w0, h⟩) _ rfl _ _ ?_
        obtain ⟨v, css, hos, hne, hsz, hx0⟩ := hI.out
        obtain ⟨V, vc, rfl, _⟩ := own_slice hos.own
        have hos0 := Hd.mk hos
        have hos5 := Hd.mk (hos.ext kx5.out)
        have hlt5 := Hd.mk (own_lt hos.own)
        replace hne := Hd.mk hne
        have hO := Hd.mk hos5.out.box
        have gO := hO.out.cell
        have fO := hO.out.free
        have gD := hD.out.cell
        have hlD := hD.out.lt
        have hlO := hO.out.lt
        clear hos hsz hx0
        go_wp2_with ((with_reducible refine stop_at (.call { callee := .builtin .append, args := #[.tmp 42, .tmp 44], argTypes := #[57, 57] }) ?_))
        refine Stop.mk ?_
        have hD6 := Hd.mk (Blk.new W5 #[.int .i64 1, .slice A4 way.length c4, .string old.name, .string old.key, .int .i64 old.kind, .int .u64 old.num, .string old.text, .slice K4 old.kids.length k4, .string ⟨#[]⟩, .string ⟨#[]⟩, .int .i64 0, .int .u64 0, .string ⟨#[]⟩, .slice none 0 0] 68)
        have kx6 := Hd.mk (Ext.alloc W5 (.cells #[.int .i64 1, .slice A4 way.length c4, .string old.name, .string old.key, .int .i64 old.kind, .int .u64 old.num, .string old.text, .slice K4 old.kids.length k4, .string ⟨#[]⟩, .string ⟨#[]⟩, .int .i64 0, .int .u64 0, .string ⟨#[]⟩, .slice none 0 0] 68))
        have hos6 := Hd.mk (hos5.out.ext kx6.out)
        have hre6 := Hd.mk (hre.out.ext kx6.out)
        have hs6 := kx5.out.size
        generalize W5.heap.size = B6 at *
        generalize W5.alloc _ = W6 at *
        refine wpl_append' sl57 (by omega) (by omega) (.tmp 42) (.tmp 44) 45 _ _ _ w.heap.size (.slice V done.length vc) done.length css.flatten rfl hos6.out.own ⟨B6, 0, none⟩ 1 1 _ rfl (by rw [hre6.out.len]) (fun i u hi => by rw [addr_add, Nat.zero_add, hD6.out.cell]; exact hi) hre6.out.one (by omega) (by have := hos6.out.box.lt; omega) ?_
        intro v' w' hown hgr hat
        obtain ⟨V', vc', rfl, _⟩ := own_slice hown
        have hp := Hd.mk (Outs.push hos6.out (hre6.out.mono (fun b _ hb => by refine ⟨by omega, fun hh => ?_⟩; have h6 := hlt5.out b hh; omega)) hown hgr hat)
        have hbox := Hd.mk (grownBy_blk' hgr (fun e => hos6.out.ne e.symm) hos6.out.box)
        clear hown hgr hat gO fO gD hlD hlO
        have gO := hbox.out.cell
        have fO := hbox.out.free
        go_wp2_with fail
        have hfr := (Fr.of_ext (O := w.heap.size) (v := .slice V done.length vc) (kx5.out.trans kx6.out)).trans hp.out.2
        exact hQn.out _ _ (fr_keeps (hI2 := hos0.out) hfr) (fr_kb hos0.out hne.out hfr) ⟨_, _, hp.out.1, hfr.ne (by omega) hne.out, Nat.le_trans (by omega) hfr.size, Below.trans kxW.out (hfr.below (Nat.le_refl _) kxW.out.size hos0.out.base)⟩
      · by_cases k3 : kd = 3
        · subst k3
          gi_wp2
          refine Flow.wpIn_region_flow_l (by rintro ⟨a0, w0, h⟩; exact hQ.out ⟨a0, w0, h⟩) (fun qq => match qq with
            | 33 => SP.eq (.pointer (some ⟨Bx, 8, none⟩))
            | 34 => SP.eq (.agg #[.string old.name, .string old.key, .int .i64 old.kind, .int .u64 old.num, .string old.text, .slice L3 old.kids.length l3])
            | 35 => spT old W3.heap.size
            | 36 => SP.eq (.pointer (some ⟨Bx, 2, none⟩))
            | 37 => SP.eq (.agg #[.string node.name, .string node.key, .int .i64 node.kind, .int .u64 node.num, .string node.text, .slice K3 node.kids.length k3])
            | 38 => spT node W3.heap.size
            | 39 => SP.eq (.pointer (some ⟨By, 0, none⟩))
            | _ => SP.any) 7 (by kernel_rfl) (by kernel_rfl) 47 rfl (by kernel_rfl) ?_ ?_
          · skip
            refine ⟨?_, ?_, ?_, ?_, ?_, ?_, ?_, trivial⟩
            · intro act W2 hk
              refine Flow.does_intro rfl (fun Kq hK => ?_)
              have e5 : act.tmps[5]?.getD undef = .pointer (some ⟨Bx, 0, none⟩) := hk.o 5 (by kernel_rfl)
              clear hk
              go_simp
              exact hK _ _ (Ext.refl _) (fun d hd => by cases hd; rfl)
            · intro act W2 hk
              refine Flow.does_intro rfl (fun Kq hK => ?_)
              have e33 : act.tmps[33]?.getD undef = .pointer (some ⟨Bx, 8, none⟩) := hk.v 33 (by kernel_rfl)
              have g := (((show Blk W3 Bx [.int .i64 3, .slice A1 way.length a1, .string node.name, .string node.key, .int .i64 node.kind, .int .u64 node.num, .string node.text, .slice K3 node.kids.length k3, .string old.name, .string old.key, .int .i64 old.kind, .int .u64 old.num, .string old.text, .slice L3 old.kids.length l3] 68 from hX.out)).ext ((Ext.drew W3).trans hk.ext)).cell
              clear hk
              go_simp
              exact hK _ _ (Ext.refl _) (fun d hd => by cases hd; rfl)
            · intro act W2 hk
              refine Flow.does_intro rfl (fun Kq hK => ?_)
              have e34 : act.tmps[34]?.getD undef = .agg #[.string old.name, .string old.key, .int .i64 old.kind, .int .u64 old.num, .string old.text, .slice L3 old.kids.length l3] := hk.v 34 (by kernel_rfl)
              have hx0 := Hd.mk ((Ext.drew W3).trans hk.ext)
              have hc2 := Hd.mk (hT2.out _ (kxW.out.trans (kxY.out.trans hx0.out)))
              have hsz0 := hx0.out.size
              clear hk
              go_simp
              refine Calls.mono (hc2.out) ?_
              rintro e W3 ⟨_, rfl, cc, rfl, hr3, hx⟩
              exact hK _ _ hx (fun d hd => by cases hd; exact ⟨cc, rfl, hr3.mono (fun b _ hb => Nat.le_trans hsz0 hb)⟩)
            · intro act W2 hk
              refine Flow.does_intro rfl (fun Kq hK => ?_)
              have e5 : act.tmps[5]?.getD undef = .pointer (some ⟨Bx, 0, none⟩) := hk.o 5 (by kernel_rfl)
              clear hk
              go_simp
              exact hK _ _ (Ext.refl _) (fun d hd => by cases hd; rfl)
            · intro act W2 hk
              refine Flow.does_intro rfl (fun Kq hK => ?_)
              have e36 : act.tmps[36]?.getD undef = .pointer (some ⟨Bx, 2, none⟩) := hk.v 36 (by kernel_rfl)
              have g := (((show Blk W3 Bx [.int .i64 3, .slice A1 way.length a1, .string node.name, .string node.key, .int .i64 node.kind, .int .u64 node.num, .string node.text, .slice K3 node.kids.length k3, .string old.name, .string old.key, .int .i64 old.kind, .int .u64 old.num, .string old.text, .slice L3 old.kids.length l3] 68 from hX.out)).ext ((Ext.drew W3).trans hk.ext)).cell
              clear hk
              go_simp
              exact hK _ _ (Ext.refl _) (fun d hd => by cases hd; rfl)
            · intro act W2 hk
              refine Flow.does_intro rfl (fun Kq hK => ?_)
              have e37 : act.tmps[37]?.getD undef = .agg #[.string node.name, .string node.key, .int .i64 node.kind, .int .u64 node.num, .string node.text, .slice K3 node.kids.length k3] := hk.v 37 (by kernel_rfl)
              have hx0 := Hd.mk ((Ext.drew W3).trans hk.ext)
              have hc2 := Hd.mk (hT1.out _ (kxW.out.trans (kxY.out.trans hx0.out)))
              have hsz0 := hx0.out.size
              clear hk
              go_simp
              refine Calls.mono (hc2.out) ?_
              rintro e W3 ⟨_, rfl, cc, rfl, hr3, hx⟩
              exact hK _ _ hx (fun d hd => by cases hd; exact ⟨cc, rfl, hr3.mono (fun b _ hb => Nat.le_trans hsz0 hb)⟩)
            · intro act W2 hk
              refine Flow.does_intro rfl (fun Kq hK => ?_)
              have e6 : act.tmps[6]?.getD undef = .pointer (some ⟨By, 0, none⟩) := hk.o 6 (by kernel_rfl)
              clear hk
              go_simp
              exact hK _ _ (Ext.refl _) (fun d hd => by cases hd; rfl)
          · intro act w4 he
            have hxw4 := Hd.mk ((Ext.drew W3).trans he.ext)
            obtain ⟨us, hA, hF⟩ := he.out [33, 34, 35, 36, 37, 38, 39] (by kernel_rfl)
            simp only [Flow.fillL, List.contains_cons, List.contains_nil, Nat.reduceBEq, Bool.or_false, Bool.false_or, Bool.or_true, Bool.true_or, ↓reduceIte, Nat.reduceAdd, Bool.false_eq_true] at hA
            subst hA
            have f35 : (spT old W3.heap.size).p (us 35) w4 := hF 35 (by simp)
            have f38 : (spT node W3.heap.size).p (us 38) w4 := hF 38 (by simp)
            have f39 : us 39 = .pointer (some ⟨By, 0, none⟩) := hF 39 (by simp)
            clear hF he
            rw [f39]
            clear f39
            obtain ⟨cc, e35, hr3⟩ := (f35 : (spT _ _).p _ _)
            obtain ⟨K4, k4, rfl, hr4⟩ := hr3.row
            obtain ⟨dd, e38, hr9⟩ := (f38 : (spT _ _).p _ _)
            obtain ⟨K5, k5, rfl, hr6⟩ := hr9.row
            replace hr4 := Hd.mk hr4
            replace hr6 := Hd.mk hr6
            clear hr3 hr9
            generalize us 33 = u33 at *
            generalize us 34 = u34 at *
            generalize us 35 = u35 at *
            generalize us 36 = u36 at *
            generalize us 37 = u37 at *
            generalize us 38 = u38 at *
            subst e35
            subst e38
            replace hw4 := Hd.mk (hw4.out.ext hxw4.out)
            replace kxY := Hd.mk (kxY.out.trans hxw4.out)
            replace hY := Hd.mk (hY.out.ext hxw4.out)
            clear gX gY fY hlX
            have gY := hY.out.cell
            have fY := hY.out.free
            have hsz4 := hxw4.out.size
            have hx3 := hxw4
            simp only [cT, List.toList_toArray] at gY ⊢
            refine (show wpList _ _ _ (⟨none, .store 3 (.tmp 39) (.const (.int .i64 3)), _, _, _, none⟩ :: _) _ _ from ?_)
            go_wp2_with fail
            gi_wp2_with (with_reducible refine stopIn_at (.load 57 (.tmp 3)) ?_)
            refine Stop.mk ?_
            have hu := Hd.mk (((((((((((((Upd.setCell w4 ⟨By, 0, none⟩ (.int .i64 3)).trans (Upd.setCell _ ⟨By, 2, none⟩ (.string old.name))).trans (Upd.setCell _ ⟨By, 3, none⟩ (.string old.key))).trans (Upd.setCell _ ⟨By, 4, none⟩ (.int .i64 old.kind))).trans (Upd.setCell _ ⟨By, 5, none⟩ (.int .u64 old.num))).trans (Upd.setCell _ ⟨By, 6, none⟩ (.string old.text))).trans (Upd.setCell _ ⟨By, 7, none⟩ (.slice K4 old.kids.length k4))).trans (Upd.setCell _ ⟨By, 8, none⟩ (.string node.name))).trans (Upd.setCell _ ⟨By, 9, none⟩ (.string node.key))).trans (Upd.setCell _ ⟨By, 10, none⟩ (.int .i64 node.kind))).trans (Upd.setCell _ ⟨By, 11, none⟩ (.int .u64 node.num))).trans (Upd.setCell _ ⟨By, 12, none⟩ (.string node.text))).trans (Upd.setCell _ ⟨By, 13, none⟩ (.slice K5 node.kids.length k5)))
            have hD : Blk (((((((((((((w4.setCell ⟨By, 0, none⟩ (.int .i64 3)).setCell ⟨By, 2, none⟩ (.string old.name)).setCell ⟨By, 3, none⟩ (.string old.key)).setCell ⟨By, 4, none⟩ (.int .i64 old.kind)).setCell ⟨By, 5, none⟩ (.int .u64 old.num)).setCell ⟨By, 6, none⟩ (.string old.text)).setCell ⟨By, 7, none⟩ (.slice K4 old.kids.length k4)).setCell ⟨By, 8, none⟩ (.string node.name)).setCell ⟨By, 9, none⟩ (.string node.key)).setCell ⟨By, 10, none⟩ (.int .i64 node.kind)).setCell ⟨By, 11, none⟩ (.int .u64 node.num)).setCell ⟨By, 12, none⟩ (.string node.text)).setCell ⟨By, 13, none⟩ (.slice K5 node.kids.length k5)) By [.int .i64 3, .slice A4 way.length c4, .string old.name, .string old.key, .int .i64 old.kind, .int .u64 old.num, .string old.text, .slice K4 old.kids.length k4, .string node.name, .string node.key, .int .i64 node.kind, .int .u64 node.num, .string node.text, .slice K5 node.kids.length k5] 68 := (((((((((((((hY.out.setCell 0 (.int .i64 3)).setCell 2 (.string old.name)).setCell 3 (.string old.key)).setCell 4 (.int .i64 old.kind)).setCell 5 (.int .u64 old.num)).setCell 6 (.string old.text)).setCell 7 (.slice K4 old.kids.length k4)).setCell 8 (.string node.name)).setCell 9 (.string node.key)).setCell 10 (.int .i64 node.kind)).setCell 11 (.int .u64 node.num)).setCell 12 (.string node.text)).setCell 13 (.slice K5 node.kids.length k5))
            have hB4 := (hY.out.lt)
            replace hD := Hd.mk hD
            generalize hW5 : (((((((((((((w4.setCell ⟨By, 0, none⟩ (.int .i64 3)).setCell ⟨By, 2, none⟩ (.string old.name)).setCell ⟨By, 3, none⟩ (.string old.key)).setCell ⟨By, 4, none⟩ (.int .i64 old.kind)).setCell ⟨By, 5, none⟩ (.int .u64 old.num)).setCell ⟨By, 6, none⟩ (.string old.text)).setCell ⟨By, 7, none⟩ (.slice K4 old.kids.length k4)).setCell ⟨By, 8, none⟩ (.string node.name)).setCell ⟨By, 9, none⟩ (.string node.key)).setCell ⟨By, 10, none⟩ (.int .i64 node.kind)).setCell ⟨By, 11, none⟩ (.int .u64 node.num)).setCell ⟨By, 12, none⟩ (.string node.text)).setCell ⟨By, 13, none⟩ (.slice K5 node.kids.length k5)) = W5 at *
            clear hW5 gY fY hY
            have kx5 : Ext W W5 := Below.trans kxY.out (hu.out.below hBy)
            replace kx5 := Hd.mk kx5
            have hw5 : WRow (fun b => W.heap.size ≤ b ∧ b ≠ By) W5 A4 way c4 := hw4.out.keep (fun b off v hb hc => ⟨⟨hb.1, hb.2⟩, (World.cell?_of_block (hu.out.block b hb.2)).trans hc⟩)
            have hr5 : RRow (W.heap.size ≤ ·) W5 K4 old.kids k4 := hr4.out.keep (fun b off v hb hc => by have hb2 : W3.heap.size ≤ b := hb; exact ⟨by show W.heap.size ≤ b; omega, (World.cell?_of_block (hu.out.block b (by show b ≠ By; omega))).trans hc⟩)
            have hr7 : RRow (W.heap.size ≤ ·) W5 K5 node.kids k5 := hr6.out.keep (fun b off v hb hc => by have hb2 : W3.heap.size ≤ b := hb; exact ⟨by show W.heap.size ≤ b; omega, (World.cell?_of_block (hu.out.block b (by show b ≠ By; omega))).trans hc⟩)
            have hre : RE (W.heap.size ≤ ·) W5 (⟨3, way, old, node⟩ : E) [.int .i64 3, .slice A4 way.length c4, .string old.name, .string old.key, .int .i64 old.kind, .int .u64 old.num, .string old.text, .slice K4 old.kids.length k4, .string node.name, .string node.key, .int .i64 node.kind, .int .u64 node.num, .string node.text, .slice K5 node.kids.length k5] := ⟨A4, c4, _, _, _, _, rfl, hw5.mono (fun b _ h => h.1), hr5, hr7⟩
            replace hre := Hd.mk hre
            have hBx2 : W.heap.size ≤ By := hBy
            clear hw4 hw5 hr4 hr6 hu kxY hx3
            refine Flow.listIn_of_list (by rintro ⟨a0, w0, h⟩; exact hQ.out ⟨a0, w0, h⟩) _ rfl _ _ ?_
            obtain ⟨v, css, hos, hne, hsz, hx0⟩ := hI.out
            obtain ⟨V, vc, rfl, _⟩ := own_slice hos.own
            have hos0 := Hd.mk hos
            have hos5 := Hd.mk (hos.ext kx5.out)
            have hlt5 := Hd.mk (own_lt hos.own)
            replace hne := Hd.mk hne
            have hO := Hd.mk hos5.out.box
            have gO := hO.out.cell
            have fO := hO.out.free
            have gD := hD.out.cell
            have hlD := hD.out.lt
            have hlO := hO.out.lt
            clear hos hsz hx0
            go_wp2_with ((with_reducible refine stop_at (.call { callee := .builtin .append, args := #[.tmp 42, .tmp 44], argTypes := #[57, 57] }) ?_))
            refine Stop.mk ?_
            have hD6 := Hd.mk (Blk.new W5 #[.int .i64 3, .slice A4 way.length c4, .string old.name, .string old.key, .int .i64 old.kind, .int .u64 old.num, .string old.text, .slice K4 old.kids.length k4, .string node.name, .string node.key, .int .i64 node.kind, .int .u64 node.num, .string node.text, .slice K5 node.kids.length k5] 68)
            have kx6 := Hd.mk (Ext.alloc W5 (.cells #[.int .i64 3, .slice A4 way.length c4, .string old.name, .string old.key, .int .i64 old.kind, .int .u64 old.num, .string old.text, .slice K4 old.kids.length k4, .string node.name, .string node.key, .int .i64 node.kind, .int .u64 node.num, .string node.text, .slice K5 node.kids.length k5] 68))
            have hos6 := Hd.mk (hos5.out.ext kx6.out)
            have hre6 := Hd.mk (hre.out.ext kx6.out)
            have hs6 := kx5.out.size
            generalize W5.heap.size = B6 at *
            generalize W5.alloc _ = W6 at *
            refine wpl_append' sl57 (by omega) (by omega) (.tmp 42) (.tmp 44) 45 _ _ _ w.heap.size (.slice V done.length vc) done.length css.flatten rfl hos6.out.own ⟨B6, 0, none⟩ 1 1 _ rfl (by rw [hre6.out.len]) (fun i u hi => by rw [addr_add, Nat.zero_add, hD6.out.cell]; exact hi) hre6.out.one (by omega) (by have := hos6.out.box.lt; omega) ?_
            intro v' w' hown hgr hat
            obtain ⟨V', vc', rfl, _⟩ := own_slice hown
            have hp := Hd.mk (Outs.push hos6.out (hre6.out.mono (fun b _ hb => by refine ⟨by omega, fun hh => ?_⟩; have h6 := hlt5.out b hh; omega)) hown hgr hat)
            have hbox := Hd.mk (grownBy_blk' hgr (fun e => hos6.out.ne e.symm) hos6.out.box)
            clear hown hgr hat gO fO gD hlD hlO
            have gO := hbox.out.cell
            have fO := hbox.out.free
            go_wp2_with fail
            have hfr := (Fr.of_ext (O := w.heap.size) (v := .slice V done.length vc) (kx5.out.trans kx6.out)).trans hp.out.2
            exact hQn.out _ _ (fr_keeps (hI2 := hos0.out) hfr) (fr_kb hos0.out hne.out hfr) ⟨_, _, hp.out.1, hfr.ne (by omega) hne.out, Nat.le_trans (by omega) hfr.size, Below.trans kxW.out (hfr.below (Nat.le_refl _) kxW.out.size hos0.out.base)⟩
        · gi_wp2
          exact hQn.out _ _ (KeepsFrom.of_grownBy (row := none) ⟨kxY.out.os, kxY.out.tape, kxY.out.output, kxY.out.size, fun k hk _ => kxY.out.block k hk⟩ (fun j e => by cases e)) ⟨kxY.out.mono kxW.out.size, fun cs t hb => hb.ext kxY.out⟩ (by rw [show inv1 ⟨kd, way, node, old⟩ = [] by simp [inv1, k1, k2, k3], List.append_nil]; exact hI.out.ext kxY.out)
  case done =>
    rintro D zs W hD hz hI hK
    have hz' : (zs.map (·.1.2.1)).flatMap inv1 = inverse es := congrArg (List.flatMap inv1) hz
    have hI' : InvI w (inverse es) W := Eq.mp (congrArg (fun q => InvI w q W) hz') hI
    clear hI hz hz'
    obtain ⟨v, css, ho, hne, hsz2, hx0⟩ := hI'
    obtain ⟨A6, c6, rfl, hrow⟩ := ho.row (Nat.le_trans (inverse_len es) hlen)
    have hO := Hd.mk ho.box
    have gO := hO.out.cell
    replace hrow := Hd.mk hrow
    replace hx0 := Hd.mk hx0
    have hKd := Hd.mk hK
    clear ho hK
    gi_wp2
    refine ⟨by simp, .inl ⟨_, _, rfl, run_takeDeferred hKd.out, ?_⟩⟩
    exact ⟨_, results_tmp rfl _ _ _, _, rfl, A6, c6, rfl, hrow.out.keep (fun b off u hb hc => ⟨trivial, cell_kept hc (grownBy_putObj' W D _) (fun r e => by cases e; exact ⟨_, hKd.out, rfl⟩)⟩), Below.grown hx0.out (grownBy_putObj' W D _) hx0.out.size (fun k e => by cases e; omega)⟩
  case stop =>
    rintro D c pre W _ _ h _
    exact h.elim
end Go.Proofs.Ytgkgedjmnbjalaa
