/- Texts that the law needs, joined.
   Conditions: none. -/
import Derived.Test.YtgkgedjmnbjalaaPqD
set_option linter.unusedSimpArgs false
namespace Go.Proofs.Ytgkgedjmnbjalaa
open Go.RowKit Go.Sort
theorem bl_anti : ∀ x y : List UInt8, Op.bytesLess x y = false → Op.bytesLess y x = false → x = y
  | [], [], _, _ => rfl
  | [], b :: y, h, _ => by simp [Op.bytesLess] at h
  | a :: x, [], _, h => by simp [Op.bytesLess] at h
  | a :: x, b :: y, h, k => by
    simp only [Op.bytesLess, Bool.or_eq_false_iff, decide_eq_false_iff_not, Bool.and_eq_false_iff] at h k
    have hab : a = b := UInt8.le_antisymm (UInt8.not_lt.1 k.1) (UInt8.not_lt.1 h.1)
    subst hab
    have h2 : Op.bytesLess x y = false := by simpa using h.2
    have k2 : Op.bytesLess y x = false := by simpa using k.2
    rw [bl_anti x y h2 k2]
theorem ltB_anti {a b : ByteArray} (h : ltB a b = false) (k : ltB b a = false) : a = b := of_decide_eq_true (by rw [← str_eq, bl_anti _ _ h k]; exact beq_self_eq_true _)
theorem less_eq {x y : T} (h : lessT x y = false) (k : lessT y x = false) : stepT x = stepT y := by
  simp only [lessT, Bool.or_eq_false_iff, Bool.and_eq_false_iff, decide_eq_false_iff_not] at h k
  have hn := ltB_anti h.1 k.1
  have h2 : ltB x.key y.key = false := by
    rcases h.2 with h' | h'
    · exact absurd hn h'
    · exact h'
  have k2 : ltB y.key x.key = false := by
    rcases k.2 with h' | h'
    · exact absurd hn.symm h'
    · exact h'
  exact Prod.ext hn (ltB_anti h2 k2)
structure RLeft (N : Nat) (way : List Step) (xs ys : List T) (i k : Nat) (esF es : List E) : Prop where
  tot : esF = es ++ mergeE (cutE way) (setE way) (bothE (edits N) way) (xs.length - i + (ys.length - k)) (xs.drop i) (ys.drop k)
  el : es.length + sizeL (xs.drop i) + sizeL (ys.drop k) ≤ 1000000
theorem drop_cons {l : List T} {i : Nat} {x : T} (h : l[i]? = some x) : l.drop i = x :: l.drop (i + 1) := by
  obtain ⟨h1, h2⟩ := List.getElem?_eq_some_iff.1 h
  rw [List.drop_eq_getElem_cons h1, h2]
theorem RLeft.next_x {N : Nat} {way : List Step} {xs ys : List T} {i k : Nat} {esF es : List E} (h : RLeft N way xs ys i k esF es) {x : T} (hx : xs[i]? = some x) (hm : ys.length ≤ k ∨ ∃ y, ys[k]? = some y ∧ lessT x y = true) : RLeft N way xs ys (i + 1) k esF (es ++ cutE way x) := by
  have hlt := (List.getElem?_eq_some_iff.1 hx).1
  have ht := h.tot
  have he := h.el
  have hs := size_pos x
  rw [drop_cons hx] at ht he
  rw [sizeL_cons] at he
  refine ⟨?_, by simp [cutE]; omega⟩
  rw [show xs.length - i + (ys.length - k) = (xs.length - (i + 1) + (ys.length - k)) + 1 by omega] at ht
  rcases hm with hm | ⟨y, hy, hl⟩
  · rw [List.drop_of_length_le hm, mergeE_x] at ht
    rw [List.drop_of_length_le hm, ht, List.append_assoc]
  · rw [drop_cons hy, mergeE_lt _ _ _ hl] at ht
    rw [drop_cons hy, ht, List.append_assoc]
theorem RLeft.next_y {N : Nat} {way : List Step} {xs ys : List T} {i k : Nat} {esF es : List E} (h : RLeft N way xs ys i k esF es) {y : T} (hy : ys[k]? = some y) (hm : xs.length ≤ i ∨ ∃ x, xs[i]? = some x ∧ lessT x y = false ∧ lessT y x = true) : RLeft N way xs ys i (k + 1) esF (es ++ setE way y) := by
  have hlt := (List.getElem?_eq_some_iff.1 hy).1
  have ht := h.tot
  have he := h.el
  have hs := size_pos y
  rw [drop_cons hy] at ht he
  rw [sizeL_cons y] at he
  refine ⟨?_, by simp [setE]; omega⟩
  rw [show xs.length - i + (ys.length - k) = (xs.length - i + (ys.length - (k + 1))) + 1 by omega] at ht
  rcases hm with hm | ⟨x, hx, hl, hg⟩
  · rw [List.drop_of_length_le hm, mergeE_y] at ht
    rw [List.drop_of_length_le hm, ht, List.append_assoc]
  · rw [drop_cons hx, mergeE_gt _ _ _ hl hg] at ht
    rw [drop_cons hx, ht, List.append_assoc]
theorem RLeft.next_b {N : Nat} {way : List Step} {xs ys : List T} {i k : Nat} {esF es : List E} (h : RLeft N way xs ys i k esF es) {x y : T} (hx : xs[i]? = some x) (hy : ys[k]? = some y) (hl : lessT x y = false) (hg : lessT y x = false) : RLeft N way xs ys (i + 1) (k + 1) esF (es ++ bothE (edits N) way x y) := by
  have hlt := (List.getElem?_eq_some_iff.1 hx).1
  have hlt2 := (List.getElem?_eq_some_iff.1 hy).1
  have ht := h.tot
  have he := h.el
  have hs := bothE_len (edits_len N) way x y
  rw [drop_cons hx, drop_cons hy] at ht he
  rw [sizeL_cons, sizeL_cons] at he
  refine ⟨?_, by simp; omega⟩
  rw [show xs.length - i + (ys.length - k) = (xs.length - i + (ys.length - k) - 1) + 1 by omega, mergeE_eq _ _ _ hl hg,
    mergeE_fuel (xs.length - i + (ys.length - k) - 1) (xs.length - (i + 1) + (ys.length - (k + 1))) _ _ (by simp <;> omega) (by simp <;> omega)] at ht
  rw [ht, List.append_assoc]
def spOut (es : List E) (D : Nat) (G : Nat → Prop) : SP := ⟨fun v w => ∃ css, OutR D G w v css es, fun _ _ _ h ⟨css, ho⟩ => ⟨css, ho.ext h⟩⟩
def spEdP (e : E) (P : Nat → Prop) : SP := ⟨fun v w => ∃ c : List Value, v = .agg c.toArray ∧ RE P w e c, fun _ _ _ h ⟨c, e1, hr⟩ => ⟨c, e1, hr.ext h⟩⟩
def spEdsP (e : E) (P : Nat → Prop) : SP := ⟨fun v w => ∃ (g : Nat) (c : List Value), v = .slice (some ⟨g, 0, none⟩) 1 1 ∧ Blk w g c 68 ∧ RE P w e c, fun _ _ _ h ⟨g, c, e1, hb, hr⟩ => ⟨g, c, e1, hb.ext h, hr.ext h⟩⟩
theorem OutR.cap {B : Nat} {G : Nat → Prop} {w : World} {V : Option Addr} {n vc : Nat} {css : List (List Value)} {es : List E} (h : OutR B G w (.slice V n vc) css es) : es.length ≤ vc := by
  obtain ⟨A, c, h1, h2, _⟩ := own_slice h.own
  simp only [Value.slice.injEq] at h1
  omega
theorem ref_less' (a b : T) (K1 K2 : Option Addr) (n1 c1 n2 c2 : Nat) (w : World) :
    Calls Try.prog 67 #[.agg #[.string a.name, .string a.key, .int .i64 a.kind, .int .u64 a.num, .string a.text, .slice K1 n1 c1], .agg #[.string b.name, .string b.key, .int .i64 b.kind, .int .u64 b.num, .string b.text, .slice K2 n2 c2]] w fun e w' => e = .returned (.bool (lessT a b)) ∧ Ext w w' := ref_less a b K1 K2 n1 c1 n2 c2 w
theorem OutR.push1 {B : Nat} {G : Nat → Prop} {w w' : World} {v v' : Value} {css : List (List Value)} {es : List E} {e : E} {c : List Value} (h : OutR B G w v css es) (hc : RE (fun b => v.ownBlock ≠ some b ∧ G b) w e c) (hown : w'.ownsRow B 68 14 v' (es.length + 1) (css.flatten ++ c)) (hg : w.grownBy w' v.ownBlock) (hat : v'.ownBlock = v.ownBlock ∨ v'.ownBlock = some w.heap.size) :
    OutR B G w' v' (css ++ [c]) (es ++ [e]) := by
  refine OutR.push (css2 := [c]) (es2 := [e]) h rfl (fun d hd => ?_) (fun i e' c' he hc' => ?_) (by simpa using hown) hg hat
  · simp at hd
    subst hd
    exact hc.len
  · match i, he, hc' with
    | 0, he, hc' => simp at he hc'; subst he hc'; exact hc
    | i + 1, he, hc' => simp at he
set_option maxRecDepth 100000 in
set_option maxHeartbeats 8000000 in
theorem ref_edits_step (N : Nat) (hN : RefAt N) : RefAt (N + 1) := by
    intro S w way A c a b ca cb hd hw ha hb hwl hes
    obtain ⟨K1, c1, rfl, hr1⟩ := ha.row
    obtain ⟨K2, c2, rfl, hr2⟩ := hb.row
    have kr1 := Hd.mk hr1
    have kr2 := Hd.mk hr2
    have kw := Hd.mk hw
    have ih := Hd.mk hN
    have hdk := Hd.mk (show deepL a.kids ≤ N by have := deepL_kids a; omega)
    have hwd := Hd.mk (show way.length + 1 + deepL a.kids ≤ 1000000 by have := deepL_kids a; omega)
    have hl1 := hr1.len
    have hl2 := hr2.len
    have hes0 := Hd.mk (show sizeL a.kids + sizeL b.kids ≤ 1000000 by have := a.size_eq; have := b.size_eq; omega)
    generalize hesF : edits (N + 1) a b way = esF
    have hL0 := Hd.mk (show RLeft N way a.kids b.kids 0 0 esF [] from ⟨by rw [← hesF]; rfl, by simpa using hes0.out⟩)
    clear hesF hr1 hr2 ha hb hw hd hwl hes
    simp only [cT]
    go_enter Try.func101, Try.ntmps101
    go_wp2_with fail
    have kx := Hd.mk ((Ext.alloc w (.cells #[.string a.name, .string a.key, .int .i64 a.kind, .int .u64 a.num, .string a.text, .slice K1 a.kids.length c1] 54)).trans (Ext.alloc _ (.cells #[.string b.name, .string b.key, .int .i64 b.kind, .int .u64 b.num, .string b.text, .slice K2 b.kids.length c2] 54)))
    have kA := Hd.mk ((Blk.new w #[.string a.name, .string a.key, .int .i64 a.kind, .int .u64 a.num, .string a.text, .slice K1 a.kids.length c1] 54).alloc (.cells #[.string b.name, .string b.key, .int .i64 b.kind, .int .u64 b.num, .string b.text, .slice K2 b.kids.length c2] 54))
    have kB := Hd.mk (Blk.new2 w (.cells #[.string a.name, .string a.key, .int .i64 a.kind, .int .u64 a.num, .string a.text, .slice K1 a.kids.length c1] 54) #[.string b.name, .string b.key, .int .i64 b.kind, .int .u64 b.num, .string b.text, .slice K2 b.kids.length c2] 54)
    have hsz := Hd.mk kx.out.size
    generalize hpA : w.heap.size = pA at *
    have hpA := Hd.mk hpA
    generalize (w.alloc _).alloc _ = W at *
    go_loopg [7, 8, 9] (a.kids.length + b.kids.length) (fun q s7 s8 s9 wr => ∃ (i k : Nat) (css : List (List Value)) (es : List E) (V : Option Addr) (vc : Nat), i ≤ a.kids.length ∧ k ≤ b.kids.length ∧ Hd (q = a.kids.length - i + (b.kids.length - k)) ∧ s7 = .slice V es.length vc ∧ s8 = .int .i64 i ∧ s9 = .int .i64 k ∧
      Hd (OutR W.heap.size (fun b => S b ∨ w.heap.size ≤ b) wr (.slice V es.length vc) css es) ∧ Hd (Ext W wr) ∧ Hd (RLeft N way a.kids b.kids i k esF es))
    case atStart => exact ⟨0, 0, [], [], none, 0, by omega, by omega, ⟨by omega⟩, rfl, rfl, rfl, ⟨OutR.nil _ _ _⟩, ⟨Ext.refl _⟩, hL0⟩
    case round =>
    obtain ⟨i, k, css, es, V, vc, hi, hk, hq, rfl, rfl, rfl, ho, hxr, hL⟩ := hrel
    have kAr := Hd.mk (kA.out.ext hxr.out)
    have kBr := Hd.mk (kB.out.ext hxr.out)
    have hszr := Hd.mk (Nat.le_trans hsz.out hxr.out.size)
    have hesb := Hd.mk (show es.length ≤ 1000000 by have := hL.out.el; omega)
    have gA := kAr.out.cell
    have gB := kBr.out.cell
    by_cases hia : i < a.kids.length
    · have hia2 := hia
      have hx1 := List.getElem?_eq_getElem hia
      generalize a.kids[i] = x at hx1
      replace hx1 := Hd.mk hx1
      obtain ⟨b1, o1, ck, rfl, _, hrk, hck⟩ := kr1.out.kid i x hx1.out
      obtain ⟨K3, c3, rfl, hr3⟩ := hrk.row
      replace hrk := Hd.mk hrk
      replace hr3 := Hd.mk hr3
      have kcx := Hd.mk (fun (q : Nat) u hq => Ext.cell (kx.out.trans hxr.out) (hck q u hq))
      clear hck
      simp only [cT] at kcx hrk
      by_cases hkb : k < b.kids.length
      · have hkb2 := hkb
        have hy1 := List.getElem?_eq_getElem hkb
        generalize b.kids[k] = y at hy1
        replace hy1 := Hd.mk hy1
        obtain ⟨b2, o2, dk, rfl, _, hrd, hdk⟩ := kr2.out.kid k y hy1.out
        obtain ⟨K4, c4, rfl, hr4⟩ := hrd.row
        replace hrd := Hd.mk hrd
        replace hr4 := Hd.mk hr4
        have kcy := Hd.mk (fun (q : Nat) u hq => Ext.cell (kx.out.trans hxr.out) (hdk q u hq))
        clear hdk
        simp only [cT] at kcy hrd
        go_wp2_with fail
        cases hxy : lessT x y with
        | true =>
          refine Flow.wp_region_flow_l (fun qq => match qq with
            | 47 => SP.eq (.int .i64 (k : Nat))
            | 48 => SP.eq (.pointer (some ⟨(pA + 1), 5, none⟩))
            | 49 => SP.eq (.slice (some ⟨b2, o2, none⟩) b.kids.length c2)
            | 50 => SP.eq (.int .i64 (b.kids.length : Nat))
            | 51 => SP.eq (.bool false)
            | 52 => SP.eq (.bool false)
            | 53 => SP.eq (.int .i64 (i : Nat))
            | 54 => SP.eq (.pointer (some ⟨pA, 5, none⟩))
            | 55 => SP.eq (.slice (some ⟨b1, o1, none⟩) a.kids.length c1)
            | 56 => SP.eq (.int .i64 (a.kids.length : Nat))
            | 57 => SP.eq (.bool true)
            | 58 => SP.eq (.bool true)
            | 59 => SP.eq (.pointer (some ⟨pA, 5, none⟩))
            | 60 => SP.eq (.slice (some ⟨b1, o1, none⟩) a.kids.length c1)
            | 61 => SP.eq (.int .i64 (i : Nat))
            | 62 => SP.eq (.pointer (some ⟨b1, o1 + i * 6, none⟩))
            | 63 => SP.eq (.agg #[.string x.name, .string x.key, .int .i64 x.kind, .int .u64 x.num, .string x.text, .slice K3 x.kids.length c3])
            | 64 => SP.eq (.pointer (some ⟨(pA + 1), 5, none⟩))
            | 65 => SP.eq (.slice (some ⟨b2, o2, none⟩) b.kids.length c2)
            | 66 => SP.eq (.int .i64 (k : Nat))
            | 67 => SP.eq (.pointer (some ⟨b2, o2 + k * 6, none⟩))
            | 68 => SP.eq (.agg #[.string y.name, .string y.key, .int .i64 y.kind, .int .u64 y.num, .string y.text, .slice K4 y.kids.length c4])
            | 69 => SP.eq (.bool true)
            | 70 => SP.eq (.bool true)
            | 71 => SP.eq (.bool true)
            | 46 => SP.eq (.bool true)
            | _ => SP.any) 26 (by kernel_rfl) 128 rfl (by kernel_rfl) ?_ ?_
          · skip
            refine ⟨?_, ?_, ?_, ?_, ?_, ?_, ?_, ?_, ?_, ?_, ?_, ?_, ?_, ?_, ?_, ?_, ?_, ?_, ?_, ?_, ?_, ?_, ?_, ?_, ?_, ?_, trivial⟩
            · intro act W2 hk
              refine Flow.does_intro rfl (fun Kq hK => ?_)
              have e9 : act.tmps[9]?.getD undef = .int .i64 (k : Nat) := hk.o 9 (by kernel_rfl)
              clear hk
              go_simp
              exact hK _ _ (Ext.refl _) (fun d hd => by cases hd; rfl)
            · intro act W2 hk
              refine Flow.does_intro rfl (fun Kq hK => ?_)
              have e4 : act.tmps[4]?.getD undef = .pointer (some ⟨(pA + 1), 0, none⟩) := hk.o 4 (by kernel_rfl)
              clear hk
              go_simp
              exact hK _ _ (Ext.refl _) (fun d hd => by cases hd; rfl)
            · intro act W2 hk
              refine Flow.does_intro rfl (fun Kq hK => ?_)
              have e48 : act.tmps[48]?.getD undef = .pointer (some ⟨(pA + 1), 5, none⟩) := hk.v 48 (by kernel_rfl)
              have g := ((kBr.out).ext ((Ext.drew wr).trans hk.ext)).cell
              clear hk
              go_simp
              exact hK _ _ (Ext.refl _) (fun d hd => by cases hd; rfl)
            · intro act W2 hk
              refine Flow.does_intro rfl (fun Kq hK => ?_)
              have e49 : act.tmps[49]?.getD undef = .slice (some ⟨b2, o2, none⟩) b.kids.length c2 := hk.v 49 (by kernel_rfl)
              clear hk
              go_simp
              exact hK _ _ (Ext.refl _) (fun d hd => by cases hd; rfl)
            · intro act W2 hk
              refine Flow.does_intro rfl (fun Kq hK => ?_)
              have e47 : act.tmps[47]?.getD undef = .int .i64 (k : Nat) := hk.v 47 (by kernel_rfl)
              have e50 : act.tmps[50]?.getD undef = .int .i64 (b.kids.length : Nat) := hk.v 50 (by kernel_rfl)
              clear hk
              go_simp
              exact hK _ _ (Ext.refl _) (fun d hd => by cases hd; first | rfl | (simp [SP.eq]; omega))
            · intro act W2 hk
              refine Flow.does_intro rfl (fun Kq hK => ?_)
              have e51 : act.tmps[51]?.getD undef = .bool false := hk.v 51 (by kernel_rfl)
              clear hk
              go_simp
              exact hK _ _ (Ext.refl _) (fun d hd => by cases hd; rfl)
            · intro act W2 hk
              have eg : act.tmps[52]?.getD undef = .bool false := hk.v 52 (by kernel_rfl)
              refine Flow.does_intro (wanted_yes rfl rfl eg) (fun Kq hK => ?_)
              clear eg
              have e8 : act.tmps[8]?.getD undef = .int .i64 (i : Nat) := hk.o 8 (by kernel_rfl)
              clear hk
              go_simp
              exact hK _ _ (Ext.refl _) (fun d hd => by cases hd; rfl)
            · intro act W2 hk
              have eg : act.tmps[52]?.getD undef = .bool false := hk.v 52 (by kernel_rfl)
              refine Flow.does_intro (wanted_yes rfl rfl eg) (fun Kq hK => ?_)
              clear eg
              have e3 : act.tmps[3]?.getD undef = .pointer (some ⟨pA, 0, none⟩) := hk.o 3 (by kernel_rfl)
              clear hk
              go_simp
              exact hK _ _ (Ext.refl _) (fun d hd => by cases hd; rfl)
            · intro act W2 hk
              have eg : act.tmps[52]?.getD undef = .bool false := hk.v 52 (by kernel_rfl)
              refine Flow.does_intro (wanted_yes rfl rfl eg) (fun Kq hK => ?_)
              clear eg
              have e54 : act.tmps[54]?.getD undef = .pointer (some ⟨pA, 5, none⟩) := hk.v 54 (by kernel_rfl)
              have g := ((kAr.out).ext ((Ext.drew wr).trans hk.ext)).cell
              clear hk
              go_simp
              exact hK _ _ (Ext.refl _) (fun d hd => by cases hd; rfl)
            · intro act W2 hk
              have eg : act.tmps[52]?.getD undef = .bool false := hk.v 52 (by kernel_rfl)
              refine Flow.does_intro (wanted_yes rfl rfl eg) (fun Kq hK => ?_)
              clear eg
              have e55 : act.tmps[55]?.getD undef = .slice (some ⟨b1, o1, none⟩) a.kids.length c1 := hk.v 55 (by kernel_rfl)
              clear hk
              go_simp
              exact hK _ _ (Ext.refl _) (fun d hd => by cases hd; rfl)
            · intro act W2 hk
              have eg : act.tmps[52]?.getD undef = .bool false := hk.v 52 (by kernel_rfl)
              refine Flow.does_intro (wanted_yes rfl rfl eg) (fun Kq hK => ?_)
              clear eg
              have e53 : act.tmps[53]?.getD undef = .int .i64 (i : Nat) := hk.v 53 (by kernel_rfl)
              have e56 : act.tmps[56]?.getD undef = .int .i64 (a.kids.length : Nat) := hk.v 56 (by kernel_rfl)
              clear hk
              go_simp
              exact hK _ _ (Ext.refl _) (fun d hd => by cases hd; first | rfl | (simp [SP.eq]; omega))
            · intro act W2 hk
              have eg : act.tmps[52]?.getD undef = .bool false := hk.v 52 (by kernel_rfl)
              refine Flow.does_intro (wanted_yes rfl rfl eg) (fun Kq hK => ?_)
              clear eg
              have e57 : act.tmps[57]?.getD undef = .bool true := hk.v 57 (by kernel_rfl)
              clear hk
              go_simp
              exact hK _ _ (Ext.refl _) (fun d hd => by cases hd; rfl)
            · intro act W2 hk
              have eg : act.tmps[58]?.getD undef = .bool true := hk.v 58 (by kernel_rfl)
              refine Flow.does_intro (wanted_yes rfl rfl eg) (fun Kq hK => ?_)
              clear eg
              have e3 : act.tmps[3]?.getD undef = .pointer (some ⟨pA, 0, none⟩) := hk.o 3 (by kernel_rfl)
              clear hk
              go_simp
              exact hK _ _ (Ext.refl _) (fun d hd => by cases hd; rfl)
            · intro act W2 hk
              have eg : act.tmps[58]?.getD undef = .bool true := hk.v 58 (by kernel_rfl)
              refine Flow.does_intro (wanted_yes rfl rfl eg) (fun Kq hK => ?_)
              clear eg
              have e59 : act.tmps[59]?.getD undef = .pointer (some ⟨pA, 5, none⟩) := hk.v 59 (by kernel_rfl)
              have g := ((kAr.out).ext ((Ext.drew wr).trans hk.ext)).cell
              clear hk
              go_simp
              exact hK _ _ (Ext.refl _) (fun d hd => by cases hd; rfl)
            · intro act W2 hk
              have eg : act.tmps[58]?.getD undef = .bool true := hk.v 58 (by kernel_rfl)
              refine Flow.does_intro (wanted_yes rfl rfl eg) (fun Kq hK => ?_)
              clear eg
              have e8 : act.tmps[8]?.getD undef = .int .i64 (i : Nat) := hk.o 8 (by kernel_rfl)
              clear hk
              go_simp
              exact hK _ _ (Ext.refl _) (fun d hd => by cases hd; rfl)
            · intro act W2 hk
              have eg : act.tmps[58]?.getD undef = .bool true := hk.v 58 (by kernel_rfl)
              refine Flow.does_intro (wanted_yes rfl rfl eg) (fun Kq hK => ?_)
              clear eg
              have e60 : act.tmps[60]?.getD undef = .slice (some ⟨b1, o1, none⟩) a.kids.length c1 := hk.v 60 (by kernel_rfl)
              have e61 : act.tmps[61]?.getD undef = .int .i64 (i : Nat) := hk.v 61 (by kernel_rfl)
              clear hk
              go_simp
              exact hK _ _ (Ext.refl _) (fun d hd => by cases hd; rfl)
            · intro act W2 hk
              have eg : act.tmps[58]?.getD undef = .bool true := hk.v 58 (by kernel_rfl)
              refine Flow.does_intro (wanted_yes rfl rfl eg) (fun Kq hK => ?_)
              clear eg
              have e62 : act.tmps[62]?.getD undef = .pointer (some ⟨b1, o1 + i * 6, none⟩) := hk.v 62 (by kernel_rfl)
              have g0 := Ext.cell ((Ext.drew wr).trans hk.ext) ((kcx.out) 0 _ rfl)
              rw [Nat.add_zero] at g0
              have g1 := Ext.cell ((Ext.drew wr).trans hk.ext) ((kcx.out) 1 _ rfl)
              have g2 := Ext.cell ((Ext.drew wr).trans hk.ext) ((kcx.out) 2 _ rfl)
              have g3 := Ext.cell ((Ext.drew wr).trans hk.ext) ((kcx.out) 3 _ rfl)
              have g4 := Ext.cell ((Ext.drew wr).trans hk.ext) ((kcx.out) 4 _ rfl)
              have g5 := Ext.cell ((Ext.drew wr).trans hk.ext) ((kcx.out) 5 _ rfl)
              clear hk
              go_simp
              exact hK _ _ (Ext.refl _) (fun d hd => by cases hd; rfl)
            · intro act W2 hk
              have eg : act.tmps[58]?.getD undef = .bool true := hk.v 58 (by kernel_rfl)
              refine Flow.does_intro (wanted_yes rfl rfl eg) (fun Kq hK => ?_)
              clear eg
              have e4 : act.tmps[4]?.getD undef = .pointer (some ⟨(pA + 1), 0, none⟩) := hk.o 4 (by kernel_rfl)
              clear hk
              go_simp
              exact hK _ _ (Ext.refl _) (fun d hd => by cases hd; rfl)
            · intro act W2 hk
              have eg : act.tmps[58]?.getD undef = .bool true := hk.v 58 (by kernel_rfl)
              refine Flow.does_intro (wanted_yes rfl rfl eg) (fun Kq hK => ?_)
              clear eg
              have e64 : act.tmps[64]?.getD undef = .pointer (some ⟨(pA + 1), 5, none⟩) := hk.v 64 (by kernel_rfl)
              have g := ((kBr.out).ext ((Ext.drew wr).trans hk.ext)).cell
              clear hk
              go_simp
              exact hK _ _ (Ext.refl _) (fun d hd => by cases hd; rfl)
            · intro act W2 hk
              have eg : act.tmps[58]?.getD undef = .bool true := hk.v 58 (by kernel_rfl)
              refine Flow.does_intro (wanted_yes rfl rfl eg) (fun Kq hK => ?_)
              clear eg
              have e9 : act.tmps[9]?.getD undef = .int .i64 (k : Nat) := hk.o 9 (by kernel_rfl)
              clear hk
              go_simp
              exact hK _ _ (Ext.refl _) (fun d hd => by cases hd; rfl)
            · intro act W2 hk
              have eg : act.tmps[58]?.getD undef = .bool true := hk.v 58 (by kernel_rfl)
              refine Flow.does_intro (wanted_yes rfl rfl eg) (fun Kq hK => ?_)
              clear eg
              have e65 : act.tmps[65]?.getD undef = .slice (some ⟨b2, o2, none⟩) b.kids.length c2 := hk.v 65 (by kernel_rfl)
              have e66 : act.tmps[66]?.getD undef = .int .i64 (k : Nat) := hk.v 66 (by kernel_rfl)
              clear hk
              go_simp
              exact hK _ _ (Ext.refl _) (fun d hd => by cases hd; rfl)
            · intro act W2 hk
              have eg : act.tmps[58]?.getD undef = .bool true := hk.v 58 (by kernel_rfl)
              refine Flow.does_intro (wanted_yes rfl rfl eg) (fun Kq hK => ?_)
              clear eg
              have e67 : act.tmps[67]?.getD undef = .pointer (some ⟨b2, o2 + k * 6, none⟩) := hk.v 67 (by kernel_rfl)
              have g0 := Ext.cell ((Ext.drew wr).trans hk.ext) ((kcy.out) 0 _ rfl)
              rw [Nat.add_zero] at g0
              have g1 := Ext.cell ((Ext.drew wr).trans hk.ext) ((kcy.out) 1 _ rfl)
              have g2 := Ext.cell ((Ext.drew wr).trans hk.ext) ((kcy.out) 2 _ rfl)
              have g3 := Ext.cell ((Ext.drew wr).trans hk.ext) ((kcy.out) 3 _ rfl)
              have g4 := Ext.cell ((Ext.drew wr).trans hk.ext) ((kcy.out) 4 _ rfl)
              have g5 := Ext.cell ((Ext.drew wr).trans hk.ext) ((kcy.out) 5 _ rfl)
              clear hk
              go_simp
              exact hK _ _ (Ext.refl _) (fun d hd => by cases hd; rfl)
            · intro act W2 hk
              have eg : act.tmps[58]?.getD undef = .bool true := hk.v 58 (by kernel_rfl)
              refine Flow.does_intro (wanted_yes rfl rfl eg) (fun Kq hK => ?_)
              clear eg
              have e63 : act.tmps[63]?.getD undef = .agg #[.string x.name, .string x.key, .int .i64 x.kind, .int .u64 x.num, .string x.text, .slice K3 x.kids.length c3] := hk.v 63 (by kernel_rfl)
              have e68 : act.tmps[68]?.getD undef = .agg #[.string y.name, .string y.key, .int .i64 y.kind, .int .u64 y.num, .string y.text, .slice K4 y.kids.length c4] := hk.v 68 (by kernel_rfl)
              clear hk
              go_simp
              refine Calls.mono (ref_less' x y K3 K4 x.kids.length c3 y.kids.length c4 _) ?_
              rintro e W3 ⟨rfl, hx⟩
              exact hK _ _ hx (fun d hd => by cases hd; exact congrArg Value.bool hxy)
            · intro act W2 hk
              have eg : act.tmps[52]?.getD undef = .bool false := hk.v 52 (by kernel_rfl)
              refine Flow.does_intro (wanted_yes rfl rfl eg) (fun Kq hK => ?_)
              clear eg
              have e58 : act.tmps[58]?.getD undef = .bool true := hk.v 58 (by kernel_rfl)
              have e69 : act.tmps[69]?.getD undef = .bool true := hk.v 69 (by kernel_rfl)
              clear hk
              go_simp
              exact hK _ _ (Ext.refl _) (fun d hd => by cases hd; rfl)
            · intro act W2 hk
              refine Flow.does_intro rfl (fun Kq hK => ?_)
              have e52 : act.tmps[52]?.getD undef = .bool false := hk.v 52 (by kernel_rfl)
              have e70 : act.tmps[70]?.getD undef = .bool true := hk.v 70 (by kernel_rfl)
              clear hk
              go_simp
              exact hK _ _ (Ext.refl _) (fun d hd => by cases hd; rfl)
            · intro act W2 hk
              refine Flow.does_intro rfl (fun Kq hK => ?_)
              have e71 : act.tmps[71]?.getD undef = .bool true := hk.v 71 (by kernel_rfl)
              clear hk
              go_simp
              exact hK _ _ (Ext.refl _) (fun d hd => by cases hd; rfl)
          · intro act V1 he
            have hxV1 := Hd.mk ((Ext.drew wr).trans he.ext)
            obtain ⟨us, hA, hF⟩ := he.out [47, 48, 49, 50, 51, 52, 53, 54, 55, 56, 57, 58, 59, 60, 61, 62, 63, 64, 65, 66, 67, 68, 69, 70, 71, 46] (by kernel_rfl)
            simp only [Flow.fillL, List.contains_cons, List.contains_nil, Nat.reduceBEq, Bool.or_false, Bool.false_or, Bool.or_true, Bool.true_or, ↓reduceIte, Nat.reduceAdd, Bool.false_eq_true] at hA
            subst hA
            have f46 : us 46 = .bool true := hF 46 (by simp)
            clear hF he
            rw [f46]
            clear f46
            have kA1 := Hd.mk (kAr.out.ext hxV1.out)
            have kB1 := Hd.mk (kBr.out.ext hxV1.out)
            have ho1 := Hd.mk (ho.out.ext hxV1.out)
            have kcx1 := Hd.mk (fun (q : Nat) u hq => Ext.cell hxV1.out (kcx.out q u hq))
            refine (show wpList _ _ _ [] _ _ from ?_)
            go_wp2_with fail
            obtain ⟨wy, hwy⟩ : ∃ wy, Hd (way ++ [(x.name, x.key)] = wy) := ⟨_, ⟨rfl⟩⟩
            refine Flow.wp_region_flow_l (fun qq => match qq with
              | 72 => SP.eq (.slice V es.length vc)
              | 73 => SP.eq (.slice A way.length c)
              | 74 => SP.eq (.pointer (some ⟨pA, 5, none⟩))
              | 75 => SP.eq (.slice (some ⟨b1, o1, none⟩) a.kids.length c1)
              | 76 => SP.eq (.int .i64 (i : Nat))
              | 77 => SP.eq (.pointer (some ⟨b1, o1 + i * 6, none⟩))
              | 78 => SP.eq (.agg #[.string x.name, .string x.key, .int .i64 x.kind, .int .u64 x.num, .string x.text, .slice K3 x.kids.length c3])
              | 79 => spWay wy V1.heap.size
              | 80 => SP.eq (.pointer (some ⟨pA, 5, none⟩))
              | 81 => SP.eq (.slice (some ⟨b1, o1, none⟩) a.kids.length c1)
              | 82 => SP.eq (.int .i64 (i : Nat))
              | 83 => SP.eq (.pointer (some ⟨b1, o1 + i * 6, none⟩))
              | 84 => SP.eq (.agg #[.string x.name, .string x.key, .int .i64 x.kind, .int .u64 x.num, .string x.text, .slice K3 x.kids.length c3])
              | 85 => spEdP (⟨2, wy, zeroT, x⟩ : E) (fun b => (S b ∧ b < w.heap.size) ∨ V1.heap.size ≤ b)
              | 86 => spEdsP (⟨2, wy, zeroT, x⟩ : E) (fun b => (S b ∧ b < w.heap.size) ∨ V1.heap.size ≤ b)
              | _ => SP.any) 15 (by kernel_rfl) 128 rfl (by kernel_rfl) ?_ ?_
            · skip
              refine ⟨?_, ?_, ?_, ?_, ?_, ?_, ?_, ?_, ?_, ?_, ?_, ?_, ?_, ?_, ?_, trivial⟩
              · intro act W2 hk
                refine Flow.does_intro rfl (fun Kq hK => ?_)
                have e7 : act.tmps[7]?.getD undef = .slice V es.length vc := hk.o 7 (by kernel_rfl)
                clear hk
                go_simp
                exact hK _ _ (Ext.refl _) (fun d hd => by cases hd; rfl)
              · intro act W2 hk
                refine Flow.does_intro rfl (fun Kq hK => ?_)
                have e2 : act.tmps[2]?.getD undef = .slice A way.length c := hk.o 2 (by kernel_rfl)
                clear hk
                go_simp
                exact hK _ _ (Ext.refl _) (fun d hd => by cases hd; rfl)
              · intro act W2 hk
                refine Flow.does_intro rfl (fun Kq hK => ?_)
                have e3 : act.tmps[3]?.getD undef = .pointer (some ⟨pA, 0, none⟩) := hk.o 3 (by kernel_rfl)
                clear hk
                go_simp
                exact hK _ _ (Ext.refl _) (fun d hd => by cases hd; rfl)
              · intro act W2 hk
                refine Flow.does_intro rfl (fun Kq hK => ?_)
                have e74 : act.tmps[74]?.getD undef = .pointer (some ⟨pA, 5, none⟩) := hk.v 74 (by kernel_rfl)
                have g := ((kA1.out).ext ((Ext.drew V1).trans hk.ext)).cell
                clear hk
                go_simp
                exact hK _ _ (Ext.refl _) (fun d hd => by cases hd; rfl)
              · intro act W2 hk
                refine Flow.does_intro rfl (fun Kq hK => ?_)
                have e8 : act.tmps[8]?.getD undef = .int .i64 (i : Nat) := hk.o 8 (by kernel_rfl)
                clear hk
                go_simp
                exact hK _ _ (Ext.refl _) (fun d hd => by cases hd; rfl)
              · intro act W2 hk
                refine Flow.does_intro rfl (fun Kq hK => ?_)
                have e75 : act.tmps[75]?.getD undef = .slice (some ⟨b1, o1, none⟩) a.kids.length c1 := hk.v 75 (by kernel_rfl)
                have e76 : act.tmps[76]?.getD undef = .int .i64 (i : Nat) := hk.v 76 (by kernel_rfl)
                clear hk
                go_simp
                exact hK _ _ (Ext.refl _) (fun d hd => by cases hd; rfl)
              · intro act W2 hk
                refine Flow.does_intro rfl (fun Kq hK => ?_)
                have e77 : act.tmps[77]?.getD undef = .pointer (some ⟨b1, o1 + i * 6, none⟩) := hk.v 77 (by kernel_rfl)
                have g0 := Ext.cell ((Ext.drew V1).trans hk.ext) ((kcx1.out) 0 _ rfl)
                rw [Nat.add_zero] at g0
                have g1 := Ext.cell ((Ext.drew V1).trans hk.ext) ((kcx1.out) 1 _ rfl)
                have g2 := Ext.cell ((Ext.drew V1).trans hk.ext) ((kcx1.out) 2 _ rfl)
                have g3 := Ext.cell ((Ext.drew V1).trans hk.ext) ((kcx1.out) 3 _ rfl)
                have g4 := Ext.cell ((Ext.drew V1).trans hk.ext) ((kcx1.out) 4 _ rfl)
                have g5 := Ext.cell ((Ext.drew V1).trans hk.ext) ((kcx1.out) 5 _ rfl)
                clear hk
                go_simp
                exact hK _ _ (Ext.refl _) (fun d hd => by cases hd; rfl)
              · intro act W2 hk
                refine Flow.does_intro rfl (fun Kq hK => ?_)
                have e73 : act.tmps[73]?.getD undef = .slice A way.length c := hk.v 73 (by kernel_rfl)
                have e78 : act.tmps[78]?.getD undef = .agg #[.string x.name, .string x.key, .int .i64 x.kind, .int .u64 x.num, .string x.text, .slice K3 x.kids.length c3] := hk.v 78 (by kernel_rfl)
                have hx0 := Hd.mk ((Ext.drew V1).trans hk.ext)
                have hsz0 := hx0.out.size
                have hon := Hd.mk (ref_way x K3 x.kids.length c3 kw.out (kx.out.trans (hxr.out.trans (hxV1.out.trans hx0.out))) (by have := hwd.out; omega))
                rw [hwy.out] at hon
                clear hk
                go_simp
                refine Calls.mono (hon.out) ?_
                rintro e W3 ⟨_, rfl, A', c', rfl, hr', hx⟩
                exact hK _ _ hx (fun d hd => by cases hd; exact ⟨A', c', rfl, hr'.mono (fun b _ hb => Nat.le_trans hsz0 hb)⟩)
              · intro act W2 hk
                refine Flow.does_intro rfl (fun Kq hK => ?_)
                have e3 : act.tmps[3]?.getD undef = .pointer (some ⟨pA, 0, none⟩) := hk.o 3 (by kernel_rfl)
                clear hk
                go_simp
                exact hK _ _ (Ext.refl _) (fun d hd => by cases hd; rfl)
              · intro act W2 hk
                refine Flow.does_intro rfl (fun Kq hK => ?_)
                have e80 : act.tmps[80]?.getD undef = .pointer (some ⟨pA, 5, none⟩) := hk.v 80 (by kernel_rfl)
                have g := ((kA1.out).ext ((Ext.drew V1).trans hk.ext)).cell
                clear hk
                go_simp
                exact hK _ _ (Ext.refl _) (fun d hd => by cases hd; rfl)
              · intro act W2 hk
                refine Flow.does_intro rfl (fun Kq hK => ?_)
                have e8 : act.tmps[8]?.getD undef = .int .i64 (i : Nat) := hk.o 8 (by kernel_rfl)
                clear hk
                go_simp
                exact hK _ _ (Ext.refl _) (fun d hd => by cases hd; rfl)
              · intro act W2 hk
                refine Flow.does_intro rfl (fun Kq hK => ?_)
                have e81 : act.tmps[81]?.getD undef = .slice (some ⟨b1, o1, none⟩) a.kids.length c1 := hk.v 81 (by kernel_rfl)
                have e82 : act.tmps[82]?.getD undef = .int .i64 (i : Nat) := hk.v 82 (by kernel_rfl)
                clear hk
                go_simp
                exact hK _ _ (Ext.refl _) (fun d hd => by cases hd; rfl)
              · intro act W2 hk
                refine Flow.does_intro rfl (fun Kq hK => ?_)
                have e83 : act.tmps[83]?.getD undef = .pointer (some ⟨b1, o1 + i * 6, none⟩) := hk.v 83 (by kernel_rfl)
                have g0 := Ext.cell ((Ext.drew V1).trans hk.ext) ((kcx1.out) 0 _ rfl)
                rw [Nat.add_zero] at g0
                have g1 := Ext.cell ((Ext.drew V1).trans hk.ext) ((kcx1.out) 1 _ rfl)
                have g2 := Ext.cell ((Ext.drew V1).trans hk.ext) ((kcx1.out) 2 _ rfl)
                have g3 := Ext.cell ((Ext.drew V1).trans hk.ext) ((kcx1.out) 3 _ rfl)
                have g4 := Ext.cell ((Ext.drew V1).trans hk.ext) ((kcx1.out) 4 _ rfl)
                have g5 := Ext.cell ((Ext.drew V1).trans hk.ext) ((kcx1.out) 5 _ rfl)
                clear hk
                go_simp
                exact hK _ _ (Ext.refl _) (fun d hd => by cases hd; rfl)
              · intro act W2 hk
                refine Flow.does_intro rfl (fun Kq hK => ?_)
                have e84 : act.tmps[84]?.getD undef = .agg #[.string x.name, .string x.key, .int .i64 x.kind, .int .u64 x.num, .string x.text, .slice K3 x.kids.length c3] := hk.v 84 (by kernel_rfl)
                have hx0 := Hd.mk ((Ext.drew V1).trans hk.ext)
                obtain ⟨A', c', e79, h7⟩ := (hk.v 79 (by kernel_rfl) : (spWay _ _).p _ _)
                have h7 := Hd.mk h7
                clear hk
                go_simp
                exact hK _ _ (Ext.refl _) (fun d hd => by cases hd; exact ⟨_, rfl, A', c', none, 0, K3, c3, rfl, h7.out.mono (fun b _ hb => .inr hb), RRow.nil _ _ _ _ (fun _ => rfl), ((hr3.out.mono' (S' := fun b => (S b ∧ b < w.heap.size) ∨ V1.heap.size ≤ b) (fun b hb h => .inl ⟨h, hb⟩)).ext (kx.out.trans (hxr.out.trans (hxV1.out.trans hx0.out))))⟩)
              · intro act W2 hk
                refine Flow.does_intro rfl (fun Kq hK => ?_)
                obtain ⟨c', e85, h10⟩ := (hk.v 85 (by kernel_rfl) : (spEdP _ _).p _ _)
                have h10' := h10
                obtain ⟨q1, q2, q3, q4, q5, q6, rfl, _⟩ := h10'
                simp only [cT, List.cons_append, List.nil_append] at e85
                have h10 := Hd.mk h10
                clear hk
                go_simp
                exact hK _ _ (Ext.alloc _ _) (fun d hd => by cases hd; exact ⟨_, _, rfl, Blk.new _ _ _, h10.out.ext (Ext.alloc _ _)⟩)
            · intro act V9 he
              have hxV9 := Hd.mk ((Ext.drew V1).trans he.ext)
              obtain ⟨us, hA, hF⟩ := he.out [72, 73, 74, 75, 76, 77, 78, 79, 80, 81, 82, 83, 84, 85, 86] (by kernel_rfl)
              simp only [Flow.fillL, List.contains_cons, List.contains_nil, Nat.reduceBEq, Bool.or_false, Bool.false_or, Bool.or_true, Bool.true_or, ↓reduceIte, Nat.reduceAdd, Bool.false_eq_true] at hA
              subst hA
              have f72 : us 72 = .slice V es.length vc := hF 72 (by simp)
              have f86 : (spEdsP (⟨2, wy, zeroT, x⟩ : E) (fun b => (S b ∧ b < w.heap.size) ∨ V1.heap.size ≤ b)).p (us 86) V9 := hF 86 (by simp)
              clear hF he
              rw [f72]
              clear f72
              obtain ⟨D, c', e86, hD, hre⟩ := (f86 : (spEdsP _ _).p _ _)
              have hre' := hre
              obtain ⟨q1, q2, q3, q4, q5, q6, rfl, _⟩ := hre'
              have hD := Hd.mk hD
              have hre := Hd.mk hre
              generalize us 72 = u72 at *
              generalize us 73 = u73 at *
              generalize us 74 = u74 at *
              generalize us 75 = u75 at *
              generalize us 76 = u76 at *
              generalize us 77 = u77 at *
              generalize us 78 = u78 at *
              generalize us 79 = u79 at *
              generalize us 80 = u80 at *
              generalize us 81 = u81 at *
              generalize us 82 = u82 at *
              generalize us 83 = u83 at *
              generalize us 84 = u84 at *
              generalize us 85 = u85 at *
              generalize us 86 = u86 at *
              subst e86
              have hxf := Hd.mk (hxV1.out.trans hxV9.out)
              have ho9 := Hd.mk (ho.out.ext hxf.out)
              have hs9 := Hd.mk (Nat.le_trans hxr.out.size hxf.out.size)
              refine (show wpList _ _ _ (⟨some 87, .call { callee := .builtin .append, args := #[.tmp 72, .tmp 86], argTypes := #[57, 57] }, _, _, _, none⟩ :: _) _ _ from ?_)
              refine wpl_append sl57 (by omega) (by omega) (.tmp 72) (.tmp 86) 87 _ _ _ W.heap.size (.slice V es.length vc) es.length css.flatten rfl ho9.out.own D 0 1 1 _ rfl (by rw [hre.out.len]) (fun i u hi => by rw [Nat.zero_add, hD.out.cell]; exact hi) hre.out.one (by have := hesb.out; omega) hs9.out ?_
              intro v' w' hown hgr hat
              obtain ⟨V', vc', rfl, _⟩ := own_slice hown
              have hp := Hd.mk (OutR.push1 (e := (⟨2, wy, zeroT, x⟩ : E)) ho9.out (hre.out.mono (fun b hb h => ⟨fun hh => by have h5 := own_base ho.out.own b hh; have h6 := own_lt ho.out.own b hh; have h7 := hxV1.out.size; have h8 := hsz.out; have h9 := hpA.out; rcases h with h | h <;> omega, h.imp And.left (fun h => by have h7 := hxV1.out.size; have h8 := hsz.out; have h9 := hpA.out; have h10 := hszr.out; omega)⟩)) hown hgr hat)
              have hx9 := Hd.mk (show Ext W w' from Below.grown (hxr.out.trans hxf.out) hgr hs9.out (own_base ho9.out.own))
              clear hown hgr hat gA gB hre hD
              go_wp2_with fail
              go_roundg (a.kids.length - (i + 1) + (b.kids.length - k))
              case measure => have := hq.out; omega
              case rel => exact ⟨i + 1, k, _, es ++ [(⟨2, wy, zeroT, x⟩ : E)], V', vc', by omega, by omega, ⟨rfl⟩, by rw [List.length_append]; rfl, by go_num, by go_num, ⟨by rw [List.length_append]; exact hp.out⟩, hx9, ⟨by rw [← hwy.out]; exact hL.out.next_x hx1.out (.inr ⟨y, hy1.out, hxy⟩)⟩⟩
        | false =>
          refine Flow.wp_region_flow_l (fun qq => match qq with
            | 47 => SP.eq (.int .i64 (k : Nat))
            | 48 => SP.eq (.pointer (some ⟨(pA + 1), 5, none⟩))
            | 49 => SP.eq (.slice (some ⟨b2, o2, none⟩) b.kids.length c2)
            | 50 => SP.eq (.int .i64 (b.kids.length : Nat))
            | 51 => SP.eq (.bool false)
            | 52 => SP.eq (.bool false)
            | 53 => SP.eq (.int .i64 (i : Nat))
            | 54 => SP.eq (.pointer (some ⟨pA, 5, none⟩))
            | 55 => SP.eq (.slice (some ⟨b1, o1, none⟩) a.kids.length c1)
            | 56 => SP.eq (.int .i64 (a.kids.length : Nat))
            | 57 => SP.eq (.bool true)
            | 58 => SP.eq (.bool true)
            | 59 => SP.eq (.pointer (some ⟨pA, 5, none⟩))
            | 60 => SP.eq (.slice (some ⟨b1, o1, none⟩) a.kids.length c1)
            | 61 => SP.eq (.int .i64 (i : Nat))
            | 62 => SP.eq (.pointer (some ⟨b1, o1 + i * 6, none⟩))
            | 63 => SP.eq (.agg #[.string x.name, .string x.key, .int .i64 x.kind, .int .u64 x.num, .string x.text, .slice K3 x.kids.length c3])
            | 64 => SP.eq (.pointer (some ⟨(pA + 1), 5, none⟩))
            | 65 => SP.eq (.slice (some ⟨b2, o2, none⟩) b.kids.length c2)
            | 66 => SP.eq (.int .i64 (k : Nat))
            | 67 => SP.eq (.pointer (some ⟨b2, o2 + k * 6, none⟩))
            | 68 => SP.eq (.agg #[.string y.name, .string y.key, .int .i64 y.kind, .int .u64 y.num, .string y.text, .slice K4 y.kids.length c4])
            | 69 => SP.eq (.bool false)
            | 70 => SP.eq (.bool false)
            | 71 => SP.eq (.bool false)
            | 46 => SP.eq (.bool false)
            | _ => SP.any) 26 (by kernel_rfl) 128 rfl (by kernel_rfl) ?_ ?_
          · skip
            refine ⟨?_, ?_, ?_, ?_, ?_, ?_, ?_, ?_, ?_, ?_, ?_, ?_, ?_, ?_, ?_, ?_, ?_, ?_, ?_, ?_, ?_, ?_, ?_, ?_, ?_, ?_, trivial⟩
            · intro act W2 hk
              refine Flow.does_intro rfl (fun Kq hK => ?_)
              have e9 : act.tmps[9]?.getD undef = .int .i64 (k : Nat) := hk.o 9 (by kernel_rfl)
              clear hk
              go_simp
              exact hK _ _ (Ext.refl _) (fun d hd => by cases hd; rfl)
            · intro act W2 hk
              refine Flow.does_intro rfl (fun Kq hK => ?_)
              have e4 : act.tmps[4]?.getD undef = .pointer (some ⟨(pA + 1), 0, none⟩) := hk.o 4 (by kernel_rfl)
              clear hk
              go_simp
              exact hK _ _ (Ext.refl _) (fun d hd => by cases hd; rfl)
            · intro act W2 hk
              refine Flow.does_intro rfl (fun Kq hK => ?_)
              have e48 : act.tmps[48]?.getD undef = .pointer (some ⟨(pA + 1), 5, none⟩) := hk.v 48 (by kernel_rfl)
              have g := ((kBr.out).ext ((Ext.drew wr).trans hk.ext)).cell
              clear hk
              go_simp
              exact hK _ _ (Ext.refl _) (fun d hd => by cases hd; rfl)
            · intro act W2 hk
              refine Flow.does_intro rfl (fun Kq hK => ?_)
              have e49 : act.tmps[49]?.getD undef = .slice (some ⟨b2, o2, none⟩) b.kids.length c2 := hk.v 49 (by kernel_rfl)
              clear hk
              go_simp
              exact hK _ _ (Ext.refl _) (fun d hd => by cases hd; rfl)
            · intro act W2 hk
              refine Flow.does_intro rfl (fun Kq hK => ?_)
              have e47 : act.tmps[47]?.getD undef = .int .i64 (k : Nat) := hk.v 47 (by kernel_rfl)
              have e50 : act.tmps[50]?.getD undef = .int .i64 (b.kids.length : Nat) := hk.v 50 (by kernel_rfl)
              clear hk
              go_simp
              exact hK _ _ (Ext.refl _) (fun d hd => by cases hd; first | rfl | (simp [SP.eq]; omega))
            · intro act W2 hk
              refine Flow.does_intro rfl (fun Kq hK => ?_)
              have e51 : act.tmps[51]?.getD undef = .bool false := hk.v 51 (by kernel_rfl)
              clear hk
              go_simp
              exact hK _ _ (Ext.refl _) (fun d hd => by cases hd; rfl)
            · intro act W2 hk
              have eg : act.tmps[52]?.getD undef = .bool false := hk.v 52 (by kernel_rfl)
              refine Flow.does_intro (wanted_yes rfl rfl eg) (fun Kq hK => ?_)
              clear eg
              have e8 : act.tmps[8]?.getD undef = .int .i64 (i : Nat) := hk.o 8 (by kernel_rfl)
              clear hk
              go_simp
              exact hK _ _ (Ext.refl _) (fun d hd => by cases hd; rfl)
            · intro act W2 hk
              have eg : act.tmps[52]?.getD undef = .bool false := hk.v 52 (by kernel_rfl)
              refine Flow.does_intro (wanted_yes rfl rfl eg) (fun Kq hK => ?_)
              clear eg
              have e3 : act.tmps[3]?.getD undef = .pointer (some ⟨pA, 0, none⟩) := hk.o 3 (by kernel_rfl)
              clear hk
              go_simp
              exact hK _ _ (Ext.refl _) (fun d hd => by cases hd; rfl)
            · intro act W2 hk
              have eg : act.tmps[52]?.getD undef = .bool false := hk.v 52 (by kernel_rfl)
              refine Flow.does_intro (wanted_yes rfl rfl eg) (fun Kq hK => ?_)
              clear eg
              have e54 : act.tmps[54]?.getD undef = .pointer (some ⟨pA, 5, none⟩) := hk.v 54 (by kernel_rfl)
              have g := ((kAr.out).ext ((Ext.drew wr).trans hk.ext)).cell
              clear hk
              go_simp
              exact hK _ _ (Ext.refl _) (fun d hd => by cases hd; rfl)
            · intro act W2 hk
              have eg : act.tmps[52]?.getD undef = .bool false := hk.v 52 (by kernel_rfl)
              refine Flow.does_intro (wanted_yes rfl rfl eg) (fun Kq hK => ?_)
              clear eg
              have e55 : act.tmps[55]?.getD undef = .slice (some ⟨b1, o1, none⟩) a.kids.length c1 := hk.v 55 (by kernel_rfl)
              clear hk
              go_simp
              exact hK _ _ (Ext.refl _) (fun d hd => by cases hd; rfl)
            · intro act W2 hk
              have eg : act.tmps[52]?.getD undef = .bool false := hk.v 52 (by kernel_rfl)
              refine Flow.does_intro (wanted_yes rfl rfl eg) (fun Kq hK => ?_)
              clear eg
              have e53 : act.tmps[53]?.getD undef = .int .i64 (i : Nat) := hk.v 53 (by kernel_rfl)
              have e56 : act.tmps[56]?.getD undef = .int .i64 (a.kids.length : Nat) := hk.v 56 (by kernel_rfl)
              clear hk
              go_simp
              exact hK _ _ (Ext.refl _) (fun d hd => by cases hd; first | rfl | (simp [SP.eq]; omega))
            · intro act W2 hk
              have eg : act.tmps[52]?.getD undef = .bool false := hk.v 52 (by kernel_rfl)
              refine Flow.does_intro (wanted_yes rfl rfl eg) (fun Kq hK => ?_)
              clear eg
              have e57 : act.tmps[57]?.getD undef = .bool true := hk.v 57 (by kernel_rfl)
              clear hk
              go_simp
              exact hK _ _ (Ext.refl _) (fun d hd => by cases hd; rfl)
            · intro act W2 hk
              have eg : act.tmps[58]?.getD undef = .bool true := hk.v 58 (by kernel_rfl)
              refine Flow.does_intro (wanted_yes rfl rfl eg) (fun Kq hK => ?_)
              clear eg
              have e3 : act.tmps[3]?.getD undef = .pointer (some ⟨pA, 0, none⟩) := hk.o 3 (by kernel_rfl)
              clear hk
              go_simp
              exact hK _ _ (Ext.refl _) (fun d hd => by cases hd; rfl)
            · intro act W2 hk
              have eg : act.tmps[58]?.getD undef = .bool true := hk.v 58 (by kernel_rfl)
              refine Flow.does_intro (wanted_yes rfl rfl eg) (fun Kq hK => ?_)
              clear eg
              have e59 : act.tmps[59]?.getD undef = .pointer (some ⟨pA, 5, none⟩) := hk.v 59 (by kernel_rfl)
              have g := ((kAr.out).ext ((Ext.drew wr).trans hk.ext)).cell
              clear hk
              go_simp
              exact hK _ _ (Ext.refl _) (fun d hd => by cases hd; rfl)
            · intro act W2 hk
              have eg : act.tmps[58]?.getD undef = .bool true := hk.v 58 (by kernel_rfl)
              refine Flow.does_intro (wanted_yes rfl rfl eg) (fun Kq hK => ?_)
              clear eg
              have e8 : act.tmps[8]?.getD undef = .int .i64 (i : Nat) := hk.o 8 (by kernel_rfl)
              clear hk
              go_simp
              exact hK _ _ (Ext.refl _) (fun d hd => by cases hd; rfl)
            · intro act W2 hk
              have eg : act.tmps[58]?.getD undef = .bool true := hk.v 58 (by kernel_rfl)
              refine Flow.does_intro (wanted_yes rfl rfl eg) (fun Kq hK => ?_)
              clear eg
              have e60 : act.tmps[60]?.getD undef = .slice (some ⟨b1, o1, none⟩) a.kids.length c1 := hk.v 60 (by kernel_rfl)
              have e61 : act.tmps[61]?.getD undef = .int .i64 (i : Nat) := hk.v 61 (by kernel_rfl)
              clear hk
              go_simp
              exact hK _ _ (Ext.refl _) (fun d hd => by cases hd; rfl)
            · intro act W2 hk
              have eg : act.tmps[58]?.getD undef = .bool true := hk.v 58 (by kernel_rfl)
              refine Flow.does_intro (wanted_yes rfl rfl eg) (fun Kq hK => ?_)
              clear eg
              have e62 : act.tmps[62]?.getD undef = .pointer (some ⟨b1, o1 + i * 6, none⟩) := hk.v 62 (by kernel_rfl)
              have g0 := Ext.cell ((Ext.drew wr).trans hk.ext) ((kcx.out) 0 _ rfl)
              rw [Nat.add_zero] at g0
              have g1 := Ext.cell ((Ext.drew wr).trans hk.ext) ((kcx.out) 1 _ rfl)
              have g2 := Ext.cell ((Ext.drew wr).trans hk.ext) ((kcx.out) 2 _ rfl)
              have g3 := Ext.cell ((Ext.drew wr).trans hk.ext) ((kcx.out) 3 _ rfl)
              have g4 := Ext.cell ((Ext.drew wr).trans hk.ext) ((kcx.out) 4 _ rfl)
              have g5 := Ext.cell ((Ext.drew wr).trans hk.ext) ((kcx.out) 5 _ rfl)
              clear hk
              go_simp
              exact hK _ _ (Ext.refl _) (fun d hd => by cases hd; rfl)
            · intro act W2 hk
              have eg : act.tmps[58]?.getD undef = .bool true := hk.v 58 (by kernel_rfl)
              refine Flow.does_intro (wanted_yes rfl rfl eg) (fun Kq hK => ?_)
              clear eg
              have e4 : act.tmps[4]?.getD undef = .pointer (some ⟨(pA + 1), 0, none⟩) := hk.o 4 (by kernel_rfl)
              clear hk
              go_simp
              exact hK _ _ (Ext.refl _) (fun d hd => by cases hd; rfl)
            · intro act W2 hk
              have eg : act.tmps[58]?.getD undef = .bool true := hk.v 58 (by kernel_rfl)
              refine Flow.does_intro (wanted_yes rfl rfl eg) (fun Kq hK => ?_)
              clear eg
              have e64 : act.tmps[64]?.getD undef = .pointer (some ⟨(pA + 1), 5, none⟩) := hk.v 64 (by kernel_rfl)
              have g := ((kBr.out).ext ((Ext.drew wr).trans hk.ext)).cell
              clear hk
              go_simp
              exact hK _ _ (Ext.refl _) (fun d hd => by cases hd; rfl)
            · intro act W2 hk
              have eg : act.tmps[58]?.getD undef = .bool true := hk.v 58 (by kernel_rfl)
              refine Flow.does_intro (wanted_yes rfl rfl eg) (fun Kq hK => ?_)
              clear eg
              have e9 : act.tmps[9]?.getD undef = .int .i64 (k : Nat) := hk.o 9 (by kernel_rfl)
              clear hk
              go_simp
              exact hK _ _ (Ext.refl _) (fun d hd => by cases hd; rfl)
            · intro act W2 hk
              have eg : act.tmps[58]?.getD undef = .bool true := hk.v 58 (by kernel_rfl)
              refine Flow.does_intro (wanted_yes rfl rfl eg) (fun Kq hK => ?_)
              clear eg
              have e65 : act.tmps[65]?.getD undef = .slice (some ⟨b2, o2, none⟩) b.kids.length c2 := hk.v 65 (by kernel_rfl)
              have e66 : act.tmps[66]?.getD undef = .int .i64 (k : Nat) := hk.v 66 (by kernel_rfl)
              clear hk
              go_simp
              exact hK _ _ (Ext.refl _) (fun d hd => by cases hd; rfl)
            · intro act W2 hk
              have eg : act.tmps[58]?.getD undef = .bool true := hk.v 58 (by kernel_rfl)
              refine Flow.does_intro (wanted_yes rfl rfl eg) (fun Kq hK => ?_)
              clear eg
              have e67 : act.tmps[67]?.getD undef = .pointer (some ⟨b2, o2 + k * 6, none⟩) := hk.v 67 (by kernel_rfl)
              have g0 := Ext.cell ((Ext.drew wr).trans hk.ext) ((kcy.out) 0 _ rfl)
              rw [Nat.add_zero] at g0
              have g1 := Ext.cell ((Ext.drew wr).trans hk.ext) ((kcy.out) 1 _ rfl)
              have g2 := Ext.cell ((Ext.drew wr).trans hk.ext) ((kcy.out) 2 _ rfl)
              have g3 := Ext.cell ((Ext.drew wr).trans hk.ext) ((kcy.out) 3 _ rfl)
              have g4 := Ext.cell ((Ext.drew wr).trans hk.ext) ((kcy.out) 4 _ rfl)
              have g5 := Ext.cell ((Ext.drew wr).trans hk.ext) ((kcy.out) 5 _ rfl)
              clear hk
              go_simp
              exact hK _ _ (Ext.refl _) (fun d hd => by cases hd; rfl)
            · intro act W2 hk
              have eg : act.tmps[58]?.getD undef = .bool true := hk.v 58 (by kernel_rfl)
              refine Flow.does_intro (wanted_yes rfl rfl eg) (fun Kq hK => ?_)
              clear eg
              have e63 : act.tmps[63]?.getD undef = .agg #[.string x.name, .string x.key, .int .i64 x.kind, .int .u64 x.num, .string x.text, .slice K3 x.kids.length c3] := hk.v 63 (by kernel_rfl)
              have e68 : act.tmps[68]?.getD undef = .agg #[.string y.name, .string y.key, .int .i64 y.kind, .int .u64 y.num, .string y.text, .slice K4 y.kids.length c4] := hk.v 68 (by kernel_rfl)
              clear hk
              go_simp
              refine Calls.mono (ref_less' x y K3 K4 x.kids.length c3 y.kids.length c4 _) ?_
              rintro e W3 ⟨rfl, hx⟩
              exact hK _ _ hx (fun d hd => by cases hd; exact congrArg Value.bool hxy)
            · intro act W2 hk
              have eg : act.tmps[52]?.getD undef = .bool false := hk.v 52 (by kernel_rfl)
              refine Flow.does_intro (wanted_yes rfl rfl eg) (fun Kq hK => ?_)
              clear eg
              have e58 : act.tmps[58]?.getD undef = .bool true := hk.v 58 (by kernel_rfl)
              have e69 : act.tmps[69]?.getD undef = .bool false := hk.v 69 (by kernel_rfl)
              clear hk
              go_simp
              exact hK _ _ (Ext.refl _) (fun d hd => by cases hd; rfl)
            · intro act W2 hk
              refine Flow.does_intro rfl (fun Kq hK => ?_)
              have e52 : act.tmps[52]?.getD undef = .bool false := hk.v 52 (by kernel_rfl)
              have e70 : act.tmps[70]?.getD undef = .bool false := hk.v 70 (by kernel_rfl)
              clear hk
              go_simp
              exact hK _ _ (Ext.refl _) (fun d hd => by cases hd; rfl)
            · intro act W2 hk
              refine Flow.does_intro rfl (fun Kq hK => ?_)
              have e71 : act.tmps[71]?.getD undef = .bool false := hk.v 71 (by kernel_rfl)
              clear hk
              go_simp
              exact hK _ _ (Ext.refl _) (fun d hd => by cases hd; rfl)
          · intro act V1 he
            have hxV1 := Hd.mk ((Ext.drew wr).trans he.ext)
            obtain ⟨us, hA, hF⟩ := he.out [47, 48, 49, 50, 51, 52, 53, 54, 55, 56, 57, 58, 59, 60, 61, 62, 63, 64, 65, 66, 67, 68, 69, 70, 71, 46] (by kernel_rfl)
            simp only [Flow.fillL, List.contains_cons, List.contains_nil, Nat.reduceBEq, Bool.or_false, Bool.false_or, Bool.or_true, Bool.true_or, ↓reduceIte, Nat.reduceAdd, Bool.false_eq_true] at hA
            subst hA
            have f46 : us 46 = .bool false := hF 46 (by simp)
            clear hF he
            rw [f46]
            clear f46
            have kA1 := Hd.mk (kAr.out.ext hxV1.out)
            have kB1 := Hd.mk (kBr.out.ext hxV1.out)
            have ho1 := Hd.mk (ho.out.ext hxV1.out)
            have kcx1 := Hd.mk (fun (q : Nat) u hq => Ext.cell hxV1.out (kcx.out q u hq))
            have kcy1 := Hd.mk (fun (q : Nat) u hq => Ext.cell hxV1.out (kcy.out q u hq))
            refine (show wpList _ _ _ [] _ _ from ?_)
            go_wp2_with fail
            cases hyx : lessT y x with
            | true =>
              refine Flow.wp_region_flow_l (fun qq => match qq with
                | 91 => SP.eq (.int .i64 (i : Nat))
                | 92 => SP.eq (.pointer (some ⟨pA, 5, none⟩))
                | 93 => SP.eq (.slice (some ⟨b1, o1, none⟩) a.kids.length c1)
                | 94 => SP.eq (.int .i64 (a.kids.length : Nat))
                | 95 => SP.eq (.bool false)
                | 96 => SP.eq (.bool false)
                | 97 => SP.eq (.pointer (some ⟨(pA + 1), 5, none⟩))
                | 98 => SP.eq (.slice (some ⟨b2, o2, none⟩) b.kids.length c2)
                | 99 => SP.eq (.int .i64 (k : Nat))
                | 100 => SP.eq (.pointer (some ⟨b2, o2 + k * 6, none⟩))
                | 101 => SP.eq (.agg #[.string y.name, .string y.key, .int .i64 y.kind, .int .u64 y.num, .string y.text, .slice K4 y.kids.length c4])
                | 102 => SP.eq (.pointer (some ⟨pA, 5, none⟩))
                | 103 => SP.eq (.slice (some ⟨b1, o1, none⟩) a.kids.length c1)
                | 104 => SP.eq (.int .i64 (i : Nat))
                | 105 => SP.eq (.pointer (some ⟨b1, o1 + i * 6, none⟩))
                | 106 => SP.eq (.agg #[.string x.name, .string x.key, .int .i64 x.kind, .int .u64 x.num, .string x.text, .slice K3 x.kids.length c3])
                | 107 => SP.eq (.bool true)
                | 108 => SP.eq (.bool true)
                | 90 => SP.eq (.bool true)
                | _ => SP.any) 19 (by kernel_rfl) 128 rfl (by kernel_rfl) ?_ ?_
              · skip
                refine ⟨?_, ?_, ?_, ?_, ?_, ?_, ?_, ?_, ?_, ?_, ?_, ?_, ?_, ?_, ?_, ?_, ?_, ?_, ?_, trivial⟩
                · intro act W2 hk
                  refine Flow.does_intro rfl (fun Kq hK => ?_)
                  have e8 : act.tmps[8]?.getD undef = .int .i64 (i : Nat) := hk.o 8 (by kernel_rfl)
                  clear hk
                  go_simp
                  exact hK _ _ (Ext.refl _) (fun d hd => by cases hd; rfl)
                · intro act W2 hk
                  refine Flow.does_intro rfl (fun Kq hK => ?_)
                  have e3 : act.tmps[3]?.getD undef = .pointer (some ⟨pA, 0, none⟩) := hk.o 3 (by kernel_rfl)
                  clear hk
                  go_simp
                  exact hK _ _ (Ext.refl _) (fun d hd => by cases hd; rfl)
                · intro act W2 hk
                  refine Flow.does_intro rfl (fun Kq hK => ?_)
                  have e92 : act.tmps[92]?.getD undef = .pointer (some ⟨pA, 5, none⟩) := hk.v 92 (by kernel_rfl)
                  have g := ((kA1.out).ext ((Ext.drew V1).trans hk.ext)).cell
                  clear hk
                  go_simp
                  exact hK _ _ (Ext.refl _) (fun d hd => by cases hd; rfl)
                · intro act W2 hk
                  refine Flow.does_intro rfl (fun Kq hK => ?_)
                  have e93 : act.tmps[93]?.getD undef = .slice (some ⟨b1, o1, none⟩) a.kids.length c1 := hk.v 93 (by kernel_rfl)
                  clear hk
                  go_simp
                  exact hK _ _ (Ext.refl _) (fun d hd => by cases hd; rfl)
                · intro act W2 hk
                  refine Flow.does_intro rfl (fun Kq hK => ?_)
                  have e91 : act.tmps[91]?.getD undef = .int .i64 (i : Nat) := hk.v 91 (by kernel_rfl)
                  have e94 : act.tmps[94]?.getD undef = .int .i64 (a.kids.length : Nat) := hk.v 94 (by kernel_rfl)
                  clear hk
                  go_simp
                  exact hK _ _ (Ext.refl _) (fun d hd => by cases hd; first | rfl | (simp [SP.eq]; omega))
                · intro act W2 hk
                  refine Flow.does_intro rfl (fun Kq hK => ?_)
                  have e95 : act.tmps[95]?.getD undef = .bool false := hk.v 95 (by kernel_rfl)
                  clear hk
                  go_simp
                  exact hK _ _ (Ext.refl _) (fun d hd => by cases hd; rfl)
                · intro act W2 hk
                  have eg : act.tmps[96]?.getD undef = .bool false := hk.v 96 (by kernel_rfl)
                  refine Flow.does_intro (wanted_yes rfl rfl eg) (fun Kq hK => ?_)
                  clear eg
                  have e4 : act.tmps[4]?.getD undef = .pointer (some ⟨(pA + 1), 0, none⟩) := hk.o 4 (by kernel_rfl)
                  clear hk
                  go_simp
                  exact hK _ _ (Ext.refl _) (fun d hd => by cases hd; rfl)
                · intro act W2 hk
                  have eg : act.tmps[96]?.getD undef = .bool false := hk.v 96 (by kernel_rfl)
                  refine Flow.does_intro (wanted_yes rfl rfl eg) (fun Kq hK => ?_)
                  clear eg
                  have e97 : act.tmps[97]?.getD undef = .pointer (some ⟨(pA + 1), 5, none⟩) := hk.v 97 (by kernel_rfl)
                  have g := ((kB1.out).ext ((Ext.drew V1).trans hk.ext)).cell
                  clear hk
                  go_simp
                  exact hK _ _ (Ext.refl _) (fun d hd => by cases hd; rfl)
                · intro act W2 hk
                  have eg : act.tmps[96]?.getD undef = .bool false := hk.v 96 (by kernel_rfl)
                  refine Flow.does_intro (wanted_yes rfl rfl eg) (fun Kq hK => ?_)
                  clear eg
                  have e9 : act.tmps[9]?.getD undef = .int .i64 (k : Nat) := hk.o 9 (by kernel_rfl)
                  clear hk
                  go_simp
                  exact hK _ _ (Ext.refl _) (fun d hd => by cases hd; rfl)
                · intro act W2 hk
                  have eg : act.tmps[96]?.getD undef = .bool false := hk.v 96 (by kernel_rfl)
                  refine Flow.does_intro (wanted_yes rfl rfl eg) (fun Kq hK => ?_)
                  clear eg
                  have e98 : act.tmps[98]?.getD undef = .slice (some ⟨b2, o2, none⟩) b.kids.length c2 := hk.v 98 (by kernel_rfl)
                  have e99 : act.tmps[99]?.getD undef = .int .i64 (k : Nat) := hk.v 99 (by kernel_rfl)
                  clear hk
                  go_simp
                  exact hK _ _ (Ext.refl _) (fun d hd => by cases hd; rfl)
                · intro act W2 hk
                  have eg : act.tmps[96]?.getD undef = .bool false := hk.v 96 (by kernel_rfl)
                  refine Flow.does_intro (wanted_yes rfl rfl eg) (fun Kq hK => ?_)
                  clear eg
                  have e100 : act.tmps[100]?.getD undef = .pointer (some ⟨b2, o2 + k * 6, none⟩) := hk.v 100 (by kernel_rfl)
                  have g0 := Ext.cell ((Ext.drew V1).trans hk.ext) ((kcy1.out) 0 _ rfl)
                  rw [Nat.add_zero] at g0
                  have g1 := Ext.cell ((Ext.drew V1).trans hk.ext) ((kcy1.out) 1 _ rfl)
                  have g2 := Ext.cell ((Ext.drew V1).trans hk.ext) ((kcy1.out) 2 _ rfl)
                  have g3 := Ext.cell ((Ext.drew V1).trans hk.ext) ((kcy1.out) 3 _ rfl)
                  have g4 := Ext.cell ((Ext.drew V1).trans hk.ext) ((kcy1.out) 4 _ rfl)
                  have g5 := Ext.cell ((Ext.drew V1).trans hk.ext) ((kcy1.out) 5 _ rfl)
                  clear hk
                  go_simp
                  exact hK _ _ (Ext.refl _) (fun d hd => by cases hd; rfl)
                · intro act W2 hk
                  have eg : act.tmps[96]?.getD undef = .bool false := hk.v 96 (by kernel_rfl)
                  refine Flow.does_intro (wanted_yes rfl rfl eg) (fun Kq hK => ?_)
                  clear eg
                  have e3 : act.tmps[3]?.getD undef = .pointer (some ⟨pA, 0, none⟩) := hk.o 3 (by kernel_rfl)
                  clear hk
                  go_simp
                  exact hK _ _ (Ext.refl _) (fun d hd => by cases hd; rfl)
                · intro act W2 hk
                  have eg : act.tmps[96]?.getD undef = .bool false := hk.v 96 (by kernel_rfl)
                  refine Flow.does_intro (wanted_yes rfl rfl eg) (fun Kq hK => ?_)
                  clear eg
                  have e102 : act.tmps[102]?.getD undef = .pointer (some ⟨pA, 5, none⟩) := hk.v 102 (by kernel_rfl)
                  have g := ((kA1.out).ext ((Ext.drew V1).trans hk.ext)).cell
                  clear hk
                  go_simp
                  exact hK _ _ (Ext.refl _) (fun d hd => by cases hd; rfl)
                · intro act W2 hk
                  have eg : act.tmps[96]?.getD undef = .bool false := hk.v 96 (by kernel_rfl)
                  refine Flow.does_intro (wanted_yes rfl rfl eg) (fun Kq hK => ?_)
                  clear eg
                  have e8 : act.tmps[8]?.getD undef = .int .i64 (i : Nat) := hk.o 8 (by kernel_rfl)
                  clear hk
                  go_simp
                  exact hK _ _ (Ext.refl _) (fun d hd => by cases hd; rfl)
                · intro act W2 hk
                  have eg : act.tmps[96]?.getD undef = .bool false := hk.v 96 (by kernel_rfl)
                  refine Flow.does_intro (wanted_yes rfl rfl eg) (fun Kq hK => ?_)
                  clear eg
                  have e103 : act.tmps[103]?.getD undef = .slice (some ⟨b1, o1, none⟩) a.kids.length c1 := hk.v 103 (by kernel_rfl)
                  have e104 : act.tmps[104]?.getD undef = .int .i64 (i : Nat) := hk.v 104 (by kernel_rfl)
                  clear hk
                  go_simp
                  exact hK _ _ (Ext.refl _) (fun d hd => by cases hd; rfl)
                · intro act W2 hk
                  have eg : act.tmps[96]?.getD undef = .bool false := hk.v 96 (by kernel_rfl)
                  refine Flow.does_intro (wanted_yes rfl rfl eg) (fun Kq hK => ?_)
                  clear eg
                  have e105 : act.tmps[105]?.getD undef = .pointer (some ⟨b1, o1 + i * 6, none⟩) := hk.v 105 (by kernel_rfl)
                  have g0 := Ext.cell ((Ext.drew V1).trans hk.ext) ((kcx1.out) 0 _ rfl)
                  rw [Nat.add_zero] at g0
                  have g1 := Ext.cell ((Ext.drew V1).trans hk.ext) ((kcx1.out) 1 _ rfl)
                  have g2 := Ext.cell ((Ext.drew V1).trans hk.ext) ((kcx1.out) 2 _ rfl)
                  have g3 := Ext.cell ((Ext.drew V1).trans hk.ext) ((kcx1.out) 3 _ rfl)
                  have g4 := Ext.cell ((Ext.drew V1).trans hk.ext) ((kcx1.out) 4 _ rfl)
                  have g5 := Ext.cell ((Ext.drew V1).trans hk.ext) ((kcx1.out) 5 _ rfl)
                  clear hk
                  go_simp
                  exact hK _ _ (Ext.refl _) (fun d hd => by cases hd; rfl)
                · intro act W2 hk
                  have eg : act.tmps[96]?.getD undef = .bool false := hk.v 96 (by kernel_rfl)
                  refine Flow.does_intro (wanted_yes rfl rfl eg) (fun Kq hK => ?_)
                  clear eg
                  have e101 : act.tmps[101]?.getD undef = .agg #[.string y.name, .string y.key, .int .i64 y.kind, .int .u64 y.num, .string y.text, .slice K4 y.kids.length c4] := hk.v 101 (by kernel_rfl)
                  have e106 : act.tmps[106]?.getD undef = .agg #[.string x.name, .string x.key, .int .i64 x.kind, .int .u64 x.num, .string x.text, .slice K3 x.kids.length c3] := hk.v 106 (by kernel_rfl)
                  clear hk
                  go_simp
                  refine Calls.mono (ref_less' y x K4 K3 y.kids.length c4 x.kids.length c3 _) ?_
                  rintro e W3 ⟨rfl, hx⟩
                  exact hK _ _ hx (fun d hd => by cases hd; exact congrArg Value.bool hyx)
                · intro act W2 hk
                  refine Flow.does_intro rfl (fun Kq hK => ?_)
                  have e96 : act.tmps[96]?.getD undef = .bool false := hk.v 96 (by kernel_rfl)
                  have e107 : act.tmps[107]?.getD undef = .bool true := hk.v 107 (by kernel_rfl)
                  clear hk
                  go_simp
                  exact hK _ _ (Ext.refl _) (fun d hd => by cases hd; rfl)
                · intro act W2 hk
                  refine Flow.does_intro rfl (fun Kq hK => ?_)
                  have e108 : act.tmps[108]?.getD undef = .bool true := hk.v 108 (by kernel_rfl)
                  clear hk
                  go_simp
                  exact hK _ _ (Ext.refl _) (fun d hd => by cases hd; rfl)
              · intro act V2 he
                have hxV2 := Hd.mk ((Ext.drew V1).trans he.ext)
                obtain ⟨us, hA, hF⟩ := he.out [91, 92, 93, 94, 95, 96, 97, 98, 99, 100, 101, 102, 103, 104, 105, 106, 107, 108, 90] (by kernel_rfl)
                simp only [Flow.fillL, List.contains_cons, List.contains_nil, Nat.reduceBEq, Bool.or_false, Bool.false_or, Bool.or_true, Bool.true_or, ↓reduceIte, Nat.reduceAdd, Bool.false_eq_true] at hA
                subst hA
                have f90 : us 90 = .bool true := hF 90 (by simp)
                clear hF he
                rw [f90]
                clear f90
                have hx2 := Hd.mk (hxV1.out.trans hxV2.out)
                have kA2 := Hd.mk (kAr.out.ext hx2.out)
                have kB2 := Hd.mk (kBr.out.ext hx2.out)
                have ho2 := Hd.mk (ho.out.ext hx2.out)
                have kcy2 := Hd.mk (fun (q : Nat) u hq => Ext.cell hx2.out (kcy.out q u hq))
                refine (show wpList _ _ _ [] _ _ from ?_)
                go_wp2_with fail
                obtain ⟨wy, hwy⟩ : ∃ wy, Hd (way ++ [(y.name, y.key)] = wy) := ⟨_, ⟨rfl⟩⟩
                refine Flow.wp_region_flow_l (fun qq => match qq with
                  | 109 => SP.eq (.slice V es.length vc)
                  | 110 => SP.eq (.slice A way.length c)
                  | 111 => SP.eq (.pointer (some ⟨(pA + 1), 5, none⟩))
                  | 112 => SP.eq (.slice (some ⟨b2, o2, none⟩) b.kids.length c2)
                  | 113 => SP.eq (.int .i64 (k : Nat))
                  | 114 => SP.eq (.pointer (some ⟨b2, o2 + k * 6, none⟩))
                  | 115 => SP.eq (.agg #[.string y.name, .string y.key, .int .i64 y.kind, .int .u64 y.num, .string y.text, .slice K4 y.kids.length c4])
                  | 116 => spWay wy V2.heap.size
                  | 117 => SP.eq (.pointer (some ⟨(pA + 1), 5, none⟩))
                  | 118 => SP.eq (.slice (some ⟨b2, o2, none⟩) b.kids.length c2)
                  | 119 => SP.eq (.int .i64 (k : Nat))
                  | 120 => SP.eq (.pointer (some ⟨b2, o2 + k * 6, none⟩))
                  | 121 => SP.eq (.agg #[.string y.name, .string y.key, .int .i64 y.kind, .int .u64 y.num, .string y.text, .slice K4 y.kids.length c4])
                  | 122 => spEdP (⟨1, wy, y, zeroT⟩ : E) (fun b => (S b ∧ b < w.heap.size) ∨ V2.heap.size ≤ b)
                  | 123 => spEdsP (⟨1, wy, y, zeroT⟩ : E) (fun b => (S b ∧ b < w.heap.size) ∨ V2.heap.size ≤ b)
                  | _ => SP.any) 15 (by kernel_rfl) 128 rfl (by kernel_rfl) ?_ ?_
                · skip
                  refine ⟨?_, ?_, ?_, ?_, ?_, ?_, ?_, ?_, ?_, ?_, ?_, ?_, ?_, ?_, ?_, trivial⟩
                  · intro act W2 hk
                    refine Flow.does_intro rfl (fun Kq hK => ?_)
                    have e7 : act.tmps[7]?.getD undef = .slice V es.length vc := hk.o 7 (by kernel_rfl)
                    clear hk
                    go_simp
                    exact hK _ _ (Ext.refl _) (fun d hd => by cases hd; rfl)
                  · intro act W2 hk
                    refine Flow.does_intro rfl (fun Kq hK => ?_)
                    have e2 : act.tmps[2]?.getD undef = .slice A way.length c := hk.o 2 (by kernel_rfl)
                    clear hk
                    go_simp
                    exact hK _ _ (Ext.refl _) (fun d hd => by cases hd; rfl)
                  · intro act W2 hk
                    refine Flow.does_intro rfl (fun Kq hK => ?_)
                    have e4 : act.tmps[4]?.getD undef = .pointer (some ⟨(pA + 1), 0, none⟩) := hk.o 4 (by kernel_rfl)
                    clear hk
                    go_simp
                    exact hK _ _ (Ext.refl _) (fun d hd => by cases hd; rfl)
                  · intro act W2 hk
                    refine Flow.does_intro rfl (fun Kq hK => ?_)
                    have e111 : act.tmps[111]?.getD undef = .pointer (some ⟨(pA + 1), 5, none⟩) := hk.v 111 (by kernel_rfl)
                    have g := ((kB2.out).ext ((Ext.drew V2).trans hk.ext)).cell
                    clear hk
                    go_simp
                    exact hK _ _ (Ext.refl _) (fun d hd => by cases hd; rfl)
                  · intro act W2 hk
                    refine Flow.does_intro rfl (fun Kq hK => ?_)
                    have e9 : act.tmps[9]?.getD undef = .int .i64 (k : Nat) := hk.o 9 (by kernel_rfl)
                    clear hk
                    go_simp
                    exact hK _ _ (Ext.refl _) (fun d hd => by cases hd; rfl)
                  · intro act W2 hk
                    refine Flow.does_intro rfl (fun Kq hK => ?_)
                    have e112 : act.tmps[112]?.getD undef = .slice (some ⟨b2, o2, none⟩) b.kids.length c2 := hk.v 112 (by kernel_rfl)
                    have e113 : act.tmps[113]?.getD undef = .int .i64 (k : Nat) := hk.v 113 (by kernel_rfl)
                    clear hk
                    go_simp
                    exact hK _ _ (Ext.refl _) (fun d hd => by cases hd; rfl)
                  · intro act W2 hk
                    refine Flow.does_intro rfl (fun Kq hK => ?_)
                    have e114 : act.tmps[114]?.getD undef = .pointer (some ⟨b2, o2 + k * 6, none⟩) := hk.v 114 (by kernel_rfl)
                    have g0 := Ext.cell ((Ext.drew V2).trans hk.ext) ((kcy2.out) 0 _ rfl)
                    rw [Nat.add_zero] at g0
                    have g1 := Ext.cell ((Ext.drew V2).trans hk.ext) ((kcy2.out) 1 _ rfl)
                    have g2 := Ext.cell ((Ext.drew V2).trans hk.ext) ((kcy2.out) 2 _ rfl)
                    have g3 := Ext.cell ((Ext.drew V2).trans hk.ext) ((kcy2.out) 3 _ rfl)
                    have g4 := Ext.cell ((Ext.drew V2).trans hk.ext) ((kcy2.out) 4 _ rfl)
                    have g5 := Ext.cell ((Ext.drew V2).trans hk.ext) ((kcy2.out) 5 _ rfl)
                    clear hk
                    go_simp
                    exact hK _ _ (Ext.refl _) (fun d hd => by cases hd; rfl)
                  · intro act W2 hk
                    refine Flow.does_intro rfl (fun Kq hK => ?_)
                    have e110 : act.tmps[110]?.getD undef = .slice A way.length c := hk.v 110 (by kernel_rfl)
                    have e115 : act.tmps[115]?.getD undef = .agg #[.string y.name, .string y.key, .int .i64 y.kind, .int .u64 y.num, .string y.text, .slice K4 y.kids.length c4] := hk.v 115 (by kernel_rfl)
                    have hx0 := Hd.mk ((Ext.drew V2).trans hk.ext)
                    have hsz0 := hx0.out.size
                    have hon := Hd.mk (ref_way y K4 y.kids.length c4 kw.out (kx.out.trans (hxr.out.trans (hx2.out.trans hx0.out))) (by have := hwd.out; omega))
                    rw [hwy.out] at hon
                    clear hk
                    go_simp
                    refine Calls.mono (hon.out) ?_
                    rintro e W3 ⟨_, rfl, A', c', rfl, hr', hx⟩
                    exact hK _ _ hx (fun d hd => by cases hd; exact ⟨A', c', rfl, hr'.mono (fun b _ hb => Nat.le_trans hsz0 hb)⟩)
                  · intro act W2 hk
                    refine Flow.does_intro rfl (fun Kq hK => ?_)
                    have e4 : act.tmps[4]?.getD undef = .pointer (some ⟨(pA + 1), 0, none⟩) := hk.o 4 (by kernel_rfl)
                    clear hk
                    go_simp
                    exact hK _ _ (Ext.refl _) (fun d hd => by cases hd; rfl)
                  · intro act W2 hk
                    refine Flow.does_intro rfl (fun Kq hK => ?_)
                    have e117 : act.tmps[117]?.getD undef = .pointer (some ⟨(pA + 1), 5, none⟩) := hk.v 117 (by kernel_rfl)
                    have g := ((kB2.out).ext ((Ext.drew V2).trans hk.ext)).cell
                    clear hk
                    go_simp
                    exact hK _ _ (Ext.refl _) (fun d hd => by cases hd; rfl)
                  · intro act W2 hk
                    refine Flow.does_intro rfl (fun Kq hK => ?_)
                    have e9 : act.tmps[9]?.getD undef = .int .i64 (k : Nat) := hk.o 9 (by kernel_rfl)
                    clear hk
                    go_simp
                    exact hK _ _ (Ext.refl _) (fun d hd => by cases hd; rfl)
                  · intro act W2 hk
                    refine Flow.does_intro rfl (fun Kq hK => ?_)
                    have e118 : act.tmps[118]?.getD undef = .slice (some ⟨b2, o2, none⟩) b.kids.length c2 := hk.v 118 (by kernel_rfl)
                    have e119 : act.tmps[119]?.getD undef = .int .i64 (k : Nat) := hk.v 119 (by kernel_rfl)
                    clear hk
                    go_simp
                    exact hK _ _ (Ext.refl _) (fun d hd => by cases hd; rfl)
                  · intro act W2 hk
                    refine Flow.does_intro rfl (fun Kq hK => ?_)
                    have e120 : act.tmps[120]?.getD undef = .pointer (some ⟨b2, o2 + k * 6, none⟩) := hk.v 120 (by kernel_rfl)
                    have g0 := Ext.cell ((Ext.drew V2).trans hk.ext) ((kcy2.out) 0 _ rfl)
                    rw [Nat.add_zero] at g0
                    have g1 := Ext.cell ((Ext.drew V2).trans hk.ext) ((kcy2.out) 1 _ rfl)
                    have g2 := Ext.cell ((Ext.drew V2).trans hk.ext) ((kcy2.out) 2 _ rfl)
                    have g3 := Ext.cell ((Ext.drew V2).trans hk.ext) ((kcy2.out) 3 _ rfl)
                    have g4 := Ext.cell ((Ext.drew V2).trans hk.ext) ((kcy2.out) 4 _ rfl)
                    have g5 := Ext.cell ((Ext.drew V2).trans hk.ext) ((kcy2.out) 5 _ rfl)
                    clear hk
                    go_simp
                    exact hK _ _ (Ext.refl _) (fun d hd => by cases hd; rfl)
                  · intro act W2 hk
                    refine Flow.does_intro rfl (fun Kq hK => ?_)
                    have e121 : act.tmps[121]?.getD undef = .agg #[.string y.name, .string y.key, .int .i64 y.kind, .int .u64 y.num, .string y.text, .slice K4 y.kids.length c4] := hk.v 121 (by kernel_rfl)
                    have hx0 := Hd.mk ((Ext.drew V2).trans hk.ext)
                    obtain ⟨A', c', e116, h7⟩ := (hk.v 116 (by kernel_rfl) : (spWay _ _).p _ _)
                    have h7 := Hd.mk h7
                    clear hk
                    go_simp
                    exact hK _ _ (Ext.refl _) (fun d hd => by cases hd; exact ⟨_, rfl, A', c', K4, c4, none, 0, rfl, h7.out.mono (fun b _ hb => .inr hb), ((hr4.out.mono' (S' := fun b => (S b ∧ b < w.heap.size) ∨ V2.heap.size ≤ b) (fun b hb h => .inl ⟨h, hb⟩)).ext (kx.out.trans (hxr.out.trans (hx2.out.trans hx0.out)))), RRow.nil _ _ _ _ (fun _ => rfl)⟩)
                  · intro act W2 hk
                    refine Flow.does_intro rfl (fun Kq hK => ?_)
                    obtain ⟨c', e122, h10⟩ := (hk.v 122 (by kernel_rfl) : (spEdP _ _).p _ _)
                    have h10' := h10
                    obtain ⟨q1, q2, q3, q4, q5, q6, rfl, _⟩ := h10'
                    simp only [cT, List.cons_append, List.nil_append] at e122
                    have h10 := Hd.mk h10
                    clear hk
                    go_simp
                    exact hK _ _ (Ext.alloc _ _) (fun d hd => by cases hd; exact ⟨_, _, rfl, Blk.new _ _ _, h10.out.ext (Ext.alloc _ _)⟩)
                · intro act V9 he
                  have hxV9 := Hd.mk ((Ext.drew V2).trans he.ext)
                  obtain ⟨us, hA, hF⟩ := he.out [109, 110, 111, 112, 113, 114, 115, 116, 117, 118, 119, 120, 121, 122, 123] (by kernel_rfl)
                  simp only [Flow.fillL, List.contains_cons, List.contains_nil, Nat.reduceBEq, Bool.or_false, Bool.false_or, Bool.or_true, Bool.true_or, ↓reduceIte, Nat.reduceAdd, Bool.false_eq_true] at hA
                  subst hA
                  have f109 : us 109 = .slice V es.length vc := hF 109 (by simp)
                  have f123 : (spEdsP (⟨1, wy, y, zeroT⟩ : E) (fun b => (S b ∧ b < w.heap.size) ∨ V2.heap.size ≤ b)).p (us 123) V9 := hF 123 (by simp)
                  clear hF he
                  rw [f109]
                  clear f109
                  obtain ⟨D, c', e123, hD, hre⟩ := (f123 : (spEdsP _ _).p _ _)
                  have hre' := hre
                  obtain ⟨q1, q2, q3, q4, q5, q6, rfl, _⟩ := hre'
                  have hD := Hd.mk hD
                  have hre := Hd.mk hre
                  generalize us 109 = u109 at *
                  generalize us 110 = u110 at *
                  generalize us 111 = u111 at *
                  generalize us 112 = u112 at *
                  generalize us 113 = u113 at *
                  generalize us 114 = u114 at *
                  generalize us 115 = u115 at *
                  generalize us 116 = u116 at *
                  generalize us 117 = u117 at *
                  generalize us 118 = u118 at *
                  generalize us 119 = u119 at *
                  generalize us 120 = u120 at *
                  generalize us 121 = u121 at *
                  generalize us 122 = u122 at *
                  generalize us 123 = u123 at *
                  subst e123
                  have hxf := Hd.mk (hx2.out.trans hxV9.out)
                  have ho9 := Hd.mk (ho.out.ext hxf.out)
                  have hs9 := Hd.mk (Nat.le_trans hxr.out.size hxf.out.size)
                  refine (show wpList _ _ _ (⟨some 124, .call { callee := .builtin .append, args := #[.tmp 109, .tmp 123], argTypes := #[57, 57] }, _, _, _, none⟩ :: _) _ _ from ?_)
                  refine wpl_append sl57 (by omega) (by omega) (.tmp 109) (.tmp 123) 124 _ _ _ W.heap.size (.slice V es.length vc) es.length css.flatten rfl ho9.out.own D 0 1 1 _ rfl (by rw [hre.out.len]) (fun i u hi => by rw [Nat.zero_add, hD.out.cell]; exact hi) hre.out.one (by have := hesb.out; omega) hs9.out ?_
                  intro v' w' hown hgr hat
                  obtain ⟨V', vc', rfl, _⟩ := own_slice hown
                  have hp := Hd.mk (OutR.push1 (e := (⟨1, wy, y, zeroT⟩ : E)) ho9.out (hre.out.mono (fun b hb h => ⟨fun hh => by have h5 := own_base ho.out.own b hh; have h6 := own_lt ho.out.own b hh; have h7 := hx2.out.size; have h8 := hsz.out; have h9 := hpA.out; rcases h with h | h <;> omega, h.imp And.left (fun h => by have h7 := hx2.out.size; have h8 := hsz.out; have h9 := hpA.out; have h10 := hszr.out; omega)⟩)) hown hgr hat)
                  have hx9 := Hd.mk (show Ext W w' from Below.grown (hxr.out.trans hxf.out) hgr hs9.out (own_base ho9.out.own))
                  clear hown hgr hat gA gB hre hD
                  go_wp2_with fail
                  go_roundg (a.kids.length - i + (b.kids.length - (k + 1)))
                  case measure => have := hq.out; omega
                  case rel => exact ⟨i, k + 1, _, es ++ [(⟨1, wy, y, zeroT⟩ : E)], V', vc', by omega, by omega, ⟨rfl⟩, by rw [List.length_append]; rfl, by go_num, by go_num, ⟨by rw [List.length_append]; exact hp.out⟩, hx9, ⟨by rw [← hwy.out]; exact hL.out.next_y hy1.out (.inr ⟨x, hx1.out, hxy, hyx⟩)⟩⟩
            | false =>
              refine Flow.wp_region_flow_l (fun qq => match qq with
                | 91 => SP.eq (.int .i64 (i : Nat))
                | 92 => SP.eq (.pointer (some ⟨pA, 5, none⟩))
                | 93 => SP.eq (.slice (some ⟨b1, o1, none⟩) a.kids.length c1)
                | 94 => SP.eq (.int .i64 (a.kids.length : Nat))
                | 95 => SP.eq (.bool false)
                | 96 => SP.eq (.bool false)
                | 97 => SP.eq (.pointer (some ⟨(pA + 1), 5, none⟩))
                | 98 => SP.eq (.slice (some ⟨b2, o2, none⟩) b.kids.length c2)
                | 99 => SP.eq (.int .i64 (k : Nat))
                | 100 => SP.eq (.pointer (some ⟨b2, o2 + k * 6, none⟩))
                | 101 => SP.eq (.agg #[.string y.name, .string y.key, .int .i64 y.kind, .int .u64 y.num, .string y.text, .slice K4 y.kids.length c4])
                | 102 => SP.eq (.pointer (some ⟨pA, 5, none⟩))
                | 103 => SP.eq (.slice (some ⟨b1, o1, none⟩) a.kids.length c1)
                | 104 => SP.eq (.int .i64 (i : Nat))
                | 105 => SP.eq (.pointer (some ⟨b1, o1 + i * 6, none⟩))
                | 106 => SP.eq (.agg #[.string x.name, .string x.key, .int .i64 x.kind, .int .u64 x.num, .string x.text, .slice K3 x.kids.length c3])
                | 107 => SP.eq (.bool false)
                | 108 => SP.eq (.bool false)
                | 90 => SP.eq (.bool false)
                | _ => SP.any) 19 (by kernel_rfl) 128 rfl (by kernel_rfl) ?_ ?_
              · skip
                refine ⟨?_, ?_, ?_, ?_, ?_, ?_, ?_, ?_, ?_, ?_, ?_, ?_, ?_, ?_, ?_, ?_, ?_, ?_, ?_, trivial⟩
                · intro act W2 hk
                  refine Flow.does_intro rfl (fun Kq hK => ?_)
                  have e8 : act.tmps[8]?.getD undef = .int .i64 (i : Nat) := hk.o 8 (by kernel_rfl)
                  clear hk
                  go_simp
                  exact hK _ _ (Ext.refl _) (fun d hd => by cases hd; rfl)
                · intro act W2 hk
                  refine Flow.does_intro rfl (fun Kq hK => ?_)
                  have e3 : act.tmps[3]?.getD undef = .pointer (some ⟨pA, 0, none⟩) := hk.o 3 (by kernel_rfl)
                  clear hk
                  go_simp
                  exact hK _ _ (Ext.refl _) (fun d hd => by cases hd; rfl)
                · intro act W2 hk
                  refine Flow.does_intro rfl (fun Kq hK => ?_)
                  have e92 : act.tmps[92]?.getD undef = .pointer (some ⟨pA, 5, none⟩) := hk.v 92 (by kernel_rfl)
                  have g := ((kA1.out).ext ((Ext.drew V1).trans hk.ext)).cell
                  clear hk
                  go_simp
                  exact hK _ _ (Ext.refl _) (fun d hd => by cases hd; rfl)
                · intro act W2 hk
                  refine Flow.does_intro rfl (fun Kq hK => ?_)
                  have e93 : act.tmps[93]?.getD undef = .slice (some ⟨b1, o1, none⟩) a.kids.length c1 := hk.v 93 (by kernel_rfl)
                  clear hk
                  go_simp
                  exact hK _ _ (Ext.refl _) (fun d hd => by cases hd; rfl)
                · intro act W2 hk
                  refine Flow.does_intro rfl (fun Kq hK => ?_)
                  have e91 : act.tmps[91]?.getD undef = .int .i64 (i : Nat) := hk.v 91 (by kernel_rfl)
                  have e94 : act.tmps[94]?.getD undef = .int .i64 (a.kids.length : Nat) := hk.v 94 (by kernel_rfl)
                  clear hk
                  go_simp
                  exact hK _ _ (Ext.refl _) (fun d hd => by cases hd; first | rfl | (simp [SP.eq]; omega))
                · intro act W2 hk
                  refine Flow.does_intro rfl (fun Kq hK => ?_)
                  have e95 : act.tmps[95]?.getD undef = .bool false := hk.v 95 (by kernel_rfl)
                  clear hk
                  go_simp
                  exact hK _ _ (Ext.refl _) (fun d hd => by cases hd; rfl)
                · intro act W2 hk
                  have eg : act.tmps[96]?.getD undef = .bool false := hk.v 96 (by kernel_rfl)
                  refine Flow.does_intro (wanted_yes rfl rfl eg) (fun Kq hK => ?_)
                  clear eg
                  have e4 : act.tmps[4]?.getD undef = .pointer (some ⟨(pA + 1), 0, none⟩) := hk.o 4 (by kernel_rfl)
                  clear hk
                  go_simp
                  exact hK _ _ (Ext.refl _) (fun d hd => by cases hd; rfl)
                · intro act W2 hk
                  have eg : act.tmps[96]?.getD undef = .bool false := hk.v 96 (by kernel_rfl)
                  refine Flow.does_intro (wanted_yes rfl rfl eg) (fun Kq hK => ?_)
                  clear eg
                  have e97 : act.tmps[97]?.getD undef = .pointer (some ⟨(pA + 1), 5, none⟩) := hk.v 97 (by kernel_rfl)
                  have g := ((kB1.out).ext ((Ext.drew V1).trans hk.ext)).cell
                  clear hk
                  go_simp
                  exact hK _ _ (Ext.refl _) (fun d hd => by cases hd; rfl)
                · intro act W2 hk
                  have eg : act.tmps[96]?.getD undef = .bool false := hk.v 96 (by kernel_rfl)
                  refine Flow.does_intro (wanted_yes rfl rfl eg) (fun Kq hK => ?_)
                  clear eg
                  have e9 : act.tmps[9]?.getD undef = .int .i64 (k : Nat) := hk.o 9 (by kernel_rfl)
                  clear hk
                  go_simp
                  exact hK _ _ (Ext.refl _) (fun d hd => by cases hd; rfl)
                · intro act W2 hk
                  have eg : act.tmps[96]?.getD undef = .bool false := hk.v 96 (by kernel_rfl)
                  refine Flow.does_intro (wanted_yes rfl rfl eg) (fun Kq hK => ?_)
                  clear eg
                  have e98 : act.tmps[98]?.getD undef = .slice (some ⟨b2, o2, none⟩) b.kids.length c2 := hk.v 98 (by kernel_rfl)
                  have e99 : act.tmps[99]?.getD undef = .int .i64 (k : Nat) := hk.v 99 (by kernel_rfl)
                  clear hk
                  go_simp
                  exact hK _ _ (Ext.refl _) (fun d hd => by cases hd; rfl)
                · intro act W2 hk
                  have eg : act.tmps[96]?.getD undef = .bool false := hk.v 96 (by kernel_rfl)
                  refine Flow.does_intro (wanted_yes rfl rfl eg) (fun Kq hK => ?_)
                  clear eg
                  have e100 : act.tmps[100]?.getD undef = .pointer (some ⟨b2, o2 + k * 6, none⟩) := hk.v 100 (by kernel_rfl)
                  have g0 := Ext.cell ((Ext.drew V1).trans hk.ext) ((kcy1.out) 0 _ rfl)
                  rw [Nat.add_zero] at g0
                  have g1 := Ext.cell ((Ext.drew V1).trans hk.ext) ((kcy1.out) 1 _ rfl)
                  have g2 := Ext.cell ((Ext.drew V1).trans hk.ext) ((kcy1.out) 2 _ rfl)
                  have g3 := Ext.cell ((Ext.drew V1).trans hk.ext) ((kcy1.out) 3 _ rfl)
                  have g4 := Ext.cell ((Ext.drew V1).trans hk.ext) ((kcy1.out) 4 _ rfl)
                  have g5 := Ext.cell ((Ext.drew V1).trans hk.ext) ((kcy1.out) 5 _ rfl)
                  clear hk
                  go_simp
                  exact hK _ _ (Ext.refl _) (fun d hd => by cases hd; rfl)
                · intro act W2 hk
                  have eg : act.tmps[96]?.getD undef = .bool false := hk.v 96 (by kernel_rfl)
                  refine Flow.does_intro (wanted_yes rfl rfl eg) (fun Kq hK => ?_)
                  clear eg
                  have e3 : act.tmps[3]?.getD undef = .pointer (some ⟨pA, 0, none⟩) := hk.o 3 (by kernel_rfl)
                  clear hk
                  go_simp
                  exact hK _ _ (Ext.refl _) (fun d hd => by cases hd; rfl)
                · intro act W2 hk
                  have eg : act.tmps[96]?.getD undef = .bool false := hk.v 96 (by kernel_rfl)
                  refine Flow.does_intro (wanted_yes rfl rfl eg) (fun Kq hK => ?_)
                  clear eg
                  have e102 : act.tmps[102]?.getD undef = .pointer (some ⟨pA, 5, none⟩) := hk.v 102 (by kernel_rfl)
                  have g := ((kA1.out).ext ((Ext.drew V1).trans hk.ext)).cell
                  clear hk
                  go_simp
                  exact hK _ _ (Ext.refl _) (fun d hd => by cases hd; rfl)
                · intro act W2 hk
                  have eg : act.tmps[96]?.getD undef = .bool false := hk.v 96 (by kernel_rfl)
                  refine Flow.does_intro (wanted_yes rfl rfl eg) (fun Kq hK => ?_)
                  clear eg
                  have e8 : act.tmps[8]?.getD undef = .int .i64 (i : Nat) := hk.o 8 (by kernel_rfl)
                  clear hk
                  go_simp
                  exact hK _ _ (Ext.refl _) (fun d hd => by cases hd; rfl)
                · intro act W2 hk
                  have eg : act.tmps[96]?.getD undef = .bool false := hk.v 96 (by kernel_rfl)
                  refine Flow.does_intro (wanted_yes rfl rfl eg) (fun Kq hK => ?_)
                  clear eg
                  have e103 : act.tmps[103]?.getD undef = .slice (some ⟨b1, o1, none⟩) a.kids.length c1 := hk.v 103 (by kernel_rfl)
                  have e104 : act.tmps[104]?.getD undef = .int .i64 (i : Nat) := hk.v 104 (by kernel_rfl)
                  clear hk
                  go_simp
                  exact hK _ _ (Ext.refl _) (fun d hd => by cases hd; rfl)
                · intro act W2 hk
                  have eg : act.tmps[96]?.getD undef = .bool false := hk.v 96 (by kernel_rfl)
                  refine Flow.does_intro (wanted_yes rfl rfl eg) (fun Kq hK => ?_)
                  clear eg
                  have e105 : act.tmps[105]?.getD undef = .pointer (some ⟨b1, o1 + i * 6, none⟩) := hk.v 105 (by kernel_rfl)
                  have g0 := Ext.cell ((Ext.drew V1).trans hk.ext) ((kcx1.out) 0 _ rfl)
                  rw [Nat.add_zero] at g0
                  have g1 := Ext.cell ((Ext.drew V1).trans hk.ext) ((kcx1.out) 1 _ rfl)
                  have g2 := Ext.cell ((Ext.drew V1).trans hk.ext) ((kcx1.out) 2 _ rfl)
                  have g3 := Ext.cell ((Ext.drew V1).trans hk.ext) ((kcx1.out) 3 _ rfl)
                  have g4 := Ext.cell ((Ext.drew V1).trans hk.ext) ((kcx1.out) 4 _ rfl)
                  have g5 := Ext.cell ((Ext.drew V1).trans hk.ext) ((kcx1.out) 5 _ rfl)
                  clear hk
                  go_simp
                  exact hK _ _ (Ext.refl _) (fun d hd => by cases hd; rfl)
                · intro act W2 hk
                  have eg : act.tmps[96]?.getD undef = .bool false := hk.v 96 (by kernel_rfl)
                  refine Flow.does_intro (wanted_yes rfl rfl eg) (fun Kq hK => ?_)
                  clear eg
                  have e101 : act.tmps[101]?.getD undef = .agg #[.string y.name, .string y.key, .int .i64 y.kind, .int .u64 y.num, .string y.text, .slice K4 y.kids.length c4] := hk.v 101 (by kernel_rfl)
                  have e106 : act.tmps[106]?.getD undef = .agg #[.string x.name, .string x.key, .int .i64 x.kind, .int .u64 x.num, .string x.text, .slice K3 x.kids.length c3] := hk.v 106 (by kernel_rfl)
                  clear hk
                  go_simp
                  refine Calls.mono (ref_less' y x K4 K3 y.kids.length c4 x.kids.length c3 _) ?_
                  rintro e W3 ⟨rfl, hx⟩
                  exact hK _ _ hx (fun d hd => by cases hd; exact congrArg Value.bool hyx)
                · intro act W2 hk
                  refine Flow.does_intro rfl (fun Kq hK => ?_)
                  have e96 : act.tmps[96]?.getD undef = .bool false := hk.v 96 (by kernel_rfl)
                  have e107 : act.tmps[107]?.getD undef = .bool false := hk.v 107 (by kernel_rfl)
                  clear hk
                  go_simp
                  exact hK _ _ (Ext.refl _) (fun d hd => by cases hd; rfl)
                · intro act W2 hk
                  refine Flow.does_intro rfl (fun Kq hK => ?_)
                  have e108 : act.tmps[108]?.getD undef = .bool false := hk.v 108 (by kernel_rfl)
                  clear hk
                  go_simp
                  exact hK _ _ (Ext.refl _) (fun d hd => by cases hd; rfl)
              · intro act V2 he
                have hxV2 := Hd.mk ((Ext.drew V1).trans he.ext)
                obtain ⟨us, hA, hF⟩ := he.out [91, 92, 93, 94, 95, 96, 97, 98, 99, 100, 101, 102, 103, 104, 105, 106, 107, 108, 90] (by kernel_rfl)
                simp only [Flow.fillL, List.contains_cons, List.contains_nil, Nat.reduceBEq, Bool.or_false, Bool.false_or, Bool.or_true, Bool.true_or, ↓reduceIte, Nat.reduceAdd, Bool.false_eq_true] at hA
                subst hA
                have f90 : us 90 = .bool false := hF 90 (by simp)
                clear hF he
                rw [f90]
                clear f90
                have hx2 := Hd.mk (hxV1.out.trans hxV2.out)
                have kA2 := Hd.mk (kAr.out.ext hx2.out)
                have kB2 := Hd.mk (kBr.out.ext hx2.out)
                have ho2 := Hd.mk (ho.out.ext hx2.out)
                have kcx2 := Hd.mk (fun (q : Nat) u hq => Ext.cell hx2.out (kcx.out q u hq))
                have kcy2 := Hd.mk (fun (q : Nat) u hq => Ext.cell hx2.out (kcy.out q u hq))
                refine (show wpList _ _ _ [] _ _ from ?_)
                go_wp2_with fail
                obtain ⟨wy, hwy⟩ : ∃ wy, Hd (way ++ [(x.name, x.key)] = wy) := ⟨_, ⟨rfl⟩⟩
                have hwl := Hd.mk (show wy.length = way.length + 1 by rw [← hwy.out]; simp)
                obtain ⟨be, hbe⟩ : ∃ be, Hd (bothE (edits N) way x y = be) := ⟨_, ⟨rfl⟩⟩
                have hkb3 := Hd.mk (show kidE (edits N) x y wy = be by rw [← hwy.out, ← hbe.out]; exact kidE_both (less_eq hxy hyx))
                have hbl := Hd.mk (show be.length ≤ x.size + y.size by rw [← hbe.out]; exact bothE_len (edits_len N) way x y)
                have hsxy := Hd.mk (show es.length + (x.size + y.size) ≤ 1000000 by have h1 := hL.out.el; rw [drop_cons hx1.out, drop_cons hy1.out, sizeL_cons, sizeL_cons] at h1; omega)
                refine Flow.wp_region_flow_l (fun qq => match qq with
                  | 22 => SP.eq (.slice V es.length vc)
                  | 23 => SP.eq (.pointer (some ⟨pA, 5, none⟩))
                  | 24 => SP.eq (.slice (some ⟨b1, o1, none⟩) a.kids.length c1)
                  | 25 => SP.eq (.int .i64 (i : Nat))
                  | 26 => SP.eq (.pointer (some ⟨b1, o1 + i * 6, none⟩))
                  | 27 => SP.eq (.agg #[.string x.name, .string x.key, .int .i64 x.kind, .int .u64 x.num, .string x.text, .slice K3 x.kids.length c3])
                  | 28 => SP.eq (.pointer (some ⟨(pA + 1), 5, none⟩))
                  | 29 => SP.eq (.slice (some ⟨b2, o2, none⟩) b.kids.length c2)
                  | 30 => SP.eq (.int .i64 (k : Nat))
                  | 31 => SP.eq (.pointer (some ⟨b2, o2 + k * 6, none⟩))
                  | 32 => SP.eq (.agg #[.string y.name, .string y.key, .int .i64 y.kind, .int .u64 y.num, .string y.text, .slice K4 y.kids.length c4])
                  | 33 => SP.eq (.slice A way.length c)
                  | 34 => SP.eq (.pointer (some ⟨pA, 5, none⟩))
                  | 35 => SP.eq (.slice (some ⟨b1, o1, none⟩) a.kids.length c1)
                  | 36 => SP.eq (.int .i64 (i : Nat))
                  | 37 => SP.eq (.pointer (some ⟨b1, o1 + i * 6, none⟩))
                  | 38 => SP.eq (.agg #[.string x.name, .string x.key, .int .i64 x.kind, .int .u64 x.num, .string x.text, .slice K3 x.kids.length c3])
                  | 39 => spWay wy V2.heap.size
                  | 40 => spOut be V2.heap.size (fun b => (S b ∧ b < w.heap.size) ∨ V2.heap.size ≤ b)
                  | _ => SP.any) 19 (by kernel_rfl) 128 rfl (by kernel_rfl) ?_ ?_
                · skip
                  refine ⟨?_, ?_, ?_, ?_, ?_, ?_, ?_, ?_, ?_, ?_, ?_, ?_, ?_, ?_, ?_, ?_, ?_, ?_, ?_, trivial⟩
                  · intro act W2 hk
                    refine Flow.does_intro rfl (fun Kq hK => ?_)
                    have e7 : act.tmps[7]?.getD undef = .slice V es.length vc := hk.o 7 (by kernel_rfl)
                    clear hk
                    go_simp
                    exact hK _ _ (Ext.refl _) (fun d hd => by cases hd; rfl)
                  · intro act W2 hk
                    refine Flow.does_intro rfl (fun Kq hK => ?_)
                    have e3 : act.tmps[3]?.getD undef = .pointer (some ⟨pA, 0, none⟩) := hk.o 3 (by kernel_rfl)
                    clear hk
                    go_simp
                    exact hK _ _ (Ext.refl _) (fun d hd => by cases hd; rfl)
                  · intro act W2 hk
                    refine Flow.does_intro rfl (fun Kq hK => ?_)
                    have e23 : act.tmps[23]?.getD undef = .pointer (some ⟨pA, 5, none⟩) := hk.v 23 (by kernel_rfl)
                    have g := ((kA2.out).ext ((Ext.drew V2).trans hk.ext)).cell
                    clear hk
                    go_simp
                    exact hK _ _ (Ext.refl _) (fun d hd => by cases hd; rfl)
                  · intro act W2 hk
                    refine Flow.does_intro rfl (fun Kq hK => ?_)
                    have e8 : act.tmps[8]?.getD undef = .int .i64 (i : Nat) := hk.o 8 (by kernel_rfl)
                    clear hk
                    go_simp
                    exact hK _ _ (Ext.refl _) (fun d hd => by cases hd; rfl)
                  · intro act W2 hk
                    refine Flow.does_intro rfl (fun Kq hK => ?_)
                    have e24 : act.tmps[24]?.getD undef = .slice (some ⟨b1, o1, none⟩) a.kids.length c1 := hk.v 24 (by kernel_rfl)
                    have e25 : act.tmps[25]?.getD undef = .int .i64 (i : Nat) := hk.v 25 (by kernel_rfl)
                    clear hk
                    go_simp
                    exact hK _ _ (Ext.refl _) (fun d hd => by cases hd; rfl)
                  · intro act W2 hk
                    refine Flow.does_intro rfl (fun Kq hK => ?_)
                    have e26 : act.tmps[26]?.getD undef = .pointer (some ⟨b1, o1 + i * 6, none⟩) := hk.v 26 (by kernel_rfl)
                    have g0 := Ext.cell ((Ext.drew V2).trans hk.ext) ((kcx2.out) 0 _ rfl)
                    rw [Nat.add_zero] at g0
                    have g1 := Ext.cell ((Ext.drew V2).trans hk.ext) ((kcx2.out) 1 _ rfl)
                    have g2 := Ext.cell ((Ext.drew V2).trans hk.ext) ((kcx2.out) 2 _ rfl)
                    have g3 := Ext.cell ((Ext.drew V2).trans hk.ext) ((kcx2.out) 3 _ rfl)
                    have g4 := Ext.cell ((Ext.drew V2).trans hk.ext) ((kcx2.out) 4 _ rfl)
                    have g5 := Ext.cell ((Ext.drew V2).trans hk.ext) ((kcx2.out) 5 _ rfl)
                    clear hk
                    go_simp
                    exact hK _ _ (Ext.refl _) (fun d hd => by cases hd; rfl)
                  · intro act W2 hk
                    refine Flow.does_intro rfl (fun Kq hK => ?_)
                    have e4 : act.tmps[4]?.getD undef = .pointer (some ⟨(pA + 1), 0, none⟩) := hk.o 4 (by kernel_rfl)
                    clear hk
                    go_simp
                    exact hK _ _ (Ext.refl _) (fun d hd => by cases hd; rfl)
                  · intro act W2 hk
                    refine Flow.does_intro rfl (fun Kq hK => ?_)
                    have e28 : act.tmps[28]?.getD undef = .pointer (some ⟨(pA + 1), 5, none⟩) := hk.v 28 (by kernel_rfl)
                    have g := ((kB2.out).ext ((Ext.drew V2).trans hk.ext)).cell
                    clear hk
                    go_simp
                    exact hK _ _ (Ext.refl _) (fun d hd => by cases hd; rfl)
                  · intro act W2 hk
                    refine Flow.does_intro rfl (fun Kq hK => ?_)
                    have e9 : act.tmps[9]?.getD undef = .int .i64 (k : Nat) := hk.o 9 (by kernel_rfl)
                    clear hk
                    go_simp
                    exact hK _ _ (Ext.refl _) (fun d hd => by cases hd; rfl)
                  · intro act W2 hk
                    refine Flow.does_intro rfl (fun Kq hK => ?_)
                    have e29 : act.tmps[29]?.getD undef = .slice (some ⟨b2, o2, none⟩) b.kids.length c2 := hk.v 29 (by kernel_rfl)
                    have e30 : act.tmps[30]?.getD undef = .int .i64 (k : Nat) := hk.v 30 (by kernel_rfl)
                    clear hk
                    go_simp
                    exact hK _ _ (Ext.refl _) (fun d hd => by cases hd; rfl)
                  · intro act W2 hk
                    refine Flow.does_intro rfl (fun Kq hK => ?_)
                    have e31 : act.tmps[31]?.getD undef = .pointer (some ⟨b2, o2 + k * 6, none⟩) := hk.v 31 (by kernel_rfl)
                    have g0 := Ext.cell ((Ext.drew V2).trans hk.ext) ((kcy2.out) 0 _ rfl)
                    rw [Nat.add_zero] at g0
                    have g1 := Ext.cell ((Ext.drew V2).trans hk.ext) ((kcy2.out) 1 _ rfl)
                    have g2 := Ext.cell ((Ext.drew V2).trans hk.ext) ((kcy2.out) 2 _ rfl)
                    have g3 := Ext.cell ((Ext.drew V2).trans hk.ext) ((kcy2.out) 3 _ rfl)
                    have g4 := Ext.cell ((Ext.drew V2).trans hk.ext) ((kcy2.out) 4 _ rfl)
                    have g5 := Ext.cell ((Ext.drew V2).trans hk.ext) ((kcy2.out) 5 _ rfl)
                    clear hk
                    go_simp
                    exact hK _ _ (Ext.refl _) (fun d hd => by cases hd; rfl)
                  · intro act W2 hk
                    refine Flow.does_intro rfl (fun Kq hK => ?_)
                    have e2 : act.tmps[2]?.getD undef = .slice A way.length c := hk.o 2 (by kernel_rfl)
                    clear hk
                    go_simp
                    exact hK _ _ (Ext.refl _) (fun d hd => by cases hd; rfl)
                  · intro act W2 hk
                    refine Flow.does_intro rfl (fun Kq hK => ?_)
                    have e3 : act.tmps[3]?.getD undef = .pointer (some ⟨pA, 0, none⟩) := hk.o 3 (by kernel_rfl)
                    clear hk
                    go_simp
                    exact hK _ _ (Ext.refl _) (fun d hd => by cases hd; rfl)
                  · intro act W2 hk
                    refine Flow.does_intro rfl (fun Kq hK => ?_)
                    have e34 : act.tmps[34]?.getD undef = .pointer (some ⟨pA, 5, none⟩) := hk.v 34 (by kernel_rfl)
                    have g := ((kA2.out).ext ((Ext.drew V2).trans hk.ext)).cell
                    clear hk
                    go_simp
                    exact hK _ _ (Ext.refl _) (fun d hd => by cases hd; rfl)
                  · intro act W2 hk
                    refine Flow.does_intro rfl (fun Kq hK => ?_)
                    have e8 : act.tmps[8]?.getD undef = .int .i64 (i : Nat) := hk.o 8 (by kernel_rfl)
                    clear hk
                    go_simp
                    exact hK _ _ (Ext.refl _) (fun d hd => by cases hd; rfl)
                  · intro act W2 hk
                    refine Flow.does_intro rfl (fun Kq hK => ?_)
                    have e35 : act.tmps[35]?.getD undef = .slice (some ⟨b1, o1, none⟩) a.kids.length c1 := hk.v 35 (by kernel_rfl)
                    have e36 : act.tmps[36]?.getD undef = .int .i64 (i : Nat) := hk.v 36 (by kernel_rfl)
                    clear hk
                    go_simp
                    exact hK _ _ (Ext.refl _) (fun d hd => by cases hd; rfl)
                  · intro act W2 hk
                    refine Flow.does_intro rfl (fun Kq hK => ?_)
                    have e37 : act.tmps[37]?.getD undef = .pointer (some ⟨b1, o1 + i * 6, none⟩) := hk.v 37 (by kernel_rfl)
                    have g0 := Ext.cell ((Ext.drew V2).trans hk.ext) ((kcx2.out) 0 _ rfl)
                    rw [Nat.add_zero] at g0
                    have g1 := Ext.cell ((Ext.drew V2).trans hk.ext) ((kcx2.out) 1 _ rfl)
                    have g2 := Ext.cell ((Ext.drew V2).trans hk.ext) ((kcx2.out) 2 _ rfl)
                    have g3 := Ext.cell ((Ext.drew V2).trans hk.ext) ((kcx2.out) 3 _ rfl)
                    have g4 := Ext.cell ((Ext.drew V2).trans hk.ext) ((kcx2.out) 4 _ rfl)
                    have g5 := Ext.cell ((Ext.drew V2).trans hk.ext) ((kcx2.out) 5 _ rfl)
                    clear hk
                    go_simp
                    exact hK _ _ (Ext.refl _) (fun d hd => by cases hd; rfl)
                  · intro act W2 hk
                    refine Flow.does_intro rfl (fun Kq hK => ?_)
                    have e33 : act.tmps[33]?.getD undef = .slice A way.length c := hk.v 33 (by kernel_rfl)
                    have e38 : act.tmps[38]?.getD undef = .agg #[.string x.name, .string x.key, .int .i64 x.kind, .int .u64 x.num, .string x.text, .slice K3 x.kids.length c3] := hk.v 38 (by kernel_rfl)
                    have hx0 := Hd.mk ((Ext.drew V2).trans hk.ext)
                    have hsz0 := hx0.out.size
                    have hon := Hd.mk (ref_way x K3 x.kids.length c3 kw.out (kx.out.trans (hxr.out.trans (hx2.out.trans hx0.out))) (by have := hwd.out; omega))
                    rw [hwy.out] at hon
                    clear hk
                    go_simp
                    refine Calls.mono (hon.out) ?_
                    rintro e W3 ⟨_, rfl, A', c', rfl, hr', hx⟩
                    exact hK _ _ hx (fun d hd => by cases hd; exact ⟨A', c', rfl, hr'.mono (fun b _ hb => Nat.le_trans hsz0 hb)⟩)
                  · intro act W2 hk
                    refine Flow.does_intro rfl (fun Kq hK => ?_)
                    have e27 : act.tmps[27]?.getD undef = .agg #[.string x.name, .string x.key, .int .i64 x.kind, .int .u64 x.num, .string x.text, .slice K3 x.kids.length c3] := hk.v 27 (by kernel_rfl)
                    have e32 : act.tmps[32]?.getD undef = .agg #[.string y.name, .string y.key, .int .i64 y.kind, .int .u64 y.num, .string y.text, .slice K4 y.kids.length c4] := hk.v 32 (by kernel_rfl)
                    have hx0 := Hd.mk ((Ext.drew V2).trans hk.ext)
                    have hsz0 := hx0.out.size
                    obtain ⟨A', c', e39, h7⟩ := (hk.v 39 (by kernel_rfl) : (spWay _ _).p _ _)
                    have h7 := Hd.mk h7
                    have hkd := Hd.mk (ref_kid N ih.out (S := fun b => (S b ∧ b < w.heap.size) ∨ V2.heap.size ≤ b) (w := W2) (by have := deepL_mem hx1.out; have := hdk.out; omega) (h7.out.mono (fun _ _ h => .inr h)) ((hrk.out.mono (fun _ hb h => .inl ⟨h, hb⟩)).ext (kx.out.trans (hxr.out.trans (hx2.out.trans hx0.out)))) ((hrd.out.mono (fun _ hb h => .inl ⟨h, hb⟩)).ext (kx.out.trans (hxr.out.trans (hx2.out.trans hx0.out)))) (by have := deepL_mem hx1.out; have := hwd.out; have := hwl.out; omega) (by have := hsxy.out; omega))
                    rw [hkb3.out] at hkd
                    clear hk
                    go_simp
                    refine Calls.mono (hkd.out) ?_
                    rintro e W3 ⟨_, rfl, css2, ho2, hx⟩
                    exact hK _ _ hx (fun d hd => by cases hd; exact ⟨css2, (ho2.imp (fun b _ h => h.elim id (fun h => .inr (Nat.le_trans hsz0 h)))).mono hsz0⟩)
                · intro act V9 he
                  have hxV9 := Hd.mk ((Ext.drew V2).trans he.ext)
                  obtain ⟨us, hA, hF⟩ := he.out [22, 23, 24, 25, 26, 27, 28, 29, 30, 31, 32, 33, 34, 35, 36, 37, 38, 39, 40] (by kernel_rfl)
                  simp only [Flow.fillL, List.contains_cons, List.contains_nil, Nat.reduceBEq, Bool.or_false, Bool.false_or, Bool.or_true, Bool.true_or, ↓reduceIte, Nat.reduceAdd, Bool.false_eq_true] at hA
                  subst hA
                  have f22 : us 22 = .slice V es.length vc := hF 22 (by simp)
                  have f40 : (spOut be V2.heap.size (fun b => (S b ∧ b < w.heap.size) ∨ V2.heap.size ≤ b)).p (us 40) V9 := hF 40 (by simp)
                  clear hF he
                  rw [f22]
                  clear f22
                  obtain ⟨css2, ho40⟩ := (f40 : (spOut _ _ _).p _ _)
                  obtain ⟨V2', vc2, e40, _, hn2, hs2⟩ := own_slice ho40.own
                  rw [e40] at ho40
                  replace ho40 := Hd.mk ho40
                  generalize us 22 = u22 at *
                  generalize us 23 = u23 at *
                  generalize us 24 = u24 at *
                  generalize us 25 = u25 at *
                  generalize us 26 = u26 at *
                  generalize us 27 = u27 at *
                  generalize us 28 = u28 at *
                  generalize us 29 = u29 at *
                  generalize us 30 = u30 at *
                  generalize us 31 = u31 at *
                  generalize us 32 = u32 at *
                  generalize us 33 = u33 at *
                  generalize us 34 = u34 at *
                  generalize us 35 = u35 at *
                  generalize us 36 = u36 at *
                  generalize us 37 = u37 at *
                  generalize us 38 = u38 at *
                  generalize us 39 = u39 at *
                  generalize us 40 = u40 at *
                  subst e40
                  have hxf := Hd.mk (hx2.out.trans hxV9.out)
                  have ho9 := Hd.mk (ho.out.ext hxf.out)
                  have hs9 := Hd.mk (Nat.le_trans hxr.out.size hxf.out.size)
                  cases V2' with
                  | none =>
                    have hz := hn2 rfl
                    subst hz
                    have hb0 : be = [] := by
                      rcases be with _ | ⟨e, l⟩
                      · rfl
                      · obtain ⟨g, _, h, _⟩ := hs2 (by simp); cases h
                    subst hb0
                    refine (show wpList _ _ _ (⟨some 41, .call { callee := .builtin .append, args := #[.tmp 22, .tmp 40], argTypes := #[57, 57] }, _, _, _, none⟩ :: _) _ _ from ?_)
                    have hvc := ho.out.cap
                    clear gA gB hn2 hs2 ho40
                    have hx9 := Hd.mk (hxr.out.trans hxf.out)
                    refine wpl_append_nil57 22 40 41 _ _ _ V es.length vc rfl rfl hvc ?_
                    go_wp2_with fail
                    go_roundg (a.kids.length - (i + 1) + (b.kids.length - (k + 1)))
                    case measure => have := hq.out; omega
                    case rel => exact ⟨i + 1, k + 1, css, es, V, vc, by omega, by omega, ⟨rfl⟩, rfl, by go_num, by go_num, ho9, hx9, ⟨by have := hL.out.next_b hx1.out hy1.out hxy hyx; rw [hbe.out, List.append_nil] at this; exact this⟩⟩
                  | some ad =>
                    refine (show wpList _ _ _ (⟨some 41, .call { callee := .builtin .append, args := #[.tmp 22, .tmp 40], argTypes := #[57, 57] }, _, _, _, none⟩ :: _) _ _ from ?_)
                    refine wpl_append' sl57 (by omega) (by omega) (.tmp 22) (.tmp 40) 41 _ _ _ W.heap.size (.slice V es.length vc) es.length css.flatten rfl ho9.out.own ad be.length vc2 css2.flatten rfl (by rw [flatten_len css2 ho40.out.c14, ho40.out.len]) (fun j u hj => ?_) ho40.out.one (by have := hesb.out; have := hbl.out; have := hsxy.out; omega) hs9.out ?_
                    · have hpos : 0 < be.length := by
                        rcases be with _ | ⟨e, l⟩
                        · have : css2 = [] := List.eq_nil_of_length_eq_zero ho40.out.len
                          subst this
                          simp at hj
                        · simp
                      obtain ⟨g, sp, e1, e2, e3⟩ := hs2 hpos
                      cases e1
                      rw [addr_add, Nat.zero_add, e3.cell, List.getElem?_append_left (List.getElem?_eq_some_iff.1 hj).1]
                      exact hj
                    intro v' w' hown hgr hat
                    obtain ⟨V', vc', rfl, _⟩ := own_slice hown
                    have hp := Hd.mk (OutR.push ho9.out ho40.out.len ho40.out.c14 (fun i e c he hc => (ho40.out.each i e c he hc).mono (fun b hb h => ⟨fun hh => by have h5 := own_base ho.out.own b hh; have h6 := own_lt ho.out.own b hh; have h7 := hx2.out.size; have h8 := hsz.out; have h9 := hpA.out; rcases h.2 with h | h <;> omega, h.2.imp And.left (fun h => by have h7 := hx2.out.size; have h8 := hsz.out; have h9 := hpA.out; have h10 := hszr.out; omega)⟩)) hown hgr hat)
                    have hx9 := Hd.mk (show Ext W w' from Below.grown (hxr.out.trans hxf.out) hgr hs9.out (own_base ho9.out.own))
                    clear hown hgr hat gA gB ho40 hn2 hs2
                    go_wp2_with fail
                    go_roundg (a.kids.length - (i + 1) + (b.kids.length - (k + 1)))
                    case measure => have := hq.out; omega
                    case rel => exact ⟨i + 1, k + 1, _, es ++ be, V', vc', by omega, by omega, ⟨rfl⟩, by rw [List.length_append], by go_num, by go_num, ⟨by rw [List.length_append]; exact hp.out⟩, hx9, ⟨by have := hL.out.next_b hx1.out hy1.out hxy hyx; rw [hbe.out] at this; exact this⟩⟩
      · have hkl : k = b.kids.length := by omega
        subst hkl
        go_wp2_with fail
        refine Flow.wp_region_flow_l (fun qq => match qq with
          | 47 => SP.eq (.int .i64 (b.kids.length : Nat))
          | 48 => SP.eq (.pointer (some ⟨(pA + 1), 5, none⟩))
          | 49 => SP.eq (.slice K2 b.kids.length c2)
          | 50 => SP.eq (.int .i64 (b.kids.length : Nat))
          | 51 => SP.eq (.bool true)
          | 52 => SP.eq (.bool true)
          | 53 => SP.eq (undef)
          | 54 => SP.eq (undef)
          | 55 => SP.eq (undef)
          | 56 => SP.eq (undef)
          | 57 => SP.eq (undef)
          | 58 => SP.eq (undef)
          | 59 => SP.eq (undef)
          | 60 => SP.eq (undef)
          | 61 => SP.eq (undef)
          | 62 => SP.eq (undef)
          | 63 => SP.eq (undef)
          | 64 => SP.eq (undef)
          | 65 => SP.eq (undef)
          | 66 => SP.eq (undef)
          | 67 => SP.eq (undef)
          | 68 => SP.eq (undef)
          | 69 => SP.eq (undef)
          | 70 => SP.eq (undef)
          | 71 => SP.eq (.bool true)
          | 46 => SP.eq (.bool true)
          | _ => SP.any) 26 (by kernel_rfl) 128 rfl (by kernel_rfl) ?_ ?_
        · skip
          refine ⟨?_, ?_, ?_, ?_, ?_, ?_, ?_, ?_, ?_, ?_, ?_, ?_, ?_, ?_, ?_, ?_, ?_, ?_, ?_, ?_, ?_, ?_, ?_, ?_, ?_, ?_, trivial⟩
          · intro act W2 hk
            refine Flow.does_intro rfl (fun Kq hK => ?_)
            have e9 : act.tmps[9]?.getD undef = .int .i64 (b.kids.length : Nat) := hk.o 9 (by kernel_rfl)
            clear hk
            go_simp
            exact hK _ _ (Ext.refl _) (fun d hd => by cases hd; rfl)
          · intro act W2 hk
            refine Flow.does_intro rfl (fun Kq hK => ?_)
            have e4 : act.tmps[4]?.getD undef = .pointer (some ⟨(pA + 1), 0, none⟩) := hk.o 4 (by kernel_rfl)
            clear hk
            go_simp
            exact hK _ _ (Ext.refl _) (fun d hd => by cases hd; rfl)
          · intro act W2 hk
            refine Flow.does_intro rfl (fun Kq hK => ?_)
            have e48 : act.tmps[48]?.getD undef = .pointer (some ⟨(pA + 1), 5, none⟩) := hk.v 48 (by kernel_rfl)
            have g := ((kBr.out).ext ((Ext.drew wr).trans hk.ext)).cell
            clear hk
            go_simp
            exact hK _ _ (Ext.refl _) (fun d hd => by cases hd; rfl)
          · intro act W2 hk
            refine Flow.does_intro rfl (fun Kq hK => ?_)
            have e49 : act.tmps[49]?.getD undef = .slice K2 b.kids.length c2 := hk.v 49 (by kernel_rfl)
            clear hk
            go_simp
            exact hK _ _ (Ext.refl _) (fun d hd => by cases hd; rfl)
          · intro act W2 hk
            refine Flow.does_intro rfl (fun Kq hK => ?_)
            have e47 : act.tmps[47]?.getD undef = .int .i64 (b.kids.length : Nat) := hk.v 47 (by kernel_rfl)
            have e50 : act.tmps[50]?.getD undef = .int .i64 (b.kids.length : Nat) := hk.v 50 (by kernel_rfl)
            clear hk
            go_simp
            exact hK _ _ (Ext.refl _) (fun d hd => by cases hd; first | rfl | (simp [SP.eq]; omega))
          · intro act W2 hk
            refine Flow.does_intro rfl (fun Kq hK => ?_)
            have e51 : act.tmps[51]?.getD undef = .bool true := hk.v 51 (by kernel_rfl)
            clear hk
            go_simp
            exact hK _ _ (Ext.refl _) (fun d hd => by cases hd; rfl)
          · intro act W2 hk
            have eg : act.tmps[52]?.getD undef = .bool true := hk.v 52 (by kernel_rfl)
            exact Flow.does_skip (wanted_no rfl rfl eg) (fun d hd => by cases hd; rfl)
          · intro act W2 hk
            have eg : act.tmps[52]?.getD undef = .bool true := hk.v 52 (by kernel_rfl)
            exact Flow.does_skip (wanted_no rfl rfl eg) (fun d hd => by cases hd; rfl)
          · intro act W2 hk
            have eg : act.tmps[52]?.getD undef = .bool true := hk.v 52 (by kernel_rfl)
            exact Flow.does_skip (wanted_no rfl rfl eg) (fun d hd => by cases hd; rfl)
          · intro act W2 hk
            have eg : act.tmps[52]?.getD undef = .bool true := hk.v 52 (by kernel_rfl)
            exact Flow.does_skip (wanted_no rfl rfl eg) (fun d hd => by cases hd; rfl)
          · intro act W2 hk
            have eg : act.tmps[52]?.getD undef = .bool true := hk.v 52 (by kernel_rfl)
            exact Flow.does_skip (wanted_no rfl rfl eg) (fun d hd => by cases hd; rfl)
          · intro act W2 hk
            have eg : act.tmps[52]?.getD undef = .bool true := hk.v 52 (by kernel_rfl)
            exact Flow.does_skip (wanted_no rfl rfl eg) (fun d hd => by cases hd; rfl)
          · intro act W2 hk
            have eg : act.tmps[58]?.getD undef = undef := hk.v 58 (by kernel_rfl)
            exact Flow.does_skip (wanted_off rfl rfl eg) (fun d hd => by cases hd; rfl)
          · intro act W2 hk
            have eg : act.tmps[58]?.getD undef = undef := hk.v 58 (by kernel_rfl)
            exact Flow.does_skip (wanted_off rfl rfl eg) (fun d hd => by cases hd; rfl)
          · intro act W2 hk
            have eg : act.tmps[58]?.getD undef = undef := hk.v 58 (by kernel_rfl)
            exact Flow.does_skip (wanted_off rfl rfl eg) (fun d hd => by cases hd; rfl)
          · intro act W2 hk
            have eg : act.tmps[58]?.getD undef = undef := hk.v 58 (by kernel_rfl)
            exact Flow.does_skip (wanted_off rfl rfl eg) (fun d hd => by cases hd; rfl)
          · intro act W2 hk
            have eg : act.tmps[58]?.getD undef = undef := hk.v 58 (by kernel_rfl)
            exact Flow.does_skip (wanted_off rfl rfl eg) (fun d hd => by cases hd; rfl)
          · intro act W2 hk
            have eg : act.tmps[58]?.getD undef = undef := hk.v 58 (by kernel_rfl)
            exact Flow.does_skip (wanted_off rfl rfl eg) (fun d hd => by cases hd; rfl)
          · intro act W2 hk
            have eg : act.tmps[58]?.getD undef = undef := hk.v 58 (by kernel_rfl)
            exact Flow.does_skip (wanted_off rfl rfl eg) (fun d hd => by cases hd; rfl)
          · intro act W2 hk
            have eg : act.tmps[58]?.getD undef = undef := hk.v 58 (by kernel_rfl)
            exact Flow.does_skip (wanted_off rfl rfl eg) (fun d hd => by cases hd; rfl)
          · intro act W2 hk
            have eg : act.tmps[58]?.getD undef = undef := hk.v 58 (by kernel_rfl)
            exact Flow.does_skip (wanted_off rfl rfl eg) (fun d hd => by cases hd; rfl)
          · intro act W2 hk
            have eg : act.tmps[58]?.getD undef = undef := hk.v 58 (by kernel_rfl)
            exact Flow.does_skip (wanted_off rfl rfl eg) (fun d hd => by cases hd; rfl)
          · intro act W2 hk
            have eg : act.tmps[58]?.getD undef = undef := hk.v 58 (by kernel_rfl)
            exact Flow.does_skip (wanted_off rfl rfl eg) (fun d hd => by cases hd; rfl)
          · intro act W2 hk
            have eg : act.tmps[52]?.getD undef = .bool true := hk.v 52 (by kernel_rfl)
            exact Flow.does_skip (wanted_no rfl rfl eg) (fun d hd => by cases hd; rfl)
          · intro act W2 hk
            refine Flow.does_intro rfl (fun Kq hK => ?_)
            have e52 : act.tmps[52]?.getD undef = .bool true := hk.v 52 (by kernel_rfl)
            clear hk
            go_simp
            exact hK _ _ (Ext.refl _) (fun d hd => by cases hd; rfl)
          · intro act W2 hk
            refine Flow.does_intro rfl (fun Kq hK => ?_)
            have e71 : act.tmps[71]?.getD undef = .bool true := hk.v 71 (by kernel_rfl)
            clear hk
            go_simp
            exact hK _ _ (Ext.refl _) (fun d hd => by cases hd; rfl)
        · intro act V1 he
          have hxV1 := Hd.mk ((Ext.drew wr).trans he.ext)
          obtain ⟨us, hA, hF⟩ := he.out [47, 48, 49, 50, 51, 52, 53, 54, 55, 56, 57, 58, 59, 60, 61, 62, 63, 64, 65, 66, 67, 68, 69, 70, 71, 46] (by kernel_rfl)
          simp only [Flow.fillL, List.contains_cons, List.contains_nil, Nat.reduceBEq, Bool.or_false, Bool.false_or, Bool.or_true, Bool.true_or, ↓reduceIte, Nat.reduceAdd, Bool.false_eq_true] at hA
          subst hA
          have f46 : us 46 = .bool true := hF 46 (by simp)
          clear hF he
          rw [f46]
          clear f46
          have kA1 := Hd.mk (kAr.out.ext hxV1.out)
          have kB1 := Hd.mk (kBr.out.ext hxV1.out)
          have ho1 := Hd.mk (ho.out.ext hxV1.out)
          have kcx1 := Hd.mk (fun (q : Nat) u hq => Ext.cell hxV1.out (kcx.out q u hq))
          refine (show wpList _ _ _ [] _ _ from ?_)
          go_wp2_with fail
          obtain ⟨wy, hwy⟩ : ∃ wy, Hd (way ++ [(x.name, x.key)] = wy) := ⟨_, ⟨rfl⟩⟩
          refine Flow.wp_region_flow_l (fun qq => match qq with
            | 72 => SP.eq (.slice V es.length vc)
            | 73 => SP.eq (.slice A way.length c)
            | 74 => SP.eq (.pointer (some ⟨pA, 5, none⟩))
            | 75 => SP.eq (.slice (some ⟨b1, o1, none⟩) a.kids.length c1)
            | 76 => SP.eq (.int .i64 (i : Nat))
            | 77 => SP.eq (.pointer (some ⟨b1, o1 + i * 6, none⟩))
            | 78 => SP.eq (.agg #[.string x.name, .string x.key, .int .i64 x.kind, .int .u64 x.num, .string x.text, .slice K3 x.kids.length c3])
            | 79 => spWay wy V1.heap.size
            | 80 => SP.eq (.pointer (some ⟨pA, 5, none⟩))
            | 81 => SP.eq (.slice (some ⟨b1, o1, none⟩) a.kids.length c1)
            | 82 => SP.eq (.int .i64 (i : Nat))
            | 83 => SP.eq (.pointer (some ⟨b1, o1 + i * 6, none⟩))
            | 84 => SP.eq (.agg #[.string x.name, .string x.key, .int .i64 x.kind, .int .u64 x.num, .string x.text, .slice K3 x.kids.length c3])
            | 85 => spEdP (⟨2, wy, zeroT, x⟩ : E) (fun b => (S b ∧ b < w.heap.size) ∨ V1.heap.size ≤ b)
            | 86 => spEdsP (⟨2, wy, zeroT, x⟩ : E) (fun b => (S b ∧ b < w.heap.size) ∨ V1.heap.size ≤ b)
            | _ => SP.any) 15 (by kernel_rfl) 128 rfl (by kernel_rfl) ?_ ?_
          · skip
            refine ⟨?_, ?_, ?_, ?_, ?_, ?_, ?_, ?_, ?_, ?_, ?_, ?_, ?_, ?_, ?_, trivial⟩
            · intro act W2 hk
              refine Flow.does_intro rfl (fun Kq hK => ?_)
              have e7 : act.tmps[7]?.getD undef = .slice V es.length vc := hk.o 7 (by kernel_rfl)
              clear hk
              go_simp
              exact hK _ _ (Ext.refl _) (fun d hd => by cases hd; rfl)
            · intro act W2 hk
              refine Flow.does_intro rfl (fun Kq hK => ?_)
              have e2 : act.tmps[2]?.getD undef = .slice A way.length c := hk.o 2 (by kernel_rfl)
              clear hk
              go_simp
              exact hK _ _ (Ext.refl _) (fun d hd => by cases hd; rfl)
            · intro act W2 hk
              refine Flow.does_intro rfl (fun Kq hK => ?_)
              have e3 : act.tmps[3]?.getD undef = .pointer (some ⟨pA, 0, none⟩) := hk.o 3 (by kernel_rfl)
              clear hk
              go_simp
              exact hK _ _ (Ext.refl _) (fun d hd => by cases hd; rfl)
            · intro act W2 hk
              refine Flow.does_intro rfl (fun Kq hK => ?_)
              have e74 : act.tmps[74]?.getD undef = .pointer (some ⟨pA, 5, none⟩) := hk.v 74 (by kernel_rfl)
              have g := ((kA1.out).ext ((Ext.drew V1).trans hk.ext)).cell
              clear hk
              go_simp
              exact hK _ _ (Ext.refl _) (fun d hd => by cases hd; rfl)
            · intro act W2 hk
              refine Flow.does_intro rfl (fun Kq hK => ?_)
              have e8 : act.tmps[8]?.getD undef = .int .i64 (i : Nat) := hk.o 8 (by kernel_rfl)
              clear hk
              go_simp
              exact hK _ _ (Ext.refl _) (fun d hd => by cases hd; rfl)
            · intro act W2 hk
              refine Flow.does_intro rfl (fun Kq hK => ?_)
              have e75 : act.tmps[75]?.getD undef = .slice (some ⟨b1, o1, none⟩) a.kids.length c1 := hk.v 75 (by kernel_rfl)
              have e76 : act.tmps[76]?.getD undef = .int .i64 (i : Nat) := hk.v 76 (by kernel_rfl)
              clear hk
              go_simp
              exact hK _ _ (Ext.refl _) (fun d hd => by cases hd; rfl)
            · intro act W2 hk
              refine Flow.does_intro rfl (fun Kq hK => ?_)
              have e77 : act.tmps[77]?.getD undef = .pointer (some ⟨b1, o1 + i * 6, none⟩) := hk.v 77 (by kernel_rfl)
              have g0 := Ext.cell ((Ext.drew V1).trans hk.ext) ((kcx1.out) 0 _ rfl)
              rw [Nat.add_zero] at g0
              have g1 := Ext.cell ((Ext.drew V1).trans hk.ext) ((kcx1.out) 1 _ rfl)
              have g2 := Ext.cell ((Ext.drew V1).trans hk.ext) ((kcx1.out) 2 _ rfl)
              have g3 := Ext.cell ((Ext.drew V1).trans hk.ext) ((kcx1.out) 3 _ rfl)
              have g4 := Ext.cell ((Ext.drew V1).trans hk.ext) ((kcx1.out) 4 _ rfl)
              have g5 := Ext.cell ((Ext.drew V1).trans hk.ext) ((kcx1.out) 5 _ rfl)
              clear hk
              go_simp
              exact hK _ _ (Ext.refl _) (fun d hd => by cases hd; rfl)
            · intro act W2 hk
              refine Flow.does_intro rfl (fun Kq hK => ?_)
              have e73 : act.tmps[73]?.getD undef = .slice A way.length c := hk.v 73 (by kernel_rfl)
              have e78 : act.tmps[78]?.getD undef = .agg #[.string x.name, .string x.key, .int .i64 x.kind, .int .u64 x.num, .string x.text, .slice K3 x.kids.length c3] := hk.v 78 (by kernel_rfl)
              have hx0 := Hd.mk ((Ext.drew V1).trans hk.ext)
              have hsz0 := hx0.out.size
              have hon := Hd.mk (ref_way x K3 x.kids.length c3 kw.out (kx.out.trans (hxr.out.trans (hxV1.out.trans hx0.out))) (by have := hwd.out; omega))
              rw [hwy.out] at hon
              clear hk
              go_simp
              refine Calls.mono (hon.out) ?_
              rintro e W3 ⟨_, rfl, A', c', rfl, hr', hx⟩
              exact hK _ _ hx (fun d hd => by cases hd; exact ⟨A', c', rfl, hr'.mono (fun b _ hb => Nat.le_trans hsz0 hb)⟩)
            · intro act W2 hk
              refine Flow.does_intro rfl (fun Kq hK => ?_)
              have e3 : act.tmps[3]?.getD undef = .pointer (some ⟨pA, 0, none⟩) := hk.o 3 (by kernel_rfl)
              clear hk
              go_simp
              exact hK _ _ (Ext.refl _) (fun d hd => by cases hd; rfl)
            · intro act W2 hk
              refine Flow.does_intro rfl (fun Kq hK => ?_)
              have e80 : act.tmps[80]?.getD undef = .pointer (some ⟨pA, 5, none⟩) := hk.v 80 (by kernel_rfl)
              have g := ((kA1.out).ext ((Ext.drew V1).trans hk.ext)).cell
              clear hk
              go_simp
              exact hK _ _ (Ext.refl _) (fun d hd => by cases hd; rfl)
            · intro act W2 hk
              refine Flow.does_intro rfl (fun Kq hK => ?_)
              have e8 : act.tmps[8]?.getD undef = .int .i64 (i : Nat) := hk.o 8 (by kernel_rfl)
              clear hk
              go_simp
              exact hK _ _ (Ext.refl _) (fun d hd => by cases hd; rfl)
            · intro act W2 hk
              refine Flow.does_intro rfl (fun Kq hK => ?_)
              have e81 : act.tmps[81]?.getD undef = .slice (some ⟨b1, o1, none⟩) a.kids.length c1 := hk.v 81 (by kernel_rfl)
              have e82 : act.tmps[82]?.getD undef = .int .i64 (i : Nat) := hk.v 82 (by kernel_rfl)
              clear hk
              go_simp
              exact hK _ _ (Ext.refl _) (fun d hd => by cases hd; rfl)
            · intro act W2 hk
              refine Flow.does_intro rfl (fun Kq hK => ?_)
              have e83 : act.tmps[83]?.getD undef = .pointer (some ⟨b1, o1 + i * 6, none⟩) := hk.v 83 (by kernel_rfl)
              have g0 := Ext.cell ((Ext.drew V1).trans hk.ext) ((kcx1.out) 0 _ rfl)
              rw [Nat.add_zero] at g0
              have g1 := Ext.cell ((Ext.drew V1).trans hk.ext) ((kcx1.out) 1 _ rfl)
              have g2 := Ext.cell ((Ext.drew V1).trans hk.ext) ((kcx1.out) 2 _ rfl)
              have g3 := Ext.cell ((Ext.drew V1).trans hk.ext) ((kcx1.out) 3 _ rfl)
              have g4 := Ext.cell ((Ext.drew V1).trans hk.ext) ((kcx1.out) 4 _ rfl)
              have g5 := Ext.cell ((Ext.drew V1).trans hk.ext) ((kcx1.out) 5 _ rfl)
              clear hk
              go_simp
              exact hK _ _ (Ext.refl _) (fun d hd => by cases hd; rfl)
            · intro act W2 hk
              refine Flow.does_intro rfl (fun Kq hK => ?_)
              have e84 : act.tmps[84]?.getD undef = .agg #[.string x.name, .string x.key, .int .i64 x.kind, .int .u64 x.num, .string x.text, .slice K3 x.kids.length c3] := hk.v 84 (by kernel_rfl)
              have hx0 := Hd.mk ((Ext.drew V1).trans hk.ext)
              obtain ⟨A', c', e79, h7⟩ := (hk.v 79 (by kernel_rfl) : (spWay _ _).p _ _)
              have h7 := Hd.mk h7
              clear hk
              go_simp
              exact hK _ _ (Ext.refl _) (fun d hd => by cases hd; exact ⟨_, rfl, A', c', none, 0, K3, c3, rfl, h7.out.mono (fun b _ hb => .inr hb), RRow.nil _ _ _ _ (fun _ => rfl), ((hr3.out.mono' (S' := fun b => (S b ∧ b < w.heap.size) ∨ V1.heap.size ≤ b) (fun b hb h => .inl ⟨h, hb⟩)).ext (kx.out.trans (hxr.out.trans (hxV1.out.trans hx0.out))))⟩)
            · intro act W2 hk
              refine Flow.does_intro rfl (fun Kq hK => ?_)
              obtain ⟨c', e85, h10⟩ := (hk.v 85 (by kernel_rfl) : (spEdP _ _).p _ _)
              have h10' := h10
              obtain ⟨q1, q2, q3, q4, q5, q6, rfl, _⟩ := h10'
              simp only [cT, List.cons_append, List.nil_append] at e85
              have h10 := Hd.mk h10
              clear hk
              go_simp
              exact hK _ _ (Ext.alloc _ _) (fun d hd => by cases hd; exact ⟨_, _, rfl, Blk.new _ _ _, h10.out.ext (Ext.alloc _ _)⟩)
          · intro act V9 he
            have hxV9 := Hd.mk ((Ext.drew V1).trans he.ext)
            obtain ⟨us, hA, hF⟩ := he.out [72, 73, 74, 75, 76, 77, 78, 79, 80, 81, 82, 83, 84, 85, 86] (by kernel_rfl)
            simp only [Flow.fillL, List.contains_cons, List.contains_nil, Nat.reduceBEq, Bool.or_false, Bool.false_or, Bool.or_true, Bool.true_or, ↓reduceIte, Nat.reduceAdd, Bool.false_eq_true] at hA
            subst hA
            have f72 : us 72 = .slice V es.length vc := hF 72 (by simp)
            have f86 : (spEdsP (⟨2, wy, zeroT, x⟩ : E) (fun b => (S b ∧ b < w.heap.size) ∨ V1.heap.size ≤ b)).p (us 86) V9 := hF 86 (by simp)
            clear hF he
            rw [f72]
            clear f72
            obtain ⟨D, c', e86, hD, hre⟩ := (f86 : (spEdsP _ _).p _ _)
            have hre' := hre
            obtain ⟨q1, q2, q3, q4, q5, q6, rfl, _⟩ := hre'
            have hD := Hd.mk hD
            have hre := Hd.mk hre
            generalize us 72 = u72 at *
            generalize us 73 = u73 at *
            generalize us 74 = u74 at *
            generalize us 75 = u75 at *
            generalize us 76 = u76 at *
            generalize us 77 = u77 at *
            generalize us 78 = u78 at *
            generalize us 79 = u79 at *
            generalize us 80 = u80 at *
            generalize us 81 = u81 at *
            generalize us 82 = u82 at *
            generalize us 83 = u83 at *
            generalize us 84 = u84 at *
            generalize us 85 = u85 at *
            generalize us 86 = u86 at *
            subst e86
            have hxf := Hd.mk (hxV1.out.trans hxV9.out)
            have ho9 := Hd.mk (ho.out.ext hxf.out)
            have hs9 := Hd.mk (Nat.le_trans hxr.out.size hxf.out.size)
            refine (show wpList _ _ _ (⟨some 87, .call { callee := .builtin .append, args := #[.tmp 72, .tmp 86], argTypes := #[57, 57] }, _, _, _, none⟩ :: _) _ _ from ?_)
            refine wpl_append sl57 (by omega) (by omega) (.tmp 72) (.tmp 86) 87 _ _ _ W.heap.size (.slice V es.length vc) es.length css.flatten rfl ho9.out.own D 0 1 1 _ rfl (by rw [hre.out.len]) (fun i u hi => by rw [Nat.zero_add, hD.out.cell]; exact hi) hre.out.one (by have := hesb.out; omega) hs9.out ?_
            intro v' w' hown hgr hat
            obtain ⟨V', vc', rfl, _⟩ := own_slice hown
            have hp := Hd.mk (OutR.push1 (e := (⟨2, wy, zeroT, x⟩ : E)) ho9.out (hre.out.mono (fun b hb h => ⟨fun hh => by have h5 := own_base ho.out.own b hh; have h6 := own_lt ho.out.own b hh; have h7 := hxV1.out.size; have h8 := hsz.out; have h9 := hpA.out; rcases h with h | h <;> omega, h.imp And.left (fun h => by have h7 := hxV1.out.size; have h8 := hsz.out; have h9 := hpA.out; have h10 := hszr.out; omega)⟩)) hown hgr hat)
            have hx9 := Hd.mk (show Ext W w' from Below.grown (hxr.out.trans hxf.out) hgr hs9.out (own_base ho9.out.own))
            clear hown hgr hat gA gB hre hD
            go_wp2_with fail
            go_roundg (a.kids.length - (i + 1) + (b.kids.length - b.kids.length))
            case measure => have := hq.out; omega
            case rel => exact ⟨i + 1, b.kids.length, _, es ++ [(⟨2, wy, zeroT, x⟩ : E)], V', vc', by omega, by omega, ⟨rfl⟩, by rw [List.length_append]; rfl, by go_num, by go_num, ⟨by rw [List.length_append]; exact hp.out⟩, hx9, ⟨by rw [← hwy.out]; exact hL.out.next_x hx1.out (.inl (Nat.le_refl _))⟩⟩
    · have hil : i = a.kids.length := by omega
      subst hil
      by_cases hkb : k < b.kids.length
      · have hkb2 := hkb
        have hy1 := List.getElem?_eq_getElem hkb
        generalize b.kids[k] = y at hy1
        replace hy1 := Hd.mk hy1
        obtain ⟨b2, o2, dk, rfl, _, hrd, hdk⟩ := kr2.out.kid k y hy1.out
        obtain ⟨K4, c4, rfl, hr4⟩ := hrd.row
        replace hrd := Hd.mk hrd
        replace hr4 := Hd.mk hr4
        have kcy := Hd.mk (fun (q : Nat) u hq => Ext.cell (kx.out.trans hxr.out) (hdk q u hq))
        clear hdk
        simp only [cT] at kcy hrd
        go_wp2_with fail
        refine Flow.wp_region_flow_l (fun qq => match qq with
          | 47 => SP.eq (.int .i64 (k : Nat))
          | 48 => SP.eq (.pointer (some ⟨(pA + 1), 5, none⟩))
          | 49 => SP.eq (.slice (some ⟨b2, o2, none⟩) b.kids.length c2)
          | 50 => SP.eq (.int .i64 (b.kids.length : Nat))
          | 51 => SP.eq (.bool false)
          | 52 => SP.eq (.bool false)
          | 53 => SP.eq (.int .i64 (a.kids.length : Nat))
          | 54 => SP.eq (.pointer (some ⟨pA, 5, none⟩))
          | 55 => SP.eq (.slice K1 a.kids.length c1)
          | 56 => SP.eq (.int .i64 (a.kids.length : Nat))
          | 57 => SP.eq (.bool false)
          | 58 => SP.eq (.bool false)
          | 59 => SP.eq (undef)
          | 60 => SP.eq (undef)
          | 61 => SP.eq (undef)
          | 62 => SP.eq (undef)
          | 63 => SP.eq (undef)
          | 64 => SP.eq (undef)
          | 65 => SP.eq (undef)
          | 66 => SP.eq (undef)
          | 67 => SP.eq (undef)
          | 68 => SP.eq (undef)
          | 69 => SP.eq (undef)
          | 70 => SP.eq (.bool false)
          | 71 => SP.eq (.bool false)
          | 46 => SP.eq (.bool false)
          | _ => SP.any) 26 (by kernel_rfl) 128 rfl (by kernel_rfl) ?_ ?_
        · skip
          refine ⟨?_, ?_, ?_, ?_, ?_, ?_, ?_, ?_, ?_, ?_, ?_, ?_, ?_, ?_, ?_, ?_, ?_, ?_, ?_, ?_, ?_, ?_, ?_, ?_, ?_, ?_, trivial⟩
          · intro act W2 hk
            refine Flow.does_intro rfl (fun Kq hK => ?_)
            have e9 : act.tmps[9]?.getD undef = .int .i64 (k : Nat) := hk.o 9 (by kernel_rfl)
            clear hk
            go_simp
            exact hK _ _ (Ext.refl _) (fun d hd => by cases hd; rfl)
          · intro act W2 hk
            refine Flow.does_intro rfl (fun Kq hK => ?_)
            have e4 : act.tmps[4]?.getD undef = .pointer (some ⟨(pA + 1), 0, none⟩) := hk.o 4 (by kernel_rfl)
            clear hk
            go_simp
            exact hK _ _ (Ext.refl _) (fun d hd => by cases hd; rfl)
          · intro act W2 hk
            refine Flow.does_intro rfl (fun Kq hK => ?_)
            have e48 : act.tmps[48]?.getD undef = .pointer (some ⟨(pA + 1), 5, none⟩) := hk.v 48 (by kernel_rfl)
            have g := ((kBr.out).ext ((Ext.drew wr).trans hk.ext)).cell
            clear hk
            go_simp
            exact hK _ _ (Ext.refl _) (fun d hd => by cases hd; rfl)
          · intro act W2 hk
            refine Flow.does_intro rfl (fun Kq hK => ?_)
            have e49 : act.tmps[49]?.getD undef = .slice (some ⟨b2, o2, none⟩) b.kids.length c2 := hk.v 49 (by kernel_rfl)
            clear hk
            go_simp
            exact hK _ _ (Ext.refl _) (fun d hd => by cases hd; rfl)
          · intro act W2 hk
            refine Flow.does_intro rfl (fun Kq hK => ?_)
            have e47 : act.tmps[47]?.getD undef = .int .i64 (k : Nat) := hk.v 47 (by kernel_rfl)
            have e50 : act.tmps[50]?.getD undef = .int .i64 (b.kids.length : Nat) := hk.v 50 (by kernel_rfl)
            clear hk
            go_simp
            exact hK _ _ (Ext.refl _) (fun d hd => by cases hd; first | rfl | (simp [SP.eq]; omega))
          · intro act W2 hk
            refine Flow.does_intro rfl (fun Kq hK => ?_)
            have e51 : act.tmps[51]?.getD undef = .bool false := hk.v 51 (by kernel_rfl)
            clear hk
            go_simp
            exact hK _ _ (Ext.refl _) (fun d hd => by cases hd; rfl)
          · intro act W2 hk
            have eg : act.tmps[52]?.getD undef = .bool false := hk.v 52 (by kernel_rfl)
            refine Flow.does_intro (wanted_yes rfl rfl eg) (fun Kq hK => ?_)
            clear eg
            have e8 : act.tmps[8]?.getD undef = .int .i64 (a.kids.length : Nat) := hk.o 8 (by kernel_rfl)
            clear hk
            go_simp
            exact hK _ _ (Ext.refl _) (fun d hd => by cases hd; rfl)
          · intro act W2 hk
            have eg : act.tmps[52]?.getD undef = .bool false := hk.v 52 (by kernel_rfl)
            refine Flow.does_intro (wanted_yes rfl rfl eg) (fun Kq hK => ?_)
            clear eg
            have e3 : act.tmps[3]?.getD undef = .pointer (some ⟨pA, 0, none⟩) := hk.o 3 (by kernel_rfl)
            clear hk
            go_simp
            exact hK _ _ (Ext.refl _) (fun d hd => by cases hd; rfl)
          · intro act W2 hk
            have eg : act.tmps[52]?.getD undef = .bool false := hk.v 52 (by kernel_rfl)
            refine Flow.does_intro (wanted_yes rfl rfl eg) (fun Kq hK => ?_)
            clear eg
            have e54 : act.tmps[54]?.getD undef = .pointer (some ⟨pA, 5, none⟩) := hk.v 54 (by kernel_rfl)
            have g := ((kAr.out).ext ((Ext.drew wr).trans hk.ext)).cell
            clear hk
            go_simp
            exact hK _ _ (Ext.refl _) (fun d hd => by cases hd; rfl)
          · intro act W2 hk
            have eg : act.tmps[52]?.getD undef = .bool false := hk.v 52 (by kernel_rfl)
            refine Flow.does_intro (wanted_yes rfl rfl eg) (fun Kq hK => ?_)
            clear eg
            have e55 : act.tmps[55]?.getD undef = .slice K1 a.kids.length c1 := hk.v 55 (by kernel_rfl)
            clear hk
            go_simp
            exact hK _ _ (Ext.refl _) (fun d hd => by cases hd; rfl)
          · intro act W2 hk
            have eg : act.tmps[52]?.getD undef = .bool false := hk.v 52 (by kernel_rfl)
            refine Flow.does_intro (wanted_yes rfl rfl eg) (fun Kq hK => ?_)
            clear eg
            have e53 : act.tmps[53]?.getD undef = .int .i64 (a.kids.length : Nat) := hk.v 53 (by kernel_rfl)
            have e56 : act.tmps[56]?.getD undef = .int .i64 (a.kids.length : Nat) := hk.v 56 (by kernel_rfl)
            clear hk
            go_simp
            exact hK _ _ (Ext.refl _) (fun d hd => by cases hd; first | rfl | (simp [SP.eq]; omega))
          · intro act W2 hk
            have eg : act.tmps[52]?.getD undef = .bool false := hk.v 52 (by kernel_rfl)
            refine Flow.does_intro (wanted_yes rfl rfl eg) (fun Kq hK => ?_)
            clear eg
            have e57 : act.tmps[57]?.getD undef = .bool false := hk.v 57 (by kernel_rfl)
            clear hk
            go_simp
            exact hK _ _ (Ext.refl _) (fun d hd => by cases hd; rfl)
          · intro act W2 hk
            have eg : act.tmps[58]?.getD undef = .bool false := hk.v 58 (by kernel_rfl)
            exact Flow.does_skip (wanted_no rfl rfl eg) (fun d hd => by cases hd; rfl)
          · intro act W2 hk
            have eg : act.tmps[58]?.getD undef = .bool false := hk.v 58 (by kernel_rfl)
            exact Flow.does_skip (wanted_no rfl rfl eg) (fun d hd => by cases hd; rfl)
          · intro act W2 hk
            have eg : act.tmps[58]?.getD undef = .bool false := hk.v 58 (by kernel_rfl)
            exact Flow.does_skip (wanted_no rfl rfl eg) (fun d hd => by cases hd; rfl)
          · intro act W2 hk
            have eg : act.tmps[58]?.getD undef = .bool false := hk.v 58 (by kernel_rfl)
            exact Flow.does_skip (wanted_no rfl rfl eg) (fun d hd => by cases hd; rfl)
          · intro act W2 hk
            have eg : act.tmps[58]?.getD undef = .bool false := hk.v 58 (by kernel_rfl)
            exact Flow.does_skip (wanted_no rfl rfl eg) (fun d hd => by cases hd; rfl)
          · intro act W2 hk
            have eg : act.tmps[58]?.getD undef = .bool false := hk.v 58 (by kernel_rfl)
            exact Flow.does_skip (wanted_no rfl rfl eg) (fun d hd => by cases hd; rfl)
          · intro act W2 hk
            have eg : act.tmps[58]?.getD undef = .bool false := hk.v 58 (by kernel_rfl)
            exact Flow.does_skip (wanted_no rfl rfl eg) (fun d hd => by cases hd; rfl)
          · intro act W2 hk
            have eg : act.tmps[58]?.getD undef = .bool false := hk.v 58 (by kernel_rfl)
            exact Flow.does_skip (wanted_no rfl rfl eg) (fun d hd => by cases hd; rfl)
          · intro act W2 hk
            have eg : act.tmps[58]?.getD undef = .bool false := hk.v 58 (by kernel_rfl)
            exact Flow.does_skip (wanted_no rfl rfl eg) (fun d hd => by cases hd; rfl)
          · intro act W2 hk
            have eg : act.tmps[58]?.getD undef = .bool false := hk.v 58 (by kernel_rfl)
            exact Flow.does_skip (wanted_no rfl rfl eg) (fun d hd => by cases hd; rfl)
          · intro act W2 hk
            have eg : act.tmps[58]?.getD undef = .bool false := hk.v 58 (by kernel_rfl)
            exact Flow.does_skip (wanted_no rfl rfl eg) (fun d hd => by cases hd; rfl)
          · intro act W2 hk
            have eg : act.tmps[52]?.getD undef = .bool false := hk.v 52 (by kernel_rfl)
            refine Flow.does_intro (wanted_yes rfl rfl eg) (fun Kq hK => ?_)
            clear eg
            have e58 : act.tmps[58]?.getD undef = .bool false := hk.v 58 (by kernel_rfl)
            clear hk
            go_simp
            exact hK _ _ (Ext.refl _) (fun d hd => by cases hd; rfl)
          · intro act W2 hk
            refine Flow.does_intro rfl (fun Kq hK => ?_)
            have e52 : act.tmps[52]?.getD undef = .bool false := hk.v 52 (by kernel_rfl)
            have e70 : act.tmps[70]?.getD undef = .bool false := hk.v 70 (by kernel_rfl)
            clear hk
            go_simp
            exact hK _ _ (Ext.refl _) (fun d hd => by cases hd; rfl)
          · intro act W2 hk
            refine Flow.does_intro rfl (fun Kq hK => ?_)
            have e71 : act.tmps[71]?.getD undef = .bool false := hk.v 71 (by kernel_rfl)
            clear hk
            go_simp
            exact hK _ _ (Ext.refl _) (fun d hd => by cases hd; rfl)
        · intro act V1 he
          have hxV1 := Hd.mk ((Ext.drew wr).trans he.ext)
          obtain ⟨us, hA, hF⟩ := he.out [47, 48, 49, 50, 51, 52, 53, 54, 55, 56, 57, 58, 59, 60, 61, 62, 63, 64, 65, 66, 67, 68, 69, 70, 71, 46] (by kernel_rfl)
          simp only [Flow.fillL, List.contains_cons, List.contains_nil, Nat.reduceBEq, Bool.or_false, Bool.false_or, Bool.or_true, Bool.true_or, ↓reduceIte, Nat.reduceAdd, Bool.false_eq_true] at hA
          subst hA
          have f46 : us 46 = .bool false := hF 46 (by simp)
          clear hF he
          rw [f46]
          clear f46
          have kA1 := Hd.mk (kAr.out.ext hxV1.out)
          have kB1 := Hd.mk (kBr.out.ext hxV1.out)
          have ho1 := Hd.mk (ho.out.ext hxV1.out)
          have kcy1 := Hd.mk (fun (q : Nat) u hq => Ext.cell hxV1.out (kcy.out q u hq))
          refine (show wpList _ _ _ [] _ _ from ?_)
          go_wp2_with fail
          refine Flow.wp_region_flow_l (fun qq => match qq with
            | 91 => SP.eq (.int .i64 (a.kids.length : Nat))
            | 92 => SP.eq (.pointer (some ⟨pA, 5, none⟩))
            | 93 => SP.eq (.slice K1 a.kids.length c1)
            | 94 => SP.eq (.int .i64 (a.kids.length : Nat))
            | 95 => SP.eq (.bool true)
            | 96 => SP.eq (.bool true)
            | 97 => SP.eq (undef)
            | 98 => SP.eq (undef)
            | 99 => SP.eq (undef)
            | 100 => SP.eq (undef)
            | 101 => SP.eq (undef)
            | 102 => SP.eq (undef)
            | 103 => SP.eq (undef)
            | 104 => SP.eq (undef)
            | 105 => SP.eq (undef)
            | 106 => SP.eq (undef)
            | 107 => SP.eq (undef)
            | 108 => SP.eq (.bool true)
            | 90 => SP.eq (.bool true)
            | _ => SP.any) 19 (by kernel_rfl) 128 rfl (by kernel_rfl) ?_ ?_
          · skip
            refine ⟨?_, ?_, ?_, ?_, ?_, ?_, ?_, ?_, ?_, ?_, ?_, ?_, ?_, ?_, ?_, ?_, ?_, ?_, ?_, trivial⟩
            · intro act W2 hk
              refine Flow.does_intro rfl (fun Kq hK => ?_)
              have e8 : act.tmps[8]?.getD undef = .int .i64 (a.kids.length : Nat) := hk.o 8 (by kernel_rfl)
              clear hk
              go_simp
              exact hK _ _ (Ext.refl _) (fun d hd => by cases hd; rfl)
            · intro act W2 hk
              refine Flow.does_intro rfl (fun Kq hK => ?_)
              have e3 : act.tmps[3]?.getD undef = .pointer (some ⟨pA, 0, none⟩) := hk.o 3 (by kernel_rfl)
              clear hk
              go_simp
              exact hK _ _ (Ext.refl _) (fun d hd => by cases hd; rfl)
            · intro act W2 hk
              refine Flow.does_intro rfl (fun Kq hK => ?_)
              have e92 : act.tmps[92]?.getD undef = .pointer (some ⟨pA, 5, none⟩) := hk.v 92 (by kernel_rfl)
              have g := ((kA1.out).ext ((Ext.drew V1).trans hk.ext)).cell
              clear hk
              go_simp
              exact hK _ _ (Ext.refl _) (fun d hd => by cases hd; rfl)
            · intro act W2 hk
              refine Flow.does_intro rfl (fun Kq hK => ?_)
              have e93 : act.tmps[93]?.getD undef = .slice K1 a.kids.length c1 := hk.v 93 (by kernel_rfl)
              clear hk
              go_simp
              exact hK _ _ (Ext.refl _) (fun d hd => by cases hd; rfl)
            · intro act W2 hk
              refine Flow.does_intro rfl (fun Kq hK => ?_)
              have e91 : act.tmps[91]?.getD undef = .int .i64 (a.kids.length : Nat) := hk.v 91 (by kernel_rfl)
              have e94 : act.tmps[94]?.getD undef = .int .i64 (a.kids.length : Nat) := hk.v 94 (by kernel_rfl)
              clear hk
              go_simp
              exact hK _ _ (Ext.refl _) (fun d hd => by cases hd; first | rfl | (simp [SP.eq]; omega))
            · intro act W2 hk
              refine Flow.does_intro rfl (fun Kq hK => ?_)
              have e95 : act.tmps[95]?.getD undef = .bool true := hk.v 95 (by kernel_rfl)
              clear hk
              go_simp
              exact hK _ _ (Ext.refl _) (fun d hd => by cases hd; rfl)
            · intro act W2 hk
              have eg : act.tmps[96]?.getD undef = .bool true := hk.v 96 (by kernel_rfl)
              exact Flow.does_skip (wanted_no rfl rfl eg) (fun d hd => by cases hd; rfl)
            · intro act W2 hk
              have eg : act.tmps[96]?.getD undef = .bool true := hk.v 96 (by kernel_rfl)
              exact Flow.does_skip (wanted_no rfl rfl eg) (fun d hd => by cases hd; rfl)
            · intro act W2 hk
              have eg : act.tmps[96]?.getD undef = .bool true := hk.v 96 (by kernel_rfl)
              exact Flow.does_skip (wanted_no rfl rfl eg) (fun d hd => by cases hd; rfl)
            · intro act W2 hk
              have eg : act.tmps[96]?.getD undef = .bool true := hk.v 96 (by kernel_rfl)
              exact Flow.does_skip (wanted_no rfl rfl eg) (fun d hd => by cases hd; rfl)
            · intro act W2 hk
              have eg : act.tmps[96]?.getD undef = .bool true := hk.v 96 (by kernel_rfl)
              exact Flow.does_skip (wanted_no rfl rfl eg) (fun d hd => by cases hd; rfl)
            · intro act W2 hk
              have eg : act.tmps[96]?.getD undef = .bool true := hk.v 96 (by kernel_rfl)
              exact Flow.does_skip (wanted_no rfl rfl eg) (fun d hd => by cases hd; rfl)
            · intro act W2 hk
              have eg : act.tmps[96]?.getD undef = .bool true := hk.v 96 (by kernel_rfl)
              exact Flow.does_skip (wanted_no rfl rfl eg) (fun d hd => by cases hd; rfl)
            · intro act W2 hk
              have eg : act.tmps[96]?.getD undef = .bool true := hk.v 96 (by kernel_rfl)
              exact Flow.does_skip (wanted_no rfl rfl eg) (fun d hd => by cases hd; rfl)
            · intro act W2 hk
              have eg : act.tmps[96]?.getD undef = .bool true := hk.v 96 (by kernel_rfl)
              exact Flow.does_skip (wanted_no rfl rfl eg) (fun d hd => by cases hd; rfl)
            · intro act W2 hk
              have eg : act.tmps[96]?.getD undef = .bool true := hk.v 96 (by kernel_rfl)
              exact Flow.does_skip (wanted_no rfl rfl eg) (fun d hd => by cases hd; rfl)
            · intro act W2 hk
              have eg : act.tmps[96]?.getD undef = .bool true := hk.v 96 (by kernel_rfl)
              exact Flow.does_skip (wanted_no rfl rfl eg) (fun d hd => by cases hd; rfl)
            · intro act W2 hk
              refine Flow.does_intro rfl (fun Kq hK => ?_)
              have e96 : act.tmps[96]?.getD undef = .bool true := hk.v 96 (by kernel_rfl)
              clear hk
              go_simp
              exact hK _ _ (Ext.refl _) (fun d hd => by cases hd; rfl)
            · intro act W2 hk
              refine Flow.does_intro rfl (fun Kq hK => ?_)
              have e108 : act.tmps[108]?.getD undef = .bool true := hk.v 108 (by kernel_rfl)
              clear hk
              go_simp
              exact hK _ _ (Ext.refl _) (fun d hd => by cases hd; rfl)
          · intro act V2 he
            have hxV2 := Hd.mk ((Ext.drew V1).trans he.ext)
            obtain ⟨us, hA, hF⟩ := he.out [91, 92, 93, 94, 95, 96, 97, 98, 99, 100, 101, 102, 103, 104, 105, 106, 107, 108, 90] (by kernel_rfl)
            simp only [Flow.fillL, List.contains_cons, List.contains_nil, Nat.reduceBEq, Bool.or_false, Bool.false_or, Bool.or_true, Bool.true_or, ↓reduceIte, Nat.reduceAdd, Bool.false_eq_true] at hA
            subst hA
            have f90 : us 90 = .bool true := hF 90 (by simp)
            clear hF he
            rw [f90]
            clear f90
            have hx2 := Hd.mk (hxV1.out.trans hxV2.out)
            have kA2 := Hd.mk (kAr.out.ext hx2.out)
            have kB2 := Hd.mk (kBr.out.ext hx2.out)
            have ho2 := Hd.mk (ho.out.ext hx2.out)
            have kcy2 := Hd.mk (fun (q : Nat) u hq => Ext.cell hx2.out (kcy.out q u hq))
            refine (show wpList _ _ _ [] _ _ from ?_)
            go_wp2_with fail
            obtain ⟨wy, hwy⟩ : ∃ wy, Hd (way ++ [(y.name, y.key)] = wy) := ⟨_, ⟨rfl⟩⟩
            refine Flow.wp_region_flow_l (fun qq => match qq with
              | 109 => SP.eq (.slice V es.length vc)
              | 110 => SP.eq (.slice A way.length c)
              | 111 => SP.eq (.pointer (some ⟨(pA + 1), 5, none⟩))
              | 112 => SP.eq (.slice (some ⟨b2, o2, none⟩) b.kids.length c2)
              | 113 => SP.eq (.int .i64 (k : Nat))
              | 114 => SP.eq (.pointer (some ⟨b2, o2 + k * 6, none⟩))
              | 115 => SP.eq (.agg #[.string y.name, .string y.key, .int .i64 y.kind, .int .u64 y.num, .string y.text, .slice K4 y.kids.length c4])
              | 116 => spWay wy V2.heap.size
              | 117 => SP.eq (.pointer (some ⟨(pA + 1), 5, none⟩))
              | 118 => SP.eq (.slice (some ⟨b2, o2, none⟩) b.kids.length c2)
              | 119 => SP.eq (.int .i64 (k : Nat))
              | 120 => SP.eq (.pointer (some ⟨b2, o2 + k * 6, none⟩))
              | 121 => SP.eq (.agg #[.string y.name, .string y.key, .int .i64 y.kind, .int .u64 y.num, .string y.text, .slice K4 y.kids.length c4])
              | 122 => spEdP (⟨1, wy, y, zeroT⟩ : E) (fun b => (S b ∧ b < w.heap.size) ∨ V2.heap.size ≤ b)
              | 123 => spEdsP (⟨1, wy, y, zeroT⟩ : E) (fun b => (S b ∧ b < w.heap.size) ∨ V2.heap.size ≤ b)
              | _ => SP.any) 15 (by kernel_rfl) 128 rfl (by kernel_rfl) ?_ ?_
            · skip
              refine ⟨?_, ?_, ?_, ?_, ?_, ?_, ?_, ?_, ?_, ?_, ?_, ?_, ?_, ?_, ?_, trivial⟩
              · intro act W2 hk
                refine Flow.does_intro rfl (fun Kq hK => ?_)
                have e7 : act.tmps[7]?.getD undef = .slice V es.length vc := hk.o 7 (by kernel_rfl)
                clear hk
                go_simp
                exact hK _ _ (Ext.refl _) (fun d hd => by cases hd; rfl)
              · intro act W2 hk
                refine Flow.does_intro rfl (fun Kq hK => ?_)
                have e2 : act.tmps[2]?.getD undef = .slice A way.length c := hk.o 2 (by kernel_rfl)
                clear hk
                go_simp
                exact hK _ _ (Ext.refl _) (fun d hd => by cases hd; rfl)
              · intro act W2 hk
                refine Flow.does_intro rfl (fun Kq hK => ?_)
                have e4 : act.tmps[4]?.getD undef = .pointer (some ⟨(pA + 1), 0, none⟩) := hk.o 4 (by kernel_rfl)
                clear hk
                go_simp
                exact hK _ _ (Ext.refl _) (fun d hd => by cases hd; rfl)
              · intro act W2 hk
                refine Flow.does_intro rfl (fun Kq hK => ?_)
                have e111 : act.tmps[111]?.getD undef = .pointer (some ⟨(pA + 1), 5, none⟩) := hk.v 111 (by kernel_rfl)
                have g := ((kB2.out).ext ((Ext.drew V2).trans hk.ext)).cell
                clear hk
                go_simp
                exact hK _ _ (Ext.refl _) (fun d hd => by cases hd; rfl)
              · intro act W2 hk
                refine Flow.does_intro rfl (fun Kq hK => ?_)
                have e9 : act.tmps[9]?.getD undef = .int .i64 (k : Nat) := hk.o 9 (by kernel_rfl)
                clear hk
                go_simp
                exact hK _ _ (Ext.refl _) (fun d hd => by cases hd; rfl)
              · intro act W2 hk
                refine Flow.does_intro rfl (fun Kq hK => ?_)
                have e112 : act.tmps[112]?.getD undef = .slice (some ⟨b2, o2, none⟩) b.kids.length c2 := hk.v 112 (by kernel_rfl)
                have e113 : act.tmps[113]?.getD undef = .int .i64 (k : Nat) := hk.v 113 (by kernel_rfl)
                clear hk
                go_simp
                exact hK _ _ (Ext.refl _) (fun d hd => by cases hd; rfl)
              · intro act W2 hk
                refine Flow.does_intro rfl (fun Kq hK => ?_)
                have e114 : act.tmps[114]?.getD undef = .pointer (some ⟨b2, o2 + k * 6, none⟩) := hk.v 114 (by kernel_rfl)
                have g0 := Ext.cell ((Ext.drew V2).trans hk.ext) ((kcy2.out) 0 _ rfl)
                rw [Nat.add_zero] at g0
                have g1 := Ext.cell ((Ext.drew V2).trans hk.ext) ((kcy2.out) 1 _ rfl)
                have g2 := Ext.cell ((Ext.drew V2).trans hk.ext) ((kcy2.out) 2 _ rfl)
                have g3 := Ext.cell ((Ext.drew V2).trans hk.ext) ((kcy2.out) 3 _ rfl)
                have g4 := Ext.cell ((Ext.drew V2).trans hk.ext) ((kcy2.out) 4 _ rfl)
                have g5 := Ext.cell ((Ext.drew V2).trans hk.ext) ((kcy2.out) 5 _ rfl)
                clear hk
                go_simp
                exact hK _ _ (Ext.refl _) (fun d hd => by cases hd; rfl)
              · intro act W2 hk
                refine Flow.does_intro rfl (fun Kq hK => ?_)
                have e110 : act.tmps[110]?.getD undef = .slice A way.length c := hk.v 110 (by kernel_rfl)
                have e115 : act.tmps[115]?.getD undef = .agg #[.string y.name, .string y.key, .int .i64 y.kind, .int .u64 y.num, .string y.text, .slice K4 y.kids.length c4] := hk.v 115 (by kernel_rfl)
                have hx0 := Hd.mk ((Ext.drew V2).trans hk.ext)
                have hsz0 := hx0.out.size
                have hon := Hd.mk (ref_way y K4 y.kids.length c4 kw.out (kx.out.trans (hxr.out.trans (hx2.out.trans hx0.out))) (by have := hwd.out; omega))
                rw [hwy.out] at hon
                clear hk
                go_simp
                refine Calls.mono (hon.out) ?_
                rintro e W3 ⟨_, rfl, A', c', rfl, hr', hx⟩
                exact hK _ _ hx (fun d hd => by cases hd; exact ⟨A', c', rfl, hr'.mono (fun b _ hb => Nat.le_trans hsz0 hb)⟩)
              · intro act W2 hk
                refine Flow.does_intro rfl (fun Kq hK => ?_)
                have e4 : act.tmps[4]?.getD undef = .pointer (some ⟨(pA + 1), 0, none⟩) := hk.o 4 (by kernel_rfl)
                clear hk
                go_simp
                exact hK _ _ (Ext.refl _) (fun d hd => by cases hd; rfl)
              · intro act W2 hk
                refine Flow.does_intro rfl (fun Kq hK => ?_)
                have e117 : act.tmps[117]?.getD undef = .pointer (some ⟨(pA + 1), 5, none⟩) := hk.v 117 (by kernel_rfl)
                have g := ((kB2.out).ext ((Ext.drew V2).trans hk.ext)).cell
                clear hk
                go_simp
                exact hK _ _ (Ext.refl _) (fun d hd => by cases hd; rfl)
              · intro act W2 hk
                refine Flow.does_intro rfl (fun Kq hK => ?_)
                have e9 : act.tmps[9]?.getD undef = .int .i64 (k : Nat) := hk.o 9 (by kernel_rfl)
                clear hk
                go_simp
                exact hK _ _ (Ext.refl _) (fun d hd => by cases hd; rfl)
              · intro act W2 hk
                refine Flow.does_intro rfl (fun Kq hK => ?_)
                have e118 : act.tmps[118]?.getD undef = .slice (some ⟨b2, o2, none⟩) b.kids.length c2 := hk.v 118 (by kernel_rfl)
                have e119 : act.tmps[119]?.getD undef = .int .i64 (k : Nat) := hk.v 119 (by kernel_rfl)
                clear hk
                go_simp
                exact hK _ _ (Ext.refl _) (fun d hd => by cases hd; rfl)
              · intro act W2 hk
                refine Flow.does_intro rfl (fun Kq hK => ?_)
                have e120 : act.tmps[120]?.getD undef = .pointer (some ⟨b2, o2 + k * 6, none⟩) := hk.v 120 (by kernel_rfl)
                have g0 := Ext.cell ((Ext.drew V2).trans hk.ext) ((kcy2.out) 0 _ rfl)
                rw [Nat.add_zero] at g0
                have g1 := Ext.cell ((Ext.drew V2).trans hk.ext) ((kcy2.out) 1 _ rfl)
                have g2 := Ext.cell ((Ext.drew V2).trans hk.ext) ((kcy2.out) 2 _ rfl)
                have g3 := Ext.cell ((Ext.drew V2).trans hk.ext) ((kcy2.out) 3 _ rfl)
                have g4 := Ext.cell ((Ext.drew V2).trans hk.ext) ((kcy2.out) 4 _ rfl)
                have g5 := Ext.cell ((Ext.drew V2).trans hk.ext) ((kcy2.out) 5 _ rfl)
                clear hk
                go_simp
                exact hK _ _ (Ext.refl _) (fun d hd => by cases hd; rfl)
              · intro act W2 hk
                refine Flow.does_intro rfl (fun Kq hK => ?_)
                have e121 : act.tmps[121]?.getD undef = .agg #[.string y.name, .string y.key, .int .i64 y.kind, .int .u64 y.num, .string y.text, .slice K4 y.kids.length c4] := hk.v 121 (by kernel_rfl)
                have hx0 := Hd.mk ((Ext.drew V2).trans hk.ext)
                obtain ⟨A', c', e116, h7⟩ := (hk.v 116 (by kernel_rfl) : (spWay _ _).p _ _)
                have h7 := Hd.mk h7
                clear hk
                go_simp
                exact hK _ _ (Ext.refl _) (fun d hd => by cases hd; exact ⟨_, rfl, A', c', K4, c4, none, 0, rfl, h7.out.mono (fun b _ hb => .inr hb), ((hr4.out.mono' (S' := fun b => (S b ∧ b < w.heap.size) ∨ V2.heap.size ≤ b) (fun b hb h => .inl ⟨h, hb⟩)).ext (kx.out.trans (hxr.out.trans (hx2.out.trans hx0.out)))), RRow.nil _ _ _ _ (fun _ => rfl)⟩)
              · intro act W2 hk
                refine Flow.does_intro rfl (fun Kq hK => ?_)
                obtain ⟨c', e122, h10⟩ := (hk.v 122 (by kernel_rfl) : (spEdP _ _).p _ _)
                have h10' := h10
                obtain ⟨q1, q2, q3, q4, q5, q6, rfl, _⟩ := h10'
                simp only [cT, List.cons_append, List.nil_append] at e122
                have h10 := Hd.mk h10
                clear hk
                go_simp
                exact hK _ _ (Ext.alloc _ _) (fun d hd => by cases hd; exact ⟨_, _, rfl, Blk.new _ _ _, h10.out.ext (Ext.alloc _ _)⟩)
            · intro act V9 he
              have hxV9 := Hd.mk ((Ext.drew V2).trans he.ext)
              obtain ⟨us, hA, hF⟩ := he.out [109, 110, 111, 112, 113, 114, 115, 116, 117, 118, 119, 120, 121, 122, 123] (by kernel_rfl)
              simp only [Flow.fillL, List.contains_cons, List.contains_nil, Nat.reduceBEq, Bool.or_false, Bool.false_or, Bool.or_true, Bool.true_or, ↓reduceIte, Nat.reduceAdd, Bool.false_eq_true] at hA
              subst hA
              have f109 : us 109 = .slice V es.length vc := hF 109 (by simp)
              have f123 : (spEdsP (⟨1, wy, y, zeroT⟩ : E) (fun b => (S b ∧ b < w.heap.size) ∨ V2.heap.size ≤ b)).p (us 123) V9 := hF 123 (by simp)
              clear hF he
              rw [f109]
              clear f109
              obtain ⟨D, c', e123, hD, hre⟩ := (f123 : (spEdsP _ _).p _ _)
              have hre' := hre
              obtain ⟨q1, q2, q3, q4, q5, q6, rfl, _⟩ := hre'
              have hD := Hd.mk hD
              have hre := Hd.mk hre
              generalize us 109 = u109 at *
              generalize us 110 = u110 at *
              generalize us 111 = u111 at *
              generalize us 112 = u112 at *
              generalize us 113 = u113 at *
              generalize us 114 = u114 at *
              generalize us 115 = u115 at *
              generalize us 116 = u116 at *
              generalize us 117 = u117 at *
              generalize us 118 = u118 at *
              generalize us 119 = u119 at *
              generalize us 120 = u120 at *
              generalize us 121 = u121 at *
              generalize us 122 = u122 at *
              generalize us 123 = u123 at *
              subst e123
              have hxf := Hd.mk (hx2.out.trans hxV9.out)
              have ho9 := Hd.mk (ho.out.ext hxf.out)
              have hs9 := Hd.mk (Nat.le_trans hxr.out.size hxf.out.size)
              refine (show wpList _ _ _ (⟨some 124, .call { callee := .builtin .append, args := #[.tmp 109, .tmp 123], argTypes := #[57, 57] }, _, _, _, none⟩ :: _) _ _ from ?_)
              refine wpl_append sl57 (by omega) (by omega) (.tmp 109) (.tmp 123) 124 _ _ _ W.heap.size (.slice V es.length vc) es.length css.flatten rfl ho9.out.own D 0 1 1 _ rfl (by rw [hre.out.len]) (fun i u hi => by rw [Nat.zero_add, hD.out.cell]; exact hi) hre.out.one (by have := hesb.out; omega) hs9.out ?_
              intro v' w' hown hgr hat
              obtain ⟨V', vc', rfl, _⟩ := own_slice hown
              have hp := Hd.mk (OutR.push1 (e := (⟨1, wy, y, zeroT⟩ : E)) ho9.out (hre.out.mono (fun b hb h => ⟨fun hh => by have h5 := own_base ho.out.own b hh; have h6 := own_lt ho.out.own b hh; have h7 := hx2.out.size; have h8 := hsz.out; have h9 := hpA.out; rcases h with h | h <;> omega, h.imp And.left (fun h => by have h7 := hx2.out.size; have h8 := hsz.out; have h9 := hpA.out; have h10 := hszr.out; omega)⟩)) hown hgr hat)
              have hx9 := Hd.mk (show Ext W w' from Below.grown (hxr.out.trans hxf.out) hgr hs9.out (own_base ho9.out.own))
              clear hown hgr hat gA gB hre hD
              go_wp2_with fail
              go_roundg (a.kids.length - a.kids.length + (b.kids.length - (k + 1)))
              case measure => have := hq.out; omega
              case rel => exact ⟨a.kids.length, k + 1, _, es ++ [(⟨1, wy, y, zeroT⟩ : E)], V', vc', by omega, by omega, ⟨rfl⟩, by rw [List.length_append]; rfl, by go_num, by go_num, ⟨by rw [List.length_append]; exact hp.out⟩, hx9, ⟨by rw [← hwy.out]; exact hL.out.next_y hy1.out (.inl (Nat.le_refl _))⟩⟩
      · have hkl : k = b.kids.length := by omega
        subst hkl
        go_wp2_with fail
        go_ret
        have ht := hL.out.tot
        rw [List.drop_length, List.drop_length, mergeE_none, List.append_nil] at ht
        subst ht
        exact ⟨_, rfl, css, ho.out.mono (by have := hsz.out; have := hpA.out; omega), kx.out.trans hxr.out⟩
theorem ref_edits_at : ∀ N, RefAt N
  | 0 => fun S w way A c a b ca cb hd _ _ _ _ _ => by rw [a.deep_eq] at hd; omega
  | N + 1 => ref_edits_step N (ref_edits_at N)

end Go.Proofs.Ytgkgedjmnbjalaa
