/- Texts that the law needs, joined.
   Conditions: none. -/
import Derived.Test.YtgkgedjmnbjalaaZeD
import Derived.Laws.EntriesVeiled
import Derived.Test.YtgkgedjmnbjalaaZeB
import Derived.Test.YtgkgedjmnbjalaaZeC
set_option linter.unusedSimpArgs false
namespace Go.Proofs.Ytgkgedjmnbjalaa
open Go.RowKit Go.Sort
theorem mergeE_x {one other : T → List E} {both : T → T → List E} (n : Nat) (x : T) (xs : List T) : mergeE one other both (n + 1) (x :: xs) [] = one x ++ mergeE one other both n xs [] := rfl
theorem mergeE_y {one other : T → List E} {both : T → T → List E} (n : Nat) (y : T) (ys : List T) : mergeE one other both (n + 1) [] (y :: ys) = other y ++ mergeE one other both n [] ys := rfl
theorem mergeE_lt {one other : T → List E} {both : T → T → List E} (n : Nat) {x y : T} (xs ys : List T) (h : lessT x y = true) : mergeE one other both (n + 1) (x :: xs) (y :: ys) = one x ++ mergeE one other both n xs (y :: ys) := by rw [mergeE, if_pos h]
theorem mergeE_gt {one other : T → List E} {both : T → T → List E} (n : Nat) {x y : T} (xs ys : List T) (h : lessT x y = false) (h2 : lessT y x = true) : mergeE one other both (n + 1) (x :: xs) (y :: ys) = other y ++ mergeE one other both n (x :: xs) ys := by rw [mergeE, if_neg (by rw [h]; decide), if_pos h2]
theorem mergeE_eq {one other : T → List E} {both : T → T → List E} (n : Nat) {x y : T} (xs ys : List T) (h : lessT x y = false) (h2 : lessT y x = false) : mergeE one other both (n + 1) (x :: xs) (y :: ys) = both x y ++ mergeE one other both n xs ys := by rw [mergeE, if_neg (by rw [h]; decide), if_neg (by rw [h2]; decide)]
theorem mergeE_none {one other : T → List E} {both : T → T → List E} : ∀ n, mergeE one other both n [] [] = []
  | 0 => rfl
  | _ + 1 => rfl
theorem mergeE_fuel {one other : T → List E} {both : T → T → List E} : ∀ (n m : Nat) (xs ys : List T), xs.length + ys.length ≤ n → xs.length + ys.length ≤ m → mergeE one other both n xs ys = mergeE one other both m xs ys
  | n, m, [], [], _, _ => by rw [mergeE_none, mergeE_none]
  | n + 1, m + 1, x :: xs, [], h1, h2 => by rw [mergeE_x, mergeE_x, mergeE_fuel n m xs [] (by simp at h1 ⊢; omega) (by simp at h2 ⊢; omega)]
  | n + 1, m + 1, [], y :: ys, h1, h2 => by rw [mergeE_y, mergeE_y, mergeE_fuel n m [] ys (by simp at h1 ⊢; omega) (by simp at h2 ⊢; omega)]
  | n + 1, m + 1, x :: xs, y :: ys, h1, h2 => by
    cases hl : lessT x y with
    | true => rw [mergeE_lt n xs ys hl, mergeE_lt m xs ys hl, mergeE_fuel n m xs (y :: ys) (by simp at h1 ⊢; omega) (by simp at h2 ⊢; omega)]
    | false =>
      cases hg : lessT y x with
      | true => rw [mergeE_gt n xs ys hl hg, mergeE_gt m xs ys hl hg, mergeE_fuel n m (x :: xs) ys (by simp at h1 ⊢; omega) (by simp at h2 ⊢; omega)]
      | false => rw [mergeE_eq n xs ys hl hg, mergeE_eq m xs ys hl hg, mergeE_fuel n m xs ys (by simp at h1 ⊢; omega) (by simp at h2 ⊢; omega)]
  | 0, _, x :: xs, _, h, _ => by simp at h
  | 0, _, [], y :: ys, h, _ => by simp at h
  | _ + 1, 0, x :: xs, _, _, h => by simp at h
  | _ + 1, 0, [], y :: ys, _, h => by simp at h
theorem sizeL_cons (x : T) (l : List T) : sizeL (x :: l) = x.size + sizeL l := rfl
theorem deepL_cons (x : T) (l : List T) : deepL (x :: l) = max x.deep (deepL l) := rfl
structure Left (N B : Nat) (wr : World) (way : List Step) (K1 K2 : Option Addr) (xs ys : List T) (n1 c1 n2 c2 : Nat) (esF es : List E) : Prop where
  r1 : RRow (· < B) wr K1 xs c1
  r2 : RRow (· < B) wr K2 ys c2
  l1 : n1 = xs.length
  l2 : n2 = ys.length
  tot : esF = es ++ mergeE (cutE way) (setE way) (bothE (edits N) way) (n1 + n2) xs ys
  deep : deepL xs ≤ N
  wl : way.length + 1 + deepL xs ≤ 1000000
  el : es.length + sizeL xs + sizeL ys ≤ 1000000
theorem RRow.tail' {S : Nat → Prop} {w : World} {b off : Nat} {x : T} {l : List T} {kc : Nat} (h : RRow S w (some ⟨b, off, none⟩) (x :: l) kc) : RRow S w (if kc = 1 then some ⟨b, off, none⟩ else some ⟨b, off + 6, none⟩) l (kc - 1) := by
  by_cases hk : kc = 1
  · subst hk
    have hc := h.cap
    have hl : l = [] := by cases l with
      | nil => rfl
      | cons y l => simp at hc
    subst hl
    exact RRow.nil _ _ _ _ (fun _ => rfl)
  · rw [if_neg hk]
    exact h.tail
theorem Left.next_x {N B : Nat} {wr w' : World} {way : List Step} {b1 o1 : Nat} {K2 : Option Addr} {x : T} {xs ys : List T} {n1 c1 n2 c2 : Nat} {esF es : List E} (h : Left N B wr way (some ⟨b1, o1, none⟩) K2 (x :: xs) ys n1 c1 n2 c2 esF es)
    (hk : ∀ K l c, RRow (· < B) wr K l c → RRow (· < B) w' K l c) (hm : ∀ n, mergeE (cutE way) (setE way) (bothE (edits N) way) (n + 1) (x :: xs) ys = cutE way x ++ mergeE (cutE way) (setE way) (bothE (edits N) way) n xs ys) :
    Left N B w' way (if c1 = 1 then some ⟨b1, o1, none⟩ else some ⟨b1, o1 + 6, none⟩) K2 xs ys (n1 - 1) (c1 - 1) n2 c2 esF (es ++ cutE way x) := by
  have hl := h.l1
  have hd := h.deep
  have hw := h.wl
  have he := h.el
  have hs := size_pos x
  rw [sizeL_cons] at he
  rw [deepL_cons] at hd hw
  refine ⟨(hk _ _ _ h.r1).tail', hk _ _ _ h.r2, by simp at hl; omega, h.l2, ?_, by omega, by omega, by simp [cutE]; omega⟩
  rw [h.tot, show n1 + n2 = (n1 - 1 + n2) + 1 by simp at hl; omega, hm, List.append_assoc]
theorem Left.next_y {N B : Nat} {wr w' : World} {way : List Step} {b2 o2 : Nat} {K1 : Option Addr} {y : T} {xs ys : List T} {n1 c1 n2 c2 : Nat} {esF es : List E} (h : Left N B wr way K1 (some ⟨b2, o2, none⟩) xs (y :: ys) n1 c1 n2 c2 esF es)
    (hk : ∀ K l c, RRow (· < B) wr K l c → RRow (· < B) w' K l c) (hm : ∀ n, mergeE (cutE way) (setE way) (bothE (edits N) way) (n + 1) xs (y :: ys) = setE way y ++ mergeE (cutE way) (setE way) (bothE (edits N) way) n xs ys) :
    Left N B w' way K1 (if c2 = 1 then some ⟨b2, o2, none⟩ else some ⟨b2, o2 + 6, none⟩) xs ys n1 c1 (n2 - 1) (c2 - 1) esF (es ++ setE way y) := by
  have hl := h.l2
  have he := h.el
  have hs := size_pos y
  rw [sizeL_cons y ys] at he
  refine ⟨hk _ _ _ h.r1, (hk _ _ _ h.r2).tail', h.l1, by simp at hl; omega, ?_, h.deep, h.wl, by simp [setE]; omega⟩
  rw [h.tot, show n1 + n2 = (n1 + (n2 - 1)) + 1 by simp at hl; omega, hm, List.append_assoc]
theorem Left.next_b {N B : Nat} {wr w' : World} {way : List Step} {b1 o1 b2 o2 : Nat} {x y : T} {xs ys : List T} {n1 c1 n2 c2 : Nat} {esF es : List E} (h : Left N B wr way (some ⟨b1, o1, none⟩) (some ⟨b2, o2, none⟩) (x :: xs) (y :: ys) n1 c1 n2 c2 esF es)
    (hk : ∀ K l c, RRow (· < B) wr K l c → RRow (· < B) w' K l c) (hxy : lessT x y = false) (hyx : lessT y x = false) :
    Left N B w' way (if c1 = 1 then some ⟨b1, o1, none⟩ else some ⟨b1, o1 + 6, none⟩) (if c2 = 1 then some ⟨b2, o2, none⟩ else some ⟨b2, o2 + 6, none⟩) xs ys (n1 - 1) (c1 - 1) (n2 - 1) (c2 - 1) esF (es ++ bothE (edits N) way x y) := by
  have hl := h.l1
  have hl2 := h.l2
  have hd := h.deep
  have hw := h.wl
  have he := h.el
  have hs := bothE_len (edits_len N) way x y
  rw [sizeL_cons, sizeL_cons] at he
  rw [deepL_cons] at hd hw
  refine ⟨(hk _ _ _ h.r1).tail', (hk _ _ _ h.r2).tail', by simp at hl; omega, by simp at hl2; omega, ?_, by omega, by omega, by simp; omega⟩
  rw [h.tot, show n1 + n2 = (n1 + n2 - 1) + 1 by simp at hl; omega, mergeE_eq _ xs ys hxy hyx, List.append_assoc,
    mergeE_fuel (n1 + n2 - 1) (n1 - 1 + (n2 - 1)) xs ys (by simp at hl hl2; omega) (by simp at hl hl2; omega)]
theorem Left.ext {N B : Nat} {wr w' : World} {way : List Step} {K1 K2 : Option Addr} {xs ys : List T} {n1 c1 n2 c2 : Nat} {esF es : List E} (hx : Ext wr w') (h : Left N B wr way K1 K2 xs ys n1 c1 n2 c2 esF es) : Left N B w' way K1 K2 xs ys n1 c1 n2 c2 esF es :=
  ⟨h.r1.ext hx, h.r2.ext hx, h.l1, h.l2, h.tot, h.deep, h.wl, h.el⟩
theorem tree_less' (a b : T) (K1 K2 : Option Addr) (n1 c1 n2 c2 : Nat) (w : World) :
    Calls Try.prog 66 #[.agg #[.string a.name, .string a.key, .int .i64 a.kind, .int .u64 a.num, .string a.text, .slice K1 n1 c1], .agg #[.string b.name, .string b.key, .int .i64 b.kind, .int .u64 b.num, .string b.text, .slice K2 n2 c2]] w fun e w' => e = .returned (.bool (lessT a b)) ∧ Ext w w' := tree_less a b K1 K2 n1 c1 n2 c2 w
set_option maxRecDepth 100000 in
set_option maxHeartbeats 8000000 in
theorem pairs_any (N : Nat) (ih0 : EditsAt N) {B O Wy Cb Sb Ed : Nat} {w : World} {v : Value} {css : List (List Value)} {es esF : List E} {way : List Step} {A : Option Addr} {ac : Nat} {K1 K2 : Option Addr} {xs ys : List T} {n1 c1 n2 c2 : Nat} (h : Env2 B O Wy Cb Sb Ed w v css es way A ac)
    (hl : Left N B w way K1 K2 xs ys n1 c1 n2 c2 esF es) :
    Calls Try.prog 98 #[.slice K1 n1 c1, .slice K2 n2 c2, .func (.func 94) #[] #[.pointer (some ⟨O, 0, none⟩), .pointer (some ⟨Wy, 0, none⟩)], .func (.func 97) #[] #[.pointer (some ⟨O, 0, none⟩), .pointer (some ⟨Wy, 0, none⟩)],
      .func (.func 99) #[] #[.pointer (some ⟨O, 0, none⟩), .pointer (some ⟨Wy, 0, none⟩), .pointer (some ⟨Cb, 0, none⟩), .pointer (some ⟨Sb, 0, none⟩), .pointer (some ⟨Ed, 0, none⟩)]] w
      fun e w' => e = .returned (.tuple #[]) ∧ Laid B O w v esF w' := by
  have ih := Hd.mk ih0
  have kh := Hd.mk h
  have kl := Hd.mk hl
  clear h hl ih0
  go_enter Try.func98, Try.ntmps98
  go_wp2_with fail
  go_loopg [0, 1] (n1 + n2) (fun q a b wr => ∃ (xs ys : List T) (A1 : Option Addr) (m1 a1 : Nat) (A2 : Option Addr) (m2 a2 : Nat) (v' : Value) (css' : List (List Value)) (es' : List E), Hd (q = m1 + m2) ∧ a = .slice A1 m1 a1 ∧ b = .slice A2 m2 a2 ∧
    Hd (Left N B wr way A1 A2 xs ys m1 a1 m2 a2 esF es') ∧ Hd (Env2 B O Wy Cb Sb Ed wr v' css' es' way A ac) ∧ Hd (Fr O w v wr v'))
  case atStart => exact ⟨xs, ys, K1, n1, c1, K2, n2, c2, v, css, es, ⟨rfl⟩, rfl, rfl, kl, kh, ⟨Fr.refl _ _ _⟩⟩
  case round =>
  clear kl kh
  obtain ⟨xs, ys, A1, m1, a1, A2, m2, a2, v', css', es', hq, rfl, rfl, kl, kh, kf⟩ := hrel
  have hm1 := kl.out.l1
  have hm2 := kl.out.l2
  have hb1 := kl.out.r1.len
  have hb2 := kl.out.r2.len
  rw [← hm1] at hb1
  rw [← hm2] at hb2
  replace hm1 := Hd.mk hm1
  replace hm2 := Hd.mk hm2
  rcases Nat.eq_zero_or_pos m1 with h1 | h1
  · subst h1
    obtain rfl : xs = [] := List.eq_nil_of_length_eq_zero hm1.out.symm
    rcases Nat.eq_zero_or_pos m2 with h2 | h2
    · subst h2
      obtain rfl : ys = [] := List.eq_nil_of_length_eq_zero hm2.out.symm
      go_wp2_with fail
      go_end0
      exact ⟨rfl, v', css', by rw [kl.out.tot, mergeE_none, List.append_nil]; exact kh.out.env.outs, kf.out⟩
    · obtain ⟨y, ys, rfl⟩ := List.exists_cons_of_length_pos (l := ys) (by rw [← hm2.out]; exact h2)
      obtain ⟨b2, o2, d, rfl, _, hrd, hdk⟩ := kl.out.r2.head
      obtain ⟨K4, c4, rfl, _⟩ := hrd.row
      have hca2 : m2 ≤ a2 := by have := kl.out.r2.cap; have := hm2.out; omega
      have hi2 : (1 : Int) ≤ (m2 : Int) := by omega
      obtain ⟨f0, f1, f2, f3, f4, f5⟩ := six (Ext.refl wr) hdk
      have kcy := Hd.mk hdk
      have hrd := Hd.mk hrd
      clear hdk
      simp only [cT] at kcy hrd
      go_wp2_with fail
      refine Flow.wp_region_flow_l (fun qq => match qq with
        | 31 => SP.eq (.slice (some ⟨b2, o2, none⟩) m2 a2)
        | 32 => SP.eq (.int .i64 (m2 : Nat))
        | 33 => SP.eq (.bool false)
        | 34 => SP.eq (.bool false)
        | 35 => SP.eq (.slice A1 0 a1)
        | 36 => SP.eq (.int .i64 0)
        | 37 => SP.eq (.bool false)
        | 38 => SP.eq (.bool false)
        | 39 => SP.eq (undef)
        | 40 => SP.eq (undef)
        | 41 => SP.eq (undef)
        | 42 => SP.eq (undef)
        | 43 => SP.eq (undef)
        | 44 => SP.eq (undef)
        | 45 => SP.eq (undef)
        | 46 => SP.eq (.bool false)
        | 47 => SP.eq (.bool false)
        | 30 => SP.eq (.bool false)
        | _ => SP.any) 18 (by kernel_rfl) 75 rfl (by kernel_rfl) ?_ ?_
      · skip
        refine ⟨?_, ?_, ?_, ?_, ?_, ?_, ?_, ?_, ?_, ?_, ?_, ?_, ?_, ?_, ?_, ?_, ?_, ?_, trivial⟩
        · intro act W2 hk
          refine Flow.does_intro rfl (fun Kq hK => ?_)
          have e1 : act.tmps[1]?.getD undef = .slice (some ⟨b2, o2, none⟩) m2 a2 := hk.o 1 (by kernel_rfl)
          clear hk
          go_simp
          exact hK _ _ (Ext.refl _) (fun d hd => by cases hd; rfl)
        · intro act W2 hk
          refine Flow.does_intro rfl (fun Kq hK => ?_)
          have e31 : act.tmps[31]?.getD undef = .slice (some ⟨b2, o2, none⟩) m2 a2 := hk.v 31 (by kernel_rfl)
          clear hk
          go_simp
          exact hK _ _ (Ext.refl _) (fun d hd => by cases hd; rfl)
        · intro act W2 hk
          refine Flow.does_intro rfl (fun Kq hK => ?_)
          have e32 : act.tmps[32]?.getD undef = .int .i64 (m2 : Nat) := hk.v 32 (by kernel_rfl)
          clear hk
          go_simp
          exact hK _ _ (Ext.refl _) (fun d hd => by cases hd; first | rfl | (simp [SP.eq]; omega))
        · intro act W2 hk
          refine Flow.does_intro rfl (fun Kq hK => ?_)
          have e33 : act.tmps[33]?.getD undef = .bool false := hk.v 33 (by kernel_rfl)
          clear hk
          go_simp
          exact hK _ _ (Ext.refl _) (fun d hd => by cases hd; rfl)
        · intro act W2 hk
          have eg : act.tmps[34]?.getD undef = .bool false := hk.v 34 (by kernel_rfl)
          refine Flow.does_intro (wanted_yes rfl rfl eg) (fun Kq hK => ?_)
          clear eg
          have e0 : act.tmps[0]?.getD undef = .slice A1 0 a1 := hk.o 0 (by kernel_rfl)
          clear hk
          go_simp
          exact hK _ _ (Ext.refl _) (fun d hd => by cases hd; rfl)
        · intro act W2 hk
          have eg : act.tmps[34]?.getD undef = .bool false := hk.v 34 (by kernel_rfl)
          refine Flow.does_intro (wanted_yes rfl rfl eg) (fun Kq hK => ?_)
          clear eg
          have e35 : act.tmps[35]?.getD undef = .slice A1 0 a1 := hk.v 35 (by kernel_rfl)
          clear hk
          go_simp
          exact hK _ _ (Ext.refl _) (fun d hd => by cases hd; rfl)
        · intro act W2 hk
          have eg : act.tmps[34]?.getD undef = .bool false := hk.v 34 (by kernel_rfl)
          refine Flow.does_intro (wanted_yes rfl rfl eg) (fun Kq hK => ?_)
          clear eg
          have e36 : act.tmps[36]?.getD undef = .int .i64 0 := hk.v 36 (by kernel_rfl)
          clear hk
          go_simp
          exact hK _ _ (Ext.refl _) (fun d hd => by cases hd; first | rfl | (simp [SP.eq]; omega))
        · intro act W2 hk
          have eg : act.tmps[34]?.getD undef = .bool false := hk.v 34 (by kernel_rfl)
          refine Flow.does_intro (wanted_yes rfl rfl eg) (fun Kq hK => ?_)
          clear eg
          have e37 : act.tmps[37]?.getD undef = .bool false := hk.v 37 (by kernel_rfl)
          clear hk
          go_simp
          exact hK _ _ (Ext.refl _) (fun d hd => by cases hd; rfl)
        · intro act W2 hk
          have eg : act.tmps[38]?.getD undef = .bool false := hk.v 38 (by kernel_rfl)
          exact Flow.does_skip (wanted_no rfl rfl eg) (fun d hd => by cases hd; rfl)
        · intro act W2 hk
          have eg : act.tmps[38]?.getD undef = .bool false := hk.v 38 (by kernel_rfl)
          exact Flow.does_skip (wanted_no rfl rfl eg) (fun d hd => by cases hd; rfl)
        · intro act W2 hk
          have eg : act.tmps[38]?.getD undef = .bool false := hk.v 38 (by kernel_rfl)
          exact Flow.does_skip (wanted_no rfl rfl eg) (fun d hd => by cases hd; rfl)
        · intro act W2 hk
          have eg : act.tmps[38]?.getD undef = .bool false := hk.v 38 (by kernel_rfl)
          exact Flow.does_skip (wanted_no rfl rfl eg) (fun d hd => by cases hd; rfl)
        · intro act W2 hk
          have eg : act.tmps[38]?.getD undef = .bool false := hk.v 38 (by kernel_rfl)
          exact Flow.does_skip (wanted_no rfl rfl eg) (fun d hd => by cases hd; rfl)
        · intro act W2 hk
          have eg : act.tmps[38]?.getD undef = .bool false := hk.v 38 (by kernel_rfl)
          exact Flow.does_skip (wanted_no rfl rfl eg) (fun d hd => by cases hd; rfl)
        · intro act W2 hk
          have eg : act.tmps[38]?.getD undef = .bool false := hk.v 38 (by kernel_rfl)
          exact Flow.does_skip (wanted_no rfl rfl eg) (fun d hd => by cases hd; rfl)
        · intro act W2 hk
          have eg : act.tmps[34]?.getD undef = .bool false := hk.v 34 (by kernel_rfl)
          refine Flow.does_intro (wanted_yes rfl rfl eg) (fun Kq hK => ?_)
          clear eg
          have e38 : act.tmps[38]?.getD undef = .bool false := hk.v 38 (by kernel_rfl)
          clear hk
          go_simp
          exact hK _ _ (Ext.refl _) (fun d hd => by cases hd; rfl)
        · intro act W2 hk
          refine Flow.does_intro rfl (fun Kq hK => ?_)
          have e34 : act.tmps[34]?.getD undef = .bool false := hk.v 34 (by kernel_rfl)
          have e46 : act.tmps[46]?.getD undef = .bool false := hk.v 46 (by kernel_rfl)
          clear hk
          go_simp
          exact hK _ _ (Ext.refl _) (fun d hd => by cases hd; rfl)
        · intro act W2 hk
          refine Flow.does_intro rfl (fun Kq hK => ?_)
          have e47 : act.tmps[47]?.getD undef = .bool false := hk.v 47 (by kernel_rfl)
          clear hk
          go_simp
          exact hK _ _ (Ext.refl _) (fun d hd => by cases hd; rfl)
      · intro act V1 he
        have hxV1 := Hd.mk ((Ext.drew wr).trans he.ext)
        obtain ⟨us, hA, hF⟩ := he.out [31, 32, 33, 34, 35, 36, 37, 38, 39, 40, 41, 42, 43, 44, 45, 46, 47, 30] (by kernel_rfl)
        simp only [Flow.fillL, List.contains_cons, List.contains_nil, Nat.reduceBEq, Bool.or_false, Bool.false_or, Bool.or_true, Bool.true_or, ↓reduceIte, Nat.reduceAdd, Bool.false_eq_true] at hA
        subst hA
        have f30 : us 30 = .bool false := hF 30 (by simp)
        clear hF he
        rw [f30]
        clear f30
        refine (show wpList _ _ _ [] _ _ from ?_)
        go_wp2_with fail
        have kcy1 := Hd.mk (fun (q : Nat) u hq => Ext.cell hxV1.out (kcy.out q u hq))
        refine Flow.wp_region_flow_l (fun qq => match qq with
          | 56 => SP.eq (.slice A1 0 a1)
          | 57 => SP.eq (.int .i64 0)
          | 58 => SP.eq (.bool true)
          | 59 => SP.eq (.bool true)
          | 60 => SP.eq (undef)
          | 61 => SP.eq (undef)
          | 62 => SP.eq (undef)
          | 63 => SP.eq (undef)
          | 64 => SP.eq (undef)
          | 65 => SP.eq (undef)
          | 66 => SP.eq (undef)
          | 67 => SP.eq (.bool true)
          | 55 => SP.eq (.bool true)
          | _ => SP.any) 13 (by kernel_rfl) 75 rfl (by kernel_rfl) ?_ ?_
        · skip
          refine ⟨?_, ?_, ?_, ?_, ?_, ?_, ?_, ?_, ?_, ?_, ?_, ?_, ?_, trivial⟩
          · intro act W2 hk
            refine Flow.does_intro rfl (fun Kq hK => ?_)
            have e0 : act.tmps[0]?.getD undef = .slice A1 0 a1 := hk.o 0 (by kernel_rfl)
            clear hk
            go_simp
            exact hK _ _ (Ext.refl _) (fun d hd => by cases hd; rfl)
          · intro act W2 hk
            refine Flow.does_intro rfl (fun Kq hK => ?_)
            have e56 : act.tmps[56]?.getD undef = .slice A1 0 a1 := hk.v 56 (by kernel_rfl)
            clear hk
            go_simp
            exact hK _ _ (Ext.refl _) (fun d hd => by cases hd; rfl)
          · intro act W2 hk
            refine Flow.does_intro rfl (fun Kq hK => ?_)
            have e57 : act.tmps[57]?.getD undef = .int .i64 0 := hk.v 57 (by kernel_rfl)
            clear hk
            go_simp
            exact hK _ _ (Ext.refl _) (fun d hd => by cases hd; first | rfl | (simp [SP.eq]; omega))
          · intro act W2 hk
            refine Flow.does_intro rfl (fun Kq hK => ?_)
            have e58 : act.tmps[58]?.getD undef = .bool true := hk.v 58 (by kernel_rfl)
            clear hk
            go_simp
            exact hK _ _ (Ext.refl _) (fun d hd => by cases hd; rfl)
          · intro act W2 hk
            have eg : act.tmps[59]?.getD undef = .bool true := hk.v 59 (by kernel_rfl)
            exact Flow.does_skip (wanted_no rfl rfl eg) (fun d hd => by cases hd; rfl)
          · intro act W2 hk
            have eg : act.tmps[59]?.getD undef = .bool true := hk.v 59 (by kernel_rfl)
            exact Flow.does_skip (wanted_no rfl rfl eg) (fun d hd => by cases hd; rfl)
          · intro act W2 hk
            have eg : act.tmps[59]?.getD undef = .bool true := hk.v 59 (by kernel_rfl)
            exact Flow.does_skip (wanted_no rfl rfl eg) (fun d hd => by cases hd; rfl)
          · intro act W2 hk
            have eg : act.tmps[59]?.getD undef = .bool true := hk.v 59 (by kernel_rfl)
            exact Flow.does_skip (wanted_no rfl rfl eg) (fun d hd => by cases hd; rfl)
          · intro act W2 hk
            have eg : act.tmps[59]?.getD undef = .bool true := hk.v 59 (by kernel_rfl)
            exact Flow.does_skip (wanted_no rfl rfl eg) (fun d hd => by cases hd; rfl)
          · intro act W2 hk
            have eg : act.tmps[59]?.getD undef = .bool true := hk.v 59 (by kernel_rfl)
            exact Flow.does_skip (wanted_no rfl rfl eg) (fun d hd => by cases hd; rfl)
          · intro act W2 hk
            have eg : act.tmps[59]?.getD undef = .bool true := hk.v 59 (by kernel_rfl)
            exact Flow.does_skip (wanted_no rfl rfl eg) (fun d hd => by cases hd; rfl)
          · intro act W2 hk
            refine Flow.does_intro rfl (fun Kq hK => ?_)
            have e59 : act.tmps[59]?.getD undef = .bool true := hk.v 59 (by kernel_rfl)
            clear hk
            go_simp
            exact hK _ _ (Ext.refl _) (fun d hd => by cases hd; rfl)
          · intro act W2 hk
            refine Flow.does_intro rfl (fun Kq hK => ?_)
            have e67 : act.tmps[67]?.getD undef = .bool true := hk.v 67 (by kernel_rfl)
            clear hk
            go_simp
            exact hK _ _ (Ext.refl _) (fun d hd => by cases hd; rfl)
        · intro act V2 he
          have hxV2 := Hd.mk ((Ext.drew V1).trans he.ext)
          obtain ⟨us, hA, hF⟩ := he.out [56, 57, 58, 59, 60, 61, 62, 63, 64, 65, 66, 67, 55] (by kernel_rfl)
          simp only [Flow.fillL, List.contains_cons, List.contains_nil, Nat.reduceBEq, Bool.or_false, Bool.false_or, Bool.or_true, Bool.true_or, ↓reduceIte, Nat.reduceAdd, Bool.false_eq_true] at hA
          subst hA
          have f55 : us 55 = .bool true := hF 55 (by simp)
          clear hF he
          rw [f55]
          clear f55
          have hx2 := Hd.mk (hxV1.out.trans hxV2.out)
          have kh2 := Hd.mk (kh.out.ext hx2.out)
          have kcy2 := Hd.mk (fun (q : Nat) u hq => Ext.cell hx2.out (kcy.out q u hq))
          have hrd2 := Hd.mk (hrd.out.ext hx2.out)
          obtain ⟨f0, f1, f2, f3, f4, f5⟩ := six (Ext.refl _) kcy2.out
          refine (show wpList _ _ _ [] _ _ from ?_)
          go_wp2_with fail
          refine Calls.mono (set_any kh2.out.env hrd2.out (by have := kl.out.wl; omega) (by have := kl.out.el; have h9 := sizeL_cons y ys; have := size_pos y; omega)) ?_
          rintro e w5 ⟨rfl, v5, css5, ho5, hf5⟩
          have kh5 := Hd.mk (kh2.out.fr ho5 hf5)
          have kf5 := Hd.mk ((kf.out.trans (Fr.of_ext hx2.out)).trans hf5)
          have kl5 := Hd.mk (kl.out.next_y (w' := w5) (fun _ _ _ h => kh2.out.argr hf5 (h.ext hx2.out)) (fun n => mergeE_y n y ys))
          clear ho5 hf5 f0 f1 f2 f3 f4 f5 kcy2 hrd2 kh2
          by_cases ha : a2 = 1
          · subst ha
            obtain rfl : m2 = 1 := by omega
            go_wp2_with fail
            go_roundg (0 + 0)
            case measure => have := hq.out; omega
            case rel => exact ⟨_, ys, _, 0, _, _, 0, _, v5, css5, _, ⟨rfl⟩, rfl, rfl, kl5, kh5, kf5⟩
          · have kl6 := kl5.out
            rw [if_neg ha] at kl6
            have kl6 := Hd.mk kl6
            go_wp2_with fail
            go_roundg (0 + (m2 - 1))
            case measure => have := hq.out; omega
            case rel => exact ⟨_, ys, _, 0, _, _, m2 - 1, _, v5, css5, _, ⟨rfl⟩, rfl, rfl, kl6, kh5, kf5⟩
  · obtain ⟨x, xs, rfl⟩ := List.exists_cons_of_length_pos (l := xs) (by rw [← hm1.out]; exact h1)
    obtain ⟨b1, o1, c, rfl, _, hrc, hck⟩ := kl.out.r1.head
    obtain ⟨K3, c3, rfl, _⟩ := hrc.row
    have hca1 : m1 ≤ a1 := by have := kl.out.r1.cap; have := hm1.out; omega
    have hi1 : (1 : Int) ≤ (m1 : Int) := by omega
    have kcx := Hd.mk hck
    have hrc := Hd.mk hrc
    clear hck
    simp only [cT] at kcx hrc
    rcases Nat.eq_zero_or_pos m2 with h2 | h2
    · subst h2
      obtain rfl : ys = [] := List.eq_nil_of_length_eq_zero hm2.out.symm
      go_wp2_with fail
      refine Flow.wp_region_flow_l (fun qq => match qq with
        | 31 => SP.eq (.slice A2 0 a2)
        | 32 => SP.eq (.int .i64 0)
        | 33 => SP.eq (.bool true)
        | 34 => SP.eq (.bool true)
        | 35 => SP.eq (undef)
        | 36 => SP.eq (undef)
        | 37 => SP.eq (undef)
        | 38 => SP.eq (undef)
        | 39 => SP.eq (undef)
        | 40 => SP.eq (undef)
        | 41 => SP.eq (undef)
        | 42 => SP.eq (undef)
        | 43 => SP.eq (undef)
        | 44 => SP.eq (undef)
        | 45 => SP.eq (undef)
        | 46 => SP.eq (undef)
        | 47 => SP.eq (.bool true)
        | 30 => SP.eq (.bool true)
        | _ => SP.any) 18 (by kernel_rfl) 75 rfl (by kernel_rfl) ?_ ?_
      · skip
        refine ⟨?_, ?_, ?_, ?_, ?_, ?_, ?_, ?_, ?_, ?_, ?_, ?_, ?_, ?_, ?_, ?_, ?_, ?_, trivial⟩
        · intro act W2 hk
          refine Flow.does_intro rfl (fun Kq hK => ?_)
          have e1 : act.tmps[1]?.getD undef = .slice A2 0 a2 := hk.o 1 (by kernel_rfl)
          clear hk
          go_simp
          exact hK _ _ (Ext.refl _) (fun d hd => by cases hd; rfl)
        · intro act W2 hk
          refine Flow.does_intro rfl (fun Kq hK => ?_)
          have e31 : act.tmps[31]?.getD undef = .slice A2 0 a2 := hk.v 31 (by kernel_rfl)
          clear hk
          go_simp
          exact hK _ _ (Ext.refl _) (fun d hd => by cases hd; rfl)
        · intro act W2 hk
          refine Flow.does_intro rfl (fun Kq hK => ?_)
          have e32 : act.tmps[32]?.getD undef = .int .i64 0 := hk.v 32 (by kernel_rfl)
          clear hk
          go_simp
          exact hK _ _ (Ext.refl _) (fun d hd => by cases hd; first | rfl | (simp [SP.eq]; omega))
        · intro act W2 hk
          refine Flow.does_intro rfl (fun Kq hK => ?_)
          have e33 : act.tmps[33]?.getD undef = .bool true := hk.v 33 (by kernel_rfl)
          clear hk
          go_simp
          exact hK _ _ (Ext.refl _) (fun d hd => by cases hd; rfl)
        · intro act W2 hk
          have eg : act.tmps[34]?.getD undef = .bool true := hk.v 34 (by kernel_rfl)
          exact Flow.does_skip (wanted_no rfl rfl eg) (fun d hd => by cases hd; rfl)
        · intro act W2 hk
          have eg : act.tmps[34]?.getD undef = .bool true := hk.v 34 (by kernel_rfl)
          exact Flow.does_skip (wanted_no rfl rfl eg) (fun d hd => by cases hd; rfl)
        · intro act W2 hk
          have eg : act.tmps[34]?.getD undef = .bool true := hk.v 34 (by kernel_rfl)
          exact Flow.does_skip (wanted_no rfl rfl eg) (fun d hd => by cases hd; rfl)
        · intro act W2 hk
          have eg : act.tmps[34]?.getD undef = .bool true := hk.v 34 (by kernel_rfl)
          exact Flow.does_skip (wanted_no rfl rfl eg) (fun d hd => by cases hd; rfl)
        · intro act W2 hk
          have eg : act.tmps[38]?.getD undef = undef := hk.v 38 (by kernel_rfl)
          exact Flow.does_skip (wanted_off rfl rfl eg) (fun d hd => by cases hd; rfl)
        · intro act W2 hk
          have eg : act.tmps[38]?.getD undef = undef := hk.v 38 (by kernel_rfl)
          exact Flow.does_skip (wanted_off rfl rfl eg) (fun d hd => by cases hd; rfl)
        · intro act W2 hk
          have eg : act.tmps[38]?.getD undef = undef := hk.v 38 (by kernel_rfl)
          exact Flow.does_skip (wanted_off rfl rfl eg) (fun d hd => by cases hd; rfl)
        · intro act W2 hk
          have eg : act.tmps[38]?.getD undef = undef := hk.v 38 (by kernel_rfl)
          exact Flow.does_skip (wanted_off rfl rfl eg) (fun d hd => by cases hd; rfl)
        · intro act W2 hk
          have eg : act.tmps[38]?.getD undef = undef := hk.v 38 (by kernel_rfl)
          exact Flow.does_skip (wanted_off rfl rfl eg) (fun d hd => by cases hd; rfl)
        · intro act W2 hk
          have eg : act.tmps[38]?.getD undef = undef := hk.v 38 (by kernel_rfl)
          exact Flow.does_skip (wanted_off rfl rfl eg) (fun d hd => by cases hd; rfl)
        · intro act W2 hk
          have eg : act.tmps[38]?.getD undef = undef := hk.v 38 (by kernel_rfl)
          exact Flow.does_skip (wanted_off rfl rfl eg) (fun d hd => by cases hd; rfl)
        · intro act W2 hk
          have eg : act.tmps[34]?.getD undef = .bool true := hk.v 34 (by kernel_rfl)
          exact Flow.does_skip (wanted_no rfl rfl eg) (fun d hd => by cases hd; rfl)
        · intro act W2 hk
          refine Flow.does_intro rfl (fun Kq hK => ?_)
          have e34 : act.tmps[34]?.getD undef = .bool true := hk.v 34 (by kernel_rfl)
          clear hk
          go_simp
          exact hK _ _ (Ext.refl _) (fun d hd => by cases hd; rfl)
        · intro act W2 hk
          refine Flow.does_intro rfl (fun Kq hK => ?_)
          have e47 : act.tmps[47]?.getD undef = .bool true := hk.v 47 (by kernel_rfl)
          clear hk
          go_simp
          exact hK _ _ (Ext.refl _) (fun d hd => by cases hd; rfl)
      · intro act V2 he
        have hxV2 := Hd.mk ((Ext.drew wr).trans he.ext)
        obtain ⟨us, hA, hF⟩ := he.out [31, 32, 33, 34, 35, 36, 37, 38, 39, 40, 41, 42, 43, 44, 45, 46, 47, 30] (by kernel_rfl)
        simp only [Flow.fillL, List.contains_cons, List.contains_nil, Nat.reduceBEq, Bool.or_false, Bool.false_or, Bool.or_true, Bool.true_or, ↓reduceIte, Nat.reduceAdd, Bool.false_eq_true] at hA
        subst hA
        have f30 : us 30 = .bool true := hF 30 (by simp)
        clear hF he
        rw [f30]
        clear f30
        have kh2 := Hd.mk (kh.out.ext hxV2.out)
        have kcx2 := Hd.mk (fun (q : Nat) u hq => Ext.cell hxV2.out (kcx.out q u hq))
        have hrc2 := Hd.mk (hrc.out.ext hxV2.out)
        obtain ⟨e0, e1, e2, e3, e4, e5⟩ := six (Ext.refl _) kcx2.out
        refine (show wpList _ _ _ [] _ _ from ?_)
        go_wp2_with fail
        refine Calls.mono (cut_any kh2.out.env hrc2.out (by have := kl.out.wl; omega) (by have := kl.out.el; rw [sizeL_cons] at this; have := size_pos x; omega)) ?_
        rintro e w5 ⟨rfl, v5, css5, ho5, hf5⟩
        have kh5 := Hd.mk (kh2.out.fr ho5 hf5)
        have kf5 := Hd.mk ((kf.out.trans (Fr.of_ext hxV2.out)).trans hf5)
        have kl5 := Hd.mk (kl.out.next_x (w' := w5) (fun _ _ _ h => kh2.out.argr hf5 (h.ext hxV2.out)) (fun n => mergeE_x n x xs))
        clear ho5 hf5 e0 e1 e2 e3 e4 e5 kcx2 hrc2 kh2
        by_cases ha : a1 = 1
        · subst ha
          obtain rfl : m1 = 1 := by omega
          go_wp2_with fail
          go_roundg (0 + 0)
          case measure => have := hq.out; omega
          case rel => exact ⟨xs, _, _, 0, _, _, 0, _, v5, css5, _, ⟨rfl⟩, rfl, rfl, kl5, kh5, kf5⟩
        · have kl6 := kl5.out
          rw [if_neg ha] at kl6
          have kl6 := Hd.mk kl6
          go_wp2_with fail
          go_roundg (m1 - 1 + 0)
          case measure => have := hq.out; omega
          case rel => exact ⟨xs, _, _, m1 - 1, _, _, 0, _, v5, css5, _, ⟨rfl⟩, rfl, rfl, kl6, kh5, kf5⟩
    · obtain ⟨y, ys, rfl⟩ := List.exists_cons_of_length_pos (l := ys) (by rw [← hm2.out]; exact h2)
      obtain ⟨b2, o2, d, rfl, _, hrd, hdk⟩ := kl.out.r2.head
      obtain ⟨K4, c4, rfl, _⟩ := hrd.row
      have hca2 : m2 ≤ a2 := by have := kl.out.r2.cap; have := hm2.out; omega
      have hi2 : (1 : Int) ≤ (m2 : Int) := by omega
      have kcy := Hd.mk hdk
      have hrd := Hd.mk hrd
      clear hdk
      simp only [cT] at kcy hrd
      go_wp2_with fail
      cases hxy : lessT x y with
      | true =>
        refine Flow.wp_region_flow_l (fun qq => match qq with
          | 31 => SP.eq (.slice (some ⟨b2, o2, none⟩) m2 a2)
          | 32 => SP.eq (.int .i64 (m2 : Nat))
          | 33 => SP.eq (.bool false)
          | 34 => SP.eq (.bool false)
          | 35 => SP.eq (.slice (some ⟨b1, o1, none⟩) m1 a1)
          | 36 => SP.eq (.int .i64 (m1 : Nat))
          | 37 => SP.eq (.bool true)
          | 38 => SP.eq (.bool true)
          | 39 => SP.eq (.slice (some ⟨b1, o1, none⟩) m1 a1)
          | 40 => SP.eq (.pointer (some ⟨b1, o1, none⟩))
          | 41 => SP.eq (.agg #[.string x.name, .string x.key, .int .i64 x.kind, .int .u64 x.num, .string x.text, .slice K3 x.kids.length c3])
          | 42 => SP.eq (.slice (some ⟨b2, o2, none⟩) m2 a2)
          | 43 => SP.eq (.pointer (some ⟨b2, o2, none⟩))
          | 44 => SP.eq (.agg #[.string y.name, .string y.key, .int .i64 y.kind, .int .u64 y.num, .string y.text, .slice K4 y.kids.length c4])
          | 45 => SP.eq (.bool true)
          | 46 => SP.eq (.bool true)
          | 47 => SP.eq (.bool true)
          | 30 => SP.eq (.bool true)
          | _ => SP.any) 18 (by kernel_rfl) 75 rfl (by kernel_rfl) ?_ ?_
        · skip
          refine ⟨?_, ?_, ?_, ?_, ?_, ?_, ?_, ?_, ?_, ?_, ?_, ?_, ?_, ?_, ?_, ?_, ?_, ?_, trivial⟩
          · intro act W2 hk
            refine Flow.does_intro rfl (fun Kq hK => ?_)
            have e1 : act.tmps[1]?.getD undef = .slice (some ⟨b2, o2, none⟩) m2 a2 := hk.o 1 (by kernel_rfl)
            clear hk
            go_simp
            exact hK _ _ (Ext.refl _) (fun d hd => by cases hd; rfl)
          · intro act W2 hk
            refine Flow.does_intro rfl (fun Kq hK => ?_)
            have e31 : act.tmps[31]?.getD undef = .slice (some ⟨b2, o2, none⟩) m2 a2 := hk.v 31 (by kernel_rfl)
            clear hk
            go_simp
            exact hK _ _ (Ext.refl _) (fun d hd => by cases hd; rfl)
          · intro act W2 hk
            refine Flow.does_intro rfl (fun Kq hK => ?_)
            have e32 : act.tmps[32]?.getD undef = .int .i64 (m2 : Nat) := hk.v 32 (by kernel_rfl)
            clear hk
            go_simp
            exact hK _ _ (Ext.refl _) (fun d hd => by cases hd; first | rfl | (simp [SP.eq]; omega))
          · intro act W2 hk
            refine Flow.does_intro rfl (fun Kq hK => ?_)
            have e33 : act.tmps[33]?.getD undef = .bool false := hk.v 33 (by kernel_rfl)
            clear hk
            go_simp
            exact hK _ _ (Ext.refl _) (fun d hd => by cases hd; rfl)
          · intro act W2 hk
            have eg : act.tmps[34]?.getD undef = .bool false := hk.v 34 (by kernel_rfl)
            refine Flow.does_intro (wanted_yes rfl rfl eg) (fun Kq hK => ?_)
            clear eg
            have e0 : act.tmps[0]?.getD undef = .slice (some ⟨b1, o1, none⟩) m1 a1 := hk.o 0 (by kernel_rfl)
            clear hk
            go_simp
            exact hK _ _ (Ext.refl _) (fun d hd => by cases hd; rfl)
          · intro act W2 hk
            have eg : act.tmps[34]?.getD undef = .bool false := hk.v 34 (by kernel_rfl)
            refine Flow.does_intro (wanted_yes rfl rfl eg) (fun Kq hK => ?_)
            clear eg
            have e35 : act.tmps[35]?.getD undef = .slice (some ⟨b1, o1, none⟩) m1 a1 := hk.v 35 (by kernel_rfl)
            clear hk
            go_simp
            exact hK _ _ (Ext.refl _) (fun d hd => by cases hd; rfl)
          · intro act W2 hk
            have eg : act.tmps[34]?.getD undef = .bool false := hk.v 34 (by kernel_rfl)
            refine Flow.does_intro (wanted_yes rfl rfl eg) (fun Kq hK => ?_)
            clear eg
            have e36 : act.tmps[36]?.getD undef = .int .i64 (m1 : Nat) := hk.v 36 (by kernel_rfl)
            clear hk
            go_simp
            exact hK _ _ (Ext.refl _) (fun d hd => by cases hd; first | rfl | (simp [SP.eq]; omega))
          · intro act W2 hk
            have eg : act.tmps[34]?.getD undef = .bool false := hk.v 34 (by kernel_rfl)
            refine Flow.does_intro (wanted_yes rfl rfl eg) (fun Kq hK => ?_)
            clear eg
            have e37 : act.tmps[37]?.getD undef = .bool true := hk.v 37 (by kernel_rfl)
            clear hk
            go_simp
            exact hK _ _ (Ext.refl _) (fun d hd => by cases hd; rfl)
          · intro act W2 hk
            have eg : act.tmps[38]?.getD undef = .bool true := hk.v 38 (by kernel_rfl)
            refine Flow.does_intro (wanted_yes rfl rfl eg) (fun Kq hK => ?_)
            clear eg
            have e0 : act.tmps[0]?.getD undef = .slice (some ⟨b1, o1, none⟩) m1 a1 := hk.o 0 (by kernel_rfl)
            clear hk
            go_simp
            exact hK _ _ (Ext.refl _) (fun d hd => by cases hd; rfl)
          · intro act W2 hk
            have eg : act.tmps[38]?.getD undef = .bool true := hk.v 38 (by kernel_rfl)
            refine Flow.does_intro (wanted_yes rfl rfl eg) (fun Kq hK => ?_)
            clear eg
            have e39 : act.tmps[39]?.getD undef = .slice (some ⟨b1, o1, none⟩) m1 a1 := hk.v 39 (by kernel_rfl)
            clear hk
            go_simp
            exact hK _ _ (Ext.refl _) (fun d hd => by cases hd; rfl)
          · intro act W2 hk
            have eg : act.tmps[38]?.getD undef = .bool true := hk.v 38 (by kernel_rfl)
            refine Flow.does_intro (wanted_yes rfl rfl eg) (fun Kq hK => ?_)
            clear eg
            have e40 : act.tmps[40]?.getD undef = .pointer (some ⟨b1, o1, none⟩) := hk.v 40 (by kernel_rfl)
            have g0 := Ext.cell ((Ext.drew wr).trans hk.ext) ((kcx.out) 0 _ rfl)
            rw [Nat.add_zero] at g0
            have g1 := Ext.cell ((Ext.drew wr).trans hk.ext) ((kcx.out) 1 _ rfl)
            have g2 := Ext.cell ((Ext.drew wr).trans hk.ext) ((kcx.out) 2 _ rfl)
            have g3 := Ext.cell ((Ext.drew wr).trans hk.ext) ((kcx.out) 3 _ rfl)
            have g4 := Ext.cell ((Ext.drew wr).trans hk.ext) ((kcx.out) 4 _ rfl)
            have g5 := Ext.cell ((Ext.drew wr).trans hk.ext) ((kcx.out) 5 _ rfl)
            clear hk
            go_simp
            exact hK _ _ (Ext.refl _) (fun d hd => by cases hd; rfl)
          · intro act W2 hk
            have eg : act.tmps[38]?.getD undef = .bool true := hk.v 38 (by kernel_rfl)
            refine Flow.does_intro (wanted_yes rfl rfl eg) (fun Kq hK => ?_)
            clear eg
            have e1 : act.tmps[1]?.getD undef = .slice (some ⟨b2, o2, none⟩) m2 a2 := hk.o 1 (by kernel_rfl)
            clear hk
            go_simp
            exact hK _ _ (Ext.refl _) (fun d hd => by cases hd; rfl)
          · intro act W2 hk
            have eg : act.tmps[38]?.getD undef = .bool true := hk.v 38 (by kernel_rfl)
            refine Flow.does_intro (wanted_yes rfl rfl eg) (fun Kq hK => ?_)
            clear eg
            have e42 : act.tmps[42]?.getD undef = .slice (some ⟨b2, o2, none⟩) m2 a2 := hk.v 42 (by kernel_rfl)
            clear hk
            go_simp
            exact hK _ _ (Ext.refl _) (fun d hd => by cases hd; rfl)
          · intro act W2 hk
            have eg : act.tmps[38]?.getD undef = .bool true := hk.v 38 (by kernel_rfl)
            refine Flow.does_intro (wanted_yes rfl rfl eg) (fun Kq hK => ?_)
            clear eg
            have e43 : act.tmps[43]?.getD undef = .pointer (some ⟨b2, o2, none⟩) := hk.v 43 (by kernel_rfl)
            have g0 := Ext.cell ((Ext.drew wr).trans hk.ext) ((kcy.out) 0 _ rfl)
            rw [Nat.add_zero] at g0
            have g1 := Ext.cell ((Ext.drew wr).trans hk.ext) ((kcy.out) 1 _ rfl)
            have g2 := Ext.cell ((Ext.drew wr).trans hk.ext) ((kcy.out) 2 _ rfl)
            have g3 := Ext.cell ((Ext.drew wr).trans hk.ext) ((kcy.out) 3 _ rfl)
            have g4 := Ext.cell ((Ext.drew wr).trans hk.ext) ((kcy.out) 4 _ rfl)
            have g5 := Ext.cell ((Ext.drew wr).trans hk.ext) ((kcy.out) 5 _ rfl)
            clear hk
            go_simp
            exact hK _ _ (Ext.refl _) (fun d hd => by cases hd; rfl)
          · intro act W2 hk
            have eg : act.tmps[38]?.getD undef = .bool true := hk.v 38 (by kernel_rfl)
            refine Flow.does_intro (wanted_yes rfl rfl eg) (fun Kq hK => ?_)
            clear eg
            have e41 : act.tmps[41]?.getD undef = .agg #[.string x.name, .string x.key, .int .i64 x.kind, .int .u64 x.num, .string x.text, .slice K3 x.kids.length c3] := hk.v 41 (by kernel_rfl)
            have e44 : act.tmps[44]?.getD undef = .agg #[.string y.name, .string y.key, .int .i64 y.kind, .int .u64 y.num, .string y.text, .slice K4 y.kids.length c4] := hk.v 44 (by kernel_rfl)
            clear hk
            go_simp
            refine Calls.mono (tree_less' x y K3 K4 x.kids.length c3 y.kids.length c4 _) ?_
            rintro e W3 ⟨rfl, hx⟩
            exact hK _ _ hx (fun d hd => by cases hd; exact congrArg Value.bool hxy)
          · intro act W2 hk
            have eg : act.tmps[34]?.getD undef = .bool false := hk.v 34 (by kernel_rfl)
            refine Flow.does_intro (wanted_yes rfl rfl eg) (fun Kq hK => ?_)
            clear eg
            have e38 : act.tmps[38]?.getD undef = .bool true := hk.v 38 (by kernel_rfl)
            have e45 : act.tmps[45]?.getD undef = .bool true := hk.v 45 (by kernel_rfl)
            clear hk
            go_simp
            exact hK _ _ (Ext.refl _) (fun d hd => by cases hd; rfl)
          · intro act W2 hk
            refine Flow.does_intro rfl (fun Kq hK => ?_)
            have e34 : act.tmps[34]?.getD undef = .bool false := hk.v 34 (by kernel_rfl)
            have e46 : act.tmps[46]?.getD undef = .bool true := hk.v 46 (by kernel_rfl)
            clear hk
            go_simp
            exact hK _ _ (Ext.refl _) (fun d hd => by cases hd; rfl)
          · intro act W2 hk
            refine Flow.does_intro rfl (fun Kq hK => ?_)
            have e47 : act.tmps[47]?.getD undef = .bool true := hk.v 47 (by kernel_rfl)
            clear hk
            go_simp
            exact hK _ _ (Ext.refl _) (fun d hd => by cases hd; rfl)
        · intro act V2 he
          have hxV2 := Hd.mk ((Ext.drew wr).trans he.ext)
          obtain ⟨us, hA, hF⟩ := he.out [31, 32, 33, 34, 35, 36, 37, 38, 39, 40, 41, 42, 43, 44, 45, 46, 47, 30] (by kernel_rfl)
          simp only [Flow.fillL, List.contains_cons, List.contains_nil, Nat.reduceBEq, Bool.or_false, Bool.false_or, Bool.or_true, Bool.true_or, ↓reduceIte, Nat.reduceAdd, Bool.false_eq_true] at hA
          subst hA
          have f30 : us 30 = .bool true := hF 30 (by simp)
          clear hF he
          rw [f30]
          clear f30
          have kh2 := Hd.mk (kh.out.ext hxV2.out)
          have kcx2 := Hd.mk (fun (q : Nat) u hq => Ext.cell hxV2.out (kcx.out q u hq))
          have hrc2 := Hd.mk (hrc.out.ext hxV2.out)
          obtain ⟨e0, e1, e2, e3, e4, e5⟩ := six (Ext.refl _) kcx2.out
          refine (show wpList _ _ _ [] _ _ from ?_)
          go_wp2_with fail
          refine Calls.mono (cut_any kh2.out.env hrc2.out (by have := kl.out.wl; omega) (by have := kl.out.el; rw [sizeL_cons] at this; have := size_pos x; omega)) ?_
          rintro e w5 ⟨rfl, v5, css5, ho5, hf5⟩
          have kh5 := Hd.mk (kh2.out.fr ho5 hf5)
          have kf5 := Hd.mk ((kf.out.trans (Fr.of_ext hxV2.out)).trans hf5)
          have kl5 := Hd.mk (kl.out.next_x (w' := w5) (fun _ _ _ h => kh2.out.argr hf5 (h.ext hxV2.out)) (fun n => mergeE_lt n xs ys hxy))
          clear ho5 hf5 e0 e1 e2 e3 e4 e5 kcx2 hrc2 kh2
          by_cases ha : a1 = 1
          · subst ha
            obtain rfl : m1 = 1 := by omega
            go_wp2_with fail
            go_roundg (0 + m2)
            case measure => have := hq.out; omega
            case rel => exact ⟨xs, _, _, 0, _, _, m2, _, v5, css5, _, ⟨rfl⟩, rfl, rfl, kl5, kh5, kf5⟩
          · have kl6 := kl5.out
            rw [if_neg ha] at kl6
            have kl6 := Hd.mk kl6
            go_wp2_with fail
            go_roundg (m1 - 1 + m2)
            case measure => have := hq.out; omega
            case rel => exact ⟨xs, _, _, m1 - 1, _, _, m2, _, v5, css5, _, ⟨rfl⟩, rfl, rfl, kl6, kh5, kf5⟩
      | false =>
        refine Flow.wp_region_flow_l (fun qq => match qq with
          | 31 => SP.eq (.slice (some ⟨b2, o2, none⟩) m2 a2)
          | 32 => SP.eq (.int .i64 (m2 : Nat))
          | 33 => SP.eq (.bool false)
          | 34 => SP.eq (.bool false)
          | 35 => SP.eq (.slice (some ⟨b1, o1, none⟩) m1 a1)
          | 36 => SP.eq (.int .i64 (m1 : Nat))
          | 37 => SP.eq (.bool true)
          | 38 => SP.eq (.bool true)
          | 39 => SP.eq (.slice (some ⟨b1, o1, none⟩) m1 a1)
          | 40 => SP.eq (.pointer (some ⟨b1, o1, none⟩))
          | 41 => SP.eq (.agg #[.string x.name, .string x.key, .int .i64 x.kind, .int .u64 x.num, .string x.text, .slice K3 x.kids.length c3])
          | 42 => SP.eq (.slice (some ⟨b2, o2, none⟩) m2 a2)
          | 43 => SP.eq (.pointer (some ⟨b2, o2, none⟩))
          | 44 => SP.eq (.agg #[.string y.name, .string y.key, .int .i64 y.kind, .int .u64 y.num, .string y.text, .slice K4 y.kids.length c4])
          | 45 => SP.eq (.bool false)
          | 46 => SP.eq (.bool false)
          | 47 => SP.eq (.bool false)
          | 30 => SP.eq (.bool false)
          | _ => SP.any) 18 (by kernel_rfl) 75 rfl (by kernel_rfl) ?_ ?_
        · skip
          refine ⟨?_, ?_, ?_, ?_, ?_, ?_, ?_, ?_, ?_, ?_, ?_, ?_, ?_, ?_, ?_, ?_, ?_, ?_, trivial⟩
          · intro act W2 hk
            refine Flow.does_intro rfl (fun Kq hK => ?_)
            have e1 : act.tmps[1]?.getD undef = .slice (some ⟨b2, o2, none⟩) m2 a2 := hk.o 1 (by kernel_rfl)
            clear hk
            go_simp
            exact hK _ _ (Ext.refl _) (fun d hd => by cases hd; rfl)
          · intro act W2 hk
            refine Flow.does_intro rfl (fun Kq hK => ?_)
            have e31 : act.tmps[31]?.getD undef = .slice (some ⟨b2, o2, none⟩) m2 a2 := hk.v 31 (by kernel_rfl)
            clear hk
            go_simp
            exact hK _ _ (Ext.refl _) (fun d hd => by cases hd; rfl)
          · intro act W2 hk
            refine Flow.does_intro rfl (fun Kq hK => ?_)
            have e32 : act.tmps[32]?.getD undef = .int .i64 (m2 : Nat) := hk.v 32 (by kernel_rfl)
            clear hk
            go_simp
            exact hK _ _ (Ext.refl _) (fun d hd => by cases hd; first | rfl | (simp [SP.eq]; omega))
          · intro act W2 hk
            refine Flow.does_intro rfl (fun Kq hK => ?_)
            have e33 : act.tmps[33]?.getD undef = .bool false := hk.v 33 (by kernel_rfl)
            clear hk
            go_simp
            exact hK _ _ (Ext.refl _) (fun d hd => by cases hd; rfl)
          · intro act W2 hk
            have eg : act.tmps[34]?.getD undef = .bool false := hk.v 34 (by kernel_rfl)
            refine Flow.does_intro (wanted_yes rfl rfl eg) (fun Kq hK => ?_)
            clear eg
            have e0 : act.tmps[0]?.getD undef = .slice (some ⟨b1, o1, none⟩) m1 a1 := hk.o 0 (by kernel_rfl)
            clear hk
            go_simp
            exact hK _ _ (Ext.refl _) (fun d hd => by cases hd; rfl)
          · intro act W2 hk
            have eg : act.tmps[34]?.getD undef = .bool false := hk.v 34 (by kernel_rfl)
            refine Flow.does_intro (wanted_yes rfl rfl eg) (fun Kq hK => ?_)
            clear eg
            have e35 : act.tmps[35]?.getD undef = .slice (some ⟨b1, o1, none⟩) m1 a1 := hk.v 35 (by kernel_rfl)
            clear hk
            go_simp
            exact hK _ _ (Ext.refl _) (fun d hd => by cases hd; rfl)
          · intro act W2 hk
            have eg : act.tmps[34]?.getD undef = .bool false := hk.v 34 (by kernel_rfl)
            refine Flow.does_intro (wanted_yes rfl rfl eg) (fun Kq hK => ?_)
            clear eg
            have e36 : act.tmps[36]?.getD undef = .int .i64 (m1 : Nat) := hk.v 36 (by kernel_rfl)
            clear hk
            go_simp
            exact hK _ _ (Ext.refl _) (fun d hd => by cases hd; first | rfl | (simp [SP.eq]; omega))
          · intro act W2 hk
            have eg : act.tmps[34]?.getD undef = .bool false := hk.v 34 (by kernel_rfl)
            refine Flow.does_intro (wanted_yes rfl rfl eg) (fun Kq hK => ?_)
            clear eg
            have e37 : act.tmps[37]?.getD undef = .bool true := hk.v 37 (by kernel_rfl)
            clear hk
            go_simp
            exact hK _ _ (Ext.refl _) (fun d hd => by cases hd; rfl)
          · intro act W2 hk
            have eg : act.tmps[38]?.getD undef = .bool true := hk.v 38 (by kernel_rfl)
            refine Flow.does_intro (wanted_yes rfl rfl eg) (fun Kq hK => ?_)
            clear eg
            have e0 : act.tmps[0]?.getD undef = .slice (some ⟨b1, o1, none⟩) m1 a1 := hk.o 0 (by kernel_rfl)
            clear hk
            go_simp
            exact hK _ _ (Ext.refl _) (fun d hd => by cases hd; rfl)
          · intro act W2 hk
            have eg : act.tmps[38]?.getD undef = .bool true := hk.v 38 (by kernel_rfl)
            refine Flow.does_intro (wanted_yes rfl rfl eg) (fun Kq hK => ?_)
            clear eg
            have e39 : act.tmps[39]?.getD undef = .slice (some ⟨b1, o1, none⟩) m1 a1 := hk.v 39 (by kernel_rfl)
            clear hk
            go_simp
            exact hK _ _ (Ext.refl _) (fun d hd => by cases hd; rfl)
          · intro act W2 hk
            have eg : act.tmps[38]?.getD undef = .bool true := hk.v 38 (by kernel_rfl)
            refine Flow.does_intro (wanted_yes rfl rfl eg) (fun Kq hK => ?_)
            clear eg
            have e40 : act.tmps[40]?.getD undef = .pointer (some ⟨b1, o1, none⟩) := hk.v 40 (by kernel_rfl)
            have g0 := Ext.cell ((Ext.drew wr).trans hk.ext) ((kcx.out) 0 _ rfl)
            rw [Nat.add_zero] at g0
            have g1 := Ext.cell ((Ext.drew wr).trans hk.ext) ((kcx.out) 1 _ rfl)
            have g2 := Ext.cell ((Ext.drew wr).trans hk.ext) ((kcx.out) 2 _ rfl)
            have g3 := Ext.cell ((Ext.drew wr).trans hk.ext) ((kcx.out) 3 _ rfl)
            have g4 := Ext.cell ((Ext.drew wr).trans hk.ext) ((kcx.out) 4 _ rfl)
            have g5 := Ext.cell ((Ext.drew wr).trans hk.ext) ((kcx.out) 5 _ rfl)
            clear hk
            go_simp
            exact hK _ _ (Ext.refl _) (fun d hd => by cases hd; rfl)
          · intro act W2 hk
            have eg : act.tmps[38]?.getD undef = .bool true := hk.v 38 (by kernel_rfl)
            refine Flow.does_intro (wanted_yes rfl rfl eg) (fun Kq hK => ?_)
            clear eg
            have e1 : act.tmps[1]?.getD undef = .slice (some ⟨b2, o2, none⟩) m2 a2 := hk.o 1 (by kernel_rfl)
            clear hk
            go_simp
            exact hK _ _ (Ext.refl _) (fun d hd => by cases hd; rfl)
          · intro act W2 hk
            have eg : act.tmps[38]?.getD undef = .bool true := hk.v 38 (by kernel_rfl)
            refine Flow.does_intro (wanted_yes rfl rfl eg) (fun Kq hK => ?_)
            clear eg
            have e42 : act.tmps[42]?.getD undef = .slice (some ⟨b2, o2, none⟩) m2 a2 := hk.v 42 (by kernel_rfl)
            clear hk
            go_simp
            exact hK _ _ (Ext.refl _) (fun d hd => by cases hd; rfl)
          · intro act W2 hk
            have eg : act.tmps[38]?.getD undef = .bool true := hk.v 38 (by kernel_rfl)
            refine Flow.does_intro (wanted_yes rfl rfl eg) (fun Kq hK => ?_)
            clear eg
            have e43 : act.tmps[43]?.getD undef = .pointer (some ⟨b2, o2, none⟩) := hk.v 43 (by kernel_rfl)
            have g0 := Ext.cell ((Ext.drew wr).trans hk.ext) ((kcy.out) 0 _ rfl)
            rw [Nat.add_zero] at g0
            have g1 := Ext.cell ((Ext.drew wr).trans hk.ext) ((kcy.out) 1 _ rfl)
            have g2 := Ext.cell ((Ext.drew wr).trans hk.ext) ((kcy.out) 2 _ rfl)
            have g3 := Ext.cell ((Ext.drew wr).trans hk.ext) ((kcy.out) 3 _ rfl)
            have g4 := Ext.cell ((Ext.drew wr).trans hk.ext) ((kcy.out) 4 _ rfl)
            have g5 := Ext.cell ((Ext.drew wr).trans hk.ext) ((kcy.out) 5 _ rfl)
            clear hk
            go_simp
            exact hK _ _ (Ext.refl _) (fun d hd => by cases hd; rfl)
          · intro act W2 hk
            have eg : act.tmps[38]?.getD undef = .bool true := hk.v 38 (by kernel_rfl)
            refine Flow.does_intro (wanted_yes rfl rfl eg) (fun Kq hK => ?_)
            clear eg
            have e41 : act.tmps[41]?.getD undef = .agg #[.string x.name, .string x.key, .int .i64 x.kind, .int .u64 x.num, .string x.text, .slice K3 x.kids.length c3] := hk.v 41 (by kernel_rfl)
            have e44 : act.tmps[44]?.getD undef = .agg #[.string y.name, .string y.key, .int .i64 y.kind, .int .u64 y.num, .string y.text, .slice K4 y.kids.length c4] := hk.v 44 (by kernel_rfl)
            clear hk
            go_simp
            refine Calls.mono (tree_less' x y K3 K4 x.kids.length c3 y.kids.length c4 _) ?_
            rintro e W3 ⟨rfl, hx⟩
            exact hK _ _ hx (fun d hd => by cases hd; exact congrArg Value.bool hxy)
          · intro act W2 hk
            have eg : act.tmps[34]?.getD undef = .bool false := hk.v 34 (by kernel_rfl)
            refine Flow.does_intro (wanted_yes rfl rfl eg) (fun Kq hK => ?_)
            clear eg
            have e38 : act.tmps[38]?.getD undef = .bool true := hk.v 38 (by kernel_rfl)
            have e45 : act.tmps[45]?.getD undef = .bool false := hk.v 45 (by kernel_rfl)
            clear hk
            go_simp
            exact hK _ _ (Ext.refl _) (fun d hd => by cases hd; rfl)
          · intro act W2 hk
            refine Flow.does_intro rfl (fun Kq hK => ?_)
            have e34 : act.tmps[34]?.getD undef = .bool false := hk.v 34 (by kernel_rfl)
            have e46 : act.tmps[46]?.getD undef = .bool false := hk.v 46 (by kernel_rfl)
            clear hk
            go_simp
            exact hK _ _ (Ext.refl _) (fun d hd => by cases hd; rfl)
          · intro act W2 hk
            refine Flow.does_intro rfl (fun Kq hK => ?_)
            have e47 : act.tmps[47]?.getD undef = .bool false := hk.v 47 (by kernel_rfl)
            clear hk
            go_simp
            exact hK _ _ (Ext.refl _) (fun d hd => by cases hd; rfl)
        · intro act V1 he
          have hxV1 := Hd.mk ((Ext.drew wr).trans he.ext)
          obtain ⟨us, hA, hF⟩ := he.out [31, 32, 33, 34, 35, 36, 37, 38, 39, 40, 41, 42, 43, 44, 45, 46, 47, 30] (by kernel_rfl)
          simp only [Flow.fillL, List.contains_cons, List.contains_nil, Nat.reduceBEq, Bool.or_false, Bool.false_or, Bool.or_true, Bool.true_or, ↓reduceIte, Nat.reduceAdd, Bool.false_eq_true] at hA
          subst hA
          have f30 : us 30 = .bool false := hF 30 (by simp)
          clear hF he
          rw [f30]
          clear f30
          refine (show wpList _ _ _ [] _ _ from ?_)
          go_wp2_with fail
          have kcy1 := Hd.mk (fun (q : Nat) u hq => Ext.cell hxV1.out (kcy.out q u hq))
          have kcx1 := Hd.mk (fun (q : Nat) u hq => Ext.cell hxV1.out (kcx.out q u hq))
          cases hyx : lessT y x with
          | true =>
            refine Flow.wp_region_flow_l (fun qq => match qq with
              | 56 => SP.eq (.slice (some ⟨b1, o1, none⟩) m1 a1)
              | 57 => SP.eq (.int .i64 (m1 : Nat))
              | 58 => SP.eq (.bool false)
              | 59 => SP.eq (.bool false)
              | 60 => SP.eq (.slice (some ⟨b2, o2, none⟩) m2 a2)
              | 61 => SP.eq (.pointer (some ⟨b2, o2, none⟩))
              | 62 => SP.eq (.agg #[.string y.name, .string y.key, .int .i64 y.kind, .int .u64 y.num, .string y.text, .slice K4 y.kids.length c4])
              | 63 => SP.eq (.slice (some ⟨b1, o1, none⟩) m1 a1)
              | 64 => SP.eq (.pointer (some ⟨b1, o1, none⟩))
              | 65 => SP.eq (.agg #[.string x.name, .string x.key, .int .i64 x.kind, .int .u64 x.num, .string x.text, .slice K3 x.kids.length c3])
              | 66 => SP.eq (.bool true)
              | 67 => SP.eq (.bool true)
              | 55 => SP.eq (.bool true)
              | _ => SP.any) 13 (by kernel_rfl) 75 rfl (by kernel_rfl) ?_ ?_
            · skip
              refine ⟨?_, ?_, ?_, ?_, ?_, ?_, ?_, ?_, ?_, ?_, ?_, ?_, ?_, trivial⟩
              · intro act W2 hk
                refine Flow.does_intro rfl (fun Kq hK => ?_)
                have e0 : act.tmps[0]?.getD undef = .slice (some ⟨b1, o1, none⟩) m1 a1 := hk.o 0 (by kernel_rfl)
                clear hk
                go_simp
                exact hK _ _ (Ext.refl _) (fun d hd => by cases hd; rfl)
              · intro act W2 hk
                refine Flow.does_intro rfl (fun Kq hK => ?_)
                have e56 : act.tmps[56]?.getD undef = .slice (some ⟨b1, o1, none⟩) m1 a1 := hk.v 56 (by kernel_rfl)
                clear hk
                go_simp
                exact hK _ _ (Ext.refl _) (fun d hd => by cases hd; rfl)
              · intro act W2 hk
                refine Flow.does_intro rfl (fun Kq hK => ?_)
                have e57 : act.tmps[57]?.getD undef = .int .i64 (m1 : Nat) := hk.v 57 (by kernel_rfl)
                clear hk
                go_simp
                exact hK _ _ (Ext.refl _) (fun d hd => by cases hd; first | rfl | (simp [SP.eq]; omega))
              · intro act W2 hk
                refine Flow.does_intro rfl (fun Kq hK => ?_)
                have e58 : act.tmps[58]?.getD undef = .bool false := hk.v 58 (by kernel_rfl)
                clear hk
                go_simp
                exact hK _ _ (Ext.refl _) (fun d hd => by cases hd; rfl)
              · intro act W2 hk
                have eg : act.tmps[59]?.getD undef = .bool false := hk.v 59 (by kernel_rfl)
                refine Flow.does_intro (wanted_yes rfl rfl eg) (fun Kq hK => ?_)
                clear eg
                have e1 : act.tmps[1]?.getD undef = .slice (some ⟨b2, o2, none⟩) m2 a2 := hk.o 1 (by kernel_rfl)
                clear hk
                go_simp
                exact hK _ _ (Ext.refl _) (fun d hd => by cases hd; rfl)
              · intro act W2 hk
                have eg : act.tmps[59]?.getD undef = .bool false := hk.v 59 (by kernel_rfl)
                refine Flow.does_intro (wanted_yes rfl rfl eg) (fun Kq hK => ?_)
                clear eg
                have e60 : act.tmps[60]?.getD undef = .slice (some ⟨b2, o2, none⟩) m2 a2 := hk.v 60 (by kernel_rfl)
                clear hk
                go_simp
                exact hK _ _ (Ext.refl _) (fun d hd => by cases hd; rfl)
              · intro act W2 hk
                have eg : act.tmps[59]?.getD undef = .bool false := hk.v 59 (by kernel_rfl)
                refine Flow.does_intro (wanted_yes rfl rfl eg) (fun Kq hK => ?_)
                clear eg
                have e61 : act.tmps[61]?.getD undef = .pointer (some ⟨b2, o2, none⟩) := hk.v 61 (by kernel_rfl)
                have g0 := Ext.cell ((Ext.drew V1).trans hk.ext) ((kcy1.out) 0 _ rfl)
                rw [Nat.add_zero] at g0
                have g1 := Ext.cell ((Ext.drew V1).trans hk.ext) ((kcy1.out) 1 _ rfl)
                have g2 := Ext.cell ((Ext.drew V1).trans hk.ext) ((kcy1.out) 2 _ rfl)
                have g3 := Ext.cell ((Ext.drew V1).trans hk.ext) ((kcy1.out) 3 _ rfl)
                have g4 := Ext.cell ((Ext.drew V1).trans hk.ext) ((kcy1.out) 4 _ rfl)
                have g5 := Ext.cell ((Ext.drew V1).trans hk.ext) ((kcy1.out) 5 _ rfl)
                clear hk
                go_simp
                exact hK _ _ (Ext.refl _) (fun d hd => by cases hd; rfl)
              · intro act W2 hk
                have eg : act.tmps[59]?.getD undef = .bool false := hk.v 59 (by kernel_rfl)
                refine Flow.does_intro (wanted_yes rfl rfl eg) (fun Kq hK => ?_)
                clear eg
                have e0 : act.tmps[0]?.getD undef = .slice (some ⟨b1, o1, none⟩) m1 a1 := hk.o 0 (by kernel_rfl)
                clear hk
                go_simp
                exact hK _ _ (Ext.refl _) (fun d hd => by cases hd; rfl)
              · intro act W2 hk
                have eg : act.tmps[59]?.getD undef = .bool false := hk.v 59 (by kernel_rfl)
                refine Flow.does_intro (wanted_yes rfl rfl eg) (fun Kq hK => ?_)
                clear eg
                have e63 : act.tmps[63]?.getD undef = .slice (some ⟨b1, o1, none⟩) m1 a1 := hk.v 63 (by kernel_rfl)
                clear hk
                go_simp
                exact hK _ _ (Ext.refl _) (fun d hd => by cases hd; rfl)
              · intro act W2 hk
                have eg : act.tmps[59]?.getD undef = .bool false := hk.v 59 (by kernel_rfl)
                refine Flow.does_intro (wanted_yes rfl rfl eg) (fun Kq hK => ?_)
                clear eg
                have e64 : act.tmps[64]?.getD undef = .pointer (some ⟨b1, o1, none⟩) := hk.v 64 (by kernel_rfl)
                have g0 := Ext.cell ((Ext.drew V1).trans hk.ext) ((kcx1.out) 0 _ rfl)
                rw [Nat.add_zero] at g0
                have g1 := Ext.cell ((Ext.drew V1).trans hk.ext) ((kcx1.out) 1 _ rfl)
                have g2 := Ext.cell ((Ext.drew V1).trans hk.ext) ((kcx1.out) 2 _ rfl)
                have g3 := Ext.cell ((Ext.drew V1).trans hk.ext) ((kcx1.out) 3 _ rfl)
                have g4 := Ext.cell ((Ext.drew V1).trans hk.ext) ((kcx1.out) 4 _ rfl)
                have g5 := Ext.cell ((Ext.drew V1).trans hk.ext) ((kcx1.out) 5 _ rfl)
                clear hk
                go_simp
                exact hK _ _ (Ext.refl _) (fun d hd => by cases hd; rfl)
              · intro act W2 hk
                have eg : act.tmps[59]?.getD undef = .bool false := hk.v 59 (by kernel_rfl)
                refine Flow.does_intro (wanted_yes rfl rfl eg) (fun Kq hK => ?_)
                clear eg
                have e62 : act.tmps[62]?.getD undef = .agg #[.string y.name, .string y.key, .int .i64 y.kind, .int .u64 y.num, .string y.text, .slice K4 y.kids.length c4] := hk.v 62 (by kernel_rfl)
                have e65 : act.tmps[65]?.getD undef = .agg #[.string x.name, .string x.key, .int .i64 x.kind, .int .u64 x.num, .string x.text, .slice K3 x.kids.length c3] := hk.v 65 (by kernel_rfl)
                clear hk
                go_simp
                refine Calls.mono (tree_less' y x K4 K3 y.kids.length c4 x.kids.length c3 _) ?_
                rintro e W3 ⟨rfl, hx⟩
                exact hK _ _ hx (fun d hd => by cases hd; exact congrArg Value.bool hyx)
              · intro act W2 hk
                refine Flow.does_intro rfl (fun Kq hK => ?_)
                have e59 : act.tmps[59]?.getD undef = .bool false := hk.v 59 (by kernel_rfl)
                have e66 : act.tmps[66]?.getD undef = .bool true := hk.v 66 (by kernel_rfl)
                clear hk
                go_simp
                exact hK _ _ (Ext.refl _) (fun d hd => by cases hd; rfl)
              · intro act W2 hk
                refine Flow.does_intro rfl (fun Kq hK => ?_)
                have e67 : act.tmps[67]?.getD undef = .bool true := hk.v 67 (by kernel_rfl)
                clear hk
                go_simp
                exact hK _ _ (Ext.refl _) (fun d hd => by cases hd; rfl)
            · intro act V2 he
              have hxV2 := Hd.mk ((Ext.drew V1).trans he.ext)
              obtain ⟨us, hA, hF⟩ := he.out [56, 57, 58, 59, 60, 61, 62, 63, 64, 65, 66, 67, 55] (by kernel_rfl)
              simp only [Flow.fillL, List.contains_cons, List.contains_nil, Nat.reduceBEq, Bool.or_false, Bool.false_or, Bool.or_true, Bool.true_or, ↓reduceIte, Nat.reduceAdd, Bool.false_eq_true] at hA
              subst hA
              have f55 : us 55 = .bool true := hF 55 (by simp)
              clear hF he
              rw [f55]
              clear f55
              have hx2 := Hd.mk (hxV1.out.trans hxV2.out)
              have kh2 := Hd.mk (kh.out.ext hx2.out)
              have kcy2 := Hd.mk (fun (q : Nat) u hq => Ext.cell hx2.out (kcy.out q u hq))
              have hrd2 := Hd.mk (hrd.out.ext hx2.out)
              obtain ⟨f0, f1, f2, f3, f4, f5⟩ := six (Ext.refl _) kcy2.out
              refine (show wpList _ _ _ [] _ _ from ?_)
              go_wp2_with fail
              refine Calls.mono (set_any kh2.out.env hrd2.out (by have := kl.out.wl; omega) (by have := kl.out.el; have h9 := sizeL_cons y ys; have := size_pos y; omega)) ?_
              rintro e w5 ⟨rfl, v5, css5, ho5, hf5⟩
              have kh5 := Hd.mk (kh2.out.fr ho5 hf5)
              have kf5 := Hd.mk ((kf.out.trans (Fr.of_ext hx2.out)).trans hf5)
              have kl5 := Hd.mk (kl.out.next_y (w' := w5) (fun _ _ _ h => kh2.out.argr hf5 (h.ext hx2.out)) (fun n => mergeE_gt n xs ys hxy hyx))
              clear ho5 hf5 f0 f1 f2 f3 f4 f5 kcy2 hrd2 kh2
              by_cases ha : a2 = 1
              · subst ha
                obtain rfl : m2 = 1 := by omega
                go_wp2_with fail
                go_roundg (m1 + 0)
                case measure => have := hq.out; omega
                case rel => exact ⟨_, ys, _, m1, _, _, 0, _, v5, css5, _, ⟨rfl⟩, rfl, rfl, kl5, kh5, kf5⟩
              · have kl6 := kl5.out
                rw [if_neg ha] at kl6
                have kl6 := Hd.mk kl6
                go_wp2_with fail
                go_roundg (m1 + (m2 - 1))
                case measure => have := hq.out; omega
                case rel => exact ⟨_, ys, _, m1, _, _, m2 - 1, _, v5, css5, _, ⟨rfl⟩, rfl, rfl, kl6, kh5, kf5⟩
          | false =>
            refine Flow.wp_region_flow_l (fun qq => match qq with
              | 56 => SP.eq (.slice (some ⟨b1, o1, none⟩) m1 a1)
              | 57 => SP.eq (.int .i64 (m1 : Nat))
              | 58 => SP.eq (.bool false)
              | 59 => SP.eq (.bool false)
              | 60 => SP.eq (.slice (some ⟨b2, o2, none⟩) m2 a2)
              | 61 => SP.eq (.pointer (some ⟨b2, o2, none⟩))
              | 62 => SP.eq (.agg #[.string y.name, .string y.key, .int .i64 y.kind, .int .u64 y.num, .string y.text, .slice K4 y.kids.length c4])
              | 63 => SP.eq (.slice (some ⟨b1, o1, none⟩) m1 a1)
              | 64 => SP.eq (.pointer (some ⟨b1, o1, none⟩))
              | 65 => SP.eq (.agg #[.string x.name, .string x.key, .int .i64 x.kind, .int .u64 x.num, .string x.text, .slice K3 x.kids.length c3])
              | 66 => SP.eq (.bool false)
              | 67 => SP.eq (.bool false)
              | 55 => SP.eq (.bool false)
              | _ => SP.any) 13 (by kernel_rfl) 75 rfl (by kernel_rfl) ?_ ?_
            · skip
              refine ⟨?_, ?_, ?_, ?_, ?_, ?_, ?_, ?_, ?_, ?_, ?_, ?_, ?_, trivial⟩
              · intro act W2 hk
                refine Flow.does_intro rfl (fun Kq hK => ?_)
                have e0 : act.tmps[0]?.getD undef = .slice (some ⟨b1, o1, none⟩) m1 a1 := hk.o 0 (by kernel_rfl)
                clear hk
                go_simp
                exact hK _ _ (Ext.refl _) (fun d hd => by cases hd; rfl)
              · intro act W2 hk
                refine Flow.does_intro rfl (fun Kq hK => ?_)
                have e56 : act.tmps[56]?.getD undef = .slice (some ⟨b1, o1, none⟩) m1 a1 := hk.v 56 (by kernel_rfl)
                clear hk
                go_simp
                exact hK _ _ (Ext.refl _) (fun d hd => by cases hd; rfl)
              · intro act W2 hk
                refine Flow.does_intro rfl (fun Kq hK => ?_)
                have e57 : act.tmps[57]?.getD undef = .int .i64 (m1 : Nat) := hk.v 57 (by kernel_rfl)
                clear hk
                go_simp
                exact hK _ _ (Ext.refl _) (fun d hd => by cases hd; first | rfl | (simp [SP.eq]; omega))
              · intro act W2 hk
                refine Flow.does_intro rfl (fun Kq hK => ?_)
                have e58 : act.tmps[58]?.getD undef = .bool false := hk.v 58 (by kernel_rfl)
                clear hk
                go_simp
                exact hK _ _ (Ext.refl _) (fun d hd => by cases hd; rfl)
              · intro act W2 hk
                have eg : act.tmps[59]?.getD undef = .bool false := hk.v 59 (by kernel_rfl)
                refine Flow.does_intro (wanted_yes rfl rfl eg) (fun Kq hK => ?_)
                clear eg
                have e1 : act.tmps[1]?.getD undef = .slice (some ⟨b2, o2, none⟩) m2 a2 := hk.o 1 (by kernel_rfl)
                clear hk
                go_simp
                exact hK _ _ (Ext.refl _) (fun d hd => by cases hd; rfl)
              · intro act W2 hk
                have eg : act.tmps[59]?.getD undef = .bool false := hk.v 59 (by kernel_rfl)
                refine Flow.does_intro (wanted_yes rfl rfl eg) (fun Kq hK => ?_)
                clear eg
                have e60 : act.tmps[60]?.getD undef = .slice (some ⟨b2, o2, none⟩) m2 a2 := hk.v 60 (by kernel_rfl)
                clear hk
                go_simp
                exact hK _ _ (Ext.refl _) (fun d hd => by cases hd; rfl)
              · intro act W2 hk
                have eg : act.tmps[59]?.getD undef = .bool false := hk.v 59 (by kernel_rfl)
                refine Flow.does_intro (wanted_yes rfl rfl eg) (fun Kq hK => ?_)
                clear eg
                have e61 : act.tmps[61]?.getD undef = .pointer (some ⟨b2, o2, none⟩) := hk.v 61 (by kernel_rfl)
                have g0 := Ext.cell ((Ext.drew V1).trans hk.ext) ((kcy1.out) 0 _ rfl)
                rw [Nat.add_zero] at g0
                have g1 := Ext.cell ((Ext.drew V1).trans hk.ext) ((kcy1.out) 1 _ rfl)
                have g2 := Ext.cell ((Ext.drew V1).trans hk.ext) ((kcy1.out) 2 _ rfl)
                have g3 := Ext.cell ((Ext.drew V1).trans hk.ext) ((kcy1.out) 3 _ rfl)
                have g4 := Ext.cell ((Ext.drew V1).trans hk.ext) ((kcy1.out) 4 _ rfl)
                have g5 := Ext.cell ((Ext.drew V1).trans hk.ext) ((kcy1.out) 5 _ rfl)
                clear hk
                go_simp
                exact hK _ _ (Ext.refl _) (fun d hd => by cases hd; rfl)
              · intro act W2 hk
                have eg : act.tmps[59]?.getD undef = .bool false := hk.v 59 (by kernel_rfl)
                refine Flow.does_intro (wanted_yes rfl rfl eg) (fun Kq hK => ?_)
                clear eg
                have e0 : act.tmps[0]?.getD undef = .slice (some ⟨b1, o1, none⟩) m1 a1 := hk.o 0 (by kernel_rfl)
                clear hk
                go_simp
                exact hK _ _ (Ext.refl _) (fun d hd => by cases hd; rfl)
              · intro act W2 hk
                have eg : act.tmps[59]?.getD undef = .bool false := hk.v 59 (by kernel_rfl)
                refine Flow.does_intro (wanted_yes rfl rfl eg) (fun Kq hK => ?_)
                clear eg
                have e63 : act.tmps[63]?.getD undef = .slice (some ⟨b1, o1, none⟩) m1 a1 := hk.v 63 (by kernel_rfl)
                clear hk
                go_simp
                exact hK _ _ (Ext.refl _) (fun d hd => by cases hd; rfl)
              · intro act W2 hk
                have eg : act.tmps[59]?.getD undef = .bool false := hk.v 59 (by kernel_rfl)
                refine Flow.does_intro (wanted_yes rfl rfl eg) (fun Kq hK => ?_)
                clear eg
                have e64 : act.tmps[64]?.getD undef = .pointer (some ⟨b1, o1, none⟩) := hk.v 64 (by kernel_rfl)
                have g0 := Ext.cell ((Ext.drew V1).trans hk.ext) ((kcx1.out) 0 _ rfl)
                rw [Nat.add_zero] at g0
                have g1 := Ext.cell ((Ext.drew V1).trans hk.ext) ((kcx1.out) 1 _ rfl)
                have g2 := Ext.cell ((Ext.drew V1).trans hk.ext) ((kcx1.out) 2 _ rfl)
                have g3 := Ext.cell ((Ext.drew V1).trans hk.ext) ((kcx1.out) 3 _ rfl)
                have g4 := Ext.cell ((Ext.drew V1).trans hk.ext) ((kcx1.out) 4 _ rfl)
                have g5 := Ext.cell ((Ext.drew V1).trans hk.ext) ((kcx1.out) 5 _ rfl)
                clear hk
                go_simp
                exact hK _ _ (Ext.refl _) (fun d hd => by cases hd; rfl)
              · intro act W2 hk
                have eg : act.tmps[59]?.getD undef = .bool false := hk.v 59 (by kernel_rfl)
                refine Flow.does_intro (wanted_yes rfl rfl eg) (fun Kq hK => ?_)
                clear eg
                have e62 : act.tmps[62]?.getD undef = .agg #[.string y.name, .string y.key, .int .i64 y.kind, .int .u64 y.num, .string y.text, .slice K4 y.kids.length c4] := hk.v 62 (by kernel_rfl)
                have e65 : act.tmps[65]?.getD undef = .agg #[.string x.name, .string x.key, .int .i64 x.kind, .int .u64 x.num, .string x.text, .slice K3 x.kids.length c3] := hk.v 65 (by kernel_rfl)
                clear hk
                go_simp
                refine Calls.mono (tree_less' y x K4 K3 y.kids.length c4 x.kids.length c3 _) ?_
                rintro e W3 ⟨rfl, hx⟩
                exact hK _ _ hx (fun d hd => by cases hd; exact congrArg Value.bool hyx)
              · intro act W2 hk
                refine Flow.does_intro rfl (fun Kq hK => ?_)
                have e59 : act.tmps[59]?.getD undef = .bool false := hk.v 59 (by kernel_rfl)
                have e66 : act.tmps[66]?.getD undef = .bool false := hk.v 66 (by kernel_rfl)
                clear hk
                go_simp
                exact hK _ _ (Ext.refl _) (fun d hd => by cases hd; rfl)
              · intro act W2 hk
                refine Flow.does_intro rfl (fun Kq hK => ?_)
                have e67 : act.tmps[67]?.getD undef = .bool false := hk.v 67 (by kernel_rfl)
                clear hk
                go_simp
                exact hK _ _ (Ext.refl _) (fun d hd => by cases hd; rfl)
            · intro act V2 he
              have hxV2 := Hd.mk ((Ext.drew V1).trans he.ext)
              obtain ⟨us, hA, hF⟩ := he.out [56, 57, 58, 59, 60, 61, 62, 63, 64, 65, 66, 67, 55] (by kernel_rfl)
              simp only [Flow.fillL, List.contains_cons, List.contains_nil, Nat.reduceBEq, Bool.or_false, Bool.false_or, Bool.or_true, Bool.true_or, ↓reduceIte, Nat.reduceAdd, Bool.false_eq_true] at hA
              subst hA
              have f55 : us 55 = .bool false := hF 55 (by simp)
              clear hF he
              rw [f55]
              clear f55
              have hx2 := Hd.mk (hxV1.out.trans hxV2.out)
              have kh2 := Hd.mk (kh.out.ext hx2.out)
              have kcx2 := Hd.mk (fun (q : Nat) u hq => Ext.cell hx2.out (kcx.out q u hq))
              have hrc2 := Hd.mk (hrc.out.ext hx2.out)
              have kcy2 := Hd.mk (fun (q : Nat) u hq => Ext.cell hx2.out (kcy.out q u hq))
              have hrd2 := Hd.mk (hrd.out.ext hx2.out)
              refine (show wpList _ _ _ [] _ _ from ?_)
              go_wp2_with fail
              refine Flow.wp_region_flow_l (fun qq => match qq with
                | 18 => SP.eq (.func (.func 99) #[] #[.pointer (some ⟨O, 0, none⟩), .pointer (some ⟨Wy, 0, none⟩), .pointer (some ⟨Cb, 0, none⟩), .pointer (some ⟨Sb, 0, none⟩), .pointer (some ⟨Ed, 0, none⟩)])
                | 19 => SP.eq (.slice (some ⟨b1, o1, none⟩) m1 a1)
                | 20 => SP.eq (.pointer (some ⟨b1, o1, none⟩))
                | 21 => SP.eq (.agg #[.string x.name, .string x.key, .int .i64 x.kind, .int .u64 x.num, .string x.text, .slice K3 x.kids.length c3])
                | 22 => SP.eq (.slice (some ⟨b2, o2, none⟩) m2 a2)
                | 23 => SP.eq (.pointer (some ⟨b2, o2, none⟩))
                | 24 => SP.eq (.agg #[.string y.name, .string y.key, .int .i64 y.kind, .int .u64 y.num, .string y.text, .slice K4 y.kids.length c4])
                | _ => SP.any) 7 (by kernel_rfl) 75 rfl (by kernel_rfl) ?_ ?_
              · skip
                refine ⟨?_, ?_, ?_, ?_, ?_, ?_, ?_, trivial⟩
                · intro act W2 hk
                  refine Flow.does_intro rfl (fun Kq hK => ?_)
                  have e4 : act.tmps[4]?.getD undef = .func (.func 99) #[] #[.pointer (some ⟨O, 0, none⟩), .pointer (some ⟨Wy, 0, none⟩), .pointer (some ⟨Cb, 0, none⟩), .pointer (some ⟨Sb, 0, none⟩), .pointer (some ⟨Ed, 0, none⟩)] := hk.o 4 (by kernel_rfl)
                  clear hk
                  go_simp
                  exact hK _ _ (Ext.refl _) (fun d hd => by cases hd; rfl)
                · intro act W2 hk
                  refine Flow.does_intro rfl (fun Kq hK => ?_)
                  have e0 : act.tmps[0]?.getD undef = .slice (some ⟨b1, o1, none⟩) m1 a1 := hk.o 0 (by kernel_rfl)
                  clear hk
                  go_simp
                  exact hK _ _ (Ext.refl _) (fun d hd => by cases hd; rfl)
                · intro act W2 hk
                  refine Flow.does_intro rfl (fun Kq hK => ?_)
                  have e19 : act.tmps[19]?.getD undef = .slice (some ⟨b1, o1, none⟩) m1 a1 := hk.v 19 (by kernel_rfl)
                  clear hk
                  go_simp
                  exact hK _ _ (Ext.refl _) (fun d hd => by cases hd; rfl)
                · intro act W2 hk
                  refine Flow.does_intro rfl (fun Kq hK => ?_)
                  have e20 : act.tmps[20]?.getD undef = .pointer (some ⟨b1, o1, none⟩) := hk.v 20 (by kernel_rfl)
                  have g0 := Ext.cell ((Ext.drew V2).trans hk.ext) ((kcx2.out) 0 _ rfl)
                  rw [Nat.add_zero] at g0
                  have g1 := Ext.cell ((Ext.drew V2).trans hk.ext) ((kcx2.out) 1 _ rfl)
                  have g2 := Ext.cell ((Ext.drew V2).trans hk.ext) ((kcx2.out) 2 _ rfl)
                  have g3 := Ext.cell ((Ext.drew V2).trans hk.ext) ((kcx2.out) 3 _ rfl)
                  have g4 := Ext.cell ((Ext.drew V2).trans hk.ext) ((kcx2.out) 4 _ rfl)
                  have g5 := Ext.cell ((Ext.drew V2).trans hk.ext) ((kcx2.out) 5 _ rfl)
                  clear hk
                  go_simp
                  exact hK _ _ (Ext.refl _) (fun d hd => by cases hd; rfl)
                · intro act W2 hk
                  refine Flow.does_intro rfl (fun Kq hK => ?_)
                  have e1 : act.tmps[1]?.getD undef = .slice (some ⟨b2, o2, none⟩) m2 a2 := hk.o 1 (by kernel_rfl)
                  clear hk
                  go_simp
                  exact hK _ _ (Ext.refl _) (fun d hd => by cases hd; rfl)
                · intro act W2 hk
                  refine Flow.does_intro rfl (fun Kq hK => ?_)
                  have e22 : act.tmps[22]?.getD undef = .slice (some ⟨b2, o2, none⟩) m2 a2 := hk.v 22 (by kernel_rfl)
                  clear hk
                  go_simp
                  exact hK _ _ (Ext.refl _) (fun d hd => by cases hd; rfl)
                · intro act W2 hk
                  refine Flow.does_intro rfl (fun Kq hK => ?_)
                  have e23 : act.tmps[23]?.getD undef = .pointer (some ⟨b2, o2, none⟩) := hk.v 23 (by kernel_rfl)
                  have g0 := Ext.cell ((Ext.drew V2).trans hk.ext) ((kcy2.out) 0 _ rfl)
                  rw [Nat.add_zero] at g0
                  have g1 := Ext.cell ((Ext.drew V2).trans hk.ext) ((kcy2.out) 1 _ rfl)
                  have g2 := Ext.cell ((Ext.drew V2).trans hk.ext) ((kcy2.out) 2 _ rfl)
                  have g3 := Ext.cell ((Ext.drew V2).trans hk.ext) ((kcy2.out) 3 _ rfl)
                  have g4 := Ext.cell ((Ext.drew V2).trans hk.ext) ((kcy2.out) 4 _ rfl)
                  have g5 := Ext.cell ((Ext.drew V2).trans hk.ext) ((kcy2.out) 5 _ rfl)
                  clear hk
                  go_simp
                  exact hK _ _ (Ext.refl _) (fun d hd => by cases hd; rfl)
              · intro act V3 he
                have hxV3 := Hd.mk ((Ext.drew V2).trans he.ext)
                obtain ⟨us, hA, hF⟩ := he.out [18, 19, 20, 21, 22, 23, 24] (by kernel_rfl)
                simp only [Flow.fillL, List.contains_cons, List.contains_nil, Nat.reduceBEq, Bool.or_false, Bool.false_or, Bool.or_true, Bool.true_or, ↓reduceIte, Nat.reduceAdd, Bool.false_eq_true] at hA
                subst hA
                have f18 : us 18 = .func (.func 99) #[] #[.pointer (some ⟨O, 0, none⟩), .pointer (some ⟨Wy, 0, none⟩), .pointer (some ⟨Cb, 0, none⟩), .pointer (some ⟨Sb, 0, none⟩), .pointer (some ⟨Ed, 0, none⟩)] := hF 18 (by simp)
                have f19 : us 19 = .slice (some ⟨b1, o1, none⟩) m1 a1 := hF 19 (by simp)
                have f20 : us 20 = .pointer (some ⟨b1, o1, none⟩) := hF 20 (by simp)
                have f21 : us 21 = .agg #[.string x.name, .string x.key, .int .i64 x.kind, .int .u64 x.num, .string x.text, .slice K3 x.kids.length c3] := hF 21 (by simp)
                have f22 : us 22 = .slice (some ⟨b2, o2, none⟩) m2 a2 := hF 22 (by simp)
                have f23 : us 23 = .pointer (some ⟨b2, o2, none⟩) := hF 23 (by simp)
                have f24 : us 24 = .agg #[.string y.name, .string y.key, .int .i64 y.kind, .int .u64 y.num, .string y.text, .slice K4 y.kids.length c4] := hF 24 (by simp)
                clear hF he
                rw [f18]
                clear f18
                rw [f19]
                clear f19
                rw [f20]
                clear f20
                rw [f21]
                clear f21
                rw [f22]
                clear f22
                rw [f23]
                clear f23
                rw [f24]
                clear f24
                have hx3 := Hd.mk (hx2.out.trans hxV3.out)
                have kh3 := Hd.mk (kh.out.ext hx3.out)
                have hrc3 := Hd.mk (hrc.out.ext hx3.out)
                have hrd3 := Hd.mk (hrd.out.ext hx3.out)
                clear kh2 hrc2 hrd2 kcx2 kcy2
                refine (show wpList _ _ _ (⟨some 25, .call { callee := .value (.tmp 18), args := #[.tmp 21, .tmp 24], argTypes := #[54, 54] }, _, _, _, none⟩ :: []) _ _ from ?_)
                go_wp2_with fail
                refine Calls.mono (both_any N ih.out kh3.out hrc3.out hrd3.out (by have := kl.out.deep; rw [deepL_cons] at this; omega) (by have := kl.out.wl; rw [deepL_cons] at this; omega) (by have := kl.out.el; have h8 := sizeL_cons x xs; have h9 := sizeL_cons y ys; omega)) ?_
                rintro e w5 ⟨rfl, v5, css5, ho5, hf5⟩
                have kh5 := Hd.mk (kh3.out.fr ho5 hf5)
                have kf5 := Hd.mk ((kf.out.trans (Fr.of_ext hx3.out)).trans hf5)
                have kl5 := Hd.mk (kl.out.next_b (w' := w5) (fun _ _ _ h => kh3.out.argr hf5 (h.ext hx3.out)) hxy hyx)
                clear ho5 hf5 hrc3 hrd3 kh3
                go_wp2_with fail
                refine Flow.wp_region_flow_l (fun qq => match qq with
                  | 26 => SP.eq (.slice (some ⟨b1, o1, none⟩) m1 a1)
                  | 27 => SP.eq (.slice (if a1 = 1 then some ⟨b1, o1, none⟩ else some ⟨b1, o1 + 6, none⟩) (m1 - 1) (a1 - 1))
                  | 28 => SP.eq (.slice (some ⟨b2, o2, none⟩) m2 a2)
                  | 29 => SP.eq (.slice (if a2 = 1 then some ⟨b2, o2, none⟩ else some ⟨b2, o2 + 6, none⟩) (m2 - 1) (a2 - 1))
                  | 0 => SP.eq (.slice (if a1 = 1 then some ⟨b1, o1, none⟩ else some ⟨b1, o1 + 6, none⟩) (m1 - 1) (a1 - 1))
                  | 1 => SP.eq (.slice (if a2 = 1 then some ⟨b2, o2, none⟩ else some ⟨b2, o2 + 6, none⟩) (m2 - 1) (a2 - 1))
                  | _ => SP.any) 6 (by kernel_rfl) 75 rfl (by kernel_rfl) ?_ ?_
                · skip
                  refine ⟨?_, ?_, ?_, ?_, ?_, ?_, trivial⟩
                  · intro act W2 hk
                    refine Flow.does_intro rfl (fun Kq hK => ?_)
                    have e0 : act.tmps[0]?.getD undef = .slice (some ⟨b1, o1, none⟩) m1 a1 := hk.o 0 (by kernel_rfl)
                    clear hk
                    go_simp
                    exact hK _ _ (Ext.refl _) (fun d hd => by cases hd; rfl)
                  · intro act W2 hk
                    refine Flow.does_intro rfl (fun Kq hK => ?_)
                    have e26 : act.tmps[26]?.getD undef = .slice (some ⟨b1, o1, none⟩) m1 a1 := hk.v 26 (by kernel_rfl)
                    clear hk
                    go_simp
                    exact hK _ _ (Ext.refl _) (fun d hd => by cases hd; rfl)
                  · intro act W2 hk
                    refine Flow.does_intro rfl (fun Kq hK => ?_)
                    have e1 : act.tmps[1]?.getD undef = .slice (some ⟨b2, o2, none⟩) m2 a2 := hk.o 1 (by kernel_rfl)
                    clear hk
                    go_simp
                    exact hK _ _ (Ext.refl _) (fun d hd => by cases hd; rfl)
                  · intro act W2 hk
                    refine Flow.does_intro rfl (fun Kq hK => ?_)
                    have e28 : act.tmps[28]?.getD undef = .slice (some ⟨b2, o2, none⟩) m2 a2 := hk.v 28 (by kernel_rfl)
                    clear hk
                    go_simp
                    exact hK _ _ (Ext.refl _) (fun d hd => by cases hd; rfl)
                  · intro act W2 hk
                    refine Flow.does_intro rfl (fun Kq hK => ?_)
                    have e27 : act.tmps[27]?.getD undef = .slice (if a1 = 1 then some ⟨b1, o1, none⟩ else some ⟨b1, o1 + 6, none⟩) (m1 - 1) (a1 - 1) := hk.v 27 (by kernel_rfl)
                    clear hk
                    go_simp
                    exact hK _ _ (Ext.refl _) (fun d hd => by cases hd; rfl)
                  · intro act W2 hk
                    refine Flow.does_intro rfl (fun Kq hK => ?_)
                    have e29 : act.tmps[29]?.getD undef = .slice (if a2 = 1 then some ⟨b2, o2, none⟩ else some ⟨b2, o2 + 6, none⟩) (m2 - 1) (a2 - 1) := hk.v 29 (by kernel_rfl)
                    clear hk
                    go_simp
                    exact hK _ _ (Ext.refl _) (fun d hd => by cases hd; rfl)
                · intro act V6 he
                  have hxV6 := Hd.mk ((Ext.drew w5).trans he.ext)
                  obtain ⟨us, hA, hF⟩ := he.out [26, 27, 28, 29, 0, 1] (by kernel_rfl)
                  simp only [Flow.fillL, List.contains_cons, List.contains_nil, Nat.reduceBEq, Bool.or_false, Bool.false_or, Bool.or_true, Bool.true_or, ↓reduceIte, Nat.reduceAdd, Bool.false_eq_true] at hA
                  subst hA
                  have f0 : us 0 = .slice (if a1 = 1 then some ⟨b1, o1, none⟩ else some ⟨b1, o1 + 6, none⟩) (m1 - 1) (a1 - 1) := hF 0 (by simp)
                  have f1 : us 1 = .slice (if a2 = 1 then some ⟨b2, o2, none⟩ else some ⟨b2, o2 + 6, none⟩) (m2 - 1) (a2 - 1) := hF 1 (by simp)
                  clear hF he
                  rw [f0]
                  clear f0
                  rw [f1]
                  clear f1
                  refine (show wpList _ _ _ [] _ _ from ?_)
                  have kh6 := Hd.mk (kh5.out.ext hxV6.out)
                  have kf6 := Hd.mk (kf5.out.trans (Fr.of_ext hxV6.out))
                  have kl6 := Hd.mk (kl5.out.ext hxV6.out)
                  generalize (if a1 = 1 then some (⟨b1, o1, none⟩ : Addr) else some ⟨b1, o1 + 6, none⟩) = Q1 at *
                  generalize (if a2 = 1 then some (⟨b2, o2, none⟩ : Addr) else some ⟨b2, o2 + 6, none⟩) = Q2 at *
                  go_wp2_with fail
                  go_roundg (m1 - 1 + (m2 - 1))
                  case measure => have := hq.out; omega
                  case rel => exact ⟨xs, ys, _, m1 - 1, _, _, m2 - 1, _, v5, css5, _, ⟨rfl⟩, rfl, rfl, kl6, kh6, kf6⟩
end Go.Proofs.Ytgkgedjmnbjalaa
set_option linter.unusedSimpArgs false
namespace Go.Proofs.Ytgkgedjmnbjalaa
open Go.RowKit Go.Sort
theorem deepL_kids (t : T) : deepL t.kids + 1 = t.deep := by rw [t.deep_eq]; omega
set_option maxRecDepth 100000 in
set_option maxHeartbeats 4000000 in
theorem edits_at : ∀ N, EditsAt N
  | 0 => fun B O Ed w v css es way A c a b ca cb hd _ _ _ _ _ _ _ => by rw [a.deep_eq] at hd; omega
  | N + 1 => by
    intro B O Ed w v css es way A c a b ca cb hd ho hE hW ha hb hwl hes
    obtain ⟨K1, c1, rfl, hr1⟩ := ha.row
    obtain ⟨K2, c2, rfl, hr2⟩ := hb.row
    have ko := Hd.mk ho
    have kE := Hd.mk hE
    have kW := Hd.mk hW
    have kr1 := Hd.mk hr1
    have kr2 := Hd.mk hr2
    have ih := Hd.mk (edits_at N)
    have hdk := Hd.mk (deepL_kids a)
    have hd := Hd.mk hd
    have hwl := Hd.mk hwl
    have hes := Hd.mk hes
    have hsa := Hd.mk a.size_eq
    have hsb := Hd.mk b.size_eq
    clear ho hE hW hr1 hr2 ha hb
    simp only [cT]
    go_enter Try.func93, Try.ntmps93
    go_wp2_with fail
    have kx := Hd.mk (show Ext w (((((w.alloc (.cells #[.string a.name, .string a.key, .int .i64 a.kind, .int .u64 a.num, .string a.text, .slice K1 a.kids.length c1] 54)).alloc (.cells #[.string b.name, .string b.key, .int .i64 b.kind, .int .u64 b.num, .string b.text, .slice K2 b.kids.length c2] 54)).alloc (.cells #[.slice A way.length c] 59)).alloc (.cells #[.func (.func 94) #[] #[.pointer (some ⟨O, 0, none⟩), .pointer (some ⟨w.heap.size + 1 + 1, 0, none⟩)]] 85)).alloc (.cells #[.func (.func 97) #[] #[.pointer (some ⟨O, 0, none⟩), .pointer (some ⟨w.heap.size + 1 + 1, 0, none⟩)]] 85)) from ((((Ext.alloc _ _).trans (Ext.alloc _ _)).trans (Ext.alloc _ _)).trans (Ext.alloc _ _)).trans (Ext.alloc _ _))
    have q3 : Blk (((((w.alloc (.cells #[.string a.name, .string a.key, .int .i64 a.kind, .int .u64 a.num, .string a.text, .slice K1 a.kids.length c1] 54)).alloc (.cells #[.string b.name, .string b.key, .int .i64 b.kind, .int .u64 b.num, .string b.text, .slice K2 b.kids.length c2] 54)).alloc (.cells #[.slice A way.length c] 59)).alloc (.cells #[.func (.func 94) #[] #[.pointer (some ⟨O, 0, none⟩), .pointer (some ⟨w.heap.size + 1 + 1, 0, none⟩)]] 85)).alloc (.cells #[.func (.func 97) #[] #[.pointer (some ⟨O, 0, none⟩), .pointer (some ⟨w.heap.size + 1 + 1, 0, none⟩)]] 85)) (w.heap.size + 1 + 1) [.slice A way.length c] 59 := by
      have := ((Blk.new ((w.alloc (.cells #[.string a.name, .string a.key, .int .i64 a.kind, .int .u64 a.num, .string a.text, .slice K1 a.kids.length c1] 54)).alloc (.cells #[.string b.name, .string b.key, .int .i64 b.kind, .int .u64 b.num, .string b.text, .slice K2 b.kids.length c2] 54)) #[.slice A way.length c] 59).alloc (.cells #[.func (.func 94) #[] #[.pointer (some ⟨O, 0, none⟩), .pointer (some ⟨w.heap.size + 1 + 1, 0, none⟩)]] 85)).alloc (.cells #[.func (.func 97) #[] #[.pointer (some ⟨O, 0, none⟩), .pointer (some ⟨w.heap.size + 1 + 1, 0, none⟩)]] 85)
      rw [World.size_alloc, World.size_alloc] at this
      exact this
    have q4 : Blk (((((w.alloc (.cells #[.string a.name, .string a.key, .int .i64 a.kind, .int .u64 a.num, .string a.text, .slice K1 a.kids.length c1] 54)).alloc (.cells #[.string b.name, .string b.key, .int .i64 b.kind, .int .u64 b.num, .string b.text, .slice K2 b.kids.length c2] 54)).alloc (.cells #[.slice A way.length c] 59)).alloc (.cells #[.func (.func 94) #[] #[.pointer (some ⟨O, 0, none⟩), .pointer (some ⟨w.heap.size + 1 + 1, 0, none⟩)]] 85)).alloc (.cells #[.func (.func 97) #[] #[.pointer (some ⟨O, 0, none⟩), .pointer (some ⟨w.heap.size + 1 + 1, 0, none⟩)]] 85)) (w.heap.size + 1 + 1 + 1) [.func (.func 94) #[] #[.pointer (some ⟨O, 0, none⟩), .pointer (some ⟨w.heap.size + 1 + 1, 0, none⟩)]] 85 := by
      have := (Blk.new (((w.alloc (.cells #[.string a.name, .string a.key, .int .i64 a.kind, .int .u64 a.num, .string a.text, .slice K1 a.kids.length c1] 54)).alloc (.cells #[.string b.name, .string b.key, .int .i64 b.kind, .int .u64 b.num, .string b.text, .slice K2 b.kids.length c2] 54)).alloc (.cells #[.slice A way.length c] 59)) #[.func (.func 94) #[] #[.pointer (some ⟨O, 0, none⟩), .pointer (some ⟨w.heap.size + 1 + 1, 0, none⟩)]] 85).alloc (.cells #[.func (.func 97) #[] #[.pointer (some ⟨O, 0, none⟩), .pointer (some ⟨w.heap.size + 1 + 1, 0, none⟩)]] 85)
      rw [World.size_alloc, World.size_alloc, World.size_alloc] at this
      exact this
    have q5 : Blk (((((w.alloc (.cells #[.string a.name, .string a.key, .int .i64 a.kind, .int .u64 a.num, .string a.text, .slice K1 a.kids.length c1] 54)).alloc (.cells #[.string b.name, .string b.key, .int .i64 b.kind, .int .u64 b.num, .string b.text, .slice K2 b.kids.length c2] 54)).alloc (.cells #[.slice A way.length c] 59)).alloc (.cells #[.func (.func 94) #[] #[.pointer (some ⟨O, 0, none⟩), .pointer (some ⟨w.heap.size + 1 + 1, 0, none⟩)]] 85)).alloc (.cells #[.func (.func 97) #[] #[.pointer (some ⟨O, 0, none⟩), .pointer (some ⟨w.heap.size + 1 + 1, 0, none⟩)]] 85)) (w.heap.size + 1 + 1 + 1 + 1) [.func (.func 97) #[] #[.pointer (some ⟨O, 0, none⟩), .pointer (some ⟨w.heap.size + 1 + 1, 0, none⟩)]] 85 := by
      have := Blk.new ((((w.alloc (.cells #[.string a.name, .string a.key, .int .i64 a.kind, .int .u64 a.num, .string a.text, .slice K1 a.kids.length c1] 54)).alloc (.cells #[.string b.name, .string b.key, .int .i64 b.kind, .int .u64 b.num, .string b.text, .slice K2 b.kids.length c2] 54)).alloc (.cells #[.slice A way.length c] 59)).alloc (.cells #[.func (.func 94) #[] #[.pointer (some ⟨O, 0, none⟩), .pointer (some ⟨w.heap.size + 1 + 1, 0, none⟩)]] 85)) #[.func (.func 97) #[] #[.pointer (some ⟨O, 0, none⟩), .pointer (some ⟨w.heap.size + 1 + 1, 0, none⟩)]] 85
      rw [World.size_alloc, World.size_alloc, World.size_alloc, World.size_alloc] at this
      exact this
    have q3 := Hd.mk (Aside.new ko.out (by omega) q3)
    have q4 := Hd.mk (Aside.new ko.out (by omega) q4)
    have q5 := Hd.mk (Aside.new ko.out (by omega) q5)
    generalize (((((w.alloc (.cells #[.string a.name, .string a.key, .int .i64 a.kind, .int .u64 a.num, .string a.text, .slice K1 a.kids.length c1] 54)).alloc (.cells #[.string b.name, .string b.key, .int .i64 b.kind, .int .u64 b.num, .string b.text, .slice K2 b.kids.length c2] 54)).alloc (.cells #[.slice A way.length c] 59)).alloc (.cells #[.func (.func 94) #[] #[.pointer (some ⟨O, 0, none⟩), .pointer (some ⟨w.heap.size + 1 + 1, 0, none⟩)]] 85)).alloc (.cells #[.func (.func 97) #[] #[.pointer (some ⟨O, 0, none⟩), .pointer (some ⟨w.heap.size + 1 + 1, 0, none⟩)]] 85)) = W at *
    have henv : Env2 B O (w.heap.size + 1 + 1) (w.heap.size + 1 + 1 + 1) (w.heap.size + 1 + 1 + 1 + 1) Ed W v css es way A c :=
      ⟨⟨ko.out.ext kx.out, q3.out.blk, q3.out.ne1, q3.out.ne2, kW.out.ext kx.out⟩, q4.out, q5.out, kE.out.ext kx.out⟩
    have hleft : Left N B W way K1 K2 a.kids b.kids a.kids.length c1 b.kids.length c2 (es ++ edits (N + 1) a b way) es :=
      ⟨kr1.out.ext kx.out, kr2.out.ext kx.out, rfl, rfl, rfl, by have := hdk.out; have := hd.out; omega, by have := hdk.out; have := hwl.out; omega, by have := hsa.out; have := hsb.out; have := hes.out; omega⟩
    refine Calls.mono (pairs_any N ih.out henv hleft) ?_
    rintro e w6 ⟨rfl, v6, css6, ho6, hf6⟩
    have ho6 := Hd.mk ho6
    have hf6 := Hd.mk ((Fr.of_ext kx.out).trans hf6)
    clear henv hleft q3 q4 q5 kx
    go_wp2_with fail
    go_end0
    exact ⟨rfl, v6, css6, ho6.out, hf6.out⟩
structure ERow (S : Nat → Prop) (w : World) (A : Option Addr) (es : List E) (c : Nat) : Prop where
  cap : es.length ≤ c
  len : es.length ≤ 1048576
  nul : A = none → c = 0
  edit : ∀ (i : Nat) e, es[i]? = some e → ∃ b off d, A = some ⟨b, off, none⟩ ∧ S b ∧ RE S w e d ∧ ∀ j v, d[j]? = some v → w.cell? ⟨b, off + i * 14 + j, none⟩ = some v
theorem ERow.keep {S S' : Nat → Prop} {w w' : World} (hk : ∀ b off v, S b → w.cell? ⟨b, off, none⟩ = some v → S' b ∧ w'.cell? ⟨b, off, none⟩ = some v) {A : Option Addr} {l : List E} {c : Nat} (h : ERow S w A l c) : ERow S' w' A l c :=
  ⟨h.cap, h.len, h.nul, fun i e hi => by
    obtain ⟨b, off, d, h1, h2, h3, h4⟩ := h.edit i e hi
    have h14 := h3.len
    refine ⟨b, off, d, h1, ?_, h3.keep hk, fun j v hv => (hk b _ v h2 (h4 j v hv)).2⟩
    cases d with
    | nil => simp at h14
    | cons v d => exact (hk b _ v h2 (h4 0 v (by simp))).1⟩
theorem ERow.ext {S : Nat → Prop} {w w' : World} (hx : Ext w w') {A : Option Addr} {l : List E} {c : Nat} (h : ERow S w A l c) : ERow S w' A l c := h.keep fun _ _ _ hb hc => ⟨hb, Ext.cell hx hc⟩
theorem Outs.row {B O : Nat} {w : World} {v : Value} {css : List (List Value)} {es : List E} (hl : es.length ≤ 1048576) (h : Outs B O w v css es) : ∃ A c, v = .slice A es.length c ∧ ERow (fun _ => True) w A es c := by
  obtain ⟨A, c, h1, h2, h3, h4⟩ := own_slice h.own
  refine ⟨A, c, h1, h2, hl, h3, fun i e hi => ?_⟩
  have hlt := (List.getElem?_eq_some_iff.1 hi).1
  obtain ⟨g, sp, e1, e2, e3⟩ := h4 (by omega)
  have hlt' : i < css.length := by rw [h.len]; exact hlt
  have hci := List.getElem?_eq_getElem hlt'
  refine ⟨g, 0, css[i], e1, trivial, (h.each i e _ hi hci).mono (fun _ _ _ => trivial), fun j v hv => ?_⟩
  have h5 := flatten_get css h.c14 i _ hci j v hv
  rw [e3.cell, Nat.zero_add, List.getElem?_append_left (List.getElem?_eq_some_iff.1 h5).1]
  exact h5
def EdPost (es : List E) (w w' : World) (v : Value) : Prop := ∃ A c, v = .slice A es.length c ∧ ERow (fun _ => True) w' A es c ∧ Ext w w'
set_option maxRecDepth 100000 in
set_option maxHeartbeats 4000000 in
theorem diff_edits {N : Nat} {S : Nat → Prop} {w : World} {a b : T} {ca cb : List Value} (hd : a.deep ≤ N) (ha : RT S w a ca) (hb : RT S w b cb) (hdb : a.deep ≤ 1000000) (hes : a.size + b.size ≤ 1000000) :
    Calls Try.prog 40 #[.agg ca.toArray, .agg cb.toArray] w (Ret (EdPost (edits N a b []) w)) := by
  obtain ⟨K1, c1, rfl, hr1⟩ := ha.row
  obtain ⟨K2, c2, rfl, hr2⟩ := hb.row
  have ka := Hd.mk (ha.mono (S' := (· < w.heap.size)) (fun b hb _ => hb))
  have kb := Hd.mk (hb.mono (S' := (· < w.heap.size)) (fun b hb _ => hb))
  have hd := Hd.mk hd
  have hdb := Hd.mk hdb
  have hes := Hd.mk hes
  have hlen := Hd.mk (edits_len N a b [])
  clear hr1 hr2 ha hb
  simp only [cT] at ka kb ⊢
  go_enter Try.func40, Try.ntmps40
  go_wp2_with fail
  have kx := Hd.mk (show Ext w ((((w.alloc (.cells #[.string a.name, .string a.key, .int .i64 a.kind, .int .u64 a.num, .string a.text, .slice K1 a.kids.length c1] 54)).alloc (.cells #[.string b.name, .string b.key, .int .i64 b.kind, .int .u64 b.num, .string b.text, .slice K2 b.kids.length c2] 54)).alloc (.cells #[.slice none 0 0] 57)).alloc (.cells #[.func (.func 93) #[] #[.pointer (some ⟨w.heap.size + 1 + 1, 0, none⟩), .pointer (some ⟨w.heap.size + 1 + 1 + 1, 0, none⟩)]] 113)) from (((Ext.alloc _ _).trans (Ext.alloc _ _)).trans (Ext.alloc _ _)).trans (Ext.alloc _ _))
  have q3 : Blk ((((w.alloc (.cells #[.string a.name, .string a.key, .int .i64 a.kind, .int .u64 a.num, .string a.text, .slice K1 a.kids.length c1] 54)).alloc (.cells #[.string b.name, .string b.key, .int .i64 b.kind, .int .u64 b.num, .string b.text, .slice K2 b.kids.length c2] 54)).alloc (.cells #[.slice none 0 0] 57)).alloc (.cells #[.func (.func 93) #[] #[.pointer (some ⟨w.heap.size + 1 + 1, 0, none⟩), .pointer (some ⟨w.heap.size + 1 + 1 + 1, 0, none⟩)]] 113)) (w.heap.size + 1 + 1) [.slice none 0 0] 57 := by
    have := (Blk.new ((w.alloc (.cells #[.string a.name, .string a.key, .int .i64 a.kind, .int .u64 a.num, .string a.text, .slice K1 a.kids.length c1] 54)).alloc (.cells #[.string b.name, .string b.key, .int .i64 b.kind, .int .u64 b.num, .string b.text, .slice K2 b.kids.length c2] 54)) #[.slice none 0 0] 57).alloc (.cells #[.func (.func 93) #[] #[.pointer (some ⟨w.heap.size + 1 + 1, 0, none⟩), .pointer (some ⟨w.heap.size + 1 + 1 + 1, 0, none⟩)]] 113)
    rw [World.size_alloc, World.size_alloc] at this
    exact this
  have q4 : Blk ((((w.alloc (.cells #[.string a.name, .string a.key, .int .i64 a.kind, .int .u64 a.num, .string a.text, .slice K1 a.kids.length c1] 54)).alloc (.cells #[.string b.name, .string b.key, .int .i64 b.kind, .int .u64 b.num, .string b.text, .slice K2 b.kids.length c2] 54)).alloc (.cells #[.slice none 0 0] 57)).alloc (.cells #[.func (.func 93) #[] #[.pointer (some ⟨w.heap.size + 1 + 1, 0, none⟩), .pointer (some ⟨w.heap.size + 1 + 1 + 1, 0, none⟩)]] 113)) (w.heap.size + 1 + 1 + 1) [.func (.func 93) #[] #[.pointer (some ⟨w.heap.size + 1 + 1, 0, none⟩), .pointer (some ⟨w.heap.size + 1 + 1 + 1, 0, none⟩)]] 113 := by
    have := Blk.new (((w.alloc (.cells #[.string a.name, .string a.key, .int .i64 a.kind, .int .u64 a.num, .string a.text, .slice K1 a.kids.length c1] 54)).alloc (.cells #[.string b.name, .string b.key, .int .i64 b.kind, .int .u64 b.num, .string b.text, .slice K2 b.kids.length c2] 54)).alloc (.cells #[.slice none 0 0] 57)) #[.func (.func 93) #[] #[.pointer (some ⟨w.heap.size + 1 + 1, 0, none⟩), .pointer (some ⟨w.heap.size + 1 + 1 + 1, 0, none⟩)]] 113
    rw [World.size_alloc, World.size_alloc, World.size_alloc] at this
    exact this
  have q3 := Hd.mk q3
  have q4 := Hd.mk q4
  generalize ((((w.alloc (.cells #[.string a.name, .string a.key, .int .i64 a.kind, .int .u64 a.num, .string a.text, .slice K1 a.kids.length c1] 54)).alloc (.cells #[.string b.name, .string b.key, .int .i64 b.kind, .int .u64 b.num, .string b.text, .slice K2 b.kids.length c2] 54)).alloc (.cells #[.slice none 0 0] 57)).alloc (.cells #[.func (.func 93) #[] #[.pointer (some ⟨w.heap.size + 1 + 1, 0, none⟩), .pointer (some ⟨w.heap.size + 1 + 1 + 1, 0, none⟩)]] 113)) = W at *
  have ho : Outs w.heap.size (w.heap.size + 1 + 1) W (.slice none 0 0) [] [] := ⟨q3.out, by omega, rfl, by simp, ⟨rfl, .inl ⟨rfl, rfl⟩⟩, fun i e c h => by simp at h, by simp [Value.ownBlock]⟩
  have hE : Aside (w.heap.size + 1 + 1) W (.slice none 0 0) (w.heap.size + 1 + 1 + 1) (.func (.func 93) #[] #[.pointer (some ⟨w.heap.size + 1 + 1, 0, none⟩), .pointer (some ⟨w.heap.size + 1 + 1 + 1, 0, none⟩)]) 113 := ⟨q4.out, by omega, by simp [Value.ownBlock]⟩
  refine Calls.mono (edits_at N _ _ _ W _ [] [] [] none 0 a b _ _ hd.out ho hE (WRow.nil _ _ _ _ (fun _ => rfl)) (ka.out.ext kx.out) (kb.out.ext kx.out) (by simpa using hdb.out) (by simpa using hes.out)) ?_
  rintro e w6 ⟨rfl, v6, css6, ho6, hf6⟩
  rw [List.nil_append] at ho6
  obtain ⟨A6, c6, rfl, hrow⟩ := ho6.row (by have := hlen.out; have := hes.out; omega)
  have kO := Hd.mk ho6.box
  have hrow := Hd.mk hrow
  have hxx := Hd.mk (show Ext w w6 from Below.trans kx.out (hf6.below (by omega) kx.out.size (fun k hk => by simp [Value.ownBlock] at hk)))
  clear ho hE ho6 hf6 q3 q4 kx
  have gO := kO.out.cell
  go_wp2_with fail
  go_ret
  exact ⟨_, rfl, A6, c6, rfl, hrow.out, hxx.out⟩
end Go.Proofs.Ytgkgedjmnbjalaa
set_option linter.unusedSimpArgs false
namespace Go.Proofs.Ytgkgedjmnbjalaa
open Go.RowKit Go.ChangeShapes Go.WideShapes
variable {H : Type} {enc : TypeId × Value → H} {W : World} {base : Nat} {spare : Nat → Bool} {held : Bool}
theorem rows_open {α : Type} {P : α → List Value → Prop} {m : Nat} (hm : 0 < m) (hP : ∀ t c, P t c → c.length = m) {a : Addr} {elems : List (DataW H × List MemPlace)}
    (hone : ∀ (i : Nat) (y : DataW H × List MemPlace), elems[i]? = some y → ∃ (c : List Value) (t : α), P t c ∧ (∀ q v, c[q]? = some v → W.cell? ((a.add (i * m)).add q) = some v)) :
    ∃ ts : List α, ts.length = elems.length ∧ ∀ (i : Nat) t, ts[i]? = some t → ∃ b off c, some a = some (⟨b, off, none⟩ : Addr) ∧ P t c ∧ ∀ q v, c[q]? = some v → W.cell? ⟨b, off + i * m + q, none⟩ = some v := by
  have hall : ∀ (l : List (DataW H × List MemPlace)) (s : Nat), (∀ (i : Nat) (y : DataW H × List MemPlace), l[i]? = some y → elems[s + i]? = some y) → ∃ ts : List α, ts.length = l.length ∧
      ∀ (i : Nat) t, ts[i]? = some t → ∃ c, P t c ∧ ∀ q v, c[q]? = some v → W.cell? ((a.add ((s + i) * m)).add q) = some v := by
    intro l
    induction l with
    | nil => intro s _; exact ⟨[], rfl, by simp⟩
    | cons y l ihl =>
      intro s hl
      obtain ⟨c, t, h1, h3⟩ := hone s y (by have := hl 0 y rfl; simpa using this)
      obtain ⟨ts, q2, q4⟩ := ihl (s + 1) (fun i z hi => by have := hl (i + 1) z (by simpa using hi); rw [show s + 1 + i = s + (i + 1) by omega]; exact this)
      refine ⟨t :: ts, by simp [q2], fun i u hu => ?_⟩
      cases i with
      | zero => simp at hu; subst hu; exact ⟨c, h1, h3⟩
      | succ i =>
        obtain ⟨d, r1, r2⟩ := q4 i u (by simpa using hu)
        refine ⟨d, r1, ?_⟩
        rw [show s + (i + 1) = s + 1 + i by omega]
        exact r2
  obtain ⟨ts, q2, q4⟩ := hall elems 0 (fun i y hi => by rw [Nat.zero_add]; exact hi)
  refine ⟨ts, q2, fun i t hi => ?_⟩
  obtain ⟨c, h1, h2⟩ := q4 i t hi
  have h6 := hP _ _ h1
  obtain ⟨b, off, spot⟩ := a
  have hlt0 : 0 < ts.length := by have := (List.getElem?_eq_some_iff.1 hi).1; omega
  obtain ⟨d, z1, z2⟩ := q4 0 _ (List.getElem?_eq_getElem hlt0)
  have z6 := hP _ _ z1
  have hs : spot = none := by
    cases d with
    | nil => simp at z6; omega
    | cons v d => simpa [Addr.add] using World.cell?_spot (z2 0 v rfl)
  subst hs
  refine ⟨b, off, c, rfl, h1, fun q v hv => ?_⟩
  have := h2 q v hv
  rw [Nat.zero_add, addr_add, addr_add] at this
  exact this
end Go.Proofs.Ytgkgedjmnbjalaa
set_option linter.unusedSimpArgs false
namespace Go.Proofs.Ytgkgedjmnbjalaa
open Go.RowKit Go.ChangeShapes Go.WideShapes
variable {H : Type} {enc : TypeId × Value → H} {W : World} {base : Nat} {spare : Nat → Bool} {held : Bool}
theorem cells91 : Try.prog.cellsOf 91 = 8 := by kernel_rfl
theorem list8 {cs : List Value} (h : cs.length = 8) : ∃ a b c d e f g i, cs = [a, b, c, d, e, f, g, i] := by
  match cs, h with
  | [a, b, c, d, e, f, g, i], _ => exact ⟨a, b, c, d, e, f, g, i, rfl⟩
def P28 (W : World) (s : S28) (cs : List Value) : Prop := ∃ ct : List Value, cs = .int .i64 s.kind :: .int .i64 s.n :: ct ∧ RT (fun _ => True) W s.tree ct ∧ s.tree.size ≤ 1048576
theorem step28_open {fuel : Nat} {cs : List Value} {x : DataW H × List MemPlace} (h : DataW.trod enc Try.prog W base spare held fuel 91 cs = some x) (hx : Rows.uptoBulk x.1 ≤ 1048576) :
    ∃ s : S28, P28 W s cs := by
  obtain ⟨xs, n, rfl, rfl, hl, hlen, hf⟩ := DataW.trod_struct Try.underlying91 h
  rw [cells91] at hl
  obtain ⟨c0, c1, n0, n1, n2, n3, n4, n5, rfl⟩ := list8 hl
  obtain ⟨x0, x1, x2, rfl⟩ : ∃ x0 x1 x2, xs = [x0, x1, x2] := by
    match xs, hlen with
    | [x0, x1, x2], _ => exact ⟨x0, x1, x2, rfl⟩
  have f0 := hf 0 ⟨"Kind", 3, 0, false, "", "", 0⟩ rfl
  have f1 := hf 1 ⟨"N", 3, 1, false, "", "", 8⟩ rfl
  have f2 := hf 2 ⟨"Tree", 54, 2, false, "", "", 16⟩ rfl
  simp only [cells3, cells54, List.drop_zero, List.drop_succ_cons, List.take_succ_cons, List.take_zero, List.getElem?_cons_zero, List.getElem?_cons_succ] at f0 f1 f2
  simp only [List.map_cons, List.map_nil] at hx
  rw [show ∀ l : List (DataW H), Rows.uptoBulk (.agg l) = Rows.uptoBulkAll l + 1 from fun l => by simp [Rows.uptoBulk]] at hx
  simp only [Rows.uptoBulkAll] at hx
  obtain ⟨k0, e0, -, _⟩ := DataW.trod_int Try.underlying3 f0
  obtain rfl : c0 = .int .i64 k0 := by simpa using e0
  obtain ⟨k1, e1, -, _⟩ := DataW.trod_int Try.underlying3 f1
  obtain rfl : c1 = .int .i64 k1 := by simpa using e1
  obtain ⟨t1, h1, s1⟩ := node_open _ _ _ f2 (by omega)
  exact ⟨⟨k0, k1, t1⟩, _, rfl, h1, by show t1.size ≤ _; omega⟩
theorem steps_open {fuel : Nat} {cs : List Value} {x : DataW H × List MemPlace} (h : DataW.trod enc Try.prog W base spare held fuel 86 cs = some x) (hx : Rows.uptoBulk x.1 ≤ 1048576) :
    ∃ (A : Option Addr) (c : Nat) (l : List S28), cs = [.slice A l.length c] ∧ SRow28 W A l c := by
  rcases DataW.trod_slice Try.underlying86 h with ⟨e5, rfl⟩ | ⟨a, len, cap, elems, rest, k, hk, e5, rfl, _, hlc, hcm, hel, helem, _, _⟩
  · subst e5
    exact ⟨none, 0, [], rfl, ⟨Nat.le_refl _, Nat.zero_le _, fun _ => rfl, fun i e h => by simp at h⟩⟩
  · subst hel e5
    rw [cells91] at helem
    have hx' := bulks.slice_le (elems.map (·.1)) (rest.map (·.1))
    rw [List.length_map, List.length_map] at hx'
    have hx2 := Nat.le_trans hx' hx
    have hx3 := Nat.le_trans (bulks.slice_elems (elems.map (·.1)) (rest.map (·.1))) hx
    have hsub : ∀ (i : Nat) (y : DataW H × List MemPlace), elems[i]? = some y → Rows.uptoBulk y.1 ≤ Rows.uptoBulkAll (elems.map (·.1)) := fun i y hi => bulks.part_le (List.mem_map_of_mem (List.mem_of_getElem? hi))
    have hone : ∀ (i : Nat) (y : DataW H × List MemPlace), elems[i]? = some y → ∃ (c : List Value) (s : S28), P28 W s c ∧ (∀ q v, c[q]? = some v → W.cell? ((a.add (i * 8)).add q) = some v) := by
      intro i y hi
      have hlt := (List.getElem?_eq_some_iff.1 hi).1
      have hb := helem i hlt
      rw [hi, Option.bind_eq_some_iff] at hb
      obtain ⟨c, hc, hy⟩ := hb
      obtain ⟨_, hcl, hcc⟩ := World.cells?_some hc
      obtain ⟨e, he⟩ := step28_open hy (by have := hsub i y hi; omega)
      refine ⟨c, e, he, fun q v hv => ?_⟩
      have hq := (List.getElem?_eq_some_iff.1 hv).1
      rw [hcc q (by omega), hv]
    obtain ⟨l, hl, hrow⟩ := rows_open (P := fun (s : S28) c => P28 W s c) (by omega) (fun t c h => by obtain ⟨ct, rfl, h2, _⟩ := h; rw [List.length_cons, List.length_cons, h2.len]) hone
    refine ⟨some a, cap, l, by rw [hl], ⟨by omega, by omega, fun h => (by cases h), fun i s hi => ?_⟩⟩
    obtain ⟨b, off, c, e0, ⟨ct, rfl, h1, h2⟩, h3⟩ := hrow i s hi
    exact ⟨h2, b, off, ct, e0, h1, h3⟩
end Go.Proofs.Ytgkgedjmnbjalaa
set_option linter.unusedSimpArgs false
namespace Go.Proofs.Ytgkgedjmnbjalaa
open Go.RowKit Go.Sort
theorem c14C {w w' : World} (hx : Ext w w') {b o : Nat} {x0 x1 x2 x3 x4 x5 x6 x7 x8 x9 x10 x11 x12 x13 : Value} (h : ∀ (j : Nat) v, [x0, x1, x2, x3, x4, x5, x6, x7, x8, x9, x10, x11, x12, x13][j]? = some v → w.cell? ⟨b, o + j, none⟩ = some v) :
    w'.cell? ⟨b, o, none⟩ = some x0 ∧ w'.cell? ⟨b, o + 1, none⟩ = some x1 ∧ w'.cell? ⟨b, o + 2, none⟩ = some x2 ∧ w'.cell? ⟨b, o + 3, none⟩ = some x3 ∧ w'.cell? ⟨b, o + 4, none⟩ = some x4 ∧ w'.cell? ⟨b, o + 5, none⟩ = some x5 ∧ w'.cell? ⟨b, o + 6, none⟩ = some x6 ∧
      w'.cell? ⟨b, o + 7, none⟩ = some x7 ∧ w'.cell? ⟨b, o + 8, none⟩ = some x8 ∧ w'.cell? ⟨b, o + 9, none⟩ = some x9 ∧ w'.cell? ⟨b, o + 10, none⟩ = some x10 ∧ w'.cell? ⟨b, o + 11, none⟩ = some x11 ∧ w'.cell? ⟨b, o + 12, none⟩ = some x12 ∧ w'.cell? ⟨b, o + 13, none⟩ = some x13 :=
  ⟨Ext.cell hx (h 0 _ rfl), Ext.cell hx (h 1 _ rfl), Ext.cell hx (h 2 _ rfl), Ext.cell hx (h 3 _ rfl), Ext.cell hx (h 4 _ rfl), Ext.cell hx (h 5 _ rfl), Ext.cell hx (h 6 _ rfl), Ext.cell hx (h 7 _ rfl), Ext.cell hx (h 8 _ rfl), Ext.cell hx (h 9 _ rfl), Ext.cell hx (h 10 _ rfl), Ext.cell hx (h 11 _ rfl), Ext.cell hx (h 12 _ rfl), Ext.cell hx (h 13 _ rfl)⟩
end Go.Proofs.Ytgkgedjmnbjalaa
