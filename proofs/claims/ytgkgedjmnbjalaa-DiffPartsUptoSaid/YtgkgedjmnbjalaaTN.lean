/- pairs: two rows of kids, side by side.
   Conditions: none. -/
import Derived.Test.YtgkgedjmnbjalaaTM
set_option linter.unusedSimpArgs false
namespace Go.Proofs.Ytgkgedjmnbjalaa
open Go.RowKit Go.Sort

theorem mergeE_x {one other : T → List E} {both : T → T → List E} (n : Nat) (x : T) (xs : List T) : mergeE one other both (n + 1) (x :: xs) [] = one x ++ mergeE one other both n xs [] := rfl
theorem mergeE_y {one other : T → List E} {both : T → T → List E} (n : Nat) (y : T) (ys : List T) : mergeE one other both (n + 1) [] (y :: ys) = other y ++ mergeE one other both n [] ys := rfl
theorem mergeE_lt {one other : T → List E} {both : T → T → List E} (n : Nat) {x y : T} (xs ys : List T) (h : lessT x y = true) : mergeE one other both (n + 1) (x :: xs) (y :: ys) = one x ++ mergeE one other both n xs (y :: ys) := by rw [mergeE, if_pos h]
theorem mergeE_gt {one other : T → List E} {both : T → T → List E} (n : Nat) {x y : T} (xs ys : List T) (h : lessT x y = false) (h2 : lessT y x = true) : mergeE one other both (n + 1) (x :: xs) (y :: ys) = other y ++ mergeE one other both n (x :: xs) ys := by rw [mergeE, if_neg (by rw [h]; decide), if_pos h2]
theorem mergeE_eq {one other : T → List E} {both : T → T → List E} (n : Nat) {x y : T} (xs ys : List T) (h : lessT x y = false) (h2 : lessT y x = false) : mergeE one other both (n + 1) (x :: xs) (y :: ys) = both x y ++ mergeE one other both n xs ys := by rw [mergeE, if_neg (by rw [h]; decide), if_neg (by rw [h2]; decide)]
theorem mergeE_none {one other : T → List E} {both : T → T → List E} : ∀ n, mergeE one other both n [] [] = []
  | 0 => rfl
  | _ + 1 => rfl
/-- More fuel than needed changes nothing. -/
theorem mergeE_fuel {one other : T → List E} {both : T → T → List E} : ∀ (n m : Nat) (xs ys : List T), xs.length + ys.length ≤ n → xs.length + ys.length ≤ m → mergeE one other both n xs ys = mergeE one other both m xs ys
  | n, m, [], [], _, _ => by rw [mergeE_none, mergeE_none]
  | n + 1, m + 1, x :: xs, [], h1, h2 => by rw [mergeE_x, mergeE_x, mergeE_fuel n m xs [] (by simp at h1 ⊢; omega) (by simp at h2 ⊢; omega)]
  | n + 1, m + 1, [], y :: ys, h1, h2 => by rw [mergeE_y, mergeE_y, mergeE_fuel n m [] ys (by simp at h1 ⊢; omega) (by simp at h2 ⊢; omega)]
  | n + 1, m + 1, x :: xs, y :: ys, h1, h2 => by
    cases hl : lessT x y with
    | true => rw [mergeE_lt n xs ys hl, mergeE_lt m xs ys hl, mergeE_fuel n m xs (y :: ys) (by simp at h1 ⊢; omega) (by simp at h2 ⊢; omega)]
    | false =>
      cases hg : lessT y x with
      | true => rw [mergeE_gt n xs ys hl hg, mergeE_gt m xs ys hl hg, mergeE_fuel n m (x :: xs) ys (by simp at h1 ⊢; omega) (by simp at h2 ⊢; omega)]
      | false => rw [mergeE_eq n xs ys hl hg, mergeE_eq m xs ys hl hg, mergeE_fuel n m xs ys (by simp at h1 ⊢; omega) (by simp at h2 ⊢; omega)]
  | 0, _, x :: xs, _, h, _ => by simp at h
  | 0, _, [], y :: ys, h, _ => by simp at h
  | _ + 1, 0, x :: xs, _, _, h => by simp at h
  | _ + 1, 0, [], y :: ys, _, h => by simp at h
theorem sizeL_cons (x : T) (l : List T) : sizeL (x :: l) = x.size + sizeL l := rfl
theorem deepL_cons (x : T) (l : List T) : deepL (x :: l) = max x.deep (deepL l) := rfl

/-- What is left to pair. -/
structure Left (N B : Nat) (wr : World) (way : List Step) (K1 K2 : Option Addr) (xs ys : List T) (n1 c1 n2 c2 : Nat) (esF es : List E) : Prop where
  r1 : RRow (· < B) wr K1 xs c1
  r2 : RRow (· < B) wr K2 ys c2
  l1 : n1 = xs.length
  l2 : n2 = ys.length
  tot : esF = es ++ mergeE (cutE way) (setE way) (bothE (edits N) way) (n1 + n2) xs ys
  deep : deepL xs ≤ N
  wl : way.length + 1 + deepL xs ≤ 1000000
  el : es.length + sizeL xs + sizeL ys ≤ 1000000

theorem RRow.tail' {S : Nat → Prop} {w : World} {b off : Nat} {x : T} {l : List T} {kc : Nat} (h : RRow S w (some ⟨b, off, none⟩) (x :: l) kc) : RRow S w (if kc = 1 then some ⟨b, off, none⟩ else some ⟨b, off + 6, none⟩) l (kc - 1) := by
  by_cases hk : kc = 1
  · subst hk
    have hc := h.cap
    have hl : l = [] := by cases l with
      | nil => rfl
      | cons y l => simp at hc
    subst hl
    exact RRow.nil _ _ _ _ (fun _ => rfl)
  · rw [if_neg hk]
    exact h.tail
theorem Left.next_x {N B : Nat} {wr w' : World} {way : List Step} {b1 o1 : Nat} {K2 : Option Addr} {x : T} {xs ys : List T} {n1 c1 n2 c2 : Nat} {esF es : List E} (h : Left N B wr way (some ⟨b1, o1, none⟩) K2 (x :: xs) ys n1 c1 n2 c2 esF es)
    (hk : ∀ K l c, RRow (· < B) wr K l c → RRow (· < B) w' K l c) (hm : ∀ n, mergeE (cutE way) (setE way) (bothE (edits N) way) (n + 1) (x :: xs) ys = cutE way x ++ mergeE (cutE way) (setE way) (bothE (edits N) way) n xs ys) :
    Left N B w' way (if c1 = 1 then some ⟨b1, o1, none⟩ else some ⟨b1, o1 + 6, none⟩) K2 xs ys (n1 - 1) (c1 - 1) n2 c2 esF (es ++ cutE way x) := by
  have hl := h.l1
  have hd := h.deep
  have hw := h.wl
  have he := h.el
  have hs := size_pos x
  rw [sizeL_cons] at he
  rw [deepL_cons] at hd hw
  refine ⟨(hk _ _ _ h.r1).tail', hk _ _ _ h.r2, by simp at hl; omega, h.l2, ?_, by omega, by omega, by simp [cutE]; omega⟩
  rw [h.tot, show n1 + n2 = (n1 - 1 + n2) + 1 by simp at hl; omega, hm, List.append_assoc]
theorem Left.next_y {N B : Nat} {wr w' : World} {way : List Step} {b2 o2 : Nat} {K1 : Option Addr} {y : T} {xs ys : List T} {n1 c1 n2 c2 : Nat} {esF es : List E} (h : Left N B wr way K1 (some ⟨b2, o2, none⟩) xs (y :: ys) n1 c1 n2 c2 esF es)
    (hk : ∀ K l c, RRow (· < B) wr K l c → RRow (· < B) w' K l c) (hm : ∀ n, mergeE (cutE way) (setE way) (bothE (edits N) way) (n + 1) xs (y :: ys) = setE way y ++ mergeE (cutE way) (setE way) (bothE (edits N) way) n xs ys) :
    Left N B w' way K1 (if c2 = 1 then some ⟨b2, o2, none⟩ else some ⟨b2, o2 + 6, none⟩) xs ys n1 c1 (n2 - 1) (c2 - 1) esF (es ++ setE way y) := by
  have hl := h.l2
  have he := h.el
  have hs := size_pos y
  rw [sizeL_cons y ys] at he
  refine ⟨hk _ _ _ h.r1, (hk _ _ _ h.r2).tail', h.l1, by simp at hl; omega, ?_, h.deep, h.wl, by simp [setE]; omega⟩
  rw [h.tot, show n1 + n2 = (n1 + (n2 - 1)) + 1 by simp at hl; omega, hm, List.append_assoc]
theorem Left.next_b {N B : Nat} {wr w' : World} {way : List Step} {b1 o1 b2 o2 : Nat} {x y : T} {xs ys : List T} {n1 c1 n2 c2 : Nat} {esF es : List E} (h : Left N B wr way (some ⟨b1, o1, none⟩) (some ⟨b2, o2, none⟩) (x :: xs) (y :: ys) n1 c1 n2 c2 esF es)
    (hk : ∀ K l c, RRow (· < B) wr K l c → RRow (· < B) w' K l c) (hxy : lessT x y = false) (hyx : lessT y x = false) :
    Left N B w' way (if c1 = 1 then some ⟨b1, o1, none⟩ else some ⟨b1, o1 + 6, none⟩) (if c2 = 1 then some ⟨b2, o2, none⟩ else some ⟨b2, o2 + 6, none⟩) xs ys (n1 - 1) (c1 - 1) (n2 - 1) (c2 - 1) esF (es ++ bothE (edits N) way x y) := by
  have hl := h.l1
  have hl2 := h.l2
  have hd := h.deep
  have hw := h.wl
  have he := h.el
  have hs := bothE_len (edits_len N) way x y
  rw [sizeL_cons, sizeL_cons] at he
  rw [deepL_cons] at hd hw
  refine ⟨(hk _ _ _ h.r1).tail', (hk _ _ _ h.r2).tail', by simp at hl; omega, by simp at hl2; omega, ?_, by omega, by omega, by simp; omega⟩
  rw [h.tot, show n1 + n2 = (n1 + n2 - 1) + 1 by simp at hl; omega, mergeE_eq _ xs ys hxy hyx, List.append_assoc,
    mergeE_fuel (n1 + n2 - 1) (n1 - 1 + (n2 - 1)) xs ys (by simp at hl hl2; omega) (by simp at hl hl2; omega)]
theorem Left.ext {N B : Nat} {wr w' : World} {way : List Step} {K1 K2 : Option Addr} {xs ys : List T} {n1 c1 n2 c2 : Nat} {esF es : List E} (hx : Ext wr w') (h : Left N B wr way K1 K2 xs ys n1 c1 n2 c2 esF es) : Left N B w' way K1 K2 xs ys n1 c1 n2 c2 esF es :=
  ⟨h.r1.ext hx, h.r2.ext hx, h.l1, h.l2, h.tot, h.deep, h.wl, h.el⟩
theorem tree_less' (a b : T) (K1 K2 : Option Addr) (n1 c1 n2 c2 : Nat) (w : World) :
    Calls Try.prog 66 #[.agg #[.string a.name, .string a.key, .int .i64 a.kind, .int .u64 a.num, .string a.text, .slice K1 n1 c1], .agg #[.string b.name, .string b.key, .int .i64 b.kind, .int .u64 b.num, .string b.text, .slice K2 n2 c2]] w fun e w' => e = .returned (.bool (lessT a b)) ∧ Ext w w' := tree_less a b K1 K2 n1 c1 n2 c2 w

set_option maxRecDepth 100000 in
set_option maxHeartbeats 8000000 in
theorem pairs_any (N : Nat) (ih0 : EditsAt N) {B O Wy Cb Sb Ed : Nat} {w : World} {v : Value} {css : List (List Value)} {es esF : List E} {way : List Step} {A : Option Addr} {ac : Nat} {K1 K2 : Option Addr} {xs ys : List T} {n1 c1 n2 c2 : Nat} (h : Env2 B O Wy Cb Sb Ed w v css es way A ac)
    (hl : Left N B w way K1 K2 xs ys n1 c1 n2 c2 esF es) :
    Calls Try.prog 98 #[.slice K1 n1 c1, .slice K2 n2 c2, .func (.func 94) #[] #[.pointer (some ⟨O, 0, none⟩), .pointer (some ⟨Wy, 0, none⟩)], .func (.func 97) #[] #[.pointer (some ⟨O, 0, none⟩), .pointer (some ⟨Wy, 0, none⟩)],
      .func (.func 99) #[] #[.pointer (some ⟨O, 0, none⟩), .pointer (some ⟨Wy, 0, none⟩), .pointer (some ⟨Cb, 0, none⟩), .pointer (some ⟨Sb, 0, none⟩), .pointer (some ⟨Ed, 0, none⟩)]] w
      fun e w' => e = .returned (.tuple #[]) ∧ Laid B O w v esF w' := by
  have ih := Hd.mk ih0
  have kh := Hd.mk h
  have kl := Hd.mk hl
  clear h hl ih0
  go_enter Try.func98, Try.ntmps98
  go_wp2_with fail
  go_loopg [0, 1] (n1 + n2) (fun q a b wr => ∃ (xs ys : List T) (A1 : Option Addr) (m1 a1 : Nat) (A2 : Option Addr) (m2 a2 : Nat) (v' : Value) (css' : List (List Value)) (es' : List E), Hd (q = m1 + m2) ∧ a = .slice A1 m1 a1 ∧ b = .slice A2 m2 a2 ∧
    Hd (Left N B wr way A1 A2 xs ys m1 a1 m2 a2 esF es') ∧ Hd (Env2 B O Wy Cb Sb Ed wr v' css' es' way A ac) ∧ Hd (Fr O w v wr v'))
  case atStart => exact ⟨xs, ys, K1, n1, c1, K2, n2, c2, v, css, es, ⟨rfl⟩, rfl, rfl, kl, kh, ⟨Fr.refl _ _ _⟩⟩
  case round =>
  clear kl kh
  obtain ⟨xs, ys, A1, m1, a1, A2, m2, a2, v', css', es', hq, rfl, rfl, kl, kh, kf⟩ := hrel
  have hm1 := kl.out.l1
  have hm2 := kl.out.l2
  have hb1 := kl.out.r1.len
  have hb2 := kl.out.r2.len
  rw [← hm1] at hb1
  rw [← hm2] at hb2
  replace hm1 := Hd.mk hm1
  replace hm2 := Hd.mk hm2
  rcases Nat.eq_zero_or_pos m1 with h1 | h1
  · subst h1
    obtain rfl : xs = [] := List.eq_nil_of_length_eq_zero hm1.out.symm
    rcases Nat.eq_zero_or_pos m2 with h2 | h2
    · subst h2
      obtain rfl : ys = [] := List.eq_nil_of_length_eq_zero hm2.out.symm
      go_wp2_with fail
      go_end0
      exact ⟨rfl, v', css', by rw [kl.out.tot, mergeE_none, List.append_nil]; exact kh.out.env.outs, kf.out⟩
    · obtain ⟨y, ys, rfl⟩ := List.exists_cons_of_length_pos (l := ys) (by rw [← hm2.out]; exact h2)
      obtain ⟨b2, o2, d, rfl, _, hrd, hdk⟩ := kl.out.r2.head
      obtain ⟨K4, c4, rfl, _⟩ := hrd.row
      have hca2 : m2 ≤ a2 := by have := kl.out.r2.cap; have := hm2.out; omega
      have hi2 : (1 : Int) ≤ (m2 : Int) := by omega
      obtain ⟨f0, f1, f2, f3, f4, f5⟩ := six (Ext.refl wr) hdk
      have kcy := Hd.mk hdk
      have hrd := Hd.mk hrd
      clear hdk
      simp only [cT] at kcy hrd
      go_wp2_with fail
      refine Flow.wp_region_flow_l (fun qq => match qq with
        | 31 => SP.eq (.slice (some ⟨b2, o2, none⟩) m2 a2)
        | 32 => SP.eq (.int .i64 (m2 : Nat))
        | 33 => SP.eq (.bool false)
        | 34 => SP.eq (.bool false)
        | 35 => SP.eq (.slice A1 0 a1)
        | 36 => SP.eq (.int .i64 0)
        | 37 => SP.eq (.bool false)
        | 38 => SP.eq (.bool false)
        | 39 => SP.eq (undef)
        | 40 => SP.eq (undef)
        | 41 => SP.eq (undef)
        | 42 => SP.eq (undef)
        | 43 => SP.eq (undef)
        | 44 => SP.eq (undef)
        | 45 => SP.eq (undef)
        | 46 => SP.eq (.bool false)
        | 47 => SP.eq (.bool false)
        | 30 => SP.eq (.bool false)
        | _ => SP.any) 18 (by kernel_rfl) 75 rfl (by kernel_rfl) ?_ ?_
      · skip
        refine ⟨?_, ?_, ?_, ?_, ?_, ?_, ?_, ?_, ?_, ?_, ?_, ?_, ?_, ?_, ?_, ?_, ?_, ?_, trivial⟩
        · intro act W2 hk
          refine Flow.does_intro rfl (fun Kq hK => ?_)
          have e1 : act.tmps[1]?.getD undef = .slice (some ⟨b2, o2, none⟩) m2 a2 := hk.o 1 (by kernel_rfl)
          clear hk
          go_simp
          exact hK _ _ (Ext.refl _) (fun d hd => by cases hd; rfl)
        · intro act W2 hk
          refine Flow.does_intro rfl (fun Kq hK => ?_)
          have e31 : act.tmps[31]?.getD undef = .slice (some ⟨b2, o2, none⟩) m2 a2 := hk.v 31 (by kernel_rfl)
          clear hk
          go_simp
          exact hK _ _ (Ext.refl _) (fun d hd => by cases hd; rfl)
        · intro act W2 hk
          refine Flow.does_intro rfl (fun Kq hK => ?_)
          have e32 : act.tmps[32]?.getD undef = .int .i64 (m2 : Nat) := hk.v 32 (by kernel_rfl)
          clear hk
          go_simp
          exact hK _ _ (Ext.refl _) (fun d hd => by cases hd; first | rfl | (simp [SP.eq]; omega))
        · intro act W2 hk
          refine Flow.does_intro rfl (fun Kq hK => ?_)
          have e33 : act.tmps[33]?.getD undef = .bool false := hk.v 33 (by kernel_rfl)
          clear hk
          go_simp
          exact hK _ _ (Ext.refl _) (fun d hd => by cases hd; rfl)
        · intro act W2 hk
          have eg : act.tmps[34]?.getD undef = .bool false := hk.v 34 (by kernel_rfl)
          refine Flow.does_intro (wanted_yes rfl rfl eg) (fun Kq hK => ?_)
          clear eg
          have e0 : act.tmps[0]?.getD undef = .slice A1 0 a1 := hk.o 0 (by kernel_rfl)
          clear hk
          go_simp
          exact hK _ _ (Ext.refl _) (fun d hd => by cases hd; rfl)
        · intro act W2 hk
          have eg : act.tmps[34]?.getD undef = .bool false := hk.v 34 (by kernel_rfl)
          refine Flow.does_intro (wanted_yes rfl rfl eg) (fun Kq hK => ?_)
          clear eg
          have e35 : act.tmps[35]?.getD undef = .slice A1 0 a1 := hk.v 35 (by kernel_rfl)
          clear hk
          go_simp
          exact hK _ _ (Ext.refl _) (fun d hd => by cases hd; rfl)
        · intro act W2 hk
          have eg : act.tmps[34]?.getD undef = .bool false := hk.v 34 (by kernel_rfl)
          refine Flow.does_intro (wanted_yes rfl rfl eg) (fun Kq hK => ?_)
          clear eg
          have e36 : act.tmps[36]?.getD undef = .int .i64 0 := hk.v 36 (by kernel_rfl)
          clear hk
          go_simp
          exact hK _ _ (Ext.refl _) (fun d hd => by cases hd; first | rfl | (simp [SP.eq]; omega))
        · intro act W2 hk
          have eg : act.tmps[34]?.getD undef = .bool false := hk.v 34 (by kernel_rfl)
          refine Flow.does_intro (wanted_yes rfl rfl eg) (fun Kq hK => ?_)
          clear eg
          have e37 : act.tmps[37]?.getD undef = .bool false := hk.v 37 (by kernel_rfl)
          clear hk
          go_simp
          exact hK _ _ (Ext.refl _) (fun d hd => by cases hd; rfl)
        · intro act W2 hk
          have eg : act.tmps[38]?.getD undef = .bool false := hk.v 38 (by kernel_rfl)
          exact Flow.does_skip (wanted_no rfl rfl eg) (fun d hd => by cases hd; rfl)
        · intro act W2 hk
          have eg : act.tmps[38]?.getD undef = .bool false := hk.v 38 (by kernel_rfl)
          exact Flow.does_skip (wanted_no rfl rfl eg) (fun d hd => by cases hd; rfl)
        · intro act W2 hk
          have eg : act.tmps[38]?.getD undef = .bool false := hk.v 38 (by kernel_rfl)
          exact Flow.does_skip (wanted_no rfl rfl eg) (fun d hd => by cases hd; rfl)
        · intro act W2 hk
          have eg : act.tmps[38]?.getD undef = .bool false := hk.v 38 (by kernel_rfl)
          exact Flow.does_skip (wanted_no rfl rfl eg) (fun d hd => by cases hd; rfl)
        · intro act W2 hk
          have eg : act.tmps[38]?.getD undef = .bool false := hk.v 38 (by kernel_rfl)
          exact Flow.does_skip (wanted_no rfl rfl eg) (fun d hd => by cases hd; rfl)
        · intro act W2 hk
          have eg : act.tmps[38]?.getD undef = .bool false := hk.v 38 (by kernel_rfl)
          exact Flow.does_skip (wanted_no rfl rfl eg) (fun d hd => by cases hd; rfl)
        · intro act W2 hk
          have eg : act.tmps[38]?.getD undef = .bool false := hk.v 38 (by kernel_rfl)
          exact Flow.does_skip (wanted_no rfl rfl eg) (fun d hd => by cases hd; rfl)
        · intro act W2 hk
          have eg : act.tmps[34]?.getD undef = .bool false := hk.v 34 (by kernel_rfl)
          refine Flow.does_intro (wanted_yes rfl rfl eg) (fun Kq hK => ?_)
          clear eg
          have e38 : act.tmps[38]?.getD undef = .bool false := hk.v 38 (by kernel_rfl)
          clear hk
          go_simp
          exact hK _ _ (Ext.refl _) (fun d hd => by cases hd; rfl)
        · intro act W2 hk
          refine Flow.does_intro rfl (fun Kq hK => ?_)
          have e34 : act.tmps[34]?.getD undef = .bool false := hk.v 34 (by kernel_rfl)
          have e46 : act.tmps[46]?.getD undef = .bool false := hk.v 46 (by kernel_rfl)
          clear hk
          go_simp
          exact hK _ _ (Ext.refl _) (fun d hd => by cases hd; rfl)
        · intro act W2 hk
          refine Flow.does_intro rfl (fun Kq hK => ?_)
          have e47 : act.tmps[47]?.getD undef = .bool false := hk.v 47 (by kernel_rfl)
          clear hk
          go_simp
          exact hK _ _ (Ext.refl _) (fun d hd => by cases hd; rfl)
      · intro act V1 he
        have hxV1 := Hd.mk ((Ext.drew wr).trans he.ext)
        obtain ⟨us, hA, hF⟩ := he.out [31, 32, 33, 34, 35, 36, 37, 38, 39, 40, 41, 42, 43, 44, 45, 46, 47, 30] (by kernel_rfl)
        simp only [Flow.fillL, List.contains_cons, List.contains_nil, Nat.reduceBEq, Bool.or_false, Bool.false_or, Bool.or_true, Bool.true_or, ↓reduceIte, Nat.reduceAdd, Bool.false_eq_true] at hA
        subst hA
        have f30 : us 30 = .bool false := hF 30 (by simp)
        clear hF he
        rw [f30]
        clear f30
        refine (show wpList _ _ _ [] _ _ from ?_)
        go_wp2_with fail
        have kcy1 := Hd.mk (fun (q : Nat) u hq => Ext.cell hxV1.out (kcy.out q u hq))
        refine Flow.wp_region_flow_l (fun qq => match qq with
          | 56 => SP.eq (.slice A1 0 a1)
          | 57 => SP.eq (.int .i64 0)
          | 58 => SP.eq (.bool true)
          | 59 => SP.eq (.bool true)
          | 60 => SP.eq (undef)
          | 61 => SP.eq (undef)
          | 62 => SP.eq (undef)
          | 63 => SP.eq (undef)
          | 64 => SP.eq (undef)
          | 65 => SP.eq (undef)
          | 66 => SP.eq (undef)
          | 67 => SP.eq (.bool true)
          | 55 => SP.eq (.bool true)
          | _ => SP.any) 13 (by kernel_rfl) 75 rfl (by kernel_rfl) ?_ ?_
        · skip
          refine ⟨?_, ?_, ?_, ?_, ?_, ?_, ?_, ?_, ?_, ?_, ?_, ?_, ?_, trivial⟩
          · intro act W2 hk
            refine Flow.does_intro rfl (fun Kq hK => ?_)
            have e0 : act.tmps[0]?.getD undef = .slice A1 0 a1 := hk.o 0 (by kernel_rfl)
            clear hk
            go_simp
            exact hK _ _ (Ext.refl _) (fun d hd => by cases hd; rfl)
          · intro act W2 hk
            refine Flow.does_intro rfl (fun Kq hK => ?_)
            have e56 : act.tmps[56]?.getD undef = .slice A1 0 a1 := hk.v 56 (by kernel_rfl)
            clear hk
            go_simp
            exact hK _ _ (Ext.refl _) (fun d hd => by cases hd; rfl)
          · intro act W2 hk
            refine Flow.does_intro rfl (fun Kq hK => ?_)
            have e57 : act.tmps[57]?.getD undef = .int .i64 0 := hk.v 57 (by kernel_rfl)
            clear hk
            go_simp
            exact hK _ _ (Ext.refl _) (fun d hd => by cases hd; first | rfl | (simp [SP.eq]; omega))
          · intro act W2 hk
            refine Flow.does_intro rfl (fun Kq hK => ?_)
            have e58 : act.tmps[58]?.getD undef = .bool true := hk.v 58 (by kernel_rfl)
            clear hk
            go_simp
            exact hK _ _ (Ext.refl _) (fun d hd => by cases hd; rfl)
          · intro act W2 hk
            have eg : act.tmps[59]?.getD undef = .bool true := hk.v 59 (by kernel_rfl)
            exact Flow.does_skip (wanted_no rfl rfl eg) (fun d hd => by cases hd; rfl)
          · intro act W2 hk
            have eg : act.tmps[59]?.getD undef = .bool true := hk.v 59 (by kernel_rfl)
            exact Flow.does_skip (wanted_no rfl rfl eg) (fun d hd => by cases hd; rfl)
          · intro act W2 hk
            have eg : act.tmps[59]?.getD undef = .bool true := hk.v 59 (by kernel_rfl)
            exact Flow.does_skip (wanted_no rfl rfl eg) (fun d hd => by cases hd; rfl)
          · intro act W2 hk
            have eg : act.tmps[59]?.getD undef = .bool true := hk.v 59 (by kernel_rfl)
            exact Flow.does_skip (wanted_no rfl rfl eg) (fun d hd => by cases hd; rfl)
          · intro act W2 hk
            have eg : act.tmps[59]?.getD undef = .bool true := hk.v 59 (by kernel_rfl)
            exact Flow.does_skip (wanted_no rfl rfl eg) (fun d hd => by cases hd; rfl)
          · intro act W2 hk
            have eg : act.tmps[59]?.getD undef = .bool true := hk.v 59 (by kernel_rfl)
            exact Flow.does_skip (wanted_no rfl rfl eg) (fun d hd => by cases hd; rfl)
          · intro act W2 hk
            have eg : act.tmps[59]?.getD undef = .bool true := hk.v 59 (by kernel_rfl)
            exact Flow.does_skip (wanted_no rfl rfl eg) (fun d hd => by cases hd; rfl)
          · intro act W2 hk
            refine Flow.does_intro rfl (fun Kq hK => ?_)
            have e59 : act.tmps[59]?.getD undef = .bool true := hk.v 59 (by kernel_rfl)
            clear hk
            go_simp
            exact hK _ _ (Ext.refl _) (fun d hd => by cases hd; rfl)
          · intro act W2 hk
            refine Flow.does_intro rfl (fun Kq hK => ?_)
            have e67 : act.tmps[67]?.getD undef = .bool true := hk.v 67 (by kernel_rfl)
            clear hk
            go_simp
            exact hK _ _ (Ext.refl _) (fun d hd => by cases hd; rfl)
        · intro act V2 he
          have hxV2 := Hd.mk ((Ext.drew V1).trans he.ext)
          obtain ⟨us, hA, hF⟩ := he.out [56, 57, 58, 59, 60, 61, 62, 63, 64, 65, 66, 67, 55] (by kernel_rfl)
          simp only [Flow.fillL, List.contains_cons, List.contains_nil, Nat.reduceBEq, Bool.or_false, Bool.false_or, Bool.or_true, Bool.true_or, ↓reduceIte, Nat.reduceAdd, Bool.false_eq_true] at hA
          subst hA
          have f55 : us 55 = .bool true := hF 55 (by simp)
          clear hF he
          rw [f55]
          clear f55
          have hx2 := Hd.mk (hxV1.out.trans hxV2.out)
          have kh2 := Hd.mk (kh.out.ext hx2.out)
          have kcy2 := Hd.mk (fun (q : Nat) u hq => Ext.cell hx2.out (kcy.out q u hq))
          have hrd2 := Hd.mk (hrd.out.ext hx2.out)
          obtain ⟨f0, f1, f2, f3, f4, f5⟩ := six (Ext.refl _) kcy2.out
          refine (show wpList _ _ _ [] _ _ from ?_)
          go_wp2_with fail
          refine Calls.mono (set_any kh2.out.env hrd2.out (by have := kl.out.wl; omega) (by have := kl.out.el; have h9 := sizeL_cons y ys; have := size_pos y; omega)) ?_
          rintro e w5 ⟨rfl, v5, css5, ho5, hf5⟩
          have kh5 := Hd.mk (kh2.out.fr ho5 hf5)
          have kf5 := Hd.mk ((kf.out.trans (Fr.of_ext hx2.out)).trans hf5)
          have kl5 := Hd.mk (kl.out.next_y (w' := w5) (fun _ _ _ h => kh2.out.argr hf5 (h.ext hx2.out)) (fun n => mergeE_y n y ys))
          clear ho5 hf5 f0 f1 f2 f3 f4 f5 kcy2 hrd2 kh2
          by_cases ha : a2 = 1
          · subst ha
            obtain rfl : m2 = 1 := by omega
            go_wp2_with fail
            go_roundg (0 + 0)
            case measure => have := hq.out; omega
            case rel => exact ⟨_, ys, _, 0, _, _, 0, _, v5, css5, _, ⟨rfl⟩, rfl, rfl, kl5, kh5, kf5⟩
          · have kl6 := kl5.out
            rw [if_neg ha] at kl6
            have kl6 := Hd.mk kl6
            go_wp2_with fail
            go_roundg (0 + (m2 - 1))
            case measure => have := hq.out; omega
            case rel => exact ⟨_, ys, _, 0, _, _, m2 - 1, _, v5, css5, _, ⟨rfl⟩, rfl, rfl, kl6, kh5, kf5⟩
  · obtain ⟨x, xs, rfl⟩ := List.exists_cons_of_length_pos (l := xs) (by rw [← hm1.out]; exact h1)
    obtain ⟨b1, o1, c, rfl, _, hrc, hck⟩ := kl.out.r1.head
    obtain ⟨K3, c3, rfl, _⟩ := hrc.row
    have hca1 : m1 ≤ a1 := by have := kl.out.r1.cap; have := hm1.out; omega
    have hi1 : (1 : Int) ≤ (m1 : Int) := by omega
    have kcx := Hd.mk hck
    have hrc := Hd.mk hrc
    clear hck
    simp only [cT] at kcx hrc
    rcases Nat.eq_zero_or_pos m2 with h2 | h2
    · subst h2
      obtain rfl : ys = [] := List.eq_nil_of_length_eq_zero hm2.out.symm
      go_wp2_with fail
      refine Flow.wp_region_flow_l (fun qq => match qq with
        | 31 => SP.eq (.slice A2 0 a2)
        | 32 => SP.eq (.int .i64 0)
        | 33 => SP.eq (.bool true)
        | 34 => SP.eq (.bool true)
        | 35 => SP.eq (undef)
        | 36 => SP.eq (undef)
        | 37 => SP.eq (undef)
        | 38 => SP.eq (undef)
        | 39 => SP.eq (undef)
        | 40 => SP.eq (undef)
        | 41 => SP.eq (undef)
        | 42 => SP.eq (undef)
        | 43 => SP.eq (undef)
        | 44 => SP.eq (undef)
        | 45 => SP.eq (undef)
        | 46 => SP.eq (undef)
        | 47 => SP.eq (.bool true)
        | 30 => SP.eq (.bool true)
        | _ => SP.any) 18 (by kernel_rfl) 75 rfl (by kernel_rfl) ?_ ?_
      · skip
        refine ⟨?_, ?_, ?_, ?_, ?_, ?_, ?_, ?_, ?_, ?_, ?_, ?_, ?_, ?_, ?_, ?_, ?_, ?_, trivial⟩
        · intro act W2 hk
          refine Flow.does_intro rfl (fun Kq hK => ?_)
          have e1 : act.tmps[1]?.getD undef = .slice A2 0 a2 := hk.o 1 (by kernel_rfl)
          clear hk
          go_simp
          exact hK _ _ (Ext.refl _) (fun d hd => by cases hd; rfl)
        · intro act W2 hk
          refine Flow.does_intro rfl (fun Kq hK => ?_)
          have e31 : act.tmps[31]?.getD undef = .slice A2 0 a2 := hk.v 31 (by kernel_rfl)
          clear hk
          go_simp
          exact hK _ _ (Ext.refl _) (fun d hd => by cases hd; rfl)
        · intro act W2 hk
          refine Flow.does_intro rfl (fun Kq hK => ?_)
          have e32 : act.tmps[32]?.getD undef = .int .i64 0 := hk.v 32 (by kernel_rfl)
          clear hk
          go_simp
          exact hK _ _ (Ext.refl _) (fun d hd => by cases hd; first | rfl | (simp [SP.eq]; omega))
        · intro act W2 hk
          refine Flow.does_intro rfl (fun Kq hK => ?_)
          have e33 : act.tmps[33]?.getD undef = .bool true := hk.v 33 (by kernel_rfl)
          clear hk
          go_simp
          exact hK _ _ (Ext.refl _) (fun d hd => by cases hd; rfl)
        · intro act W2 hk
          have eg : act.tmps[34]?.getD undef = .bool true := hk.v 34 (by kernel_rfl)
          exact Flow.does_skip (wanted_no rfl rfl eg) (fun d hd => by cases hd; rfl)
        · intro act W2 hk
          have eg : act.tmps[34]?.getD undef = .bool true := hk.v 34 (by kernel_rfl)
          exact Flow.does_skip (wanted_no rfl rfl eg) (fun d hd => by cases hd; rfl)
        · intro act W2 hk
          have eg : act.tmps[34]?.getD undef = .bool true := hk.v 34 (by kernel_rfl)
          exact Flow.does_skip (wanted_no rfl rfl eg) (fun d hd => by cases hd; rfl)
        · intro act W2 hk
          have eg : act.tmps[34]?.getD undef = .bool true := hk.v 34 (by kernel_rfl)
          exact Flow.does_skip (wanted_no rfl rfl eg) (fun d hd => by cases hd; rfl)
        · intro act W2 hk
          have eg : act.tmps[38]?.getD undef = undef := hk.v 38 (by kernel_rfl)
          exact Flow.does_skip (wanted_off rfl rfl eg) (fun d hd => by cases hd; rfl)
        · intro act W2 hk
          have eg : act.tmps[38]?.getD undef = undef := hk.v 38 (by kernel_rfl)
          exact Flow.does_skip (wanted_off rfl rfl eg) (fun d hd => by cases hd; rfl)
        · intro act W2 hk
          have eg : act.tmps[38]?.getD undef = undef := hk.v 38 (by kernel_rfl)
          exact Flow.does_skip (wanted_off rfl rfl eg) (fun d hd => by cases hd; rfl)
        · intro act W2 hk
          have eg : act.tmps[38]?.getD undef = undef := hk.v 38 (by kernel_rfl)
          exact Flow.does_skip (wanted_off rfl rfl eg) (fun d hd => by cases hd; rfl)
        · intro act W2 hk
          have eg : act.tmps[38]?.getD undef = undef := hk.v 38 (by kernel_rfl)
          exact Flow.does_skip (wanted_off rfl rfl eg) (fun d hd => by cases hd; rfl)
        · intro act W2 hk
          have eg : act.tmps[38]?.getD undef = undef := hk.v 38 (by kernel_rfl)
          exact Flow.does_skip (wanted_off rfl rfl eg) (fun d hd => by cases hd; rfl)
        · intro act W2 hk
          have eg : act.tmps[38]?.getD undef = undef := hk.v 38 (by kernel_rfl)
          exact Flow.does_skip (wanted_off rfl rfl eg) (fun d hd => by cases hd; rfl)
        · intro act W2 hk
          have eg : act.tmps[34]?.getD undef = .bool true := hk.v 34 (by kernel_rfl)
          exact Flow.does_skip (wanted_no rfl rfl eg) (fun d hd => by cases hd; rfl)
        · intro act W2 hk
          refine Flow.does_intro rfl (fun Kq hK => ?_)
          have e34 : act.tmps[34]?.getD undef = .bool true := hk.v 34 (by kernel_rfl)
          clear hk
          go_simp
          exact hK _ _ (Ext.refl _) (fun d hd => by cases hd; rfl)
        · intro act W2 hk
          refine Flow.does_intro rfl (fun Kq hK => ?_)
          have e47 : act.tmps[47]?.getD undef = .bool true := hk.v 47 (by kernel_rfl)
          clear hk
          go_simp
          exact hK _ _ (Ext.refl _) (fun d hd => by cases hd; rfl)
      · intro act V2 he
        have hxV2 := Hd.mk ((Ext.drew wr).trans he.ext)
        obtain ⟨us, hA, hF⟩ := he.out [31, 32, 33, 34, 35, 36, 37, 38, 39, 40, 41, 42, 43, 44, 45, 46, 47, 30] (by kernel_rfl)
        simp only [Flow.fillL, List.contains_cons, List.contains_nil, Nat.reduceBEq, Bool.or_false, Bool.false_or, Bool.or_true, Bool.true_or, ↓reduceIte, Nat.reduceAdd, Bool.false_eq_true] at hA
        subst hA
        have f30 : us 30 = .bool true := hF 30 (by simp)
        clear hF he
        rw [f30]
        clear f30
        have kh2 := Hd.mk (kh.out.ext hxV2.out)
        have kcx2 := Hd.mk (fun (q : Nat) u hq => Ext.cell hxV2.out (kcx.out q u hq))
        have hrc2 := Hd.mk (hrc.out.ext hxV2.out)
        obtain ⟨e0, e1, e2, e3, e4, e5⟩ := six (Ext.refl _) kcx2.out
        refine (show wpList _ _ _ [] _ _ from ?_)
        go_wp2_with fail
        refine Calls.mono (cut_any kh2.out.env hrc2.out (by have := kl.out.wl; omega) (by have := kl.out.el; rw [sizeL_cons] at this; have := size_pos x; omega)) ?_
        rintro e w5 ⟨rfl, v5, css5, ho5, hf5⟩
        have kh5 := Hd.mk (kh2.out.fr ho5 hf5)
        have kf5 := Hd.mk ((kf.out.trans (Fr.of_ext hxV2.out)).trans hf5)
        have kl5 := Hd.mk (kl.out.next_x (w' := w5) (fun _ _ _ h => kh2.out.argr hf5 (h.ext hxV2.out)) (fun n => mergeE_x n x xs))
        clear ho5 hf5 e0 e1 e2 e3 e4 e5 kcx2 hrc2 kh2
        by_cases ha : a1 = 1
        · subst ha
          obtain rfl : m1 = 1 := by omega
          go_wp2_with fail
          go_roundg (0 + 0)
          case measure => have := hq.out; omega
          case rel => exact ⟨xs, _, _, 0, _, _, 0, _, v5, css5, _, ⟨rfl⟩, rfl, rfl, kl5, kh5, kf5⟩
        · have kl6 := kl5.out
          rw [if_neg ha] at kl6
          have kl6 := Hd.mk kl6
          go_wp2_with fail
          go_roundg (m1 - 1 + 0)
          case measure => have := hq.out; omega
          case rel => exact ⟨xs, _, _, m1 - 1, _, _, 0, _, v5, css5, _, ⟨rfl⟩, rfl, rfl, kl6, kh5, kf5⟩
    · obtain ⟨y, ys, rfl⟩ := List.exists_cons_of_length_pos (l := ys) (by rw [← hm2.out]; exact h2)
      obtain ⟨b2, o2, d, rfl, _, hrd, hdk⟩ := kl.out.r2.head
      obtain ⟨K4, c4, rfl, _⟩ := hrd.row
      have hca2 : m2 ≤ a2 := by have := kl.out.r2.cap; have := hm2.out; omega
      have hi2 : (1 : Int) ≤ (m2 : Int) := by omega
      have kcy := Hd.mk hdk
      have hrd := Hd.mk hrd
      clear hdk
      simp only [cT] at kcy hrd
      go_wp2_with fail
      cases hxy : lessT x y with
      | true =>
        refine Flow.wp_region_flow_l (fun qq => match qq with
          | 31 => SP.eq (.slice (some ⟨b2, o2, none⟩) m2 a2)
          | 32 => SP.eq (.int .i64 (m2 : Nat))
          | 33 => SP.eq (.bool false)
          | 34 => SP.eq (.bool false)
          | 35 => SP.eq (.slice (some ⟨b1, o1, none⟩) m1 a1)
          | 36 => SP.eq (.int .i64 (m1 : Nat))
          | 37 => SP.eq (.bool true)
          | 38 => SP.eq (.bool true)
          | 39 => SP.eq (.slice (some ⟨b1, o1, none⟩) m1 a1)
          | 40 => SP.eq (.pointer (some ⟨b1, o1, none⟩))
          | 41 => SP.eq (.agg #[.string x.name, .string x.key, .int .i64 x.kind, .int .u64 x.num, .string x.text, .slice K3 x.kids.length c3])
          | 42 => SP.eq (.slice (some ⟨b2, o2, none⟩) m2 a2)
          | 43 => SP.eq (.pointer (some ⟨b2, o2, none⟩))
          | 44 => SP.eq (.agg #[.string y.name, .string y.key, .int .i64 y.kind, .int .u64 y.num, .string y.text, .slice K4 y.kids.length c4])
          | 45 => SP.eq (.bool true)
          | 46 => SP.eq (.bool true)
          | 47 => SP.eq (.bool true)
          | 30 => SP.eq (.bool true)
          | _ => SP.any) 18 (by kernel_rfl) 75 rfl (by kernel_rfl) ?_ ?_
        · skip
          refine ⟨?_, ?_, ?_, ?_, ?_, ?_, ?_, ?_, ?_, ?_, ?_, ?_, ?_, ?_, ?_, ?_, ?_, ?_, trivial⟩
          · intro act W2 hk
            refine Flow.does_intro rfl (fun Kq hK => ?_)
            have e1 : act.tmps[1]?.getD undef = .slice (some ⟨b2, o2, none⟩) m2 a2 := hk.o 1 (by kernel_rfl)
            clear hk
            go_simp
            exact hK _ _ (Ext.refl _) (fun d hd => by cases hd; rfl)
          · intro act W2 hk
            refine Flow.does_intro rfl (fun Kq hK => ?_)
            have e31 : act.tmps[31]?.getD undef = .slice (some ⟨b2, o2, none⟩) m2 a2 := hk.v 31 (by kernel_rfl)
            clear hk
            go_simp
            exact hK _ _ (Ext.refl _) (fun d hd => by cases hd; rfl)
          · intro act W2 hk
            refine Flow.does_intro rfl (fun Kq hK => ?_)
            have e32 : act.tmps[32]?.getD undef = .int .i64 (m2 : Nat) := hk.v 32 (by kernel_rfl)
            clear hk
            go_simp
            exact hK _ _ (Ext.refl _) (fun d hd => by cases hd; first | rfl | (simp [SP.eq]; omega))
          · intro act W2 hk
            refine Flow.does_intro rfl (fun Kq hK => ?_)
            have e33 : act.tmps[33]?.getD undef = .bool false := hk.v 33 (by kernel_rfl)
            clear hk
            go_simp
            exact hK _ _ (Ext.refl _) (fun d hd => by cases hd; rfl)
          · intro act W2 hk
            have eg : act.tmps[34]?.getD undef = .bool false := hk.v 34 (by kernel_rfl)
            refine Flow.does_intro (wanted_yes rfl rfl eg) (fun Kq hK => ?_)
            clear eg
            have e0 : act.tmps[0]?.getD undef = .slice (some ⟨b1, o1, none⟩) m1 a1 := hk.o 0 (by kernel_rfl)
            clear hk
            go_simp
            exact hK _ _ (Ext.refl _) (fun d hd => by cases hd; rfl)
          · intro act W2 hk
            have eg : act.tmps[34]?.getD undef = .bool false := hk.v 34 (by kernel_rfl)
            refine Flow.does_intro (wanted_yes rfl rfl eg) (fun Kq hK => ?_)
            clear eg
            have e35 : act.tmps[35]?.getD undef = .slice (some ⟨b1, o1, none⟩) m1 a1 := hk.v 35 (by kernel_rfl)
            clear hk
            go_simp
            exact hK _ _ (Ext.refl _) (fun d hd => by cases hd; rfl)
          · intro act W2 hk
            have eg : act.tmps[34]?.getD undef = .bool false := hk.v 34 (by kernel_rfl)
            refine Flow.does_intro (wanted_yes rfl rfl eg) (fun Kq hK => ?_)
            clear eg
            have e36 : act.tmps[36]?.getD undef = .int .i64 (m1 : Nat) := hk.v 36 (by kernel_rfl)
            clear hk
            go_simp
            exact hK _ _ (Ext.refl _) (fun d hd => by cases hd; first | rfl | (simp [SP.eq]; omega))
          · intro act W2 hk
            have eg : act.tmps[34]?.getD undef = .bool false := hk.v 34 (by kernel_rfl)
            refine Flow.does_intro (wanted_yes rfl rfl eg) (fun Kq hK => ?_)
            clear eg
            have e37 : act.tmps[37]?.getD undef = .bool true := hk.v 37 (by kernel_rfl)
            clear hk
            go_simp
            exact hK _ _ (Ext.refl _) (fun d hd => by cases hd; rfl)
          · intro act W2 hk
            have eg : act.tmps[38]?.getD undef = .bool true := hk.v 38 (by kernel_rfl)
            refine Flow.does_intro (wanted_yes rfl rfl eg) (fun Kq hK => ?_)
            clear eg
            have e0 : act.tmps[0]?.getD undef = .slice (some ⟨b1, o1, none⟩) m1 a1 := hk.o 0 (by kernel_rfl)
            clear hk
            go_simp
            exact hK _ _ (Ext.refl _) (fun d hd => by cases hd; rfl)
          · intro act W2 hk
            have eg : act.tmps[38]?.getD undef = .bool true := hk.v 38 (by kernel_rfl)
            refine Flow.does_intro (wanted_yes rfl rfl eg) (fun Kq hK => ?_)
            clear eg
            have e39 : act.tmps[39]?.getD undef = .slice (some ⟨b1, o1, none⟩) m1 a1 := hk.v 39 (by kernel_rfl)
            clear hk
            go_simp
            exact hK _ _ (Ext.refl _) (fun d hd => by cases hd; rfl)
          · intro act W2 hk
            have eg : act.tmps[38]?.getD undef = .bool true := hk.v 38 (by kernel_rfl)
            refine Flow.does_intro (wanted_yes rfl rfl eg) (fun Kq hK => ?_)
            clear eg
            have e40 : act.tmps[40]?.getD undef = .pointer (some ⟨b1, o1, none⟩) := hk.v 40 (by kernel_rfl)
            have g0 := Ext.cell ((Ext.drew wr).trans hk.ext) ((kcx.out) 0 _ rfl)
            rw [Nat.add_zero] at g0
            have g1 := Ext.cell ((Ext.drew wr).trans hk.ext) ((kcx.out) 1 _ rfl)
            have g2 := Ext.cell ((Ext.drew wr).trans hk.ext) ((kcx.out) 2 _ rfl)
            have g3 := Ext.cell ((Ext.drew wr).trans hk.ext) ((kcx.out) 3 _ rfl)
            have g4 := Ext.cell ((Ext.drew wr).trans hk.ext) ((kcx.out) 4 _ rfl)
            have g5 := Ext.cell ((Ext.drew wr).trans hk.ext) ((kcx.out) 5 _ rfl)
            clear hk
            go_simp
            exact hK _ _ (Ext.refl _) (fun d hd => by cases hd; rfl)
          · intro act W2 hk
            have eg : act.tmps[38]?.getD undef = .bool true := hk.v 38 (by kernel_rfl)
            refine Flow.does_intro (wanted_yes rfl rfl eg) (fun Kq hK => ?_)
            clear eg
            have e1 : act.tmps[1]?.getD undef = .slice (some ⟨b2, o2, none⟩) m2 a2 := hk.o 1 (by kernel_rfl)
            clear hk
            go_simp
            exact hK _ _ (Ext.refl _) (fun d hd => by cases hd; rfl)
          · intro act W2 hk
            have eg : act.tmps[38]?.getD undef = .bool true := hk.v 38 (by kernel_rfl)
            refine Flow.does_intro (wanted_yes rfl rfl eg) (fun Kq hK => ?_)
            clear eg
            have e42 : act.tmps[42]?.getD undef = .slice (some ⟨b2, o2, none⟩) m2 a2 := hk.v 42 (by kernel_rfl)
            clear hk
            go_simp
            exact hK _ _ (Ext.refl _) (fun d hd => by cases hd; rfl)
          · intro act W2 hk
            have eg : act.tmps[38]?.getD undef = .bool true := hk.v 38 (by kernel_rfl)
            refine Flow.does_intro (wanted_yes rfl rfl eg) (fun Kq hK => ?_)
            clear eg
            have e43 : act.tmps[43]?.getD undef = .pointer (some ⟨b2, o2, none⟩) := hk.v 43 (by kernel_rfl)
            have g0 := Ext.cell ((Ext.drew wr).trans hk.ext) ((kcy.out) 0 _ rfl)
            rw [Nat.add_zero] at g0
            have g1 := Ext.cell ((Ext.drew wr).trans hk.ext) ((kcy.out) 1 _ rfl)
            have g2 := Ext.cell ((Ext.drew wr).trans hk.ext) ((kcy.out) 2 _ rfl)
            have g3 := Ext.cell ((Ext.drew wr).trans hk.ext) ((kcy.out) 3 _ rfl)
            have g4 := Ext.cell ((Ext.drew wr).trans hk.ext) ((kcy.out) 4 _ rfl)
            have g5 := Ext.cell ((Ext.drew wr).trans hk.ext) ((kcy.out) 5 _ rfl)
            clear hk
            go_simp
            exact hK _ _ (Ext.refl _) (fun d hd => by cases hd; rfl)
          · intro act W2 hk
            have eg : act.tmps[38]?.getD undef = .bool true := hk.v 38 (by kernel_rfl)
            refine Flow.does_intro (wanted_yes rfl rfl eg) (fun Kq hK => ?_)
            clear eg
            have e41 : act.tmps[41]?.getD undef = .agg #[.string x.name, .string x.key, .int .i64 x.kind, .int .u64 x.num, .string x.text, .slice K3 x.kids.length c3] := hk.v 41 (by kernel_rfl)
            have e44 : act.tmps[44]?.getD undef = .agg #[.string y.name, .string y.key, .int .i64 y.kind, .int .u64 y.num, .string y.text, .slice K4 y.kids.length c4] := hk.v 44 (by kernel_rfl)
            clear hk
            go_simp
            refine Calls.mono (tree_less' x y K3 K4 x.kids.length c3 y.kids.length c4 _) ?_
            rintro e W3 ⟨rfl, hx⟩
            exact hK _ _ hx (fun d hd => by cases hd; exact congrArg Value.bool hxy)
          · intro act W2 hk
            have eg : act.tmps[34]?.getD undef = .bool false := hk.v 34 (by kernel_rfl)
            refine Flow.does_intro (wanted_yes rfl rfl eg) (fun Kq hK => ?_)
            clear eg
            have e38 : act.tmps[38]?.getD undef = .bool true := hk.v 38 (by kernel_rfl)
            have e45 : act.tmps[45]?.getD undef = .bool true := hk.v 45 (by kernel_rfl)
            clear hk
            go_simp
            exact hK _ _ (Ext.refl _) (fun d hd => by cases hd; rfl)
          · intro act W2 hk
            refine Flow.does_intro rfl (fun Kq hK => ?_)
            have e34 : act.tmps[34]?.getD undef = .bool false := hk.v 34 (by kernel_rfl)
            have e46 : act.tmps[46]?.getD undef = .bool true := hk.v 46 (by kernel_rfl)
            clear hk
            go_simp
            exact hK _ _ (Ext.refl _) (fun d hd => by cases hd; rfl)
          · intro act W2 hk
            refine Flow.does_intro rfl (fun Kq hK => ?_)
            have e47 : act.tmps[47]?.getD undef = .bool true := hk.v 47 (by kernel_rfl)
            clear hk
            go_simp
            exact hK _ _ (Ext.refl _) (fun d hd => by cases hd; rfl)
        · intro act V2 he
          have hxV2 := Hd.mk ((Ext.drew wr).trans he.ext)
          obtain ⟨us, hA, hF⟩ := he.out [31, 32, 33, 34, 35, 36, 37, 38, 39, 40, 41, 42, 43, 44, 45, 46, 47, 30] (by kernel_rfl)
          simp only [Flow.fillL, List.contains_cons, List.contains_nil, Nat.reduceBEq, Bool.or_false, Bool.false_or, Bool.or_true, Bool.true_or, ↓reduceIte, Nat.reduceAdd, Bool.false_eq_true] at hA
          subst hA
          have f30 : us 30 = .bool true := hF 30 (by simp)
          clear hF he
          rw [f30]
          clear f30
          have kh2 := Hd.mk (kh.out.ext hxV2.out)
          have kcx2 := Hd.mk (fun (q : Nat) u hq => Ext.cell hxV2.out (kcx.out q u hq))
          have hrc2 := Hd.mk (hrc.out.ext hxV2.out)
          obtain ⟨e0, e1, e2, e3, e4, e5⟩ := six (Ext.refl _) kcx2.out
          refine (show wpList _ _ _ [] _ _ from ?_)
          go_wp2_with fail
          refine Calls.mono (cut_any kh2.out.env hrc2.out (by have := kl.out.wl; omega) (by have := kl.out.el; rw [sizeL_cons] at this; have := size_pos x; omega)) ?_
          rintro e w5 ⟨rfl, v5, css5, ho5, hf5⟩
          have kh5 := Hd.mk (kh2.out.fr ho5 hf5)
          have kf5 := Hd.mk ((kf.out.trans (Fr.of_ext hxV2.out)).trans hf5)
          have kl5 := Hd.mk (kl.out.next_x (w' := w5) (fun _ _ _ h => kh2.out.argr hf5 (h.ext hxV2.out)) (fun n => mergeE_lt n xs ys hxy))
          clear ho5 hf5 e0 e1 e2 e3 e4 e5 kcx2 hrc2 kh2
          by_cases ha : a1 = 1
          · subst ha
            obtain rfl : m1 = 1 := by omega
            go_wp2_with fail
            go_roundg (0 + m2)
            case measure => have := hq.out; omega
            case rel => exact ⟨xs, _, _, 0, _, _, m2, _, v5, css5, _, ⟨rfl⟩, rfl, rfl, kl5, kh5, kf5⟩
          · have kl6 := kl5.out
            rw [if_neg ha] at kl6
            have kl6 := Hd.mk kl6
            go_wp2_with fail
            go_roundg (m1 - 1 + m2)
            case measure => have := hq.out; omega
            case rel => exact ⟨xs, _, _, m1 - 1, _, _, m2, _, v5, css5, _, ⟨rfl⟩, rfl, rfl, kl6, kh5, kf5⟩
      | false =>
        refine Flow.wp_region_flow_l (fun qq => match qq with
          | 31 => SP.eq (.slice (some ⟨b2, o2, none⟩) m2 a2)
          | 32 => SP.eq (.int .i64 (m2 : Nat))
          | 33 => SP.eq (.bool false)
          | 34 => SP.eq (.bool false)
          | 35 => SP.eq (.slice (some ⟨b1, o1, none⟩) m1 a1)
          | 36 => SP.eq (.int .i64 (m1 : Nat))
          | 37 => SP.eq (.bool true)
          | 38 => SP.eq (.bool true)
          | 39 => SP.eq (.slice (some ⟨b1, o1, none⟩) m1 a1)
          | 40 => SP.eq (.pointer (some ⟨b1, o1, none⟩))
          | 41 => SP.eq (.agg #[.string x.name, .string x.key, .int .i64 x.kind, .int .u64 x.num, .string x.text, .slice K3 x.kids.length c3])
          | 42 => SP.eq (.slice (some ⟨b2, o2, none⟩) m2 a2)
          | 43 => SP.eq (.pointer (some ⟨b2, o2, none⟩))
          | 44 => SP.eq (.agg #[.string y.name, .string y.key, .int .i64 y.kind, .int .u64 y.num, .string y.text, .slice K4 y.kids.length c4])
          | 45 => SP.eq (.bool false)
          | 46 => SP.eq (.bool false)
          | 47 => SP.eq (.bool false)
          | 30 => SP.eq (.bool false)
          | _ => SP.any) 18 (by kernel_rfl) 75 rfl (by kernel_rfl) ?_ ?_
        · skip
          refine ⟨?_, ?_, ?_, ?_, ?_, ?_, ?_, ?_, ?_, ?_, ?_, ?_, ?_, ?_, ?_, ?_, ?_, ?_, trivial⟩
          · intro act W2 hk
            refine Flow.does_intro rfl (fun Kq hK => ?_)
            have e1 : act.tmps[1]?.getD undef = .slice (some ⟨b2, o2, none⟩) m2 a2 := hk.o 1 (by kernel_rfl)
            clear hk
            go_simp
            exact hK _ _ (Ext.refl _) (fun d hd => by cases hd; rfl)
          · intro act W2 hk
            refine Flow.does_intro rfl (fun Kq hK => ?_)
            have e31 : act.tmps[31]?.getD undef = .slice (some ⟨b2, o2, none⟩) m2 a2 := hk.v 31 (by kernel_rfl)
            clear hk
            go_simp
            exact hK _ _ (Ext.refl _) (fun d hd => by cases hd; rfl)
          · intro act W2 hk
            refine Flow.does_intro rfl (fun Kq hK => ?_)
            have e32 : act.tmps[32]?.getD undef = .int .i64 (m2 : Nat) := hk.v 32 (by kernel_rfl)
            clear hk
            go_simp
            exact hK _ _ (Ext.refl _) (fun d hd => by cases hd; first | rfl | (simp [SP.eq]; omega))
          · intro act W2 hk
            refine Flow.does_intro rfl (fun Kq hK => ?_)
            have e33 : act.tmps[33]?.getD undef = .bool false := hk.v 33 (by kernel_rfl)
            clear hk
            go_simp
            exact hK _ _ (Ext.refl _) (fun d hd => by cases hd; rfl)
          · intro act W2 hk
            have eg : act.tmps[34]?.getD undef = .bool false := hk.v 34 (by kernel_rfl)
            refine Flow.does_intro (wanted_yes rfl rfl eg) (fun Kq hK => ?_)
            clear eg
            have e0 : act.tmps[0]?.getD undef = .slice (some ⟨b1, o1, none⟩) m1 a1 := hk.o 0 (by kernel_rfl)
            clear hk
            go_simp
            exact hK _ _ (Ext.refl _) (fun d hd => by cases hd; rfl)
          · intro act W2 hk
            have eg : act.tmps[34]?.getD undef = .bool false := hk.v 34 (by kernel_rfl)
            refine Flow.does_intro (wanted_yes rfl rfl eg) (fun Kq hK => ?_)
            clear eg
            have e35 : act.tmps[35]?.getD undef = .slice (some ⟨b1, o1, none⟩) m1 a1 := hk.v 35 (by kernel_rfl)
            clear hk
            go_simp
            exact hK _ _ (Ext.refl _) (fun d hd => by cases hd; rfl)
          · intro act W2 hk
            have eg : act.tmps[34]?.getD undef = .bool false := hk.v 34 (by kernel_rfl)
            refine Flow.does_intro (wanted_yes rfl rfl eg) (fun Kq hK => ?_)
            clear eg
            have e36 : act.tmps[36]?.getD undef = .int .i64 (m1 : Nat) := hk.v 36 (by kernel_rfl)
            clear hk
            go_simp
            exact hK _ _ (Ext.refl _) (fun d hd => by cases hd; first | rfl | (simp [SP.eq]; omega))
          · intro act W2 hk
            have eg : act.tmps[34]?.getD undef = .bool false := hk.v 34 (by kernel_rfl)
            refine Flow.does_intro (wanted_yes rfl rfl eg) (fun Kq hK => ?_)
            clear eg
            have e37 : act.tmps[37]?.getD undef = .bool true := hk.v 37 (by kernel_rfl)
            clear hk
            go_simp
            exact hK _ _ (Ext.refl _) (fun d hd => by cases hd; rfl)
          · intro act W2 hk
            have eg : act.tmps[38]?.getD undef = .bool true := hk.v 38 (by kernel_rfl)
            refine Flow.does_intro (wanted_yes rfl rfl eg) (fun Kq hK => ?_)
            clear eg
            have e0 : act.tmps[0]?.getD undef = .slice (some ⟨b1, o1, none⟩) m1 a1 := hk.o 0 (by kernel_rfl)
            clear hk
            go_simp
            exact hK _ _ (Ext.refl _) (fun d hd => by cases hd; rfl)
          · intro act W2 hk
            have eg : act.tmps[38]?.getD undef = .bool true := hk.v 38 (by kernel_rfl)
            refine Flow.does_intro (wanted_yes rfl rfl eg) (fun Kq hK => ?_)
            clear eg
            have e39 : act.tmps[39]?.getD undef = .slice (some ⟨b1, o1, none⟩) m1 a1 := hk.v 39 (by kernel_rfl)
            clear hk
            go_simp
            exact hK _ _ (Ext.refl _) (fun d hd => by cases hd; rfl)
          · intro act W2 hk
            have eg : act.tmps[38]?.getD undef = .bool true := hk.v 38 (by kernel_rfl)
            refine Flow.does_intro (wanted_yes rfl rfl eg) (fun Kq hK => ?_)
            clear eg
            have e40 : act.tmps[40]?.getD undef = .pointer (some ⟨b1, o1, none⟩) := hk.v 40 (by kernel_rfl)
            have g0 := Ext.cell ((Ext.drew wr).trans hk.ext) ((kcx.out) 0 _ rfl)
            rw [Nat.add_zero] at g0
            have g1 := Ext.cell ((Ext.drew wr).trans hk.ext) ((kcx.out) 1 _ rfl)
            have g2 := Ext.cell ((Ext.drew wr).trans hk.ext) ((kcx.out) 2 _ rfl)
            have g3 := Ext.cell ((Ext.drew wr).trans hk.ext) ((kcx.out) 3 _ rfl)
            have g4 := Ext.cell ((Ext.drew wr).trans hk.ext) ((kcx.out) 4 _ rfl)
            have g5 := Ext.cell ((Ext.drew wr).trans hk.ext) ((kcx.out) 5 _ rfl)
            clear hk
            go_simp
            exact hK _ _ (Ext.refl _) (fun d hd => by cases hd; rfl)
          · intro act W2 hk
            have eg : act.tmps[38]?.getD undef = .bool true := hk.v 38 (by kernel_rfl)
            refine Flow.does_intro (wanted_yes rfl rfl eg) (fun Kq hK => ?_)
            clear eg
            have e1 : act.tmps[1]?.getD undef = .slice (some ⟨b2, o2, none⟩) m2 a2 := hk.o 1 (by kernel_rfl)
            clear hk
            go_simp
            exact hK _ _ (Ext.refl _) (fun d hd => by cases hd; rfl)
          · intro act W2 hk
            have eg : act.tmps[38]?.getD undef = .bool true := hk.v 38 (by kernel_rfl)
            refine Flow.does_intro (wanted_yes rfl rfl eg) (fun Kq hK => ?_)
            clear eg
            have e42 : act.tmps[42]?.getD undef = .slice (some ⟨b2, o2, none⟩) m2 a2 := hk.v 42 (by kernel_rfl)
            clear hk
            go_simp
            exact hK _ _ (Ext.refl _) (fun d hd => by cases hd; rfl)
          · intro act W2 hk
            have eg : act.tmps[38]?.getD undef = .bool true := hk.v 38 (by kernel_rfl)
            refine Flow.does_intro (wanted_yes rfl rfl eg) (fun Kq hK => ?_)
            clear eg
            have e43 : act.tmps[43]?.getD undef = .pointer (some ⟨b2, o2, none⟩) := hk.v 43 (by kernel_rfl)
            have g0 := Ext.cell ((Ext.drew wr).trans hk.ext) ((kcy.out) 0 _ rfl)
            rw [Nat.add_zero] at g0
            have g1 := Ext.cell ((Ext.drew wr).trans hk.ext) ((kcy.out) 1 _ rfl)
            have g2 := Ext.cell ((Ext.drew wr).trans hk.ext) ((kcy.out) 2 _ rfl)
            have g3 := Ext.cell ((Ext.drew wr).trans hk.ext) ((kcy.out) 3 _ rfl)
            have g4 := Ext.cell ((Ext.drew wr).trans hk.ext) ((kcy.out) 4 _ rfl)
            have g5 := Ext.cell ((Ext.drew wr).trans hk.ext) ((kcy.out) 5 _ rfl)
            clear hk
            go_simp
            exact hK _ _ (Ext.refl _) (fun d hd => by cases hd; rfl)
          · intro act W2 hk
            have eg : act.tmps[38]?.getD undef = .bool true := hk.v 38 (by kernel_rfl)
            refine Flow.does_intro (wanted_yes rfl rfl eg) (fun Kq hK => ?_)
            clear eg
            have e41 : act.tmps[41]?.getD undef = .agg #[.string x.name, .string x.key, .int .i64 x.kind, .int .u64 x.num, .string x.text, .slice K3 x.kids.length c3] := hk.v 41 (by kernel_rfl)
            have e44 : act.tmps[44]?.getD undef = .agg #[.string y.name, .string y.key, .int .i64 y.kind, .int .u64 y.num, .string y.text, .slice K4 y.kids.length c4] := hk.v 44 (by kernel_rfl)
            clear hk
            go_simp
            refine Calls.mono (tree_less' x y K3 K4 x.kids.length c3 y.kids.length c4 _) ?_
            rintro e W3 ⟨rfl, hx⟩
            exact hK _ _ hx (fun d hd => by cases hd; exact congrArg Value.bool hxy)
          · intro act W2 hk
            have eg : act.tmps[34]?.getD undef = .bool false := hk.v 34 (by kernel_rfl)
            refine Flow.does_intro (wanted_yes rfl rfl eg) (fun Kq hK => ?_)
            clear eg
            have e38 : act.tmps[38]?.getD undef = .bool true := hk.v 38 (by kernel_rfl)
            have e45 : act.tmps[45]?.getD undef = .bool false := hk.v 45 (by kernel_rfl)
            clear hk
            go_simp
            exact hK _ _ (Ext.refl _) (fun d hd => by cases hd; rfl)
          · intro act W2 hk
            refine Flow.does_intro rfl (fun Kq hK => ?_)
            have e34 : act.tmps[34]?.getD undef = .bool false := hk.v 34 (by kernel_rfl)
            have e46 : act.tmps[46]?.getD undef = .bool false := hk.v 46 (by kernel_rfl)
            clear hk
            go_simp
            exact hK _ _ (Ext.refl _) (fun d hd => by cases hd; rfl)
          · intro act W2 hk
            refine Flow.does_intro rfl (fun Kq hK => ?_)
            have e47 : act.tmps[47]?.getD undef = .bool false := hk.v 47 (by kernel_rfl)
            clear hk
            go_simp
            exact hK _ _ (Ext.refl _) (fun d hd => by cases hd; rfl)
        · intro act V1 he
          have hxV1 := Hd.mk ((Ext.drew wr).trans he.ext)
          obtain ⟨us, hA, hF⟩ := he.out [31, 32, 33, 34, 35, 36, 37, 38, 39, 40, 41, 42, 43, 44, 45, 46, 47, 30] (by kernel_rfl)
          simp only [Flow.fillL, List.contains_cons, List.contains_nil, Nat.reduceBEq, Bool.or_false, Bool.false_or, Bool.or_true, Bool.true_or, ↓reduceIte, Nat.reduceAdd, Bool.false_eq_true] at hA
          subst hA
          have f30 : us 30 = .bool false := hF 30 (by simp)
          clear hF he
          rw [f30]
          clear f30
          refine (show wpList _ _ _ [] _ _ from ?_)
          go_wp2_with fail
          have kcy1 := Hd.mk (fun (q : Nat) u hq => Ext.cell hxV1.out (kcy.out q u hq))
          have kcx1 := Hd.mk (fun (q : Nat) u hq => Ext.cell hxV1.out (kcx.out q u hq))
          cases hyx : lessT y x with
          | true =>
            refine Flow.wp_region_flow_l (fun qq => match qq with
              | 56 => SP.eq (.slice (some ⟨b1, o1, none⟩) m1 a1)
              | 57 => SP.eq (.int .i64 (m1 : Nat))
              | 58 => SP.eq (.bool false)
              | 59 => SP.eq (.bool false)
              | 60 => SP.eq (.slice (some ⟨b2, o2, none⟩) m2 a2)
              | 61 => SP.eq (.pointer (some ⟨b2, o2, none⟩))
              | 62 => SP.eq (.agg #[.string y.name, .string y.key, .int .i64 y.kind, .int .u64 y.num, .string y.text, .slice K4 y.kids.length c4])
              | 63 => SP.eq (.slice (some ⟨b1, o1, none⟩) m1 a1)
              | 64 => SP.eq (.pointer (some ⟨b1, o1, none⟩))
              | 65 => SP.eq (.agg #[.string x.name, .string x.key, .int .i64 x.kind, .int .u64 x.num, .string x.text, .slice K3 x.kids.length c3])
              | 66 => SP.eq (.bool true)
              | 67 => SP.eq (.bool true)
              | 55 => SP.eq (.bool true)
              | _ => SP.any) 13 (by kernel_rfl) 75 rfl (by kernel_rfl) ?_ ?_
            · skip
              refine ⟨?_, ?_, ?_, ?_, ?_, ?_, ?_, ?_, ?_, ?_, ?_, ?_, ?_, trivial⟩
              · intro act W2 hk
                refine Flow.does_intro rfl (fun Kq hK => ?_)
                have e0 : act.tmps[0]?.getD undef = .slice (some ⟨b1, o1, none⟩) m1 a1 := hk.o 0 (by kernel_rfl)
                clear hk
                go_simp
                exact hK _ _ (Ext.refl _) (fun d hd => by cases hd; rfl)
              · intro act W2 hk
                refine Flow.does_intro rfl (fun Kq hK => ?_)
                have e56 : act.tmps[56]?.getD undef = .slice (some ⟨b1, o1, none⟩) m1 a1 := hk.v 56 (by kernel_rfl)
                clear hk
                go_simp
                exact hK _ _ (Ext.refl _) (fun d hd => by cases hd; rfl)
              · intro act W2 hk
                refine Flow.does_intro rfl (fun Kq hK => ?_)
                have e57 : act.tmps[57]?.getD undef = .int .i64 (m1 : Nat) := hk.v 57 (by kernel_rfl)
                clear hk
                go_simp
                exact hK _ _ (Ext.refl _) (fun d hd => by cases hd; first | rfl | (simp [SP.eq]; omega))
              · intro act W2 hk
                refine Flow.does_intro rfl (fun Kq hK => ?_)
                have e58 : act.tmps[58]?.getD undef = .bool false := hk.v 58 (by kernel_rfl)
                clear hk
                go_simp
                exact hK _ _ (Ext.refl _) (fun d hd => by cases hd; rfl)
              · intro act W2 hk
                have eg : act.tmps[59]?.getD undef = .bool false := hk.v 59 (by kernel_rfl)
                refine Flow.does_intro (wanted_yes rfl rfl eg) (fun Kq hK => ?_)
                clear eg
                have e1 : act.tmps[1]?.getD undef = .slice (some ⟨b2, o2, none⟩) m2 a2 := hk.o 1 (by kernel_rfl)
                clear hk
                go_simp
                exact hK _ _ (Ext.refl _) (fun d hd => by cases hd; rfl)
              · intro act W2 hk
                have eg : act.tmps[59]?.getD undef = .bool false := hk.v 59 (by kernel_rfl)
                refine Flow.does_intro (wanted_yes rfl rfl eg) (fun Kq hK => ?_)
                clear eg
                have e60 : act.tmps[60]?.getD undef = .slice (some ⟨b2, o2, none⟩) m2 a2 := hk.v 60 (by kernel_rfl)
                clear hk
                go_simp
                exact hK _ _ (Ext.refl _) (fun d hd => by cases hd; rfl)
              · intro act W2 hk
                have eg : act.tmps[59]?.getD undef = .bool false := hk.v 59 (by kernel_rfl)
                refine Flow.does_intro (wanted_yes rfl rfl eg) (fun Kq hK => ?_)
                clear eg
                have e61 : act.tmps[61]?.getD undef = .pointer (some ⟨b2, o2, none⟩) := hk.v 61 (by kernel_rfl)
                have g0 := Ext.cell ((Ext.drew V1).trans hk.ext) ((kcy1.out) 0 _ rfl)
                rw [Nat.add_zero] at g0
                have g1 := Ext.cell ((Ext.drew V1).trans hk.ext) ((kcy1.out) 1 _ rfl)
                have g2 := Ext.cell ((Ext.drew V1).trans hk.ext) ((kcy1.out) 2 _ rfl)
                have g3 := Ext.cell ((Ext.drew V1).trans hk.ext) ((kcy1.out) 3 _ rfl)
                have g4 := Ext.cell ((Ext.drew V1).trans hk.ext) ((kcy1.out) 4 _ rfl)
                have g5 := Ext.cell ((Ext.drew V1).trans hk.ext) ((kcy1.out) 5 _ rfl)
                clear hk
                go_simp
                exact hK _ _ (Ext.refl _) (fun d hd => by cases hd; rfl)
              · intro act W2 hk
                have eg : act.tmps[59]?.getD undef = .bool false := hk.v 59 (by kernel_rfl)
                refine Flow.does_intro (wanted_yes rfl rfl eg) (fun Kq hK => ?_)
                clear eg
                have e0 : act.tmps[0]?.getD undef = .slice (some ⟨b1, o1, none⟩) m1 a1 := hk.o 0 (by kernel_rfl)
                clear hk
                go_simp
                exact hK _ _ (Ext.refl _) (fun d hd => by cases hd; rfl)
              · intro act W2 hk
                have eg : act.tmps[59]?.getD undef = .bool false := hk.v 59 (by kernel_rfl)
                refine Flow.does_intro (wanted_yes rfl rfl eg) (fun Kq hK => ?_)
                clear eg
                have e63 : act.tmps[63]?.getD undef = .slice (some ⟨b1, o1, none⟩) m1 a1 := hk.v 63 (by kernel_rfl)
                clear hk
                go_simp
                exact hK _ _ (Ext.refl _) (fun d hd => by cases hd; rfl)
              · intro act W2 hk
                have eg : act.tmps[59]?.getD undef = .bool false := hk.v 59 (by kernel_rfl)
                refine Flow.does_intro (wanted_yes rfl rfl eg) (fun Kq hK => ?_)
                clear eg
                have e64 : act.tmps[64]?.getD undef = .pointer (some ⟨b1, o1, none⟩) := hk.v 64 (by kernel_rfl)
                have g0 := Ext.cell ((Ext.drew V1).trans hk.ext) ((kcx1.out) 0 _ rfl)
                rw [Nat.add_zero] at g0
                have g1 := Ext.cell ((Ext.drew V1).trans hk.ext) ((kcx1.out) 1 _ rfl)
                have g2 := Ext.cell ((Ext.drew V1).trans hk.ext) ((kcx1.out) 2 _ rfl)
                have g3 := Ext.cell ((Ext.drew V1).trans hk.ext) ((kcx1.out) 3 _ rfl)
                have g4 := Ext.cell ((Ext.drew V1).trans hk.ext) ((kcx1.out) 4 _ rfl)
                have g5 := Ext.cell ((Ext.drew V1).trans hk.ext) ((kcx1.out) 5 _ rfl)
                clear hk
                go_simp
                exact hK _ _ (Ext.refl _) (fun d hd => by cases hd; rfl)
              · intro act W2 hk
                have eg : act.tmps[59]?.getD undef = .bool false := hk.v 59 (by kernel_rfl)
                refine Flow.does_intro (wanted_yes rfl rfl eg) (fun Kq hK => ?_)
                clear eg
                have e62 : act.tmps[62]?.getD undef = .agg #[.string y.name, .string y.key, .int .i64 y.kind, .int .u64 y.num, .string y.text, .slice K4 y.kids.length c4] := hk.v 62 (by kernel_rfl)
                have e65 : act.tmps[65]?.getD undef = .agg #[.string x.name, .string x.key, .int .i64 x.kind, .int .u64 x.num, .string x.text, .slice K3 x.kids.length c3] := hk.v 65 (by kernel_rfl)
                clear hk
                go_simp
                refine Calls.mono (tree_less' y x K4 K3 y.kids.length c4 x.kids.length c3 _) ?_
                rintro e W3 ⟨rfl, hx⟩
                exact hK _ _ hx (fun d hd => by cases hd; exact congrArg Value.bool hyx)
              · intro act W2 hk
                refine Flow.does_intro rfl (fun Kq hK => ?_)
                have e59 : act.tmps[59]?.getD undef = .bool false := hk.v 59 (by kernel_rfl)
                have e66 : act.tmps[66]?.getD undef = .bool true := hk.v 66 (by kernel_rfl)
                clear hk
                go_simp
                exact hK _ _ (Ext.refl _) (fun d hd => by cases hd; rfl)
              · intro act W2 hk
                refine Flow.does_intro rfl (fun Kq hK => ?_)
                have e67 : act.tmps[67]?.getD undef = .bool true := hk.v 67 (by kernel_rfl)
                clear hk
                go_simp
                exact hK _ _ (Ext.refl _) (fun d hd => by cases hd; rfl)
            · intro act V2 he
              have hxV2 := Hd.mk ((Ext.drew V1).trans he.ext)
              obtain ⟨us, hA, hF⟩ := he.out [56, 57, 58, 59, 60, 61, 62, 63, 64, 65, 66, 67, 55] (by kernel_rfl)
              simp only [Flow.fillL, List.contains_cons, List.contains_nil, Nat.reduceBEq, Bool.or_false, Bool.false_or, Bool.or_true, Bool.true_or, ↓reduceIte, Nat.reduceAdd, Bool.false_eq_true] at hA
              subst hA
              have f55 : us 55 = .bool true := hF 55 (by simp)
              clear hF he
              rw [f55]
              clear f55
              have hx2 := Hd.mk (hxV1.out.trans hxV2.out)
              have kh2 := Hd.mk (kh.out.ext hx2.out)
              have kcy2 := Hd.mk (fun (q : Nat) u hq => Ext.cell hx2.out (kcy.out q u hq))
              have hrd2 := Hd.mk (hrd.out.ext hx2.out)
              obtain ⟨f0, f1, f2, f3, f4, f5⟩ := six (Ext.refl _) kcy2.out
              refine (show wpList _ _ _ [] _ _ from ?_)
              go_wp2_with fail
              refine Calls.mono (set_any kh2.out.env hrd2.out (by have := kl.out.wl; omega) (by have := kl.out.el; have h9 := sizeL_cons y ys; have := size_pos y; omega)) ?_
              rintro e w5 ⟨rfl, v5, css5, ho5, hf5⟩
              have kh5 := Hd.mk (kh2.out.fr ho5 hf5)
              have kf5 := Hd.mk ((kf.out.trans (Fr.of_ext hx2.out)).trans hf5)
              have kl5 := Hd.mk (kl.out.next_y (w' := w5) (fun _ _ _ h => kh2.out.argr hf5 (h.ext hx2.out)) (fun n => mergeE_gt n xs ys hxy hyx))
              clear ho5 hf5 f0 f1 f2 f3 f4 f5 kcy2 hrd2 kh2
              by_cases ha : a2 = 1
              · subst ha
                obtain rfl : m2 = 1 := by omega
                go_wp2_with fail
                go_roundg (m1 + 0)
                case measure => have := hq.out; omega
                case rel => exact ⟨_, ys, _, m1, _, _, 0, _, v5, css5, _, ⟨rfl⟩, rfl, rfl, kl5, kh5, kf5⟩
              · have kl6 := kl5.out
                rw [if_neg ha] at kl6
                have kl6 := Hd.mk kl6
                go_wp2_with fail
                go_roundg (m1 + (m2 - 1))
                case measure => have := hq.out; omega
                case rel => exact ⟨_, ys, _, m1, _, _, m2 - 1, _, v5, css5, _, ⟨rfl⟩, rfl, rfl, kl6, kh5, kf5⟩
          | false =>
            refine Flow.wp_region_flow_l (fun qq => match qq with
              | 56 => SP.eq (.slice (some ⟨b1, o1, none⟩) m1 a1)
              | 57 => SP.eq (.int .i64 (m1 : Nat))
              | 58 => SP.eq (.bool false)
              | 59 => SP.eq (.bool false)
              | 60 => SP.eq (.slice (some ⟨b2, o2, none⟩) m2 a2)
              | 61 => SP.eq (.pointer (some ⟨b2, o2, none⟩))
              | 62 => SP.eq (.agg #[.string y.name, .string y.key, .int .i64 y.kind, .int .u64 y.num, .string y.text, .slice K4 y.kids.length c4])
              | 63 => SP.eq (.slice (some ⟨b1, o1, none⟩) m1 a1)
              | 64 => SP.eq (.pointer (some ⟨b1, o1, none⟩))
              | 65 => SP.eq (.agg #[.string x.name, .string x.key, .int .i64 x.kind, .int .u64 x.num, .string x.text, .slice K3 x.kids.length c3])
              | 66 => SP.eq (.bool false)
              | 67 => SP.eq (.bool false)
              | 55 => SP.eq (.bool false)
              | _ => SP.any) 13 (by kernel_rfl) 75 rfl (by kernel_rfl) ?_ ?_
            · skip
              refine ⟨?_, ?_, ?_, ?_, ?_, ?_, ?_, ?_, ?_, ?_, ?_, ?_, ?_, trivial⟩
              · intro act W2 hk
                refine Flow.does_intro rfl (fun Kq hK => ?_)
                have e0 : act.tmps[0]?.getD undef = .slice (some ⟨b1, o1, none⟩) m1 a1 := hk.o 0 (by kernel_rfl)
                clear hk
                go_simp
                exact hK _ _ (Ext.refl _) (fun d hd => by cases hd; rfl)
              · intro act W2 hk
                refine Flow.does_intro rfl (fun Kq hK => ?_)
                have e56 : act.tmps[56]?.getD undef = .slice (some ⟨b1, o1, none⟩) m1 a1 := hk.v 56 (by kernel_rfl)
                clear hk
                go_simp
                exact hK _ _ (Ext.refl _) (fun d hd => by cases hd; rfl)
              · intro act W2 hk
                refine Flow.does_intro rfl (fun Kq hK => ?_)
                have e57 : act.tmps[57]?.getD undef = .int .i64 (m1 : Nat) := hk.v 57 (by kernel_rfl)
                clear hk
                go_simp
                exact hK _ _ (Ext.refl _) (fun d hd => by cases hd; first | rfl | (simp [SP.eq]; omega))
              · intro act W2 hk
                refine Flow.does_intro rfl (fun Kq hK => ?_)
                have e58 : act.tmps[58]?.getD undef = .bool false := hk.v 58 (by kernel_rfl)
                clear hk
                go_simp
                exact hK _ _ (Ext.refl _) (fun d hd => by cases hd; rfl)
              · intro act W2 hk
                have eg : act.tmps[59]?.getD undef = .bool false := hk.v 59 (by kernel_rfl)
                refine Flow.does_intro (wanted_yes rfl rfl eg) (fun Kq hK => ?_)
                clear eg
                have e1 : act.tmps[1]?.getD undef = .slice (some ⟨b2, o2, none⟩) m2 a2 := hk.o 1 (by kernel_rfl)
                clear hk
                go_simp
                exact hK _ _ (Ext.refl _) (fun d hd => by cases hd; rfl)
              · intro act W2 hk
                have eg : act.tmps[59]?.getD undef = .bool false := hk.v 59 (by kernel_rfl)
                refine Flow.does_intro (wanted_yes rfl rfl eg) (fun Kq hK => ?_)
                clear eg
                have e60 : act.tmps[60]?.getD undef = .slice (some ⟨b2, o2, none⟩) m2 a2 := hk.v 60 (by kernel_rfl)
                clear hk
                go_simp
                exact hK _ _ (Ext.refl _) (fun d hd => by cases hd; rfl)
              · intro act W2 hk
                have eg : act.tmps[59]?.getD undef = .bool false := hk.v 59 (by kernel_rfl)
                refine Flow.does_intro (wanted_yes rfl rfl eg) (fun Kq hK => ?_)
                clear eg
                have e61 : act.tmps[61]?.getD undef = .pointer (some ⟨b2, o2, none⟩) := hk.v 61 (by kernel_rfl)
                have g0 := Ext.cell ((Ext.drew V1).trans hk.ext) ((kcy1.out) 0 _ rfl)
                rw [Nat.add_zero] at g0
                have g1 := Ext.cell ((Ext.drew V1).trans hk.ext) ((kcy1.out) 1 _ rfl)
                have g2 := Ext.cell ((Ext.drew V1).trans hk.ext) ((kcy1.out) 2 _ rfl)
                have g3 := Ext.cell ((Ext.drew V1).trans hk.ext) ((kcy1.out) 3 _ rfl)
                have g4 := Ext.cell ((Ext.drew V1).trans hk.ext) ((kcy1.out) 4 _ rfl)
                have g5 := Ext.cell ((Ext.drew V1).trans hk.ext) ((kcy1.out) 5 _ rfl)
                clear hk
                go_simp
                exact hK _ _ (Ext.refl _) (fun d hd => by cases hd; rfl)
              · intro act W2 hk
                have eg : act.tmps[59]?.getD undef = .bool false := hk.v 59 (by kernel_rfl)
                refine Flow.does_intro (wanted_yes rfl rfl eg) (fun Kq hK => ?_)
                clear eg
                have e0 : act.tmps[0]?.getD undef = .slice (some ⟨b1, o1, none⟩) m1 a1 := hk.o 0 (by kernel_rfl)
                clear hk
                go_simp
                exact hK _ _ (Ext.refl _) (fun d hd => by cases hd; rfl)
              · intro act W2 hk
                have eg : act.tmps[59]?.getD undef = .bool false := hk.v 59 (by kernel_rfl)
                refine Flow.does_intro (wanted_yes rfl rfl eg) (fun Kq hK => ?_)
                clear eg
                have e63 : act.tmps[63]?.getD undef = .slice (some ⟨b1, o1, none⟩) m1 a1 := hk.v 63 (by kernel_rfl)
                clear hk
                go_simp
                exact hK _ _ (Ext.refl _) (fun d hd => by cases hd; rfl)
              · intro act W2 hk
                have eg : act.tmps[59]?.getD undef = .bool false := hk.v 59 (by kernel_rfl)
                refine Flow.does_intro (wanted_yes rfl rfl eg) (fun Kq hK => ?_)
                clear eg
                have e64 : act.tmps[64]?.getD undef = .pointer (some ⟨b1, o1, none⟩) := hk.v 64 (by kernel_rfl)
                have g0 := Ext.cell ((Ext.drew V1).trans hk.ext) ((kcx1.out) 0 _ rfl)
                rw [Nat.add_zero] at g0
                have g1 := Ext.cell ((Ext.drew V1).trans hk.ext) ((kcx1.out) 1 _ rfl)
                have g2 := Ext.cell ((Ext.drew V1).trans hk.ext) ((kcx1.out) 2 _ rfl)
                have g3 := Ext.cell ((Ext.drew V1).trans hk.ext) ((kcx1.out) 3 _ rfl)
                have g4 := Ext.cell ((Ext.drew V1).trans hk.ext) ((kcx1.out) 4 _ rfl)
                have g5 := Ext.cell ((Ext.drew V1).trans hk.ext) ((kcx1.out) 5 _ rfl)
                clear hk
                go_simp
                exact hK _ _ (Ext.refl _) (fun d hd => by cases hd; rfl)
              · intro act W2 hk
                have eg : act.tmps[59]?.getD undef = .bool false := hk.v 59 (by kernel_rfl)
                refine Flow.does_intro (wanted_yes rfl rfl eg) (fun Kq hK => ?_)
                clear eg
                have e62 : act.tmps[62]?.getD undef = .agg #[.string y.name, .string y.key, .int .i64 y.kind, .int .u64 y.num, .string y.text, .slice K4 y.kids.length c4] := hk.v 62 (by kernel_rfl)
                have e65 : act.tmps[65]?.getD undef = .agg #[.string x.name, .string x.key, .int .i64 x.kind, .int .u64 x.num, .string x.text, .slice K3 x.kids.length c3] := hk.v 65 (by kernel_rfl)
                clear hk
                go_simp
                refine Calls.mono (tree_less' y x K4 K3 y.kids.length c4 x.kids.length c3 _) ?_
                rintro e W3 ⟨rfl, hx⟩
                exact hK _ _ hx (fun d hd => by cases hd; exact congrArg Value.bool hyx)
              · intro act W2 hk
                refine Flow.does_intro rfl (fun Kq hK => ?_)
                have e59 : act.tmps[59]?.getD undef = .bool false := hk.v 59 (by kernel_rfl)
                have e66 : act.tmps[66]?.getD undef = .bool false := hk.v 66 (by kernel_rfl)
                clear hk
                go_simp
                exact hK _ _ (Ext.refl _) (fun d hd => by cases hd; rfl)
              · intro act W2 hk
                refine Flow.does_intro rfl (fun Kq hK => ?_)
                have e67 : act.tmps[67]?.getD undef = .bool false := hk.v 67 (by kernel_rfl)
                clear hk
                go_simp
                exact hK _ _ (Ext.refl _) (fun d hd => by cases hd; rfl)
            · intro act V2 he
              have hxV2 := Hd.mk ((Ext.drew V1).trans he.ext)
              obtain ⟨us, hA, hF⟩ := he.out [56, 57, 58, 59, 60, 61, 62, 63, 64, 65, 66, 67, 55] (by kernel_rfl)
              simp only [Flow.fillL, List.contains_cons, List.contains_nil, Nat.reduceBEq, Bool.or_false, Bool.false_or, Bool.or_true, Bool.true_or, ↓reduceIte, Nat.reduceAdd, Bool.false_eq_true] at hA
              subst hA
              have f55 : us 55 = .bool false := hF 55 (by simp)
              clear hF he
              rw [f55]
              clear f55
              have hx2 := Hd.mk (hxV1.out.trans hxV2.out)
              have kh2 := Hd.mk (kh.out.ext hx2.out)
              have kcx2 := Hd.mk (fun (q : Nat) u hq => Ext.cell hx2.out (kcx.out q u hq))
              have hrc2 := Hd.mk (hrc.out.ext hx2.out)
              have kcy2 := Hd.mk (fun (q : Nat) u hq => Ext.cell hx2.out (kcy.out q u hq))
              have hrd2 := Hd.mk (hrd.out.ext hx2.out)
              refine (show wpList _ _ _ [] _ _ from ?_)
              go_wp2_with fail
              refine Flow.wp_region_flow_l (fun qq => match qq with
                | 18 => SP.eq (.func (.func 99) #[] #[.pointer (some ⟨O, 0, none⟩), .pointer (some ⟨Wy, 0, none⟩), .pointer (some ⟨Cb, 0, none⟩), .pointer (some ⟨Sb, 0, none⟩), .pointer (some ⟨Ed, 0, none⟩)])
                | 19 => SP.eq (.slice (some ⟨b1, o1, none⟩) m1 a1)
                | 20 => SP.eq (.pointer (some ⟨b1, o1, none⟩))
                | 21 => SP.eq (.agg #[.string x.name, .string x.key, .int .i64 x.kind, .int .u64 x.num, .string x.text, .slice K3 x.kids.length c3])
                | 22 => SP.eq (.slice (some ⟨b2, o2, none⟩) m2 a2)
                | 23 => SP.eq (.pointer (some ⟨b2, o2, none⟩))
                | 24 => SP.eq (.agg #[.string y.name, .string y.key, .int .i64 y.kind, .int .u64 y.num, .string y.text, .slice K4 y.kids.length c4])
                | _ => SP.any) 7 (by kernel_rfl) 75 rfl (by kernel_rfl) ?_ ?_
              · skip
                refine ⟨?_, ?_, ?_, ?_, ?_, ?_, ?_, trivial⟩
                · intro act W2 hk
                  refine Flow.does_intro rfl (fun Kq hK => ?_)
                  have e4 : act.tmps[4]?.getD undef = .func (.func 99) #[] #[.pointer (some ⟨O, 0, none⟩), .pointer (some ⟨Wy, 0, none⟩), .pointer (some ⟨Cb, 0, none⟩), .pointer (some ⟨Sb, 0, none⟩), .pointer (some ⟨Ed, 0, none⟩)] := hk.o 4 (by kernel_rfl)
                  clear hk
                  go_simp
                  exact hK _ _ (Ext.refl _) (fun d hd => by cases hd; rfl)
                · intro act W2 hk
                  refine Flow.does_intro rfl (fun Kq hK => ?_)
                  have e0 : act.tmps[0]?.getD undef = .slice (some ⟨b1, o1, none⟩) m1 a1 := hk.o 0 (by kernel_rfl)
                  clear hk
                  go_simp
                  exact hK _ _ (Ext.refl _) (fun d hd => by cases hd; rfl)
                · intro act W2 hk
                  refine Flow.does_intro rfl (fun Kq hK => ?_)
                  have e19 : act.tmps[19]?.getD undef = .slice (some ⟨b1, o1, none⟩) m1 a1 := hk.v 19 (by kernel_rfl)
                  clear hk
                  go_simp
                  exact hK _ _ (Ext.refl _) (fun d hd => by cases hd; rfl)
                · intro act W2 hk
                  refine Flow.does_intro rfl (fun Kq hK => ?_)
                  have e20 : act.tmps[20]?.getD undef = .pointer (some ⟨b1, o1, none⟩) := hk.v 20 (by kernel_rfl)
                  have g0 := Ext.cell ((Ext.drew V2).trans hk.ext) ((kcx2.out) 0 _ rfl)
                  rw [Nat.add_zero] at g0
                  have g1 := Ext.cell ((Ext.drew V2).trans hk.ext) ((kcx2.out) 1 _ rfl)
                  have g2 := Ext.cell ((Ext.drew V2).trans hk.ext) ((kcx2.out) 2 _ rfl)
                  have g3 := Ext.cell ((Ext.drew V2).trans hk.ext) ((kcx2.out) 3 _ rfl)
                  have g4 := Ext.cell ((Ext.drew V2).trans hk.ext) ((kcx2.out) 4 _ rfl)
                  have g5 := Ext.cell ((Ext.drew V2).trans hk.ext) ((kcx2.out) 5 _ rfl)
                  clear hk
                  go_simp
                  exact hK _ _ (Ext.refl _) (fun d hd => by cases hd; rfl)
                · intro act W2 hk
                  refine Flow.does_intro rfl (fun Kq hK => ?_)
                  have e1 : act.tmps[1]?.getD undef = .slice (some ⟨b2, o2, none⟩) m2 a2 := hk.o 1 (by kernel_rfl)
                  clear hk
                  go_simp
                  exact hK _ _ (Ext.refl _) (fun d hd => by cases hd; rfl)
                · intro act W2 hk
                  refine Flow.does_intro rfl (fun Kq hK => ?_)
                  have e22 : act.tmps[22]?.getD undef = .slice (some ⟨b2, o2, none⟩) m2 a2 := hk.v 22 (by kernel_rfl)
                  clear hk
                  go_simp
                  exact hK _ _ (Ext.refl _) (fun d hd => by cases hd; rfl)
                · intro act W2 hk
                  refine Flow.does_intro rfl (fun Kq hK => ?_)
                  have e23 : act.tmps[23]?.getD undef = .pointer (some ⟨b2, o2, none⟩) := hk.v 23 (by kernel_rfl)
                  have g0 := Ext.cell ((Ext.drew V2).trans hk.ext) ((kcy2.out) 0 _ rfl)
                  rw [Nat.add_zero] at g0
                  have g1 := Ext.cell ((Ext.drew V2).trans hk.ext) ((kcy2.out) 1 _ rfl)
                  have g2 := Ext.cell ((Ext.drew V2).trans hk.ext) ((kcy2.out) 2 _ rfl)
                  have g3 := Ext.cell ((Ext.drew V2).trans hk.ext) ((kcy2.out) 3 _ rfl)
                  have g4 := Ext.cell ((Ext.drew V2).trans hk.ext) ((kcy2.out) 4 _ rfl)
                  have g5 := Ext.cell ((Ext.drew V2).trans hk.ext) ((kcy2.out) 5 _ rfl)
                  clear hk
                  go_simp
                  exact hK _ _ (Ext.refl _) (fun d hd => by cases hd; rfl)
              · intro act V3 he
                have hxV3 := Hd.mk ((Ext.drew V2).trans he.ext)
                obtain ⟨us, hA, hF⟩ := he.out [18, 19, 20, 21, 22, 23, 24] (by kernel_rfl)
                simp only [Flow.fillL, List.contains_cons, List.contains_nil, Nat.reduceBEq, Bool.or_false, Bool.false_or, Bool.or_true, Bool.true_or, ↓reduceIte, Nat.reduceAdd, Bool.false_eq_true] at hA
                subst hA
                have f18 : us 18 = .func (.func 99) #[] #[.pointer (some ⟨O, 0, none⟩), .pointer (some ⟨Wy, 0, none⟩), .pointer (some ⟨Cb, 0, none⟩), .pointer (some ⟨Sb, 0, none⟩), .pointer (some ⟨Ed, 0, none⟩)] := hF 18 (by simp)
                have f19 : us 19 = .slice (some ⟨b1, o1, none⟩) m1 a1 := hF 19 (by simp)
                have f20 : us 20 = .pointer (some ⟨b1, o1, none⟩) := hF 20 (by simp)
                have f21 : us 21 = .agg #[.string x.name, .string x.key, .int .i64 x.kind, .int .u64 x.num, .string x.text, .slice K3 x.kids.length c3] := hF 21 (by simp)
                have f22 : us 22 = .slice (some ⟨b2, o2, none⟩) m2 a2 := hF 22 (by simp)
                have f23 : us 23 = .pointer (some ⟨b2, o2, none⟩) := hF 23 (by simp)
                have f24 : us 24 = .agg #[.string y.name, .string y.key, .int .i64 y.kind, .int .u64 y.num, .string y.text, .slice K4 y.kids.length c4] := hF 24 (by simp)
                clear hF he
                rw [f18]
                clear f18
                rw [f19]
                clear f19
                rw [f20]
                clear f20
                rw [f21]
                clear f21
                rw [f22]
                clear f22
                rw [f23]
                clear f23
                rw [f24]
                clear f24
                have hx3 := Hd.mk (hx2.out.trans hxV3.out)
                have kh3 := Hd.mk (kh.out.ext hx3.out)
                have hrc3 := Hd.mk (hrc.out.ext hx3.out)
                have hrd3 := Hd.mk (hrd.out.ext hx3.out)
                clear kh2 hrc2 hrd2 kcx2 kcy2
                refine (show wpList _ _ _ (⟨some 25, .call { callee := .value (.tmp 18), args := #[.tmp 21, .tmp 24], argTypes := #[54, 54] }, _, _, _, none⟩ :: []) _ _ from ?_)
                go_wp2_with fail
                refine Calls.mono (both_any N ih.out kh3.out hrc3.out hrd3.out (by have := kl.out.deep; rw [deepL_cons] at this; omega) (by have := kl.out.wl; rw [deepL_cons] at this; omega) (by have := kl.out.el; have h8 := sizeL_cons x xs; have h9 := sizeL_cons y ys; omega)) ?_
                rintro e w5 ⟨rfl, v5, css5, ho5, hf5⟩
                have kh5 := Hd.mk (kh3.out.fr ho5 hf5)
                have kf5 := Hd.mk ((kf.out.trans (Fr.of_ext hx3.out)).trans hf5)
                have kl5 := Hd.mk (kl.out.next_b (w' := w5) (fun _ _ _ h => kh3.out.argr hf5 (h.ext hx3.out)) hxy hyx)
                clear ho5 hf5 hrc3 hrd3 kh3
                go_wp2_with fail
                refine Flow.wp_region_flow_l (fun qq => match qq with
                  | 26 => SP.eq (.slice (some ⟨b1, o1, none⟩) m1 a1)
                  | 27 => SP.eq (.slice (if a1 = 1 then some ⟨b1, o1, none⟩ else some ⟨b1, o1 + 6, none⟩) (m1 - 1) (a1 - 1))
                  | 28 => SP.eq (.slice (some ⟨b2, o2, none⟩) m2 a2)
                  | 29 => SP.eq (.slice (if a2 = 1 then some ⟨b2, o2, none⟩ else some ⟨b2, o2 + 6, none⟩) (m2 - 1) (a2 - 1))
                  | 0 => SP.eq (.slice (if a1 = 1 then some ⟨b1, o1, none⟩ else some ⟨b1, o1 + 6, none⟩) (m1 - 1) (a1 - 1))
                  | 1 => SP.eq (.slice (if a2 = 1 then some ⟨b2, o2, none⟩ else some ⟨b2, o2 + 6, none⟩) (m2 - 1) (a2 - 1))
                  | _ => SP.any) 6 (by kernel_rfl) 75 rfl (by kernel_rfl) ?_ ?_
                · skip
                  refine ⟨?_, ?_, ?_, ?_, ?_, ?_, trivial⟩
                  · intro act W2 hk
                    refine Flow.does_intro rfl (fun Kq hK => ?_)
                    have e0 : act.tmps[0]?.getD undef = .slice (some ⟨b1, o1, none⟩) m1 a1 := hk.o 0 (by kernel_rfl)
                    clear hk
                    go_simp
                    exact hK _ _ (Ext.refl _) (fun d hd => by cases hd; rfl)
                  · intro act W2 hk
                    refine Flow.does_intro rfl (fun Kq hK => ?_)
                    have e26 : act.tmps[26]?.getD undef = .slice (some ⟨b1, o1, none⟩) m1 a1 := hk.v 26 (by kernel_rfl)
                    clear hk
                    go_simp
                    exact hK _ _ (Ext.refl _) (fun d hd => by cases hd; rfl)
                  · intro act W2 hk
                    refine Flow.does_intro rfl (fun Kq hK => ?_)
                    have e1 : act.tmps[1]?.getD undef = .slice (some ⟨b2, o2, none⟩) m2 a2 := hk.o 1 (by kernel_rfl)
                    clear hk
                    go_simp
                    exact hK _ _ (Ext.refl _) (fun d hd => by cases hd; rfl)
                  · intro act W2 hk
                    refine Flow.does_intro rfl (fun Kq hK => ?_)
                    have e28 : act.tmps[28]?.getD undef = .slice (some ⟨b2, o2, none⟩) m2 a2 := hk.v 28 (by kernel_rfl)
                    clear hk
                    go_simp
                    exact hK _ _ (Ext.refl _) (fun d hd => by cases hd; rfl)
                  · intro act W2 hk
                    refine Flow.does_intro rfl (fun Kq hK => ?_)
                    have e27 : act.tmps[27]?.getD undef = .slice (if a1 = 1 then some ⟨b1, o1, none⟩ else some ⟨b1, o1 + 6, none⟩) (m1 - 1) (a1 - 1) := hk.v 27 (by kernel_rfl)
                    clear hk
                    go_simp
                    exact hK _ _ (Ext.refl _) (fun d hd => by cases hd; rfl)
                  · intro act W2 hk
                    refine Flow.does_intro rfl (fun Kq hK => ?_)
                    have e29 : act.tmps[29]?.getD undef = .slice (if a2 = 1 then some ⟨b2, o2, none⟩ else some ⟨b2, o2 + 6, none⟩) (m2 - 1) (a2 - 1) := hk.v 29 (by kernel_rfl)
                    clear hk
                    go_simp
                    exact hK _ _ (Ext.refl _) (fun d hd => by cases hd; rfl)
                · intro act V6 he
                  have hxV6 := Hd.mk ((Ext.drew w5).trans he.ext)
                  obtain ⟨us, hA, hF⟩ := he.out [26, 27, 28, 29, 0, 1] (by kernel_rfl)
                  simp only [Flow.fillL, List.contains_cons, List.contains_nil, Nat.reduceBEq, Bool.or_false, Bool.false_or, Bool.or_true, Bool.true_or, ↓reduceIte, Nat.reduceAdd, Bool.false_eq_true] at hA
                  subst hA
                  have f0 : us 0 = .slice (if a1 = 1 then some ⟨b1, o1, none⟩ else some ⟨b1, o1 + 6, none⟩) (m1 - 1) (a1 - 1) := hF 0 (by simp)
                  have f1 : us 1 = .slice (if a2 = 1 then some ⟨b2, o2, none⟩ else some ⟨b2, o2 + 6, none⟩) (m2 - 1) (a2 - 1) := hF 1 (by simp)
                  clear hF he
                  rw [f0]
                  clear f0
                  rw [f1]
                  clear f1
                  refine (show wpList _ _ _ [] _ _ from ?_)
                  have kh6 := Hd.mk (kh5.out.ext hxV6.out)
                  have kf6 := Hd.mk (kf5.out.trans (Fr.of_ext hxV6.out))
                  have kl6 := Hd.mk (kl5.out.ext hxV6.out)
                  generalize (if a1 = 1 then some (⟨b1, o1, none⟩ : Addr) else some ⟨b1, o1 + 6, none⟩) = Q1 at *
                  generalize (if a2 = 1 then some (⟨b2, o2, none⟩ : Addr) else some ⟨b2, o2 + 6, none⟩) = Q2 at *
                  go_wp2_with fail
                  go_roundg (m1 - 1 + (m2 - 1))
                  case measure => have := hq.out; omega
                  case rel => exact ⟨xs, ys, _, m1 - 1, _, _, m2 - 1, _, v5, css5, _, ⟨rfl⟩, rfl, rfl, kl6, kh6, kf6⟩
end Go.Proofs.Ytgkgedjmnbjalaa
