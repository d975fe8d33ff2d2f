/- Tag and Kid of spec and of the document.
   Conditions: none. -/
import Derived.Test.YtgkgedjmnbjalaaSpU
set_option linter.unusedSimpArgs false
namespace Go.Proofs.Ytgkgedjmnbjalaa
open Go.RowKit Go.Sort

/-- The tag of a kid; 0 where there is none. -/
def tagSp (s : Sp) (i : Int) : Int :=
  if i < 0 then 0 else match s.kids[i.toNat]? with | some k => 2 * i + 2 + (if k.kind = 1 then 0 else 1) | none => 0
/-- Which kid has a tag. -/
def kidSp (s : Sp) (t : Int) : Int := if tagSp s (t / 2 - 1) = t ∧ 0 ≤ t / 2 - 1 ∧ t / 2 - 1 < s.kids.length then t / 2 - 1 else -1

theorem tagSp_in {s : Sp} {i : Nat} {k : Sp} (h : s.kids[i]? = some k) : tagSp s i = 2 * i + 2 + (if k.kind = 1 then 0 else 1) := by
  rw [tagSp, if_neg (by omega)]
  simp [h]
theorem tagSp_out {s : Sp} {i : Int} (h : i < 0 ∨ s.kids.length ≤ i) : tagSp s i = 0 := by
  unfold tagSp
  split
  · rfl
  · rw [List.getElem?_eq_none (by omega)]

/-- The cell of a kid's kind. -/
theorem RepS.kindAt {E : TypeId} {base : Nat} {w : World} {s : Sp} {c : List Value} (h : RepS E base w s c) : ∃ x1 x2 x3 x4 x5 x6 x7 K kc, c = [.string s.name, x1, x2, x3, x4, x5, x6, x7, .slice K s.kids.length kc] ∧
    s.kids.length ≤ 100 ∧ ∀ i k, s.kids[i]? = some k → ∃ b, K = some ⟨b, 0, none⟩ ∧ w.cell? ⟨b, i * 9 + 1, none⟩ = some (.int .i64 k.kind) := by
  obtain ⟨kind, ty, mn, mx, N, nl, nc, must, most, K, kc, rfl, h1, h2⟩ := h.kid2
  refine ⟨_, _, _, _, _, _, _, K, kc, rfl, h1, fun i k hi => ?_⟩
  obtain ⟨b, ck, rfl, hle, hrk, hc⟩ := h2 i k hi
  refine ⟨b, rfl, ?_⟩
  cases hrk with
  | mk nm kind' ty' mn' mx' names' must' most' kids' N' nc' K' kc' css hN hK h9 hl hr hb => exact hc 1 _ rfl

theorem or_one : ∀ n : Nat, n < 101 → bits BinOp.or IntKind.u64 (((n : Int) + 1) * 2) 1 = 2 * n + 2 + 1 := by decide +kernel

set_option maxHeartbeats 1000000 in
theorem tag_any {base : Nat} {w : World} {s : Sp} {c : List Value} (h : RepS 27 base w s c) (i : Int) : Calls Try.prog 35 #[.agg c.toArray, .int .i64 i] w fun e w' => e = .returned (.int .u64 (tagSp s i)) ∧ Ext w w' := by
  obtain ⟨x1, x2, x3, x4, x5, x6, x7, K, kc, rfl, hl, hk⟩ := h.kindAt
  have hk2 := Hd.mk hk
  clear hk h
  have hx := Hd.mk (Ext.alloc w (.cells #[.string s.name, x1, x2, x3, x4, x5, x6, x7, .slice K s.kids.length kc] 27))
  by_cases hout : i < 0 ∨ s.kids.length ≤ i
  · have ht := Hd.mk (tagSp_out hout)
    rcases hout with h1 | h1
    · go_enter Try.func35, Try.ntmps35
      go_wp2_with fail
      go_ret
      exact ⟨ret_int ht.out.symm, hx.out⟩
    · by_cases h2 : i < 0
      · go_enter Try.func35, Try.ntmps35
        go_wp2_with fail
        go_ret
        exact ⟨ret_int ht.out.symm, hx.out⟩
      · go_enter Try.func35, Try.ntmps35
        go_wp2_with fail
        go_ret
        exact ⟨ret_int ht.out.symm, hx.out⟩
  · obtain ⟨n, rfl⟩ : ∃ n : Nat, i = n := ⟨i.toNat, by omega⟩
    have hlt : n < s.kids.length := by omega
    have hi := List.getElem?_eq_getElem hlt
    generalize s.kids[n] = k at hi
    have ht := Hd.mk (tagSp_in hi)
    obtain ⟨b, rfl, hc⟩ := hk2.out n k hi
    have hc1 := Ext.cell hx.out hc
    clear hc hi
    by_cases hkk : k.kind = 1
    · rw [if_pos hkk] at ht
      rw [hkk] at hc1
      go_enter Try.func35, Try.ntmps35
      go_wp2_with fail
      go_ret
      refine ⟨ret_int (Eq.trans ?_ ht.out.symm), hx.out⟩
      omega
    · rw [if_neg hkk] at ht
      generalize k.kind = kd at *
      go_enter Try.func35, Try.ntmps35
      go_wp2_with fail
      go_ret
      refine ⟨ret_int (Eq.trans ?_ ht.out.symm), hx.out⟩
      exact or_one n (by omega)

set_option maxHeartbeats 1000000 in
theorem tag_ref {base : Nat} {w : World} {s : Sp} {c : List Value} (h : RepS 33 base w s c) (i : Int) : Calls Try.prog 36 #[.agg c.toArray, .int .i64 i] w fun e w' => e = .returned (.int .u64 (tagSp s i)) ∧ Ext w w' := by
  obtain ⟨x1, x2, x3, x4, x5, x6, x7, K, kc, rfl, hl, hk⟩ := h.kindAt
  have hk2 := Hd.mk hk
  clear hk h
  have hx := Hd.mk (Ext.alloc w (.cells #[.string s.name, x1, x2, x3, x4, x5, x6, x7, .slice K s.kids.length kc] 33))
  by_cases hout : i < 0 ∨ s.kids.length ≤ i
  · have ht := Hd.mk (tagSp_out hout)
    rcases hout with h1 | h1
    · go_enter Try.func36, Try.ntmps36
      go_wp2_with fail
      go_ret
      exact ⟨ret_int ht.out.symm, hx.out⟩
    · by_cases h2 : i < 0
      · go_enter Try.func36, Try.ntmps36
        go_wp2_with fail
        go_ret
        exact ⟨ret_int ht.out.symm, hx.out⟩
      · go_enter Try.func36, Try.ntmps36
        go_wp2_with fail
        go_ret
        exact ⟨ret_int ht.out.symm, hx.out⟩
  · obtain ⟨n, rfl⟩ : ∃ n : Nat, i = n := ⟨i.toNat, by omega⟩
    have hlt : n < s.kids.length := by omega
    have hi := List.getElem?_eq_getElem hlt
    generalize s.kids[n] = k at hi
    have ht := Hd.mk (tagSp_in hi)
    obtain ⟨b, rfl, hc⟩ := hk2.out n k hi
    have hc1 := Ext.cell hx.out hc
    clear hc hi
    by_cases hkk : k.kind = 1
    · rw [if_pos hkk] at ht
      rw [hkk] at hc1
      go_enter Try.func36, Try.ntmps36
      go_wp2_with fail
      go_ret
      refine ⟨ret_int (Eq.trans ?_ ht.out.symm), hx.out⟩
      omega
    · rw [if_neg hkk] at ht
      generalize k.kind = kd at *
      go_enter Try.func36, Try.ntmps36
      go_wp2_with fail
      go_ret
      refine ⟨ret_int (Eq.trans ?_ ht.out.symm), hx.out⟩
      omega

theorem kidSp_yes {s : Sp} {t : Int} (n : Nat) (hn : t / 2 - 1 = n) (hlt : n < s.kids.length) (h : tagSp s n = t) : kidSp s t = n := by
  rw [kidSp, hn, if_pos ⟨h, by omega, by omega⟩]
theorem kidSp_no {s : Sp} {t : Int} (h : t / 2 - 1 < 0 ∨ s.kids.length ≤ t / 2 - 1 ∨ tagSp s (t / 2 - 1) ≠ t) : kidSp s t = -1 := by
  rw [kidSp, if_neg]
  rintro ⟨h1, h2, h3⟩
  rcases h with h | h | h
  · omega
  · omega
  · exact h h1
theorem tagSp_div {s : Sp} {i : Nat} (h : i < s.kids.length) : tagSp s i / 2 - 1 = i := by
  rw [tagSp_in (List.getElem?_eq_getElem h)]
  split <;> omega

set_option maxHeartbeats 1000000 in
theorem kid_any {base : Nat} {w : World} {s : Sp} {c : List Value} (h : RepS 27 base w s c) (t : Int) (ht0 : 0 ≤ t) (ht1 : t < 18446744073709551616) : Calls Try.prog 33 #[.agg c.toArray, .int .u64 t] w fun e w' => e = .returned (.int .i64 (kidSp s t)) ∧ Ext w w' := by
  have hrep := Hd.mk h
  obtain ⟨x1, x2, x3, x4, x5, x6, x7, K, kc, rfl, hl, hk⟩ := h.kindAt
  clear hk h
  have hx := Hd.mk (Ext.alloc w (.cells #[.string s.name, x1, x2, x3, x4, x5, x6, x7, .slice K s.kids.length kc] 27))
  by_cases h1 : t / 2 - 1 < s.kids.length
  · by_cases h2 : t / 2 - 1 < 0
    · have hno := Hd.mk (kidSp_no (s := s) (.inl h2))
      go_enter Try.func33, Try.ntmps33
      go_wp2_with fail
      go_ret
      exact ⟨ret_int hno.out.symm, hx.out⟩
    · go_enter Try.func33, Try.ntmps33
      go_wp2_with fail
      refine Calls.mono (tag_any (hrep.out.ext hx.out) (t / 2 - 1)) ?_
      rintro e w2 ⟨rfl, hx2⟩
      have hx3 := Hd.mk (hx.out.trans hx2)
      obtain ⟨n, hn⟩ : ∃ n : Nat, t / 2 - 1 = n := ⟨(t / 2 - 1).toNat, by omega⟩
      have hlt : n < s.kids.length := by omega
      by_cases hy : tagSp s (t / 2 - 1) = t
      · have hyes := Hd.mk (kidSp_yes n hn hlt (by rw [← hn]; exact hy))
        rw [← hn] at hyes
        have hd : (tagSp s (t / 2 - 1) == t) = true := by simpa using hy
        clear hn hy
        generalize tagSp s (t / 2 - 1) = tg at *
        go_wp2_with fail
        go_ret
        exact ⟨ret_int hyes.out.symm, hx3.out⟩
      · have hno := Hd.mk (kidSp_no (.inr (.inr hy)))
        have hd : (tagSp s (t / 2 - 1) == t) = false := by simpa using hy
        clear hn hy
        generalize tagSp s (t / 2 - 1) = tg at *
        go_wp2_with fail
        go_ret
        exact ⟨ret_int hno.out.symm, hx3.out⟩
  · have hno := Hd.mk (kidSp_no (s := s) (.inr (.inl (Int.not_lt.1 h1))))
    go_enter Try.func33, Try.ntmps33
    go_wp2_with fail
    go_ret
    exact ⟨ret_int hno.out.symm, hx.out⟩

set_option maxHeartbeats 1000000 in
theorem kid_ref {base : Nat} {w : World} {s : Sp} {c : List Value} (h : RepS 33 base w s c) (t : Int) : Calls Try.prog 34 #[.agg c.toArray, .int .u64 t] w fun e w' => e = .returned (.int .i64 (kidSp s t)) ∧ Ext w w' := by
  have hrep := Hd.mk h
  obtain ⟨x1, x2, x3, x4, x5, x6, x7, K, kc, rfl, hl, hk⟩ := h.kindAt
  clear hk h
  have hb := Hd.mk (Blk.new w #[.string s.name, x1, x2, x3, x4, x5, x6, x7, .slice K s.kids.length kc] 33)
  have hx := Hd.mk (Ext.alloc w (.cells #[.string s.name, x1, x2, x3, x4, x5, x6, x7, .slice K s.kids.length kc] 33))
  go_enter Try.func34, Try.ntmps34
  go_wp2_with fail
  go_loopg [5] (s.kids.length + 1) (fun q i wr => ∃ j : Nat, j ≤ s.kids.length ∧ Hd (q = s.kids.length + 1 - j) ∧ i = .int .i64 j ∧ Hd (∀ k : Nat, k < j → tagSp s k ≠ t) ∧ Hd (Ext w wr) ∧ Hd (Blk wr w.heap.size [.string s.name, x1, x2, x3, x4, x5, x6, x7, .slice K s.kids.length kc] 33))
  case atStart => exact ⟨0, Nat.zero_le _, ⟨by omega⟩, rfl, ⟨by omega⟩, hx, hb⟩
  case round =>
  obtain ⟨j, hj, hq, rfl, hI, hxr, hbr⟩ := hrel
  have g := hbr.out.cell
  by_cases hlt : j < s.kids.length
  · go_wp2_with fail
    refine Calls.mono (tag_ref (hrep.out.ext hxr.out) j) ?_
    rintro e w2 ⟨rfl, hx2⟩
    have hx3 := Hd.mk (hxr.out.trans hx2)
    have hb3 := Hd.mk (hbr.out.ext hx2)
    clear g hx2 hxr hbr
    by_cases hy : tagSp s j = t
    · have hyes := Hd.mk (kidSp_yes j (by rw [← hy]; exact tagSp_div hlt) hlt hy)
      have hd : (tagSp s j == t) = true := by simpa using hy
      clear hy
      generalize tagSp s j = tg at *
      go_wp2_with fail
      go_ret
      exact ⟨ret_int hyes.out.symm, hx3.out⟩
    · have hI2 : Hd (∀ k : Nat, k < j + 1 → tagSp s k ≠ t) := ⟨fun k hk => if h : k = j then h ▸ hy else hI.out k (by omega)⟩
      have hd : (tagSp s j == t) = false := by simpa using hy
      clear hy hI
      generalize tagSp s j = tg at *
      go_wp2_with fail
      go_roundg (s.kids.length + 1 - (j + 1))
      case measure => have := hq.out; omega
      case rel => exact ⟨j + 1, by omega, ⟨rfl⟩, by go_num, hI2, hx3, hb3⟩
  · have hno := Hd.mk (show kidSp s t = -1 by
      by_cases h1 : t / 2 - 1 < 0
      · exact kidSp_no (.inl h1)
      · by_cases h2 : s.kids.length ≤ t / 2 - 1
        · exact kidSp_no (.inr (.inl h2))
        · refine kidSp_no (.inr (.inr ?_))
          have := hI.out (t / 2 - 1).toNat (by omega)
          rwa [Int.toNat_of_nonneg (by omega)] at this)
    clear hI
    go_wp2_with fail
    go_ret
    exact ⟨ret_int hno.out.symm, hxr.out⟩

end Go.Proofs.Ytgkgedjmnbjalaa
