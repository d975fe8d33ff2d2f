/- A tree that is handed in reads as a tree; how large it is.
   Conditions: none. -/
import Derived.Test.YtgkgedjmnbjalaaBulk
import Derived.Test.YtgkgedjmnbjalaaTA
import Derived.ChangeOld
import Derived.DataReads
set_option linter.unusedSimpArgs false
namespace Go.Proofs.Ytgkgedjmnbjalaa
open Go.RowKit Go.ChangeShapes Go.WideShapes

theorem cells54 : Try.prog.cellsOf 54 = 6 := by kernel_rfl
theorem cells51 : Try.prog.cellsOf 51 = 3 := by kernel_rfl
theorem cells52 : Try.prog.cellsOf 52 = 1 := by kernel_rfl
theorem cells9 : Try.prog.cellsOf 9 = 1 := by kernel_rfl
theorem cells3 : Try.prog.cellsOf 3 = 1 := by kernel_rfl
theorem cells24 : Try.prog.cellsOf 24 = 1 := by kernel_rfl

theorem list6 {cs : List Value} (h : cs.length = 6) : ∃ a b c d e f, cs = [a, b, c, d, e, f] := by
  match cs, h with
  | [a, b, c, d, e, f], _ => exact ⟨a, b, c, d, e, f, rfl⟩


variable {H : Type} {enc : TypeId × Value → H} {W : World} {base : Nat} {spare : Nat → Bool} {held : Bool}

theorem node_open : ∀ (fuel : Nat) (cs : List Value) (x : DataW H × List MemPlace), DataW.trod enc Try.prog W base spare held fuel 54 cs = some x → Rows.uptoBulk x.1 ≤ 1048576 →
    ∃ t : T, RT (fun _ => True) W t cs ∧ t.size ≤ Rows.uptoBulk x.1 := by
  intro fuel
  induction fuel using Nat.strongRecOn with
  | _ fuel ih =>
    intro cs x h hx
    obtain ⟨xs, n, rfl, rfl, hl, hlen, hf⟩ := DataW.trod_struct Try.underlying54 h
    rw [cells54] at hl
    obtain ⟨c0, c1, c2, c3, c4, c5, rfl⟩ := list6 hl
    obtain ⟨x0, x1, x2, x3, rfl⟩ : ∃ x0 x1 x2 x3, xs = [x0, x1, x2, x3] := by
      match xs, hlen with
      | [x0, x1, x2, x3], _ => exact ⟨x0, x1, x2, x3, rfl⟩
    have f0 := hf 0 ⟨"Name", 9, 0, false, "", "", 0⟩ rfl
    have f1 := hf 1 ⟨"Key", 9, 1, false, "", "", 16⟩ rfl
    have f2 := hf 2 ⟨"Val", 51, 2, false, "", "", 32⟩ rfl
    have f3 := hf 3 ⟨"Kids", 52, 5, false, "", "", 64⟩ rfl
    simp only [cells9, cells51, cells52, List.drop_zero, List.drop_succ_cons, List.take_succ_cons, List.take_zero, List.getElem?_cons_zero, List.getElem?_cons_succ] at f0 f1 f2 f3
    obtain ⟨s0, e0, rfl, _⟩ := DataW.trod_string Try.underlying9 f0
    obtain ⟨s1, e1, rfl, _⟩ := DataW.trod_string Try.underlying9 f1
    obtain ⟨ys, m, hm, rfl, _, hlen2, hf2⟩ := DataW.trod_struct Try.underlying51 f2
    obtain ⟨y0, y1, y2, rfl⟩ : ∃ y0 y1 y2, ys = [y0, y1, y2] := by
      match ys, hlen2 with
      | [y0, y1, y2], _ => exact ⟨y0, y1, y2, rfl⟩
    have g0 := hf2 0 ⟨"Kind", 3, 0, false, "", "", 0⟩ rfl
    have g1 := hf2 1 ⟨"Num", 24, 1, false, "", "", 8⟩ rfl
    have g2 := hf2 2 ⟨"Text", 9, 2, false, "", "", 16⟩ rfl
    simp only [cells9, cells3, cells24, List.drop_zero, List.drop_succ_cons, List.take_succ_cons, List.take_zero, List.getElem?_cons_zero, List.getElem?_cons_succ] at g0 g1 g2
    obtain ⟨k0, e2, rfl, _⟩ := DataW.trod_int Try.underlying3 g0
    obtain ⟨k1, e3, rfl, _⟩ := DataW.trod_int Try.underlying24 g1
    obtain ⟨s2, e4, rfl, _⟩ := DataW.trod_string Try.underlying9 g2
    obtain rfl : c0 = .string s0 := by simpa using e0
    obtain rfl : c1 = .string s1 := by simpa using e1
    obtain rfl : c2 = .int .i64 k0 := by simpa using e2
    obtain rfl : c3 = .int .u64 k1 := by simpa using e3
    obtain rfl : c4 = .string s2 := by simpa using e4
    simp only [List.map_cons, List.map_nil] at hx ⊢
    rw [show ∀ l : List (DataW H), Rows.uptoBulk (.agg l) = Rows.uptoBulkAll l + 1 from fun l => by simp [Rows.uptoBulk]] at hx ⊢
    simp only [Rows.uptoBulkAll] at hx ⊢
    rcases DataW.trod_slice Try.underlying52 f3 with ⟨e5, rfl⟩ | ⟨a, len, cap, elems, rest, k, hk, e5, rfl, _, hlc, hcm, hel, helem, _, _⟩
    · obtain rfl : c5 = .slice none 0 0 := by simpa using e5
      refine ⟨.mk s0 s1 k0 k1 s2 [], .mk s0 s1 k0 k1 s2 [] none 0 [] rfl (by simp) (fun h => absurd rfl h) (fun i k c h => by simp at h) ⟨Nat.le_refl _, by simp, fun _ => rfl⟩, ?_⟩
      simp only [T.size, sizeL]
      omega
    · obtain rfl : c5 = .slice (some a) len cap := by simpa using e5
      simp only [Rows.uptoBulk] at hx ⊢
      subst hel
      rw [cells54] at helem
      have hsub : ∀ (i : Nat) (y : DataW H × List MemPlace), elems[i]? = some y → Rows.uptoBulk y.1 ≤ Rows.uptoBulkAll (elems.map (·.1)) := fun i y hi => bulks.part_le (List.mem_map_of_mem (List.mem_of_getElem? hi))
      have hone : ∀ (i : Nat) (y : DataW H × List MemPlace), elems[i]? = some y → ∃ (c : List Value) (t : T), RT (fun _ => True) W t c ∧ t.size ≤ Rows.uptoBulk y.1 ∧ (∀ q v, c[q]? = some v → W.cell? ((a.add (i * 6)).add q) = some v) := by
        intro i y hi
        have hlt := (List.getElem?_eq_some_iff.1 hi).1
        have hb := helem i hlt
        rw [hi, Option.bind_eq_some_iff] at hb
        obtain ⟨c, hc, hy⟩ := hb
        obtain ⟨t, ht, hs⟩ := ih k (by omega) c y hy (by have := hsub i y hi; omega)
        obtain ⟨_, hcl, hcc⟩ := World.cells?_some hc
        refine ⟨c, t, ht, hs, fun q v hv => ?_⟩
        have hq := (List.getElem?_eq_some_iff.1 hv).1
        rw [hcc q (by omega), hv]
      have hall : ∀ (l : List (DataW H × List MemPlace)) (s : Nat), (∀ (i : Nat) (y : DataW H × List MemPlace), l[i]? = some y → elems[s + i]? = some y) → ∃ (css : List (List Value)) (ts : List T), css.length = l.length ∧ ts.length = l.length ∧ sizeL ts ≤ Rows.uptoBulkAll (l.map (·.1)) ∧
          ∀ (i : Nat) (c : List Value) (t : T), css[i]? = some c → ts[i]? = some t → RT (fun _ => True) W t c ∧ ∀ q v, c[q]? = some v → W.cell? ((a.add ((s + i) * 6)).add q) = some v := by
        intro l
        induction l with
        | nil => intro s _; exact ⟨[], [], rfl, rfl, by simp [sizeL], by simp⟩
        | cons y l ihl =>
          intro s hl
          obtain ⟨c, t, h1, h2, h3⟩ := hone s y (by have := hl 0 y rfl; simpa using this)
          obtain ⟨css, ts, q1, q2, q3, q4⟩ := ihl (s + 1) (fun i z hi => by have := hl (i + 1) z (by simpa using hi); rw [show s + 1 + i = s + (i + 1) by omega]; exact this)
          refine ⟨c :: css, t :: ts, by simp [q1], by simp [q2], ?_, fun i d u hd hu => ?_⟩
          · simp only [sizeL, List.map_cons, Rows.uptoBulkAll]; omega
          · cases i with
            | zero => simp at hd hu; subst hd hu; exact ⟨h1, h3⟩
            | succ i =>
              have := q4 i d u (by simpa using hd) (by simpa using hu)
              rw [show s + (i + 1) = s + 1 + i by omega]
              exact this
      obtain ⟨css, ts, q1, q2, q3, q4⟩ := hall elems 0 (fun i y hi => by rw [Nat.zero_add]; exact hi)
      have hlen' : ts.length ≤ 1048576 := by have := sizeL_len ts; omega
      refine ⟨.mk s0 s1 k0 k1 s2 ts, ?_, by simp only [T.size]; omega⟩
      rw [← q2]
      have hrow : RRow (fun _ => True) W (some a) ts cap := by
        refine ⟨by omega, hlen', fun h => (by cases h), fun i t hi => ?_⟩
        have hlt : i < css.length := by rw [q1, ← q2]; exact (List.getElem?_eq_some_iff.1 hi).1
        obtain ⟨h1, h2⟩ := q4 i _ t (List.getElem?_eq_getElem hlt) hi
        have h6 := h1.len
        generalize css[i] = c at h1 h2 h6
        have hlt0 : 0 < css.length := by omega
        have hlt1 : 0 < ts.length := by omega
        obtain ⟨z1, z2⟩ := q4 0 _ _ (List.getElem?_eq_getElem hlt0) (List.getElem?_eq_getElem hlt1)
        have z6 := z1.len
        generalize css[0] = d at z1 z2 z6
        obtain ⟨b, off, spot⟩ := a
        have hs : spot = none := by
          cases d with
          | nil => simp at z6
          | cons v d => simpa [Addr.add] using World.cell?_spot (z2 0 v rfl)
        subst hs
        refine ⟨b, off, c, rfl, trivial, h1, fun q v hv => ?_⟩
        have := h2 q v hv
        rw [Nat.zero_add, addr_add, addr_add] at this
        exact this
      exact RT.of_row (t := .mk s0 s1 k0 k1 s2 ts) hrow
end Go.Proofs.Ytgkgedjmnbjalaa
