/- Ways and edits that are handed in read as such; how large they are.
   Conditions: none. -/
import Derived.Test.YtgkgedjmnbjalaaRowTree
import Derived.Test.YtgkgedjmnbjalaaTO
set_option linter.unusedSimpArgs false
namespace Go.Proofs.Ytgkgedjmnbjalaa
open Go.RowKit Go.ChangeShapes Go.WideShapes

theorem cells65 : Try.prog.cellsOf 65 = 2 := by kernel_rfl
theorem cells68 : Try.prog.cellsOf 68 = 14 := by kernel_rfl
theorem cells59 : Try.prog.cellsOf 59 = 1 := by kernel_rfl
theorem list2 {cs : List Value} (h : cs.length = 2) : ∃ a b, cs = [a, b] := by
  match cs, h with
  | [a, b], _ => exact ⟨a, b, rfl⟩
theorem list14 {cs : List Value} (h : cs.length = 14) : ∃ a b c1 c2 c3 c4 c5 c6 d1 d2 d3 d4 d5 d6, cs = [a, b, c1, c2, c3, c4, c5, c6, d1, d2, d3, d4, d5, d6] := by
  match cs, h with
  | [a, b, c1, c2, c3, c4, c5, c6, d1, d2, d3, d4, d5, d6], _ => exact ⟨a, b, c1, c2, c3, c4, c5, c6, d1, d2, d3, d4, d5, d6, rfl⟩

variable {H : Type} {enc : TypeId × Value → H} {W : World} {base : Nat} {spare : Nat → Bool} {held : Bool}

/-- A row of elements, each of which reads as P says. -/
theorem rows_open {α : Type} {P : α → List Value → Prop} {m : Nat} (hm : 0 < m) (hP : ∀ t c, P t c → c.length = m) {a : Addr} {elems : List (DataW H × List MemPlace)}
    (hone : ∀ (i : Nat) (y : DataW H × List MemPlace), elems[i]? = some y → ∃ (c : List Value) (t : α), P t c ∧ (∀ q v, c[q]? = some v → W.cell? ((a.add (i * m)).add q) = some v)) :
    ∃ ts : List α, ts.length = elems.length ∧ ∀ (i : Nat) t, ts[i]? = some t → ∃ b off c, some a = some (⟨b, off, none⟩ : Addr) ∧ P t c ∧ ∀ q v, c[q]? = some v → W.cell? ⟨b, off + i * m + q, none⟩ = some v := by
  have hall : ∀ (l : List (DataW H × List MemPlace)) (s : Nat), (∀ (i : Nat) (y : DataW H × List MemPlace), l[i]? = some y → elems[s + i]? = some y) → ∃ ts : List α, ts.length = l.length ∧
      ∀ (i : Nat) t, ts[i]? = some t → ∃ c, P t c ∧ ∀ q v, c[q]? = some v → W.cell? ((a.add ((s + i) * m)).add q) = some v := by
    intro l
    induction l with
    | nil => intro s _; exact ⟨[], rfl, by simp⟩
    | cons y l ihl =>
      intro s hl
      obtain ⟨c, t, h1, h3⟩ := hone s y (by have := hl 0 y rfl; simpa using this)
      obtain ⟨ts, q2, q4⟩ := ihl (s + 1) (fun i z hi => by have := hl (i + 1) z (by simpa using hi); rw [show s + 1 + i = s + (i + 1) by omega]; exact this)
      refine ⟨t :: ts, by simp [q2], fun i u hu => ?_⟩
      cases i with
      | zero => simp at hu; subst hu; exact ⟨c, h1, h3⟩
      | succ i =>
        obtain ⟨d, r1, r2⟩ := q4 i u (by simpa using hu)
        refine ⟨d, r1, ?_⟩
        rw [show s + (i + 1) = s + 1 + i by omega]
        exact r2
  obtain ⟨ts, q2, q4⟩ := hall elems 0 (fun i y hi => by rw [Nat.zero_add]; exact hi)
  refine ⟨ts, q2, fun i t hi => ?_⟩
  obtain ⟨c, h1, h2⟩ := q4 i t hi
  have h6 := hP _ _ h1
  obtain ⟨b, off, spot⟩ := a
  have hlt0 : 0 < ts.length := by have := (List.getElem?_eq_some_iff.1 hi).1; omega
  obtain ⟨d, z1, z2⟩ := q4 0 _ (List.getElem?_eq_getElem hlt0)
  have z6 := hP _ _ z1
  have hs : spot = none := by
    cases d with
    | nil => simp at z6; omega
    | cons v d => simpa [Addr.add] using World.cell?_spot (z2 0 v rfl)
  subst hs
  refine ⟨b, off, c, rfl, h1, fun q v hv => ?_⟩
  have := h2 q v hv
  rw [Nat.zero_add, addr_add, addr_add] at this
  exact this

theorem way_open {fuel : Nat} {cs : List Value} {x : DataW H × List MemPlace} (h : DataW.trod enc Try.prog W base spare held fuel 59 cs = some x) (hx : Rows.uptoBulk x.1 ≤ 1048576) :
    ∃ (A : Option Addr) (c : Nat) (l : List Step), cs = [.slice A l.length c] ∧ WRow (fun _ => True) W A l c := by
  rcases DataW.trod_slice Try.underlying59 h with ⟨e5, rfl⟩ | ⟨a, len, cap, elems, rest, k, hk, e5, rfl, _, hlc, hcm, hel, helem, _, _⟩
  · subst e5
    exact ⟨none, 0, [], rfl, WRow.nil _ _ _ _ (fun _ => rfl)⟩
  · subst hel e5
    rw [cells65] at helem
    have hx' := bulks.slice_le (elems.map (·.1)) (rest.map (·.1))
    rw [List.length_map, List.length_map] at hx'
    have hx2 := Nat.le_trans hx' hx
    have hone : ∀ (i : Nat) (y : DataW H × List MemPlace), elems[i]? = some y → ∃ (c : List Value) (t : Step), c = [.string t.1, .string t.2] ∧ (∀ q v, c[q]? = some v → W.cell? ((a.add (i * 2)).add q) = some v) := by
      intro i y hi
      have hlt := (List.getElem?_eq_some_iff.1 hi).1
      have hb := helem i hlt
      rw [hi, Option.bind_eq_some_iff] at hb
      obtain ⟨c, hc, hy⟩ := hb
      obtain ⟨_, hcl, hcc⟩ := World.cells?_some hc
      obtain ⟨xs, n, rfl, rfl, hl, hlen, hf⟩ := DataW.trod_struct Try.underlying65 hy
      obtain ⟨c0, c1, rfl⟩ := list2 hcl
      have f0 := hf 0 ⟨"Name", 9, 0, false, "", "", 0⟩ rfl
      have f1 := hf 1 ⟨"Key", 9, 1, false, "", "", 16⟩ rfl
      obtain ⟨x0, x1, rfl⟩ : ∃ x0 x1, xs = [x0, x1] := by
        match xs, hlen with
        | [x0, x1], _ => exact ⟨x0, x1, rfl⟩
      simp only [cells9, List.drop_zero, List.drop_succ_cons, List.take_succ_cons, List.take_zero, List.getElem?_cons_zero, List.getElem?_cons_succ] at f0 f1
      obtain ⟨s0, e0, rfl, _⟩ := DataW.trod_string Try.underlying9 f0
      obtain ⟨s1, e1, rfl, _⟩ := DataW.trod_string Try.underlying9 f1
      obtain rfl : c0 = .string s0 := by simpa using e0
      obtain rfl : c1 = .string s1 := by simpa using e1
      refine ⟨_, (s0, s1), rfl, fun q v hv => ?_⟩
      have hq := (List.getElem?_eq_some_iff.1 hv).1
      rw [hcc q (by simpa using hq), hv]
    obtain ⟨l, hl, hrow⟩ := rows_open (P := fun (t : Step) c => c = [.string t.1, .string t.2]) (by omega) (fun t c h => by rw [h]; rfl) hone
    refine ⟨some a, cap, l, by rw [hl], by omega, by omega, fun h => (by cases h), fun hn => ?_⟩
    have hpos := List.length_pos_iff.2 hn
    obtain ⟨b, off, c0, e0, _, _⟩ := hrow 0 _ (List.getElem?_eq_getElem hpos)
    cases e0
    refine ⟨b, off, rfl, trivial, fun j v hv => ?_⟩
    have hj := (List.getElem?_eq_some_iff.1 hv).1
    rw [wcells_len] at hj
    have hi : j / 2 < l.length := by omega
    obtain ⟨b', off', c, e1, hc, hcell⟩ := hrow (j / 2) _ (List.getElem?_eq_getElem hi)
    cases e1
    subst hc
    obtain ⟨g0, g1⟩ := wcells_get l (j / 2) _ (List.getElem?_eq_getElem hi)
    rcases Nat.mod_two_eq_zero_or_one j with h2 | h2
    · have hj2 : j = j / 2 * 2 := by omega
      rw [hj2, g0] at hv
      have := hcell 0 v hv
      rw [show off + j = off + j / 2 * 2 + 0 by omega]
      exact this
    · have hj2 : j = j / 2 * 2 + 1 := by omega
      rw [hj2, g1] at hv
      have := hcell 1 v hv
      rw [show off + j = off + j / 2 * 2 + 1 by omega]
      exact this

theorem edit_open {fuel : Nat} {cs : List Value} {x : DataW H × List MemPlace} (h : DataW.trod enc Try.prog W base spare held fuel 68 cs = some x) (hx : Rows.uptoBulk x.1 ≤ 1048576) :
    ∃ e : E, RE (fun _ => True) W e cs ∧ e.node.size ≤ 1048576 ∧ e.old.size ≤ 1048576 := by
  obtain ⟨xs, n, rfl, rfl, hl, hlen, hf⟩ := DataW.trod_struct Try.underlying68 h
  rw [cells68] at hl
  obtain ⟨c0, c1, n0, n1, n2, n3, n4, n5, o0, o1, o2, o3, o4, o5, rfl⟩ := list14 hl
  obtain ⟨x0, x1, x2, x3, rfl⟩ : ∃ x0 x1 x2 x3, xs = [x0, x1, x2, x3] := by
    match xs, hlen with
    | [x0, x1, x2, x3], _ => exact ⟨x0, x1, x2, x3, rfl⟩
  have f0 := hf 0 ⟨"Kind", 3, 0, false, "", "", 0⟩ rfl
  have f1 := hf 1 ⟨"Way", 59, 1, false, "", "", 8⟩ rfl
  have f2 := hf 2 ⟨"Node", 54, 2, false, "", "", 32⟩ rfl
  have f3 := hf 3 ⟨"Old", 54, 8, false, "", "", 120⟩ rfl
  simp only [cells3, cells59, cells54, List.drop_zero, List.drop_succ_cons, List.take_succ_cons, List.take_zero, List.getElem?_cons_zero, List.getElem?_cons_succ] at f0 f1 f2 f3
  simp only [List.map_cons, List.map_nil] at hx
  rw [show ∀ l : List (DataW H), Rows.uptoBulk (.agg l) = Rows.uptoBulkAll l + 1 from fun l => by simp [Rows.uptoBulk]] at hx
  simp only [Rows.uptoBulkAll] at hx
  obtain ⟨k0, e0, -, _⟩ := DataW.trod_int Try.underlying3 f0
  obtain rfl : c0 = .int .i64 k0 := by simpa using e0
  obtain ⟨A, ac, l, e1, hw⟩ := way_open f1 (by omega)
  obtain rfl : c1 = .slice A l.length ac := by simpa using e1
  obtain ⟨t1, h1, s1⟩ := node_open _ _ _ f2 (by omega)
  obtain ⟨t2, h2, s2⟩ := node_open _ _ _ f3 (by omega)
  obtain ⟨K1, q1, g1, r1⟩ := h1.row
  obtain ⟨K2, q2, g2, r2⟩ := h2.row
  refine ⟨⟨k0, l, t1, t2⟩, ⟨A, ac, K1, q1, K2, q2, ?_, hw, r1, r2⟩, by show t1.size ≤ _; omega, by show t2.size ≤ _; omega⟩
  show [Value.int .i64 k0, .slice A l.length ac] ++ [n0, n1, n2, n3, n4, n5] ++ [o0, o1, o2, o3, o4, o5] = _
  rw [g1, g2]

theorem edits_open {fuel : Nat} {cs : List Value} {x : DataW H × List MemPlace} (h : DataW.trod enc Try.prog W base spare held fuel 57 cs = some x) (hx : Rows.uptoBulk x.1 ≤ 1048576) :
    ∃ (A : Option Addr) (c : Nat) (l : List E), cs = [.slice A l.length c] ∧ ERow (fun _ => True) W A l c ∧ ∀ (i : Nat) e, l[i]? = some e → e.node.size ≤ 1048576 ∧ e.old.size ≤ 1048576 := by
  rcases DataW.trod_slice Try.underlying57 h with ⟨e5, rfl⟩ | ⟨a, len, cap, elems, rest, k, hk, e5, rfl, _, hlc, hcm, hel, helem, _, _⟩
  · subst e5
    exact ⟨none, 0, [], rfl, ⟨Nat.le_refl _, Nat.zero_le _, fun _ => rfl, fun i e h => by simp at h⟩, fun i e h => by simp at h⟩
  · subst hel e5
    rw [cells68] at helem
    have hx' := bulks.slice_le (elems.map (·.1)) (rest.map (·.1))
    rw [List.length_map, List.length_map] at hx'
    have hx2 := Nat.le_trans hx' hx
    have hx3 := Nat.le_trans (bulks.slice_elems (elems.map (·.1)) (rest.map (·.1))) hx
    have hsub : ∀ (i : Nat) (y : DataW H × List MemPlace), elems[i]? = some y → Rows.uptoBulk y.1 ≤ Rows.uptoBulkAll (elems.map (·.1)) := fun i y hi => bulks.part_le (List.mem_map_of_mem (List.mem_of_getElem? hi))
    have hone : ∀ (i : Nat) (y : DataW H × List MemPlace), elems[i]? = some y → ∃ (c : List Value) (e : E), (RE (fun _ => True) W e c ∧ e.node.size ≤ 1048576 ∧ e.old.size ≤ 1048576) ∧ (∀ q v, c[q]? = some v → W.cell? ((a.add (i * 14)).add q) = some v) := by
      intro i y hi
      have hlt := (List.getElem?_eq_some_iff.1 hi).1
      have hb := helem i hlt
      rw [hi, Option.bind_eq_some_iff] at hb
      obtain ⟨c, hc, hy⟩ := hb
      obtain ⟨_, hcl, hcc⟩ := World.cells?_some hc
      obtain ⟨e, he, h2⟩ := edit_open hy (by have := hsub i y hi; omega)
      refine ⟨c, e, ⟨he, h2⟩, fun q v hv => ?_⟩
      have hq := (List.getElem?_eq_some_iff.1 hv).1
      rw [hcc q (by omega), hv]
    obtain ⟨l, hl, hrow⟩ := rows_open (P := fun (e : E) c => RE (fun _ => True) W e c ∧ e.node.size ≤ 1048576 ∧ e.old.size ≤ 1048576) (by omega) (fun t c h => h.1.len) hone
    refine ⟨some a, cap, l, by rw [hl], ⟨by omega, by omega, fun h => (by cases h), fun i e hi => ?_⟩, fun i e hi => ?_⟩
    · obtain ⟨b, off, c, e0, h1, h2⟩ := hrow i e hi
      exact ⟨b, off, c, e0, trivial, h1.1, h2⟩
    · obtain ⟨b, off, c, e0, h1, h2⟩ := hrow i e hi
      exact h1.2
end Go.Proofs.Ytgkgedjmnbjalaa
