/- Find, At of spec and of the document: what stands at the end of names.
   Conditions: none. -/
import Derived.Test.YtgkgedjmnbjalaaSpS
set_option linter.unusedSimpArgs false
namespace Go.Proofs.Ytgkgedjmnbjalaa
open Go.RowKit Go.Sort

theorem root_ref_no (v : Int) (w : World) (h : v < 1 ∨ 3 < v) : Calls Try.prog 26 #[.int .i64 v] w fun e w' =>
    e = .returned (.tuple #[.agg #[.string ⟨#[]⟩, .int .i64 0, .int .i64 0, .int .u64 0, .int .u64 0, .slice none 0 0, .bool false, .int .i64 0, .slice none 0 0], .int .i64 28]) ∧ Ext w w' := by
  rcases h with h | h
  · go_enter Try.func26, Try.ntmps26
    go_wp2_with fail
    refine ret_box2 rfl w.heap.size _ 33 _ (Blk.new _ _ _) rfl rfl Try.underlying33 rfl size33 ⟨rfl, Ext.alloc _ _⟩
  · have h' : ¬ v < 1 := by omega
    go_enter Try.func26, Try.ntmps26
    go_wp2_with fail
    refine ret_box2 rfl w.heap.size _ 33 _ (Blk.new _ _ _) rfl rfl Try.underlying33 rfl size33 ⟨rfl, Ext.alloc _ _⟩
theorem root_ref (v : Int) (w : World) : Calls Try.prog 26 #[.int .i64 v] w (Ret (SpPost 33 (specRoot v) w)) := by
  by_cases h : v < 1 ∨ 3 < v
  · refine (root_ref_no v w h).mono ?_
    rintro e w' ⟨rfl, hx⟩
    rw [specRoot, if_pos h]
    exact ⟨_, rfl, _, rfl, rep_zero _ _ _, hx⟩
  · rw [specRoot, if_neg h]
    obtain rfl | rfl | rfl : v = 1 ∨ v = 2 ∨ v = 3 := by omega
    · exact rf_root1 w
    · exact rf_root2 w
    · exact rf_root3 w

/-- Which kid of a name a spec has. -/
def findSp (nm : ByteArray) (s : Sp) : Int := idxOf nm (s.kids.map Sp.name)
theorem idxFrom_range (nm : ByteArray) : ∀ (l : List ByteArray) (i : Nat), idxFrom nm i l = -1 ∨ ((i : Int) ≤ idxFrom nm i l ∧ idxFrom nm i l < i + l.length)
  | [], i => .inl rfl
  | x :: l, i => by
    unfold idxFrom
    split
    · right; simp; omega
    · rcases idxFrom_range nm l (i + 1) with h | h
      · exact .inl h
      · right; simp; omega
theorem findSp_range (nm : ByteArray) (s : Sp) : findSp nm s = -1 ∨ (0 ≤ findSp nm s ∧ findSp nm s < s.kids.length) := by
  have := idxFrom_range nm (s.kids.map Sp.name) 0
  simpa [findSp, idxOf] using this

/-- One kid of what reads as a spec: its nine cells. -/
theorem RepS.kid {E : TypeId} {base : Nat} {w : World} {nm : ByteArray} {kind ty mn mx : Int} {names : List ByteArray} {must : Bool} {most : Int} {kids : List Sp} {c : List Value}
    (h : RepS E base w (.mk nm kind ty mn mx names must most kids) c) : ∃ N nc K kc, c = cSpec nm kind ty mn mx N names.length nc must most K kids.length kc ∧ kids.length ≤ 100 ∧ names.length ≤ 100 ∧
      (∀ i x, names[i]? = some x → ∃ b, N = some ⟨b, 0, none⟩ ∧ w.cell? ⟨b, 0 + i, none⟩ = some (.string x)) ∧
      ∀ i k, kids[i]? = some k → ∃ b ck, K = some ⟨b, 0, none⟩ ∧ base ≤ b ∧ RepS E base w k ck ∧ ∀ j v, ck[j]? = some v → w.cell? ⟨b, i * 9 + j, none⟩ = some v := by
  cases h with
  | mk _ _ _ _ _ _ _ _ _ N nc K kc css hN hK h9 hl hr hb =>
    refine ⟨N, nc, K, kc, rfl, hb.2, hb.1, fun i x hi => ?_, fun i k hi => ?_⟩
    · obtain ⟨b, sp, rfl, _, hbk⟩ := hN (by rintro rfl; simp at hi)
      refine ⟨b, rfl, ?_⟩
      rw [hbk.cell, Nat.zero_add, List.getElem?_append_left (by simpa using (List.getElem?_eq_some_iff.1 hi).1), List.getElem?_map, hi]
      rfl
    · obtain ⟨b, sp, rfl, hle, hbk⟩ := hK (by rintro rfl; simp at hi)
      have hlt : i < css.length := by rw [hl]; exact (List.getElem?_eq_some_iff.1 hi).1
      have hci := List.getElem?_eq_getElem hlt
      refine ⟨b, css[i], rfl, hle, hr i k _ hi hci, fun j v hv => ?_⟩
      have h1 := flatten_get css h9 i _ hci j v hv
      rw [hbk.cell, List.getElem?_append_left (List.getElem?_eq_some_iff.1 h1).1]
      exact h1
theorem RepS.form {E : TypeId} {base : Nat} {w : World} {s : Sp} {c : List Value} (h : RepS E base w s c) : ∃ kind ty mn mx N nl nc must most K kc, c = cSpec s.name kind ty mn mx N nl nc must most K s.kids.length kc := by
  cases h with
  | mk nm kind ty mn mx names must most kids N nc K kc css hN hK h9 hl hr hb => exact ⟨_, _, _, _, _, _, _, _, _, _, _, rfl⟩

theorem RepS.nrow {E : TypeId} {base : Nat} {w : World} {s : Sp} {c : List Value} (h : RepS E base w s c) : ∃ x1 x2 x3 x4 x5 x6 x7 K kc, c = [.string s.name, x1, x2, x3, x4, x5, x6, x7, .slice K s.kids.length kc] ∧ NRow w K (s.kids.map Sp.name) ∧ s.kids.length ≤ 100 := by
  obtain ⟨nm, kind, ty, mn, mx, names, must, most, kids⟩ := s
  obtain ⟨N, nc, K, kc, rfl, h1, h2, h3, h4⟩ := h.kid
  refine ⟨_, _, _, _, _, _, _, K, kc, rfl, fun i x hi => ?_, h1⟩
  simp only [Sp.kids, List.getElem?_map, Option.map_eq_some_iff] at hi
  obtain ⟨k, hk, rfl⟩ := hi
  obtain ⟨b, ck, rfl, hle, hrk, hc⟩ := h4 i k hk
  obtain ⟨kind', ty', mn', mx', N', nl', nc', must', most', K', kc', rfl⟩ := hrk.form
  have e : ∀ j v, (cSpec k.name kind' ty' mn' mx' N' nl' nc' must' most' K' k.kids.length kc')[j]? = some v → w.cell? ⟨b, 0 + i * 9 + j, none⟩ = some v := by
    intro j v hv
    rw [Nat.zero_add]
    exact hc j v hv
  exact ⟨b, 0, _, _, _, _, _, _, _, _, rfl, e 0 _ rfl, e 1 _ rfl, e 2 _ rfl, e 3 _ rfl, e 4 _ rfl, e 5 _ rfl, e 6 _ rfl, e 7 _ rfl, e 8 _ rfl⟩

theorem find_any {base : Nat} {w : World} {s : Sp} {c : List Value} (h : RepS 27 base w s c) (nm : ByteArray) : Calls Try.prog 31 #[.agg c.toArray, .string nm] w fun e w' => e = .returned (.int .i64 (findSp nm s)) ∧ Ext w w' := by
  obtain ⟨x1, x2, x3, x4, x5, x6, x7, K, kc, rfl, hn, hl⟩ := h.nrow
  have := sp_find nm (s.kids.map Sp.name) K kc (.string s.name) x1 x2 x3 x4 x5 x6 x7 w (by simp; omega) hn
  rw [List.length_map] at this
  exact this

set_option maxHeartbeats 1000000 in
theorem rf_find {base : Nat} {w : World} {s : Sp} {c : List Value} (h : RepS 33 base w s c) (nm : ByteArray) : Calls Try.prog 32 #[.agg c.toArray, .string nm] w fun e w' => e = .returned (.int .i64 (findSp nm s)) ∧ Ext w w' := by
  obtain ⟨x1, x2, x3, x4, x5, x6, x7, K, kc, rfl, hn, hl⟩ := h.nrow
  unfold findSp
  have hlen : s.kids.length = (s.kids.map Sp.name).length := by simp
  rw [hlen] at hl ⊢
  generalize s.kids.map Sp.name = nms at *
  clear hlen h
  have hn2 := Hd.mk hn
  clear hn
  go_enter Try.func32, Try.ntmps32
  go_wp2_with fail
  have hb := Blk.new w #[.string s.name, x1, x2, x3, x4, x5, x6, x7, .slice K nms.length kc] 33
  have hb2 := Hd.mk hb
  replace hn2 := Hd.mk (hn2.out.ext (Ext.alloc w (.cells #[.string s.name, x1, x2, x3, x4, x5, x6, x7, .slice K nms.length kc] 33)))
  have hx := Hd.mk (Ext.alloc w (.cells #[.string s.name, x1, x2, x3, x4, x5, x6, x7, .slice K nms.length kc] 33))
  generalize w.alloc (.cells #[.string s.name, x1, x2, x3, x4, x5, x6, x7, .slice K nms.length kc] 33) = W at *
  clear hb
  go_loopg [5] (nms.length + 1) (fun q i wr => wr = W ∧ ∃ j : Nat, j ≤ nms.length ∧ Hd (q = nms.length + 1 - j) ∧ i = .int .i64 j ∧ Hd (idxOf nm nms = idxFrom nm j (nms.drop j)))
  case atStart => exact ⟨rfl, 0, Nat.zero_le _, ⟨by omega⟩, rfl, ⟨rfl⟩⟩
  case round =>
  obtain ⟨hwr, j, hj, hq, rfl, hI⟩ := hrel
  subst hwr
  have g := hb2.out.cell
  by_cases hlt : j < nms.length
  · obtain ⟨b, off, y1, y2, y3, y4, y5, y6, y7, y8, rfl, g0, _, _, _, _, _, _, _, _⟩ := hn2.out j _ (List.getElem?_eq_getElem hlt)
    have hI2 : Hd (idxOf nm nms = if nms[j] = nm then (j : Int) else idxFrom nm (j + 1) (nms.drop (j + 1))) := ⟨by rw [hI.out, List.drop_eq_getElem_cons hlt]; rfl⟩
    generalize nms[j] = x at *
    by_cases hxe : x = nm
    · have hI3 : Hd (idxOf nm nms = (j : Int)) := ⟨by rw [hI2.out, if_pos hxe]⟩
      have hd : (x.toList == nm.toList) = true := by rw [str_eq]; simpa using hxe
      clear hI hI2 hxe
      go_wp2_with fail
      go_ret
      exact ⟨ret_int hI3.out.symm, hx.out⟩
    · have hI3 : Hd (idxOf nm nms = idxFrom nm (j + 1) (nms.drop (j + 1))) := ⟨by rw [hI2.out, if_neg hxe]⟩
      have hd : (x.toList == nm.toList) = false := by rw [str_eq]; simpa using hxe
      clear hI hI2 hxe
      go_wp2_with fail
      go_roundg (nms.length + 1 - (j + 1))
      case measure => have := hq.out; omega
      case rel => exact ⟨rfl, j + 1, by omega, ⟨rfl⟩, by go_num, hI3⟩
  · have hjl : j = nms.length := by omega
    have hI3 : Hd (idxOf nm nms = -1) := ⟨by rw [hI.out, hjl, List.drop_length]; rfl⟩
    clear hI hjl
    go_wp2_with fail
    go_ret
    exact ⟨ret_int hI3.out.symm, hx.out⟩

end Go.Proofs.Ytgkgedjmnbjalaa
