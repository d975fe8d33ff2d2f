/- spec.At and the document's At: what stands at the end of names.
   Conditions: none. -/
import Derived.Test.YtgkgedjmnbjalaaSpT
set_option linter.unusedSimpArgs false
namespace Go.Proofs.Ytgkgedjmnbjalaa
open Go.RowKit Go.Sort

/-- What stands at the end of names. -/
def atSp : Sp → List ByteArray → Option Sp
  | s, [] => some s
  | s, n :: l => if findSp n s < 0 then none else match s.kids[(findSp n s).toNat]? with | some k => atSp k l | none => none
/-- The document's At. -/
def specAt (v : Int) (l : List ByteArray) : Sp × Int :=
  if (specRoot v).2 = 0 then (match atSp (specRoot v).1 l with | some k => (k, 0) | none => (zeroSp, 22)) else (zeroSp, (specRoot v).2)

theorem atSp_step {s : Sp} {n : ByteArray} {l : List ByteArray} {i : Nat} {k : Sp} (h : findSp n s = (i : Int)) (hk : s.kids[i]? = some k) : atSp s (n :: l) = atSp k l := by
  rw [atSp, if_neg (by omega), h]
  simp [hk]
theorem atSp_none {s : Sp} {n : ByteArray} {l : List ByteArray} (h : findSp n s = -1) : atSp s (n :: l) = none := by
  rw [atSp, if_pos (by omega)]

/-- A list of names lies in memory. -/
def SRow (w : World) (A : Option Addr) (l : List ByteArray) : Prop := ∀ i x, l[i]? = some x → ∃ b off, A = some ⟨b, off, none⟩ ∧ w.cell? ⟨b, off + i, none⟩ = some (.string x)
theorem SRow.ext {w w' : World} (hx : Ext w w') {A : Option Addr} {l : List ByteArray} (h : SRow w A l) : SRow w' A l := fun i x hi => by
  obtain ⟨b, off, h1, h2⟩ := h i x hi
  exact ⟨b, off, h1, Ext.cell hx h2⟩

theorem specAt_err (v : Int) (l : List ByteArray) (h : (specRoot v).2 ≠ 0) : specAt v l = (zeroSp, (specRoot v).2) := by rw [specAt, if_neg h]
theorem specAt_ok (v : Int) (l : List ByteArray) (h : (specRoot v).2 = 0) : specAt v l = match atSp (specRoot v).1 l with | some k => (k, 0) | none => (zeroSp, 22) := by rw [specAt, if_pos h]

/-- An element of a row of names, whatever the row. -/
theorem atSp_some (s : Sp) (n : ByteArray) (l : List ByteArray) : (findSp n s = -1 ∧ atSp s (n :: l) = none) ∨ ∃ (i : Nat) (k : Sp), findSp n s = i ∧ s.kids[i]? = some k ∧ atSp s (n :: l) = atSp k l := by
  rcases findSp_range n s with h | ⟨h1, h2⟩
  · exact .inl ⟨h, atSp_none h⟩
  · right
    have hlt : (findSp n s).toNat < s.kids.length := by omega
    refine ⟨(findSp n s).toNat, s.kids[(findSp n s).toNat], by omega, List.getElem?_eq_getElem hlt, ?_⟩
    exact atSp_step (i := (findSp n s).toNat) (by omega) (List.getElem?_eq_getElem hlt)
theorem RepS.kid2 {E : TypeId} {base : Nat} {w : World} {s : Sp} {c : List Value} (h : RepS E base w s c) : ∃ kind ty mn mx N nl nc must most K kc, c = cSpec s.name kind ty mn mx N nl nc must most K s.kids.length kc ∧
      s.kids.length ≤ 100 ∧ ∀ i k, s.kids[i]? = some k → ∃ b ck, K = some ⟨b, 0, none⟩ ∧ base ≤ b ∧ RepS E base w k ck ∧ ∀ j v, ck[j]? = some v → w.cell? ⟨b, i * 9 + j, none⟩ = some v := by
  obtain ⟨nm, kind, ty, mn, mx, names, must, most, kids⟩ := s
  obtain ⟨N, nc, K, kc, rfl, h1, h2, h3, h4⟩ := h.kid
  exact ⟨kind, ty, mn, mx, N, names.length, nc, must, most, K, kc, rfl, h1, h4⟩
/-- After a store into one block of type E ahead of base. -/
theorem RepS.upd {E : TypeId} (hE9 : E ≠ 9) {base : Nat} {w w' : World} {g : Nat} (hu : Upd w w' g) {cs : List Value} (hg : Blk w g cs E) (hlt : g < base) {s : Sp} {c : List Value} (h : RepS E base w s c) : RepS E base w' s c := by
  refine h.keep (fun b ds hb => hu.blk ?_ hb) (fun b ds hle hb => hu.blk (by omega) hb)
  rintro rfl
  unfold Blk at hb hg
  rw [hb] at hg
  simp only [Option.some.injEq, Obj.cells.injEq] at hg
  exact hE9 hg.2.1.symm

theorem SpPost.fin {E : TypeId} (hE9 : E ≠ 9) {r : Sp × Int} {w w1 w' : World} {B : Nat} (hB : B = w.heap.size) {cs : List Value} (hb : Blk w1 B cs E) (hx : Ext w w1) (hu : Upd w1 w' B) {c : List Value} (h : RepS E (B + 1) w1 r.1 c) :
    Ret (SpPost E r w) (.returned (.tuple #[.agg c.toArray, .int .i64 r.2])) w' := by
  subst hB
  exact ⟨_, rfl, c, rfl, (h.upd hE9 hu hb (Nat.lt_succ_self _)).mono (Nat.le_succ _), Below.trans hx (hu.below (Nat.le_refl _)) ⟩

/-- Nine stores, one per cell. -/
theorem set9 {w : World} {g : Nat} {E : TypeId} {a0 a1 a2 a3 a4 a5 a6 a7 a8 b0 b1 b2 b3 b4 b5 b6 b7 b8 : Value} (h : Blk w g [a0, a1, a2, a3, a4, a5, a6, a7, a8] E) :
    Blk (((((((((w.setCell ⟨g, 0, none⟩ b0).setCell ⟨g, 1, none⟩ b1).setCell ⟨g, 2, none⟩ b2).setCell ⟨g, 3, none⟩ b3).setCell ⟨g, 4, none⟩ b4).setCell ⟨g, 5, none⟩ b5).setCell ⟨g, 6, none⟩ b6).setCell ⟨g, 7, none⟩ b7).setCell ⟨g, 8, none⟩ b8) g [b0, b1, b2, b3, b4, b5, b6, b7, b8] E ∧
    Upd w (((((((((w.setCell ⟨g, 0, none⟩ b0).setCell ⟨g, 1, none⟩ b1).setCell ⟨g, 2, none⟩ b2).setCell ⟨g, 3, none⟩ b3).setCell ⟨g, 4, none⟩ b4).setCell ⟨g, 5, none⟩ b5).setCell ⟨g, 6, none⟩ b6).setCell ⟨g, 7, none⟩ b7).setCell ⟨g, 8, none⟩ b8) g :=
  ⟨((((((((h.setCell 0 b0).setCell 1 b1).setCell 2 b2).setCell 3 b3).setCell 4 b4).setCell 5 b5).setCell 6 b6).setCell 7 b7).setCell 8 b8,
   ((((((((Upd.setCell w ⟨g, 0, none⟩ b0).trans (Upd.setCell _ ⟨g, 1, none⟩ b1)).trans (Upd.setCell _ ⟨g, 2, none⟩ b2)).trans (Upd.setCell _ ⟨g, 3, none⟩ b3)).trans (Upd.setCell _ ⟨g, 4, none⟩ b4)).trans (Upd.setCell _ ⟨g, 5, none⟩ b5)).trans (Upd.setCell _ ⟨g, 6, none⟩ b6)).trans (Upd.setCell _ ⟨g, 7, none⟩ b7)).trans (Upd.setCell _ ⟨g, 8, none⟩ b8)⟩

set_option maxHeartbeats 2000000 in
theorem at_any (v : Int) (l : List ByteArray) (A : Option Addr) (c : Nat) (w : World) (hl : l.length ≤ 140737488355328) (h : SRow w A l) :
    Calls Try.prog 27 #[.int .i64 v, .slice A l.length c] w (Ret (SpPost 27 (specAt v l) w)) := by
  have hr := Hd.mk h
  clear h
  have hcase := Hd.mk (Classical.em ((specRoot v).2 = 0))
  generalize hsr : specRoot v = sr at hcase
  have hsr2 := Hd.mk hsr
  clear hsr
  obtain ⟨s0, e0⟩ := sr
  go_enter Try.func27, Try.ntmps27
  go_wp2_with fail
  refine (root_any v _).mono ?_
  rintro e w1 ⟨_, rfl, cs, rfl, hrep, hx⟩
  rw [hsr2.out] at hrep ⊢
  have hrep2 := Hd.mk (hrep.mono (show w.heap.size + 1 ≤ (w.alloc _).heap.size by rw [World.size_alloc]; exact Nat.le_refl _))
  obtain ⟨kind, ty, mn, mx, N, nl, nc, must, most, K, kc, rfl⟩ := hrep.form
  have hb0 := Hd.mk ((Blk.new w _ 27).ext hx)
  have hx1 := Hd.mk ((Ext.alloc w _).trans hx)
  replace hr := Hd.mk (hr.out.ext hx1.out)
  have hlt0 := hb0.out.lt
  clear hx hrep
  by_cases he : e0 = 0
  · subst he
    have hat := Hd.mk (specAt_ok v l (by rw [hsr2.out]))
    rw [hsr2.out] at hat
    simp only [cSpec]
    go_wp2_with fail
    go_loopg [22] (l.length + 1) (fun q i wr => ∃ (j : Nat) (cur : Sp) (cells : List Value), j ≤ l.length ∧ Hd (q = l.length + 1 - j) ∧ i = .int .i64 j ∧ Hd (Ext w1 wr) ∧ Hd (Blk wr w1.heap.size cells 27) ∧ Hd (RepS 27 (w.heap.size + 1) w1 cur cells) ∧ Hd (atSp s0 l = atSp cur (l.drop j)))
    case atStart => exact ⟨0, s0, _, Nat.zero_le _, ⟨by omega⟩, rfl, ⟨Ext.alloc _ _⟩, ⟨Blk.new _ _ _⟩, hrep2, ⟨rfl⟩⟩
    case round =>
    obtain ⟨j, cur, cells, hj, hq, rfl, hxr, hbr, hrr, hI⟩ := hrel
    have hform := Hd.mk hrr.out.kid2
    obtain ⟨kind, ty, mn, mx, N, nl, nc, must, most, K, kc, rfl, hkl, hkid⟩ := hform.out
    clear hform
    have hkid2 := Hd.mk hkid
    clear hkid
    have g := hbr.out.cell
    simp only [cSpec] at g
    by_cases hlt : j < l.length
    · obtain ⟨b, off, rfl, gn0⟩ := hr.out j _ (List.getElem?_eq_getElem hlt)
      have gn := Ext.cell hxr.out gn0
      have hI2 := hI.out
      rw [List.drop_eq_getElem_cons hlt] at hI2
      have hI3 := Hd.mk hI2
      clear hI2 gn0
      generalize l[j] = x at *
      go_wp2_with fail
      refine Calls.mono (find_any (hrr.out.ext hxr.out) x) ?_
      rintro e w2 ⟨rfl, hx2⟩
      have hxr2 := Hd.mk (hxr.out.trans hx2)
      have hbr2 := Hd.mk (hbr.out.ext hx2)
      have g2 := hbr2.out.cell
      simp only [cSpec] at g2
      clear hxr hbr hx2 g gn
      have hst := Hd.mk (atSp_some cur x (l.drop (j + 1)))
      generalize findSp x cur = fi at *
      rcases hst.out with ⟨rfl, hno⟩ | ⟨i, k, rfl, hik, hyes⟩
      · have hat2 := Hd.mk (show specAt v l = (zeroSp, 22) by rw [hat.out, hI3.out, hno])
        go_wp2_with ((with_reducible refine stop_at (.store 27 (.tmp 4) (.tmp 31)) ?_); refine Stop.mk ?_; refine wpl_store_box 27 (.tmp 4) (.tmp 31) _ _ _ w.heap.size _ 27 _ (hb0.out.ext hxr2.out) rfl rfl size27 rfl rfl ?_; intro w3 hu2 hb2; have hu3 := Hd.mk hu2; have hb3 := Hd.mk hb2; clear hu2 hb2)
        rw [hat2.out]
        exact ret_box2 rfl w.heap.size _ 27 _ hb3.out rfl rfl Try.underlying27 rfl size27 (SpPost.fin (r := (zeroSp, 22)) (by decide) rfl (hb0.out.ext hxr2.out) (hx1.out.trans hxr2.out) hu3.out (rep_zero _ _ _))
      · have hI4 := Hd.mk (show atSp s0 l = atSp k (l.drop (j + 1)) by rw [hI3.out, hyes])
        obtain ⟨kb, ck, rfl, hle, hrk, hc⟩ := hkid2.out i k hik
        obtain ⟨kind', ty', mn', mx', N', nl', nc', must', most', K', kc', rfl⟩ := hrk.form
        have hrk2 := Hd.mk hrk
        have hlti := (List.getElem?_eq_some_iff.1 hik).1
        have e0 := Ext.cell hxr2.out (hc 0 _ rfl)
        have e1 := Ext.cell hxr2.out (hc 1 _ rfl)
        have e2 := Ext.cell hxr2.out (hc 2 _ rfl)
        have e3 := Ext.cell hxr2.out (hc 3 _ rfl)
        have e4 := Ext.cell hxr2.out (hc 4 _ rfl)
        have e5 := Ext.cell hxr2.out (hc 5 _ rfl)
        have e6 := Ext.cell hxr2.out (hc 6 _ rfl)
        have e7 := Ext.cell hxr2.out (hc 7 _ rfl)
        have e8 := Ext.cell hxr2.out (hc 8 _ rfl)
        rw [Nat.add_zero] at e0
        have gf := hbr2.out.free
        clear hst hyes hrk hc hik hI hI3
        go_wp2_with fail
        go_roundg (l.length + 1 - (j + 1))
        case measure => have := hq.out; omega
        case rel => exact ⟨j + 1, k, _, by omega, ⟨rfl⟩, by go_num, ⟨Below.trans hxr2.out ((set9 hbr2.out).2.below (Nat.le_refl _))⟩, ⟨(set9 hbr2.out).1⟩, hrk2, hI4⟩
    · have hjl : j = l.length := by omega
      have hat2 := Hd.mk (show specAt v l = (cur, 0) by rw [hat.out, hI.out, hjl, List.drop_length]; rfl)
      have hrr2 := Hd.mk (hrr.out.ext hxr.out)
      clear hrr hI hjl
      go_wp2_with ((with_reducible refine stop_at (.store 27 (.tmp 4) (.tmp 38)) ?_); refine Stop.mk ?_; refine wpl_store_box 27 (.tmp 4) (.tmp 38) _ _ _ w.heap.size _ 27 _ (hb0.out.ext hxr.out) rfl rfl size27 rfl rfl ?_; intro w3 hu2 hb2; have hu3 := Hd.mk hu2; have hb3 := Hd.mk hb2; clear hu2 hb2)
      rw [hat2.out]
      exact ret_box2 rfl w.heap.size _ 27 _ hb3.out rfl rfl Try.underlying27 rfl size27 (SpPost.fin (r := (cur, 0)) (by decide) rfl (hb0.out.ext hxr.out) (hx1.out.trans hxr.out) hu3.out hrr2.out)
  · have hat := Hd.mk (specAt_err v l (by rw [hsr2.out]; exact he))
    rw [hsr2.out] at hat
    have he2 : (e0 != 0) = true := by simpa using he
    simp only [cSpec]
    go_wp2_with ((with_reducible refine stop_at (.store 27 (.tmp 4) (.tmp 18)) ?_); refine Stop.mk ?_; refine wpl_store_box 27 (.tmp 4) (.tmp 18) _ _ _ w.heap.size _ 27 _ (hb0.out.alloc _) rfl rfl size27 rfl rfl ?_; intro w2 hu2 hb2; have hu3 := Hd.mk hu2; have hb3 := Hd.mk hb2; clear hu2 hb2)
    rw [hat.out]
    exact ret_box2 rfl w.heap.size _ 27 _ hb3.out rfl rfl Try.underlying27 rfl size27 (SpPost.fin (r := (zeroSp, e0)) (by decide) rfl (hb0.out.alloc _) (hx1.out.trans (Ext.alloc _ _)) hu3.out (rep_zero _ _ _))

theorem specRoot_err {v : Int} (h : (specRoot v).2 ≠ 0) : (specRoot v).1 = zeroSp := by
  unfold specRoot at h ⊢
  split
  · rfl
  · rename_i hn
    simp [hn] at h

set_option maxHeartbeats 4000000 in
theorem at_ref (v : Int) (l : List ByteArray) (A : Option Addr) (c : Nat) (w : World) (hl : l.length ≤ 140737488355328) (h : SRow w A l) :
    Calls Try.prog 28 #[.int .i64 v, .slice A l.length c] w (Ret (SpPost 33 (specAt v l) w)) := by
  have hr := Hd.mk h
  clear h
  have hcase := Hd.mk (Classical.em ((specRoot v).2 = 0))
  have herr := Hd.mk (specRoot_err (v := v))
  have hat0 := Hd.mk (specAt_ok v l)
  have hat1 := Hd.mk (specAt_err v l)
  generalize hsr : specRoot v = sr at hcase herr hat0 hat1
  have hsr2 := Hd.mk hsr
  clear hsr
  obtain ⟨s0, e0⟩ := sr
  go_enter Try.func28, Try.ntmps28
  go_wp2_with fail
  refine (root_ref v _).mono ?_
  rintro e w1 ⟨_, rfl, cs, rfl, hrep, hx⟩
  rw [hsr2.out] at hrep ⊢
  have hrep2 := Hd.mk (hrep.mono (show w.heap.size + 1 ≤ (w.alloc _).heap.size by rw [World.size_alloc]; exact Nat.le_refl _))
  obtain ⟨kind, ty, mn, mx, N, nl, nc, must, most, K, kc, rfl⟩ := hrep.form
  have hb0 := Hd.mk ((Blk.new w _ 33).ext hx)
  have hx1 := Hd.mk ((Ext.alloc w _).trans hx)
  replace hr := Hd.mk (hr.out.ext hx1.out)
  have hlt0 := hb0.out.lt
  clear hx hrep
  simp only [cSpec]
  go_wp2_with fail
  go_loopg [8] (l.length + 1) (fun q i wr => ∃ (j : Nat) (cur : Sp) (cells : List Value), j ≤ l.length ∧ Hd (q = l.length + 1 - j) ∧ i = .int .i64 j ∧ Hd (Ext w1 wr) ∧ Hd (Blk wr w1.heap.size cells 33) ∧ Hd (RepS 33 (w.heap.size + 1) w1 cur cells) ∧ Hd (atSp s0 l = atSp cur (l.drop j)) ∧ Hd (e0 ≠ 0 → cur = s0))
  case atStart => exact ⟨0, s0, _, Nat.zero_le _, ⟨by omega⟩, rfl, ⟨Ext.alloc _ _⟩, ⟨Blk.new _ _ _⟩, hrep2, ⟨rfl⟩, ⟨fun _ => rfl⟩⟩
  case round =>
  obtain ⟨j, cur, cells, hj, hq, rfl, hxr, hbr, hrr, hI, hce⟩ := hrel
  have hform := Hd.mk hrr.out.kid2
  obtain ⟨kind, ty, mn, mx, N, nl, nc, must, most, K, kc, rfl, hkl, hkid⟩ := hform.out
  clear hform
  have hkid2 := Hd.mk hkid
  clear hkid
  have g := hbr.out.cell
  simp only [cSpec] at g
  by_cases he : e0 = 0
  · subst he
    replace hat0 := Hd.mk (hat0.out rfl)
    by_cases hlt : j < l.length
    · obtain ⟨b, off, rfl, gn0⟩ := hr.out j _ (List.getElem?_eq_getElem hlt)
      have gn := Ext.cell hxr.out gn0
      have hI2 := hI.out
      rw [List.drop_eq_getElem_cons hlt] at hI2
      have hI3 := Hd.mk hI2
      clear hI2 gn0
      generalize l[j] = x at *
      go_wp2_with fail
      have k0 := cell_regrown ((g 0).trans rfl)
      have k1 := cell_regrown ((g 1).trans rfl)
      have k2 := cell_regrown ((g 2).trans rfl)
      have k3 := cell_regrown ((g 3).trans rfl)
      have k4 := cell_regrown ((g 4).trans rfl)
      have k5 := cell_regrown ((g 5).trans rfl)
      have k6 := cell_regrown ((g 6).trans rfl)
      have k7 := cell_regrown ((g 7).trans rfl)
      have k8 := cell_regrown ((g 8).trans rfl)
      have kn := cell_regrown gn
      have cF : ∀ d os, Calls Try.prog 32 #[.agg (cSpec cur.name kind ty mn mx N nl nc must most K cur.kids.length kc).toArray, .string x] (grow (redrawn wr d) os)
        fun e w'' => e = .returned (.int .i64 (findSp x cur)) ∧ ∃ p : Regrown, w'' = grow (redrawn wr p.d) p.os :=
        fun d os => Calls.regrown_of (rf_find ((hrr.out.ext hxr.out).ext (ext_regrown _ _ _)) x)
      simp only [cSpec] at cF
      clear g gn
      refine wp_region_quiet_below (by kernel_rfl) (by kernel_rfl) ?_
      repeat (quiet_step (exact cF _ _))
      refine wpQuiet_nil ?_
      intro _ hw'
      obtain ⟨⟨dq, osq⟩, hw''⟩ := hw'
      subst hw''
      have hx2 := ext_regrown wr dq osq
      clear cF k0 k1 k2 k3 k4 k5 k6 k7 k8 kn
      generalize grow (redrawn wr dq) osq = w2 at *
      have hxr2 := Hd.mk (hxr.out.trans hx2)
      have hbr2 := Hd.mk (hbr.out.ext hx2)
      have g2 := hbr2.out.cell
      simp only [cSpec] at g2
      clear hxr hbr hx2
      have hst := Hd.mk (atSp_some cur x (l.drop (j + 1)))
      generalize findSp x cur = fi at *
      rcases hst.out with ⟨rfl, hno⟩ | ⟨i, k, rfl, hik, hyes⟩
      · have hat2 := Hd.mk (show specAt v l = (zeroSp, 22) by rw [hat0.out, hI3.out, hno])
        go_wp2_with ((with_reducible refine stop_at (.store 33 (.tmp 4) (.tmp 33)) ?_); refine Stop.mk ?_; refine wpl_store_box 33 (.tmp 4) (.tmp 33) _ _ _ w.heap.size _ 33 _ (hb0.out.ext hxr2.out) rfl rfl size33 rfl rfl ?_; intro w3 hu2 hb2; have hu3 := Hd.mk hu2; have hb3 := Hd.mk hb2; clear hu2 hb2)
        rw [hat2.out]
        exact ret_box2 rfl w.heap.size _ 33 _ hb3.out rfl rfl Try.underlying33 rfl size33 (SpPost.fin (r := (zeroSp, 22)) (by decide) rfl (hb0.out.ext hxr2.out) (hx1.out.trans hxr2.out) hu3.out (rep_zero _ _ _))
      · have hI4 := Hd.mk (show atSp s0 l = atSp k (l.drop (j + 1)) by rw [hI3.out, hyes])
        obtain ⟨kb, ck, rfl, hle, hrk, hc⟩ := hkid2.out i k hik
        obtain ⟨kind', ty', mn', mx', N', nl', nc', must', most', K', kc', rfl⟩ := hrk.form
        have hrk2 := Hd.mk hrk
        have hlti := (List.getElem?_eq_some_iff.1 hik).1
        have e0 := Ext.cell hxr2.out (hc 0 _ rfl)
        have e1 := Ext.cell hxr2.out (hc 1 _ rfl)
        have e2 := Ext.cell hxr2.out (hc 2 _ rfl)
        have e3 := Ext.cell hxr2.out (hc 3 _ rfl)
        have e4 := Ext.cell hxr2.out (hc 4 _ rfl)
        have e5 := Ext.cell hxr2.out (hc 5 _ rfl)
        have e6 := Ext.cell hxr2.out (hc 6 _ rfl)
        have e7 := Ext.cell hxr2.out (hc 7 _ rfl)
        have e8 := Ext.cell hxr2.out (hc 8 _ rfl)
        rw [Nat.add_zero] at e0
        have gf := hbr2.out.free
        clear hst hyes hrk hc hik hI hI3
        go_wp2_with fail
        go_roundg (l.length + 1 - (j + 1))
        case measure => have := hq.out; omega
        case rel => exact ⟨j + 1, k, _, by omega, ⟨rfl⟩, by go_num, ⟨Below.trans hxr2.out ((set9 hbr2.out).2.below (Nat.le_refl _))⟩, ⟨(set9 hbr2.out).1⟩, hrk2, hI4, ⟨fun h => absurd rfl h⟩⟩
    · have hjl : j = l.length := by omega
      have hat2 := Hd.mk (show specAt v l = (cur, 0) by rw [hat0.out, hI.out, hjl, List.drop_length]; rfl)
      have hrr2 := Hd.mk (hrr.out.ext hxr.out)
      clear hrr hI hjl
      go_wp2_with ((with_reducible refine stop_at (.store 33 (.tmp 4) (.tmp 39)) ?_); refine Stop.mk ?_; refine wpl_store_box 33 (.tmp 4) (.tmp 39) _ _ _ w.heap.size _ 33 _ (hb0.out.ext hxr.out) rfl rfl size33 rfl rfl ?_; intro w3 hu2 hb2; have hu3 := Hd.mk hu2; have hb3 := Hd.mk hb2; clear hu2 hb2)
      rw [hat2.out]
      exact ret_box2 rfl w.heap.size _ 33 _ hb3.out rfl rfl Try.underlying33 rfl size33 (SpPost.fin (r := (cur, 0)) (by decide) rfl (hb0.out.ext hxr.out) (hx1.out.trans hxr.out) hu3.out hrr2.out)
  · have hat2 := Hd.mk (show specAt v l = (cur, e0) by rw [hat1.out he, hce.out he, ← herr.out he])
    have hrr2 := Hd.mk (hrr.out.ext hxr.out)
    have he2 : (e0 == 0) = false := by simpa using he
    clear hrr hI hat0 hat1 herr hce
    have hlt : (decide ((j : Int) < (l.length : Int))) = decide (j < l.length) := by simp
    generalize decide (j < l.length) = bl at hlt
    go_wp2_with ((with_reducible refine stop_at (.store 33 (.tmp 4) (.tmp 39)) ?_); refine Stop.mk ?_; refine wpl_store_box 33 (.tmp 4) (.tmp 39) _ _ _ w.heap.size _ 33 _ (hb0.out.ext hxr.out) rfl rfl size33 rfl rfl ?_; intro w3 hu2 hb2; have hu3 := Hd.mk hu2; have hb3 := Hd.mk hb2; clear hu2 hb2)
    all_goals
      rw [hat2.out]
      exact ret_box2 rfl w.heap.size _ 33 _ hb3.out rfl rfl Try.underlying33 rfl size33 (SpPost.fin (r := (cur, e0)) (by decide) rfl (hb0.out.ext hxr.out) (hx1.out.trans hxr.out) hu3.out hrr2.out)

end Go.Proofs.Ytgkgedjmnbjalaa
