/- plain: a spec as the document has it, with rows of its own.
   Conditions: none. -/
import Derived.Test.YtgkgedjmnbjalaaSpV
set_option linter.unusedSimpArgs false
namespace Go.Proofs.Ytgkgedjmnbjalaa
open Go.RowKit Go.Sort

/-- A kid that has been told stays, while its elder brothers' row grows in place. -/
def Held (base : Nat) (w : World) (X : Nat) (g : Option Nat) (s : Sp) (c : List Value) : Prop :=
  ∃ b0 w0, base ≤ b0 ∧ X < b0 ∧ RepS 33 b0 w0 s c ∧ (∀ b cs, Blk w0 b cs 9 → Blk w b cs 9) ∧ (∀ b, b0 ≤ b → b < w0.heap.size → w.heap[b]? = w0.heap[b]?) ∧ w0.heap.size ≤ w.heap.size ∧
    ∀ x, g = some x → x < b0 ∨ w0.heap.size ≤ x

theorem Held.rep {base : Nat} {w : World} {X : Nat} {g : Option Nat} {s : Sp} {c : List Value} (h : Held base w X g s c) : RepS 33 base w s c := by
  obtain ⟨b0, w0, h1, h2, h3, h4, h5, h6, h7⟩ := h
  exact (h3.keep h4 (fun b cs hb hk => (h5 b hb hk.lt).trans hk)).mono h1
theorem Held.ext {base : Nat} {w w' : World} (hx : Ext w w') {X : Nat} {g : Option Nat} {s : Sp} {c : List Value} (h : Held base w X g s c) : Held base w' X g s c := by
  obtain ⟨b0, w0, h1, h2, h3, h4, h5, h6, h7⟩ := h
  exact ⟨b0, w0, h1, h2, h3, fun b cs hb => (h4 b cs hb).ext hx, fun b hb hl => (hx.block b (by omega)).trans (h5 b hb hl), Nat.le_trans h6 hx.size, h7⟩
theorem Held.grown {base : Nat} {w w' : World} {X : Nat} {g g' : Option Nat} (hg : w.grownBy w' g) (ht : ∀ x, g = some x → ∃ ds, Blk w x ds 33) (hg' : g' = g ∨ g' = some w.heap.size) {s : Sp} {c : List Value} (h : Held base w X g s c) : Held base w' X g' s c := by
  obtain ⟨b0, w0, h1, h2, h3, h4, h5, h6, h7⟩ := h
  refine ⟨b0, w0, h1, h2, h3, fun b cs hb => ?_, fun b hb hl => ?_, Nat.le_trans h6 hg.size, fun x hx => ?_⟩
  · have hb' := h4 b cs hb
    refine (hg.block b hb'.lt ?_).trans hb'
    intro he
    obtain ⟨ds, hd⟩ := ht b he.symm
    exact absurd (hb'.ty hd) (by decide)
  · refine (hg.block b (by omega) ?_).trans (h5 b hb hl)
    intro he
    rcases h7 b he.symm with h | h <;> omega
  · rcases hg' with rfl | rfl
    · exact h7 x hx
    · cases hx; exact .inr h6
theorem Held.upd {base : Nat} {w w' : World} {X : Nat} {g : Option Nat} (hu : Upd w w' X) {ds : List Value} (hX : Blk w X ds 33) {s : Sp} {c : List Value} (h : Held base w X g s c) : Held base w' X g s c := by
  obtain ⟨b0, w0, h1, h2, h3, h4, h5, h6, h7⟩ := h
  refine ⟨b0, w0, h1, h2, h3, fun b cs hb => ?_, fun b hb hl => (hu.block b (by omega)).trans (h5 b hb hl), by rw [hu.size]; exact h6, h7⟩
  refine hu.blk ?_ (h4 b cs hb)
  rintro rfl
  exact absurd ((h4 b cs hb).ty hX) (by decide)
theorem Held.of_rep {base b0 : Nat} {w0 w : World} {X : Nat} {g : Option Nat} (h1 : base ≤ b0) (h2 : X < b0) {s : Sp} {c : List Value} (h : RepS 33 b0 w0 s c) (hx : Ext w0 w) (hg : ∀ x, g = some x → x < b0) : Held base w X g s c :=
  ⟨b0, w0, h1, h2, h, fun _ _ hb => hb.ext hx, fun b _ hl => hx.block b hl, hx.size, fun x hx => .inl (hg x hx)⟩

/-- What plain tells. -/
def PlPost (s : Sp) (w w' : World) (v : Value) : Prop := ∃ c, v = .agg c.toArray ∧ RepS 33 w.heap.size w' s c ∧ Ext w w'

/-- What is known of a kid's row of one. -/
def spKid (k : Sp) (B : Nat) : SP := ⟨fun v w => ∃ (c : List Value) (b0 : Nat) (w0 : World), v = .agg c.toArray ∧ B ≤ b0 ∧ RepS 33 b0 w0 k c ∧ Ext w0 w, fun _ _ _ h ⟨c, b0, w0, e, h2, h3, h4⟩ => ⟨c, b0, w0, e, h2, h3, Ext.trans h4 h⟩⟩
def spKid1 (k : Sp) (B : Nat) : SP := ⟨fun v w => ∃ (D : Nat) (c : List Value) (b0 : Nat) (w0 : World), v = .slice (some ⟨D, 0, none⟩) 1 1 ∧ B ≤ b0 ∧ RepS 33 b0 w0 k c ∧ Ext w0 w ∧ Blk w D c 33, fun _ _ _ h ⟨D, c, b0, w0, e, h2, h3, h4, h5⟩ => ⟨D, c, b0, w0, e, h2, h3, Ext.trans h4 h, h5.ext h⟩⟩

/-- The end of plain. -/
theorem pl_fin {B : Nat} {w0 w wr w' : World} {nm : ByteArray} {kind ty mn mx : Int} {names : List ByteArray} {must : Bool} {most : Int} {kids : List Sp} {N : Option Addr} {nc : Nat} {A : Option Addr} {cap : Nat} {ds : List (List Value)} {old : List Value}
    (hB : B = w.heap.size) (hx0 : Ext w0 w) (hN : names ≠ [] → ∃ b sp, N = some ⟨b, 0, none⟩ ∧ Blk w0 b (names.map Value.string ++ sp) 9) (hl : names.length ≤ 100 ∧ kids.length ≤ 100) (hx : Below B w wr) (hold : Blk wr (B + 1) old 33) (hu : Upd wr w' (B + 1))
    (hown : wr.ownsRow (B + 1 + 1 + 1) 33 9 (.slice A kids.length cap) kids.length ds.flatten) (hds : ds.length = kids.length ∧ ∀ d ∈ ds, d.length = 9)
    (hh : ∀ (i : Nat) k d, kids[i]? = some k → ds[i]? = some d → Held (B + 1 + 1 + 1) wr (B + 1 + 1) (Value.slice A kids.length cap).ownBlock k d) :
    PlPost (.mk nm kind ty mn mx names must most kids) w w' (.agg #[.string nm, .int .i64 kind, .int .i64 ty, .int .u64 mn, .int .u64 mx, .slice N names.length nc, .bool must, .int .i64 most, .slice A kids.length cap]) := by
  subst hB
  refine ⟨_, rfl, .mk nm kind ty mn mx names must most kids N nc A cap ds (fun hn => ?_) (fun hn => ?_) hds.2 hds.1 (fun i k d hk hd => ?_) hl, Below.trans hx (hu.below (by omega))⟩
  · obtain ⟨b, sp, rfl, hb⟩ := hN hn
    have hb1 := hb.ext hx0
    exact ⟨b, sp, rfl, fun h => absurd h (by decide), hu.blk (by have := hb1.lt; omega) (hb1.below hx hb1.lt)⟩
  · obtain ⟨g, cap', sp, he, hle, hb, _⟩ := own_form hown (List.length_pos_iff.2 hn)
    simp only [Value.slice.injEq] at he
    exact ⟨g, sp, he.1, by omega, hu.blk (by omega) hb⟩
  · exact ((hh i k d hk hd).rep.upd (by decide) hu hold (by omega)).mono (by omega)

theorem pl_held {B j : Nat} {W2 w' W3 : World} {g : Option Nat} {v' : Value} {ds : List (List Value)} {kids : List Sp} {c' : List Value} {k : Sp} {old : List Value}
    (kheld : ∀ (i : Nat) k d, kids[i]? = some k → ds[i]? = some d → Held (B + 1 + 1 + 1) W2 (B + 1 + 1) g k d) (hj : kids[j]? = some k) (hdl : ds.length = j) (hk : Held (B + 1 + 1 + 1) W2 (B + 1 + 1) g k c')
    (hgr : W2.grownBy w' g) (ht : ∀ x, g = some x → ∃ ds, Blk W2 x ds 33) (hat : v'.ownBlock = g ∨ v'.ownBlock = some W2.heap.size) (hu : Upd w' W3 (B + 1 + 1)) (hX : Blk w' (B + 1 + 1) old 33) :
    ∀ (i : Nat) k d, kids[i]? = some k → (ds ++ [c'])[i]? = some d → Held (B + 1 + 1 + 1) W3 (B + 1 + 1) v'.ownBlock k d := by
  intro i k2 d hi hd
  refine (Held.grown hgr ht hat (?_ : Held (B + 1 + 1 + 1) W2 (B + 1 + 1) g k2 d)).upd hu hX
  by_cases h : i < ds.length
  · rw [List.getElem?_append_left h] at hd
    exact kheld i k2 d hi hd
  · rw [List.getElem?_append_right (by omega)] at hd
    have hi2 : i = j := by
      have := (List.getElem?_eq_some_iff.1 hd).1
      simp at this
      omega
    subst hi2
    rw [hi] at hj
    cases hj
    simp [hdl] at hd
    subst hd
    exact hk
theorem grown_upd {w w' : World} {g : Nat} (h : Upd w w' g) : w.grownBy w' (some g) := ⟨h.os, h.tape, h.output, Nat.le_of_eq h.size.symm, fun k _ hk => h.block k (fun e => hk (by rw [e]))⟩
theorem own_upd {w w' : World} {g base : Nat} (hu : Upd w w' g) (hg : g < base) {e : TypeId} {sz n : Nat} {v : Value} {xs : List Value} (h : w.ownsRow base e sz v n xs) : w'.ownsRow base e sz v n xs := by
  refine h.kept (grown_upd hu) ?_
  rcases h.2 with ⟨h1, h2⟩ | ⟨g', cap', cur, hv, hb, _⟩
  · left; rw [h1]; rfl
  · right; rw [hv]; simp [Value.ownBlock]; omega

set_option maxRecDepth 100000 in
set_option maxHeartbeats 4000000 in
theorem plain_any {base : Nat} {w0 : World} {s : Sp} {c : List Value} (h : RepS 27 base w0 s c) : ∀ w, Ext w0 w → Calls Try.prog 30 #[.agg c.toArray] w (Ret (PlPost s w)) := by
  induction h with
  | mk nm kind ty mn mx names must most kids N nc K kc css hN hK h9 hl hr hb ih =>
    intro w hx0
    have kN := Hd.mk hN
    have kK := Hd.mk hK
    have k9 := Hd.mk h9
    have kr := Hd.mk hr
    have kb := Hd.mk hb
    have kih := Hd.mk ih
    have kcss := Hd.mk hl
    have kx0 := Hd.mk hx0
    have hb2 := hb.2
    clear hN hK h9 hl hr hb ih hx0
    simp only [cSpec]
    go_enter Try.func30, Try.ntmps30
    go_wp2_with fail
    have hx1 := Hd.mk (((Ext.alloc w (.cells #[.string nm, .int .i64 kind, .int .i64 ty, .int .u64 mn, .int .u64 mx, .slice N names.length nc, .bool must, .int .i64 most, .slice K kids.length kc] 27)).trans (Ext.alloc _ (.cells #[.string ⟨#[]⟩, .int .i64 0, .int .i64 0, .int .u64 0, .int .u64 0, .slice none 0 0, .bool false, .int .i64 0, .slice none 0 0] 33))).trans (Ext.alloc _ (.cells #[.string nm, .int .i64 kind, .int .i64 ty, .int .u64 mn, .int .u64 mx, .slice N names.length nc, .bool must, .int .i64 most, .slice none 0 0] 33)))
    have hb1 := Hd.mk (((Blk.new w #[.string nm, .int .i64 kind, .int .i64 ty, .int .u64 mn, .int .u64 mx, .slice N names.length nc, .bool must, .int .i64 most, .slice K kids.length kc] 27).alloc (.cells #[.string ⟨#[]⟩, .int .i64 0, .int .i64 0, .int .u64 0, .int .u64 0, .slice none 0 0, .bool false, .int .i64 0, .slice none 0 0] 33)).alloc (.cells #[.string nm, .int .i64 kind, .int .i64 ty, .int .u64 mn, .int .u64 mx, .slice N names.length nc, .bool must, .int .i64 most, .slice none 0 0] 33))
    have hb2' := Hd.mk ((Blk.new2 w (.cells #[.string nm, .int .i64 kind, .int .i64 ty, .int .u64 mn, .int .u64 mx, .slice N names.length nc, .bool must, .int .i64 most, .slice K kids.length kc] 27) #[.string ⟨#[]⟩, .int .i64 0, .int .i64 0, .int .u64 0, .int .u64 0, .slice none 0 0, .bool false, .int .i64 0, .slice none 0 0] 33).alloc (.cells #[.string nm, .int .i64 kind, .int .i64 ty, .int .u64 mn, .int .u64 mx, .slice N names.length nc, .bool must, .int .i64 most, .slice none 0 0] 33))
    have hb3 := Hd.mk (show Blk (((w.alloc (.cells #[.string nm, .int .i64 kind, .int .i64 ty, .int .u64 mn, .int .u64 mx, .slice N names.length nc, .bool must, .int .i64 most, .slice K kids.length kc] 27)).alloc (.cells #[.string ⟨#[]⟩, .int .i64 0, .int .i64 0, .int .u64 0, .int .u64 0, .slice none 0 0, .bool false, .int .i64 0, .slice none 0 0] 33)).alloc (.cells #[.string nm, .int .i64 kind, .int .i64 ty, .int .u64 mn, .int .u64 mx, .slice N names.length nc, .bool must, .int .i64 most, .slice none 0 0] 33)) (w.heap.size + 1 + 1) [.string nm, .int .i64 kind, .int .i64 ty, .int .u64 mn, .int .u64 mx, .slice N names.length nc, .bool must, .int .i64 most, .slice none 0 0] 33 from by
      have := Blk.new ((w.alloc (.cells #[.string nm, .int .i64 kind, .int .i64 ty, .int .u64 mn, .int .u64 mx, .slice N names.length nc, .bool must, .int .i64 most, .slice K kids.length kc] 27)).alloc (.cells #[.string ⟨#[]⟩, .int .i64 0, .int .i64 0, .int .u64 0, .int .u64 0, .slice none 0 0, .bool false, .int .i64 0, .slice none 0 0] 33)) #[.string nm, .int .i64 kind, .int .i64 ty, .int .u64 mn, .int .u64 mx, .slice N names.length nc, .bool must, .int .i64 most, .slice none 0 0] 33
      simpa using this)
    generalize (((w.alloc (.cells #[.string nm, .int .i64 kind, .int .i64 ty, .int .u64 mn, .int .u64 mx, .slice N names.length nc, .bool must, .int .i64 most, .slice K kids.length kc] 27)).alloc (.cells #[.string ⟨#[]⟩, .int .i64 0, .int .i64 0, .int .u64 0, .int .u64 0, .slice none 0 0, .bool false, .int .i64 0, .slice none 0 0] 33)).alloc (.cells #[.string nm, .int .i64 kind, .int .i64 ty, .int .u64 mn, .int .u64 mx, .slice N names.length nc, .bool must, .int .i64 most, .slice none 0 0] 33)) = W1 at *
    go_loopg [4] (kids.length + 1) (fun q i wr => ∃ (j : Nat) (A : Option Addr) (cap : Nat) (ds : List (List Value)), j ≤ kids.length ∧ Hd (q = kids.length + 1 - j) ∧ i = .int .i64 j ∧ Hd (Below w.heap.size w wr) ∧
      Hd (Blk wr w.heap.size [.string nm, .int .i64 kind, .int .i64 ty, .int .u64 mn, .int .u64 mx, .slice N names.length nc, .bool must, .int .i64 most, .slice K kids.length kc] 27) ∧
      Hd (Blk wr (w.heap.size + 1) [.string ⟨#[]⟩, .int .i64 0, .int .i64 0, .int .u64 0, .int .u64 0, .slice none 0 0, .bool false, .int .i64 0, .slice none 0 0] 33) ∧
      Hd (Blk wr (w.heap.size + 1 + 1) [.string nm, .int .i64 kind, .int .i64 ty, .int .u64 mn, .int .u64 mx, .slice N names.length nc, .bool must, .int .i64 most, .slice A j cap] 33) ∧
      Hd (wr.ownsRow (w.heap.size + 1 + 1 + 1) 33 9 (.slice A j cap) j ds.flatten) ∧ Hd (ds.length = j ∧ (∀ d ∈ ds, d.length = 9)) ∧
      Hd (∀ (i : Nat) k d, kids[i]? = some k → ds[i]? = some d → Held (w.heap.size + 1 + 1 + 1) wr (w.heap.size + 1 + 1) (Value.slice A j cap).ownBlock k d))
    case atStart => exact ⟨0, none, 0, [], Nat.zero_le _, ⟨by omega⟩, rfl, hx1, hb1, hb2', hb3, ⟨⟨rfl, .inl ⟨rfl, rfl⟩⟩⟩, ⟨⟨rfl, by simp⟩⟩, ⟨by simp⟩⟩
    case round =>
    obtain ⟨j, A, cap, ds, hj, hq, rfl, hxr, kb1, kb2, kb3, kown, kds, kheld⟩ := hrel
    have g1 := kb1.out.cell
    by_cases hlt : j < kids.length
    · have hkj := List.getElem?_eq_getElem hlt
      generalize kids[j] = k at hkj
      have hkj2 := Hd.mk hkj
      clear hkj
      go_wp2_with fail
      obtain ⟨kb, sp, rfl, hle, hkb⟩ := kK.out (by rintro rfl; simp at hlt)
      have hkb0 := Hd.mk ((hkb.ext kx0.out).below hxr.out (hkb.ext kx0.out).lt)
      obtain ⟨ck, hcs⟩ : ∃ ck, css[j]? = some ck := ⟨_, List.getElem?_eq_getElem (show j < css.length by rw [kcss.out]; exact hlt)⟩
      have hkr := Hd.mk (kr.out j k ck hkj2.out hcs)
      obtain ⟨kind', ty', mn', mx', N', nl', nc', must', most', K', kc', rfl⟩ := hkr.out.form
      have hcell := Hd.mk (fun (i : Nat) (v : Value) (hv : (cSpec k.name kind' ty' mn' mx' N' nl' nc' must' most' K' k.kids.length kc')[i]? = some v) => show wr.cell? ⟨kb, j * 9 + i, none⟩ = some v from by
        have h1 := flatten_get css k9.out j _ hcs i v hv
        rw [hkb0.out.cell, List.getElem?_append_left (List.getElem?_eq_some_iff.1 h1).1]
        exact h1)
      have hihk := Hd.mk (fun w h => kih.out j k _ hkj2.out hcs w h)
      have hxr0 := Hd.mk (fun w' (h : Ext wr w') => show Ext w0 w' from Below.trans kx0.out ((Below.trans hxr.out (h.mono hxr.out.size)).mono kx0.out.size))
      clear hle hkb hcs
      refine Flow.wp_region_flow_l (fun t => match t with
        | 29 => SP.eq (.pointer (some ⟨w.heap.size + 1 + 1, 8, none⟩))
        | 30 => SP.eq (.slice A j cap)
        | 31 => SP.eq (.pointer (some ⟨w.heap.size, 8, none⟩))
        | 32 => SP.eq (.slice (some ⟨kb, 0, none⟩) kids.length kc)
        | 33 => SP.eq (.int .i64 j)
        | 34 => SP.eq (.pointer (some ⟨kb, j * 9, none⟩))
        | 35 => SP.eq (.agg (cSpec k.name kind' ty' mn' mx' N' nl' nc' must' most' K' k.kids.length kc').toArray)
        | 36 => spKid k wr.heap.size
        | 37 => spKid1 k wr.heap.size
        | _ => SP.any) 9 (by kernel_rfl) 41 rfl (by kernel_rfl) ?_ ?_
      · refine ⟨?_, ?_, ?_, ?_, ?_, ?_, ?_, ?_, ?_, trivial⟩
        · intro a W2 hk
          refine Flow.does_intro rfl (fun K hK => ?_)
          have e1 : a.tmps[3]?.getD undef = .pointer (some ⟨w.heap.size + 1 + 1, 0, none⟩) := hk.o 3 (by kernel_rfl)
          clear hk
          go_simp
          exact hK _ _ (Ext.refl _) (fun d hd => by cases hd; rfl)
        · intro a W2 hk
          refine Flow.does_intro rfl (fun K hK => ?_)
          have e1 : a.tmps[29]?.getD undef = _ := hk.v 29 (by kernel_rfl)
          have g := (kb3.out.ext ((Ext.drew wr).trans hk.ext)).cell
          clear hk
          go_simp
          exact hK _ _ (Ext.refl _) (fun d hd => by cases hd; rfl)
        · intro a W2 hk
          refine Flow.does_intro rfl (fun K hK => ?_)
          have e1 : a.tmps[1]?.getD undef = .pointer (some ⟨w.heap.size, 0, none⟩) := hk.o 1 (by kernel_rfl)
          clear hk
          go_simp
          exact hK _ _ (Ext.refl _) (fun d hd => by cases hd; rfl)
        · intro a W2 hk
          refine Flow.does_intro rfl (fun K hK => ?_)
          have e1 : a.tmps[31]?.getD undef = _ := hk.v 31 (by kernel_rfl)
          have g := (kb1.out.ext ((Ext.drew wr).trans hk.ext)).cell
          clear hk
          go_simp
          exact hK _ _ (Ext.refl _) (fun d hd => by cases hd; rfl)
        · intro a W2 hk
          refine Flow.does_intro rfl (fun K hK => ?_)
          have e1 : a.tmps[4]?.getD undef = .int .i64 j := hk.o 4 (by kernel_rfl)
          clear hk
          go_simp
          exact hK _ _ (Ext.refl _) (fun d hd => by cases hd; rfl)
        · intro a W2 hk
          refine Flow.does_intro rfl (fun K hK => ?_)
          have e1 : a.tmps[32]?.getD undef = _ := hk.v 32 (by kernel_rfl)
          have e2 : a.tmps[33]?.getD undef = _ := hk.v 33 (by kernel_rfl)
          clear hk
          go_simp
          exact hK _ _ (Ext.refl _) (fun d hd => by cases hd; rfl)
        · intro a W2 hk
          refine Flow.does_intro rfl (fun K hK => ?_)
          have e1 : a.tmps[34]?.getD undef = _ := hk.v 34 (by kernel_rfl)
          have hx := (Ext.drew wr).trans hk.ext
          have c0 := Ext.cell hx (hcell.out 0 _ rfl)
          have c1 := Ext.cell hx (hcell.out 1 _ rfl)
          have c2 := Ext.cell hx (hcell.out 2 _ rfl)
          have c3 := Ext.cell hx (hcell.out 3 _ rfl)
          have c4 := Ext.cell hx (hcell.out 4 _ rfl)
          have c5 := Ext.cell hx (hcell.out 5 _ rfl)
          have c6 := Ext.cell hx (hcell.out 6 _ rfl)
          have c7 := Ext.cell hx (hcell.out 7 _ rfl)
          have c8 := Ext.cell hx (hcell.out 8 _ rfl)
          rw [Nat.add_zero] at c0
          clear hk hx
          go_simp
          exact hK _ _ (Ext.refl _) (fun d hd => by cases hd; rfl)
        · intro a W2 hk
          refine Flow.does_intro rfl (fun K hK => ?_)
          have e1 : a.tmps[35]?.getD undef = _ := hk.v 35 (by kernel_rfl)
          have hx := (Ext.drew wr).trans hk.ext
          have hxk := Hd.mk (hxr0.out W2 hx)
          have hsz := hx.size
          simp only [cSpec] at e1
          clear hk hx
          go_simp
          refine Calls.mono (hihk.out W2 hxk.out) ?_
          rintro e W3 ⟨_, rfl, c', rfl, hrc, hxc⟩
          exact hK _ _ hxc (fun d hd => by cases hd; exact ⟨c', W2.heap.size, W3, rfl, hsz, hrc, Ext.refl _⟩)
        · intro a W2 hk
          refine Flow.does_intro rfl (fun K hK => ?_)
          obtain ⟨c', b0, w3, e1, h1, h2, h3⟩ := (hk.v 36 (by kernel_rfl) : (spKid _ _).p _ _)
          obtain ⟨kind2, ty2, mn2, mx2, N2, nl2, nc2, must2, most2, K2, kc2, rfl⟩ := h2.form
          have h2' := Hd.mk h2
          have h3' := Hd.mk h3
          simp only [cSpec] at e1
          clear hk h2 h3
          go_simp
          exact hK _ _ (Ext.alloc _ _) (fun d hd => by cases hd; exact ⟨_, _, b0, w3, rfl, h1, h2'.out, h3'.out.trans (Ext.alloc _ _), Blk.new _ _ _⟩)
      · intro a W2 he
        have hxW2 := Hd.mk ((Ext.drew wr).trans he.ext)
        obtain ⟨us, hA, hF⟩ := he.out [29, 30, 31, 32, 33, 34, 35, 36, 37] (by kernel_rfl)
        simp only [Flow.fillL, List.contains_cons, List.contains_nil, Nat.reduceBEq, Bool.or_false, Bool.false_or, Bool.or_true, Bool.true_or, ↓reduceIte, Nat.reduceAdd, Bool.false_eq_true] at hA
        subst hA
        have f30 : us 30 = _ := hF 30 (by simp)
        have f37 := hF 37 (by simp)
        clear hF he
        generalize us 29 = u29 at *
        generalize us 30 = u30 at *
        generalize us 31 = u31 at *
        generalize us 32 = u32 at *
        generalize us 33 = u33 at *
        generalize us 34 = u34 at *
        generalize us 35 = u35 at *
        generalize us 36 = u36 at *
        generalize us 37 = u37 at *
        subst f30
        obtain ⟨D, c', b0, w3, rfl, h1, h2, h3, h4⟩ := (f37 : (spKid1 _ _).p _ _)
        obtain ⟨kind2, ty2, mn2, mx2, N2, nl2, nc2, must2, most2, K2, kc2, rfl⟩ := h2.form
        have h2' := Hd.mk h2
        have h3' := Hd.mk h3
        have h4' := Hd.mk h4
        have kb3' := Hd.mk (kb3.out.ext hxW2.out)
        have kown' := Hd.mk (own_ext hxW2.out kown.out)
        have hsz2 := hxW2.out.size
        have hB3 := kb3.out.lt
        clear h2 h3 h4
        refine (show wpList _ _ _ (⟨some 38, .call { callee := .builtin .append, args := #[.tmp 30, .tmp 37], argTypes := #[31, 31] }, _, _, _, none⟩ :: _) _ _ from ?_)
        refine wpl_append sl31 (by omega) (by omega) (.tmp 30) (.tmp 37) 38 _ _ _ (w.heap.size + 1 + 1 + 1) (.slice A j cap) j ds.flatten rfl kown'.out D 0 1 1 (cSpec k.name kind2 ty2 mn2 mx2 N2 nl2 nc2 must2 most2 K2 k.kids.length kc2) rfl rfl (fun i u hi => ?_) rfl (by omega) (by omega) ?_
        · rw [Nat.zero_add, h4'.out.cell]; exact hi
        intro v' w' hown' hgr hat
        have hown2 := Hd.mk hown'
        have hgr2 := Hd.mk hgr
        have hat2 := Hd.mk hat
        have hgn := Hd.mk (fun (x : Nat) (hx : (Value.slice A j cap).ownBlock = some x) => show w.heap.size + 1 + 1 + 1 ≤ x ∧ x < wr.heap.size ∧ ∃ ds, Blk wr x ds 33 from by
          rcases kown.out.2 with ⟨h1, h2⟩ | ⟨g, cap', cur, hv, hb, hg, _⟩
          · rw [h1] at hx; simp [Value.ownBlock] at hx
          · rw [hv] at hx
            simp only [Value.ownBlock, Option.some.injEq] at hx
            subst hx
            have : Blk wr g cur.toList 33 := by unfold Blk; simpa using hg
            exact ⟨hb, this.lt, _, this⟩)
        have hne : ∀ x, (Value.slice A j cap).ownBlock = some x → x ≠ w.heap.size + 1 + 1 := fun x hx => by have := (hgn.out x hx).1; omega
        have kb1w := Hd.mk (show Blk w' w.heap.size _ 27 from (hgr2.out.block _ (by omega) (fun h => by have := (hgn.out _ h.symm).1; omega)).trans (kb1.out.ext hxW2.out))
        have kb2w := Hd.mk (show Blk w' (w.heap.size + 1) _ 33 from (hgr2.out.block _ (by omega) (fun h => by have := (hgn.out _ h.symm).1; omega)).trans (kb2.out.ext hxW2.out))
        have kb3w := Hd.mk (show Blk w' (w.heap.size + 1 + 1) _ 33 from (hgr2.out.block _ (by omega) (fun h => by have := (hgn.out _ h.symm).1; omega)).trans kb3'.out)
        have hbel := Hd.mk (show Below w.heap.size w w' from (Below.trans hxr.out (hxW2.out.mono hxr.out.size)).grown hgr2.out (by omega) (fun x hx => by have := (hgn.out x hx).1; omega))
        have kheld2 := Hd.mk (fun (i : Nat) k d (hk : kids[i]? = some k) (hd : ds[i]? = some d) => (kheld.out i k d hk hd).ext hxW2.out)
        have hnew := Hd.mk (Held.of_rep (X := w.heap.size + 1 + 1) (base := w.heap.size + 1 + 1 + 1) (by omega) (by omega) h2'.out h3'.out (fun x hx => by have := (hgn.out x hx).2.1; omega))
        have hgn2 := Hd.mk (fun (x : Nat) (hx : (Value.slice A j cap).ownBlock = some x) => show ∃ ds, Blk W2 x ds 33 from by obtain ⟨_, _, ds, h⟩ := hgn.out x hx; exact ⟨ds, h.ext hxW2.out⟩)
        obtain ⟨g, cap', sp', rfl, _, _, _⟩ := own_form hown2.out (Nat.succ_pos _)
        have g3 := kb3w.out.cell
        have f3 := kb3w.out.free
        clear hown' hgr hat hne hsz2 hB3
        go_wp2_with fail
        go_roundg (kids.length + 1 - (j + 1))
        case measure => have := hq.out; omega
        case rel =>
          have hu : Upd w' (w'.setCell ⟨w.heap.size + 1 + 1, 8, none⟩ (.slice (some ⟨g, 0, none⟩) (j + 1) cap')) (w.heap.size + 1 + 1) := Upd.setCell w' ⟨w.heap.size + 1 + 1, 8, none⟩ (.slice (some ⟨g, 0, none⟩) (j + 1) cap')
          refine ⟨j + 1, some ⟨g, 0, none⟩, cap', ds ++ [cSpec k.name kind2 ty2 mn2 mx2 N2 nl2 nc2 must2 most2 K2 k.kids.length kc2], by omega, ⟨rfl⟩, by go_num, ⟨Below.trans hbel.out (hu.below (by omega))⟩, ⟨hu.blk (by omega) kb1w.out⟩, ⟨hu.blk (by omega) kb2w.out⟩, ⟨kb3w.out.setCell 8 _⟩, ⟨?_⟩, ⟨?_, ?_⟩, ⟨?_⟩⟩
          · have := own_upd hu (Nat.lt_succ_self _) hown2.out
            simpa using this
          · simp [kds.out.1]
          · intro d hd
            rcases List.mem_append.1 hd with h | h
            · exact kds.out.2 d h
            · rw [List.mem_singleton.1 h]; rfl
          · exact pl_held kheld2.out hkj2.out kds.out.1 hnew.out hgr2.out hgn2.out hat2.out hu kb3w.out
    · have hjl : j = kids.length := by omega
      have g3 := kb3.out.cell
      have g2 := kb2.out.cell
      have f2 := kb2.out.free
      have kb1' := Hd.mk kb.out
      clear kb
      subst hjl
      go_wp2_with fail
      exact ret_box rfl (w.heap.size + 1) _ 33 _ (set9 kb2.out).1 rfl rfl Try.underlying33 rfl size33 ⟨_, rfl, pl_fin rfl kx0.out (fun hn => let ⟨b, sp, h1, _, h3⟩ := kN.out hn; ⟨b, sp, h1, h3⟩) kb1'.out hxr.out kb2.out (set9 kb2.out).2 kown.out kds.out kheld.out⟩

end Go.Proofs.Ytgkgedjmnbjalaa
