/- Same of the document's trees.
   Conditions: none. -/
import Derived.Test.YtgkgedjmnbjalaaTC
set_option linter.unusedSimpArgs false
namespace Go.Proofs.Ytgkgedjmnbjalaa
open Go.RowKit Go.Sort

mutual
/-- Two trees are the same. -/
def sameT : T → T → Bool
  | .mk n k d m t l, .mk n' k' d' m' t' l' => decide (n = n') && decide (k = k') && (decide (d = d') && decide (m = m') && decide (t = t')) && sameL l l'
def sameL : List T → List T → Bool
  | [], [] => true
  | x :: l, y :: m => sameT x y && sameL l m
  | _, _ => false
end
theorem sameT_eq (a b : T) : sameT a b = (decide (a.name = b.name) && decide (a.key = b.key) && (decide (a.kind = b.kind) && decide (a.num = b.num) && decide (a.text = b.text)) && sameL a.kids b.kids) := by
  cases a; cases b; rfl
theorem sameL_len : ∀ (l m : List T), sameL l m = true → l.length = m.length
  | [], [], _ => rfl
  | x :: l, y :: m, h => by
    rw [sameL, Bool.and_eq_true] at h
    simp [sameL_len l m h.2]
  | [], _ :: _, h => by simp [sameL] at h
  | _ :: _, [], h => by simp [sameL] at h
theorem sameL_drop {l m : List T} {j : Nat} {x y : T} (hx : l[j]? = some x) (hy : m[j]? = some y) : sameL (l.drop j) (m.drop j) = (sameT x y && sameL (l.drop (j + 1)) (m.drop (j + 1))) := by
  obtain ⟨h1, h2⟩ := List.getElem?_eq_some_iff.1 hx
  obtain ⟨h3, h4⟩ := List.getElem?_eq_some_iff.1 hy
  rw [List.drop_eq_getElem_cons h1, List.drop_eq_getElem_cons h3, sameL, h2, h4]

theorem sameT_mk (n k : ByteArray) (d m : Int) (t : ByteArray) (l : List T) (n' k' : ByteArray) (d' m' : Int) (t' : ByteArray) (l' : List T) :
    sameT (.mk n k d m t l) (.mk n' k' d' m' t' l') = (decide (n = n') && decide (k = k') && (decide (d = d') && decide (m = m') && decide (t = t')) && sameL l l') := rfl

set_option maxRecDepth 100000 in
set_option maxHeartbeats 4000000 in
theorem ref_same : ∀ (N : Nat) (a b : T) (S : Nat → Prop) (w : World) (c d : List Value), a.deep ≤ N → RT S w a c → RT S w b d →
    Calls Try.prog 48 #[.agg c.toArray, .agg d.toArray] w fun e w' => e = .returned (.bool (sameT a b)) ∧ Ext w w'
  | 0, a, b, S, w, c, d, hn, _, _ => by rw [a.deep_eq] at hn; omega
  | N + 1, .mk n k d m t l, .mk n' k' d' m' t' l', S, w, c, d2, hn, ha, hb => by
    obtain ⟨K1, c1, rfl, hr1⟩ := ha.row
    obtain ⟨K2, c2, rfl, hr2⟩ := hb.row
    simp only [T.name, T.key, T.kind, T.num, T.text, T.kids] at hr1 hr2 ⊢
    have kr1 := Hd.mk hr1
    have kr2 := Hd.mk hr2
    have kn := Hd.mk (show deepL l ≤ N by rw [T.deep_eq] at hn; simp only [T.kids] at hn; omega)
    have hl1 := hr1.len
    have hl2 := hr2.len
    have ih := Hd.mk (ref_same N)
    have hsame := Hd.mk (sameT_mk n k d m t l n' k' d' m' t' l')
    clear hr1 hr2 ha hb hn
    generalize sameT _ _ = r at *
    have sN := str_eq n n'
    have sK := str_eq k k'
    have sT := str_eq t t'
    simp only [cT]
    by_cases h1 : n = n'
    · subst h1
      by_cases h2 : k = k'
      · subst h2
        by_cases h3 : d = d'
        · subst h3
          by_cases h4 : m = m'
          · subst h4
            by_cases h5 : t = t'
            · subst h5
              clear sN sK sT
              by_cases h6 : l.length = l'.length
              · have hr : r = sameL l l' := by rw [hsame.out]; simp
                clear hsame
                rw [h6]
                replace h6 := Hd.mk h6
                clear hl1
                go_enter Try.func48, Try.ntmps48
                go_wp2_with fail
                have kA := Hd.mk ((Blk.new w #[.string n, .string k, .int .i64 d, .int .u64 m, .string t, .slice K1 l'.length c1] 54).alloc (.cells #[.string n, .string k, .int .i64 d, .int .u64 m, .string t, .slice K2 l'.length c2] 54))
                have kB := Hd.mk (Blk.new2 w (.cells #[.string n, .string k, .int .i64 d, .int .u64 m, .string t, .slice K1 l'.length c1] 54) #[.string n, .string k, .int .i64 d, .int .u64 m, .string t, .slice K2 l'.length c2] 54)
                have kx := Hd.mk ((Ext.alloc w (.cells #[.string n, .string k, .int .i64 d, .int .u64 m, .string t, .slice K1 l'.length c1] 54)).trans (Ext.alloc _ (.cells #[.string n, .string k, .int .i64 d, .int .u64 m, .string t, .slice K2 l'.length c2] 54)))
                generalize w.heap.size = pA at *
                generalize (w.alloc _).alloc _ = W at *
                replace hr := Hd.mk hr
                go_loopg [5, 6] (l'.length + 1) (fun q i _ wr => ∃ j : Nat, j ≤ l'.length ∧ Hd (q = l'.length + 1 - j) ∧ i = .int .i64 j ∧ Hd (r = sameL (l.drop j) (l'.drop j)) ∧ Hd (Ext W wr))
                case atStart => exact ⟨0, by omega, ⟨by omega⟩, rfl, hr, ⟨Ext.refl _⟩⟩
                case round =>
                obtain ⟨j, hj, hq, rfl, hI, hxr⟩ := hrel
                have gA := (kA.out.ext hxr.out).cell
                have gB := (kB.out.ext hxr.out).cell
                by_cases hlt : j < l'.length
                · have hlt1 : j < l.length := by have := h6.out; omega
                  have hx1 := List.getElem?_eq_getElem hlt1
                  have hx2 := List.getElem?_eq_getElem hlt
                  generalize l[j] = x at hx1
                  generalize l'[j] = y at hx2
                  obtain ⟨b1, o1, ck, rfl, _, hrk, hck⟩ := kr1.out.kid j x hx1
                  obtain ⟨b2, o2, dk, rfl, _, hrd, hdk⟩ := kr2.out.kid j y hx2
                  obtain ⟨K3, c3, rfl, _⟩ := hrk.row
                  obtain ⟨K4, c4, rfl, _⟩ := hrd.row
                  have hcall := Hd.mk (fun W' (h : Ext w W') => ih.out x y S W' _ _ (by have := deepL_mem hx1; have := kn.out; omega) (hrk.ext h) (hrd.ext h))
                  have hdrop := Hd.mk (sameL_drop hx1 hx2)
                  obtain ⟨e0, e1, e2, e3, e4, e5⟩ := six (kx.out.trans hxr.out) hck
                  obtain ⟨f0, f1, f2, f3, f4, f5⟩ := six (kx.out.trans hxr.out) hdk
                  have c0 := cell_regrown e0
                  have c1 := cell_regrown e1
                  have c2 := cell_regrown e2
                  have c3 := cell_regrown e3
                  have c4 := cell_regrown e4
                  have c5 := cell_regrown e5
                  have d0 := cell_regrown f0
                  have d1 := cell_regrown f1
                  have d2 := cell_regrown f2
                  have d3 := cell_regrown f3
                  have d4 := cell_regrown f4
                  have d5 := cell_regrown f5
                  clear e0 e1 e2 e3 e4 e5 f0 f1 f2 f3 f4 f5 hck hdk hrk hrd hx1 hx2
                  simp only [cT] at hcall
                  go_wp2_with fail
                  have k3 := cell_regrown ((gA 5).trans rfl)
                  have k4 := cell_regrown ((gB 5).trans rfl)
                  have cF := fun dd os => Calls.regrown_of (d := dd) (os := os) (hcall.out (grow (redrawn wr dd) os) ((kx.out.trans hxr.out).trans (ext_regrown wr dd os)))
                  clear gA gB hcall
                  refine wp_region_quiet_below (by kernel_rfl) (by kernel_rfl) ?_
                  repeat (quiet_step (exact cF _ _))
                  refine wpQuiet_nil ?_
                  intro _ hw'
                  obtain ⟨⟨dq, osq⟩, hw''⟩ := hw'
                  subst hw''
                  have hx3 := ext_regrown wr dq osq
                  clear cF k3 k4 c0 c1 c2 c3 c4 c5 d0 d1 d2 d3 d4 d5
                  generalize grow (redrawn wr dq) osq = w3 at *
                  have hxr3 := Hd.mk (hxr.out.trans hx3)
                  clear hx3
                  cases hs : sameT x y with
                  | true =>
                    go_wp2_with fail
                    go_roundg (l'.length + 1 - (j + 1))
                    case measure => have := hq.out; omega
                    case rel => exact ⟨j + 1, by omega, ⟨rfl⟩, by go_num, ⟨by rw [hI.out, hdrop.out, hs]; rfl⟩, hxr3⟩
                  | false =>
                    have hr0 : r = false := by rw [hI.out, hdrop.out, hs]; rfl
                    subst hr0
                    go_wp2_with fail
                    go_ret
                    exact ⟨rfl, kx.out.trans hxr3.out⟩
                · have hjl : j = l'.length := by omega
                  subst hjl
                  have hr0 : r = true := by rw [hI.out, ← h6.out, List.drop_length, h6.out, List.drop_length]; rfl
                  subst hr0
                  go_wp2_with fail
                  go_ret
                  exact ⟨rfl, kx.out.trans hxr.out⟩
              · have hr : r = false := by
                  rw [hsame.out]
                  cases hs : sameL l l' with
                  | false => simp
                  | true => exact absurd (sameL_len _ _ hs) h6
                subst hr
                have h6' : ((l.length : Int) != (l'.length : Int)) = true := by rw [bne_iff_ne]; omega
                clear hsame
                go_enter Try.func48, Try.ntmps48
                go_wp2_with fail
                go_ret
                exact ⟨rfl, (Ext.alloc _ _).trans (Ext.alloc _ _)⟩
            · have hr : r = false := by rw [hsame.out]; simp [h5]
              subst hr
              have h5' : (t.toList == t'.toList) = false := by rw [sT]; exact decide_eq_false h5
              clear hsame sN sK sT
              go_enter Try.func48, Try.ntmps48
              go_wp2_with fail
              go_ret
              exact ⟨rfl, (Ext.alloc _ _).trans (Ext.alloc _ _)⟩
          · have hr : r = false := by rw [hsame.out]; simp [h4]
            subst hr
            clear hsame sN sK sT
            go_enter Try.func48, Try.ntmps48
            go_wp2_with fail
            go_ret
            exact ⟨rfl, (Ext.alloc _ _).trans (Ext.alloc _ _)⟩
        · have hr : r = false := by rw [hsame.out]; simp [h3]
          subst hr
          clear hsame sN sK sT
          go_enter Try.func48, Try.ntmps48
          go_wp2_with fail
          go_ret
          exact ⟨rfl, (Ext.alloc _ _).trans (Ext.alloc _ _)⟩
      · have hr : r = false := by rw [hsame.out]; simp [h2]
        subst hr
        have h2' : (k.toList == k'.toList) = false := by rw [sK]; exact decide_eq_false h2
        clear hsame sN sK sT
        go_enter Try.func48, Try.ntmps48
        go_wp2_with fail
        go_ret
        exact ⟨rfl, (Ext.alloc _ _).trans (Ext.alloc _ _)⟩
    · have hr : r = false := by rw [hsame.out]; simp [h1]
      subst hr
      have h1' : (n.toList == n'.toList) = false := by rw [sN]; exact decide_eq_false h1
      clear hsame sN sK sT
      go_enter Try.func48, Try.ntmps48
      go_wp2_with fail
      go_ret
      exact ⟨rfl, (Ext.alloc _ _).trans (Ext.alloc _ _)⟩
end Go.Proofs.Ytgkgedjmnbjalaa
