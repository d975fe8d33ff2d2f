/- Texts that the law needs, joined.
   Conditions: none. -/
import Derived.Test.YtgkgedjmnbjalaaTqL
import Derived.Test.YtgkgedjmnbjalaaTqF
import Derived.Test.YtgkgedjmnbjalaaTqC
set_option linter.unusedSimpArgs false
set_option linter.unusedVariables false
namespace Go.Proofs.Ytgkgedjmnbjalaa
open Go.RowKit Go.Sort
structure WsRow (w : World) (A : Option Addr) (l : List (List Step)) (c : Nat) : Prop where
  cap : l.length ≤ c
  len : l.length ≤ 1048576
  nul : A = none → c = 0
  way : ∀ (i : Nat) v, l[i]? = some v → ∃ b off B ac, A = some ⟨b, off, none⟩ ∧ w.cell? ⟨b, off + i, none⟩ = some (.slice B v.length ac) ∧ WRow (fun _ => True) w B v ac
theorem wrow_step {S : Nat → Prop} {w : World} {A : Option Addr} {l : List Step} {c i : Nat} {s : Step} (h : WRow S w A l c) (hi : l[i]? = some s) : ∃ b off, A = some ⟨b, off, none⟩ ∧ ∀ (q : Nat) v, [Value.string s.1, .string s.2][q]? = some v → w.cell? ⟨b, off + i * 2 + q, none⟩ = some v := by
  have hne : l ≠ [] := fun e => by rw [e] at hi; simp at hi
  obtain ⟨b, off, h1, _, h2⟩ := h.row hne
  refine ⟨b, off, h1, fun q v hv => ?_⟩
  obtain ⟨g0, g1⟩ := wcells_get l i s hi
  match q, hv with
  | 0, hv => simp at hv; subst hv; exact h2 _ _ g0
  | 1, hv => simp at hv; subst hv; rw [Nat.add_assoc]; exact h2 _ _ g1
  | q + 2, hv => simp at hv
theorem parts_drop {a b : List Step} {i : Nat} {s t : Step} (ha : a[i]? = some s) (hb : b[i]? = some t) : partsW (a.drop i) (b.drop i) = (decide (s ≠ t) || partsW (a.drop (i + 1)) (b.drop (i + 1))) := by
  obtain ⟨h1, h2⟩ := List.getElem?_eq_some_iff.1 ha
  obtain ⟨h3, h4⟩ := List.getElem?_eq_some_iff.1 hb
  rw [List.drop_eq_getElem_cons h1, List.drop_eq_getElem_cons h3, h2, h4, partsW]
set_option maxRecDepth 100000 in
set_option maxHeartbeats 4000000 in
theorem other09_walk (n x : T) (l : List (List Step)) (w : World) (c cx : List Value) (A : Option Addr) (ac : Nat) (h : RT (fun _ => True) w n c) (hw : WsRow w A l ac) (hx : RT (fun _ => True) w x cx) (hsn : n.size ≤ 1048576) (hsx : x.size ≤ 1048576) :
    Calls Try.prog 18 #[.agg c.toArray, .slice A l.length ac, .agg cx.toArray] w fun e w' => e = .returned (.bool true) ∧ Ext w w' := by
  obtain ⟨Kn, kn, rfl, _⟩ := h.row
  obtain ⟨Kx, k0, rfl, _⟩ := hx.row
  have hwl := hw.len
  have rn := Hd.mk h
  have rx := Hd.mk hx
  have hws := Hd.mk hw
  replace hsn := Hd.mk hsn
  replace hsx := Hd.mk hsx
  clear h hx hw
  simp only [cT] at rn rx ⊢
  go_enter Try.func18, Try.ntmps18
  go_wp2_with fail
  have hxA := (Ext.alloc w (.cells #[.string n.name, .string n.key, .int .i64 n.kind, .int .u64 n.num, .string n.text, .slice Kn n.kids.length kn] 54)).trans (Ext.alloc _ (.cells #[.string x.name, .string x.key, .int .i64 x.kind, .int .u64 x.num, .string x.text, .slice Kx x.kids.length k0] 54))
  have kx := Hd.mk hxA
  have kN := Hd.mk ((Blk.new w #[.string n.name, .string n.key, .int .i64 n.kind, .int .u64 n.num, .string n.text, .slice Kn n.kids.length kn] 54).alloc (.cells #[.string x.name, .string x.key, .int .i64 x.kind, .int .u64 x.num, .string x.text, .slice Kx x.kids.length k0] 54))
  have kX := Hd.mk (Blk.new2 w (.cells #[.string n.name, .string n.key, .int .i64 n.kind, .int .u64 n.num, .string n.text, .slice Kn n.kids.length kn] 54) #[.string x.name, .string x.key, .int .i64 x.kind, .int .u64 x.num, .string x.text, .slice Kx x.kids.length k0] 54)
  replace rn := Hd.mk (rn.out.ext hxA)
  replace rx := Hd.mk (rx.out.ext hxA)
  clear hxA
  generalize w.heap.size = pN at *
  generalize (w.alloc _).alloc _ = W at *
  refine Calls.mono (awake09 _) ?_
  rintro e w1 ⟨rfl, hx⟩
  replace kx := Hd.mk (kx.out.trans hx)
  replace kN := Hd.mk (kN.out.ext hx)
  replace kX := Hd.mk (kX.out.ext hx)
  replace rn := Hd.mk (rn.out.ext hx)
  replace rx := Hd.mk (rx.out.ext hx)
  clear hx
  have gkN := kN.out.cell
  have gkX := kX.out.cell
  go_wp2_with fail
  clear gkN gkX
  refine Calls.mono (law_small09 n (fun _ => True) _ _ hsn.out rn.out) ?_
  rintro e w2 ⟨rfl, hx⟩
  replace kx := Hd.mk (kx.out.trans hx)
  replace kN := Hd.mk (kN.out.ext hx)
  replace kX := Hd.mk (kX.out.ext hx)
  replace rn := Hd.mk (rn.out.ext hx)
  replace rx := Hd.mk (rx.out.ext hx)
  clear hx
  have gkN := kN.out.cell
  have gkX := kX.out.cell
  go_wp2_with fail
  clear gkN gkX
  refine Calls.mono (law_small09 x (fun _ => True) _ _ hsx.out rx.out) ?_
  rintro e w3 ⟨rfl, hx⟩
  replace kx := Hd.mk (kx.out.trans hx)
  replace kN := Hd.mk (kN.out.ext hx)
  replace kX := Hd.mk (kX.out.ext hx)
  replace rn := Hd.mk (rn.out.ext hx)
  replace rx := Hd.mk (rx.out.ext hx)
  clear hx
  by_cases hs1 : ¬ n.size ≤ 300
  · have hb1 : decide (n.size ≤ 300) = false := decide_eq_false hs1
    rw [hb1]
    clear hs1
    have gkN := kN.out.cell
    go_wp2_with fail
    go_ret
    exact ⟨rfl, kx.out⟩
  replace hs1 := Decidable.of_not_not hs1
  rw [decide_eq_true hs1]
  by_cases hs2 : ¬ x.size ≤ 300
  · have hb1 : decide (x.size ≤ 300) = false := decide_eq_false hs2
    rw [hb1]
    clear hs2
    have gkN := kN.out.cell
    go_wp2_with fail
    go_ret
    exact ⟨rfl, kx.out⟩
  replace hs2 := Decidable.of_not_not hs2
  rw [decide_eq_true hs2]
  replace hs1 := Hd.mk hs1
  replace hs2 := Hd.mk hs2
  by_cases hs3 : l.length < 2
  · have hs3i : (l.length : Int) < (2 : Int) := by omega
    have gkN := kN.out.cell
    go_wp2_with fail
    go_ret
    exact ⟨rfl, kx.out⟩
  have hs3i : ¬ (l.length : Int) < (2 : Int) := by omega
  have h0l : 0 < l.length := by omega
  have h1l : 1 < l.length := by omega
  have e0 := List.getElem?_eq_getElem h0l
  have e1 := List.getElem?_eq_getElem h1l
  generalize l[0] = a at e0
  generalize l[1] = b at e1
  obtain ⟨bw, ow, A1, a1, hA, hc0, hwa⟩ := hws.out.way 0 a e0
  obtain ⟨bw2, ow2, A2, a2, hA2, hc1, hwb⟩ := hws.out.way 1 b e1
  subst hA
  simp only [Option.some.injEq, Addr.mk.injEq, and_true] at hA2
  obtain ⟨rfl, rfl⟩ := hA2
  rw [Nat.add_zero] at hc0
  have c0 := Hd.mk (Ext.cell kx.out hc0)
  have c1 := Hd.mk (Ext.cell kx.out hc1)
  have ra := Hd.mk (hwa.ext kx.out)
  have rb := Hd.mk (hwb.ext kx.out)
  have hal := hwa.len
  have hbl := hwb.len
  clear e0 e1 hc0 hc1 hwa hwb hws hs3 h0l
  have h0i : (0 : Int) < (l.length : Int) := by omega
  have h1i : (1 : Int) < (l.length : Int) := by omega
  clear h1l
  by_cases hs4 : 20 < a.length
  · have hs3i : (20 : Int) < (a.length : Int) := by omega
    have gkN := kN.out.cell
    have gc0 := c0.out
    have gc1 := c1.out
    go_wp2_with fail
    go_ret
    exact ⟨rfl, kx.out⟩
  have hs4i : ¬ (20 : Int) < (a.length : Int) := by omega
  clear hs4
  by_cases hs5 : 20 < b.length
  · have hs3i : (20 : Int) < (b.length : Int) := by omega
    have gkN := kN.out.cell
    have gc0 := c0.out
    have gc1 := c1.out
    go_wp2_with fail
    go_ret
    exact ⟨rfl, kx.out⟩
  have hs5i : ¬ (20 : Int) < (b.length : Int) := by omega
  clear hs5
  have gkN := kN.out.cell
  have gc0 := c0.out
  have gc1 := c1.out
  go_wp2_with fail
  clear gkN
  clear gc0 gc1
  refine Calls.mono (ref_right n.deep n (fun _ => True) _ _ (Nat.le_refl _) rn.out) ?_
  rintro e w4 ⟨rfl, hx⟩
  replace kx := Hd.mk (kx.out.trans hx)
  replace kN := Hd.mk (kN.out.ext hx)
  replace kX := Hd.mk (kX.out.ext hx)
  replace rn := Hd.mk (rn.out.ext hx)
  replace rx := Hd.mk (rx.out.ext hx)
  replace c0 := Hd.mk (Ext.cell hx c0.out)
  replace c1 := Hd.mk (Ext.cell hx c1.out)
  replace ra := Hd.mk (ra.out.ext hx)
  replace rb := Hd.mk (rb.out.ext hx)
  clear hx
  cases hri : rightT n with
  | false =>
    have gkN := kN.out.cell
    go_wp2_with fail
    go_ret
    exact ⟨rfl, kx.out⟩
  | true =>
  replace hri := Hd.mk hri
  have gc0 := c0.out
  have gc1 := c1.out
  go_wp2_with fail
  clear gc0 gc1 c0 c1
  generalize w4 = W0 at *
  go_loopg [12, 13] (a.length + 1) (fun q sp si wr => ∃ (i : Nat) (p : Bool), Hd (q = a.length + 1 - i) ∧ i ≤ a.length ∧ si = .int .i64 i ∧ sp = .bool p ∧ Hd (partsW a b = (p || partsW (a.drop i) (b.drop i))) ∧ Hd (Ext W0 wr))
  case atStart => exact ⟨0, false, ⟨rfl⟩, Nat.zero_le _, rfl, rfl, ⟨by simp⟩, ⟨Ext.refl _⟩⟩
  case round =>
  obtain ⟨i, p, hq, hia, rfl, rfl, hI, kxr⟩ := hrel
  replace kx := Hd.mk (kx.out.trans kxr.out)
  replace kN := Hd.mk (kN.out.ext kxr.out)
  replace kX := Hd.mk (kX.out.ext kxr.out)
  replace rn := Hd.mk (rn.out.ext kxr.out)
  replace rx := Hd.mk (rx.out.ext kxr.out)
  replace ra := Hd.mk (ra.out.ext kxr.out)
  replace rb := Hd.mk (rb.out.ext kxr.out)
  generalize wr = V0 at *
  cases p with
  | true =>
    have hp : partsW a b = true := by rw [hI.out]; rfl
    replace hp := Hd.mk hp
    clear hI
    by_cases h1 : i < a.length
    · have h1i : (i : Int) < (a.length : Int) := by omega
      by_cases h2 : i < b.length
      · have h2i : (i : Int) < (b.length : Int) := by omega
        obtain ⟨m, rc, hset⟩ : ∃ m rc, setR n a x = (m, rc) := ⟨_, _, rfl⟩
        obtain ⟨kk, rf, hcut⟩ : ∃ m rc, cutR n a = (m, rc) := ⟨_, _, rfl⟩
        have hSet := Hd.mk (fun W c cx (h1 : RT (fun _ => True) W n c) (h2 : RT (fun _ => True) W x cx) (h3 : WRow (fun _ => True) W A1 a a1) => (show Calls Try.prog 70 _ W (Ret (TwoPost m (.int .i64 rc) W)) from by have h9 := Calls.mono (tree_set n x a (fun _ => True) (fun _ => True) (fun _ => True) W c cx A1 a1 h1 h2 h3 hri.out (by have := hs1.out; have := hs2.out; omega)) chg_two; rw [hset] at h9; exact h9))
        have hCut := Hd.mk (fun W c (h1 : RT (fun _ => True) W n c) (h3 : WRow (fun _ => True) W A1 a a1) => (show Calls Try.prog 72 _ W (Ret (TwoPost kk (.int .i64 rf) W)) from by have h9 := Calls.mono (tree_cut n a (fun _ => True) (fun _ => True) W c A1 a1 h1 h3 (by have := hs1.out; have := hs2.out; omega)) chg_two; rw [hcut] at h9; exact h9))
        have hGb := Hd.mk (fun (u : T) (hu : getT u b = getT n b) W c (h1 : RT (fun _ => True) W u c) (h3 : WRow (fun _ => True) W A2 b a2) => (show Calls Try.prog 68 _ W (Ret (TwoPost ((getT n b).getD zeroT) (.bool (getT n b).isSome) W)) from by have h9 := Calls.mono (tree_get u b (fun _ => True) (fun _ => True) W c A2 a2 h1 h3) get_two; rw [hu] at h9; exact h9))
        have hO1 := Hd.mk (fun (h : rc = 0) => setR_other a b n x m hri.out (by rw [hset, h]) hp.out)
        have hO2 := Hd.mk (fun (h : rf = 0) => cutR_other a b n kk hri.out (by rw [hcut, h]) hp.out)
        have hSy := Hd.mk (fun W c d (h1 : RT (fun _ => True) W ((getT n b).getD zeroT) c) (h2 : RT (fun _ => True) W ((getT n b).getD zeroT) d) => ref_same _ _ _ (fun _ => True) W c d (Nat.le_refl _) h1 h2)
        rw [sameT_rfl] at hSy
        replace hset := Hd.mk hset
        replace hcut := Hd.mk hcut
        have hG0 := Hd.mk (hGb.out n rfl)
        generalize hy : (getT n b).getD zeroT = y at *
        generalize hz : (getT n b).isSome = z at *
        replace hy := Hd.mk hy
        replace hz := Hd.mk hz
        have gkN := kN.out.cell
        go_wp2_with fail
        clear gkN
        refine Calls.mono (hG0.out _ _ rn.out rb.out) ?_
        rintro e w5 ⟨_, rfl, c9, rfl, hr9, hx⟩
        obtain ⟨K1, k1c, rfl, _⟩ := hr9.row
        simp only [cT] at hr9 ⊢
        have hxA := hx.trans (Ext.alloc w5 (.cells #[.string y.name, .string y.key, .int .i64 y.kind, .int .u64 y.num, .string y.text, .slice K1 y.kids.length k1c] 54))
        replace kx := Hd.mk (kx.out.trans hxA)
        replace kN := Hd.mk (kN.out.ext hxA)
        replace kX := Hd.mk (kX.out.ext hxA)
        replace rn := Hd.mk (rn.out.ext hxA)
        replace rx := Hd.mk (rx.out.ext hxA)
        replace ra := Hd.mk (ra.out.ext hxA)
        replace rb := Hd.mk (rb.out.ext hxA)
        have k1 := Hd.mk (Blk.new w5 #[.string y.name, .string y.key, .int .i64 y.kind, .int .u64 y.num, .string y.text, .slice K1 y.kids.length k1c] 54)
        replace hr9 := Hd.mk (hr9.ext (Ext.alloc w5 (.cells #[.string y.name, .string y.key, .int .i64 y.kind, .int .u64 y.num, .string y.text, .slice K1 y.kids.length k1c] 54)))
        clear hx hxA
        have gkN := kN.out.cell
        have gkX := kX.out.cell
        go_wp2_with fail
        clear gkN gkX
        generalize w5.heap.size = p1 at *
        generalize w5.alloc _ = W5 at *
        have r1 := hr9
        clear hr9
        refine Calls.mono (hSet.out _ _ _ rn.out rx.out ra.out) ?_
        rintro e w6 ⟨_, rfl, c9, rfl, hr9, hx⟩
        obtain ⟨K2, k2c, rfl, _⟩ := hr9.row
        simp only [cT] at hr9 ⊢
        have hxA := hx.trans (Ext.alloc w6 (.cells #[.string m.name, .string m.key, .int .i64 m.kind, .int .u64 m.num, .string m.text, .slice K2 m.kids.length k2c] 54))
        replace kx := Hd.mk (kx.out.trans hxA)
        replace kN := Hd.mk (kN.out.ext hxA)
        replace kX := Hd.mk (kX.out.ext hxA)
        replace rn := Hd.mk (rn.out.ext hxA)
        replace rx := Hd.mk (rx.out.ext hxA)
        replace ra := Hd.mk (ra.out.ext hxA)
        replace rb := Hd.mk (rb.out.ext hxA)
        replace k1 := Hd.mk (k1.out.ext hxA)
        replace r1 := Hd.mk (r1.out.ext hxA)
        have k2 := Hd.mk (Blk.new w6 #[.string m.name, .string m.key, .int .i64 m.kind, .int .u64 m.num, .string m.text, .slice K2 m.kids.length k2c] 54)
        replace hr9 := Hd.mk (hr9.ext (Ext.alloc w6 (.cells #[.string m.name, .string m.key, .int .i64 m.kind, .int .u64 m.num, .string m.text, .slice K2 m.kids.length k2c] 54)))
        clear hx hxA
        have gkN := kN.out.cell
        go_wp2_with fail
        clear gkN
        generalize w6.heap.size = p2 at *
        generalize w6.alloc _ = W6 at *
        have r2 := hr9
        clear hr9
        refine Calls.mono (hCut.out _ _ rn.out ra.out) ?_
        rintro e w7 ⟨_, rfl, c9, rfl, hr9, hx⟩
        obtain ⟨K3, k3c, rfl, _⟩ := hr9.row
        simp only [cT] at hr9 ⊢
        have hxA := hx.trans (Ext.alloc w7 (.cells #[.string kk.name, .string kk.key, .int .i64 kk.kind, .int .u64 kk.num, .string kk.text, .slice K3 kk.kids.length k3c] 54))
        replace kx := Hd.mk (kx.out.trans hxA)
        replace kN := Hd.mk (kN.out.ext hxA)
        replace kX := Hd.mk (kX.out.ext hxA)
        replace rn := Hd.mk (rn.out.ext hxA)
        replace rx := Hd.mk (rx.out.ext hxA)
        replace ra := Hd.mk (ra.out.ext hxA)
        replace rb := Hd.mk (rb.out.ext hxA)
        replace k1 := Hd.mk (k1.out.ext hxA)
        replace r1 := Hd.mk (r1.out.ext hxA)
        replace k2 := Hd.mk (k2.out.ext hxA)
        replace r2 := Hd.mk (r2.out.ext hxA)
        have k3 := Hd.mk (Blk.new w7 #[.string kk.name, .string kk.key, .int .i64 kk.kind, .int .u64 kk.num, .string kk.text, .slice K3 kk.kids.length k3c] 54)
        replace hr9 := Hd.mk (hr9.ext (Ext.alloc w7 (.cells #[.string kk.name, .string kk.key, .int .i64 kk.kind, .int .u64 kk.num, .string kk.text, .slice K3 kk.kids.length k3c] 54)))
        clear hx hxA
        have r3 := hr9
        clear hr9
        clear hSet hCut hG0
        by_cases hrc : rc ≠ 0
        · have hrc1 : (rc == 0) = false := by simpa using hrc
          by_cases hrf : rf ≠ 0
          · have hrf1 : (rf == 0) = false := by simpa using hrf
            go_wp2_with fail
            generalize w7.heap.size = p3 at *
            generalize w7.alloc _ = W7 at *
            go_ret
            exact ⟨rfl, kx.out⟩
          replace hrf := Decidable.of_not_not hrf
          subst hrf
          have hgk := hO2.out rfl
          replace hgk := Hd.mk hgk
          have gk3 := k3.out.cell
          go_wp2_with fail
          generalize w7.heap.size = p3 at *
          generalize w7.alloc _ = W7 at *
          clear gk3
          refine Calls.mono (hGb.out kk hgk.out _ _ r3.out rb.out) ?_
          rintro e w8 ⟨_, rfl, c9, rfl, hr9, hx⟩
          obtain ⟨K6, k6c, rfl, _⟩ := hr9.row
          simp only [cT] at hr9 ⊢
          have hxA := hx.trans (Ext.alloc w8 (.cells #[.string y.name, .string y.key, .int .i64 y.kind, .int .u64 y.num, .string y.text, .slice K6 y.kids.length k6c] 54))
          replace kx := Hd.mk (kx.out.trans hxA)
          replace kN := Hd.mk (kN.out.ext hxA)
          replace kX := Hd.mk (kX.out.ext hxA)
          replace rn := Hd.mk (rn.out.ext hxA)
          replace rx := Hd.mk (rx.out.ext hxA)
          replace ra := Hd.mk (ra.out.ext hxA)
          replace rb := Hd.mk (rb.out.ext hxA)
          replace k1 := Hd.mk (k1.out.ext hxA)
          replace r1 := Hd.mk (r1.out.ext hxA)
          replace k2 := Hd.mk (k2.out.ext hxA)
          replace r2 := Hd.mk (r2.out.ext hxA)
          replace k3 := Hd.mk (k3.out.ext hxA)
          replace r3 := Hd.mk (r3.out.ext hxA)
          have k6 := Hd.mk (Blk.new w8 #[.string y.name, .string y.key, .int .i64 y.kind, .int .u64 y.num, .string y.text, .slice K6 y.kids.length k6c] 54)
          replace hr9 := Hd.mk (hr9.ext (Ext.alloc w8 (.cells #[.string y.name, .string y.key, .int .i64 y.kind, .int .u64 y.num, .string y.text, .slice K6 y.kids.length k6c] 54)))
          clear hx hxA
          have gk1 := k1.out.cell
          have gk6 := k6.out.cell
          go_wp2_with fail
          clear gk1 gk6
          generalize w8.heap.size = p6 at *
          generalize w8.alloc _ = W8 at *
          have r6 := hr9
          clear hr9
          refine Calls.mono (hSy.out _ _ _ r1.out r6.out) ?_
          rintro e w9 ⟨rfl, hx⟩
          replace kx := Hd.mk (kx.out.trans hx)
          replace kN := Hd.mk (kN.out.ext hx)
          replace kX := Hd.mk (kX.out.ext hx)
          replace rn := Hd.mk (rn.out.ext hx)
          replace rx := Hd.mk (rx.out.ext hx)
          replace ra := Hd.mk (ra.out.ext hx)
          replace rb := Hd.mk (rb.out.ext hx)
          replace k1 := Hd.mk (k1.out.ext hx)
          replace r1 := Hd.mk (r1.out.ext hx)
          replace k2 := Hd.mk (k2.out.ext hx)
          replace r2 := Hd.mk (r2.out.ext hx)
          replace k3 := Hd.mk (k3.out.ext hx)
          replace r3 := Hd.mk (r3.out.ext hx)
          replace k6 := Hd.mk (k6.out.ext hx)
          replace r6 := Hd.mk (r6.out.ext hx)
          clear hx
          go_wp2_with fail
          go_ret
          exact ⟨rfl, kx.out⟩
        replace hrc := Decidable.of_not_not hrc
        subst hrc
        have hgm := hO1.out rfl
        replace hgm := Hd.mk hgm
        have gk2 := k2.out.cell
        go_wp2_with fail
        generalize w7.heap.size = p3 at *
        generalize w7.alloc _ = W7 at *
        clear gk2
        refine Calls.mono (hGb.out m hgm.out _ _ r2.out rb.out) ?_
        rintro e w8 ⟨_, rfl, c9, rfl, hr9, hx⟩
        obtain ⟨K5, k5c, rfl, _⟩ := hr9.row
        simp only [cT] at hr9 ⊢
        have hxA := hx.trans (Ext.alloc w8 (.cells #[.string y.name, .string y.key, .int .i64 y.kind, .int .u64 y.num, .string y.text, .slice K5 y.kids.length k5c] 54))
        replace kx := Hd.mk (kx.out.trans hxA)
        replace kN := Hd.mk (kN.out.ext hxA)
        replace kX := Hd.mk (kX.out.ext hxA)
        replace rn := Hd.mk (rn.out.ext hxA)
        replace rx := Hd.mk (rx.out.ext hxA)
        replace ra := Hd.mk (ra.out.ext hxA)
        replace rb := Hd.mk (rb.out.ext hxA)
        replace k1 := Hd.mk (k1.out.ext hxA)
        replace r1 := Hd.mk (r1.out.ext hxA)
        replace k2 := Hd.mk (k2.out.ext hxA)
        replace r2 := Hd.mk (r2.out.ext hxA)
        replace k3 := Hd.mk (k3.out.ext hxA)
        replace r3 := Hd.mk (r3.out.ext hxA)
        have k5 := Hd.mk (Blk.new w8 #[.string y.name, .string y.key, .int .i64 y.kind, .int .u64 y.num, .string y.text, .slice K5 y.kids.length k5c] 54)
        replace hr9 := Hd.mk (hr9.ext (Ext.alloc w8 (.cells #[.string y.name, .string y.key, .int .i64 y.kind, .int .u64 y.num, .string y.text, .slice K5 y.kids.length k5c] 54)))
        clear hx hxA
        have gk1 := k1.out.cell
        have gk5 := k5.out.cell
        go_wp2_with fail
        clear gk1 gk5
        generalize w8.heap.size = p5 at *
        generalize w8.alloc _ = W8 at *
        have r5 := hr9
        clear hr9
        refine Calls.mono (hSy.out _ _ _ r1.out r5.out) ?_
        rintro e w9 ⟨rfl, hx⟩
        replace kx := Hd.mk (kx.out.trans hx)
        replace kN := Hd.mk (kN.out.ext hx)
        replace kX := Hd.mk (kX.out.ext hx)
        replace rn := Hd.mk (rn.out.ext hx)
        replace rx := Hd.mk (rx.out.ext hx)
        replace ra := Hd.mk (ra.out.ext hx)
        replace rb := Hd.mk (rb.out.ext hx)
        replace k1 := Hd.mk (k1.out.ext hx)
        replace r1 := Hd.mk (r1.out.ext hx)
        replace k2 := Hd.mk (k2.out.ext hx)
        replace r2 := Hd.mk (r2.out.ext hx)
        replace k3 := Hd.mk (k3.out.ext hx)
        replace r3 := Hd.mk (r3.out.ext hx)
        replace k5 := Hd.mk (k5.out.ext hx)
        replace r5 := Hd.mk (r5.out.ext hx)
        clear hx
        by_cases hrf : rf ≠ 0
        · have hrf1 : (rf == 0) = false := by simpa using hrf
          go_wp2_with fail
          go_ret
          exact ⟨rfl, kx.out⟩
        replace hrf := Decidable.of_not_not hrf
        subst hrf
        have hgk := hO2.out rfl
        replace hgk := Hd.mk hgk
        have gk3 := k3.out.cell
        go_wp2_with fail
        clear gk3
        refine Calls.mono (hGb.out kk hgk.out _ _ r3.out rb.out) ?_
        rintro e w10 ⟨_, rfl, c9, rfl, hr9, hx⟩
        obtain ⟨K6, k6c, rfl, _⟩ := hr9.row
        simp only [cT] at hr9 ⊢
        have hxA := hx.trans (Ext.alloc w10 (.cells #[.string y.name, .string y.key, .int .i64 y.kind, .int .u64 y.num, .string y.text, .slice K6 y.kids.length k6c] 54))
        replace kx := Hd.mk (kx.out.trans hxA)
        replace kN := Hd.mk (kN.out.ext hxA)
        replace kX := Hd.mk (kX.out.ext hxA)
        replace rn := Hd.mk (rn.out.ext hxA)
        replace rx := Hd.mk (rx.out.ext hxA)
        replace ra := Hd.mk (ra.out.ext hxA)
        replace rb := Hd.mk (rb.out.ext hxA)
        replace k1 := Hd.mk (k1.out.ext hxA)
        replace r1 := Hd.mk (r1.out.ext hxA)
        replace k2 := Hd.mk (k2.out.ext hxA)
        replace r2 := Hd.mk (r2.out.ext hxA)
        replace k3 := Hd.mk (k3.out.ext hxA)
        replace r3 := Hd.mk (r3.out.ext hxA)
        replace k5 := Hd.mk (k5.out.ext hxA)
        replace r5 := Hd.mk (r5.out.ext hxA)
        have k6 := Hd.mk (Blk.new w10 #[.string y.name, .string y.key, .int .i64 y.kind, .int .u64 y.num, .string y.text, .slice K6 y.kids.length k6c] 54)
        replace hr9 := Hd.mk (hr9.ext (Ext.alloc w10 (.cells #[.string y.name, .string y.key, .int .i64 y.kind, .int .u64 y.num, .string y.text, .slice K6 y.kids.length k6c] 54)))
        clear hx hxA
        have gk1 := k1.out.cell
        have gk6 := k6.out.cell
        go_wp2_with fail
        clear gk1 gk6
        generalize w10.heap.size = p6 at *
        generalize w10.alloc _ = W10 at *
        have r6 := hr9
        clear hr9
        refine Calls.mono (hSy.out _ _ _ r1.out r6.out) ?_
        rintro e w11 ⟨rfl, hx⟩
        replace kx := Hd.mk (kx.out.trans hx)
        replace kN := Hd.mk (kN.out.ext hx)
        replace kX := Hd.mk (kX.out.ext hx)
        replace rn := Hd.mk (rn.out.ext hx)
        replace rx := Hd.mk (rx.out.ext hx)
        replace ra := Hd.mk (ra.out.ext hx)
        replace rb := Hd.mk (rb.out.ext hx)
        replace k1 := Hd.mk (k1.out.ext hx)
        replace r1 := Hd.mk (r1.out.ext hx)
        replace k2 := Hd.mk (k2.out.ext hx)
        replace r2 := Hd.mk (r2.out.ext hx)
        replace k3 := Hd.mk (k3.out.ext hx)
        replace r3 := Hd.mk (r3.out.ext hx)
        replace k5 := Hd.mk (k5.out.ext hx)
        replace r5 := Hd.mk (r5.out.ext hx)
        replace k6 := Hd.mk (k6.out.ext hx)
        replace r6 := Hd.mk (r6.out.ext hx)
        clear hx
        go_wp2_with fail
        go_ret
        exact ⟨rfl, kx.out⟩
      · have h2i : ¬ (i : Int) < (b.length : Int) := by omega
        obtain ⟨m, rc, hset⟩ : ∃ m rc, setR n a x = (m, rc) := ⟨_, _, rfl⟩
        obtain ⟨kk, rf, hcut⟩ : ∃ m rc, cutR n a = (m, rc) := ⟨_, _, rfl⟩
        have hSet := Hd.mk (fun W c cx (h1 : RT (fun _ => True) W n c) (h2 : RT (fun _ => True) W x cx) (h3 : WRow (fun _ => True) W A1 a a1) => (show Calls Try.prog 70 _ W (Ret (TwoPost m (.int .i64 rc) W)) from by have h9 := Calls.mono (tree_set n x a (fun _ => True) (fun _ => True) (fun _ => True) W c cx A1 a1 h1 h2 h3 hri.out (by have := hs1.out; have := hs2.out; omega)) chg_two; rw [hset] at h9; exact h9))
        have hCut := Hd.mk (fun W c (h1 : RT (fun _ => True) W n c) (h3 : WRow (fun _ => True) W A1 a a1) => (show Calls Try.prog 72 _ W (Ret (TwoPost kk (.int .i64 rf) W)) from by have h9 := Calls.mono (tree_cut n a (fun _ => True) (fun _ => True) W c A1 a1 h1 h3 (by have := hs1.out; have := hs2.out; omega)) chg_two; rw [hcut] at h9; exact h9))
        have hGb := Hd.mk (fun (u : T) (hu : getT u b = getT n b) W c (h1 : RT (fun _ => True) W u c) (h3 : WRow (fun _ => True) W A2 b a2) => (show Calls Try.prog 68 _ W (Ret (TwoPost ((getT n b).getD zeroT) (.bool (getT n b).isSome) W)) from by have h9 := Calls.mono (tree_get u b (fun _ => True) (fun _ => True) W c A2 a2 h1 h3) get_two; rw [hu] at h9; exact h9))
        have hO1 := Hd.mk (fun (h : rc = 0) => setR_other a b n x m hri.out (by rw [hset, h]) hp.out)
        have hO2 := Hd.mk (fun (h : rf = 0) => cutR_other a b n kk hri.out (by rw [hcut, h]) hp.out)
        have hSy := Hd.mk (fun W c d (h1 : RT (fun _ => True) W ((getT n b).getD zeroT) c) (h2 : RT (fun _ => True) W ((getT n b).getD zeroT) d) => ref_same _ _ _ (fun _ => True) W c d (Nat.le_refl _) h1 h2)
        rw [sameT_rfl] at hSy
        replace hset := Hd.mk hset
        replace hcut := Hd.mk hcut
        have hG0 := Hd.mk (hGb.out n rfl)
        generalize hy : (getT n b).getD zeroT = y at *
        generalize hz : (getT n b).isSome = z at *
        replace hy := Hd.mk hy
        replace hz := Hd.mk hz
        have gkN := kN.out.cell
        go_wp2_with fail
        clear gkN
        refine Calls.mono (hG0.out _ _ rn.out rb.out) ?_
        rintro e w5 ⟨_, rfl, c9, rfl, hr9, hx⟩
        obtain ⟨K1, k1c, rfl, _⟩ := hr9.row
        simp only [cT] at hr9 ⊢
        have hxA := hx.trans (Ext.alloc w5 (.cells #[.string y.name, .string y.key, .int .i64 y.kind, .int .u64 y.num, .string y.text, .slice K1 y.kids.length k1c] 54))
        replace kx := Hd.mk (kx.out.trans hxA)
        replace kN := Hd.mk (kN.out.ext hxA)
        replace kX := Hd.mk (kX.out.ext hxA)
        replace rn := Hd.mk (rn.out.ext hxA)
        replace rx := Hd.mk (rx.out.ext hxA)
        replace ra := Hd.mk (ra.out.ext hxA)
        replace rb := Hd.mk (rb.out.ext hxA)
        have k1 := Hd.mk (Blk.new w5 #[.string y.name, .string y.key, .int .i64 y.kind, .int .u64 y.num, .string y.text, .slice K1 y.kids.length k1c] 54)
        replace hr9 := Hd.mk (hr9.ext (Ext.alloc w5 (.cells #[.string y.name, .string y.key, .int .i64 y.kind, .int .u64 y.num, .string y.text, .slice K1 y.kids.length k1c] 54)))
        clear hx hxA
        have gkN := kN.out.cell
        have gkX := kX.out.cell
        go_wp2_with fail
        clear gkN gkX
        generalize w5.heap.size = p1 at *
        generalize w5.alloc _ = W5 at *
        have r1 := hr9
        clear hr9
        refine Calls.mono (hSet.out _ _ _ rn.out rx.out ra.out) ?_
        rintro e w6 ⟨_, rfl, c9, rfl, hr9, hx⟩
        obtain ⟨K2, k2c, rfl, _⟩ := hr9.row
        simp only [cT] at hr9 ⊢
        have hxA := hx.trans (Ext.alloc w6 (.cells #[.string m.name, .string m.key, .int .i64 m.kind, .int .u64 m.num, .string m.text, .slice K2 m.kids.length k2c] 54))
        replace kx := Hd.mk (kx.out.trans hxA)
        replace kN := Hd.mk (kN.out.ext hxA)
        replace kX := Hd.mk (kX.out.ext hxA)
        replace rn := Hd.mk (rn.out.ext hxA)
        replace rx := Hd.mk (rx.out.ext hxA)
        replace ra := Hd.mk (ra.out.ext hxA)
        replace rb := Hd.mk (rb.out.ext hxA)
        replace k1 := Hd.mk (k1.out.ext hxA)
        replace r1 := Hd.mk (r1.out.ext hxA)
        have k2 := Hd.mk (Blk.new w6 #[.string m.name, .string m.key, .int .i64 m.kind, .int .u64 m.num, .string m.text, .slice K2 m.kids.length k2c] 54)
        replace hr9 := Hd.mk (hr9.ext (Ext.alloc w6 (.cells #[.string m.name, .string m.key, .int .i64 m.kind, .int .u64 m.num, .string m.text, .slice K2 m.kids.length k2c] 54)))
        clear hx hxA
        have gkN := kN.out.cell
        go_wp2_with fail
        clear gkN
        generalize w6.heap.size = p2 at *
        generalize w6.alloc _ = W6 at *
        have r2 := hr9
        clear hr9
        refine Calls.mono (hCut.out _ _ rn.out ra.out) ?_
        rintro e w7 ⟨_, rfl, c9, rfl, hr9, hx⟩
        obtain ⟨K3, k3c, rfl, _⟩ := hr9.row
        simp only [cT] at hr9 ⊢
        have hxA := hx.trans (Ext.alloc w7 (.cells #[.string kk.name, .string kk.key, .int .i64 kk.kind, .int .u64 kk.num, .string kk.text, .slice K3 kk.kids.length k3c] 54))
        replace kx := Hd.mk (kx.out.trans hxA)
        replace kN := Hd.mk (kN.out.ext hxA)
        replace kX := Hd.mk (kX.out.ext hxA)
        replace rn := Hd.mk (rn.out.ext hxA)
        replace rx := Hd.mk (rx.out.ext hxA)
        replace ra := Hd.mk (ra.out.ext hxA)
        replace rb := Hd.mk (rb.out.ext hxA)
        replace k1 := Hd.mk (k1.out.ext hxA)
        replace r1 := Hd.mk (r1.out.ext hxA)
        replace k2 := Hd.mk (k2.out.ext hxA)
        replace r2 := Hd.mk (r2.out.ext hxA)
        have k3 := Hd.mk (Blk.new w7 #[.string kk.name, .string kk.key, .int .i64 kk.kind, .int .u64 kk.num, .string kk.text, .slice K3 kk.kids.length k3c] 54)
        replace hr9 := Hd.mk (hr9.ext (Ext.alloc w7 (.cells #[.string kk.name, .string kk.key, .int .i64 kk.kind, .int .u64 kk.num, .string kk.text, .slice K3 kk.kids.length k3c] 54)))
        clear hx hxA
        have r3 := hr9
        clear hr9
        clear hSet hCut hG0
        by_cases hrc : rc ≠ 0
        · have hrc1 : (rc == 0) = false := by simpa using hrc
          by_cases hrf : rf ≠ 0
          · have hrf1 : (rf == 0) = false := by simpa using hrf
            go_wp2_with fail
            generalize w7.heap.size = p3 at *
            generalize w7.alloc _ = W7 at *
            go_ret
            exact ⟨rfl, kx.out⟩
          replace hrf := Decidable.of_not_not hrf
          subst hrf
          have hgk := hO2.out rfl
          replace hgk := Hd.mk hgk
          have gk3 := k3.out.cell
          go_wp2_with fail
          generalize w7.heap.size = p3 at *
          generalize w7.alloc _ = W7 at *
          clear gk3
          refine Calls.mono (hGb.out kk hgk.out _ _ r3.out rb.out) ?_
          rintro e w8 ⟨_, rfl, c9, rfl, hr9, hx⟩
          obtain ⟨K6, k6c, rfl, _⟩ := hr9.row
          simp only [cT] at hr9 ⊢
          have hxA := hx.trans (Ext.alloc w8 (.cells #[.string y.name, .string y.key, .int .i64 y.kind, .int .u64 y.num, .string y.text, .slice K6 y.kids.length k6c] 54))
          replace kx := Hd.mk (kx.out.trans hxA)
          replace kN := Hd.mk (kN.out.ext hxA)
          replace kX := Hd.mk (kX.out.ext hxA)
          replace rn := Hd.mk (rn.out.ext hxA)
          replace rx := Hd.mk (rx.out.ext hxA)
          replace ra := Hd.mk (ra.out.ext hxA)
          replace rb := Hd.mk (rb.out.ext hxA)
          replace k1 := Hd.mk (k1.out.ext hxA)
          replace r1 := Hd.mk (r1.out.ext hxA)
          replace k2 := Hd.mk (k2.out.ext hxA)
          replace r2 := Hd.mk (r2.out.ext hxA)
          replace k3 := Hd.mk (k3.out.ext hxA)
          replace r3 := Hd.mk (r3.out.ext hxA)
          have k6 := Hd.mk (Blk.new w8 #[.string y.name, .string y.key, .int .i64 y.kind, .int .u64 y.num, .string y.text, .slice K6 y.kids.length k6c] 54)
          replace hr9 := Hd.mk (hr9.ext (Ext.alloc w8 (.cells #[.string y.name, .string y.key, .int .i64 y.kind, .int .u64 y.num, .string y.text, .slice K6 y.kids.length k6c] 54)))
          clear hx hxA
          have gk1 := k1.out.cell
          have gk6 := k6.out.cell
          go_wp2_with fail
          clear gk1 gk6
          generalize w8.heap.size = p6 at *
          generalize w8.alloc _ = W8 at *
          have r6 := hr9
          clear hr9
          refine Calls.mono (hSy.out _ _ _ r1.out r6.out) ?_
          rintro e w9 ⟨rfl, hx⟩
          replace kx := Hd.mk (kx.out.trans hx)
          replace kN := Hd.mk (kN.out.ext hx)
          replace kX := Hd.mk (kX.out.ext hx)
          replace rn := Hd.mk (rn.out.ext hx)
          replace rx := Hd.mk (rx.out.ext hx)
          replace ra := Hd.mk (ra.out.ext hx)
          replace rb := Hd.mk (rb.out.ext hx)
          replace k1 := Hd.mk (k1.out.ext hx)
          replace r1 := Hd.mk (r1.out.ext hx)
          replace k2 := Hd.mk (k2.out.ext hx)
          replace r2 := Hd.mk (r2.out.ext hx)
          replace k3 := Hd.mk (k3.out.ext hx)
          replace r3 := Hd.mk (r3.out.ext hx)
          replace k6 := Hd.mk (k6.out.ext hx)
          replace r6 := Hd.mk (r6.out.ext hx)
          clear hx
          go_wp2_with fail
          go_ret
          exact ⟨rfl, kx.out⟩
        replace hrc := Decidable.of_not_not hrc
        subst hrc
        have hgm := hO1.out rfl
        replace hgm := Hd.mk hgm
        have gk2 := k2.out.cell
        go_wp2_with fail
        generalize w7.heap.size = p3 at *
        generalize w7.alloc _ = W7 at *
        clear gk2
        refine Calls.mono (hGb.out m hgm.out _ _ r2.out rb.out) ?_
        rintro e w8 ⟨_, rfl, c9, rfl, hr9, hx⟩
        obtain ⟨K5, k5c, rfl, _⟩ := hr9.row
        simp only [cT] at hr9 ⊢
        have hxA := hx.trans (Ext.alloc w8 (.cells #[.string y.name, .string y.key, .int .i64 y.kind, .int .u64 y.num, .string y.text, .slice K5 y.kids.length k5c] 54))
        replace kx := Hd.mk (kx.out.trans hxA)
        replace kN := Hd.mk (kN.out.ext hxA)
        replace kX := Hd.mk (kX.out.ext hxA)
        replace rn := Hd.mk (rn.out.ext hxA)
        replace rx := Hd.mk (rx.out.ext hxA)
        replace ra := Hd.mk (ra.out.ext hxA)
        replace rb := Hd.mk (rb.out.ext hxA)
        replace k1 := Hd.mk (k1.out.ext hxA)
        replace r1 := Hd.mk (r1.out.ext hxA)
        replace k2 := Hd.mk (k2.out.ext hxA)
        replace r2 := Hd.mk (r2.out.ext hxA)
        replace k3 := Hd.mk (k3.out.ext hxA)
        replace r3 := Hd.mk (r3.out.ext hxA)
        have k5 := Hd.mk (Blk.new w8 #[.string y.name, .string y.key, .int .i64 y.kind, .int .u64 y.num, .string y.text, .slice K5 y.kids.length k5c] 54)
        replace hr9 := Hd.mk (hr9.ext (Ext.alloc w8 (.cells #[.string y.name, .string y.key, .int .i64 y.kind, .int .u64 y.num, .string y.text, .slice K5 y.kids.length k5c] 54)))
        clear hx hxA
        have gk1 := k1.out.cell
        have gk5 := k5.out.cell
        go_wp2_with fail
        clear gk1 gk5
        generalize w8.heap.size = p5 at *
        generalize w8.alloc _ = W8 at *
        have r5 := hr9
        clear hr9
        refine Calls.mono (hSy.out _ _ _ r1.out r5.out) ?_
        rintro e w9 ⟨rfl, hx⟩
        replace kx := Hd.mk (kx.out.trans hx)
        replace kN := Hd.mk (kN.out.ext hx)
        replace kX := Hd.mk (kX.out.ext hx)
        replace rn := Hd.mk (rn.out.ext hx)
        replace rx := Hd.mk (rx.out.ext hx)
        replace ra := Hd.mk (ra.out.ext hx)
        replace rb := Hd.mk (rb.out.ext hx)
        replace k1 := Hd.mk (k1.out.ext hx)
        replace r1 := Hd.mk (r1.out.ext hx)
        replace k2 := Hd.mk (k2.out.ext hx)
        replace r2 := Hd.mk (r2.out.ext hx)
        replace k3 := Hd.mk (k3.out.ext hx)
        replace r3 := Hd.mk (r3.out.ext hx)
        replace k5 := Hd.mk (k5.out.ext hx)
        replace r5 := Hd.mk (r5.out.ext hx)
        clear hx
        by_cases hrf : rf ≠ 0
        · have hrf1 : (rf == 0) = false := by simpa using hrf
          go_wp2_with fail
          go_ret
          exact ⟨rfl, kx.out⟩
        replace hrf := Decidable.of_not_not hrf
        subst hrf
        have hgk := hO2.out rfl
        replace hgk := Hd.mk hgk
        have gk3 := k3.out.cell
        go_wp2_with fail
        clear gk3
        refine Calls.mono (hGb.out kk hgk.out _ _ r3.out rb.out) ?_
        rintro e w10 ⟨_, rfl, c9, rfl, hr9, hx⟩
        obtain ⟨K6, k6c, rfl, _⟩ := hr9.row
        simp only [cT] at hr9 ⊢
        have hxA := hx.trans (Ext.alloc w10 (.cells #[.string y.name, .string y.key, .int .i64 y.kind, .int .u64 y.num, .string y.text, .slice K6 y.kids.length k6c] 54))
        replace kx := Hd.mk (kx.out.trans hxA)
        replace kN := Hd.mk (kN.out.ext hxA)
        replace kX := Hd.mk (kX.out.ext hxA)
        replace rn := Hd.mk (rn.out.ext hxA)
        replace rx := Hd.mk (rx.out.ext hxA)
        replace ra := Hd.mk (ra.out.ext hxA)
        replace rb := Hd.mk (rb.out.ext hxA)
        replace k1 := Hd.mk (k1.out.ext hxA)
        replace r1 := Hd.mk (r1.out.ext hxA)
        replace k2 := Hd.mk (k2.out.ext hxA)
        replace r2 := Hd.mk (r2.out.ext hxA)
        replace k3 := Hd.mk (k3.out.ext hxA)
        replace r3 := Hd.mk (r3.out.ext hxA)
        replace k5 := Hd.mk (k5.out.ext hxA)
        replace r5 := Hd.mk (r5.out.ext hxA)
        have k6 := Hd.mk (Blk.new w10 #[.string y.name, .string y.key, .int .i64 y.kind, .int .u64 y.num, .string y.text, .slice K6 y.kids.length k6c] 54)
        replace hr9 := Hd.mk (hr9.ext (Ext.alloc w10 (.cells #[.string y.name, .string y.key, .int .i64 y.kind, .int .u64 y.num, .string y.text, .slice K6 y.kids.length k6c] 54)))
        clear hx hxA
        have gk1 := k1.out.cell
        have gk6 := k6.out.cell
        go_wp2_with fail
        clear gk1 gk6
        generalize w10.heap.size = p6 at *
        generalize w10.alloc _ = W10 at *
        have r6 := hr9
        clear hr9
        refine Calls.mono (hSy.out _ _ _ r1.out r6.out) ?_
        rintro e w11 ⟨rfl, hx⟩
        replace kx := Hd.mk (kx.out.trans hx)
        replace kN := Hd.mk (kN.out.ext hx)
        replace kX := Hd.mk (kX.out.ext hx)
        replace rn := Hd.mk (rn.out.ext hx)
        replace rx := Hd.mk (rx.out.ext hx)
        replace ra := Hd.mk (ra.out.ext hx)
        replace rb := Hd.mk (rb.out.ext hx)
        replace k1 := Hd.mk (k1.out.ext hx)
        replace r1 := Hd.mk (r1.out.ext hx)
        replace k2 := Hd.mk (k2.out.ext hx)
        replace r2 := Hd.mk (r2.out.ext hx)
        replace k3 := Hd.mk (k3.out.ext hx)
        replace r3 := Hd.mk (r3.out.ext hx)
        replace k5 := Hd.mk (k5.out.ext hx)
        replace r5 := Hd.mk (r5.out.ext hx)
        replace k6 := Hd.mk (k6.out.ext hx)
        replace r6 := Hd.mk (r6.out.ext hx)
        clear hx
        go_wp2_with fail
        go_ret
        exact ⟨rfl, kx.out⟩
    · have h1i : ¬ (i : Int) < (a.length : Int) := by omega
      obtain ⟨m, rc, hset⟩ : ∃ m rc, setR n a x = (m, rc) := ⟨_, _, rfl⟩
      obtain ⟨kk, rf, hcut⟩ : ∃ m rc, cutR n a = (m, rc) := ⟨_, _, rfl⟩
      have hSet := Hd.mk (fun W c cx (h1 : RT (fun _ => True) W n c) (h2 : RT (fun _ => True) W x cx) (h3 : WRow (fun _ => True) W A1 a a1) => (show Calls Try.prog 70 _ W (Ret (TwoPost m (.int .i64 rc) W)) from by have h9 := Calls.mono (tree_set n x a (fun _ => True) (fun _ => True) (fun _ => True) W c cx A1 a1 h1 h2 h3 hri.out (by have := hs1.out; have := hs2.out; omega)) chg_two; rw [hset] at h9; exact h9))
      have hCut := Hd.mk (fun W c (h1 : RT (fun _ => True) W n c) (h3 : WRow (fun _ => True) W A1 a a1) => (show Calls Try.prog 72 _ W (Ret (TwoPost kk (.int .i64 rf) W)) from by have h9 := Calls.mono (tree_cut n a (fun _ => True) (fun _ => True) W c A1 a1 h1 h3 (by have := hs1.out; have := hs2.out; omega)) chg_two; rw [hcut] at h9; exact h9))
      have hGb := Hd.mk (fun (u : T) (hu : getT u b = getT n b) W c (h1 : RT (fun _ => True) W u c) (h3 : WRow (fun _ => True) W A2 b a2) => (show Calls Try.prog 68 _ W (Ret (TwoPost ((getT n b).getD zeroT) (.bool (getT n b).isSome) W)) from by have h9 := Calls.mono (tree_get u b (fun _ => True) (fun _ => True) W c A2 a2 h1 h3) get_two; rw [hu] at h9; exact h9))
      have hO1 := Hd.mk (fun (h : rc = 0) => setR_other a b n x m hri.out (by rw [hset, h]) hp.out)
      have hO2 := Hd.mk (fun (h : rf = 0) => cutR_other a b n kk hri.out (by rw [hcut, h]) hp.out)
      have hSy := Hd.mk (fun W c d (h1 : RT (fun _ => True) W ((getT n b).getD zeroT) c) (h2 : RT (fun _ => True) W ((getT n b).getD zeroT) d) => ref_same _ _ _ (fun _ => True) W c d (Nat.le_refl _) h1 h2)
      rw [sameT_rfl] at hSy
      replace hset := Hd.mk hset
      replace hcut := Hd.mk hcut
      have hG0 := Hd.mk (hGb.out n rfl)
      generalize hy : (getT n b).getD zeroT = y at *
      generalize hz : (getT n b).isSome = z at *
      replace hy := Hd.mk hy
      replace hz := Hd.mk hz
      have gkN := kN.out.cell
      go_wp2_with fail
      clear gkN
      refine Calls.mono (hG0.out _ _ rn.out rb.out) ?_
      rintro e w5 ⟨_, rfl, c9, rfl, hr9, hx⟩
      obtain ⟨K1, k1c, rfl, _⟩ := hr9.row
      simp only [cT] at hr9 ⊢
      have hxA := hx.trans (Ext.alloc w5 (.cells #[.string y.name, .string y.key, .int .i64 y.kind, .int .u64 y.num, .string y.text, .slice K1 y.kids.length k1c] 54))
      replace kx := Hd.mk (kx.out.trans hxA)
      replace kN := Hd.mk (kN.out.ext hxA)
      replace kX := Hd.mk (kX.out.ext hxA)
      replace rn := Hd.mk (rn.out.ext hxA)
      replace rx := Hd.mk (rx.out.ext hxA)
      replace ra := Hd.mk (ra.out.ext hxA)
      replace rb := Hd.mk (rb.out.ext hxA)
      have k1 := Hd.mk (Blk.new w5 #[.string y.name, .string y.key, .int .i64 y.kind, .int .u64 y.num, .string y.text, .slice K1 y.kids.length k1c] 54)
      replace hr9 := Hd.mk (hr9.ext (Ext.alloc w5 (.cells #[.string y.name, .string y.key, .int .i64 y.kind, .int .u64 y.num, .string y.text, .slice K1 y.kids.length k1c] 54)))
      clear hx hxA
      have gkN := kN.out.cell
      have gkX := kX.out.cell
      go_wp2_with fail
      clear gkN gkX
      generalize w5.heap.size = p1 at *
      generalize w5.alloc _ = W5 at *
      have r1 := hr9
      clear hr9
      refine Calls.mono (hSet.out _ _ _ rn.out rx.out ra.out) ?_
      rintro e w6 ⟨_, rfl, c9, rfl, hr9, hx⟩
      obtain ⟨K2, k2c, rfl, _⟩ := hr9.row
      simp only [cT] at hr9 ⊢
      have hxA := hx.trans (Ext.alloc w6 (.cells #[.string m.name, .string m.key, .int .i64 m.kind, .int .u64 m.num, .string m.text, .slice K2 m.kids.length k2c] 54))
      replace kx := Hd.mk (kx.out.trans hxA)
      replace kN := Hd.mk (kN.out.ext hxA)
      replace kX := Hd.mk (kX.out.ext hxA)
      replace rn := Hd.mk (rn.out.ext hxA)
      replace rx := Hd.mk (rx.out.ext hxA)
      replace ra := Hd.mk (ra.out.ext hxA)
      replace rb := Hd.mk (rb.out.ext hxA)
      replace k1 := Hd.mk (k1.out.ext hxA)
      replace r1 := Hd.mk (r1.out.ext hxA)
      have k2 := Hd.mk (Blk.new w6 #[.string m.name, .string m.key, .int .i64 m.kind, .int .u64 m.num, .string m.text, .slice K2 m.kids.length k2c] 54)
      replace hr9 := Hd.mk (hr9.ext (Ext.alloc w6 (.cells #[.string m.name, .string m.key, .int .i64 m.kind, .int .u64 m.num, .string m.text, .slice K2 m.kids.length k2c] 54)))
      clear hx hxA
      have gkN := kN.out.cell
      go_wp2_with fail
      clear gkN
      generalize w6.heap.size = p2 at *
      generalize w6.alloc _ = W6 at *
      have r2 := hr9
      clear hr9
      refine Calls.mono (hCut.out _ _ rn.out ra.out) ?_
      rintro e w7 ⟨_, rfl, c9, rfl, hr9, hx⟩
      obtain ⟨K3, k3c, rfl, _⟩ := hr9.row
      simp only [cT] at hr9 ⊢
      have hxA := hx.trans (Ext.alloc w7 (.cells #[.string kk.name, .string kk.key, .int .i64 kk.kind, .int .u64 kk.num, .string kk.text, .slice K3 kk.kids.length k3c] 54))
      replace kx := Hd.mk (kx.out.trans hxA)
      replace kN := Hd.mk (kN.out.ext hxA)
      replace kX := Hd.mk (kX.out.ext hxA)
      replace rn := Hd.mk (rn.out.ext hxA)
      replace rx := Hd.mk (rx.out.ext hxA)
      replace ra := Hd.mk (ra.out.ext hxA)
      replace rb := Hd.mk (rb.out.ext hxA)
      replace k1 := Hd.mk (k1.out.ext hxA)
      replace r1 := Hd.mk (r1.out.ext hxA)
      replace k2 := Hd.mk (k2.out.ext hxA)
      replace r2 := Hd.mk (r2.out.ext hxA)
      have k3 := Hd.mk (Blk.new w7 #[.string kk.name, .string kk.key, .int .i64 kk.kind, .int .u64 kk.num, .string kk.text, .slice K3 kk.kids.length k3c] 54)
      replace hr9 := Hd.mk (hr9.ext (Ext.alloc w7 (.cells #[.string kk.name, .string kk.key, .int .i64 kk.kind, .int .u64 kk.num, .string kk.text, .slice K3 kk.kids.length k3c] 54)))
      clear hx hxA
      have r3 := hr9
      clear hr9
      clear hSet hCut hG0
      by_cases hrc : rc ≠ 0
      · have hrc1 : (rc == 0) = false := by simpa using hrc
        by_cases hrf : rf ≠ 0
        · have hrf1 : (rf == 0) = false := by simpa using hrf
          go_wp2_with fail
          generalize w7.heap.size = p3 at *
          generalize w7.alloc _ = W7 at *
          go_ret
          exact ⟨rfl, kx.out⟩
        replace hrf := Decidable.of_not_not hrf
        subst hrf
        have hgk := hO2.out rfl
        replace hgk := Hd.mk hgk
        have gk3 := k3.out.cell
        go_wp2_with fail
        generalize w7.heap.size = p3 at *
        generalize w7.alloc _ = W7 at *
        clear gk3
        refine Calls.mono (hGb.out kk hgk.out _ _ r3.out rb.out) ?_
        rintro e w8 ⟨_, rfl, c9, rfl, hr9, hx⟩
        obtain ⟨K6, k6c, rfl, _⟩ := hr9.row
        simp only [cT] at hr9 ⊢
        have hxA := hx.trans (Ext.alloc w8 (.cells #[.string y.name, .string y.key, .int .i64 y.kind, .int .u64 y.num, .string y.text, .slice K6 y.kids.length k6c] 54))
        replace kx := Hd.mk (kx.out.trans hxA)
        replace kN := Hd.mk (kN.out.ext hxA)
        replace kX := Hd.mk (kX.out.ext hxA)
        replace rn := Hd.mk (rn.out.ext hxA)
        replace rx := Hd.mk (rx.out.ext hxA)
        replace ra := Hd.mk (ra.out.ext hxA)
        replace rb := Hd.mk (rb.out.ext hxA)
        replace k1 := Hd.mk (k1.out.ext hxA)
        replace r1 := Hd.mk (r1.out.ext hxA)
        replace k2 := Hd.mk (k2.out.ext hxA)
        replace r2 := Hd.mk (r2.out.ext hxA)
        replace k3 := Hd.mk (k3.out.ext hxA)
        replace r3 := Hd.mk (r3.out.ext hxA)
        have k6 := Hd.mk (Blk.new w8 #[.string y.name, .string y.key, .int .i64 y.kind, .int .u64 y.num, .string y.text, .slice K6 y.kids.length k6c] 54)
        replace hr9 := Hd.mk (hr9.ext (Ext.alloc w8 (.cells #[.string y.name, .string y.key, .int .i64 y.kind, .int .u64 y.num, .string y.text, .slice K6 y.kids.length k6c] 54)))
        clear hx hxA
        have gk1 := k1.out.cell
        have gk6 := k6.out.cell
        go_wp2_with fail
        clear gk1 gk6
        generalize w8.heap.size = p6 at *
        generalize w8.alloc _ = W8 at *
        have r6 := hr9
        clear hr9
        refine Calls.mono (hSy.out _ _ _ r1.out r6.out) ?_
        rintro e w9 ⟨rfl, hx⟩
        replace kx := Hd.mk (kx.out.trans hx)
        replace kN := Hd.mk (kN.out.ext hx)
        replace kX := Hd.mk (kX.out.ext hx)
        replace rn := Hd.mk (rn.out.ext hx)
        replace rx := Hd.mk (rx.out.ext hx)
        replace ra := Hd.mk (ra.out.ext hx)
        replace rb := Hd.mk (rb.out.ext hx)
        replace k1 := Hd.mk (k1.out.ext hx)
        replace r1 := Hd.mk (r1.out.ext hx)
        replace k2 := Hd.mk (k2.out.ext hx)
        replace r2 := Hd.mk (r2.out.ext hx)
        replace k3 := Hd.mk (k3.out.ext hx)
        replace r3 := Hd.mk (r3.out.ext hx)
        replace k6 := Hd.mk (k6.out.ext hx)
        replace r6 := Hd.mk (r6.out.ext hx)
        clear hx
        go_wp2_with fail
        go_ret
        exact ⟨rfl, kx.out⟩
      replace hrc := Decidable.of_not_not hrc
      subst hrc
      have hgm := hO1.out rfl
      replace hgm := Hd.mk hgm
      have gk2 := k2.out.cell
      go_wp2_with fail
      generalize w7.heap.size = p3 at *
      generalize w7.alloc _ = W7 at *
      clear gk2
      refine Calls.mono (hGb.out m hgm.out _ _ r2.out rb.out) ?_
      rintro e w8 ⟨_, rfl, c9, rfl, hr9, hx⟩
      obtain ⟨K5, k5c, rfl, _⟩ := hr9.row
      simp only [cT] at hr9 ⊢
      have hxA := hx.trans (Ext.alloc w8 (.cells #[.string y.name, .string y.key, .int .i64 y.kind, .int .u64 y.num, .string y.text, .slice K5 y.kids.length k5c] 54))
      replace kx := Hd.mk (kx.out.trans hxA)
      replace kN := Hd.mk (kN.out.ext hxA)
      replace kX := Hd.mk (kX.out.ext hxA)
      replace rn := Hd.mk (rn.out.ext hxA)
      replace rx := Hd.mk (rx.out.ext hxA)
      replace ra := Hd.mk (ra.out.ext hxA)
      replace rb := Hd.mk (rb.out.ext hxA)
      replace k1 := Hd.mk (k1.out.ext hxA)
      replace r1 := Hd.mk (r1.out.ext hxA)
      replace k2 := Hd.mk (k2.out.ext hxA)
      replace r2 := Hd.mk (r2.out.ext hxA)
      replace k3 := Hd.mk (k3.out.ext hxA)
      replace r3 := Hd.mk (r3.out.ext hxA)
      have k5 := Hd.mk (Blk.new w8 #[.string y.name, .string y.key, .int .i64 y.kind, .int .u64 y.num, .string y.text, .slice K5 y.kids.length k5c] 54)
      replace hr9 := Hd.mk (hr9.ext (Ext.alloc w8 (.cells #[.string y.name, .string y.key, .int .i64 y.kind, .int .u64 y.num, .string y.text, .slice K5 y.kids.length k5c] 54)))
      clear hx hxA
      have gk1 := k1.out.cell
      have gk5 := k5.out.cell
      go_wp2_with fail
      clear gk1 gk5
      generalize w8.heap.size = p5 at *
      generalize w8.alloc _ = W8 at *
      have r5 := hr9
      clear hr9
      refine Calls.mono (hSy.out _ _ _ r1.out r5.out) ?_
      rintro e w9 ⟨rfl, hx⟩
      replace kx := Hd.mk (kx.out.trans hx)
      replace kN := Hd.mk (kN.out.ext hx)
      replace kX := Hd.mk (kX.out.ext hx)
      replace rn := Hd.mk (rn.out.ext hx)
      replace rx := Hd.mk (rx.out.ext hx)
      replace ra := Hd.mk (ra.out.ext hx)
      replace rb := Hd.mk (rb.out.ext hx)
      replace k1 := Hd.mk (k1.out.ext hx)
      replace r1 := Hd.mk (r1.out.ext hx)
      replace k2 := Hd.mk (k2.out.ext hx)
      replace r2 := Hd.mk (r2.out.ext hx)
      replace k3 := Hd.mk (k3.out.ext hx)
      replace r3 := Hd.mk (r3.out.ext hx)
      replace k5 := Hd.mk (k5.out.ext hx)
      replace r5 := Hd.mk (r5.out.ext hx)
      clear hx
      by_cases hrf : rf ≠ 0
      · have hrf1 : (rf == 0) = false := by simpa using hrf
        go_wp2_with fail
        go_ret
        exact ⟨rfl, kx.out⟩
      replace hrf := Decidable.of_not_not hrf
      subst hrf
      have hgk := hO2.out rfl
      replace hgk := Hd.mk hgk
      have gk3 := k3.out.cell
      go_wp2_with fail
      clear gk3
      refine Calls.mono (hGb.out kk hgk.out _ _ r3.out rb.out) ?_
      rintro e w10 ⟨_, rfl, c9, rfl, hr9, hx⟩
      obtain ⟨K6, k6c, rfl, _⟩ := hr9.row
      simp only [cT] at hr9 ⊢
      have hxA := hx.trans (Ext.alloc w10 (.cells #[.string y.name, .string y.key, .int .i64 y.kind, .int .u64 y.num, .string y.text, .slice K6 y.kids.length k6c] 54))
      replace kx := Hd.mk (kx.out.trans hxA)
      replace kN := Hd.mk (kN.out.ext hxA)
      replace kX := Hd.mk (kX.out.ext hxA)
      replace rn := Hd.mk (rn.out.ext hxA)
      replace rx := Hd.mk (rx.out.ext hxA)
      replace ra := Hd.mk (ra.out.ext hxA)
      replace rb := Hd.mk (rb.out.ext hxA)
      replace k1 := Hd.mk (k1.out.ext hxA)
      replace r1 := Hd.mk (r1.out.ext hxA)
      replace k2 := Hd.mk (k2.out.ext hxA)
      replace r2 := Hd.mk (r2.out.ext hxA)
      replace k3 := Hd.mk (k3.out.ext hxA)
      replace r3 := Hd.mk (r3.out.ext hxA)
      replace k5 := Hd.mk (k5.out.ext hxA)
      replace r5 := Hd.mk (r5.out.ext hxA)
      have k6 := Hd.mk (Blk.new w10 #[.string y.name, .string y.key, .int .i64 y.kind, .int .u64 y.num, .string y.text, .slice K6 y.kids.length k6c] 54)
      replace hr9 := Hd.mk (hr9.ext (Ext.alloc w10 (.cells #[.string y.name, .string y.key, .int .i64 y.kind, .int .u64 y.num, .string y.text, .slice K6 y.kids.length k6c] 54)))
      clear hx hxA
      have gk1 := k1.out.cell
      have gk6 := k6.out.cell
      go_wp2_with fail
      clear gk1 gk6
      generalize w10.heap.size = p6 at *
      generalize w10.alloc _ = W10 at *
      have r6 := hr9
      clear hr9
      refine Calls.mono (hSy.out _ _ _ r1.out r6.out) ?_
      rintro e w11 ⟨rfl, hx⟩
      replace kx := Hd.mk (kx.out.trans hx)
      replace kN := Hd.mk (kN.out.ext hx)
      replace kX := Hd.mk (kX.out.ext hx)
      replace rn := Hd.mk (rn.out.ext hx)
      replace rx := Hd.mk (rx.out.ext hx)
      replace ra := Hd.mk (ra.out.ext hx)
      replace rb := Hd.mk (rb.out.ext hx)
      replace k1 := Hd.mk (k1.out.ext hx)
      replace r1 := Hd.mk (r1.out.ext hx)
      replace k2 := Hd.mk (k2.out.ext hx)
      replace r2 := Hd.mk (r2.out.ext hx)
      replace k3 := Hd.mk (k3.out.ext hx)
      replace r3 := Hd.mk (r3.out.ext hx)
      replace k5 := Hd.mk (k5.out.ext hx)
      replace r5 := Hd.mk (r5.out.ext hx)
      replace k6 := Hd.mk (k6.out.ext hx)
      replace r6 := Hd.mk (r6.out.ext hx)
      clear hx
      go_wp2_with fail
      go_ret
      exact ⟨rfl, kx.out⟩
  | false =>
    by_cases h1 : i < a.length
    · have h1i : (i : Int) < (a.length : Int) := by omega
      by_cases h2 : i < b.length
      · have h2i : (i : Int) < (b.length : Int) := by omega
        have ea := List.getElem?_eq_getElem h1
        have eb := List.getElem?_eq_getElem h2
        generalize a[i] = sa at ea
        generalize b[i] = sb at eb
        obtain ⟨ba, oa, rfl, ca⟩ := wrow_step ra.out ea
        obtain ⟨bb, ob, rfl, cb⟩ := wrow_step rb.out eb
        have hpd := Hd.mk (parts_drop ea eb)
        replace ca := Hd.mk ca
        replace cb := Hd.mk cb
        clear ea eb
        have sN := str_eq sa.1 sb.1
        have sK := str_eq sa.2 sb.2
        go_wp2_with fail
        by_cases hst : sa = sb
        · subst hst
          clear sN sK
          refine Flow.wp_region_flow_l (fun qq => match qq with
            | 83 => SP.eq (.slice (some ⟨ba, oa, none⟩) a.length a1)
            | 84 => SP.eq (.int .i64 (i : Nat))
            | 85 => SP.eq (.pointer (some ⟨ba, oa + i * 2, none⟩))
            | 86 => SP.eq (.agg #[.string sa.1, .string sa.2])
            | 87 => SP.eq (.slice (some ⟨bb, ob, none⟩) b.length a2)
            | 88 => SP.eq (.int .i64 (i : Nat))
            | 89 => SP.eq (.pointer (some ⟨bb, ob + i * 2, none⟩))
            | 90 => SP.eq (.agg #[.string sa.1, .string sa.2])
            | 91 => SP.eq (.bool false)
            | _ => SP.any) 9 (by kernel_rfl) 147 rfl (by kernel_rfl) ?_ ?_
          · skip
            refine ⟨?_, ?_, ?_, ?_, ?_, ?_, ?_, ?_, ?_, trivial⟩
            · intro act W2 hk
              refine Flow.does_intro rfl (fun Kq hK => ?_)
              have e10 : act.tmps[10]?.getD undef = .slice (some ⟨ba, oa, none⟩) a.length a1 := hk.o 10 (by kernel_rfl)
              clear hk
              go_simp
              exact hK _ _ (Ext.refl _) (fun d hd => by cases hd; rfl)
            · intro act W2 hk
              refine Flow.does_intro rfl (fun Kq hK => ?_)
              have e13 : act.tmps[13]?.getD undef = .int .i64 (i : Nat) := hk.o 13 (by kernel_rfl)
              clear hk
              go_simp
              exact hK _ _ (Ext.refl _) (fun d hd => by cases hd; rfl)
            · intro act W2 hk
              refine Flow.does_intro rfl (fun Kq hK => ?_)
              have e83 : act.tmps[83]?.getD undef = .slice (some ⟨ba, oa, none⟩) a.length a1 := hk.v 83 (by kernel_rfl)
              have e84 : act.tmps[84]?.getD undef = .int .i64 (i : Nat) := hk.v 84 (by kernel_rfl)
              clear hk
              go_simp
              exact hK _ _ (Ext.refl _) (fun d hd => by cases hd; rfl)
            · intro act W2 hk
              refine Flow.does_intro rfl (fun Kq hK => ?_)
              have e85 : act.tmps[85]?.getD undef = .pointer (some ⟨ba, oa + i * 2, none⟩) := hk.v 85 (by kernel_rfl)
              have g0 := Ext.cell ((Ext.drew V0).trans hk.ext) ((ca.out) 0 _ rfl)
              rw [Nat.add_zero] at g0
              have g1 := Ext.cell ((Ext.drew V0).trans hk.ext) ((ca.out) 1 _ rfl)
              clear hk
              go_simp
              exact hK _ _ (Ext.refl _) (fun d hd => by cases hd; rfl)
            · intro act W2 hk
              refine Flow.does_intro rfl (fun Kq hK => ?_)
              have e11 : act.tmps[11]?.getD undef = .slice (some ⟨bb, ob, none⟩) b.length a2 := hk.o 11 (by kernel_rfl)
              clear hk
              go_simp
              exact hK _ _ (Ext.refl _) (fun d hd => by cases hd; rfl)
            · intro act W2 hk
              refine Flow.does_intro rfl (fun Kq hK => ?_)
              have e13 : act.tmps[13]?.getD undef = .int .i64 (i : Nat) := hk.o 13 (by kernel_rfl)
              clear hk
              go_simp
              exact hK _ _ (Ext.refl _) (fun d hd => by cases hd; rfl)
            · intro act W2 hk
              refine Flow.does_intro rfl (fun Kq hK => ?_)
              have e87 : act.tmps[87]?.getD undef = .slice (some ⟨bb, ob, none⟩) b.length a2 := hk.v 87 (by kernel_rfl)
              have e88 : act.tmps[88]?.getD undef = .int .i64 (i : Nat) := hk.v 88 (by kernel_rfl)
              clear hk
              go_simp
              exact hK _ _ (Ext.refl _) (fun d hd => by cases hd; rfl)
            · intro act W2 hk
              refine Flow.does_intro rfl (fun Kq hK => ?_)
              have e89 : act.tmps[89]?.getD undef = .pointer (some ⟨bb, ob + i * 2, none⟩) := hk.v 89 (by kernel_rfl)
              have g0 := Ext.cell ((Ext.drew V0).trans hk.ext) ((cb.out) 0 _ rfl)
              rw [Nat.add_zero] at g0
              have g1 := Ext.cell ((Ext.drew V0).trans hk.ext) ((cb.out) 1 _ rfl)
              clear hk
              go_simp
              exact hK _ _ (Ext.refl _) (fun d hd => by cases hd; rfl)
            · intro act W2 hk
              refine Flow.does_intro rfl (fun Kq hK => ?_)
              have e86 : act.tmps[86]?.getD undef = .agg #[.string sa.1, .string sa.2] := hk.v 86 (by kernel_rfl)
              have e90 : act.tmps[90]?.getD undef = .agg #[.string sa.1, .string sa.2] := hk.v 90 (by kernel_rfl)
              clear hk
              go_simp
              exact hK _ _ (Ext.refl _) (fun d hd => by cases hd; rfl)
          · intro act W2 he
            have hxW2 := Hd.mk ((Ext.drew V0).trans he.ext)
            obtain ⟨us, hA, hF⟩ := he.out [83, 84, 85, 86, 87, 88, 89, 90, 91] (by kernel_rfl)
            simp only [Flow.fillL, List.contains_cons, List.contains_nil, Nat.reduceBEq, Bool.or_false, Bool.false_or, Bool.or_true, Bool.true_or, ↓reduceIte, Nat.reduceAdd, Bool.false_eq_true] at hA
            subst hA
            have f91 : us 91 = .bool false := hF 91 (by simp)
            clear hF he
            rw [f91]
            clear f91
            refine (show wpList _ _ _ (⟨some 12, .assign (.tmp 91), _, _, _, none⟩ :: _) _ _ from ?_)
            go_wp2_with fail
            go_roundg (a.length + 1 - (i + 1))
            case measure => have := hq.out; omega
            case rel => exact ⟨i + 1, false, ⟨rfl⟩, by omega, by go_num, rfl, ⟨by rw [hI.out, hpd.out]; simp ⟩, ⟨kxr.out.trans hxW2.out⟩⟩
        · have hv := Hd.mk (not2 (n := sa.1) (n' := sb.1) (k := sa.2) (k' := sb.2) (fun h => hst (Prod.ext h.1 h.2)))
          clear sN sK
          refine Flow.wp_region_flow_l (fun qq => match qq with
            | 83 => SP.eq (.slice (some ⟨ba, oa, none⟩) a.length a1)
            | 84 => SP.eq (.int .i64 (i : Nat))
            | 85 => SP.eq (.pointer (some ⟨ba, oa + i * 2, none⟩))
            | 86 => SP.eq (.agg #[.string sa.1, .string sa.2])
            | 87 => SP.eq (.slice (some ⟨bb, ob, none⟩) b.length a2)
            | 88 => SP.eq (.int .i64 (i : Nat))
            | 89 => SP.eq (.pointer (some ⟨bb, ob + i * 2, none⟩))
            | 90 => SP.eq (.agg #[.string sb.1, .string sb.2])
            | 91 => SP.eq (.bool true)
            | _ => SP.any) 9 (by kernel_rfl) 147 rfl (by kernel_rfl) ?_ ?_
          · skip
            refine ⟨?_, ?_, ?_, ?_, ?_, ?_, ?_, ?_, ?_, trivial⟩
            · intro act W2 hk
              refine Flow.does_intro rfl (fun Kq hK => ?_)
              have e10 : act.tmps[10]?.getD undef = .slice (some ⟨ba, oa, none⟩) a.length a1 := hk.o 10 (by kernel_rfl)
              clear hk
              go_simp
              exact hK _ _ (Ext.refl _) (fun d hd => by cases hd; rfl)
            · intro act W2 hk
              refine Flow.does_intro rfl (fun Kq hK => ?_)
              have e13 : act.tmps[13]?.getD undef = .int .i64 (i : Nat) := hk.o 13 (by kernel_rfl)
              clear hk
              go_simp
              exact hK _ _ (Ext.refl _) (fun d hd => by cases hd; rfl)
            · intro act W2 hk
              refine Flow.does_intro rfl (fun Kq hK => ?_)
              have e83 : act.tmps[83]?.getD undef = .slice (some ⟨ba, oa, none⟩) a.length a1 := hk.v 83 (by kernel_rfl)
              have e84 : act.tmps[84]?.getD undef = .int .i64 (i : Nat) := hk.v 84 (by kernel_rfl)
              clear hk
              go_simp
              exact hK _ _ (Ext.refl _) (fun d hd => by cases hd; rfl)
            · intro act W2 hk
              refine Flow.does_intro rfl (fun Kq hK => ?_)
              have e85 : act.tmps[85]?.getD undef = .pointer (some ⟨ba, oa + i * 2, none⟩) := hk.v 85 (by kernel_rfl)
              have g0 := Ext.cell ((Ext.drew V0).trans hk.ext) ((ca.out) 0 _ rfl)
              rw [Nat.add_zero] at g0
              have g1 := Ext.cell ((Ext.drew V0).trans hk.ext) ((ca.out) 1 _ rfl)
              clear hk
              go_simp
              exact hK _ _ (Ext.refl _) (fun d hd => by cases hd; rfl)
            · intro act W2 hk
              refine Flow.does_intro rfl (fun Kq hK => ?_)
              have e11 : act.tmps[11]?.getD undef = .slice (some ⟨bb, ob, none⟩) b.length a2 := hk.o 11 (by kernel_rfl)
              clear hk
              go_simp
              exact hK _ _ (Ext.refl _) (fun d hd => by cases hd; rfl)
            · intro act W2 hk
              refine Flow.does_intro rfl (fun Kq hK => ?_)
              have e13 : act.tmps[13]?.getD undef = .int .i64 (i : Nat) := hk.o 13 (by kernel_rfl)
              clear hk
              go_simp
              exact hK _ _ (Ext.refl _) (fun d hd => by cases hd; rfl)
            · intro act W2 hk
              refine Flow.does_intro rfl (fun Kq hK => ?_)
              have e87 : act.tmps[87]?.getD undef = .slice (some ⟨bb, ob, none⟩) b.length a2 := hk.v 87 (by kernel_rfl)
              have e88 : act.tmps[88]?.getD undef = .int .i64 (i : Nat) := hk.v 88 (by kernel_rfl)
              clear hk
              go_simp
              exact hK _ _ (Ext.refl _) (fun d hd => by cases hd; rfl)
            · intro act W2 hk
              refine Flow.does_intro rfl (fun Kq hK => ?_)
              have e89 : act.tmps[89]?.getD undef = .pointer (some ⟨bb, ob + i * 2, none⟩) := hk.v 89 (by kernel_rfl)
              have g0 := Ext.cell ((Ext.drew V0).trans hk.ext) ((cb.out) 0 _ rfl)
              rw [Nat.add_zero] at g0
              have g1 := Ext.cell ((Ext.drew V0).trans hk.ext) ((cb.out) 1 _ rfl)
              clear hk
              go_simp
              exact hK _ _ (Ext.refl _) (fun d hd => by cases hd; rfl)
            · intro act W2 hk
              refine Flow.does_intro rfl (fun Kq hK => ?_)
              have e86 : act.tmps[86]?.getD undef = .agg #[.string sa.1, .string sa.2] := hk.v 86 (by kernel_rfl)
              have e90 : act.tmps[90]?.getD undef = .agg #[.string sb.1, .string sb.2] := hk.v 90 (by kernel_rfl)
              clear hk
              skip
              rcases hv.out with q | ⟨q1, q⟩
              all_goals go_simp
              all_goals exact hK _ _ (Ext.refl _) (fun d hd => by cases hd; rfl)
          · intro act W2 he
            have hxW2 := Hd.mk ((Ext.drew V0).trans he.ext)
            obtain ⟨us, hA, hF⟩ := he.out [83, 84, 85, 86, 87, 88, 89, 90, 91] (by kernel_rfl)
            simp only [Flow.fillL, List.contains_cons, List.contains_nil, Nat.reduceBEq, Bool.or_false, Bool.false_or, Bool.or_true, Bool.true_or, ↓reduceIte, Nat.reduceAdd, Bool.false_eq_true] at hA
            subst hA
            have f91 : us 91 = .bool true := hF 91 (by simp)
            clear hF he
            rw [f91]
            clear f91
            refine (show wpList _ _ _ (⟨some 12, .assign (.tmp 91), _, _, _, none⟩ :: _) _ _ from ?_)
            go_wp2_with fail
            go_roundg (a.length + 1 - (i + 1))
            case measure => have := hq.out; omega
            case rel => exact ⟨i + 1, true, ⟨rfl⟩, by omega, by go_num, rfl, ⟨by rw [hI.out, hpd.out]; simp [hst]⟩, ⟨kxr.out.trans hxW2.out⟩⟩
      · have h2i : ¬ (i : Int) < (b.length : Int) := by omega
        go_wp2_with fail
        go_ret
        exact ⟨rfl, kx.out⟩
    · have h1i : ¬ (i : Int) < (a.length : Int) := by omega
      go_wp2_with fail
      go_ret
      exact ⟨rfl, kx.out⟩
end Go.Proofs.Ytgkgedjmnbjalaa
set_option linter.unusedSimpArgs false
namespace Go.Proofs.Ytgkgedjmnbjalaa
open Go.RowKit Go.ChangeShapes Go.WideShapes
variable {H : Type} {enc : TypeId × Value → H} {W : World} {base : Nat} {spare : Nat → Bool} {held : Bool}
theorem ways_open {fuel : Nat} {cs : List Value} {x : DataW H × List MemPlace} (h : DataW.trod enc Try.prog W base spare held fuel 83 cs = some x) (hx : Rows.uptoBulk x.1 ≤ 1048576) :
    ∃ (A : Option Addr) (c : Nat) (l : List (List Step)), cs = [.slice A l.length c] ∧ WsRow W A l c := by
  rcases DataW.trod_slice Try.underlying83 h with ⟨e5, rfl⟩ | ⟨a, len, cap, elems, rest, k, hk, e5, rfl, _, hlc, hcm, hel, helem, _, _⟩
  · subst e5
    exact ⟨none, 0, [], rfl, ⟨Nat.le_refl _, Nat.zero_le _, fun _ => rfl, fun i e h => by simp at h⟩⟩
  · subst hel e5
    rw [cells59] at helem
    have hx' := bulks.slice_le (elems.map (·.1)) (rest.map (·.1))
    rw [List.length_map, List.length_map] at hx'
    have hx2 := Nat.le_trans hx' hx
    have hx3 := Nat.le_trans (bulks.slice_elems (elems.map (·.1)) (rest.map (·.1))) hx
    have hsub : ∀ (i : Nat) (y : DataW H × List MemPlace), elems[i]? = some y → Rows.uptoBulk y.1 ≤ Rows.uptoBulkAll (elems.map (·.1)) := fun i y hi => bulks.part_le (List.mem_map_of_mem (List.mem_of_getElem? hi))
    have hone : ∀ (i : Nat) (y : DataW H × List MemPlace), elems[i]? = some y → ∃ (c : List Value) (v : List Step), (∃ B ac, c = [.slice B v.length ac] ∧ WRow (fun _ => True) W B v ac) ∧ (∀ q v, c[q]? = some v → W.cell? ((a.add (i * 1)).add q) = some v) := by
      intro i y hi
      have hlt := (List.getElem?_eq_some_iff.1 hi).1
      have hb := helem i hlt
      rw [hi, Option.bind_eq_some_iff] at hb
      obtain ⟨c, hc, hy⟩ := hb
      obtain ⟨_, hcl, hcc⟩ := World.cells?_some hc
      obtain ⟨B, ac, v, e1, e2⟩ := way_open hy (by have := hsub i y hi; omega)
      refine ⟨c, v, ⟨B, ac, e1, e2⟩, fun q u hv => ?_⟩
      have hq := (List.getElem?_eq_some_iff.1 hv).1
      rw [hcc q (by omega), hv]
    obtain ⟨l, hl, hrow⟩ := rows_open (P := fun (v : List Step) c => ∃ B ac, c = [.slice B v.length ac] ∧ WRow (fun _ => True) W B v ac) (by omega) (fun t c h => by obtain ⟨B, ac, rfl, _⟩ := h; rfl) hone
    refine ⟨some a, cap, l, by rw [hl], ⟨by omega, by omega, fun h => (by cases h), fun i v hi => ?_⟩⟩
    obtain ⟨b, off, c, e0, ⟨B, ac, rfl, h1⟩, h2⟩ := hrow i v hi
    refine ⟨b, off, B, ac, e0, ?_, h1⟩
    have := h2 0 _ rfl
    rw [Nat.mul_one, Nat.add_zero] at this
    exact this
end Go.Proofs.Ytgkgedjmnbjalaa
