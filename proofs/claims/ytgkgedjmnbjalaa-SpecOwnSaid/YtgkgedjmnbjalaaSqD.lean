/- SpecOwn: the walk.
   Conditions: none. -/
import Derived.Test.YtgkgedjmnbjalaaSqE
set_option linter.unusedSimpArgs false
namespace Go.Proofs.Ytgkgedjmnbjalaa
open Go.RowKit Go.Sort

set_option maxRecDepth 100000 in
set_option maxHeartbeats 8000000 in
theorem own_walk (v : Int) (l : List ByteArray) (A : Option Addr) (c : Nat) (w : World) (h : SRow w A l) :
    Calls Try.prog 6 #[.int .i64 v, .slice A l.length c] w fun e w' => e = .returned (.bool true) ∧ Ext w w' := by
  have hr := Hd.mk h
  clear h
  have hlaw := Hd.mk (own_law v l)
  generalize hsA : specAt v l = rA at hlaw
  have hsA := Hd.mk hsA
  obtain ⟨sA, eA⟩ := rA
  go_enter Try.func6, Try.ntmps6
  go_wp2_with fail
  refine (awake_yes _).mono ?_
  rintro e w0 ⟨rfl, hx0⟩
  have kx := Hd.mk hx0
  clear hx0
  by_cases h20 : l.length ≤ 20
  · go_wp2_with fail
    refine Calls.mono (at_any v l A c _ (by omega) (hr.out.ext kx.out)) ?_
    rintro e w1 ⟨_, rfl, c1, rfl, hr1, hx1⟩
    rw [hsA.out] at hr1 ⊢
    obtain ⟨NA, ncA, KA, kcA, gN, gK, rfl, hkl, hnl, hN, hNc, hK, hKc⟩ := hr1.own2
    have kk := Hd.mk (boxed (t := 27) hr1 hx1)
    have hb0 := Hd.mk (show w0.heap.size ≤ w1.heap.size from hx1.size)
    clear hr1 hx1
    simp only [cSpec]
    go_wp2_with fail
    simp only [cSpec] at kk
    have hKlt := Hd.mk (fun b (hb : gK = some b) => hK.lt hb)
    have hNlt := Hd.mk (fun b (hb : gN = some b) => hN.lt hb)
    have kN := Hd.mk (hN.ext (Ext.alloc w1 (.cells #[.string sA.name, .int .i64 sA.kind, .int .i64 sA.ty, .int .u64 sA.mn, .int .u64 sA.mx, .slice NA sA.names.length ncA, .bool sA.must, .int .i64 sA.most, .slice KA sA.kids.length kcA] 27)))
    have kK := Hd.mk (hK.ext (Ext.alloc w1 (.cells #[.string sA.name, .int .i64 sA.kind, .int .i64 sA.ty, .int .u64 sA.mn, .int .u64 sA.mx, .slice NA sA.names.length ncA, .bool sA.must, .int .i64 sA.most, .slice KA sA.kids.length kcA] 27)))
    have kKc := Hd.mk (kidc_ext (Ext.alloc w1 (.cells #[.string sA.name, .int .i64 sA.kind, .int .i64 sA.ty, .int .u64 sA.mn, .int .u64 sA.mx, .slice NA sA.names.length ncA, .bool sA.must, .int .i64 sA.most, .slice KA sA.kids.length kcA] 27)) hKc)
    have kbA := Hd.mk kk.out.1
    have krA := Hd.mk kk.out.2.1
    have kx1 := Hd.mk (kx.out.trans kk.out.2.2)
    have hb1 := Hd.mk (show w0.heap.size ≤ _ from kk.out.2.2.size)
    clear kk hN hNc hK hKc
    generalize hpA : w1.heap.size = pA at *
    generalize w1.alloc _ = W1 at *
    have hown := Hd.mk (apart_law hlaw.out)
    go_loopg [8] (sA.kids.length + 1) (fun q i wr => ∃ n : Nat, n ≤ sA.kids.length ∧ Hd (q = sA.kids.length + 1 - n) ∧ i = .int .i64 n ∧ Hd (Ext W1 wr))
    case atStart => exact ⟨0, by omega, ⟨by omega⟩, rfl, ⟨Ext.refl _⟩⟩
    case round =>
    obtain ⟨n, hn, hq, rfl, hxr⟩ := hrel
    have gA := (kbA.out.ext hxr.out).cell
    by_cases hlt : n < sA.kids.length
    · have hkn := List.getElem?_eq_getElem hlt
      generalize sA.kids[n] = kn at hkn
      have hkn := Hd.mk hkn
      obtain ⟨bK, rfl, cn0⟩ := kKc.out n kn hkn.out
      have cn := Hd.mk cn0
      clear cn0
      go_wp2_with fail
      clear gA
      go_loopg [9] (n + 1) (fun q i wr2 => ∃ m : Nat, m ≤ n ∧ Hd (q = n + 1 - m) ∧ i = .int .i64 m ∧ Hd (Ext W1 wr2))
      case atStart => exact ⟨0, by omega, ⟨by omega⟩, rfl, hxr⟩
      case round =>
        obtain ⟨m, hm, hq2, rfl, hxr2⟩ := hrel
        have gA := (kbA.out.ext hxr2.out).cell
        by_cases hlt2 : m < n
        · have hmk : m < sA.kids.length := by omega
          have hkm := List.getElem?_eq_getElem hmk
          generalize sA.kids[m] = km at hkm
          obtain ⟨bK', he, cm0⟩ := kKc.out m km hkm
          simp only [Option.some.injEq, Addr.mk.injEq, and_true] at he
          subst he
          have hd : (kn.name.toList == km.name.toList) = false := by
            rw [str_eq]
            exact decide_eq_false (hown.out n m kn km hkn.out hkm hlt2)
          go_wp2_with fail
          have k1 := cell_regrown (Ext.cell hxr2.out cn.out)
          have k2 := cell_regrown (Ext.cell hxr2.out cm0)
          have k3 := cell_regrown ((gA 8).trans rfl)
          clear gA cm0
          refine wp_region_quiet_below (by kernel_rfl) (by kernel_rfl) ?_
          repeat (quiet_step (fail))
          refine wpQuiet_nil ?_
          intro _ hw'
          obtain ⟨⟨dq, osq⟩, hw''⟩ := hw'
          subst hw''
          have hx2 := ext_regrown wr dq osq
          clear k1 k2 k3
          generalize grow (redrawn wr dq) osq = w2 at *
          have hxr3 := Hd.mk (hxr2.out.trans hx2)
          clear hx2 hxr2
          go_wp2_with fail
          go_roundg (n + 1 - (m + 1))
          case measure => have := hq2.out; omega
          case rel => exact ⟨m + 1, by omega, ⟨rfl⟩, by go_num, hxr3⟩
        · have hmn : m = n := by omega
          subst hmn
          go_wp2_with fail
          go_roundg (sA.kids.length + 1 - (m + 1))
          case measure => have := hq.out; omega
          case rel => exact ⟨m + 1, by omega, ⟨rfl⟩, by go_num, hxr2⟩
    · have hnl : n = sA.kids.length := by omega
      subst hnl
      go_wp2_with fail
      refine Calls.mono (plain_any (krA.out.ext hxr.out) _ (Ext.refl _)) ?_
      rintro e w2 ⟨_, rfl, cW, rfl, hr2, hx2⟩
      obtain ⟨NW, ncW, KW, kcW, rfl⟩ := hr2.form2
      have kk := Hd.mk (boxed (t := 33) hr2 (hxr.out.trans hx2))
      have hpW := Hd.mk (show pA < w2.heap.size from Nat.lt_of_lt_of_le kbA.out.lt (hxr.out.trans hx2).size)
      clear hr2 hx2
      simp only [cSpec]
      clear gA
      go_wp2_with fail
      simp only [cSpec] at kk
      have kbW := Hd.mk kk.out.1
      have krW := Hd.mk kk.out.2.1
      replace kbA := Hd.mk (kbA.out.ext kk.out.2.2)
      replace kx1 := Hd.mk (kx1.out.trans kk.out.2.2)
      replace kN := Hd.mk (kN.out.ext kk.out.2.2)
      replace kK := Hd.mk (kK.out.ext kk.out.2.2)
      have hb2 := Hd.mk (Nat.le_trans hb1.out kk.out.2.2.size)
      clear kk kKc hxr krA hq
      generalize w2.heap.size = pW at *
      generalize w2.alloc _ = W3 at *
      go_loopg [11] (sA.kids.length + 1) (fun q i wr => ∃ n : Nat, n ≤ sA.kids.length ∧ Hd (q = sA.kids.length + 1 - n) ∧ i = .int .i64 n ∧ Hd (Wr w0.heap.size W3 wr gK 27 (sA.kids.length * 9)))
      case atStart => exact ⟨0, by omega, ⟨by omega⟩, rfl, ⟨kK.out.start⟩⟩
      case round =>
      obtain ⟨n, hn, hq, rfl, hwr⟩ := hrel
      have kbA' := Hd.mk (hwr.out.blk kbA.out (fun e => by have := hKlt.out _ e; omega))
      have gA := kbA'.out.cell
      by_cases hlt : n < sA.kids.length
      · obtain ⟨bK, rfl, rfl⟩ := kK.out.some_ (by omega)
        obtain ⟨cs, hcs, hlen⟩ := hwr.out.cells
        obtain ⟨u0, hu0⟩ := cell_some hcs (i := n * 9) (by omega)
        obtain ⟨u3, hu3⟩ := cell_some hcs (i := n * 9 + 3) (by omega)
        have hf := hcs.free
        have hne : bK ≠ pA := by have := hKlt.out _ rfl; omega
        have hne2 : pA ≠ bK := hne.symm
        have hcs := Hd.mk hcs
        go_wp2_with fail
        go_roundg (sA.kids.length + 1 - (n + 1))
        case measure => have := hq.out; omega
        case rel => exact ⟨n + 1, by omega, ⟨rfl⟩, by go_num, ⟨hwr.out.upd ((Upd.setCell _ ⟨bK, n * 9, none⟩ _).trans (Upd.setCell _ ⟨bK, n * 9 + 3, none⟩ _)) ⟨_, (hcs.out.setCell _ _).setCell _ _, by simpa using hlen⟩⟩⟩
      · have hnl : n = sA.kids.length := by omega
        subst hnl
        go_wp2_with fail
        clear gA
        go_loopg [12] (sA.names.length + 1) (fun q i wr2 => ∃ n : Nat, n ≤ sA.names.length ∧ Hd (q = sA.names.length + 1 - n) ∧ i = .int .i64 n ∧ Hd (Wr w0.heap.size wr wr2 gN 9 sA.names.length))
        case atStart => exact ⟨0, by omega, ⟨by omega⟩, rfl, ⟨(kN.out.wr hwr.out (by decide)).start⟩⟩
        case round =>
        obtain ⟨n, hn, hq2, rfl, hwr2⟩ := hrel
        have gA := (hwr2.out.blk_ty kbA'.out (by decide)).cell
        by_cases hlt : n < sA.names.length
        · obtain ⟨bN, rfl, rfl⟩ := kN.out.some_ (by omega)
          obtain ⟨cs, hcs, hlen⟩ := hwr2.out.cells
          obtain ⟨u0, hu0⟩ := cell_some hcs (i := n) (by omega)
          have hf := hcs.free
          have hne : bN ≠ pA := by have := hNlt.out _ rfl; omega
          have hne2 : pA ≠ bN := hne.symm
          have hcs := Hd.mk hcs
          go_wp2_with fail
          go_roundg (sA.names.length + 1 - (n + 1))
          case measure => have := hq2.out; omega
          case rel => exact ⟨n + 1, by omega, ⟨rfl⟩, by go_num, ⟨hwr2.out.upd (Upd.setCell _ ⟨bN, n, none⟩ _) ⟨_, hcs.out.setCell _ _, by simpa using hlen⟩⟩⟩
        · have hnl : n = sA.names.length := by omega
          subst hnl
          have hB := Hd.mk (show Ext w wr from Below.trans kx1.out (Below.trans ((hwr.out.below hb2.out).mono kx.out.size) ((hwr2.out.below (Nat.le_trans hb2.out hwr.out.grown.size)).mono kx.out.size)))
          have kbA2 := Hd.mk (hwr2.out.blk_ty kbA'.out (by decide))
          have kbW2 := Hd.mk (hwr2.out.blk_ty (hwr.out.blk_ty kbW.out (by decide)) (by decide))
          go_wp2_with fail
          refine Calls.mono (at_any v l A c _ (by omega) (hr.out.below hB.out (Nat.le_refl _))) ?_
          rintro e w5 ⟨_, rfl, c5, rfl, hr5, hx5⟩
          rw [hsA.out] at hr5 ⊢
          obtain ⟨NB, ncB, KB, kcB, _, _, rfl, _, _, _, hNc, _, _⟩ := hr5.own2
          have kk := Hd.mk (boxed (t := 27) hr5 hx5)
          have kNc := Hd.mk (namec_ext (Ext.alloc w5 (.cells #[.string sA.name, .int .i64 sA.kind, .int .i64 sA.ty, .int .u64 sA.mn, .int .u64 sA.mx, .slice NB sA.names.length ncB, .bool sA.must, .int .i64 sA.most, .slice KB sA.kids.length kcB] 27)) hNc)
          clear hr5 hx5 hNc
          simp only [cSpec] at kk ⊢
          replace kbA2 := Hd.mk (kbA2.out.ext kk.out.2.2)
          replace kbW2 := Hd.mk (kbW2.out.ext kk.out.2.2)
          have hB2 := Hd.mk (show Ext w _ from Below.trans hB.out (kk.out.2.2.mono hB.out.size))
          have hgN := Hd.mk kN.out.none_
          clear hq hq2 gA kbA' kbA kbW kK kN hKlt hNlt
          have kbB := Hd.mk kk.out.1
          have krB := Hd.mk kk.out.2.1
          rcases hlaw.out with ⟨x', h1, h2⟩ | ⟨e', he', h2⟩
          · injection h1 with h1 h1'
            subst h1 h1'
            have hown := Hd.mk h2
            clear h2
            by_cases hnm : sA.names = []
            · have hnl0 : sA.names.length = 0 := by rw [hnm]; rfl
              have hgN0 := hgN.out hnl0
              subst hgN0
              have krW2 := Hd.mk (((hwr.out.rep krW.out).ext hwr2.out.ext).ext kk.out.2.2)
              clear kk krW hgN hwr hwr2 kNc
              simp only [hnl0] at kbA2 kbW2 kbB krB krW2 hB2
              have gW := kbW2.out.cell
              go_wp2_with fail
              generalize w5.heap.size = pB at *
              generalize w5.alloc _ = W at *
              refine Flow.wp_region_flow_l (fun t => match t with
                | 118 => SP.eq (.int .i64 0)
                | 119 => SP.eq (.int .i64 0)
                | 120 => SP.eq (.bool true)
                | 121 => SP.eq (.bool true)
                | 122 => SP.eq (.agg #[.string sA.name, .int .i64 sA.kind, .int .i64 sA.ty, .int .u64 sA.mn, .int .u64 sA.mx, .slice NB 0 ncB, .bool sA.must, .int .i64 sA.most, .slice KB sA.kids.length kcB])
                | 123 => spKid sA W.heap.size
                | 124 => SP.eq (.agg #[.string sA.name, .int .i64 sA.kind, .int .i64 sA.ty, .int .u64 sA.mn, .int .u64 sA.mx, .slice NW 0 ncW, .bool sA.must, .int .i64 sA.most, .slice KW sA.kids.length kcW])
                | 125 => SP.eq (.bool true)
                | 126 => SP.eq (.bool true)
                | 127 => SP.eq (.bool true)
                | 128 => SP.eq (.pointer (some ⟨pA, 1, none⟩))
                | 129 => SP.eq (.int .i64 sA.kind)
                | 130 => SP.eq (.bool (sA.kind == 1))
                | 131 => SP.eq (.pointer (some ⟨pA, 8, none⟩))
                | 132 => SP.eq (.slice KA sA.kids.length kcA)
                | 133 => SP.eq (.int .i64 (sA.kids.length : Nat))
                | 134 => SP.eq (.bool (((sA.kids.length : Nat) : Int) == 0))
                | 135 => SP.eq (.bool true)
                | 136 => SP.eq (.bool true)
                | 4 => SP.eq (.bool true)
                | _ => SP.any) 20 (by kernel_rfl) 137 rfl (by kernel_rfl) ?_ ?_
              · skip
                refine ⟨?_, ?_, ?_, ?_, ?_, ?_, ?_, ?_, ?_, ?_, ?_, ?_, ?_, ?_, ?_, ?_, ?_, ?_, ?_, ?_, trivial⟩
                · intro a W2 hk
                  refine Flow.does_intro rfl (fun K hK => ?_)
                  have e7 : a.tmps[7]?.getD undef = .int .i64 0 := hk.o 7 (by kernel_rfl)
                  clear hk
                  go_simp
                  exact hK _ _ (Ext.refl _) (fun d hd => by cases hd; rfl)
                · intro a W2 hk
                  refine Flow.does_intro rfl (fun K hK => ?_)
                  have e14 : a.tmps[14]?.getD undef = .int .i64 0 := hk.o 14 (by kernel_rfl)
                  clear hk
                  go_simp
                  exact hK _ _ (Ext.refl _) (fun d hd => by cases hd; rfl)
                · intro a W2 hk
                  refine Flow.does_intro rfl (fun K hK => ?_)
                  have e118 : a.tmps[118]?.getD undef = _ := hk.v 118 (by kernel_rfl)
                  have e119 : a.tmps[119]?.getD undef = _ := hk.v 119 (by kernel_rfl)
                  clear hk
                  go_simp
                  exact hK _ _ (Ext.refl _) (fun d hd => by cases hd; rfl)
                · intro a W2 hk
                  refine Flow.does_intro rfl (fun K hK => ?_)
                  have e120 : a.tmps[120]?.getD undef = _ := hk.v 120 (by kernel_rfl)
                  clear hk
                  go_simp
                  exact hK _ _ (Ext.refl _) (fun d hd => by cases hd; rfl)
                · intro a W2 hk
                  have eg : a.tmps[121]?.getD undef = .bool true := hk.v 121 (by kernel_rfl)
                  refine Flow.does_intro (wanted_yes rfl rfl eg) (fun K hK => ?_)
                  clear eg
                  have e13 : a.tmps[13]?.getD undef = .pointer (some ⟨pB, 0, none⟩) := hk.o 13 (by kernel_rfl)
                  have g := (kbB.out.ext ((Ext.drew W).trans hk.ext)).cell
                  clear hk
                  go_simp
                  exact hK _ _ (Ext.refl _) (fun d hd => by cases hd; rfl)
                · intro a W2 hk
                  have eg : a.tmps[121]?.getD undef = .bool true := hk.v 121 (by kernel_rfl)
                  refine Flow.does_intro (wanted_yes rfl rfl eg) (fun K hK => ?_)
                  clear eg
                  have e122 : a.tmps[122]?.getD undef = _ := hk.v 122 (by kernel_rfl)
                  have hx0 := Hd.mk ((Ext.drew W).trans hk.ext)
                  have hsz := hx0.out.size
                  clear hk
                  go_simp
                  refine Calls.mono (plain_any krB.out W2 hx0.out) ?_
                  rintro e W3 ⟨_, rfl, c1, rfl, hr1, hx⟩
                  exact hK _ _ hx (fun d hd => by cases hd; exact ⟨c1, W2.heap.size, W3, rfl, hsz, hr1, Ext.refl _⟩)
                · intro a W2 hk
                  have eg : a.tmps[121]?.getD undef = .bool true := hk.v 121 (by kernel_rfl)
                  refine Flow.does_intro (wanted_yes rfl rfl eg) (fun K hK => ?_)
                  clear eg
                  have e10 : a.tmps[10]?.getD undef = .pointer (some ⟨pW, 0, none⟩) := hk.o 10 (by kernel_rfl)
                  have g := (kbW2.out.ext ((Ext.drew W).trans hk.ext)).cell
                  clear hk
                  go_simp
                  exact hK _ _ (Ext.refl _) (fun d hd => by cases hd; rfl)
                · intro a W2 hk
                  have eg : a.tmps[121]?.getD undef = .bool true := hk.v 121 (by kernel_rfl)
                  refine Flow.does_intro (wanted_yes rfl rfl eg) (fun K hK => ?_)
                  clear eg
                  have e124 : a.tmps[124]?.getD undef = _ := hk.v 124 (by kernel_rfl)
                  obtain ⟨c1, b0, w3, e123, _, h2, h3⟩ := (hk.v 123 (by kernel_rfl) : (spKid _ _).p _ _)
                  have hx0 := Hd.mk ((Ext.drew W).trans hk.ext)
                  have h2' := Hd.mk h2
                  have h3' := Hd.mk h3
                  clear h2 h3
                  clear hk
                  go_simp
                  refine Calls.mono (same_any h2'.out _ W2 _ (krW2.out.ext hx0.out) h3'.out) ?_
                  rintro e W3 ⟨rfl, hx⟩
                  exact hK _ _ hx (fun d hd => by cases hd; rfl)
                · intro a W2 hk
                  refine Flow.does_intro rfl (fun K hK => ?_)
                  have e121 : a.tmps[121]?.getD undef = _ := hk.v 121 (by kernel_rfl)
                  have e125 : a.tmps[125]?.getD undef = _ := hk.v 125 (by kernel_rfl)
                  clear hk
                  go_simp
                  exact hK _ _ (Ext.refl _) (fun d hd => by cases hd; rfl)
                · intro a W2 hk
                  refine Flow.does_intro rfl (fun K hK => ?_)
                  have e126 : a.tmps[126]?.getD undef = _ := hk.v 126 (by kernel_rfl)
                  clear hk
                  go_simp
                  exact hK _ _ (Ext.refl _) (fun d hd => by cases hd; rfl)
                · intro a W2 hk
                  have eg : a.tmps[127]?.getD undef = .bool true := hk.v 127 (by kernel_rfl)
                  refine Flow.does_intro (wanted_yes rfl rfl eg) (fun K hK => ?_)
                  clear eg
                  have e6 : a.tmps[6]?.getD undef = .pointer (some ⟨pA, 0, none⟩) := hk.o 6 (by kernel_rfl)
                  clear hk
                  go_simp
                  exact hK _ _ (Ext.refl _) (fun d hd => by cases hd; rfl)
                · intro a W2 hk
                  have eg : a.tmps[127]?.getD undef = .bool true := hk.v 127 (by kernel_rfl)
                  refine Flow.does_intro (wanted_yes rfl rfl eg) (fun K hK => ?_)
                  clear eg
                  have e128 : a.tmps[128]?.getD undef = _ := hk.v 128 (by kernel_rfl)
                  have g := (kbA2.out.ext ((Ext.drew W).trans hk.ext)).cell
                  clear hk
                  go_simp
                  exact hK _ _ (Ext.refl _) (fun d hd => by cases hd; rfl)
                · intro a W2 hk
                  have eg : a.tmps[127]?.getD undef = .bool true := hk.v 127 (by kernel_rfl)
                  refine Flow.does_intro (wanted_yes rfl rfl eg) (fun K hK => ?_)
                  clear eg
                  have e129 : a.tmps[129]?.getD undef = _ := hk.v 129 (by kernel_rfl)
                  clear hk
                  go_simp
                  exact hK _ _ (Ext.refl _) (fun d hd => by cases hd; rfl)
                · intro a W2 hk
                  have eg : a.tmps[127]?.getD undef = .bool true := hk.v 127 (by kernel_rfl)
                  refine Flow.does_intro (wanted_yes rfl rfl eg) (fun K hK => ?_)
                  clear eg
                  have e6 : a.tmps[6]?.getD undef = .pointer (some ⟨pA, 0, none⟩) := hk.o 6 (by kernel_rfl)
                  clear hk
                  go_simp
                  exact hK _ _ (Ext.refl _) (fun d hd => by cases hd; rfl)
                · intro a W2 hk
                  have eg : a.tmps[127]?.getD undef = .bool true := hk.v 127 (by kernel_rfl)
                  refine Flow.does_intro (wanted_yes rfl rfl eg) (fun K hK => ?_)
                  clear eg
                  have e131 : a.tmps[131]?.getD undef = _ := hk.v 131 (by kernel_rfl)
                  have g := (kbA2.out.ext ((Ext.drew W).trans hk.ext)).cell
                  clear hk
                  go_simp
                  exact hK _ _ (Ext.refl _) (fun d hd => by cases hd; rfl)
                · intro a W2 hk
                  have eg : a.tmps[127]?.getD undef = .bool true := hk.v 127 (by kernel_rfl)
                  refine Flow.does_intro (wanted_yes rfl rfl eg) (fun K hK => ?_)
                  clear eg
                  have e132 : a.tmps[132]?.getD undef = _ := hk.v 132 (by kernel_rfl)
                  clear hk
                  go_simp
                  exact hK _ _ (Ext.refl _) (fun d hd => by cases hd; rfl)
                · intro a W2 hk
                  have eg : a.tmps[127]?.getD undef = .bool true := hk.v 127 (by kernel_rfl)
                  refine Flow.does_intro (wanted_yes rfl rfl eg) (fun K hK => ?_)
                  clear eg
                  have e133 : a.tmps[133]?.getD undef = _ := hk.v 133 (by kernel_rfl)
                  clear hk
                  go_simp
                  exact hK _ _ (Ext.refl _) (fun d hd => by cases hd; rfl)
                · intro a W2 hk
                  have eg : a.tmps[127]?.getD undef = .bool true := hk.v 127 (by kernel_rfl)
                  refine Flow.does_intro (wanted_yes rfl rfl eg) (fun K hK => ?_)
                  clear eg
                  have e130 : a.tmps[130]?.getD undef = _ := hk.v 130 (by kernel_rfl)
                  have e134 : a.tmps[134]?.getD undef = _ := hk.v 134 (by kernel_rfl)
                  clear hk
                  go_simp
                  exact hK _ _ (Ext.refl _) (fun d hd => by cases hd; simp [SP.eq, OwnP.leaf hown.out])
                · intro a W2 hk
                  refine Flow.does_intro rfl (fun K hK => ?_)
                  have e127 : a.tmps[127]?.getD undef = _ := hk.v 127 (by kernel_rfl)
                  have e135 : a.tmps[135]?.getD undef = _ := hk.v 135 (by kernel_rfl)
                  clear hk
                  go_simp
                  exact hK _ _ (Ext.refl _) (fun d hd => by cases hd; rfl)
                · intro a W2 hk
                  refine Flow.does_intro rfl (fun K hK => ?_)
                  have e136 : a.tmps[136]?.getD undef = _ := hk.v 136 (by kernel_rfl)
                  clear hk
                  go_simp
                  exact hK _ _ (Ext.refl _) (fun d hd => by cases hd; rfl)
              · intro a W2 he
                have hxW2 := Hd.mk (show Ext w W2 from Below.trans hB2.out (((Ext.drew W).trans he.ext).mono hB2.out.size))
                obtain ⟨us, hA, hF⟩ := he.out [118, 119, 120, 121, 122, 123, 124, 125, 126, 127, 128, 129, 130, 131, 132, 133, 134, 135, 136, 4] (by kernel_rfl)
                simp only [Flow.fillL, List.contains_cons, List.contains_nil, Nat.reduceBEq, Bool.or_false, Bool.false_or, Bool.or_true, Bool.true_or, ↓reduceIte, Nat.reduceAdd, Bool.false_eq_true] at hA
                subst hA
                have f6 : us 4 = .bool true := hF 4 (by simp)
                clear hF he
                rw [f6]
                clear f6
                refine (show wpList _ _ _ [] _ _ from ?_)
                go_wp2_with fail
                go_ret
                exact ⟨rfl, hxW2.out⟩
            · obtain ⟨h3, h4⟩ := OwnP.three hown.out hnm
              obtain ⟨bB, rfl, cB⟩ := kNc.out 0 _ h4
              have gW := kbW2.out.cell
              have gB := kbB.out.cell
              simp only [h3] at gW gB cB hB2
              go_wp2_with fail
              go_ret
              exact ⟨rfl, hB2.out⟩
          · injection h2 with h2 h2'
            subst h2 h2'
            have he2 : (eA != 0) = true := by simpa using he'
            have gA := kbA2.out.cell
            go_wp2_with fail
            go_ret
            exact ⟨rfl, hB2.out⟩
  · go_wp2_with fail
    go_ret
    exact ⟨rfl, kx.out⟩

end Go.Proofs.Ytgkgedjmnbjalaa
