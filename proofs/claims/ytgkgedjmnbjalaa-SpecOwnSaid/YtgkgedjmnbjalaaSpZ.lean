/- SpecTells: the walk.
   Conditions: none. -/
import Derived.Test.YtgkgedjmnbjalaaSpY
set_option linter.unusedSimpArgs false
namespace Go.Proofs.Ytgkgedjmnbjalaa
open Go.RowKit Go.Sort

theorem wanted_yes {ops : Array Oper} {o : Oper} {a : Act} {j : Nat} {t : Tmp} {b : Bool} (hg : o.guard = some (j, b)) (hd : (ops[j]?).bind (·.dst) = some t) (he : a.tmps[t]?.getD undef = .bool b) : Region.wanted o (yielded ops a.tmps) = true := by
  have h : a.tmps[t]? = some (.bool b) := by
    cases h : a.tmps[t]? with
    | none => rw [h] at he; simp [undef] at he
    | some v => rw [h] at he; simpa using he
  simp [Region.wanted, hg, yielded, hd, h]

set_option maxRecDepth 100000 in
set_option maxHeartbeats 8000000 in
theorem tells_walk (v : Int) (l : List ByteArray) (A : Option Addr) (c : Nat) (nm : ByteArray) (w : World) (h : SRow w A l) :
    Calls Try.prog 3 #[.int .i64 v, .slice A l.length c, .string nm] w fun e w' => e = .returned (.bool true) ∧ Ext w w' := by
  have hr := Hd.mk h
  clear h
  generalize hsA : specRoot v = rA
  generalize hsC : specAt v l = rC
  have hsA := Hd.mk hsA
  have hsC := Hd.mk hsC
  obtain ⟨sA, eA⟩ := rA
  obtain ⟨sC, eC⟩ := rC
  go_enter Try.func3, Try.ntmps3
  go_wp2_with fail
  refine (awake_yes _).mono ?_
  rintro e w0 ⟨rfl, hx0⟩
  have kx := Hd.mk hx0
  clear hx0
  by_cases h20 : l.length ≤ 20
  · go_wp2_with fail
    refine Calls.mono (root_any v _) ?_
    rintro e w1 ⟨_, rfl, c1, rfl, hr1, hx1⟩
    rw [hsA.out] at hr1 ⊢
    obtain ⟨kindA, tyA, mnA, mxA, NA, nlA, ncA, mustA, mostA, KA, kcA, rfl⟩ := hr1.form
    have kk := Hd.mk (boxed (t := 27) hr1 hx1)
    clear hr1 hx1
    simp only [cSpec]
    go_wp2_with fail
    have kbA := Hd.mk kk.out.1
    have krA := Hd.mk kk.out.2.1
    have hx1 := Hd.mk kk.out.2.2
    clear kk
    simp only [cSpec] at kbA krA hx1
    generalize w1.heap.size = pA at *
    generalize w1.alloc _ = w1 at *
    replace kx := Hd.mk (kx.out.trans hx1.out)
    clear hx1
    refine Calls.mono (root_ref v _) ?_
    rintro e w1 ⟨_, rfl, c1, rfl, hr1, hx1⟩
    rw [hsA.out] at hr1 ⊢
    obtain ⟨kindB, tyB, mnB, mxB, NB, nlB, ncB, mustB, mostB, KB, kcB, rfl⟩ := hr1.form
    have kk := Hd.mk (boxed (t := 33) hr1 hx1)
    clear hr1 hx1
    simp only [cSpec]
    go_wp2_with fail
    have kbB := Hd.mk kk.out.1
    have krB := Hd.mk kk.out.2.1
    have hx1 := Hd.mk kk.out.2.2
    clear kk
    simp only [cSpec] at kbB krB hx1
    generalize w1.heap.size = pB at *
    generalize w1.alloc _ = w2 at *
    replace kx := Hd.mk (kx.out.trans hx1.out)
    replace kbA := Hd.mk (kbA.out.ext hx1.out)
    replace krA := Hd.mk (krA.out.ext hx1.out)
    clear hx1
    refine Calls.mono (at_any v l A c _ (by omega) (hr.out.ext kx.out)) ?_
    rintro e w1 ⟨_, rfl, c1, rfl, hr1, hx1⟩
    rw [hsC.out] at hr1 ⊢
    obtain ⟨kindC, tyC, mnC, mxC, NC, nlC, ncC, mustC, mostC, KC, kcC, rfl⟩ := hr1.form
    have kk := Hd.mk (boxed (t := 27) hr1 hx1)
    clear hr1 hx1
    simp only [cSpec]
    go_wp2_with fail
    have kbC := Hd.mk kk.out.1
    have krC := Hd.mk kk.out.2.1
    have hx1 := Hd.mk kk.out.2.2
    clear kk
    simp only [cSpec] at kbC krC hx1
    generalize w1.heap.size = pC at *
    generalize w1.alloc _ = w3 at *
    replace kx := Hd.mk (kx.out.trans hx1.out)
    replace kbA := Hd.mk (kbA.out.ext hx1.out)
    replace krA := Hd.mk (krA.out.ext hx1.out)
    replace kbB := Hd.mk (kbB.out.ext hx1.out)
    replace krB := Hd.mk (krB.out.ext hx1.out)
    clear hx1
    refine Calls.mono (at_ref v l A c _ (by omega) (hr.out.ext kx.out)) ?_
    rintro e w1 ⟨_, rfl, c1, rfl, hr1, hx1⟩
    rw [hsC.out] at hr1 ⊢
    obtain ⟨kindD, tyD, mnD, mxD, ND, nlD, ncD, mustD, mostD, KD, kcD, rfl⟩ := hr1.form
    have kk := Hd.mk (boxed (t := 33) hr1 hx1)
    clear hr1 hx1
    simp only [cSpec]
    go_wp2_with fail
    have kbD := Hd.mk kk.out.1
    have krD := Hd.mk kk.out.2.1
    have hx1 := Hd.mk kk.out.2.2
    clear kk
    simp only [cSpec] at kbD krD hx1
    generalize w1.heap.size = pD at *
    generalize w1.alloc _ = w4 at *
    replace kx := Hd.mk (kx.out.trans hx1.out)
    replace kbA := Hd.mk (kbA.out.ext hx1.out)
    replace krA := Hd.mk (krA.out.ext hx1.out)
    replace kbB := Hd.mk (kbB.out.ext hx1.out)
    replace krB := Hd.mk (krB.out.ext hx1.out)
    replace kbC := Hd.mk (kbC.out.ext hx1.out)
    replace krC := Hd.mk (krC.out.ext hx1.out)
    clear hx1
    generalize w4 = W at *
    refine Flow.wp_region_flow_l (fun t => match t with
        | 6 => SP.eq (.bool true)
        | 44 => SP.eq (.agg #[.string sA.name, .int .i64 kindA, .int .i64 tyA, .int .u64 mnA, .int .u64 mxA, .slice NA nlA ncA, .bool mustA, .int .i64 mostA, .slice KA sA.kids.length kcA])
        | 45 => spKid sA W.heap.size
        | 46 => SP.eq (.agg #[.string sA.name, .int .i64 kindB, .int .i64 tyB, .int .u64 mnB, .int .u64 mxB, .slice NB nlB ncB, .bool mustB, .int .i64 mostB, .slice KB sA.kids.length kcB])
        | 47 => SP.eq (.bool true)
        | 48 => SP.eq (.bool true)
        | 49 => SP.eq (.int .i64 eA)
        | 50 => SP.eq (.int .i64 eA)
        | 51 => SP.eq (.bool true)
        | 52 => SP.eq (.bool true)
        | 53 => SP.eq (.bool true)
        | 54 => SP.eq (.agg #[.string sC.name, .int .i64 kindC, .int .i64 tyC, .int .u64 mnC, .int .u64 mxC, .slice NC nlC ncC, .bool mustC, .int .i64 mostC, .slice KC sC.kids.length kcC])
        | 55 => spKid sC W.heap.size
        | 56 => SP.eq (.agg #[.string sC.name, .int .i64 kindD, .int .i64 tyD, .int .u64 mnD, .int .u64 mxD, .slice ND nlD ncD, .bool mustD, .int .i64 mostD, .slice KD sC.kids.length kcD])
        | 57 => SP.eq (.bool true)
        | 58 => SP.eq (.bool true)
        | 59 => SP.eq (.bool true)
        | 60 => SP.eq (.int .i64 eC)
        | 61 => SP.eq (.int .i64 eC)
        | 62 => SP.eq (.bool true)
        | 63 => SP.eq (.bool true)
        | 64 => SP.eq (.bool true)
        | 65 => SP.eq (.agg #[.string sA.name, .int .i64 kindA, .int .i64 tyA, .int .u64 mnA, .int .u64 mxA, .slice NA nlA ncA, .bool mustA, .int .i64 mostA, .slice KA sA.kids.length kcA])
        | 66 => SP.eq (.string nm)
        | 67 => SP.eq (.int .i64 (findSp nm sA))
        | 68 => SP.eq (.agg #[.string sA.name, .int .i64 kindB, .int .i64 tyB, .int .u64 mnB, .int .u64 mxB, .slice NB nlB ncB, .bool mustB, .int .i64 mostB, .slice KB sA.kids.length kcB])
        | 69 => SP.eq (.string nm)
        | 70 => SP.eq (.int .i64 (findSp nm sA))
        | 71 => SP.eq (.bool true)
        | 72 => SP.eq (.bool true)
        | 73 => SP.eq (.bool true)
        | 74 => SP.eq (.agg #[.string sC.name, .int .i64 kindC, .int .i64 tyC, .int .u64 mnC, .int .u64 mxC, .slice NC nlC ncC, .bool mustC, .int .i64 mostC, .slice KC sC.kids.length kcC])
        | 75 => SP.eq (.string nm)
        | 76 => SP.eq (.int .i64 (findSp nm sC))
        | 77 => SP.eq (.agg #[.string sC.name, .int .i64 kindD, .int .i64 tyD, .int .u64 mnD, .int .u64 mxD, .slice ND nlD ncD, .bool mustD, .int .i64 mostD, .slice KD sC.kids.length kcD])
        | 78 => SP.eq (.string nm)
        | 79 => SP.eq (.int .i64 (findSp nm sC))
        | 80 => SP.eq (.bool true)
        | 81 => SP.eq (.bool true)
        | _ => SP.any) 39 (by kernel_rfl) 82 rfl (by kernel_rfl) ?_ ?_
    · skip
      refine ⟨?_, ?_, ?_, ?_, ?_, ?_, ?_, ?_, ?_, ?_, ?_, ?_, ?_, ?_, ?_, ?_, ?_, ?_, ?_, ?_, ?_, ?_, ?_, ?_, ?_, ?_, ?_, ?_, ?_, ?_, ?_, ?_, ?_, ?_, ?_, ?_, ?_, ?_, ?_, trivial⟩
      · intro a W2 hk
        refine Flow.does_intro rfl (fun K hK => ?_)
        have e8 : a.tmps[8]?.getD undef = .pointer (some ⟨pA, 0, none⟩) := hk.o 8 (by kernel_rfl)
        have g := (kbA.out.ext ((Ext.drew W).trans hk.ext)).cell
        clear hk
        go_simp
        exact hK _ _ (Ext.refl _) (fun d hd => by cases hd; rfl)
      · intro a W2 hk
        refine Flow.does_intro rfl (fun K hK => ?_)
        have e44 : a.tmps[44]?.getD undef = _ := hk.v 44 (by kernel_rfl)
        have hx0 := Hd.mk ((Ext.drew W).trans hk.ext)
        have hsz := hx0.out.size
        clear hk
        go_simp
        refine Calls.mono (plain_any krA.out W2 hx0.out) ?_
        rintro e W3 ⟨_, rfl, c1, rfl, hr1, hx⟩
        exact hK _ _ hx (fun d hd => by cases hd; exact ⟨c1, W2.heap.size, W3, rfl, hsz, hr1, Ext.refl _⟩)
      · intro a W2 hk
        refine Flow.does_intro rfl (fun K hK => ?_)
        have e10 : a.tmps[10]?.getD undef = .pointer (some ⟨pB, 0, none⟩) := hk.o 10 (by kernel_rfl)
        have g := (kbB.out.ext ((Ext.drew W).trans hk.ext)).cell
        clear hk
        go_simp
        exact hK _ _ (Ext.refl _) (fun d hd => by cases hd; rfl)
      · intro a W2 hk
        refine Flow.does_intro rfl (fun K hK => ?_)
        have e46 : a.tmps[46]?.getD undef = _ := hk.v 46 (by kernel_rfl)
        obtain ⟨c1, b0, w3, e45, _, h2, h3⟩ := (hk.v 45 (by kernel_rfl) : (spKid _ _).p _ _)
        have hx0 := Hd.mk ((Ext.drew W).trans hk.ext)
        have h2' := Hd.mk h2
        have h3' := Hd.mk h3
        clear h2 h3
        clear hk
        go_simp
        refine Calls.mono (same_any h2'.out _ W2 _ (krB.out.ext hx0.out) h3'.out) ?_
        rintro e W3 ⟨rfl, hx⟩
        exact hK _ _ hx (fun d hd => by cases hd; rfl)
      · intro a W2 hk
        refine Flow.does_intro rfl (fun K hK => ?_)
        have e47 : a.tmps[47]?.getD undef = _ := hk.v 47 (by kernel_rfl)
        clear hk
        go_simp
        exact hK _ _ (Ext.refl _) (fun d hd => by cases hd; rfl)
      · intro a W2 hk
        have eg : a.tmps[48]?.getD undef = .bool true := hk.v 48 (by kernel_rfl)
        refine Flow.does_intro (wanted_yes rfl rfl eg) (fun K hK => ?_)
        clear eg
        have e9 : a.tmps[9]?.getD undef = .int .i64 eA := hk.o 9 (by kernel_rfl)
        clear hk
        go_simp
        exact hK _ _ (Ext.refl _) (fun d hd => by cases hd; rfl)
      · intro a W2 hk
        have eg : a.tmps[48]?.getD undef = .bool true := hk.v 48 (by kernel_rfl)
        refine Flow.does_intro (wanted_yes rfl rfl eg) (fun K hK => ?_)
        clear eg
        have e11 : a.tmps[11]?.getD undef = .int .i64 eA := hk.o 11 (by kernel_rfl)
        clear hk
        go_simp
        exact hK _ _ (Ext.refl _) (fun d hd => by cases hd; rfl)
      · intro a W2 hk
        have eg : a.tmps[48]?.getD undef = .bool true := hk.v 48 (by kernel_rfl)
        refine Flow.does_intro (wanted_yes rfl rfl eg) (fun K hK => ?_)
        clear eg
        have e49 : a.tmps[49]?.getD undef = _ := hk.v 49 (by kernel_rfl)
        have e50 : a.tmps[50]?.getD undef = _ := hk.v 50 (by kernel_rfl)
        clear hk
        go_simp
        exact hK _ _ (Ext.refl _) (fun d hd => by cases hd; rfl)
      · intro a W2 hk
        refine Flow.does_intro rfl (fun K hK => ?_)
        have e48 : a.tmps[48]?.getD undef = _ := hk.v 48 (by kernel_rfl)
        have e51 : a.tmps[51]?.getD undef = _ := hk.v 51 (by kernel_rfl)
        clear hk
        go_simp
        exact hK _ _ (Ext.refl _) (fun d hd => by cases hd; rfl)
      · intro a W2 hk
        refine Flow.does_intro rfl (fun K hK => ?_)
        have e52 : a.tmps[52]?.getD undef = _ := hk.v 52 (by kernel_rfl)
        clear hk
        go_simp
        exact hK _ _ (Ext.refl _) (fun d hd => by cases hd; rfl)
      · intro a W2 hk
        have eg : a.tmps[53]?.getD undef = .bool true := hk.v 53 (by kernel_rfl)
        refine Flow.does_intro (wanted_yes rfl rfl eg) (fun K hK => ?_)
        clear eg
        have e12 : a.tmps[12]?.getD undef = .pointer (some ⟨pC, 0, none⟩) := hk.o 12 (by kernel_rfl)
        have g := (kbC.out.ext ((Ext.drew W).trans hk.ext)).cell
        clear hk
        go_simp
        exact hK _ _ (Ext.refl _) (fun d hd => by cases hd; rfl)
      · intro a W2 hk
        have eg : a.tmps[53]?.getD undef = .bool true := hk.v 53 (by kernel_rfl)
        refine Flow.does_intro (wanted_yes rfl rfl eg) (fun K hK => ?_)
        clear eg
        have e54 : a.tmps[54]?.getD undef = _ := hk.v 54 (by kernel_rfl)
        have hx0 := Hd.mk ((Ext.drew W).trans hk.ext)
        have hsz := hx0.out.size
        clear hk
        go_simp
        refine Calls.mono (plain_any krC.out W2 hx0.out) ?_
        rintro e W3 ⟨_, rfl, c1, rfl, hr1, hx⟩
        exact hK _ _ hx (fun d hd => by cases hd; exact ⟨c1, W2.heap.size, W3, rfl, hsz, hr1, Ext.refl _⟩)
      · intro a W2 hk
        have eg : a.tmps[53]?.getD undef = .bool true := hk.v 53 (by kernel_rfl)
        refine Flow.does_intro (wanted_yes rfl rfl eg) (fun K hK => ?_)
        clear eg
        have e14 : a.tmps[14]?.getD undef = .pointer (some ⟨pD, 0, none⟩) := hk.o 14 (by kernel_rfl)
        have g := (kbD.out.ext ((Ext.drew W).trans hk.ext)).cell
        clear hk
        go_simp
        exact hK _ _ (Ext.refl _) (fun d hd => by cases hd; rfl)
      · intro a W2 hk
        have eg : a.tmps[53]?.getD undef = .bool true := hk.v 53 (by kernel_rfl)
        refine Flow.does_intro (wanted_yes rfl rfl eg) (fun K hK => ?_)
        clear eg
        have e56 : a.tmps[56]?.getD undef = _ := hk.v 56 (by kernel_rfl)
        obtain ⟨c1, b0, w3, e55, _, h2, h3⟩ := (hk.v 55 (by kernel_rfl) : (spKid _ _).p _ _)
        have hx0 := Hd.mk ((Ext.drew W).trans hk.ext)
        have h2' := Hd.mk h2
        have h3' := Hd.mk h3
        clear h2 h3
        clear hk
        go_simp
        refine Calls.mono (same_any h2'.out _ W2 _ (krD.out.ext hx0.out) h3'.out) ?_
        rintro e W3 ⟨rfl, hx⟩
        exact hK _ _ hx (fun d hd => by cases hd; rfl)
      · intro a W2 hk
        refine Flow.does_intro rfl (fun K hK => ?_)
        have e53 : a.tmps[53]?.getD undef = _ := hk.v 53 (by kernel_rfl)
        have e57 : a.tmps[57]?.getD undef = _ := hk.v 57 (by kernel_rfl)
        clear hk
        go_simp
        exact hK _ _ (Ext.refl _) (fun d hd => by cases hd; rfl)
      · intro a W2 hk
        refine Flow.does_intro rfl (fun K hK => ?_)
        have e58 : a.tmps[58]?.getD undef = _ := hk.v 58 (by kernel_rfl)
        clear hk
        go_simp
        exact hK _ _ (Ext.refl _) (fun d hd => by cases hd; rfl)
      · intro a W2 hk
        have eg : a.tmps[59]?.getD undef = .bool true := hk.v 59 (by kernel_rfl)
        refine Flow.does_intro (wanted_yes rfl rfl eg) (fun K hK => ?_)
        clear eg
        have e13 : a.tmps[13]?.getD undef = .int .i64 eC := hk.o 13 (by kernel_rfl)
        clear hk
        go_simp
        exact hK _ _ (Ext.refl _) (fun d hd => by cases hd; rfl)
      · intro a W2 hk
        have eg : a.tmps[59]?.getD undef = .bool true := hk.v 59 (by kernel_rfl)
        refine Flow.does_intro (wanted_yes rfl rfl eg) (fun K hK => ?_)
        clear eg
        have e15 : a.tmps[15]?.getD undef = .int .i64 eC := hk.o 15 (by kernel_rfl)
        clear hk
        go_simp
        exact hK _ _ (Ext.refl _) (fun d hd => by cases hd; rfl)
      · intro a W2 hk
        have eg : a.tmps[59]?.getD undef = .bool true := hk.v 59 (by kernel_rfl)
        refine Flow.does_intro (wanted_yes rfl rfl eg) (fun K hK => ?_)
        clear eg
        have e60 : a.tmps[60]?.getD undef = _ := hk.v 60 (by kernel_rfl)
        have e61 : a.tmps[61]?.getD undef = _ := hk.v 61 (by kernel_rfl)
        clear hk
        go_simp
        exact hK _ _ (Ext.refl _) (fun d hd => by cases hd; rfl)
      · intro a W2 hk
        refine Flow.does_intro rfl (fun K hK => ?_)
        have e59 : a.tmps[59]?.getD undef = _ := hk.v 59 (by kernel_rfl)
        have e62 : a.tmps[62]?.getD undef = _ := hk.v 62 (by kernel_rfl)
        clear hk
        go_simp
        exact hK _ _ (Ext.refl _) (fun d hd => by cases hd; rfl)
      · intro a W2 hk
        refine Flow.does_intro rfl (fun K hK => ?_)
        have e63 : a.tmps[63]?.getD undef = _ := hk.v 63 (by kernel_rfl)
        clear hk
        go_simp
        exact hK _ _ (Ext.refl _) (fun d hd => by cases hd; rfl)
      · intro a W2 hk
        have eg : a.tmps[64]?.getD undef = .bool true := hk.v 64 (by kernel_rfl)
        refine Flow.does_intro (wanted_yes rfl rfl eg) (fun K hK => ?_)
        clear eg
        have e8 : a.tmps[8]?.getD undef = .pointer (some ⟨pA, 0, none⟩) := hk.o 8 (by kernel_rfl)
        have g := (kbA.out.ext ((Ext.drew W).trans hk.ext)).cell
        clear hk
        go_simp
        exact hK _ _ (Ext.refl _) (fun d hd => by cases hd; rfl)
      · intro a W2 hk
        have eg : a.tmps[64]?.getD undef = .bool true := hk.v 64 (by kernel_rfl)
        refine Flow.does_intro (wanted_yes rfl rfl eg) (fun K hK => ?_)
        clear eg
        have e2 : a.tmps[2]?.getD undef = .string nm := hk.o 2 (by kernel_rfl)
        clear hk
        go_simp
        exact hK _ _ (Ext.refl _) (fun d hd => by cases hd; rfl)
      · intro a W2 hk
        have eg : a.tmps[64]?.getD undef = .bool true := hk.v 64 (by kernel_rfl)
        refine Flow.does_intro (wanted_yes rfl rfl eg) (fun K hK => ?_)
        clear eg
        have e65 : a.tmps[65]?.getD undef = _ := hk.v 65 (by kernel_rfl)
        have e66 : a.tmps[66]?.getD undef = _ := hk.v 66 (by kernel_rfl)
        have hx0 := Hd.mk ((Ext.drew W).trans hk.ext)
        clear hk
        go_simp
        refine Calls.mono (find_any (krA.out.ext hx0.out) nm) ?_
        rintro e W3 ⟨rfl, hx⟩
        exact hK _ _ hx (fun d hd => by cases hd; rfl)
      · intro a W2 hk
        have eg : a.tmps[64]?.getD undef = .bool true := hk.v 64 (by kernel_rfl)
        refine Flow.does_intro (wanted_yes rfl rfl eg) (fun K hK => ?_)
        clear eg
        have e10 : a.tmps[10]?.getD undef = .pointer (some ⟨pB, 0, none⟩) := hk.o 10 (by kernel_rfl)
        have g := (kbB.out.ext ((Ext.drew W).trans hk.ext)).cell
        clear hk
        go_simp
        exact hK _ _ (Ext.refl _) (fun d hd => by cases hd; rfl)
      · intro a W2 hk
        have eg : a.tmps[64]?.getD undef = .bool true := hk.v 64 (by kernel_rfl)
        refine Flow.does_intro (wanted_yes rfl rfl eg) (fun K hK => ?_)
        clear eg
        have e2 : a.tmps[2]?.getD undef = .string nm := hk.o 2 (by kernel_rfl)
        clear hk
        go_simp
        exact hK _ _ (Ext.refl _) (fun d hd => by cases hd; rfl)
      · intro a W2 hk
        have eg : a.tmps[64]?.getD undef = .bool true := hk.v 64 (by kernel_rfl)
        refine Flow.does_intro (wanted_yes rfl rfl eg) (fun K hK => ?_)
        clear eg
        have e68 : a.tmps[68]?.getD undef = _ := hk.v 68 (by kernel_rfl)
        have e69 : a.tmps[69]?.getD undef = _ := hk.v 69 (by kernel_rfl)
        have hx0 := Hd.mk ((Ext.drew W).trans hk.ext)
        clear hk
        go_simp
        refine Calls.mono (rf_find (krB.out.ext hx0.out) nm) ?_
        rintro e W3 ⟨rfl, hx⟩
        exact hK _ _ hx (fun d hd => by cases hd; rfl)
      · intro a W2 hk
        have eg : a.tmps[64]?.getD undef = .bool true := hk.v 64 (by kernel_rfl)
        refine Flow.does_intro (wanted_yes rfl rfl eg) (fun K hK => ?_)
        clear eg
        have e67 : a.tmps[67]?.getD undef = _ := hk.v 67 (by kernel_rfl)
        have e70 : a.tmps[70]?.getD undef = _ := hk.v 70 (by kernel_rfl)
        clear hk
        go_simp
        exact hK _ _ (Ext.refl _) (fun d hd => by cases hd; rfl)
      · intro a W2 hk
        refine Flow.does_intro rfl (fun K hK => ?_)
        have e64 : a.tmps[64]?.getD undef = _ := hk.v 64 (by kernel_rfl)
        have e71 : a.tmps[71]?.getD undef = _ := hk.v 71 (by kernel_rfl)
        clear hk
        go_simp
        exact hK _ _ (Ext.refl _) (fun d hd => by cases hd; rfl)
      · intro a W2 hk
        refine Flow.does_intro rfl (fun K hK => ?_)
        have e72 : a.tmps[72]?.getD undef = _ := hk.v 72 (by kernel_rfl)
        clear hk
        go_simp
        exact hK _ _ (Ext.refl _) (fun d hd => by cases hd; rfl)
      · intro a W2 hk
        have eg : a.tmps[73]?.getD undef = .bool true := hk.v 73 (by kernel_rfl)
        refine Flow.does_intro (wanted_yes rfl rfl eg) (fun K hK => ?_)
        clear eg
        have e12 : a.tmps[12]?.getD undef = .pointer (some ⟨pC, 0, none⟩) := hk.o 12 (by kernel_rfl)
        have g := (kbC.out.ext ((Ext.drew W).trans hk.ext)).cell
        clear hk
        go_simp
        exact hK _ _ (Ext.refl _) (fun d hd => by cases hd; rfl)
      · intro a W2 hk
        have eg : a.tmps[73]?.getD undef = .bool true := hk.v 73 (by kernel_rfl)
        refine Flow.does_intro (wanted_yes rfl rfl eg) (fun K hK => ?_)
        clear eg
        have e2 : a.tmps[2]?.getD undef = .string nm := hk.o 2 (by kernel_rfl)
        clear hk
        go_simp
        exact hK _ _ (Ext.refl _) (fun d hd => by cases hd; rfl)
      · intro a W2 hk
        have eg : a.tmps[73]?.getD undef = .bool true := hk.v 73 (by kernel_rfl)
        refine Flow.does_intro (wanted_yes rfl rfl eg) (fun K hK => ?_)
        clear eg
        have e74 : a.tmps[74]?.getD undef = _ := hk.v 74 (by kernel_rfl)
        have e75 : a.tmps[75]?.getD undef = _ := hk.v 75 (by kernel_rfl)
        have hx0 := Hd.mk ((Ext.drew W).trans hk.ext)
        clear hk
        go_simp
        refine Calls.mono (find_any (krC.out.ext hx0.out) nm) ?_
        rintro e W3 ⟨rfl, hx⟩
        exact hK _ _ hx (fun d hd => by cases hd; rfl)
      · intro a W2 hk
        have eg : a.tmps[73]?.getD undef = .bool true := hk.v 73 (by kernel_rfl)
        refine Flow.does_intro (wanted_yes rfl rfl eg) (fun K hK => ?_)
        clear eg
        have e14 : a.tmps[14]?.getD undef = .pointer (some ⟨pD, 0, none⟩) := hk.o 14 (by kernel_rfl)
        have g := (kbD.out.ext ((Ext.drew W).trans hk.ext)).cell
        clear hk
        go_simp
        exact hK _ _ (Ext.refl _) (fun d hd => by cases hd; rfl)
      · intro a W2 hk
        have eg : a.tmps[73]?.getD undef = .bool true := hk.v 73 (by kernel_rfl)
        refine Flow.does_intro (wanted_yes rfl rfl eg) (fun K hK => ?_)
        clear eg
        have e2 : a.tmps[2]?.getD undef = .string nm := hk.o 2 (by kernel_rfl)
        clear hk
        go_simp
        exact hK _ _ (Ext.refl _) (fun d hd => by cases hd; rfl)
      · intro a W2 hk
        have eg : a.tmps[73]?.getD undef = .bool true := hk.v 73 (by kernel_rfl)
        refine Flow.does_intro (wanted_yes rfl rfl eg) (fun K hK => ?_)
        clear eg
        have e77 : a.tmps[77]?.getD undef = _ := hk.v 77 (by kernel_rfl)
        have e78 : a.tmps[78]?.getD undef = _ := hk.v 78 (by kernel_rfl)
        have hx0 := Hd.mk ((Ext.drew W).trans hk.ext)
        clear hk
        go_simp
        refine Calls.mono (rf_find (krD.out.ext hx0.out) nm) ?_
        rintro e W3 ⟨rfl, hx⟩
        exact hK _ _ hx (fun d hd => by cases hd; rfl)
      · intro a W2 hk
        have eg : a.tmps[73]?.getD undef = .bool true := hk.v 73 (by kernel_rfl)
        refine Flow.does_intro (wanted_yes rfl rfl eg) (fun K hK => ?_)
        clear eg
        have e76 : a.tmps[76]?.getD undef = _ := hk.v 76 (by kernel_rfl)
        have e79 : a.tmps[79]?.getD undef = _ := hk.v 79 (by kernel_rfl)
        clear hk
        go_simp
        exact hK _ _ (Ext.refl _) (fun d hd => by cases hd; rfl)
      · intro a W2 hk
        refine Flow.does_intro rfl (fun K hK => ?_)
        have e73 : a.tmps[73]?.getD undef = _ := hk.v 73 (by kernel_rfl)
        have e80 : a.tmps[80]?.getD undef = _ := hk.v 80 (by kernel_rfl)
        clear hk
        go_simp
        exact hK _ _ (Ext.refl _) (fun d hd => by cases hd; rfl)
      · intro a W2 hk
        refine Flow.does_intro rfl (fun K hK => ?_)
        have e81 : a.tmps[81]?.getD undef = _ := hk.v 81 (by kernel_rfl)
        clear hk
        go_simp
        exact hK _ _ (Ext.refl _) (fun d hd => by cases hd; rfl)
    · intro a W2 he
      have hxW2 := Hd.mk (kx.out.trans ((Ext.drew W).trans he.ext))
      obtain ⟨us, hA, hF⟩ := he.out [44, 45, 46, 47, 48, 49, 50, 51, 52, 53, 54, 55, 56, 57, 58, 59, 60, 61, 62, 63, 64, 65, 66, 67, 68, 69, 70, 71, 72, 73, 74, 75, 76, 77, 78, 79, 80, 81, 6] (by kernel_rfl)
      simp only [Flow.fillL, List.contains_cons, List.contains_nil, Nat.reduceBEq, Bool.or_false, Bool.false_or, Bool.or_true, Bool.true_or, ↓reduceIte, Nat.reduceAdd, Bool.false_eq_true] at hA
      subst hA
      have f6 : us 6 = .bool true := hF 6 (by simp)
      clear hF he
      rw [f6]
      clear f6
      refine (show wpList _ _ _ [] _ _ from ?_)
      go_wp2_with fail
      go_ret
      exact ⟨rfl, hxW2.out⟩
  · go_wp2_with fail
    go_ret
    exact ⟨rfl, kx.out⟩

end Go.Proofs.Ytgkgedjmnbjalaa
