/- What a version has, the next one has.
   Conditions: none. -/
import Derived.Test.YtgkgedjmnbjalaaSqA
set_option linter.unusedSimpArgs false
namespace Go.Proofs.Ytgkgedjmnbjalaa
open Go.RowKit Go.Sort

def Sp.ty : Sp → Int | .mk _ _ t .. => t
def Sp.mn : Sp → Int | .mk _ _ _ m .. => m
def Sp.mx : Sp → Int | .mk _ _ _ _ m .. => m
def Sp.must : Sp → Bool | .mk _ _ _ _ _ _ m .. => m
def Sp.most : Sp → Int | .mk _ _ _ _ _ _ _ m _ => m

/-- The fields of two specs agree, and the second one has no fewer kids. -/
def likeB (a b : Sp) : Bool := a.name = b.name && a.kind = b.kind && a.ty = b.ty && a.mn = b.mn && a.mx = b.mx && a.must = b.must && a.most = b.most && decide (a.kids.length ≤ b.kids.length)
/-- The next version has what this one has; where two is set, all but limit. -/
def growB : Nat → Bool → Sp → Sp → Bool
  | 0, _, _, _ => false
  | n + 1, two, a, b => likeB a b && a.kids.all fun k =>
      if two && k.name = ⟨#[108, 105, 109, 105, 116]⟩ then k.kids.isEmpty && findSp k.name b = -1
      else decide (0 ≤ findSp k.name b) && (match b.kids[(findSp k.name b).toNat]? with | some y => growB n two k y | none => false)

theorem idxFrom_name (nm : ByteArray) : ∀ (l : List ByteArray) (i j : Nat), idxFrom nm i l = (j : Int) → i ≤ j ∧ l[j - i]? = some nm
  | [], i, j, h => by simp [idxFrom] at h
  | x :: l, i, j, h => by
    unfold idxFrom at h
    split at h
    · rename_i hx
      have : i = j := by omega
      subst this
      simp [hx]
    · obtain ⟨h1, h2⟩ := idxFrom_name nm l (i + 1) j h
      refine ⟨by omega, ?_⟩
      have : j - i = (j - (i + 1)) + 1 := by omega
      rw [this, List.getElem?_cons_succ]
      exact h2
theorem findSp_name {nm : ByteArray} {s : Sp} {i : Nat} (h : findSp nm s = (i : Int)) {k : Sp} (hk : s.kids[i]? = some k) : k.name = nm := by
  have := (idxFrom_name nm (s.kids.map Sp.name) 0 i h).2
  simp only [Nat.sub_zero, List.getElem?_map, hk, Option.map_some, Option.some.injEq] at this
  exact this

theorem atSp_last {x : Sp} : ∀ (l : List ByteArray) (s : Sp), atSp s l = some x → ∀ n, l.getLast? = some n → x.name = n
  | [], s, h, n, hn => by simp at hn
  | m :: l, s, h, n, hn => by
    rcases atSp_some s m l with ⟨_, hno⟩ | ⟨i, k, hf, hk, hyes⟩
    · rw [hno] at h; cases h
    · rw [hyes] at h
      cases l with
      | nil =>
        simp only [atSp, Option.some.injEq] at h
        simp at hn
        subst h hn
        exact findSp_name hf hk
      | cons p l => exact atSp_last (p :: l) k h n (by simpa [List.getLast?_cons_cons] using hn)

theorem grow_at (two : Bool) {x : Sp} : ∀ (n : Nat) (l : List ByteArray) (a b : Sp), (two = true → a.name ≠ ⟨#[108, 105, 109, 105, 116]⟩) → growB n two a b = true → atSp a l = some x →
    (∃ y, atSp b l = some y ∧ likeB x y = true ∧ (two = true → x.name ≠ ⟨#[108, 105, 109, 105, 116]⟩)) ∨ (two = true ∧ x.name = ⟨#[108, 105, 109, 105, 116]⟩ ∧ atSp b l = none)
  | 0, l, a, b, _, h, _ => by simp [growB] at h
  | n + 1, l, a, b, hna, h, hx => by
    rw [growB, Bool.and_eq_true] at h
    cases l with
    | nil =>
      simp only [atSp, Option.some.injEq] at hx
      subst hx
      exact .inl ⟨b, rfl, h.1, hna⟩
    | cons m l =>
      rcases atSp_some a m l with ⟨_, hno⟩ | ⟨i, k, hf, hk, hyes⟩
      · rw [hno] at hx; cases hx
      · rw [hyes] at hx
        have hkn := findSp_name hf hk
        have h2 := List.all_eq_true.1 h.2 k (List.mem_of_getElem? hk)
        split at h2
        · rename_i hc
          rw [Bool.and_eq_true] at hc h2
          have hc2 : k.name = ⟨#[108, 105, 109, 105, 116]⟩ := by simpa using hc.2
          have hk2 : findSp k.name b = -1 := by simpa using h2.2
          have he : k.kids = [] := by simpa using h2.1
          right
          have hl : l = [] := by
            cases l with
            | nil => rfl
            | cons p l =>
              rcases atSp_some k p l with ⟨_, hno⟩ | ⟨i', k', _, hk', _⟩
              · rw [hno] at hx; cases hx
              · rw [he] at hk'; simp at hk'
          subst hl
          simp only [atSp, Option.some.injEq] at hx
          subst hx
          exact ⟨hc.1, hc2, by rw [← hkn]; exact atSp_none hk2⟩
        · rename_i hc
          rw [Bool.and_eq_true] at h2
          obtain ⟨h3, h4⟩ := h2
          have h3 : 0 ≤ findSp k.name b := by simpa using h3
          rcases atSp_some b m l with ⟨hb, _⟩ | ⟨i', k', hf', hk', hyes'⟩
          · rw [hkn, hb] at h3; omega
          · rw [hkn, hf'] at h4
            simp only [Int.toNat_natCast, hk'] at h4
            rw [hyes']
            exact grow_at two n l k k' (fun ht hkl => hc (by simp [ht, hkl])) h4 hx
theorem grow1 : growB 6 false (rootSp 0) (rootSp 1) = true := by decide +kernel
theorem grow2 : growB 6 true (rootSp 1) (rootSp 2) = true := by decide +kernel
theorem RepS.form2 {E : TypeId} {base : Nat} {w : World} {s : Sp} {c : List Value} (h : RepS E base w s c) : ∃ N nc K kc, c = cSpec s.name s.kind s.ty s.mn s.mx N s.names.length nc s.must s.most K s.kids.length kc := by
  cases h with
  | mk nm kind ty mn mx names must most kids N nc K kc css hN hK h9 hl hr hb => exact ⟨N, nc, K, kc, rfl⟩
theorem likeB_eq {a b : Sp} (h : likeB a b = true) : b.name = a.name ∧ b.kind = a.kind ∧ b.ty = a.ty ∧ b.mn = a.mn ∧ b.mx = a.mx ∧ b.must = a.must ∧ b.most = a.most ∧ a.kids.length ≤ b.kids.length := by
  simp only [likeB, Bool.and_eq_true, decide_eq_true_eq] at h
  obtain ⟨⟨⟨⟨⟨⟨⟨h1, h2⟩, h3⟩, h4⟩, h5⟩, h6⟩, h7⟩, h8⟩ := h
  exact ⟨h1.symm, h2.symm, h3.symm, h4.symm, h5.symm, h6.symm, h7.symm, h8⟩
theorem specAt_some {v : Int} {l : List ByteArray} {x : Sp} {r : Sp} (hr : specRoot v = (r, 0)) (h : specAt v l = (x, 0)) : atSp r l = some x := by
  rw [specAt_ok v l (by rw [hr]), hr] at h
  cases ha : atSp r l with
  | none => simp only [ha] at h; injection h with _ h2; exact absurd h2 (by decide)
  | some k => simp only [ha] at h; injection h with h1 _; rw [h1]
theorem specAt_of {v : Int} {l : List ByteArray} {r : Sp} (hr : specRoot v = (r, 0)) : specAt v l = match atSp r l with | some k => (k, 0) | none => (zeroSp, 22) := by
  rw [specAt_ok v l (by rw [hr]), hr]
  rfl
theorem grow_law {v : Int} (hv : v = 1 ∨ v = 2) {l : List ByteArray} {x : Sp} (h : specAt v l = (x, 0)) :
    (v = 2 ∧ x.name = ⟨#[108, 105, 109, 105, 116]⟩ ∧ specAt (v + 1) l = (zeroSp, 22)) ∨ (¬ (v = 2 ∧ x.name = ⟨#[108, 105, 109, 105, 116]⟩) ∧ ∃ y, specAt (v + 1) l = (y, 0) ∧ likeB x y = true) := by
  rcases hv with rfl | rfl
  · right
    refine ⟨fun hh => absurd hh.1 (by decide), ?_⟩
    rcases grow_at false 6 l (rootSp 0) (rootSp 1) (fun h => by cases h) grow1 (specAt_some rfl h) with ⟨y, h1, h2, _⟩ | ⟨h1, _⟩
    · exact ⟨y, by rw [show (1 : Int) + 1 = 2 from rfl, specAt_of (r := rootSp 1) rfl, h1], h2⟩
    · cases h1
  · rcases grow_at true 6 l (rootSp 1) (rootSp 2) (fun _ => by decide) grow2 (specAt_some rfl h) with ⟨y, h1, h2, h3⟩ | ⟨_, h2, h3⟩
    · exact .inr ⟨fun hh => h3 rfl hh.2, y, by rw [show (2 : Int) + 1 = 3 from rfl, specAt_of (r := rootSp 2) rfl, h1], h2⟩
    · exact .inl ⟨rfl, h2, by rw [show (2 : Int) + 1 = 3 from rfl, specAt_of (r := rootSp 2) rfl, h3]⟩
end Go.Proofs.Ytgkgedjmnbjalaa
