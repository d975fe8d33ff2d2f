/- The rows' own lemma: a slice of strings that is handed in is a row of names.
   Conditions: none. -/
import Derived.Test.YtgkgedjmnbjalaaSpY
namespace Go.Proofs.Ytgkgedjmnbjalaa
open Go.RowKit

theorem srow_open {W : World} {x : Addr} {len cap : Nat} {ss : List ByteArray} (hl : len ≤ cap) (hz : ss.length = cap)
    (hcell : ∀ i, i < ss.length → W.cell? (x.add i) = some (.string (ss.getD i ByteArray.empty))) : ∃ l : List ByteArray, len = l.length ∧ SRow W (some x) l := by
  refine ⟨ss.take len, by simp; omega, fun i y hi => ?_⟩
  have hlt : i < ss.length := by
    have := (List.getElem?_eq_some_iff.1 hi).1
    simp at this
    omega
  have h0 := hcell 0 (by omega)
  obtain ⟨b, off, spot⟩ := x
  have hs : spot = none := by simpa [Addr.add] using World.cell?_spot h0
  subst hs
  refine ⟨b, off, rfl, ?_⟩
  have h1 := hcell i hlt
  rw [addr_add] at h1
  rw [h1]
  rw [List.getElem?_take] at hi
  split at hi
  · rw [List.getD_eq_getElem?_getD, hi]; rfl
  · cases hi

end Go.Proofs.Ytgkgedjmnbjalaa
