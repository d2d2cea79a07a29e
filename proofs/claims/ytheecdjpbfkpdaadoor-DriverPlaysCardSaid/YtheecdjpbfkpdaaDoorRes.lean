/-
  A row of results, element by element.
-/
import Derived.Test.YtheecdjpbfkpdaaDoorDrv
namespace Go.Proofs.YtheecdjpbfkpdaaDoor
open Go.RowKit
theorem Row.res2 {w : World} {A : Option Addr} {l : List ResS} (h : Row w A l.length 2 (resRow l)) (i : Nat) (o : ResS) (ho : l[i]? = some o) :
    ∃ ad, A = some ad ∧ w.cell? (ad.add (i * 2)) = some (.string o.v) ∧ w.cell? ⟨(ad.add (i * 2)).block, (ad.add (i * 2)).off + 1, none⟩ = some (.bool o.h) := by
  have hi : i < l.length := (List.getElem?_eq_some_iff.1 ho).1
  obtain ⟨ad, e, hc⟩ := h.2 (by omega)
  have hg := fun j (hj : j < 2) => flat_get resCells 2 (fun _ => rfl) l i j o ho hj
  exact ⟨ad, e, hc (i * 2) _ (by have := hg 0 (by omega); rw [Nat.add_zero] at this; exact this), by rw [← add_at _ _ 1 (by omega)]; exact hc _ _ (hg 1 (by omega))⟩
end Go.Proofs.YtheecdjpbfkpdaaDoor
