/- What the law's Great leaves, in plain Lean. No condition. -/
import Derived.Test.YthfjkdgaiaokdaaDoorQ5
import Derived.Test.YthfjkdgaiaokdaaDoorSyO
set_option linter.unusedVariables false
set_option linter.unusedSimpArgs false
namespace Go.Proofs.YthfjkdgaiaokdaaDoor
open Go.RowKit

/-- What Great leaves, once more. -/
theorem roomG_fit2 {p : Prog'} (h : 0 ≤ roomG p) : p.stores.length ≤ 400 ∧ p.opers.length ≤ 400 ∧ ∀ o ∈ p.opers, o.params.length ≤ 400 ∧ St.sizes o.body ≤ 400 := by
  unfold roomG at h
  have h0 := roomDs_le p.stores (roomOs p.opers 400)
  have h2 := roomOs_le p.opers 400
  have h1 := roomDs_fit p.stores _ h2 h
  have h3 := roomOs_fit p.opers 400 (by omega) (by omega)
  exact ⟨by omega, by omega, fun o ho => ⟨(h3.2 o ho).2.1, (h3.2 o ho).1⟩⟩
theorem roomG_Fit {p : Prog'} (h : 0 ≤ roomG p) : p.Fit := by
  obtain ⟨h1, h2, h3⟩ := roomG_fit2 h
  exact ⟨by omega, by omega, fun o ho => by have := h3 o ho; omega⟩
end Go.Proofs.YthfjkdgaiaokdaaDoor
