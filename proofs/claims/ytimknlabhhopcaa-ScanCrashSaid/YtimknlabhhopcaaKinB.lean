/- Slices of truths that are arguments. -/
import Derived.Test.YtimknlabhhopcaaVdCrash
import Derived.Test.YtimknlabhhopcaaLift
import Derived.Test.YtimknlabhhopcaaKinW
set_option linter.unusedVariables false
set_option linter.unusedSimpArgs false
namespace Go.Proofs.Ytimknlabhhopcaa
open Go.RowKit
theorem rows_bool {F : PH} {l : List Bool} {vs : List Value} (h2 : Kin.bool.rows F l vs) : vs = bools l := by
  apply List.ext_getElem?
  intro i
  have hl : vs.length = l.length := by simpa [Kin.bool] using h2.1
  by_cases hi : i < l.length
  · have := h2.2 i l[i] (by simp [hi])
    simp only [Kin.bool, Nat.mul_one] at this
    have h' : ((vs.drop i).take 1)[0]? = some (Value.bool l[i]) := by rw [this]; rfl
    simpa [bools, hi] using h'
  · rw [List.getElem?_eq_none (by omega), List.getElem?_eq_none (by simp; omega)]
theorem kin_bools {F : PH} {l : List Bool} {v : Value} (h : (Kin.slice 1 Kin.bool).K F l [v]) : boolsAt v l F ∧ l.length ≤ 140737488351232 := by
  obtain ⟨v', vs, e, h1, h2, h3⟩ := h
  cases e
  have := rows_bool h2
  subst this
  exact ⟨h1, by omega⟩
end Go.Proofs.Ytimknlabhhopcaa
