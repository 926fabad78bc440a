/- Rows of rows: what a list of blocks of one length has where, and behind a block's change. Plain Lean. -/
import Derived.Test.YtimknlabhhopcaaOp3
set_option linter.unusedVariables false
set_option linter.unusedSimpArgs false
namespace Go.Proofs.Ytimknlabhhopcaa
section
variable {α β : Type} {f : α → List β} {n : Nat}
theorem flat_len (l : List α) (h : ∀ x ∈ l, (f x).length = n) : (l.flatMap f).length = l.length * n := by
  induction l with
  | nil => simp
  | cons x l ih => rw [List.flatMap_cons, List.length_append, h x (by simp), ih (fun y hy => h y (by simp [hy])), List.length_cons, Nat.succ_mul, Nat.add_comm]
theorem flat_get : ∀ (l : List α) (h : ∀ x ∈ l, (f x).length = n) (i : Nat) (hi : i < l.length) (j : Nat), j < n → (l.flatMap f)[i * n + j]? = (f l[i])[j]?
  | x :: l, h, 0, _, j, hj => by
    rw [List.flatMap_cons, List.getElem?_append_left (by rw [h x (by simp)]; omega)]
    simp
  | x :: l, h, i + 1, hi, j, hj => by
    have hx := h x (by simp)
    rw [List.flatMap_cons, List.getElem?_append_right (by rw [hx, Nat.succ_mul]; omega), hx, Nat.succ_mul]
    have e : i * n + n + j - n = i * n + j := by omega
    rw [e, flat_get l (fun y hy => h y (by simp [hy])) i (by simpa using hi) j hj]
    simp
theorem flat_range (l : List α) (h : ∀ x ∈ l, (f x).length = n) (sp : List β) (i : Nat) (hi : i < l.length) (j : Nat) (v : β) (hv : (f l[i])[j]? = some v) : (l.flatMap f ++ sp)[i * n + j]? = some v := by
  have hl := h l[i] (List.getElem_mem hi)
  obtain ⟨hj, _⟩ := List.getElem?_eq_some_iff.1 hv
  rw [List.getElem?_append_left]
  · rw [flat_get l h i hi j (by omega)]; exact hv
  · rw [flat_len l h]
    have : i * n + n ≤ l.length * n := by rw [← Nat.succ_mul]; exact Nat.mul_le_mul_right n hi
    omega
theorem flat_set : ∀ (l : List α) (h : ∀ x ∈ l, (f x).length = n) (i : Nat) (hi : i < l.length) (x : α) (hx : (f x).length = n), (l.set i x).flatMap f = (l.flatMap f).take (i * n) ++ f x ++ (l.flatMap f).drop (i * n + n)
  | y :: l, h, 0, _, x, hx => by
    have hy := h y (by simp)
    simp only [List.set_cons_zero, List.flatMap_cons, Nat.zero_mul, List.take_zero, List.nil_append, Nat.zero_add]
    rw [List.drop_append_of_le_length (by omega), List.drop_of_length_le (by omega), List.nil_append]
  | y :: l, h, i + 1, hi, x, hx => by
    have hy := h y (by simp)
    simp only [List.set_cons_succ, List.flatMap_cons, Nat.succ_mul]
    rw [flat_set l (fun z hz => h z (by simp [hz])) i (by simpa using hi) x hx]
    rw [List.take_append, List.take_of_length_le (l := f y) (by omega), hy, show i * n + n - n = i * n by omega]
    rw [List.drop_append, List.drop_of_length_le (l := f y) (by omega), hy, show i * n + n + n - n = i * n + n by omega]
    simp
theorem flat_set_app (l : List α) (h : ∀ x ∈ l, (f x).length = n) (sp : List β) (i : Nat) (hi : i < l.length) (x : α) (hx : (f x).length = n) :
    (l.flatMap f ++ sp).take (i * n) ++ f x ++ (l.flatMap f ++ sp).drop (i * n + (f x).length) = (l.set i x).flatMap f ++ sp := by
  have hle : i * n + n ≤ (l.flatMap f).length := by rw [flat_len l h, ← Nat.succ_mul]; exact Nat.mul_le_mul_right n hi
  rw [hx, flat_set l h i hi x hx, List.take_append_of_le_length (by omega), List.drop_append_of_le_length (by omega)]
  simp
end
end Go.Proofs.Ytimknlabhhopcaa
