/- What is cut is whole: plain laws. -/
import Derived.Test.YtimknlabhhopcaaCutP
set_option linter.unusedVariables false
set_option linter.unusedSimpArgs false
namespace Go.Proofs.Ytimknlabhhopcaa
theorem cuts_join : ∀ (n : Nat) (l : List UInt8), l.length ≤ n → (cuts l).flatten = l
  | n, l, hn => by
    by_cases h : 50 < l.length
    · rw [cuts_more h, List.flatten_cons]
      cases n with
      | zero => omega
      | succ n => rw [cuts_join n (l.drop 50) (by simp; omega), List.take_append_drop]
    · rw [cuts_last h]; simp
theorem cuts_number : ∀ (n : Nat) (l : List UInt8), l.length ≤ n → (cuts l).length = max 1 ((l.length + 49) / 50)
  | n, l, hn => by
    by_cases h : 50 < l.length
    · rw [cuts_more h, List.length_cons]
      cases n with
      | zero => omega
      | succ n => rw [cuts_number n (l.drop 50) (by simp; omega)]; simp only [List.length_drop]; omega
    · rw [cuts_last h]; simp only [List.length_cons, List.length_nil]; omega
theorem cuts_full : ∀ (n : Nat) (l : List UInt8), l.length ≤ n → ∀ i (h : i + 1 < (cuts l).length), ((cuts l)[i]'(by omega)).length = 50
  | n, l, hn, i, hi => by
    by_cases h : 50 < l.length
    · cases n with
      | zero => omega
      | succ n =>
        have hi' := hi
        rw [cuts_more h, List.length_cons] at hi'
        cases i with
        | zero => simp only [cuts_more h, List.getElem_cons_zero, List.length_take]; omega
        | succ i =>
          have := cuts_full n (l.drop 50) (by simp; omega) i (by omega)
          simp only [cuts_more h, List.getElem_cons_succ]
          exact this
    · rw [cuts_last h] at hi; simp at hi
/-- A frame of the row, by its place. -/
theorem cutF_get (epoch seq : Nat) (l : List UInt8) (i : Nat) (h : i < (cuts l).length) :
    (cutF epoch seq l)[i]? = some ⟨epoch, (seq + i) % 4294967296, (if i = (cuts l).length - 1 then (if i = 0 then (0 : UInt8) ||| 1 else 0) ||| 2 else if i = 0 then (0 : UInt8) ||| 1 else 0), (cuts l)[i]⟩ := by
  unfold cutF flagged
  simp only [List.getElem?_modify, rawFrs_length]
  have e : (rawFrs epoch seq (cuts l))[i]? = some (rawFr epoch seq i (cuts l)[i]) := by
    simp [rawFrs, List.getElem?_zipIdx, h]
  rw [e]
  generalize (cuts l)[i] = b
  generalize (cuts l).length - 1 = m
  have h0 : (0 = i) = (i = 0) := propext eq_comm
  have h1 : (m = i) = (i = m) := propext eq_comm
  simp only [h0, h1, Option.map_eq_map, Option.map_some]
  by_cases h2 : i = 0 <;> by_cases h3 : i = m <;> simp only [h2, h3, if_true, if_false] <;> (try split) <;> simp_all [rawFr, Fr.or]
end Go.Proofs.Ytimknlabhhopcaa
