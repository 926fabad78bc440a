/- Numbers as bytes, the highest first: plain functions and their laws; no Go in it. -/
import Derived.KernelRfl
set_option linter.unusedVariables false
set_option linter.unusedSimpArgs false
namespace Go.Proofs.YthjnefpnnifjiaaDoor
/-- A number's lowest bytes, so many. -/
def be : Nat → Nat → List UInt8
  | 0, _ => []
  | k + 1, n => be k (n / 256) ++ [UInt8.ofNat n]
@[simp] theorem be_length : ∀ k n, (be k n).length = k
  | 0, _ => rfl
  | k + 1, n => by rw [be, List.length_append, be_length k]; rfl
theorem be_front : ∀ k n, be (k + 1) n = UInt8.ofNat (n / 256 ^ k) :: be k n
  | 0, n => by simp [be]
  | k + 1, n => by
    have e : be (k + 2) n = be (k + 1) (n / 256) ++ [UInt8.ofNat n] := rfl
    rw [e, be_front k (n / 256), List.cons_append, Nat.div_div_eq_div_mul, be, show 256 * 256 ^ k = 256 ^ (k + 1) by rw [Nat.pow_succ, Nat.mul_comm]]
/-- The number that bytes are. -/
def num (l : List UInt8) : Nat := l.foldl (fun n x => 256 * n + x.toNat) 0
theorem num_snoc (l : List UInt8) (x : UInt8) : num (l ++ [x]) = 256 * num l + x.toNat := by simp [num, List.foldl_append]
theorem snoc_cases {α : Type} (l : List α) : l = [] ∨ ∃ m x, l = m ++ [x] := by
  rcases List.eq_nil_or_concat l with h | ⟨m, x, h⟩
  · exact .inl h
  · exact .inr ⟨m, x, by simpa using h⟩
theorem num_lt : ∀ (k : Nat) (l : List UInt8), l.length = k → num l < 256 ^ k
  | 0, l, h => by rw [List.eq_nil_of_length_eq_zero h]; simp [num]
  | k + 1, l, h => by
    rcases snoc_cases l with rfl | ⟨m, x, rfl⟩
    · simp at h
    · rw [num_snoc]
      have := num_lt k m (by simpa using h)
      have hx := x.toNat_lt
      rw [Nat.pow_succ]
      omega
theorem num_take_succ (l : List UInt8) (i : Nat) (h : i < l.length) : num (l.take (i + 1)) = 256 * num (l.take i) + l[i].toNat := by
  rw [List.take_succ_eq_append_getElem h, num_snoc]
theorem num_take_lt (l : List UInt8) (i : Nat) (h : i ≤ l.length) : num (l.take i) < 256 ^ i := num_lt i _ (by simp; omega)
theorem num_be : ∀ k n, num (be k n) = n % 256 ^ k
  | 0, n => by simp [num, be]; omega
  | k + 1, n => by
    have h1 : n % 256 ^ (k + 1) = n % 256 + 256 * (n / 256 % 256 ^ k) := by rw [Nat.pow_succ, Nat.mul_comm (256 ^ k) 256, Nat.mod_mul]
    have h2 : (UInt8.ofNat n).toNat = n % 256 := UInt8.toNat_ofNat'
    rw [be, num_snoc, num_be k, h1, h2]
    omega
theorem be_num : ∀ (k : Nat) (l : List UInt8), l.length = k → be k (num l) = l
  | 0, l, h => by rw [List.eq_nil_of_length_eq_zero h]; rfl
  | k + 1, l, h => by
    rcases snoc_cases l with rfl | ⟨m, x, rfl⟩
    · simp at h
    · have hx := x.toNat_lt
      rw [num_snoc, be]
      have e1 : (256 * num m + x.toNat) / 256 = num m := by omega
      have e2 : UInt8.ofNat (256 * num m + x.toNat) = x := by
        apply UInt8.toNat_inj.1
        rw [UInt8.toNat_ofNat']
        omega
      rw [e1, e2, be_num k m (by simpa using h)]
theorem num_take_8 (l : List UInt8) (i : Nat) (h : i < l.length) (hl : l.length ≤ 8) : num (l.take i) < 72057594037927936 :=
  Nat.lt_of_lt_of_le (num_take_lt l i (by omega)) (Nat.pow_le_pow_right (n := 256) (by decide) (show i ≤ 7 by omega))
end Go.Proofs.YthjnefpnnifjiaaDoor
