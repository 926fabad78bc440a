/- A sector with one other byte is no frame: plain law. -/
import Derived.Test.YtoedmjibhpajjaaCrcT
import Derived.Test.YtoedmjibhpajjaaFrP2
set_option linter.unusedVariables false
set_option linter.unusedSimpArgs false
namespace Go.Proofs.Ytoedmjibhpajjaa
namespace Fr
/-- A frame's sector ends in the sum of the bytes before. -/
theorem is_sum {b : List UInt8} (h : is b = true) : b.length = 64 ∧ b.drop 60 = be 4 (crcOf (b.take 60)).toNat := by
  obtain ⟨hp, hb⟩ := pack_told h
  have hl : b.length = 64 := by simp only [is, Bool.and_eq_true, decide_eq_true_eq] at h; exact h.1.1
  have h60 := f60_length hb
  have e : b = (told b).f60 ++ be 4 (crcOf (told b).f60).toNat := hp.symm
  have e1 : b.take 60 = (told b).f60 := by
    conv => lhs; rw [e]
    rw [← h60, List.take_left]
  have e2 : b.drop 60 = be 4 (crcOf (told b).f60).toNat := by
    conv => lhs; rw [e]
    rw [← h60, List.drop_left]
  exact ⟨hl, by rw [e2, e1]⟩
theorem be_crc_inj {x y : BitVec 32} (h : be 4 x.toNat = be 4 y.toNat) : x = y := by
  have h1 := congrArg num h
  rw [num_be, num_be] at h1
  have hx := x.isLt
  have hy := y.isLt
  rw [Nat.mod_eq_of_lt (by simpa using hx), Nat.mod_eq_of_lt (by simpa using hy)] at h1
  exact BitVec.eq_of_toNat_eq h1
theorem is_turned {b : List UInt8} (h : is b = true) (k : Nat) (hk : k < b.length) (x : UInt8) (hx : x ≠ b[k]) : is (b.set k x) = false := by
  cases hc : is (b.set k x) with
  | false => rfl
  | true =>
    obtain ⟨hl, h1⟩ := is_sum h
    obtain ⟨_, h2⟩ := is_sum hc
    exfalso
    by_cases h60 : k < 60
    · have e1 : (b.set k x).drop 60 = b.drop 60 := List.drop_set_of_lt h60
      have e2 : (b.set k x).take 60 = (b.take 60).set k x := List.take_set
      rw [e1, h1, e2] at h2
      have hk' : k < (b.take 60).length := by simp; omega
      exact crc_changed (b.take 60) k hk' x (by simpa using hx) (be_crc_inj h2).symm
    · have e2 : (b.set k x).take 60 = b.take 60 := by rw [List.take_set, List.set_eq_of_length_le (by simp; omega)]
      rw [e2, ← h1] at h2
      have : b.set k x = b := by rw [← List.take_append_drop 60 (b.set k x), h2, e2, List.take_append_drop]
      have h3 : (b.set k x)[k]'(by simpa using hk) = b[k] := by simp only [this]
      rw [List.getElem_set_self] at h3
      exact hx h3
theorem code_turned {f : Fr} (ok : f.Ok) (h : f.body.length ≤ 50) (k : Nat) (hk : k < f.pack.length) (x : UInt8) (hx : x ≠ f.pack[k]) : code (f.pack.set k x) = 2 := by
  simp [code, is_turned (is_pack ok h) k hk x hx]
theorem code_other {b : List UInt8} (h : b.length ≠ 64) : code b = 2 := by simp [code, is, h]
theorem code_zeros : code (List.replicate 64 0) = 2 := by
  have : is (List.replicate 64 0) = false := by decide +kernel
  simp only [code, this]; rfl
end Fr
end Go.Proofs.Ytoedmjibhpajjaa
