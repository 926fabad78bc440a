/- What sums tell: one byte changed, and two neighbours turned; plain Lean. -/
import Derived.Test.YtoedmjibhpajjaaCrcP
set_option linter.unusedVariables false
set_option linter.unusedSimpArgs false
namespace Go.Proofs.Ytoedmjibhpajjaa
theorem xor_left_inj {n : Nat} {a b c : BitVec n} (h : a ^^^ b = a ^^^ c) : b = c := by
  have := congrArg (a ^^^ ·) h
  simpa [← BitVec.xor_assoc] using this
theorem xor_right_inj {n : Nat} {a b c : BitVec n} (h : b ^^^ a = c ^^^ a) : b = c := by
  rw [BitVec.xor_comm b, BitVec.xor_comm c] at h; exact xor_left_inj h
theorem wide_inj {x y : UInt8} (h : x.toBitVec.setWidth 32 = y.toBitVec.setWidth 32) : x = y := by
  have := congrArg BitVec.toNat h
  have h1 := x.toNat_lt
  have h2 := y.toNat_lt
  simp only [BitVec.toNat_setWidth, UInt8.toNat_toBitVec] at this
  rw [Nat.mod_eq_of_lt (by omega), Nat.mod_eq_of_lt (by omega)] at this
  exact UInt8.toNat_inj.1 this
theorem cbyte_inj_state {s t : BitVec 32} {x : UInt8} (h : cbyte s x = cbyte t x) : s = t := by
  rw [cbyte_steps, cbyte_steps] at h
  exact xor_right_inj (csteps_inj 8 h)
theorem cbyte_inj_byte {s : BitVec 32} {x y : UInt8} (h : cbyte s x = cbyte s y) : x = y := by
  rw [cbyte_steps, cbyte_steps] at h
  exact wide_inj (xor_left_inj (csteps_inj 8 h))
theorem foldl_cbyte_inj : ∀ (l : List UInt8) {s t : BitVec 32}, l.foldl cbyte s = l.foldl cbyte t → s = t
  | [], _, _, h => h
  | x :: l, _, _, h => cbyte_inj_state (foldl_cbyte_inj l h)
theorem crcOf_inj_fold {l m : List UInt8} (h : crcOf l = crcOf m) : l.foldl cbyte (~~~ 0) = m.foldl cbyte (~~~ 0) := by
  unfold crcOf crcMore at h
  have := congrArg (~~~ ·) h
  simpa using this
theorem fixed_zero : ∀ z : Fin 256, csteps 8 (BitVec.ofNat 32 z.val) = BitVec.ofNat 32 z.val → z = 0 := by decide +kernel
theorem csteps_byte (x : UInt8) (h : csteps 8 (x.toBitVec.setWidth 32) = x.toBitVec.setWidth 32) : x = 0 := by
  have h1 := x.toNat_lt
  have e : x.toBitVec.setWidth 32 = BitVec.ofNat 32 x.toNat := by
    apply BitVec.eq_of_toNat_eq
    simp
  have := fixed_zero ⟨x.toNat, by omega⟩ (by rw [← e]; exact h)
  have := congrArg Fin.val this
  exact UInt8.toNat_inj.1 this
theorem cbyte_swap {s : BitVec 32} {x y : UInt8} (h : cbyte (cbyte s y) x = cbyte (cbyte s x) y) : x = y := by
  simp only [cbyte_steps] at h
  have h := csteps_inj 8 h
  rw [csteps_xor, csteps_xor] at h
  have h2 : csteps 8 ((x ^^^ y).toBitVec.setWidth 32) = (x ^^^ y).toBitVec.setWidth 32 := by
    rw [UInt8.toBitVec_xor, BitVec.setWidth_xor, csteps_xor]
    generalize csteps 8 (y.toBitVec.setWidth 32) = cy at *
    generalize csteps 8 (x.toBitVec.setWidth 32) = cx at *
    generalize y.toBitVec.setWidth 32 = wy at *
    generalize x.toBitVec.setWidth 32 = wx at *
    generalize csteps 8 s = cs at *
    rw [BitVec.xor_assoc, BitVec.xor_assoc] at h
    have h := xor_left_inj h
    apply BitVec.eq_of_getElem_eq
    intro i hi
    have := congrArg (fun z : BitVec 32 => z[i]) h
    simp only [BitVec.getElem_xor] at this ⊢
    revert this
    generalize cy[i] = a; generalize cx[i] = b; generalize wy[i] = c; generalize wx[i] = d
    cases a <;> cases b <;> cases c <;> cases d <;> simp
  have h3 := csteps_byte _ h2
  have h4 := congrArg (· ^^^ y) h3
  simp only [UInt8.xor_assoc, UInt8.xor_self, UInt8.xor_zero, UInt8.zero_xor] at h4
  exact h4
theorem split3 (l : List UInt8) (k : Nat) (h : k < l.length) : l = l.take k ++ l[k] :: l.drop (k + 1) := by simp
theorem crc_changed (l : List UInt8) (k : Nat) (h : k < l.length) (x : UInt8) (hx : x ≠ l[k]) : crcOf (l.set k x) ≠ crcOf l := by
  intro e
  have e := crcOf_inj_fold e
  rw [List.set_eq_take_append_cons_drop, if_pos h] at e
  conv at e => rhs; rw [split3 l k h]
  rw [List.foldl_append, List.foldl_append, List.foldl_cons, List.foldl_cons] at e
  exact hx (cbyte_inj_byte (foldl_cbyte_inj _ e))
theorem crc_swapped (l : List UInt8) (k : Nat) (h : k + 1 < l.length) : (crcOf ((l.set k l[k + 1]).set (k + 1) l[k]) = crcOf l) ↔ l[k] = l[k + 1] := by
  constructor
  · intro e
    have e := crcOf_inj_fold e
    have hs : (l.set k l[k + 1]).set (k + 1) l[k] = l.take k ++ l[k + 1] :: l[k] :: l.drop (k + 2) := by
      apply List.ext_getElem?
      intro i
      simp only [List.getElem?_set, List.length_set]
      rw [List.getElem?_append]
      simp only [List.length_take]
      rw [Nat.min_eq_left (by omega)]
      by_cases h1 : i < k
      · rw [if_neg (by omega), if_neg (by omega), if_pos h1, List.getElem?_take, if_pos h1]
      · rw [if_neg h1]
        obtain ⟨d, rfl⟩ : ∃ d, i = k + d := ⟨i - k, by omega⟩
        rw [show k + d - k = d by omega]
        match d with
        | 0 => simp [show k < l.length by omega]
        | 1 => simp [h]
        | d + 2 => simp [show ¬ (k + 1 = k + (d + 2)) by omega]; congr 1; omega
    have hl : l = l.take k ++ l[k] :: l[k + 1] :: l.drop (k + 2) := by
      conv => lhs; rw [split3 l k (by omega), split3 (l.drop (k + 1)) 0 (by simp; omega)]
      simp
    rw [hs] at e
    conv at e => rhs; rw [hl]
    simp only [List.foldl_append, List.foldl_cons] at e
    exact cbyte_swap (foldl_cbyte_inj _ e)
  · intro e
    congr 1
    rw [← e, List.set_getElem_self]
    rw [e, List.set_getElem_self]
theorem or_one_ne (x b : UInt8) : x ^^^ (b ||| 1) ≠ x := by
  intro h
  have h4 := congrArg (x ^^^ ·) h
  simp only [← UInt8.xor_assoc, UInt8.xor_self, UInt8.zero_xor] at h4
  have h5 := congrArg (fun z : UInt8 => z.toNat % 2) h4
  simp only [UInt8.toNat_or] at h5
  have : (b.toNat ||| (1 : UInt8).toNat) % 2 = 1 := by
    have : (1 : UInt8).toNat = 1 := rfl
    rw [this, Nat.or_mod_two_pow (n := 1)]
    rcases Nat.mod_two_eq_zero_or_one b.toNat with h | h <;> simp [h]
  have z : (0 : UInt8).toNat = 0 := rfl
  rw [this, z] at h5
  exact absurd h5 (by decide)
end Go.Proofs.Ytoedmjibhpajjaa
