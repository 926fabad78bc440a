/- Texts as strings that are compared as they are: plain functions and their laws; no Go in it. -/
import Derived.Test.YthjnefpnnifjiaaDoorNum
import Derived.Lib.Replace
import Derived.Lib.CountLaws
import Derived.Lib.ReplaceLaws
import GoSem.Op.String
set_option linter.unusedVariables false
set_option linter.unusedSimpArgs false
namespace Go.Proofs.YthjnefpnnifjiaaDoor
/-- A text's letters, each 0 with 255 behind it. -/
def esc : List UInt8 → List UInt8
  | [] => []
  | c :: r => if c = 0 then 0 :: 255 :: esc r else c :: esc r
def text (s : List UInt8) : List UInt8 := esc s ++ [0, 1]
def takeT : List UInt8 → Option (List UInt8 × List UInt8)
  | [] => none
  | [_] => none
  | c :: d :: r => if c = 0 then if d = 1 then some ([], r) else if d = 255 then (takeT r).map fun x => (0 :: x.1, x.2) else none else (takeT (d :: r)).map fun x => (c :: x.1, x.2)
def pre (acc : List UInt8) (o : Option (List UInt8 × List UInt8)) : Option (List UInt8 × List UInt8) := o.map fun x => (acc ++ x.1, x.2)
theorem pre_nil (o : Option (List UInt8 × List UInt8)) : pre [] o = o := by cases o <;> rfl
theorem pre_none (a : List UInt8) : pre a none = none := rfl
theorem pre_pre (a b : List UInt8) (o : Option (List UInt8 × List UInt8)) : pre a (pre b o) = pre (a ++ b) o := by cases o <;> simp [pre]
theorem takeT_cons {c : UInt8} (h : c ≠ 0) : ∀ r, takeT (c :: r) = pre [c] (takeT r)
  | [] => rfl
  | d :: r => by rw [takeT, if_neg h]; rfl
theorem takeT_00 (r : List UInt8) : takeT (0 :: 255 :: r) = pre [0] (takeT r) := by rw [takeT, if_pos rfl, if_neg (by decide), if_pos rfl]; rfl
theorem takeT_01 (r : List UInt8) : takeT (0 :: 1 :: r) = some ([], r) := by rw [takeT, if_pos rfl, if_pos rfl]
theorem takeT_0x {d : UInt8} (h1 : d ≠ 1) (h2 : d ≠ 255) (r : List UInt8) : takeT (0 :: d :: r) = none := by rw [takeT, if_pos rfl, if_neg h1, if_neg h2]
theorem takeT_head (t : List UInt8) : ∀ h : List UInt8, (0 : UInt8) ∉ h → takeT (h ++ t) = pre h (takeT t)
  | [], _ => (pre_nil _).symm
  | c :: h, hn => by
    have hc : c ≠ 0 := fun e => hn (by rw [e]; exact List.mem_cons_self)
    rw [List.cons_append, takeT_cons hc, takeT_head t h fun hm => hn (List.mem_cons_of_mem _ hm), pre_pre]; rfl
theorem takeT_no (h : List UInt8) (hn : (0 : UInt8) ∉ h) : takeT h = none := by
  have := takeT_head [] h hn
  rw [List.append_nil] at this
  rw [this]; rfl
theorem takeT_text (x : List UInt8) : ∀ s, takeT (text s ++ x) = some (s, x)
  | [] => takeT_01 x
  | c :: s => by
    have ih := takeT_text x s
    unfold text at ih ⊢
    unfold esc
    by_cases h : c = 0
    · rw [if_pos h, List.cons_append, List.cons_append, List.cons_append, List.cons_append, takeT_00, ih, h]; rfl
    · rw [if_neg h, List.cons_append, List.cons_append, takeT_cons h, ih]; rfl
theorem takeT_very : ∀ (n : Nat) (l s x : List UInt8), l.length ≤ n → takeT l = some (s, x) → l = text s ++ x
  | _, [], s, x, _, h => by cases h
  | _, [c], s, x, _, h => by cases h
  | 0, c :: d :: r, s, x, hn, h => by simp at hn
  | n + 1, c :: d :: r, s, x, hn, h => by
    simp only [List.length_cons] at hn
    rw [takeT] at h
    split at h
    · rename_i hc
      split at h
      · rename_i hd; cases h; rw [hc, hd]; rfl
      · split at h
        · rename_i hd
          cases ht : takeT r with
          | none => rw [ht] at h; cases h
          | some y =>
            rw [ht] at h
            cases h
            have := takeT_very n r y.1 y.2 (by omega) ht
            rw [hc, hd]
            unfold text esc
            rw [if_pos rfl]
            have h2 : r = esc y.1 ++ [0, 1] ++ y.2 := this
            simp only [List.cons_append]
            rw [← h2]
        · cases h
    · rename_i hc
      cases ht : takeT (d :: r) with
      | none => rw [ht] at h; cases h
      | some y =>
        rw [ht] at h
        cases h
        have := takeT_very n (d :: r) y.1 y.2 (by simp only [List.length_cons]; omega) ht
        unfold text esc
        rw [if_neg hc]
        have h2 : d :: r = esc y.1 ++ [0, 1] ++ y.2 := this
        simp only [List.cons_append]
        rw [h2]
theorem takeT_cut (t : List UInt8) (k : Nat) (hk : k < (text t).length) : takeT ((text t).take k) = none := by
  cases h : takeT ((text t).take k) with
  | none => rfl
  | some y =>
    have h1 := takeT_very _ _ y.1 y.2 (Nat.le_refl _) h
    have h2 : text t = text y.1 ++ (y.2 ++ (text t).drop k) := by rw [← List.append_assoc, ← h1, List.take_append_drop]
    have h3 := takeT_text [] t
    rw [List.append_nil, h2, takeT_text] at h3
    have h4 := congrArg Prod.snd (Option.some.inj h3)
    have h5 := congrArg List.length h4
    simp only [List.length_append, List.length_drop, List.length_nil] at h5
    omega
/-! Where the first 0 stands. -/
theorem idx0 : ∀ l : List UInt8, (Lib.index l [0] = -1 ∧ (0 : UInt8) ∉ l) ∨ ∃ h r, l = h ++ 0 :: r ∧ (0 : UInt8) ∉ h ∧ Lib.index l [0] = (h.length : Nat)
  | [] => .inl ⟨rfl, by simp⟩
  | c :: l => by
    by_cases hc : c = 0
    · subst hc
      exact .inr ⟨[], l, rfl, by simp, by simp [Lib.index]⟩
    · have hp : ([0] : List UInt8).isPrefixOf (c :: l) = false := by
        simp only [List.isPrefixOf, Bool.and_true]
        rw [beq_eq_false_iff_ne]; exact fun e => hc e.symm
      rcases idx0 l with ⟨h1, h2⟩ | ⟨h, r, h1, h2, h3⟩
      · refine .inl ⟨?_, ?_⟩
        · rw [Lib.index, hp, h1]; rfl
        · simp only [List.mem_cons, not_or]; exact ⟨fun e => hc e.symm, h2⟩
      · refine .inr ⟨c :: h, r, by rw [h1]; rfl, ?_, ?_⟩
        · simp only [List.mem_cons, not_or]; exact ⟨fun e => hc e.symm, h2⟩
        · rw [Lib.index, hp, h3]
          have : ¬ (((h.length : Nat) : Int) == -1) = true := by rw [beq_iff_eq]; omega
          rw [if_neg (by decide), if_neg this]
          simp
theorem esc_no : ∀ l : List UInt8, (0 : UInt8) ∉ l → esc l = l
  | [], _ => rfl
  | c :: l, hn => by
    have hc : c ≠ 0 := fun e => hn (by rw [e]; exact List.mem_cons_self)
    rw [esc, if_neg hc, esc_no l fun hm => hn (List.mem_cons_of_mem _ hm)]
theorem esc_app : ∀ h r : List UInt8, esc (h ++ r) = esc h ++ esc r
  | [], r => rfl
  | c :: h, r => by
    rw [List.cons_append, esc, esc, esc_app h r]
    split <;> rfl
theorem esc_len : ∀ l : List UInt8, (esc l).length ≤ 2 * l.length
  | [] => by simp [esc]
  | c :: l => by
    have := esc_len l
    rw [esc]
    split <;> simp only [List.length_cons] <;> omega
theorem replaceK_esc : ∀ (n : Nat) (l : List UInt8), l.length ≤ n → Lib.replaceK [0] [0, 255] (Lib.count l [0]) l = esc l
  | n, l, hn => by
    rcases idx0 l with ⟨h1, h2⟩ | ⟨h, r, h1, h2, h3⟩
    · rw [Lib.count_miss h1, esc_no l h2]; rfl
    · cases n with
      | zero => subst h1; simp at hn
      | succ n =>
        have hl : r.length ≤ n := by subst h1; simp at hn; omega
        have hd : l.drop (h.length + ([0] : List UInt8).length) = r := by subst h1; simp [List.drop_append]
        have ht : l.take h.length = h := by subst h1; simp
        rw [Lib.count_hit (by simp) h3, hd, Nat.add_comm, Lib.replaceK_hit _ _ _ _ _ h3, hd, ht, replaceK_esc n r hl, h1, esc_app, esc_no h h2, esc, if_pos rfl]
        simp
theorem replaceAll_esc (l : List UInt8) : Lib.replaceAll l [0] [0, 255] = esc l := by
  unfold Lib.replaceAll Lib.replace
  rw [if_neg (by decide)]
  unfold Lib.replaceNum
  rw [if_pos (by left; decide)]
  exact replaceK_esc _ l (Nat.le_refl _)
theorem count0_le (l : List UInt8) : Lib.count l [0] ≤ l.length := by
  have h := Lib.countB_mul_le ⟨#[0]⟩ (by decide) _ ⟨l.toArray⟩ (Nat.le_refl _)
  have h2 : (⟨#[0]⟩ : ByteArray).size = 1 := rfl
  rw [h2, Nat.mul_one] at h
  exact h
/-! Which string is the lower one. -/
theorem less_app (x y : List UInt8) : ∀ a : List UInt8, Op.bytesLess (a ++ x) (a ++ y) = Op.bytesLess x y
  | [] => rfl
  | c :: a => by
    rw [List.cons_append, List.cons_append, Op.bytesLess, less_app x y a]
    simp
theorem less_self : ∀ a : List UInt8, Op.bytesLess a a = false
  | [] => rfl
  | c :: a => by rw [Op.bytesLess, less_self a]; simp
theorem less_be : ∀ (k n m : Nat), Op.bytesLess (be k n) (be k m) = decide (n % 256 ^ k < m % 256 ^ k)
  | 0, n, m => by simp [be, Op.bytesLess]; omega
  | k + 1, n, m => by
    have hN : 0 < 256 ^ k := Nat.pow_pos (by decide)
    have e : ∀ n, n % 256 ^ (k + 1) = (n / 256 ^ k % 256) * 256 ^ k + n % 256 ^ k := fun n => by
      rw [Nat.pow_succ, Nat.mod_mul, Nat.mul_comm, Nat.add_comm]
    have hu : ∀ n, (UInt8.ofNat (n / 256 ^ k)).toNat = n / 256 ^ k % 256 := fun n => UInt8.toNat_ofNat'
    rw [be_front, be_front, Op.bytesLess, less_be k, e n, e m]
    have hr1 := Nat.mod_lt n hN
    have hr2 := Nat.mod_lt m hN
    have h1 : (UInt8.ofNat (n / 256 ^ k) < UInt8.ofNat (m / 256 ^ k)) ↔ n / 256 ^ k % 256 < m / 256 ^ k % 256 := by rw [UInt8.lt_iff_toNat_lt, hu, hu]
    have h2 : (UInt8.ofNat (n / 256 ^ k) = UInt8.ofNat (m / 256 ^ k)) ↔ n / 256 ^ k % 256 = m / 256 ^ k % 256 := by rw [← UInt8.toNat_inj, hu, hu]
    generalize n / 256 ^ k % 256 = q at *
    generalize m / 256 ^ k % 256 = q' at *
    generalize n % 256 ^ k = r at *
    generalize m % 256 ^ k = r' at *
    generalize 256 ^ k = N at *
    rw [Bool.eq_iff_iff]
    simp only [Bool.or_eq_true, Bool.and_eq_true, decide_eq_true_eq, beq_iff_eq, h1, h2]
    constructor
    · rintro (h | ⟨h, h'⟩)
      · have := Nat.mul_le_mul_right N (show q + 1 ≤ q' from h)
        rw [Nat.add_mul, Nat.one_mul] at this
        omega
      · subst h; omega
    · intro h
      rcases Nat.lt_trichotomy q q' with h3 | h3 | h3
      · exact .inl h3
      · subst h3; exact .inr ⟨rfl, by omega⟩
      · exfalso
        have := Nat.mul_le_mul_right N (show q' + 1 ≤ q from h3)
        rw [Nat.add_mul, Nat.one_mul] at this
        omega
theorem u8_pos {c : UInt8} (h : c ≠ 0) : (0 : UInt8) < c := by
  rw [UInt8.lt_iff_toNat_lt]
  have : c.toNat ≠ 0 := fun e => h (UInt8.toNat_inj.1 e)
  show 0 < c.toNat
  omega
theorem u8_not (c : UInt8) : ¬ c < 0 := by
  rw [UInt8.lt_iff_toNat_lt]
  show ¬ c.toNat < 0
  omega
theorem less_text (x y : List UInt8) : ∀ a b : List UInt8, a ≠ b → Op.bytesLess (text a ++ x) (text b ++ y) = Op.bytesLess a b
  | [], [], h => absurd rfl h
  | [], d :: b, _ => by
    by_cases hd : d = 0
    · simp [text, esc, hd, Op.bytesLess]
    · simp [text, esc, hd, Op.bytesLess, u8_pos hd]
  | c :: a, [], _ => by
    by_cases hc : c = 0
    · simp [text, esc, hc, Op.bytesLess]
    · simp [text, esc, hc, Op.bytesLess]
  | c :: a, d :: b, h => by
    have ih := fun h' => less_text x y a b h'
    unfold text at ih
    by_cases hc : c = 0
    · by_cases hd : d = 0
      · have hab : a ≠ b := fun e => h (by rw [hc, hd, e])
        have this : Op.bytesLess (esc a ++ 0 :: 1 :: x) (esc b ++ 0 :: 1 :: y) = Op.bytesLess a b := by simpa only [List.append_assoc, List.cons_append, List.nil_append] using ih hab
        simp [text, esc, hc, hd, Op.bytesLess, this]
      · simp [text, esc, hc, hd, Op.bytesLess, u8_pos hd]
    · by_cases hd : d = 0
      · have e : (c == 0) = false := by simp [hc]
        simp [text, esc, hc, hd, Op.bytesLess, e]
      · by_cases hcd : c = d
        · have hab : a ≠ b := fun e => h (by rw [hcd, e])
          have this : Op.bytesLess (esc a ++ 0 :: 1 :: x) (esc b ++ 0 :: 1 :: y) = Op.bytesLess a b := by simpa only [List.append_assoc, List.cons_append, List.nil_append] using ih hab
          simp [text, esc, hcd, hd, Op.bytesLess, this]
        · have e : (c == d) = false := by simp [hcd]
          simp [text, esc, hc, hd, Op.bytesLess, e]
/-! A number with its sign turned. -/
def i63 (m : Int) : Nat := (m + 9223372036854775808).toNat
theorem nat_xor63 (n : Nat) (h : n < 9223372036854775808) : n ^^^ 9223372036854775808 = n + 9223372036854775808 := by
  apply Nat.eq_of_testBit_eq
  intro i
  have e : (9223372036854775808 : Nat) = 2 ^ 63 := by decide
  rw [Nat.testBit_xor, e, Nat.testBit_two_pow, Nat.add_comm n]
  rcases Nat.lt_trichotomy i 63 with hi | hi | hi
  · rw [Nat.testBit_two_pow_add_gt hi, decide_eq_false (by omega)]; simp
  · subst hi; rw [Nat.testBit_two_pow_add_eq]; simp
  · rw [decide_eq_false (by omega)]
    have h1 : n < 2 ^ i := Nat.lt_of_lt_of_le h (Nat.le_trans (show 9223372036854775808 ≤ 2 ^ 63 by decide) (Nat.pow_le_pow_right (by decide) (by omega)))
    have h2 : 2 ^ 63 + n < 2 ^ i := by
      have : 2 ^ 64 ≤ 2 ^ i := Nat.pow_le_pow_right (by decide) (by omega)
      have e2 : (2 : Nat) ^ 64 = 18446744073709551616 := by decide
      have e3 : (2 : Nat) ^ 63 = 9223372036854775808 := by decide
      omega
    rw [Nat.testBit_lt_two_pow h1, Nat.testBit_lt_two_pow h2]; rfl
theorem nat_xor63' (n : Nat) (h : n < 18446744073709551616) : n ^^^ 9223372036854775808 = if n < 9223372036854775808 then n + 9223372036854775808 else n - 9223372036854775808 := by
  split
  · exact nat_xor63 n ‹_›
  · have := nat_xor63 (n - 9223372036854775808) (by omega)
    rw [Nat.sub_add_cancel (by omega)] at this
    conv => lhs; rw [← this]
    rw [Nat.xor_assoc, Nat.xor_self, Nat.xor_zero]
end Go.Proofs.YthjnefpnnifjiaaDoor
