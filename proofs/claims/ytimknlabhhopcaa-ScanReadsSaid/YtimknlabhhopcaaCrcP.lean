/- The checksum as a plain function, and its laws: no Go in it. -/
import Derived.Laws.Entries
import Derived.Laws.BitsLemmas
set_option linter.unusedSimpArgs false
namespace Go.Proofs.Ytimknlabhhopcaa
/-- One step. -/
def cstep (c : BitVec 32) : BitVec 32 := (c >>> 1) ^^^ (2197175160#32 * (c &&& 1#32))
def csteps : Nat → BitVec 32 → BitVec 32
  | 0, c => c
  | n + 1, c => cstep (csteps n c)
/-- The table's number of a byte. -/
def ctab (i : Nat) : BitVec 32 := csteps 8 (BitVec.ofNat 32 i)
def tabCells (n : Nat) : List Value := (List.range n).map fun i => .int .u32 (ctab i).toNat
theorem tabCells_succ (n : Nat) : tabCells (n + 1) = tabCells n ++ [.int .u32 (ctab n).toNat] := by simp [tabCells, List.range_succ]
@[simp] theorem tabCells_length (n : Nat) : (tabCells n).length = n := by simp [tabCells]
theorem tabCells_one (n : Nat) : ∀ v ∈ tabCells n, v.oneCell' = true := fun v h => by
  simp only [tabCells, List.mem_map] at h
  obtain ⟨i, _, rfl⟩ := h; rfl
theorem bits_xor32 (a b : BitVec 32) : bits .xor .u32 (a.toNat : Int) (b.toNat : Int) = ((a ^^^ b).toNat : Int) := by
  have h : ∀ c : BitVec 32, BitVec.ofInt 32 (c.toNat : Int) = c := fun c => by simp
  have hb := (a ^^^ b).isLt
  show IntKind.u32.wrap (((BitVec.ofInt 32 (a.toNat : Int)) ^^^ (BitVec.ofInt 32 (b.toNat : Int))).toNat : Int) = _
  rw [h, h, IntKind.wrap_u32]
  omega
theorem bits_and32 (a b : BitVec 32) : bits .and .u32 (a.toNat : Int) (b.toNat : Int) = ((a &&& b).toNat : Int) := by
  have h : ∀ c : BitVec 32, BitVec.ofInt 32 (c.toNat : Int) = c := fun c => by simp
  have hb := (a &&& b).isLt
  show IntKind.u32.wrap (((BitVec.ofInt 32 (a.toNat : Int)) &&& (BitVec.ofInt 32 (b.toNat : Int))).toNat : Int) = _
  rw [h, h, IntKind.wrap_u32]
  omega
theorem shr_int (c : BitVec 32) (n : Nat) : ((c.toNat : Int) / 2 ^ n) = ((c >>> n).toNat : Int) := by
  simp [Nat.shiftRight_eq_div_pow]
theorem mul_int (a b : BitVec 32) : ((a.toNat : Int) * (b.toNat : Int)) % 4294967296 = ((a * b).toNat : Int) := by
  simp [BitVec.toNat_mul]
theorem cstep_int (c : BitVec 32) : bits .xor .u32 ((c.toNat : Int) / 2) (2197175160 * bits .and .u32 (c.toNat : Int) 1 % 4294967296) = ((cstep c).toNat : Int) := by
  have h1 : bits .and .u32 (c.toNat : Int) 1 = ((c &&& 1#32).toNat : Int) := bits_and32 c 1#32
  have h2 : (2197175160 : Int) * ((c &&& 1#32).toNat : Int) % 4294967296 = ((2197175160#32 * (c &&& 1#32)).toNat : Int) := mul_int 2197175160#32 _
  have h3 : ((c.toNat : Int) / (2 : Int)) = ((c >>> 1).toNat : Int) := by have := shr_int c 1; simpa using this
  rw [h1, h2, h3, bits_xor32]; rfl
theorem not_int (c : BitVec 32) : bits .xor .u32 IntKind.u32.max (c.toNat : Int) = ((~~~ c).toNat : Int) := by
  have h : (IntKind.u32.max : Int) = ((4294967295#32).toNat : Int) := by decide
  rw [h, bits_xor32]
  rw [show (4294967295#32) = BitVec.allOnes 32 from by decide, BitVec.allOnes_xor]
/-- A byte more. -/
def cbyte (c : BitVec 32) (x : UInt8) : BitVec 32 := ctab (c.setWidth 8 ^^^ x.toBitVec).toNat ^^^ (c >>> 8)
def crcMore (c : BitVec 32) (l : List UInt8) : BitVec 32 := ~~~ (l.foldl cbyte (~~~ c))
def crcOf (l : List UInt8) : BitVec 32 := crcMore 0 l
theorem bits_xor8 (a b : BitVec 8) : bits .xor .u8 (a.toNat : Int) (b.toNat : Int) = ((a ^^^ b).toNat : Int) := by
  have h : ∀ c : BitVec 8, BitVec.ofInt 8 (c.toNat : Int) = c := fun c => by simp
  have hb := (a ^^^ b).isLt
  show IntKind.u8.wrap (((BitVec.ofInt 8 (a.toNat : Int)) ^^^ (BitVec.ofInt 8 (b.toNat : Int))).toNat : Int) = _
  rw [h, h, IntKind.wrap_u8]
  omega
theorem low_int (c : BitVec 32) : (c.toNat : Int) % 256 = ((c.setWidth 8).toNat : Int) := by simp
theorem idx_int (c : BitVec 32) (x : UInt8) : bits .xor .u8 ((c.toNat : Int) % 256) (x.toNat : Int) = ((c.setWidth 8 ^^^ x.toBitVec).toNat : Int) := by
  rw [low_int]; exact bits_xor8 _ x.toBitVec
theorem cbyte_int (c : BitVec 32) (x : UInt8) : bits .xor .u32 ((ctab (c.setWidth 8 ^^^ x.toBitVec).toNat).toNat : Int) ((c.toNat : Int) / 256) = ((cbyte c x).toNat : Int) := by
  have h3 : ((c.toNat : Int) / (256 : Int)) = ((c >>> 8).toNat : Int) := by have := shr_int c 8; simpa using this
  rw [h3, bits_xor32]; rfl
theorem foldl_take {α β : Type} (f : α → β → α) (a : α) (l : List β) (k : Nat) (h : k < l.length) : (l.take (k + 1)).foldl f a = f ((l.take k).foldl f a) l[k] := by
  rw [List.take_succ_eq_append_getElem h, List.foldl_append]; rfl
theorem tabCells_get (n i : Nat) (h : i < n) : (tabCells n)[i]? = some (.int .u32 (ctab i).toNat) := by simp [tabCells, h]
/-- The reference's step. -/
theorem cstep_if (c : BitVec 32) : cstep c = if c.toNat % 2 = 1 then (c >>> 1) ^^^ 2197175160#32 else c >>> 1 := by
  have h : c &&& 1#32 = BitVec.ofNat 32 (c.toNat % 2) := by
    apply BitVec.eq_of_toNat_eq
    simp [BitVec.toNat_and, Nat.and_one_is_mod]
    omega
  unfold cstep
  rw [h]
  rcases Nat.mod_two_eq_zero_or_one c.toNat with h0 | h0 <;> rw [h0] <;> simp
theorem quo_int (c : BitVec 32) : (c.toNat : Int) / (2 : Int) = ((c >>> 1).toNat : Int) := by have := shr_int c 1; simpa using this
theorem cstep_odd (c : BitVec 32) (h : c.toNat % 2 = 1) : bits .xor .u32 ((c.toNat : Int) / 2) 2197175160 = ((cstep c).toNat : Int) := by
  rw [cstep_if, if_pos h, quo_int]
  exact bits_xor32 (c >>> 1) 2197175160#32
theorem cstep_even (c : BitVec 32) (h : ¬ c.toNat % 2 = 1) : (c.toNat : Int) / 2 = ((cstep c).toNat : Int) := by
  rw [cstep_if, if_neg h, quo_int]
theorem sub_not (c : BitVec 32) : (4294967295 - (c.toNat : Int)) % 4294967296 = ((~~~ c).toNat : Int) := by
  have := c.isLt
  rw [BitVec.toNat_not]; omega
theorem xor_byte (c : BitVec 32) (x : UInt8) : bits .xor .u32 (c.toNat : Int) (x.toNat : Int) = ((c ^^^ x.toBitVec.setWidth 32).toNat : Int) := by
  have h : (x.toNat : Int) = ((x.toBitVec.setWidth 32).toNat : Int) := by
    have := x.toNat_lt
    simp
  rw [h]; exact bits_xor32 _ _

/-! ### The steps are linear; the table does what they do -/
theorem cstep_xor (a b : BitVec 32) : cstep (a ^^^ b) = cstep a ^^^ cstep b := by
  have h : (a ^^^ b).toNat % 2 = (a.toNat % 2 + b.toNat % 2) % 2 := by
    rw [BitVec.toNat_xor, ← Nat.and_one_is_mod, ← Nat.and_one_is_mod a.toNat, ← Nat.and_one_is_mod b.toNat, Nat.and_xor_distrib_right]
    rcases (show a.toNat &&& 1 = 0 ∨ a.toNat &&& 1 = 1 by rw [Nat.and_one_is_mod]; omega) with h1 | h1 <;> rcases (show b.toNat &&& 1 = 0 ∨ b.toNat &&& 1 = 1 by rw [Nat.and_one_is_mod]; omega) with h2 | h2 <;> rw [h1, h2] <;> decide
  have hs : (a ^^^ b) >>> 1 = (a >>> 1) ^^^ (b >>> 1) := BitVec.ushiftRight_xor_distrib ..
  rw [cstep_if, cstep_if a, cstep_if b, h, hs]
  rcases Nat.mod_two_eq_zero_or_one a.toNat with h1 | h1 <;> rcases Nat.mod_two_eq_zero_or_one b.toNat with h2 | h2 <;> simp only [h1, h2] <;> simp
  · exact (BitVec.xor_assoc ..)
  · rw [BitVec.xor_assoc, BitVec.xor_comm (b >>> 1), ← BitVec.xor_assoc]
  · generalize a >>> 1 = x; generalize b >>> 1 = y
    apply BitVec.eq_of_getElem_eq
    intro i hi
    simp only [BitVec.getElem_xor]
    generalize x[i] = p; generalize y[i] = q; generalize (2197175160#32)[i] = r
    cases p <;> cases q <;> cases r <;> rfl
theorem csteps_xor (n : Nat) (a b : BitVec 32) : csteps n (a ^^^ b) = csteps n a ^^^ csteps n b := by
  induction n with
  | zero => rfl
  | succ n ih => simp only [csteps, ih, cstep_xor]
/-- Bits that are shifted out as zeros. -/
theorem csteps_high (n : Nat) (c : BitVec 32) (h : c.toNat % 2 ^ n = 0) : csteps n c = c >>> n := by
  induction n generalizing c with
  | zero => simp [csteps]
  | succ n ih =>
    have h1 : c.toNat % 2 ^ n = 0 := by
      have := Nat.mod_mod_of_dvd c.toNat (show 2 ^ n ∣ 2 ^ (n + 1) from ⟨2, by rw [Nat.pow_succ]⟩)
      rw [h] at this; simpa using this.symm
    simp only [csteps, ih c h1]
    rw [cstep_if, if_neg, BitVec.shiftRight_add]
    rw [BitVec.toNat_ushiftRight, Nat.shiftRight_eq_div_pow]
    have h2 : c.toNat = 2 ^ (n + 1) * (c.toNat / 2 ^ (n + 1)) := by
      have := Nat.div_add_mod c.toNat (2 ^ (n + 1)); omega
    rw [h2, Nat.pow_succ, Nat.mul_assoc, Nat.mul_div_cancel_left _ (by exact Nat.pos_of_ne_zero (by simp))]
    omega
/-- A byte more, by steps. -/
theorem cbyte_steps (c : BitVec 32) (x : UInt8) : cbyte c x = csteps 8 (c ^^^ x.toBitVec.setWidth 32) := by
  have hsplit : c ^^^ x.toBitVec.setWidth 32 = ((c >>> 8) <<< 8) ^^^ (c.setWidth 8 ^^^ x.toBitVec).setWidth 32 := by
    apply BitVec.eq_of_getElem_eq
    intro i hi
    simp only [BitVec.getElem_xor, BitVec.getElem_setWidth, BitVec.getElem_shiftLeft, BitVec.getElem_ushiftRight, BitVec.getLsbD_xor, BitVec.getLsbD_setWidth, BitVec.getLsbD_ushiftRight]
    by_cases h8 : i < 8
    · simp [h8, BitVec.getLsbD_eq_getElem hi]
    · have e : 8 + (i - 8) = i := by omega
      have hx : x.toBitVec.getLsbD i = false := BitVec.getLsbD_of_ge _ _ (by omega)
      simp [h8, e, hx, BitVec.getLsbD_eq_getElem hi]
  rw [hsplit, csteps_xor, csteps_high 8 ((c >>> 8) <<< 8)]
  · unfold cbyte ctab
    have e1 : ((c >>> 8) <<< 8) >>> 8 = c >>> 8 := by
      apply BitVec.eq_of_toNat_eq
      have := c.isLt
      simp only [BitVec.toNat_ushiftRight, BitVec.toNat_shiftLeft, Nat.shiftRight_eq_div_pow, Nat.shiftLeft_eq]
      omega
    rw [e1, BitVec.xor_comm]
    congr 2
    apply BitVec.eq_of_toNat_eq
    simp
  · rw [BitVec.toNat_shiftLeft, Nat.shiftLeft_eq]
    omega
/-- The reference's sum. -/
def crcMoreR (c : BitVec 32) (l : List UInt8) : BitVec 32 := ~~~ (l.foldl (fun c x => csteps 8 (c ^^^ x.toBitVec.setWidth 32)) (~~~ c))
theorem crcMoreR_eq (c : BitVec 32) (l : List UInt8) : crcMoreR c l = crcMore c l := by
  unfold crcMoreR crcMore
  congr 2
  funext c x
  exact (cbyte_steps c x).symm
/-! ### No two numbers of the table are alike; what the table is made of -/
theorem bv_ext (a b : BitVec 32) (h : ∀ i : Fin 32, a.getLsbD i = b.getLsbD i) : a = b := BitVec.eq_of_getLsbD_eq fun i hi => h ⟨i, hi⟩
/-- The step back: the top bit tells. -/
def cback (c : BitVec 32) : BitVec 32 := if c.msb then ((c ^^^ 2197175160#32) <<< 1) ||| 1#32 else c <<< 1
theorem cback_step (c : BitVec 32) : cback (cstep c) = c := by
  have hm : (c >>> 1).msb = false := by
    rw [BitVec.msb_eq_decide, BitVec.toNat_ushiftRight, Nat.shiftRight_eq_div_pow]
    have := c.isLt
    simp
    omega
  have hp : (2197175160#32).msb = true := by decide
  rw [cstep_if]
  split
  · rename_i h1
    have h2 : ((c >>> 1) ^^^ 2197175160#32).msb = true := by rw [BitVec.msb_xor, hm, hp]; rfl
    unfold cback
    rw [if_pos h2, BitVec.xor_assoc, BitVec.xor_self, BitVec.xor_zero]
    apply BitVec.eq_of_toNat_eq
    have h3 : ((c >>> 1) <<< 1).toNat % 2 = 0 := by
      rw [BitVec.toNat_shiftLeft, Nat.shiftLeft_eq]; omega
    have h4 : ((c >>> 1) <<< 1).toNat = c.toNat - 1 := by
      have := c.isLt
      rw [BitVec.toNat_shiftLeft, BitVec.toNat_ushiftRight, Nat.shiftLeft_eq, Nat.shiftRight_eq_div_pow]; omega
    rw [BitVec.toNat_or, h4]
    have h5 : c.toNat - 1 = 2 * ((c.toNat - 1) / 2) := by omega
    have : (c.toNat - 1) ||| (1#32).toNat = c.toNat - 1 + 1 := by
      rw [h5]
      exact (Nat.two_pow_add_eq_or_of_lt (i := 1) (b := 1) (by decide) ((c.toNat - 1) / 2)).symm
    rw [this]; omega
  · rename_i h1
    unfold cback
    rw [if_neg (by simp [hm])]
    apply BitVec.eq_of_toNat_eq
    have := c.isLt
    rw [BitVec.toNat_shiftLeft, BitVec.toNat_ushiftRight, Nat.shiftLeft_eq, Nat.shiftRight_eq_div_pow]
    omega
theorem cstep_inj {a b : BitVec 32} (h : cstep a = cstep b) : a = b := by rw [← cback_step a, h, cback_step]
theorem csteps_inj (n : Nat) {a b : BitVec 32} (h : csteps n a = csteps n b) : a = b := by
  induction n with
  | zero => exact h
  | succ n ih => exact ih (cstep_inj h)
theorem ctab_inj {i j : Nat} (hi : i < 256) (hj : j < 256) (h : ctab i = ctab j) : i = j := by
  have := congrArg BitVec.toNat (csteps_inj 8 h)
  simp at this
  omega
/-! ### Sums are linear, in threes -/
theorem cbyte_xor (c d : BitVec 32) (x y : UInt8) : cbyte (c ^^^ d) (x ^^^ y) = cbyte c x ^^^ cbyte d y := by
  rw [cbyte_steps, cbyte_steps, cbyte_steps, ← csteps_xor]
  congr 1
  have : (x ^^^ y).toBitVec.setWidth 32 = x.toBitVec.setWidth 32 ^^^ y.toBitVec.setWidth 32 := by
    rw [UInt8.toBitVec_xor, BitVec.setWidth_xor]
  rw [this]
  generalize x.toBitVec.setWidth 32 = p; generalize y.toBitVec.setWidth 32 = q
  rw [BitVec.xor_assoc, BitVec.xor_assoc]
  congr 1
  rw [← BitVec.xor_assoc, BitVec.xor_comm d, BitVec.xor_assoc]
theorem foldl_xor3 : ∀ (a b c : List UInt8) (s t u : BitVec 32), a.length = b.length → b.length = c.length →
    (List.zipWith (· ^^^ ·) (List.zipWith (· ^^^ ·) a b) c).foldl cbyte (s ^^^ t ^^^ u) = a.foldl cbyte s ^^^ b.foldl cbyte t ^^^ c.foldl cbyte u
  | [], [], [], s, t, u, _, _ => rfl
  | x :: a, y :: b, z :: c, s, t, u, h1, h2 => by
    simp only [List.zipWith_cons_cons, List.foldl_cons]
    rw [cbyte_xor, cbyte_xor]
    exact foldl_xor3 a b c _ _ _ (by simpa using h1) (by simpa using h2)
theorem crcOf_xor3 (a b c : List UInt8) (h1 : a.length = b.length) (h2 : b.length = c.length) : crcOf (List.zipWith (· ^^^ ·) (List.zipWith (· ^^^ ·) a b) c) = crcOf a ^^^ crcOf b ^^^ crcOf c := by
  have h := foldl_xor3 a b c (~~~ 0) (~~~ 0) (~~~ 0) h1 h2
  have e : (~~~ (0 : BitVec 32)) ^^^ (~~~ 0) ^^^ (~~~ 0) = ~~~ 0 := by decide
  rw [e] at h
  unfold crcOf crcMore
  rw [h]
  apply BitVec.eq_of_getElem_eq
  intro i hi
  simp only [BitVec.getElem_not, BitVec.getElem_xor]
  generalize (List.foldl cbyte (~~~ 0) a)[i] = p
  generalize (List.foldl cbyte (~~~ 0) b)[i] = q
  generalize (List.foldl cbyte (~~~ 0) c)[i] = r
  cases p <;> cases q <;> cases r <;> rfl
theorem ctab_xor (x y : UInt8) : ctab (x ^^^ y).toNat = ctab x.toNat ^^^ ctab y.toNat := by
  unfold ctab
  rw [← csteps_xor]
  congr 1
  apply BitVec.eq_of_toNat_eq
  have h1 := x.toNat_lt
  have h2 := y.toNat_lt
  have h3 := (x ^^^ y).toNat_lt
  simp only [BitVec.toNat_xor, BitVec.toNat_ofNat]
  rw [Nat.mod_eq_of_lt (by omega), Nat.mod_eq_of_lt (by omega), Nat.mod_eq_of_lt (by omega), UInt8.toNat_xor]
end Go.Proofs.Ytimknlabhhopcaa
