/- A frame as plain data, its sector, and what of a sector is a frame: no Go in it. -/
import Derived.Test.YtimknlabhhopcaaNum
import Derived.Test.YtimknlabhhopcaaCrcP
set_option linter.unusedVariables false
set_option linter.unusedSimpArgs false
namespace Go.Proofs.Ytimknlabhhopcaa
structure Fr where
  epoch : Nat
  seq : Nat
  flag : UInt8
  body : List UInt8
namespace Fr
/-- Numbers of 32 bits. -/
structure Ok (f : Fr) : Prop where
  e : f.epoch < 4294967296
  s : f.seq < 4294967296
def head (f : Fr) : List UInt8 := be 4 f.epoch ++ be 4 f.seq ++ [f.flag, UInt8.ofNat f.body.length] ++ f.body
theorem head_length (f : Fr) : f.head.length = 10 + f.body.length := by simp [head]; omega
def f60 (f : Fr) : List UInt8 := f.head ++ List.replicate (60 - f.head.length) 0
theorem f60_length {f : Fr} (h : f.body.length ≤ 50) : f.f60.length = 60 := by simp [f60, head_length]; omega
def pack (f : Fr) : List UInt8 := f.f60 ++ be 4 (crcOf f.f60).toNat
theorem pack_length {f : Fr} (h : f.body.length ≤ 50) : f.pack.length = 64 := by simp [pack, f60_length h]
/-- A sector's frame, as its bytes tell it. -/
def told (b : List UInt8) : Fr := ⟨num (b.take 4), num ((b.drop 4).take 4), b.getD 8 0, (b.drop 10).take (b.getD 9 0).toNat⟩
theorem told_ok (b : List UInt8) : (told b).Ok := by
  constructor
  · have : num (b.take 4) < 256 ^ 4 := Nat.lt_of_lt_of_le (num_lt _ _ rfl) (Nat.pow_le_pow_right (by decide) (by simp; omega))
    simpa [told] using this
  · have : num ((b.drop 4).take 4) < 256 ^ 4 := Nat.lt_of_lt_of_le (num_lt _ _ rfl) (Nat.pow_le_pow_right (by decide) (by simp; omega))
    simpa [told] using this
/-- Is a sector a frame? -/
def is (b : List UInt8) : Bool := decide (b.length = 64) && decide ((b.getD 9 0).toNat ≤ 50) && ((told b).pack == b)
def none : Fr := ⟨0, 0, 0, []⟩
/-- What Parse tells. -/
def parse (b : List UInt8) : Fr := if is b then told b else none
def code (b : List UInt8) : Nat := if is b then 0 else 2
/-! The steps in which Pack lays a sector. -/
theorem lay1 (l8 : List UInt8) (h : l8.length = 8) : (List.replicate 64 (0 : UInt8)).take 0 ++ l8 ++ (List.replicate 64 0).drop (0 + l8.length) = l8 ++ List.replicate 56 0 := by simp [h]
theorem lay2 (l8 : List UInt8) (x : UInt8) (h : l8.length = 8) : (l8 ++ List.replicate 56 (0 : UInt8)).set 8 x = l8 ++ [x] ++ List.replicate 55 0 := by
  rw [List.set_append_right _ _ (by omega), h]; simp [List.replicate_succ]
theorem lay3 (l8 : List UInt8) (x y : UInt8) (h : l8.length = 8) : (l8 ++ [x] ++ List.replicate 55 (0 : UInt8)).set 9 y = l8 ++ [x, y] ++ List.replicate 54 0 := by
  rw [List.set_append_right _ _ (by simp; omega)]; simp [h, List.replicate_succ]
theorem lay4 (l8 m : List UInt8) (x y : UInt8) (h : l8.length = 8) (hm : m.length ≤ 50) : (l8 ++ [x, y] ++ List.replicate 54 (0 : UInt8)).take 10 ++ m ++ (l8 ++ [x, y] ++ List.replicate 54 (0 : UInt8)).drop (10 + m.length) = l8 ++ [x, y] ++ m ++ List.replicate (54 - m.length) 0 := by
  have h10 : (l8 ++ [x, y]).length = 10 := by simp [h]
  rw [List.take_append_of_le_length (by omega), List.take_of_length_le (by omega), List.drop_append, List.drop_of_length_le (by omega), h10, Nat.add_sub_cancel_left, List.nil_append, List.drop_replicate]
theorem lay_f60 (f : Fr) (h : f.body.length ≤ 50) : be 4 f.epoch ++ be 4 f.seq ++ [f.flag, UInt8.ofNat f.body.length] ++ f.body ++ List.replicate (54 - f.body.length) 0 = f.f60 ++ List.replicate 4 0 := by
  unfold f60
  rw [head_length, show 54 - f.body.length = (60 - (10 + f.body.length)) + 4 by omega, ← List.replicate_append_replicate, List.append_assoc f.head]
  rfl
end Fr
end Go.Proofs.Ytimknlabhhopcaa
