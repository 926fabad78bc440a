/- Plain laws of frames: what was packed is told; no Go in it. -/
import Derived.Test.YtimknlabhhopcaaCutP
set_option linter.unusedVariables false
set_option linter.unusedSimpArgs false
namespace Go.Proofs.Ytimknlabhhopcaa
namespace Fr
theorem ext' {f g : Fr} (h1 : f.epoch = g.epoch) (h2 : f.seq = g.seq) (h3 : f.flag = g.flag) (h4 : f.body = g.body) : f = g := by cases f; cases g; simp_all
/-- A packed frame, as one list of bytes. -/
theorem pack_eq (f : Fr) : f.pack = be 4 f.epoch ++ (be 4 f.seq ++ (f.flag :: UInt8.ofNat f.body.length :: (f.body ++ (List.replicate (60 - f.head.length) 0 ++ be 4 (crcOf f.f60).toNat)))) := by
  have e : f.pack = f.head ++ (List.replicate (60 - f.head.length) 0 ++ be 4 (crcOf f.f60).toNat) := by
    unfold pack
    generalize be 4 (crcOf f.f60).toNat = c
    unfold f60
    rw [List.append_assoc]
  rw [e]
  generalize be 4 (crcOf f.f60).toNat = c
  generalize List.replicate (60 - f.head.length) (0 : UInt8) = z
  simp [head]
theorem take_be {k n : Nat} {l : List UInt8} : (be k n ++ l).take k = be k n := by rw [List.take_append_of_le_length (by simp), List.take_of_length_le (by simp)]
theorem drop_be {k n : Nat} {l : List UInt8} : (be k n ++ l).drop k = l := by rw [List.drop_append_of_le_length (by simp), List.drop_of_length_le (by simp)]; rfl
theorem told_pack {f : Fr} (ok : f.Ok) (h : f.body.length ≤ 50) : told f.pack = f := by
  have e8 : f.pack.drop 8 = f.flag :: UInt8.ofNat f.body.length :: (f.body ++ (List.replicate (60 - f.head.length) 0 ++ be 4 (crcOf f.f60).toNat)) := by
    rw [pack_eq, show (8 : Nat) = 4 + 4 from rfl, ← List.drop_drop, drop_be, drop_be]
  have e4 : f.pack.drop 4 = be 4 f.seq ++ f.pack.drop 8 := by rw [e8, pack_eq, drop_be]
  have g8 : f.pack.getD 8 0 = f.flag := by
    have : (f.pack.drop 8)[0]? = some f.flag := by rw [e8]; rfl
    rw [List.getElem?_drop] at this
    simp [List.getD_eq_getElem?_getD, this]
  have g9 : f.pack.getD 9 0 = UInt8.ofNat f.body.length := by
    have : (f.pack.drop 8)[1]? = some (UInt8.ofNat f.body.length) := by rw [e8]; rfl
    rw [List.getElem?_drop] at this
    simp [List.getD_eq_getElem?_getD, this]
  have e10 : f.pack.drop 10 = f.body ++ (List.replicate (60 - f.head.length) 0 ++ be 4 (crcOf f.f60).toNat) := by
    rw [show (10 : Nat) = 8 + 2 from rfl, ← List.drop_drop, e8]; rfl
  have hn : (UInt8.ofNat f.body.length).toNat = f.body.length := by
    have : (UInt8.ofNat f.body.length).toNat = f.body.length % 256 := UInt8.toNat_ofNat'
    omega
  refine ext' ?_ ?_ g8 ?_
  · show num (f.pack.take 4) = _
    rw [pack_eq, take_be, num_be]
    exact Nat.mod_eq_of_lt ok.e
  · show num ((f.pack.drop 4).take 4) = _
    rw [e4, take_be, num_be]
    exact Nat.mod_eq_of_lt ok.s
  · show (f.pack.drop 10).take (f.pack.getD 9 0).toNat = _
    rw [g9, hn, e10, List.take_append_of_le_length (by omega), List.take_of_length_le (by omega)]
theorem pack_getD9 {f : Fr} (ok : f.Ok) (h : f.body.length ≤ 50) : (f.pack.getD 9 0).toNat ≤ 50 := by
  have h1 := told_pack ok h
  have h2 : (f.pack.drop 10).take (f.pack.getD 9 0).toNat = f.body := congrArg Fr.body h1
  have h3 := congrArg List.length h2
  have hl := pack_length h
  have hb : (f.pack.getD 9 0).toNat < 256 := (f.pack.getD 9 0).toNat_lt
  simp [hl] at h3
  have : (UInt8.ofNat f.body.length).toNat = f.body.length % 256 := UInt8.toNat_ofNat'
  have g9 : f.pack.getD 9 0 = UInt8.ofNat f.body.length := by
    have e8 : f.pack.drop 8 = f.flag :: UInt8.ofNat f.body.length :: (f.body ++ (List.replicate (60 - f.head.length) 0 ++ be 4 (crcOf f.f60).toNat)) := by
      rw [pack_eq, show (8 : Nat) = 4 + 4 from rfl, ← List.drop_drop, drop_be, drop_be]
    have : (f.pack.drop 8)[1]? = some (UInt8.ofNat f.body.length) := by rw [e8]; rfl
    rw [List.getElem?_drop] at this
    simp [List.getD_eq_getElem?_getD, this]
  rw [g9, this]
  omega
theorem is_pack {f : Fr} (ok : f.Ok) (h : f.body.length ≤ 50) : is f.pack = true := by
  have := pack_getD9 ok h
  simp only [is, pack_length h, told_pack ok h, this]
  simp
theorem parse_pack {f : Fr} (ok : f.Ok) (h : f.body.length ≤ 50) : parse f.pack = f := by simp [parse, is_pack ok h, told_pack ok h]
theorem code_pack {f : Fr} (ok : f.Ok) (h : f.body.length ≤ 50) : code f.pack = 0 := by simp [code, is_pack ok h]
/-- A frame of a sector: the sector is its very bytes. -/
theorem pack_told {b : List UInt8} (h : is b = true) : (told b).pack = b ∧ (told b).body.length ≤ 50 := by
  simp only [is, Bool.and_eq_true, decide_eq_true_eq, beq_iff_eq] at h
  refine ⟨h.2, ?_⟩
  simp only [told, List.length_take]
  omega
end Fr
theorem cutF_ex : cutF 1 5 (List.replicate 51 0) = [⟨1, 5, 1, List.replicate 50 0⟩, ⟨1, 6, 2, [0]⟩] := by
  unfold cutF
  rw [cuts_more (by simp), cuts_last (by simp)]
  rfl
end Go.Proofs.Ytimknlabhhopcaa
