/- Checkpoints in two slots, as plain data: no Go in it. -/
import Derived.Test.YtfpgmnnecnaheaaVdP
import Derived.Test.YtfpgmnnecnaheaaCutP
import Derived.Test.YtfpgmnnecnaheaaFrWholeP
import Derived.Test.YtfpgmnnecnaheaaFrP2
set_option linter.unusedVariables false
set_option linter.unusedSimpArgs false
namespace Go.Proofs.Ytfpgmnnecnaheaa
def slMayB (n : Nat) (first size : Int) : Bool := decide (0 ≤ first ∧ 1 ≤ size ∧ first + 2 * size ≤ (n : Int))
/-- Frames laid from a sector on. -/
def slLay (D : Dk) (base : Nat) : List Fr → Dk
  | [] => D
  | f :: l => slLay (D.write base f.pack) (base + 1) l
theorem slLay_snoc : ∀ (l : List Fr) (D : Dk) (base : Nat) (f : Fr), slLay D base (l ++ [f]) = (slLay D base l).write (base + l.length) f.pack
  | [], D, base, f => rfl
  | g :: l, D, base, f => by
    show slLay (D.write base g.pack) (base + 1) (l ++ [f]) = _
    rw [slLay_snoc l]
    show (slLay (D.write base g.pack) (base + 1) l).write (base + 1 + l.length) f.pack = (slLay (D.write base g.pack) (base + 1) l).write (base + (g :: l).length) f.pack
    rw [List.length_cons, show base + 1 + l.length = base + (l.length + 1) by omega]
@[simp] theorem slLay_secs : ∀ (l : List Fr) (D : Dk) (base : Nat), (slLay D base l).secs = D.secs
  | [], D, base => rfl
  | g :: l, D, base => by show (slLay (D.write base g.pack) (base + 1) l).secs = D.secs; rw [slLay_secs l]; rfl
theorem slLay_rows : ∀ (l : List Fr) (D : Dk) (base : Nat), (slLay D base l).row.length = D.row.length + l.length
  | [], D, base => rfl
  | g :: l, D, base => by show (slLay (D.write base g.pack) (base + 1) l).row.length = _; rw [slLay_rows l]; simp [Dk.write]; omega
theorem slLay_ok : ∀ (l : List Fr) (D : Dk) (base : Nat), D.Ok → base + l.length ≤ D.secs.length → (∀ f ∈ l, f.body.length ≤ 50) → (slLay D base l).Ok
  | [], D, base, ok, _, _ => ok
  | g :: l, D, base, ok, h, hb => by
    simp only [List.length_cons] at h
    refine slLay_ok l _ _ (Dk.write_ok ok (by omega) ?_) (by simp only [Dk.write_size]; omega) fun f hf => hb f (List.mem_cons_of_mem _ hf)
    rw [Fr.pack_length (hb g List.mem_cons_self)]; omega
theorem Dk.write_read' (D : Dk) (a : Nat) (x : List UInt8) (i : Nat) : (D.write a x).read i = if a = i then pad x else D.read i := by
  unfold Dk.read Dk.write; simp [List.foldl_append]
theorem slLay_other : ∀ (l : List Fr) (D : Dk) (base i : Nat), (i < base ∨ base + l.length ≤ i) → (slLay D base l).read i = D.read i
  | [], D, base, i, _ => rfl
  | g :: l, D, base, i, h => by
    simp only [List.length_cons] at h
    show (slLay (D.write base g.pack) (base + 1) l).read i = _
    rw [slLay_other l _ _ _ (by omega), Dk.write_read', if_neg (by omega)]
theorem pad_full' {l : List UInt8} (h : l.length = 64) : pad l = l := by simp [pad, h]
theorem slLay_at : ∀ (l : List Fr) (D : Dk) (base j : Nat) (hj : j < l.length), (∀ f ∈ l, f.body.length ≤ 50) → (slLay D base l).read (base + j) = l[j].pack
  | g :: l, D, base, 0, hj, hb => by
    show (slLay (D.write base g.pack) (base + 1) l).read (base + 0) = _
    rw [slLay_other l _ _ _ (by omega), Dk.write_read', if_pos (by omega), pad_full' (Fr.pack_length (hb g List.mem_cons_self))]
    rfl
  | g :: l, D, base, j + 1, hj, hb => by
    show (slLay (D.write base g.pack) (base + 1) l).read (base + (j + 1)) = _
    rw [show base + (j + 1) = base + 1 + j by omega]
    exact slLay_at l _ _ j (by simpa using hj) fun f hf => hb f (List.mem_cons_of_mem _ hf)
theorem cutF_body (e s : Nat) (b : List UInt8) : ∀ f ∈ cutF e s b, f.body.length ≤ 50 := fun f hf => by
  obtain ⟨i, hi, rfl⟩ := List.mem_iff_getElem.1 hf
  have hi' : i < (cuts b).length := by simpa using hi
  have h := cutF_get e s b i hi'
  rw [List.getElem?_eq_getElem hi] at h
  rw [Option.some.inj h]
  exact cuts_len _ b (Nat.le_refl _) _ (List.getElem_mem hi')
theorem cutF_oks (e s : Nat) (he : e < 4294967296) (b : List UInt8) : ∀ f ∈ cutF e s b, f.Ok := fun f hf => by
  obtain ⟨i, hi, rfl⟩ := List.mem_iff_getElem.1 hf
  have hi' : i < (cuts b).length := by simpa using hi
  have h := cutF_get e s b i hi'
  rw [List.getElem?_eq_getElem hi] at h
  rw [Option.some.inj h]
  exact ⟨he, Nat.mod_lt _ (by omega)⟩
def slCode (n : Nat) (first size : Int) (gen : Nat) (b : List UInt8) : Nat :=
  if slMayB n first size = false ∨ gen = 0 then 1 else if size < ((cuts b).length : Int) then 3 else 0
def slSave (D : Dk) (first size : Int) (gen : Nat) (b : List UInt8) : Dk :=
  if slCode D.secs.length first size gen b = 0 then slLay D (first + size * ((gen % 2 : Nat) : Int)).toNat (cutF gen 0 b) else D
/-- Is a frame the next one of a slot? -/
def slNext (which i gen : Nat) (f : Fr) (code : Nat) : Bool :=
  decide (code = 0) && decide (gen ≠ 0) && decide (gen % 2 = which) && decide (f.epoch = gen) && decide (f.seq = i) && ((f.flag &&& 1 != 0) == decide (i = 0))
/-- What a slot has. -/
def slOne (rd : Nat → List UInt8) (which : Nat) : (fuel i gen : Nat) → List UInt8 → Option (Nat × List UInt8)
  | 0, _, _, _ => none
  | fuel + 1, i, gen, body =>
    let f := Fr.parse (rd i)
    let g := if i = 0 then f.epoch else gen
    if slNext which i g f (Fr.code (rd i)) then
      if f.flag &&& 2 != 0 then some (g, body ++ f.body) else slOne rd which fuel (i + 1) g (body ++ f.body)
    else none
end Go.Proofs.Ytfpgmnnecnaheaa
