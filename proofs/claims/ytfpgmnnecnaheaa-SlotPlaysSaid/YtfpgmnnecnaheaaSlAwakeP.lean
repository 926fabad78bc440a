/- The example of the laws of layer 8, and a disk of zeros: plain laws; no Go in it. -/
import Derived.Test.YtfpgmnnecnaheaaSlOneP
set_option linter.unusedVariables false
set_option linter.unusedSimpArgs false
namespace Go.Proofs.Ytfpgmnnecnaheaa
theorem Dk.upTo_seen' {D : Dk} (ok : D.Ok) (i : Nat) (hi : i < D.secs.length) : ∀ k, k ≤ D.row.length → (D.upTo (fun _ => true) k).getD i [] = D.seen i k
  | 0, _ => rfl
  | k + 1, hk => by
    rw [Dk.upTo_succ D _ k hk, Dk.seen_succ D i k hk, if_pos rfl]
    have hlen : i < (D.upTo (fun _ => true) k).length := by rw [Dk.upTo_length]; exact hi
    have ih := Dk.upTo_seen' ok i hi k (by omega)
    by_cases h : D.row[k].1 = i
    · rw [if_pos h, List.getD_eq_getElem?_getD, h, List.getElem?_set_self hlen]; rfl
    · rw [if_neg h, ← ih, List.getD_eq_getElem?_getD, List.getElem?_set_ne h, List.getD_eq_getElem?_getD]
theorem Dk.sync_read' {D : Dk} (ok : D.Ok) (i : Nat) (hi : i < D.secs.length) : D.sync.read i = D.read i := by
  rw [← Dk.seen_all D, ← Dk.upTo_seen' ok i hi _ (Nat.le_refl _)]
  rfl
theorem slOne_congr {rd1 rd2 : Nat → List UInt8} (which : Nat) : ∀ (fuel i gen : Nat) (body : List UInt8), (∀ j, i ≤ j → j < i + fuel → rd1 j = rd2 j) → slOne rd1 which fuel i gen body = slOne rd2 which fuel i gen body
  | 0, _, _, _, _ => rfl
  | fuel + 1, i, gen, body, h => by
    have ih : ∀ g b, slOne rd1 which fuel (i + 1) g b = slOne rd2 which fuel (i + 1) g b := fun g b => slOne_congr which fuel (i + 1) g b fun j h1 h2 => h j (by omega) (by omega)
    unfold slOne
    dsimp only
    rw [h i (by omega) (by omega)]
    simp only [ih]
theorem slHas_congr {D E : Dk} (first size which : Nat) (h : ∀ j, j < size → D.read (first + size * which + j) = E.read (first + size * which + j)) : slHas D first size which = slHas E first size which :=
  slOne_congr which size 0 0 [] fun j _ hj => h j (by omega)
theorem slHas_save (D : Dk) (first size gen : Nat) (hg0 : gen ≠ 0) (hg : gen < 4294967296) (b : List UInt8) (hc : slCode D.secs.length (first : Nat) (size : Nat) gen b = 0) (hsz : size < 4294967296) : slHas (slSave D (first : Nat) (size : Nat) gen b) first size (gen % 2) = some (gen, b) :=
  save_one D first size gen hg0 hg b hc hsz
theorem slHas_other (D : Dk) (first size gen which : Nat) (hw : which ≤ 1) (hne : which ≠ gen % 2) (b : List UInt8) : slHas (slSave D (first : Nat) (size : Nat) gen b) first size which = slHas D first size which :=
  slHas_congr first size which fun j hj => save_other D first size gen b _ fun _ => by
    have h2 : gen % 2 < 2 := Nat.mod_lt _ (by omega)
    have : (which = 0 ∧ gen % 2 = 1) ∨ (which = 1 ∧ gen % 2 = 0) := by omega
    rcases this with ⟨h3, h4⟩ | ⟨h3, h4⟩ <;> rw [h3, h4] <;> omega
theorem code_zeros' : Fr.code (List.replicate 64 0) = 2 := by
  have : Fr.is (List.replicate 64 0) = false := by decide +kernel
  simp only [Fr.code, this]; rfl
theorem slOne_zeros (rd : Nat → List UInt8) (which fuel i gen : Nat) (body : List UInt8) (h : rd i = List.replicate 64 0) : slOne rd which fuel i gen body = none := by
  cases fuel with
  | zero => rfl
  | succ fuel =>
    unfold slOne
    dsimp only
    rw [h, code_zeros', if_neg]
    simp [slNext]
theorem new_read (n i : Nat) (h : i < n) : (Dk.new n).read i = List.replicate 64 0 := by
  unfold Dk.read Dk.new
  simp [List.getD_eq_getElem?_getD, h, pad]
theorem slHas_new (first size which : Nat) (h : first + size * which < 12) : slHas (Dk.new 12) first size which = none :=
  slOne_zeros _ which size 0 0 [] (by show (Dk.new 12).read (first + size * which + 0) = _; rw [Nat.add_zero]; exact new_read 12 _ h)
def one3 : List UInt8 := [111, 110, 101]
def z60 : List UInt8 := List.replicate 60 0
theorem cuts_one3 : (cuts one3).length = 1 := by rw [cuts_number _ one3 (Nat.le_refl _)]; rfl
theorem cuts_z60 : (cuts z60).length = 2 := by rw [cuts_number _ z60 (Nat.le_refl _)]; rfl
theorem may14 : slMayB 12 1 4 = true := by decide
def aD1 : Dk := slSave (Dk.new 12) (1 : Nat) (4 : Nat) 1 one3
def aD2 : Dk := slSave aD1.sync (1 : Nat) (4 : Nat) 2 z60
def aD3 : Dk := aD2.crash fun i => ([true, false] : List Bool).getD i false
theorem new12 : (Dk.new 12).secs.length = 12 := by simp [Dk.new]
theorem aCode1 : slCode 12 ((1 : Nat) : Int) ((4 : Nat) : Int) 1 one3 = 0 := by unfold slCode; rw [cuts_one3]; decide
theorem aCode2 : slCode 12 ((1 : Nat) : Int) ((4 : Nat) : Int) 2 z60 = 0 := by unfold slCode; rw [cuts_z60]; decide
theorem save_secs (D : Dk) (first size : Int) (gen : Nat) (b : List UInt8) : (slSave D first size gen b).secs = D.secs := by unfold slSave; split <;> simp
theorem aS1 : aD1.secs.length = 12 := by unfold aD1; rw [save_secs]; exact new12
theorem aS2 : aD1.sync.secs.length = 12 := by simp [aS1]
theorem save_ok {D : Dk} (ok : D.Ok) (first size gen : Nat) (b : List UInt8) : (slSave D (first : Nat) (size : Nat) gen b).Ok := by
  unfold slSave
  split
  · rename_i h
    have this : (first : Int) + (size : Int) * ((gen % 2 : Nat) : Int) = ((first + size * (gen % 2) : Nat) : Int) := by push_cast; rfl
    rw [this, Int.toNat_natCast]
    have hm : slMayB D.secs.length (first : Nat) (size : Nat) = true ∧ (cuts b).length ≤ size := by
      unfold slCode at h
      split at h
      · omega
      · rename_i h2
        split at h
        · omega
        · refine ⟨?_, by omega⟩
          cases hb : slMayB D.secs.length (first : Nat) (size : Nat) with
          | true => rfl
          | false => exact absurd (.inl hb) h2
    have h3 := of_decide_eq_true (by have := hm.1; unfold slMayB at this; exact this)
    have h4 : size * (gen % 2) ≤ size * 1 := Nat.mul_le_mul_left _ (by omega)
    exact slLay_ok _ _ _ ok (by rw [cutF_length]; omega) (cutF_body gen 0 b)
  · exact ok
theorem aOk1 : aD1.Ok := save_ok (Dk.new_ok (by omega)) 1 4 1 one3
theorem has_sync {D : Dk} (ok : D.Ok) (h12 : D.secs.length = 12) (first size which : Nat) (h : first + size * which + size ≤ 12) : slHas D.sync first size which = slHas D first size which :=
  slHas_congr first size which fun j hj => Dk.sync_read' ok _ (by omega)
theorem aH1 : slHas aD1 1 4 1 = some (1, one3) := slHas_save (Dk.new 12) 1 4 1 (by decide) (by decide) one3 (by rw [new12]; exact aCode1) (by decide)
theorem aH20 : slHas aD2 1 4 0 = some (2, z60) := slHas_save aD1.sync 1 4 2 (by decide) (by decide) z60 (by rw [aS2]; exact aCode2) (by decide)
theorem aH21 : slHas aD2 1 4 1 = some (1, one3) := by
  unfold aD2
  rw [slHas_other aD1.sync 1 4 2 1 (by decide) (by decide) z60, has_sync aOk1 aS1 1 4 1 (by decide), aH1]
theorem aLoad2 : slLoadO (slHas aD2 1 4 0) (slHas aD2 1 4 1) = some (2, z60) := by rw [aH20, aH21]; decide
theorem aD2_eq : ∃ f0 f1 : Fr, cutF 2 0 z60 = [f0, f1] ∧ aD2 = ((aD1.sync.write 1 f0.pack).write 2 f1.pack) := by
  have hl : (cutF 2 0 z60).length = 2 := by rw [cutF_length, cuts_z60]
  obtain ⟨f0, f1, e⟩ : ∃ f0 f1, cutF 2 0 z60 = [f0, f1] := by
    match h : cutF 2 0 z60, hl with
    | [a, b], _ => exact ⟨a, b, rfl⟩
  refine ⟨f0, f1, e, ?_⟩
  unfold aD2 slSave
  rw [aS2, aCode2, if_pos rfl, e]
  rfl
theorem aSecs3 : ∃ f0 : Fr, (cutF 2 0 z60)[0]? = some f0 ∧ aD3.secs = aD1.sync.secs.set 1 (pad f0.pack) := by
  obtain ⟨f0, f1, e0, e⟩ := aD2_eq
  have hrow : aD2.row = [(1, pad f0.pack), (2, pad f1.pack)] := by rw [e]; simp [Dk.write]
  have hsec : aD2.secs = aD1.sync.secs := by rw [e]; rfl
  refine ⟨f0, by rw [e0]; rfl, ?_⟩
  show aD2.upTo _ aD2.row.length = _
  rw [hrow]
  show aD2.upTo _ 2 = _
  rw [Dk.upTo_succ aD2 _ 1 (by rw [hrow]; simp), if_neg (by decide), Dk.upTo_succ aD2 _ 0 (by rw [hrow]; simp), if_pos (by decide)]
  simp only [hrow]
  show aD2.secs.set 1 _ = _
  rw [hsec]; rfl
theorem aRead3 (i : Nat) (h : i ≠ 1) : aD3.read i = aD1.sync.read i := by
  obtain ⟨x, _, e⟩ := aSecs3
  have h1 : aD3.read i = aD3.secs.getD i [] := rfl
  have h2 : aD1.sync.read i = aD1.sync.secs.getD i [] := rfl
  rw [h1, h2, e, List.getD_eq_getElem?_getD, List.getElem?_set_ne (fun h' => h h'.symm), List.getD_eq_getElem?_getD]
theorem aH31 : slHas aD3 1 4 1 = some (1, one3) := by
  rw [← aH1, ← has_sync aOk1 aS1 1 4 1 (by decide)]
  exact slHas_congr 1 4 1 fun j hj => aRead3 _ (by omega)
theorem aD1_read (i : Nat) (hi : i < 5) : aD1.read i = List.replicate 64 0 := by
  unfold aD1
  rw [save_other (Dk.new 12) 1 4 1 one3 i fun _ => .inl (by omega)]
  exact new_read 12 i (by omega)
theorem aRead32 : aD3.read 2 = List.replicate 64 0 := by
  rw [aRead3 2 (by decide), Dk.sync_read' aOk1 2 (by rw [aS1]; decide)]
  exact aD1_read 2 (by decide)
theorem aH30 : slHas aD3 1 4 0 = none := by
  obtain ⟨f0, e0, e⟩ := aSecs3
  have hc := cuts_z60
  have e1 := cutF_at 2 z60 0 (by rw [hc]; decide) (by rw [hc]; decide)
  rw [e0] at e1
  have hf := Option.some.inj e1
  have hb : (cuts z60)[0].length ≤ 50 := cuts_len _ z60 (Nat.le_refl _) _ (List.getElem_mem _)
  have hfl : (f0.flag &&& 2 != 0) = false := by
    rw [hf]
    show (flagAt 0 (cuts z60).length &&& 2 != 0) = false
    rw [flagAt_2, hc]; decide
  have hok : f0.Ok := by rw [hf]; exact ⟨by show 2 < 4294967296; decide, by show 0 < 4294967296; decide⟩
  have hb2 : f0.body.length ≤ 50 := by rw [hf]; exact hb
  have hr : aD3.read 1 = f0.pack := by
    have h1 : aD3.read 1 = aD3.secs.getD 1 [] := rfl
    rw [h1, e, List.getD_eq_getElem?_getD, List.getElem?_set_self (by rw [aS2]; decide)]
    exact pad_full' (Fr.pack_length hb2)
  unfold slHas
  rw [show (4 : Nat) = 3 + 1 from rfl]
  unfold slOne
  dsimp only
  rw [show 1 + (3 + 1) * 0 + 0 = 1 from rfl, hr, Fr.parse_pack hok hb2, Fr.code_pack hok hb2, hfl]
  simp only [Bool.false_eq_true, if_false, if_true]
  split
  · exact slOne_zeros _ 0 3 1 _ _ aRead32
  · rfl
theorem aLoad3 : slLoadO (slHas aD3 1 4 0) (slHas aD3 1 4 1) = some (1, one3) := by rw [aH30, aH31]; decide
end Go.Proofs.Ytfpgmnnecnaheaa
