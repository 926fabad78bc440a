/- What a slot has, behind a saving: plain laws; no Go in it. -/
import Derived.Test.YtfpgmnnecnaheaaSlP
set_option linter.unusedVariables false
set_option linter.unusedSimpArgs false
namespace Go.Proofs.Ytfpgmnnecnaheaa
def slGen (o : Option (Nat × List UInt8)) : Nat := match o with | some x => x.1 | none => 0
def slBody (o : Option (Nat × List UInt8)) : List UInt8 := match o with | some x => x.2 | none => []
def slHas (D : Dk) (first size which : Nat) : Option (Nat × List UInt8) := slOne (fun i => D.read (first + size * which + i)) which size 0 0 []
def slLoadO (o0 o1 : Option (Nat × List UInt8)) : Option (Nat × List UInt8) := if o1.isSome && (!o0.isSome || decide (slGen o0 < slGen o1)) then o1 else o0
/-- The flag of a record's frame, by its place. -/
def flagAt (i cnt : Nat) : UInt8 := if i = cnt - 1 then (if i = 0 then (0 : UInt8) ||| 1 else 0) ||| 2 else if i = 0 then (0 : UInt8) ||| 1 else 0
theorem flagAt_1 (i cnt : Nat) : (flagAt i cnt &&& 1 != 0) = decide (i = 0) := by
  unfold flagAt
  by_cases h1 : i = cnt - 1 <;> by_cases h2 : i = 0 <;> simp only [h1, h2, if_true, if_false, decide_true, decide_false] <;> (try split) <;> simp_all <;> decide
theorem flagAt_2 (i cnt : Nat) : (flagAt i cnt &&& 2 != 0) = decide (i = cnt - 1) := by
  unfold flagAt
  by_cases h1 : i = cnt - 1
  · rw [if_pos h1, decide_eq_true h1]; split <;> decide
  · rw [if_neg h1, decide_eq_false h1]; split <;> decide
theorem cutF_at (gen : Nat) (b : List UInt8) (i : Nat) (h : i < (cuts b).length) (hc : (cuts b).length < 4294967296) : (cutF gen 0 b)[i]? = some ⟨gen, i, flagAt i (cuts b).length, (cuts b)[i]⟩ := by
  rw [cutF_get gen 0 b i h, Nat.zero_add, Nat.mod_eq_of_lt (by omega)]
  rfl
theorem slOne_whole (gen which : Nat) (hg0 : gen ≠ 0) (hg : gen < 4294967296) (hw : gen % 2 = which) (b : List UInt8) (hc : (cuts b).length < 4294967296) (rd : Nat → List UInt8)
    (hrd : ∀ j f, (cutF gen 0 b)[j]? = some f → rd j = f.pack) : ∀ (k i g fuel : Nat) (body : List UInt8), i + k = (cuts b).length → 0 < k → k ≤ fuel → (i = 0 ∨ g = gen) → slOne rd which fuel i g body = some (gen, body ++ ((cuts b).drop i).flatten)
  | 0, _, _, _, _, _, h, _, _ => by omega
  | k + 1, i, g, 0, body, _, _, h, _ => by omega
  | k + 1, i, g, fuel + 1, body, h1, _, h3, h4 => by
    have hi : i < (cuts b).length := by omega
    have e := cutF_at gen b i hi hc
    have hr := hrd i _ e
    have hbl : (cuts b)[i].length ≤ 50 := cuts_len _ b (Nat.le_refl _) _ (List.getElem_mem hi)
    have hok : (⟨gen, i, flagAt i (cuts b).length, (cuts b)[i]⟩ : Fr).Ok := ⟨hg, by show i < 4294967296; omega⟩
    have hp := Fr.parse_pack hok hbl
    have hcd := Fr.code_pack hok hbl
    have hgg : (if i = 0 then gen else g) = gen := by
      rcases h4 with h | h
      · rw [if_pos h]
      · split
        · rfl
        · exact h
    have f1 := flagAt_1 i (cuts b).length
    have f2 := flagAt_2 i (cuts b).length
    have hdrop : ((cuts b).drop i).flatten = (cuts b)[i] ++ ((cuts b).drop (i + 1)).flatten := by
      rw [List.drop_eq_getElem_cons hi, List.flatten_cons]
    unfold slOne
    dsimp only
    rw [hr, hp, hcd]
    dsimp only
    rw [hgg]
    have hn : slNext which i gen ⟨gen, i, flagAt i (cuts b).length, (cuts b)[i]⟩ 0 = true := by
      unfold slNext
      simp [hg0, hw, f1]
    rw [if_pos hn, f2]
    by_cases hl : i = (cuts b).length - 1
    · rw [if_pos (by simp [hl])]
      have hd : (cuts b).drop (i + 1) = [] := List.drop_eq_nil_of_le (by omega)
      rw [hdrop, hd]; simp
    · rw [if_neg (by simp [hl]), slOne_whole gen which hg0 hg hw b hc rd hrd k (i + 1) gen fuel _ (by omega) (by omega) (by omega) (.inr rfl), hdrop, List.append_assoc]
/-- A slot behind a saving. -/
theorem save_one (D : Dk) (first size gen : Nat) (hg0 : gen ≠ 0) (hg : gen < 4294967296) (b : List UInt8) (hc : slCode D.secs.length (first : Nat) (size : Nat) gen b = 0) (hsz : size < 4294967296) :
    slOne (fun i => (slSave D (first : Nat) (size : Nat) gen b).read (first + size * (gen % 2) + i)) (gen % 2) size 0 0 [] = some (gen, b) := by
  have hfit : (cuts b).length ≤ size := by
    unfold slCode at hc
    split at hc
    · omega
    · split at hc
      · omega
      · omega
  have hpos := List.length_pos_iff.2 (cuts_ne b)
  have hsv : slSave D (first : Nat) (size : Nat) gen b = slLay D (first + size * (gen % 2)) (cutF gen 0 b) := by
    unfold slSave; rw [hc, if_pos rfl]
    have : (first : Int) + (size : Int) * ((gen % 2 : Nat) : Int) = ((first + size * (gen % 2) : Nat) : Int) := by push_cast; rfl
    rw [this, Int.toNat_natCast]
  rw [hsv]
  rw [slOne_whole gen (gen % 2) hg0 hg rfl b (by omega) _ (fun j f hf => ?_) (cuts b).length 0 0 size [] (by omega) hpos hfit (.inl rfl), List.drop_zero, cuts_join _ b (Nat.le_refl _), List.nil_append]
  obtain ⟨hj, rfl⟩ := List.getElem?_eq_some_iff.1 hf
  exact slLay_at _ D _ j hj (cutF_body gen 0 b)
/-- The other slot is as it was. -/
theorem save_other (D : Dk) (first size gen : Nat) (b : List UInt8) (i : Nat) (hc : slCode D.secs.length (first : Nat) (size : Nat) gen b = 0 → i < first + size * (gen % 2) ∨ first + size * (gen % 2) + size ≤ i) :
    (slSave D (first : Nat) (size : Nat) gen b).read i = D.read i := by
  unfold slSave
  split
  · rename_i h
    have this : (first : Int) + (size : Int) * ((gen % 2 : Nat) : Int) = ((first + size * (gen % 2) : Nat) : Int) := by push_cast; rfl
    rw [this, Int.toNat_natCast]
    have hfit : (cuts b).length ≤ size := by
      unfold slCode at h
      split at h
      · omega
      · split at h
        · omega
        · omega
    refine slLay_other _ _ _ _ ?_
    rw [cutF_length]
    have := hc h
    omega
  · rfl
end Go.Proofs.Ytfpgmnnecnaheaa
