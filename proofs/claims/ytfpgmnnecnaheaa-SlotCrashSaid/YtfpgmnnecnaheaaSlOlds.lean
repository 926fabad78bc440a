/- Slices of slices of bytes that are arguments; savings one behind the other. -/
import Derived.Test.YtfpgmnnecnaheaaSlAwake
import Derived.Test.YtfpgmnnecnaheaaKinW
import Derived.Test.YtfpgmnnecnaheaaLift
set_option linter.unusedVariables false
set_option linter.unusedSimpArgs false
namespace Go.Proofs.Ytfpgmnnecnaheaa
open Go.RowKit
def oldsAt (v : Value) (l : List (List UInt8)) (F : PH) : Prop := (Kin.slice 24 (Kin.slice 1 Kin.u8)).K F l [v]
theorem olds_form {v : Value} {l : List (List UInt8)} {F : PH} (h : oldsAt v l F) : ∃ A c, v = .slice A l.length c ∧ l.length ≤ c ∧ c ≤ 9223372036854775807 ∧ l.length ≤ 140737488351232 := by
  obtain ⟨v', vs, e, ⟨_, A, c, rfl, h1, h2, _⟩, _, h3⟩ := h
  cases e
  exact ⟨A, c, rfl, h1, h2, by omega⟩
theorem olds_get {W w : World} {L : List HP} (hs : Sat W w L) (hold : old W ∈ L) {v : Value} {l : List (List UInt8)} (h : oldsAt v l (hp W)) (i : Nat) (hi : i < l.length) :
    ∃ b o c vb, v = .slice (some ⟨b, o, none⟩) l.length c ∧ w.rangeAt b (o + i) [vb] ∧ bytesAt vb l[i] (hp W) ∧ l[i].length ≤ 140737488351232 := by
  have hH : Has L (fun F => F = hp W) := Has.mem hold fun F hF => by cases hF; rfl
  obtain ⟨v', vs, e, hsl, hrow, _⟩ := h
  cases e
  have hsz : (Kin.slice 1 Kin.u8).sz = 1 := rfl
  have hk := hrow.2 i l[i] (by simp [hi])
  rw [hsz, Nat.mul_one] at hk
  have hk0 := hk
  obtain ⟨vb, us, e1, r⟩ := hk0
  have hk2 : (Kin.slice 1 Kin.u8).K (hp W) l[i] [vb] := by rw [← e1]; exact hk
  obtain ⟨hb, hlen⟩ := kin_bytes hk2
  obtain ⟨hl, A, c, rfl, h1, h2, h3 | ⟨b, o, rfl, hc⟩⟩ := hs.slice (hH.imp fun F hF => by rw [hF]; exact hsl)
  · rw [h3, hsz] at hl; simp at hl; omega
  · refine ⟨b, o, c, vb, rfl, fun j u hj => ?_, hb, hlen⟩
    rw [← e1, List.getElem?_take] at hj
    split at hj
    · rw [List.getElem?_drop] at hj
      have := cellsAt_world hc (i + j) u hj
      rw [← Nat.add_assoc] at this
      exact this
    · cases hj
theorem oold_range {W w : World} {L : List HP} (hs : Sat W w L) (hold : old W ∈ L) {b o : Nat} {vs : List Value} (h : W.rangeAt b o vs) (h0 : vs ≠ []) : w.rangeAt b o vs := by
  have := hs.has (Has.mem hold (cellsAt_old h h0)) (fun _ _ => cellsAt_mono)
  exact fun j v hv => cellsAt_world this j v hv
theorem has_w {W : World} {L : List HP} (hold : old W ∈ L) {φ : PH → Prop} (h : φ (hp W)) : Has L φ := Has.mem hold fun F hF => by cases hF; exact h
theorem fits_olds : Fits Try.prog 22 (Kin.slice 24 (Kin.slice 1 Kin.u8)) :=
  fits_slice Try.underlying22 (by kernel_rfl) (fits_slice Try.underlying23 (by kernel_rfl) (fits_u8 Try.underlying5 (by kernel_rfl)) (by decide) (by kernel_rfl)) (by decide) (by kernel_rfl)
theorem save_row4 (D : Dk) (gen : Nat) (b : List UInt8) : (slSave D ((1 : Nat) : Int) ((4 : Nat) : Int) gen b).row.length ≤ D.row.length + 4 := by
  unfold slSave
  split
  · rename_i h
    have hfit : (cuts b).length ≤ 4 := by
      unfold slCode at h
      split at h
      · omega
      · split at h
        · omega
        · omega
    rw [slLay_rows, cutF_length]; omega
  · omega
/-- Savings of numbers from 1 on. -/
def spRun (l : List (List UInt8)) : Nat → Dk
  | 0 => Dk.new 12
  | k + 1 => slSave (spRun l k) ((1 : Nat) : Int) ((4 : Nat) : Int) (k + 1) (l.getD k [])
theorem spRun_inv (l : List (List UInt8)) : ∀ k, (spRun l k).Ok ∧ (spRun l k).secs.length = 12 ∧ (spRun l k).row.length ≤ 4 * k
  | 0 => ⟨Dk.new_ok (by omega), new12, by simp [spRun, Dk.new]⟩
  | k + 1 => by
    obtain ⟨h1, h2, h3⟩ := spRun_inv l k
    have := save_row4 (spRun l k) (k + 1) (l.getD k [])
    exact ⟨save_ok h1 1 4 (k + 1) _, by rw [spRun, save_secs]; exact h2, by rw [spRun]; omega⟩
end Go.Proofs.Ytfpgmnnecnaheaa
