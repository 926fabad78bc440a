/- A ring of eight sectors behind deeds, as plain data. -/
import Derived.Test.YtoedmjibhpajjaaRgDo
set_option linter.unusedVariables false
set_option linter.unusedSimpArgs false
namespace Go.Proofs.Ytoedmjibhpajjaa
abbrev RgSt := Rg × List (List UInt8 × Nat)
def rgStep (s : RgSt) (c : RDeed) : RgSt := (s.1.deed c, if c.kind = 1 ∧ (s.1.deed c).next ≠ s.1.next then s.2 ++ [(c.rec_, (s.1.deed c).next)] else s.2)
def rg0 : Rg := ⟨Dk.new 12, 2, 8, 3, 0, 0⟩
def rgRun (l : List RDeed) : RgSt := l.foldl rgStep (rg0, [])
theorem rgRun_snoc (l : List RDeed) (k : Nat) (h : k < l.length) : rgRun (l.take (k + 1)) = rgStep (rgRun (l.take k)) l[k] := by
  rw [List.take_succ_eq_append_getElem h]; unfold rgRun; rw [List.foldl_append]; rfl
theorem rg0_ok : rg0.Ok := ⟨Dk.new_ok (by omega), by decide, by simp [rg0, Dk.new], by decide, by decide, by decide, by decide⟩
theorem rgRun_inv (l : List RDeed) (hs : Small l) : ∀ k, k ≤ l.length → (rgRun (l.take k)).1.Ok ∧ (rgRun (l.take k)).1.first = 2 ∧ (rgRun (l.take k)).1.many = 8 ∧ (rgRun (l.take k)).1.epoch = 3 ∧ (rgRun (l.take k)).1.D.secs.length = 12 ∧ (rgRun (l.take k)).1.D.row.length ≤ 8 * k ∧ (rgRun (l.take k)).2.length ≤ k ∧ (rgRun (l.take k)).1.next ≤ 8 * k
  | 0, _ => ⟨rg0_ok, rfl, rfl, rfl, by simp [rgRun, rg0, Dk.new], by simp [rgRun, rg0, Dk.new], by simp [rgRun], by simp [rgRun, rg0]⟩
  | k + 1, hk => by
    obtain ⟨h1, h2, h3, h4, h5, h6, h7, h8⟩ := rgRun_inv l hs k (by omega)
    rw [rgRun_snoc l k (by omega)]
    have hb := cuts_400 (hs.2 l[k] (List.getElem_mem (by omega)))
    have hr := Rg.deed_row (rgRun (l.take k)).1 l[k]
    refine ⟨Rg.deed_ok h1 _, by simp [rgStep, h2], by simp [rgStep, h3], by simp [rgStep, h4], by simp [rgStep, h5], by simp only [rgStep]; omega, ?_, ?_⟩
    · simp only [rgStep]; split
      · simp; omega
      · omega
    · simp only [rgStep]
      have : (Rg.deed (rgRun (l.take k)).1 l[k]).next ≤ (rgRun (l.take k)).1.next + (cuts l[k].rec_).length := by
        unfold Rg.deed
        split
        · unfold Rg.append; split <;> simp
        · split
          · simp
          · simp [Rg.sync]
      omega
end Go.Proofs.Ytoedmjibhpajjaa
