/- Frames of the reference, compared. -/
import Derived.Test.YtoedmjibhpajjaaFrRef
set_option linter.unusedVariables false
set_option linter.unusedSimpArgs false
namespace Go.Proofs.Ytoedmjibhpajjaa
open Go.RowKit
def Fr.same (f g : Fr) : Bool := decide (f.epoch = g.epoch) && (decide (f.seq = g.seq) && (decide (f.flag = g.flag) && decide (f.body = g.body)))
theorem Fr.same_iff (f g : Fr) : f.same g = true ↔ f = g := by
  obtain ⟨e, s, x, b⟩ := f
  obtain ⟨e', s', x', b'⟩ := g
  simp [Fr.same]
theorem Fr.same_refl (f : Fr) : f.same f = true := (Fr.same_iff f f).2 rfl
set_option maxRecDepth 100000 in
set_option maxHeartbeats 1000000 in
theorem run_equal_rframe (f g : Fr) (w : World) : (Op.equalIn 10000 33 (.agg (rCells f).toArray) (.agg (rCells g).toArray)).run Try.prog w = .ok (f.same g) w := by
  rw [show (10000 : Nat) = 9999 + 1 from rfl, run_equalIn_struct w 9999 _ _ _ (by kernel_rfl) (by kernel_rfl)]
  obtain ⟨e, s, x, b⟩ := f
  obtain ⟨e', s', x', b'⟩ := g
  simp only [rCells, Fr.same]
  go_simp
  have hx : ((x.toNat : Int) = (x'.toNat : Int)) ↔ x = x' := by rw [Int.ofNat_inj]; exact UInt8.toNat_inj
  have he : ((e : Int) = (e' : Int)) ↔ e = e' := Int.ofNat_inj
  have hs : ((s : Int) = (s' : Int)) ↔ s = s' := Int.ofNat_inj
  simp only [hx, he, hs]
  by_cases h1 : e = e' <;> by_cases h2 : s = s' <;> by_cases h3 : x = x' <;> by_cases h4 : b = b' <;> simp [h1, h2, h3, h4]
set_option maxRecDepth 100000 in
set_option maxHeartbeats 1000000 in
theorem run_neq_rframe (f g : Fr) (w : World) : (binOp .neq 33 (.agg (rCells f).toArray) (.agg (rCells g).toArray)).run Try.prog w = .ok (.bool (!f.same g)) w := by
  rw [run_neq_struct, run_equal_rframe]; rfl
set_option maxRecDepth 100000 in
set_option maxHeartbeats 1000000 in
theorem run_eql_rframe (f g : Fr) (w : World) : (binOp .eql 33 (.agg (rCells f).toArray) (.agg (rCells g).toArray)).run Try.prog w = .ok (.bool (f.same g)) w := by
  rw [run_eql_struct, run_equal_rframe]; rfl
end Go.Proofs.Ytoedmjibhpajjaa
