/- Crash. -/
import Derived.Test.YtoedmjibhpajjaaVdSync
set_option linter.unusedVariables false
set_option linter.unusedSimpArgs false
namespace Go.Proofs.Ytoedmjibhpajjaa
open Go.RowKit
def bools (l : List Bool) : List Value := l.map .bool
@[simp] theorem bools_length (l : List Bool) : (bools l).length = l.length := by simp [bools]
def boolsAt (v : Value) (l : List Bool) (F : PH) : Prop := sliceAt v l.length 1 (bools l) F
theorem bools_at {W w : World} {L : List HP} (hs : Sat W w L) {v : Value} {l : List Bool} (hv : Has L (boolsAt v l)) (h0 : 0 < l.length) : ∃ b o cap, v = .slice (some ⟨b, o, none⟩) l.length cap := by
  obtain ⟨_, A, cap, rfl, h1, h2, h3 | ⟨b, o, rfl, hc⟩⟩ := hs.slice hv
  · rw [show l = [] by simpa [bools] using h3] at h0; simp at h0
  · exact ⟨b, o, cap, rfl⟩
theorem bools_cell {W w : World} {L : List HP} (hs : Sat W w L) {b o n cap : Nat} {l : List Bool} (hv : Has L (boolsAt (.slice (some ⟨b, o, none⟩) n cap) l)) (i : Nat) (h : i < l.length) : w.cell? ⟨b, o + i, none⟩ = some (.bool l[i]) := by
  obtain ⟨_, A, cap', e, h1, h2, h3 | ⟨b', o', e2, hc⟩⟩ := hs.slice hv
  · rw [show l = [] by simpa [bools] using h3] at h; simp at h
  · cases e
    cases e2
    exact cellsAt_world hc i _ (by simp [bools, h])
end Go.Proofs.Ytoedmjibhpajjaa
