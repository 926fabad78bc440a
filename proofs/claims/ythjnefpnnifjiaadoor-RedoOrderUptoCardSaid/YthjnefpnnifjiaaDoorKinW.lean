/- Elements of slices that are arguments, found in memory. -/
import Derived.Test.YthjnefpnnifjiaaDoorKin
import Derived.Test.YthjnefpnnifjiaaDoorPk
import Derived.Test.YthjnefpnnifjiaaDoorOp3
set_option linter.unusedVariables false
set_option linter.unusedSimpArgs false
namespace Go.Proofs.YthjnefpnnifjiaaDoor
open Go.RowKit
theorem kslice_form {α : Type} {a : Kin α} {B : Nat} {F : PH} {xs : List α} {v : Value} (h : (Kin.slice B a).K F xs [v]) : ∃ A c, v = .slice A xs.length c ∧ xs.length ≤ c ∧ c ≤ 9223372036854775807 ∧ xs.length * B ≤ 140737488351232 := by
  obtain ⟨v', vs, e, ⟨_, A, c, rfl, h1, h2, _⟩, _, h3⟩ := h
  cases e
  exact ⟨A, c, rfl, h1, h2, h3⟩
theorem kslice_elem {α : Type} {a : Kin α} {B : Nat} {W : World} {xs : List α} {v : Value} (h : (Kin.slice B a).K (hp W) xs [v]) (h0 : 0 < a.sz) (i : Nat) (hi : i < xs.length) :
    ∃ b o c cs, v = .slice (some ⟨b, o, none⟩) xs.length c ∧ W.rangeAt b (o + i * a.sz) cs ∧ a.K (hp W) xs[i] cs := by
  obtain ⟨v', vs, e, ⟨hl, A, c, rfl, h1, h2, h3⟩, hrow, _⟩ := h
  cases e
  have hk := hrow.2 i xs[i] (by simp [hi])
  have hlen := a.len _ _ _ hk
  rcases h3 with h3 | ⟨b, o, rfl, hc⟩
  · subst h3; simp at hlen; omega
  · refine ⟨b, o, c, _, rfl, fun j u hj => ?_, hk⟩
    rw [List.getElem?_take] at hj
    split at hj
    · rw [List.getElem?_drop] at hj
      have := cellsAt_world hc (i * a.sz + j) u hj
      rw [← Nat.add_assoc] at this
      exact this
    · cases hj
/-- Bytes that lay in memory from the start. -/
theorem bytes_old {W : World} {L : List HP} (hold : old W ∈ L) {b o n c : Nat} {l : List UInt8} (h : W.rangeAt b o (u8s l)) (hn : l.length = n) (hc : n ≤ c) (hm : c ≤ 9223372036854775807) : Has L (bytesAt (.slice (some ⟨b, o, none⟩) n c) l) := by
  subst hn
  refine Has.mem hold fun F hF => ⟨by simp, some ⟨b, o, none⟩, c, rfl, hc, hm, ?_⟩
  by_cases h0 : u8s l = []
  · exact .inl h0
  · exact .inr ⟨b, o, rfl, cellsAt_old h h0 F hF⟩
end Go.Proofs.YthjnefpnnifjiaaDoor
