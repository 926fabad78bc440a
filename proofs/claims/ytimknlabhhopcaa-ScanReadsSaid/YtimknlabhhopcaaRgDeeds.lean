/- The deeds of a ring that are arguments; few. -/
import Derived.Test.YtimknlabhhopcaaRgW
import Derived.Test.YtimknlabhhopcaaKinW
import Derived.Test.YtimknlabhhopcaaLift
set_option linter.unusedVariables false
set_option linter.unusedSimpArgs false
namespace Go.Proofs.Ytimknlabhhopcaa
open Go.RowKit
structure RDeed where
  kind : Int
  rec_ : List UInt8
  n : UInt8
def rdeedKin : Kin RDeed := (Kin.pair (Kin.int .i64) (Kin.pair (Kin.slice 1 Kin.u8) (Kin.pair Kin.u8 Kin.unit))).iso fun c => (c.kind, c.rec_, c.n, ())
def rdeedsAt (v : Value) (l : List RDeed) (F : PH) : Prop := (Kin.slice 40 rdeedKin).K F l [v]
def rdCells (c : RDeed) (vb : Value) : List Value := [.int .i64 c.kind, vb, .int .u8 c.n.toNat]
theorem rdeed_cells {F : PH} {c : RDeed} {cs : List Value} (h : rdeedKin.K F c cs) : ∃ vb, cs = rdCells c vb ∧ bytesAt vb c.rec_ F := by
  obtain ⟨c1, d1, rfl, ⟨rfl, _⟩, c2, d2, rfl, h3, c4, d4, rfl, h4, h5⟩ := h
  obtain ⟨vb, vs, rfl, r⟩ := h3
  cases h5
  cases h4
  exact ⟨vb, rfl, (kin_bytes (F := F) ⟨vb, vs, rfl, r⟩).1⟩
theorem rdeeds_form {v : Value} {l : List RDeed} {F : PH} (h : rdeedsAt v l F) : ∃ A c, v = .slice A l.length c ∧ l.length ≤ c ∧ c ≤ 9223372036854775807 ∧ l.length ≤ 140737488351232 := by
  obtain ⟨v', vs, e, ⟨_, A, c, rfl, h1, h2, _⟩, _, h3⟩ := h
  cases e
  exact ⟨A, c, rfl, h1, h2, by omega⟩
theorem rdeeds_get {W w : World} {L : List HP} (hs : Sat W w L) (hold : old W ∈ L) {v : Value} {l : List RDeed} (h : rdeedsAt v l (hp W)) (i : Nat) (hi : i < l.length) :
    ∃ b o c vb, v = .slice (some ⟨b, o, none⟩) l.length c ∧ w.rangeAt b (o + i * 3) (rdCells l[i] vb) ∧ bytesAt vb l[i].rec_ (hp W) := by
  have hH : Has L (fun F => F = hp W) := Has.mem hold fun F hF => by cases hF; rfl
  obtain ⟨v', vs, e, hsl, hrow, _⟩ := h
  cases e
  obtain ⟨vb, e1, hb⟩ := rdeed_cells (hrow.2 i l[i] (by simp [hi]))
  obtain ⟨hl, A, c, rfl, h1, h2, h3 | ⟨b, o, rfl, hc⟩⟩ := hs.slice (hH.imp fun F hF => by rw [hF]; exact hsl)
  · rw [h3] at hl; have : rdeedKin.sz = 3 := rfl; rw [this] at hl; simp at hl; omega
  · refine ⟨b, o, c, vb, rfl, fun j u hj => ?_, hb⟩
    have hsz : rdeedKin.sz = 3 := rfl
    rw [← e1, hsz, List.getElem?_take] at hj
    split at hj
    · rw [List.getElem?_drop] at hj
      have := cellsAt_world hc (i * 3 + j) u hj
      rw [← Nat.add_assoc] at this
      exact this
    · cases hj
theorem rold_range {W w : World} {L : List HP} (hs : Sat W w L) (hold : old W ∈ L) {b o : Nat} {vs : List Value} (h : W.rangeAt b o vs) (h0 : vs ≠ []) : w.rangeAt b o vs := by
  have := hs.has (Has.mem hold (cellsAt_old h h0)) (fun _ _ => cellsAt_mono)
  exact fun j v hv => cellsAt_world this j v hv
theorem rdeeds_old {W : World} {v : Value} {l : List RDeed} (h : rdeedsAt v l (hp W)) (i : Nat) (hi : i < l.length) :
    ∃ b o c vb, v = .slice (some ⟨b, o, none⟩) l.length c ∧ W.rangeAt b (o + i * 3) (rdCells l[i] vb) ∧ bytesAt vb l[i].rec_ (hp W) := rdeeds_get (Sat.start W) m0 h i hi
theorem has_w {W : World} {L : List HP} (hold : old W ∈ L) {φ : PH → Prop} (h : φ (hp W)) : Has L φ := Has.mem hold fun F hF => by cases hF; exact h
def Small (l : List RDeed) : Prop := l.length ≤ 30 ∧ ∀ c ∈ l, c.rec_.length ≤ 400
def fewB (l : List RDeed) : Bool := decide (l.length ≤ 30) && l.all fun c => decide (c.rec_.length ≤ 400)
theorem fewB_iff (l : List RDeed) : fewB l = true ↔ Small l := by simp [fewB, Small]
theorem fewB_no {l : List RDeed} (h : ¬ Small l) : fewB l = false := by
  cases hb : fewB l with
  | false => rfl
  | true => exact absurd ((fewB_iff l).1 hb) h
def rfewPost (l : List RDeed) (W : World) (L : List HP) (e : Ending) (w' : World) : Prop := e = .returned (.bool (fewB l)) ∧ Sat W w' L
theorem rfewPost_mk {l : List RDeed} {W : World} {L : List HP} {e : Ending} {w' : World} (r : Bool) (he : e = .returned (.bool r)) (h : r = true ↔ Small l) (hs : Sat W w' L) : rfewPost l W L e w' := ⟨by rw [he, Bool.eq_iff_iff.2 (h.trans (fewB_iff l).symm)], hs⟩
end Go.Proofs.Ytimknlabhhopcaa
