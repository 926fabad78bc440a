/- The deeds of a ring that are arguments; few. -/
import Derived.Test.YtoedmjibhpajjaaRgW
import Derived.Test.YtoedmjibhpajjaaKinW
import Derived.Test.YtoedmjibhpajjaaLift
set_option linter.unusedVariables false
set_option linter.unusedSimpArgs false
namespace Go.Proofs.Ytoedmjibhpajjaa
open Go.RowKit
structure RDeed where
  kind : Int
  rec_ : List UInt8
  n : UInt8
def rdeedKin : Kin RDeed := (Kin.pair (Kin.int .i64) (Kin.pair (Kin.slice 1 Kin.u8) (Kin.pair Kin.u8 Kin.unit))).iso fun c => (c.kind, c.rec_, c.n, ())
def rdeedsAt (v : Value) (l : List RDeed) (F : PH) : Prop := (Kin.slice 40 rdeedKin).K F l [v]
def rdCells (c : RDeed) (vb : Value) : List Value := [.int .i64 c.kind, vb, .int .u8 c.n.toNat]
theorem rdeed_cells {F : PH} {c : RDeed} {cs : List Value} (h : rdeedKin.K F c cs) : ∃ vb, cs = rdCells c vb ∧ bytesAt vb c.rec_ F := by
  obtain ⟨c1, d1, rfl, ⟨rfl, _⟩, c2, d2, rfl, h3, c4, d4, rfl, h4, h5⟩ := h
  obtain ⟨vb, vs, rfl, r⟩ := h3
  cases h5
  cases h4
  exact ⟨vb, rfl, (kin_bytes (F := F) ⟨vb, vs, rfl, r⟩).1⟩
theorem rdeeds_form {v : Value} {l : List RDeed} {F : PH} (h : rdeedsAt v l F) : ∃ A c, v = .slice A l.length c ∧ l.length ≤ c ∧ c ≤ 9223372036854775807 ∧ l.length ≤ 140737488351232 := by
  obtain ⟨v', vs, e, ⟨_, A, c, rfl, h1, h2, _⟩, _, h3⟩ := h
  cases e
  exact ⟨A, c, rfl, h1, h2, by omega⟩
theorem rdeeds_get {W w : World} {L : List HP} (hs : Sat W w L) (hold : old W ∈ L) {v : Value} {l : List RDeed} (h : rdeedsAt v l (hp W)) (i : Nat) (hi : i < l.length) :
    ∃ b o c vb, v = .slice (some ⟨b, o, none⟩) l.length c ∧ w.rangeAt b (o + i * 3) (rdCells l[i] vb) ∧ bytesAt vb l[i].rec_ (hp W) := by
  have hH : Has L (fun F => F = hp W) := Has.mem hold fun F hF => by cases hF; rfl
  obtain ⟨v', vs, e, hsl, hrow, _⟩ := h
  cases e
  obtain ⟨vb, e1, hb⟩ := rdeed_cells (hrow.2 i l[i] (by simp [hi]))
  obtain ⟨hl, A, c, rfl, h1, h2, h3 | ⟨b, o, rfl, hc⟩⟩ := hs.slice (hH.imp fun F hF => by rw [hF]; exact hsl)
  · rw [h3] at hl; have : rdeedKin.sz = 3 := rfl; rw [this] at hl; simp at hl; omega
  · refine ⟨b, o, c, vb, rfl, fun j u hj => ?_, hb⟩
    have hsz : rdeedKin.sz = 3 := rfl
    rw [← e1, hsz, List.getElem?_take] at hj
    split at hj
    · rw [List.getElem?_drop] at hj
      have := cellsAt_world hc (i * 3 + j) u hj
      rw [← Nat.add_assoc] at this
      exact this
    · cases hj
theorem rold_range {W w : World} {L : List HP} (hs : Sat W w L) (hold : old W ∈ L) {b o : Nat} {vs : List Value} (h : W.rangeAt b o vs) (h0 : vs ≠ []) : w.rangeAt b o vs := by
  have := hs.has (Has.mem hold (cellsAt_old h h0)) (fun _ _ => cellsAt_mono)
  exact fun j v hv => cellsAt_world this j v hv
theorem rdeeds_old {W : World} {v : Value} {l : List RDeed} (h : rdeedsAt v l (hp W)) (i : Nat) (hi : i < l.length) :
    ∃ b o c vb, v = .slice (some ⟨b, o, none⟩) l.length c ∧ W.rangeAt b (o + i * 3) (rdCells l[i] vb) ∧ bytesAt vb l[i].rec_ (hp W) := rdeeds_get (Sat.start W) m0 h i hi
theorem has_w {W : World} {L : List HP} (hold : old W ∈ L) {φ : PH → Prop} (h : φ (hp W)) : Has L φ := Has.mem hold fun F hF => by cases hF; exact h
def Small (l : List RDeed) : Prop := l.length ≤ 30 ∧ ∀ c ∈ l, c.rec_.length ≤ 400
def fewB (l : List RDeed) : Bool := decide (l.length ≤ 30) && l.all fun c => decide (c.rec_.length ≤ 400)
theorem fewB_iff (l : List RDeed) : fewB l = true ↔ Small l := by simp [fewB, Small]
theorem fewB_no {l : List RDeed} (h : ¬ Small l) : fewB l = false := by
  cases hb : fewB l with
  | false => rfl
  | true => exact absurd ((fewB_iff l).1 hb) h
def rfewPost (l : List RDeed) (W : World) (L : List HP) (e : Ending) (w' : World) : Prop := e = .returned (.bool (fewB l)) ∧ Sat W w' L
theorem rfewPost_mk {l : List RDeed} {W : World} {L : List HP} {e : Ending} {w' : World} (r : Bool) (he : e = .returned (.bool r)) (h : r = true ↔ Small l) (hs : Sat W w' L) : rfewPost l W L e w' := ⟨by rw [he, Bool.eq_iff_iff.2 (h.trans (fewB_iff l).symm)], hs⟩
set_option maxRecDepth 100000 in
set_option maxHeartbeats 2000000 in
theorem rfew_spec (W w : World) (L : List HP) (hs : Sat W w L) (hold : old W ∈ L) (v : Value) (l : List RDeed) (h : rdeedsAt v l (hp W)) :
    Calls Try.prog 32 #[v] w (rfewPost l W L) := by
  obtain ⟨A, cap, rfl, hl1, hl2, hl3⟩ := rdeeds_form h
  go_enter Try.func32, Try.ntmps32
  go_wp2_with fail
  go_loopw [3] (fun v3 wr => ∃ k : Nat, k ≤ l.length ∧ k ≤ 31 ∧ v3 = .int .i64 k ∧ (∀ j (hj : j < l.length), j < k → l[j].rec_.length ≤ 400) ∧ Sat W wr L) (fun v3 _ => 31 - (intOf v3).toNat)
  case atStart => exact ⟨0, by omega, by omega, rfl, fun j _ hj => by omega, hs⟩
  case round =>
    clear hs
    obtain ⟨k, hk, hk2, rfl, hal, hs⟩ := hrel
    have HA := Box.mk hal
    clear hal
    by_cases hlt : k < l.length
    · have hltI : (k : Int) < (l.length : Int) := by omega
      by_cases h31 : k < 31
      · have h31I : (k : Int) < 31 := by omega
        obtain ⟨b, o, c, vb, e, hrg, hb⟩ := rdeeds_get hs hold h k hlt
        cases e
        obtain ⟨Ab, cb, rfl, hb1, hb2⟩ := slice_form (hs.slice (has_w hold hb))
        have hcell : wr.cell? ⟨b, o + k * 3 + 1, none⟩ = some (.slice Ab l[k].rec_.length cb) := by have := hrg 1 _ rfl; exact this
        by_cases hbig : 400 < l[k].rec_.length
        · have hbigI : (400 : Int) < (l[k].rec_.length : Int) := by omega
          go_wp2_with (first
            | (guard_target = wpList _ _ _ (⟨some 18, .load _ _, _, _, _, _⟩ :: _) _ _; refine wpl (o := ⟨some 18, .load _ _, _, _, _, _⟩) rfl fun K hK => op_load rfl (ad := ⟨b, o + k * 3 + 1, none⟩) rfl (by kernel_rfl) hcell (hK _ _ ?_); clear hK K))
          go_ret
          exact rfewPost_mk false rfl ⟨fun h => (by cases h), fun h => absurd (h.2 l[k] (List.getElem_mem hlt)) (by omega)⟩ hs
        · have hbigI : ¬ (400 : Int) < (l[k].rec_.length : Int) := by omega
          go_wp2_with (first
            | (guard_target = wpList _ _ _ (⟨some 18, .load _ _, _, _, _, _⟩ :: _) _ _; refine wpl (o := ⟨some 18, .load _ _, _, _, _, _⟩) rfl fun K hK => op_load rfl (ad := ⟨b, o + k * 3 + 1, none⟩) rfl (by kernel_rfl) hcell (hK _ _ ?_); clear hK K))
          refine ⟨⟨k + 1, by omega, by omega, by go_num, fun j hj hjk => ?_, hs⟩, by simp only [intOf]; omega⟩
          by_cases e : j = k
          · subst e; omega
          · exact HA.out j hj (by omega)
      · have h31I : ¬ (k : Int) < 31 := by omega
        have h30 : ¬ (l.length : Int) ≤ 30 := by omega
        go_wp2_with fail
        go_ret
        exact rfewPost_mk false rfl ⟨fun h => (by cases h), fun h => absurd h.1 (by omega)⟩ hs
    · have hltI : ¬ (k : Int) < (l.length : Int) := by omega
      go_wp2_with fail
      go_ret
      refine rfewPost_mk (decide ((l.length : Int) ≤ 30)) rfl ⟨fun h => ⟨by have := of_decide_eq_true h; omega, fun c hc => ?_⟩, fun h => by have := h.1; simp; omega⟩ hs
      obtain ⟨j, hj, rfl⟩ := List.getElem_of_mem hc
      exact HA.out j hj (by omega)
theorem fits_rdeeds : Fits Try.prog 62 (Kin.slice 40 rdeedKin) :=
  fits_slice Try.underlying62 (by kernel_rfl)
    (fits_iso (fun x : Int × List UInt8 × UInt8 × Unit => (⟨x.1, x.2.1, x.2.2.1⟩ : RDeed)) (fun _ => rfl)
      (fits_struct Try.underlying80 (by kernel_rfl)
        (fitsL_cons rfl (fits_int Try.underlying3 (by kernel_rfl))
          (fitsL_cons rfl (fits_slice Try.underlying23 (by kernel_rfl) (fits_u8 Try.underlying5 (by kernel_rfl)) (by decide) (by kernel_rfl))
            (fitsL_cons rfl (fits_u8 Try.underlying5 (by kernel_rfl))
              (fitsL_nil _))))))
    (by decide) (by kernel_rfl)
end Go.Proofs.Ytoedmjibhpajjaa
