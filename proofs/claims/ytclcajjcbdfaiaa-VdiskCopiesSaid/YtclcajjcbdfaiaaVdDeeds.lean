/- Deeds that are arguments; few; run. -/
import Derived.Test.YtclcajjcbdfaiaaVdAwake
set_option linter.unusedVariables false
set_option linter.unusedSimpArgs false
namespace Go.Proofs.Ytclcajjcbdfaiaa
open Go.RowKit
def deedKin : Kin Deed := (Kin.pair (Kin.int .i64) (Kin.pair (Kin.int .i64) (Kin.pair (Kin.slice 1 Kin.u8) (Kin.pair (Kin.slice 1 Kin.bool) Kin.unit)))).iso fun c => (c.kind, c.at_, c.b, c.keep, ())
def deedsAt (v : Value) (l : List Deed) (F : PH) : Prop := (Kin.slice 64 deedKin).K F l [v]
theorem rows_bool {F : PH} {l : List Bool} {vs : List Value} (h2 : Kin.bool.rows F l vs) : vs = bools l := by
  apply List.ext_getElem?
  intro i
  have hl : vs.length = l.length := by simpa [Kin.bool] using h2.1
  by_cases hi : i < l.length
  · have := h2.2 i l[i] (by simp [hi])
    simp only [Kin.bool, Nat.mul_one] at this
    have h' : ((vs.drop i).take 1)[0]? = some (Value.bool l[i]) := by rw [this]; rfl
    simpa [bools, hi] using h'
  · rw [List.getElem?_eq_none (by omega), List.getElem?_eq_none (by simp; omega)]
theorem kin_bools {F : PH} {l : List Bool} {v : Value} (h : (Kin.slice 1 Kin.bool).K F l [v]) : boolsAt v l F ∧ l.length ≤ 140737488351232 := by
  obtain ⟨v', vs, e, h1, h2, h3⟩ := h
  cases e
  have := rows_bool h2
  subst this
  exact ⟨h1, by omega⟩
theorem deed_cells {F : PH} {c : Deed} {cs : List Value} (h : deedKin.K F c cs) : ∃ vb vk, cs = [.int .i64 c.kind, .int .i64 c.at_, vb, vk] ∧ bytesAt vb c.b F ∧ boolsAt vk c.keep F ∧ (Lit.int .i64 c.at_).wf = true := by
  obtain ⟨c1, d1, rfl, ⟨rfl, _⟩, c2, d2, rfl, ⟨rfl, hw⟩, c3, d3, rfl, h3, c4, d4, rfl, h4, h5⟩ := h
  obtain ⟨vb, vs, rfl, r⟩ := h3
  obtain ⟨vk, vs', rfl, r'⟩ := h4
  cases h5
  exact ⟨vb, vk, rfl, (kin_bytes (F := F) ⟨vb, vs, rfl, r⟩).1, (kin_bools (F := F) ⟨vk, vs', rfl, r'⟩).1, hw⟩
theorem deeds_form {v : Value} {l : List Deed} {F : PH} (h : deedsAt v l F) : ∃ A c, v = .slice A l.length c ∧ l.length ≤ c ∧ c ≤ 9223372036854775807 ∧ l.length ≤ 140737488351232 := by
  obtain ⟨v', vs, e, ⟨_, A, c, rfl, h1, h2, _⟩, _, h3⟩ := h
  cases e
  exact ⟨A, c, rfl, h1, h2, by omega⟩
theorem deeds_get {W w : World} {L : List HP} (hs : Sat W w L) (hold : old W ∈ L) {v : Value} {l : List Deed} (h : deedsAt v l (hp W)) (i : Nat) (hi : i < l.length) :
    ∃ b o c vb vk, v = .slice (some ⟨b, o, none⟩) l.length c ∧ w.rangeAt b (o + i * 4) [.int .i64 l[i].kind, .int .i64 l[i].at_, vb, vk] ∧ Has L (bytesAt vb l[i].b) ∧ Has L (boolsAt vk l[i].keep) ∧ (Lit.int .i64 l[i].at_).wf = true := by
  have hH : Has L (fun F => F = hp W) := Has.mem hold fun F hF => by cases hF; rfl
  obtain ⟨v', vs, e, hsl, hrow, _⟩ := h
  cases e
  obtain ⟨vb, vk, e1, hb, hk, hw⟩ := deed_cells (hrow.2 i l[i] (by simp [hi]))
  obtain ⟨hl, A, c, rfl, h1, h2, h3 | ⟨b, o, rfl, hc⟩⟩ := hs.slice (hH.imp fun F hF => by rw [hF]; exact hsl)
  · rw [h3] at hl; have : deedKin.sz = 4 := rfl; rw [this] at hl; simp at hl; omega
  · refine ⟨b, o, c, vb, vk, rfl, fun j u hj => ?_, hH.imp fun F hF => by rw [hF]; exact hb, hH.imp fun F hF => by rw [hF]; exact hk, hw⟩
    have hsz : deedKin.sz = 4 := rfl
    rw [← e1, hsz, List.getElem?_take] at hj
    split at hj
    · rw [List.getElem?_drop] at hj
      have := cellsAt_world hc (i * 4 + j) u hj
      rw [← Nat.add_assoc] at this
      exact this
    · cases hj
theorem old_range {W w : World} {L : List HP} (hs : Sat W w L) (hold : old W ∈ L) {b o : Nat} {vs : List Value} (h : W.rangeAt b o vs) (h0 : vs ≠ []) : w.rangeAt b o vs := by
  have := hs.has (Has.mem hold (cellsAt_old h h0)) (fun _ _ => cellsAt_mono)
  exact fun j v hv => cellsAt_world this j v hv
theorem deeds_old {W : World} {v : Value} {l : List Deed} (h : deedsAt v l (hp W)) (i : Nat) (hi : i < l.length) :
    ∃ b o c vb vk, v = .slice (some ⟨b, o, none⟩) l.length c ∧ W.rangeAt b (o + i * 4) [.int .i64 l[i].kind, .int .i64 l[i].at_, vb, vk] ∧ bytesAt vb l[i].b (hp W) ∧ boolsAt vk l[i].keep (hp W) ∧ (Lit.int .i64 l[i].at_).wf = true := by
  obtain ⟨b, o, c, vb, vk, e, h1, h2, h3, h4⟩ := deeds_get (Sat.start W) m0 h i hi
  exact ⟨b, o, c, vb, vk, e, h1, (Sat.start W).bytes h2, (Sat.start W).slice h3, h4⟩
theorem has_w {W : World} {L : List HP} (hold : old W ∈ L) {φ : PH → Prop} (h : φ (hp W)) : Has L φ := Has.mem hold fun F hF => by cases hF; exact h
def fewPost (l : List Deed) (W : World) (L : List HP) (e : Ending) (w' : World) : Prop := ∃ r, e = .returned (.bool r) ∧ (r = true → l.length ≤ 60 ∧ ∀ c ∈ l, c.b.length ≤ 100) ∧ Sat W w' L
theorem fewPost_mk {l : List Deed} {W : World} {L : List HP} {e : Ending} {w' : World} (r : Bool) (he : e = .returned (.bool r)) (h : r = true → l.length ≤ 60 ∧ ∀ c ∈ l, c.b.length ≤ 100) (hs : Sat W w' L) : fewPost l W L e w' := ⟨r, he, h, hs⟩
set_option maxRecDepth 100000 in
set_option maxHeartbeats 2000000 in
theorem few_spec (W w : World) (L : List HP) (hs : Sat W w L) (hold : old W ∈ L) (v : Value) (l : List Deed) (h : deedsAt v l (hp W)) :
    Calls Try.prog 23 #[v] w (fewPost l W L) := by
  obtain ⟨A, cap, rfl, hl1, hl2, hl3⟩ := deeds_form h
  go_enter Try.func23, Try.ntmps23
  go_wp2_with fail
  go_loopw [3] (fun v3 wr => ∃ k : Nat, k ≤ l.length ∧ k ≤ 61 ∧ v3 = .int .i64 k ∧ (∀ j (hj : j < l.length), j < k → l[j].b.length ≤ 100) ∧ Sat W wr L) (fun v3 _ => 61 - (intOf v3).toNat)
  case atStart => exact ⟨0, by omega, by omega, rfl, fun j _ hj => by omega, hs⟩
  case round =>
    clear hs
    obtain ⟨k, hk, hk2, rfl, hal, hs⟩ := hrel
    have HA := Box.mk hal
    clear hal
    by_cases hlt : k < l.length
    · have hltI : (k : Int) < (l.length : Int) := by omega
      by_cases h61 : k < 61
      · have h61I : (k : Int) < 61 := by omega
        obtain ⟨b, o, c, vb, vk, e, hrg, hb, hkp, _⟩ := deeds_get hs hold h k hlt
        cases e
        obtain ⟨Ab, cb, rfl, hb1, hb2⟩ := slice_form (hs.slice hb)
        have hcell : wr.cell? ⟨b, o + k * 4 + 2, none⟩ = some (.slice Ab l[k].b.length cb) := by have := hrg 2 _ rfl; exact this
        by_cases hbig : 100 < l[k].b.length
        · have hbigI : (100 : Int) < (l[k].b.length : Int) := by omega
          go_wp2_with (first
            | (refine wpl (o := ⟨some 18, .load _ _, _, _, _, _⟩) rfl fun K hK => op_load rfl (ad := ⟨b, o + k * 4 + 2, none⟩) rfl (by kernel_rfl) hcell (hK _ _ ?_); clear hK K))
          go_ret
          exact fewPost_mk false rfl (fun h => by cases h) hs
        · have hbigI : ¬ (100 : Int) < (l[k].b.length : Int) := by omega
          go_wp2_with (first
            | (refine wpl (o := ⟨some 18, .load _ _, _, _, _, _⟩) rfl fun K hK => op_load rfl (ad := ⟨b, o + k * 4 + 2, none⟩) rfl (by kernel_rfl) hcell (hK _ _ ?_); clear hK K))
          refine ⟨⟨k + 1, by omega, by omega, by go_num, fun j hj hjk => ?_, hs⟩, by simp only [intOf]; omega⟩
          by_cases e : j = k
          · subst e; omega
          · exact HA.out j hj (by omega)
      · have h61I : ¬ (k : Int) < 61 := by omega
        have h60 : ¬ (l.length : Int) ≤ 60 := by omega
        go_wp2_with fail
        go_ret
        exact fewPost_mk false rfl (fun h => by cases h) hs
    · have hltI : ¬ (k : Int) < (l.length : Int) := by omega
      go_wp2_with fail
      go_ret
      refine fewPost_mk (decide ((l.length : Int) ≤ 60)) rfl (fun h => ⟨by have := of_decide_eq_true h; omega, fun c hc => ?_⟩) hs
      obtain ⟨j, hj, rfl⟩ := List.getElem_of_mem hc
      exact HA.out j hj (by omega)
end Go.Proofs.Ytclcajjcbdfaiaa
