/- The law SlotPlays of layer 8: the deeds that are arguments, the contracts with whatever numbers, a deed of both, the walk. -/
import Derived.Test.YtfpgmnnecnaheaaSlRefOne
import Derived.Test.YtfpgmnnecnaheaaSlLoad
import Derived.Test.YtfpgmnnecnaheaaSlSave
import Derived.Test.YtfpgmnnecnaheaaVdAny
import Derived.Test.YtfpgmnnecnaheaaVdRefC
import Derived.Test.YtfpgmnnecnaheaaVdSync
import Derived.Test.YtfpgmnnecnaheaaVdCrash
import Derived.Test.YtfpgmnnecnaheaaSlAwake
import Derived.Test.YtfpgmnnecnaheaaLift
import Derived.Test.YtfpgmnnecnaheaaKinW
set_option linter.unusedVariables false
set_option linter.unusedSimpArgs false
namespace Go.Proofs.Ytfpgmnnecnaheaa
open Go.RowKit
theorem oold_range {W w : World} {L : List HP} (hs : Sat W w L) (hold : old W ∈ L) {b o : Nat} {vs : List Value} (h : W.rangeAt b o vs) (h0 : vs ≠ []) : w.rangeAt b o vs := by
  have := hs.has (Has.mem hold (cellsAt_old h h0)) (fun _ _ => cellsAt_mono)
  exact fun j v hv => cellsAt_world this j v hv
theorem has_w {W : World} {L : List HP} (hold : old W ∈ L) {φ : PH → Prop} (h : φ (hp W)) : Has L φ := Has.mem hold fun F hF => by cases hF; exact h
theorem rows_bool {F : PH} {l : List Bool} {vs : List Value} (h2 : Kin.bool.rows F l vs) : vs = bools l := by
  apply List.ext_getElem?
  intro i
  have hl : vs.length = l.length := by simpa [Kin.bool] using h2.1
  by_cases hi : i < l.length
  · have := h2.2 i l[i] (by simp [hi])
    simp only [Kin.bool, Nat.mul_one] at this
    have h' : ((vs.drop i).take 1)[0]? = some (Value.bool l[i]) := by rw [this]; rfl
    simpa [bools, hi] using h'
  · rw [List.getElem?_eq_none (by omega), List.getElem?_eq_none (by simp; omega)]
theorem kin_bools {F : PH} {l : List Bool} {v : Value} (h : (Kin.slice 1 Kin.bool).K F l [v]) : boolsAt v l F ∧ l.length ≤ 140737488351232 := by
  obtain ⟨v', vs, e, h1, h2, h3⟩ := h
  cases e
  have := rows_bool h2
  subst this
  exact ⟨h1, by omega⟩
structure SDeed where
  kind : Int
  gen : Int
  at_ : Int
  b : List UInt8
  keep : List Bool
def sdeedKin : Kin SDeed := (Kin.pair (Kin.int .i64) (Kin.pair (Kin.int .u32) (Kin.pair (Kin.int .i64) (Kin.pair (Kin.slice 1 Kin.u8) (Kin.pair (Kin.slice 1 Kin.bool) Kin.unit))))).iso fun c => (c.kind, c.gen, c.at_, c.b, c.keep, ())
def sdeedsAt (v : Value) (l : List SDeed) (F : PH) : Prop := (Kin.slice 72 sdeedKin).K F l [v]
def sdCells (k : Int) (g : Nat) (a : Int) (vb vk : Value) : List Value := [.int .i64 k, .int .u32 (g : Nat), .int .i64 a, vb, vk]
theorem sdeed_cells {F : PH} {c : SDeed} {cs : List Value} (h : sdeedKin.K F c cs) : ∃ vb vk, ∃ g : Nat, c.gen = g ∧ g < 4294967296 ∧ cs = sdCells c.kind g c.at_ vb vk ∧ bytesAt vb c.b F ∧ boolsAt vk c.keep F := by
  obtain ⟨c1, d1, rfl, ⟨rfl, _⟩, c2, d2, rfl, ⟨rfl, hw⟩, c5, d5, rfl, ⟨rfl, _⟩, c3, d3, rfl, h3, c4, d4, rfl, h4, h5⟩ := h
  obtain ⟨vb, vs, rfl, r⟩ := h3
  obtain ⟨vk, vs', rfl, r'⟩ := h4
  cases h5
  have hn' : 0 ≤ c.gen ∧ c.gen ≤ 4294967295 := by simpa [Lit.wf, IntKind.min, IntKind.max, IntKind.signed, IntKind.bits] using hw
  obtain ⟨g, hg⟩ := Int.eq_ofNat_of_zero_le hn'.1
  refine ⟨vb, vk, g, hg, by omega, ?_, (kin_bytes (F := F) ⟨vb, vs, rfl, r⟩).1, (kin_bools (F := F) ⟨vk, vs', rfl, r'⟩).1⟩
  unfold sdCells
  rw [← hg]; rfl
theorem sdeeds_form {v : Value} {l : List SDeed} {F : PH} (h : sdeedsAt v l F) : ∃ A c, v = .slice A l.length c ∧ l.length ≤ c ∧ c ≤ 9223372036854775807 ∧ l.length ≤ 140737488351232 := by
  obtain ⟨v', vs, e, ⟨_, A, c, rfl, h1, h2, _⟩, _, h3⟩ := h
  cases e
  exact ⟨A, c, rfl, h1, h2, by omega⟩
theorem sdeeds_get {W w : World} {L : List HP} (hs : Sat W w L) (hold : old W ∈ L) {v : Value} {l : List SDeed} (h : sdeedsAt v l (hp W)) (i : Nat) (hi : i < l.length) :
    ∃ b o c vb vk, ∃ g : Nat, v = .slice (some ⟨b, o, none⟩) l.length c ∧ l[i].gen = g ∧ g < 4294967296 ∧ w.rangeAt b (o + i * 5) (sdCells l[i].kind g l[i].at_ vb vk) ∧ bytesAt vb l[i].b (hp W) ∧ boolsAt vk l[i].keep (hp W) := by
  have hH : Has L (fun F => F = hp W) := Has.mem hold fun F hF => by cases hF; rfl
  obtain ⟨v', vs, e, hsl, hrow, _⟩ := h
  cases e
  obtain ⟨vb, vk, g, hg1, hg2, e1, hb, hk⟩ := sdeed_cells (hrow.2 i l[i] (by simp [hi]))
  obtain ⟨hl, A, c, rfl, h1, h2, h3 | ⟨b, o, rfl, hc⟩⟩ := hs.slice (hH.imp fun F hF => by rw [hF]; exact hsl)
  · rw [h3] at hl; have : sdeedKin.sz = 5 := rfl; rw [this] at hl; simp at hl; omega
  · refine ⟨b, o, c, vb, vk, g, rfl, hg1, hg2, fun j u hj => ?_, hb, hk⟩
    have hsz : sdeedKin.sz = 5 := rfl
    rw [← e1, hsz, List.getElem?_take] at hj
    split at hj
    · rw [List.getElem?_drop] at hj
      have := cellsAt_world hc (i * 5 + j) u hj
      rw [← Nat.add_assoc] at this
      exact this
    · cases hj
theorem sdeeds_old {W : World} {v : Value} {l : List SDeed} (h : sdeedsAt v l (hp W)) (i : Nat) (hi : i < l.length) :
    ∃ b o c vb vk, ∃ g : Nat, v = .slice (some ⟨b, o, none⟩) l.length c ∧ l[i].gen = g ∧ g < 4294967296 ∧ W.rangeAt b (o + i * 5) (sdCells l[i].kind g l[i].at_ vb vk) ∧ bytesAt vb l[i].b (hp W) ∧ boolsAt vk l[i].keep (hp W) := sdeeds_get (Sat.start W) m0 h i hi
def SSmall (l : List SDeed) : Prop := l.length ≤ 30 ∧ ∀ c ∈ l, c.b.length ≤ 300
def sfewB (l : List SDeed) : Bool := decide (l.length ≤ 30) && l.all fun c => decide (c.b.length ≤ 300)
theorem sfewB_iff (l : List SDeed) : sfewB l = true ↔ SSmall l := by simp [sfewB, SSmall]
theorem sfewB_no {l : List SDeed} (h : ¬ SSmall l) : sfewB l = false := by
  cases hb : sfewB l with
  | false => rfl
  | true => exact absurd ((sfewB_iff l).1 hb) h
def sfewPost (l : List SDeed) (W : World) (L : List HP) (e : Ending) (w' : World) : Prop := e = .returned (.bool (sfewB l)) ∧ Sat W w' L
theorem sfewPost_mk {l : List SDeed} {W : World} {L : List HP} {e : Ending} {w' : World} (r : Bool) (he : e = .returned (.bool r)) (h : r = true ↔ SSmall l) (hs : Sat W w' L) : sfewPost l W L e w' := ⟨by rw [he, Bool.eq_iff_iff.2 (h.trans (sfewB_iff l).symm)], hs⟩
set_option maxRecDepth 100000 in
set_option maxHeartbeats 2000000 in
theorem sfew_spec (W w : World) (L : List HP) (hs : Sat W w L) (hold : old W ∈ L) (v : Value) (l : List SDeed) (h : sdeedsAt v l (hp W)) :
    Calls Try.prog 29 #[v] w (sfewPost l W L) := by
  obtain ⟨A, cap, rfl, hl1, hl2, hl3⟩ := sdeeds_form h
  go_enter Try.func29, Try.ntmps29
  go_wp2_with fail
  go_loopw [3] (fun v3 wr => ∃ k : Nat, k ≤ l.length ∧ k ≤ 31 ∧ v3 = .int .i64 k ∧ (∀ j (hj : j < l.length), j < k → l[j].b.length ≤ 300) ∧ Sat W wr L) (fun v3 _ => 31 - (intOf v3).toNat)
  case atStart => exact ⟨0, by omega, by omega, rfl, fun j _ hj => by omega, hs⟩
  case round =>
    clear hs
    obtain ⟨k, hk, hk2, rfl, hal, hs⟩ := hrel
    have HA := Box.mk hal
    clear hal
    by_cases hlt : k < l.length
    · have hltI : (k : Int) < (l.length : Int) := by omega
      by_cases h31 : k < 31
      · have h31I : (k : Int) < 31 := by omega
        obtain ⟨b, o, c, vb, vk, g, e, hg1, hg2, hrg, hb, _⟩ := sdeeds_get hs hold h k hlt
        cases e
        obtain ⟨Ab, cb, rfl, hb1, hb2⟩ := slice_form (hs.slice (has_w hold hb))
        have hcell : wr.cell? ⟨b, o + k * 5 + 3, none⟩ = some (.slice Ab l[k].b.length cb) := by have := hrg 3 _ rfl; exact this
        clear hg1 hg2
        by_cases hbig : 300 < l[k].b.length
        · have hbigI : (300 : Int) < (l[k].b.length : Int) := by omega
          go_wp2_with (first
            | (guard_target = wpList _ _ _ (⟨some 18, .load _ _, _, _, _, _⟩ :: _) _ _; refine wpl (o := ⟨some 18, .load _ _, _, _, _, _⟩) rfl fun K hK => op_load rfl (ad := ⟨b, o + k * 5 + 3, none⟩) rfl (by kernel_rfl) hcell (hK _ _ ?_); clear hK K))
          go_ret
          exact sfewPost_mk false rfl ⟨fun h => (by cases h), fun h => absurd (h.2 l[k] (List.getElem_mem hlt)) (by omega)⟩ hs
        · have hbigI : ¬ (300 : Int) < (l[k].b.length : Int) := by omega
          go_wp2_with (first
            | (guard_target = wpList _ _ _ (⟨some 18, .load _ _, _, _, _, _⟩ :: _) _ _; refine wpl (o := ⟨some 18, .load _ _, _, _, _, _⟩) rfl fun K hK => op_load rfl (ad := ⟨b, o + k * 5 + 3, none⟩) rfl (by kernel_rfl) hcell (hK _ _ ?_); clear hK K))
          refine ⟨⟨k + 1, by omega, by omega, by go_num, fun j hj hjk => ?_, hs⟩, by simp only [intOf]; omega⟩
          by_cases e : j = k
          · subst e; omega
          · exact HA.out j hj (by omega)
      · have h31I : ¬ (k : Int) < 31 := by omega
        have h30 : ¬ (l.length : Int) ≤ 30 := by omega
        go_wp2_with fail
        go_ret
        exact sfewPost_mk false rfl ⟨fun h => (by cases h), fun h => absurd h.1 (by omega)⟩ hs
    · have hltI : ¬ (k : Int) < (l.length : Int) := by omega
      go_wp2_with fail
      go_ret
      refine sfewPost_mk (decide ((l.length : Int) ≤ 30)) rfl ⟨fun h => ⟨by have := of_decide_eq_true h; omega, fun c hc => ?_⟩, fun h => by have := h.1; simp; omega⟩ hs
      obtain ⟨j, hj, rfl⟩ := List.getElem_of_mem hc
      exact HA.out j hj (by omega)
theorem fits_sdeeds : Fits Try.prog 62 (Kin.slice 72 sdeedKin) :=
  fits_slice Try.underlying62 (by kernel_rfl)
    (fits_iso (fun x : Int × Int × Int × List UInt8 × List Bool × Unit => (⟨x.1, x.2.1, x.2.2.1, x.2.2.2.1, x.2.2.2.2.1⟩ : SDeed)) (fun _ => rfl)
      (fits_struct Try.underlying67 (by kernel_rfl)
        (fitsL_cons rfl (fits_int Try.underlying3 (by kernel_rfl))
          (fitsL_cons rfl (fits_int Try.underlying27 (by kernel_rfl))
            (fitsL_cons rfl (fits_int Try.underlying3 (by kernel_rfl))
              (fitsL_cons rfl (fits_slice Try.underlying23 (by kernel_rfl) (fits_u8 Try.underlying5 (by kernel_rfl)) (by decide) (by kernel_rfl))
                (fitsL_cons rfl (fits_slice Try.underlying36 (by kernel_rfl) (fits_bool Try.underlying4 (by kernel_rfl)) (by decide) (by kernel_rfl))
                  (fitsL_nil _))))))))
    (by decide) (by kernel_rfl)
def slHasA (D : Dk) (first size which : Int) : Option (Nat × List UInt8) := if slMayB D.secs.length first size = true ∧ 0 ≤ which ∧ which ≤ 1 then slHas D first.toNat size.toNat which.toNat else none
def slLoadA (D : Dk) (first size : Int) : Option (Nat × List UInt8) := if slMayB D.secs.length first size = true then slLoadO (slHas D first.toNat size.toNat 0) (slHas D first.toNat size.toNat 1) else none
theorem may_nats {n : Nat} {first size : Int} (h : slMayB n first size = true) : ∃ f s : Nat, first = f ∧ size = s ∧ f + 2 * s ≤ n ∧ 1 ≤ s := by
  unfold slMayB at h
  have := of_decide_eq_true h
  exact ⟨first.toNat, size.toNat, by omega, by omega, by omega, by omega⟩
theorem slOne_par (rd : Nat → List UInt8) (which : Nat) : ∀ (fuel i gen : Nat) (body : List UInt8) (g : Nat) (b : List UInt8), slOne rd which fuel i gen body = some (g, b) → g % 2 = which
  | 0, _, _, _, _, _, h => by cases h
  | fuel + 1, i, gen, body, g, b, h => by
    obtain ⟨gg, hgg⟩ : ∃ gg, (if i = 0 then (Fr.parse (rd i)).epoch else gen) = gg := ⟨_, rfl⟩
    unfold slOne at h
    dsimp only at h
    rw [hgg] at h
    split at h
    · rename_i hn
      split at h
      · cases h
        unfold slNext at hn
        simp only [Bool.and_eq_true, decide_eq_true_eq] at hn
        exact hn.1.1.1.2
      · exact slOne_par rd which fuel _ _ _ g b h
    · cases h
theorem slHas_par {D : Dk} {f s which g : Nat} {b : List UInt8} (h : slHas D f s which = some (g, b)) : g % 2 = which := slOne_par _ _ _ _ _ _ _ _ h
theorem slHasA_par {D : Dk} {f s which : Int} {g : Nat} {b : List UInt8} (h : slHasA D f s which = some (g, b)) : ((g % 2 : Nat) : Int) = which := by
  unfold slHasA at h
  split at h
  · rename_i hc
    have := slHas_par h
    omega
  · cases h
/-- The document's choice. -/
theorem load_choice (D : Dk) (first size : Int) : slLoadA D first size = (if (slHasA D first size 0).isSome = true ∧ ((slHasA D first size 1).isSome = false ∨ slGen (slHasA D first size 1) < slGen (slHasA D first size 0)) then slHasA D first size 0 else slHasA D first size 1) := by
  unfold slLoadA
  cases hm : slMayB D.secs.length first size with
  | false =>
    have h0 : ∀ x, slHasA D first size x = none := fun x => by unfold slHasA; rw [if_neg (by rw [hm]; simp)]
    rw [h0, h0]
    simp
  | true =>
    have h0 : slHasA D first size 0 = slHas D first.toNat size.toNat 0 := by unfold slHasA; rw [if_pos ⟨hm, by omega, by omega⟩]; rfl
    have h1 : slHasA D first size 1 = slHas D first.toNat size.toNat 1 := by unfold slHasA; rw [if_pos ⟨hm, by omega, by omega⟩]; rfl
    rw [h0, h1, if_pos rfl]
    unfold slLoadO
    cases e0 : slHas D first.toNat size.toNat 0 with
    | none => cases e1 : slHas D first.toNat size.toNat 1 <;> simp
    | some x =>
      cases e1 : slHas D first.toNat size.toNat 1 with
      | none => simp
      | some y =>
        have p0 := slHas_par (b := x.2) (g := x.1) e0
        have p1 := slHas_par (b := y.2) (g := y.1) e1
        have hne : x.1 ≠ y.1 := by omega
        by_cases hlt : x.1 < y.1
        · have hlt2 : ¬ y.1 < x.1 := by omega
          simp [slGen, hlt, hlt2]
        · have hlt2 : y.1 < x.1 := by omega
          simp [slGen, hlt, hlt2]
theorem slone_any (W w : World) (L : List HP) (b : Nat) (D : Dk) (hs : Sat W w (disk b D :: L)) (first size which : Int) (hfi : first < 9223372036854775808) (hr : D.row.length ≤ 1000000) :
    Calls Try.prog 22 #[.pointer (some ⟨b, 0, none⟩), .agg (areaC first size).toArray, .int .i64 which] w (slonePost (slHasA D first size which) W (disk b D :: L)) := by
  by_cases h : slMayB D.secs.length first size = true ∧ 0 ≤ which ∧ which ≤ 1
  · obtain ⟨f, s, rfl, rfl, _, _⟩ := may_nats h.1
    obtain ⟨k, rfl⟩ := Int.eq_ofNat_of_zero_le h.2.1
    have e : slHasA D (f : Nat) (s : Nat) (k : Nat) = slHas D f s k := by unfold slHasA; rw [if_pos h]; rfl
    rw [e]
    exact slone_spec W w L b D hs f s k h.1 (by omega) hr
  · have e : slHasA D first size which = none := by unfold slHasA; rw [if_neg h]
    rw [e]
    refine slone_none W w L b D hs first size which hfi ?_
    cases hm : slMayB D.secs.length first size with
    | false => exact .inl rfl
    | true => exact .inr (by simp only [hm, true_and] at h; omega)
theorem rslone_any (W w : World) (L : List HP) (vs va vr : Value) (D : Dk) (okD : D.Ok) (hs : Sat W w (ref vs va vr D :: L)) (first size which : Int) (hr : D.row.length ≤ 1000000) :
    Calls Try.prog 32 #[.agg #[vs, va, vr], .int .i64 first, .int .i64 size, .int .i64 which] w (rslonePost (slHasA D first size which) W (ref vs va vr D :: L)) := by
  by_cases h : slMayB D.secs.length first size = true ∧ 0 ≤ which ∧ which ≤ 1
  · obtain ⟨f, s, rfl, rfl, _, _⟩ := may_nats h.1
    obtain ⟨k, rfl⟩ := Int.eq_ofNat_of_zero_le h.2.1
    have e : slHasA D (f : Nat) (s : Nat) (k : Nat) = slHas D f s k := by unfold slHasA; rw [if_pos h]; rfl
    rw [e]
    exact rslone_spec W w L vs va vr D okD hs f s k h.1 (by omega) hr
  · have e : slHasA D first size which = none := by unfold slHasA; rw [if_neg h]
    rw [e]
    obtain ⟨As, cs, rfl, _, _⟩ := slice_form (hs.slice (ref_secs m0))
    obtain ⟨Aa, ca, rfl, _, _⟩ := slice_form (hs.slice (ref_ats m0))
    obtain ⟨Ar, cr, rfl, _, _⟩ := slice_form (hs.slice (ref_row m0))
    refine rslone_none W w _ As Aa Ar _ _ _ cs ca cr hs first size which okD.few ?_
    cases hm : slMayB D.secs.length first size with
    | false => exact .inl rfl
    | true => exact .inr (by simp only [hm, true_and] at h; omega)
theorem slload_any (W w : World) (L : List HP) (b : Nat) (D : Dk) (hs : Sat W w (disk b D :: L)) (first size : Int) (hfi : first < 9223372036854775808) (hr : D.row.length ≤ 1000000) :
    Calls Try.prog 19 #[.pointer (some ⟨b, 0, none⟩), .agg (areaC first size).toArray] w (slonePost (slLoadA D first size) W (disk b D :: L)) := by
  cases hm : slMayB D.secs.length first size with
  | true =>
    obtain ⟨f, s, rfl, rfl, _, _⟩ := may_nats hm
    have e : slLoadA D (f : Nat) (s : Nat) = slLoadO (slHas D f s 0) (slHas D f s 1) := by unfold slLoadA; rw [if_pos hm]; rfl
    rw [e]
    exact slload_spec W w L b D hs f s hm hr
  | false =>
    have e : slLoadA D first size = none := by unfold slLoadA; rw [if_neg (by rw [hm]; simp)]
    rw [e]
    exact slload_none W w L b D hs first size hfi hm
theorem slsave_anyI (W w : World) (L : List HP) (b : Nat) (D : Dk) (hs : Sat W w (disk b D :: L)) (first size : Int) (hfi : first < 9223372036854775808) (gen : Nat) (hg : gen < 4294967296) (v : Value) (rec : List UInt8) (hv : Has L (bytesAt v rec)) (hl : rec.length ≤ 1000) (hr : D.row.length ≤ 800000) :
    Calls Try.prog 17 #[.pointer (some ⟨b, 0, none⟩), .agg (areaC first size).toArray, .int .u32 (gen : Nat), v] w fun e w' => e = .returned (.int .i64 (slCode D.secs.length first size gen rec : Nat)) ∧ Sat W w' (disk b (slSave D first size gen rec) :: L) := by
  have hfew := hs.disk_open.1.few
  cases hm : slMayB D.secs.length first size with
  | true =>
    obtain ⟨f, s, rfl, rfl, _, _⟩ := may_nats hm
    exact slsave_any W w L b D hs f s (by omega) gen hg hm v rec hv (by omega) hr
  | false =>
    have hc : slCode D.secs.length first size gen rec = 1 := by unfold slCode; rw [if_pos (.inl hm)]
    have hsv : slSave D first size gen rec = D := by unfold slSave; rw [hc]; rfl
    rw [hc, hsv]
    exact slsave_arg W w L b D hs first size hfi gen v (.inl hm)
theorem rslsave_anyI (W w : World) (L : List HP) (vs va vr : Value) (D : Dk) (okD : D.Ok) (hs : Sat W w (ref vs va vr D :: L)) (first size : Int) (gen : Nat) (hg : gen < 4294967296) (rec : List UInt8) (hl : rec.length ≤ 1000) (hr : D.row.length ≤ 800000) :
    Calls Try.prog 58 #[.agg #[vs, va, vr], .int .i64 first, .int .i64 size, .int .u32 (gen : Nat), (.string ⟨(rec).toArray⟩)] w fun e w' => ∃ vs' va' vr', e = .returned (.tuple #[.agg #[vs', va', vr'], .int .i64 (slCode D.secs.length first size gen rec : Nat)]) ∧ Sat W w' (ref vs' va' vr' (slSave D first size gen rec) :: L) := by
  by_cases h : slMayB D.secs.length first size = true ∧ gen ≠ 0
  · obtain ⟨f, s, rfl, rfl, _, _⟩ := may_nats h.1
    exact rslsave_spec W w L vs va vr D okD hs f s gen h.2 hg h.1 rec hl hr
  · have hno : slMayB D.secs.length first size = false ∨ gen = 0 := by
      cases hm : slMayB D.secs.length first size with
      | false => exact .inl rfl
      | true => exact .inr (by simpa [hm] using h)
    have hc : slCode D.secs.length first size gen rec = 1 := by unfold slCode; rw [if_pos hno]
    have hsv : slSave D first size gen rec = D := by unfold slSave; rw [hc]; rfl
    rw [hc, hsv]
    obtain ⟨As, cs, rfl, _, _⟩ := slice_form (hs.slice (ref_secs m0))
    obtain ⟨Aa, ca, rfl, _, _⟩ := slice_form (hs.slice (ref_ats m0))
    obtain ⟨Ar, cr, rfl, _, _⟩ := slice_form (hs.slice (ref_row m0))
    refine (rslsave_arg W w _ As Aa Ar _ _ _ cs ca cr hs first size gen rec okD.few hno).mono ?_
    rintro e w' ⟨rfl, hs'⟩
    exact ⟨_, _, _, rfl, hs'⟩
set_option maxRecDepth 100000 in
set_option maxHeartbeats 4000000 in
theorem rslload_any (W w : World) (L : List HP) (vs va vr : Value) (D : Dk) (okD : D.Ok) (hs : Sat W w (ref vs va vr D :: L)) (first size : Int) (hr : D.row.length ≤ 1000000) :
    Calls Try.prog 31 #[.agg #[vs, va, vr], .int .i64 first, .int .i64 size] w (rslonePost (slLoadA D first size) W (ref vs va vr D :: L)) := by
  have hch := load_choice D first size
  obtain ⟨As, cs, rfl, _, _⟩ := slice_form (hs.slice (ref_secs m0))
  obtain ⟨Aa, ca, rfl, _, _⟩ := slice_form (hs.slice (ref_ats m0))
  obtain ⟨Ar, cr, rfl, _, _⟩ := slice_form (hs.slice (ref_row m0))
  obtain ⟨p0, hp0⟩ : ∃ p, slHasA D first size 0 = p := ⟨_, rfl⟩
  obtain ⟨p1, hp1⟩ : ∃ p, slHasA D first size 1 = p := ⟨_, rfl⟩
  obtain ⟨r, hr2⟩ : ∃ p, slLoadA D first size = p := ⟨_, rfl⟩
  rw [hp0, hp1, hr2] at hch
  rw [hr2]
  have HP0 := Box.mk hp0
  have HP1 := Box.mk hp1
  clear hp0 hp1 hr2
  generalize hn1 : D.secs.length = n1 at hs
  generalize hn2 : D.row.length = n2 at hs
  have HN := Box.mk (And.intro hn1 hn2)
  clear hn1 hn2
  cases hq0 : p0.isSome with
  | false =>
    have HR : Box (r = p1) := ⟨by rw [hch, if_neg (by rw [hq0]; simp)]⟩
    have HQ0 := Box.mk hq0
    clear hch hq0
    go_enter Try.func31, Try.ntmps31
    go_wp2_with (first
      | (guard_target = wpList _ _ _ (⟨some 3, .box _ _, _, _, _, _⟩ :: _) _ _; refine wpl (o := ⟨some 3, .box _ _, _, _, _, _⟩) rfl fun K hK => ?_; go_must (refine op_box hs rfl _ rfl [.slice As n1 cs, .slice Aa n2 ca, .slice Ar n2 cr] rfl fun b3 w1 h => hK _ _ ?_); clear hs hK K; have hs := h; clear h; try dsimp only [List.set] at hs)
      | (guard_target = wpList _ _ _ (⟨some 16, .load _ _, _, _, _, _⟩ :: _) _ _; refine wpl (o := ⟨some 16, .load _ _, _, _, _, _⟩) rfl fun K hK => op_load_agg rfl (b := b3) (i := 0) rfl ([.slice As n1 cs, .slice Aa n2 ca, .slice Ar n2 cr]) (range_whole hs (by (try dsimp only [List.set]); repeat (first | with_reducible exact List.mem_cons_self | with_reducible apply List.mem_cons_of_mem))) (by kernel_rfl) (by kernel_rfl) (hK _ _ ?_); clear hK K)
      | (guard_target = wpList _ _ _ (⟨some 24, .load _ _, _, _, _, _⟩ :: _) _ _; refine wpl (o := ⟨some 24, .load _ _, _, _, _, _⟩) rfl fun K hK => op_load_agg rfl (b := b3) (i := 0) rfl ([.slice As n1 cs, .slice Aa n2 ca, .slice Ar n2 cr]) (range_whole hs (by (try dsimp only [List.set]); repeat (first | with_reducible exact List.mem_cons_self | with_reducible apply List.mem_cons_of_mem))) (by kernel_rfl) (by kernel_rfl) (hK _ _ ?_); clear hK K)
      | (have hh := mark1; clear hh; go_at_call 32; go_must (refine (rslone_any W _ _ _ _ _ D okD (hs.pick (A := ref (.slice As n1 cs) (.slice Aa n2 ca) (.slice Ar n2 cr) D) (by repeat (first | with_reducible exact Pick.here | with_reducible apply Pick.there))) first size 1 hr).mono ?_); clear hs; rintro e w1 ⟨rfl, hs⟩; rw [HP1.out])
      | (go_at_call 32; go_must (refine (rslone_any W _ _ _ _ _ D okD (hs.pick (A := ref (.slice As n1 cs) (.slice Aa n2 ca) (.slice Ar n2 cr) D) (by repeat (first | with_reducible exact Pick.here | with_reducible apply Pick.there))) first size 0 hr).mono ?_); clear hs; rintro e w1 ⟨rfl, hs⟩; rw [HP0.out, HQ0.out]; have mark1 := trivial))
    (try simp only [Exit.inBlock, Exit.then])
    refine bodyPost_ret (res_tmp3 rfl _ _ _) rfl ?_
    rw [HR.out]
    exact ⟨rfl, hs.pack (by repeat (first | with_reducible exact Pack.refl | with_reducible exact Pack.nil | with_reducible refine Pack.cons (by repeat (first | with_reducible exact Pick.here | with_reducible apply Pick.there)) ?_ | with_reducible apply Pack.drop))⟩
  | true =>
    cases hq1 : p1.isSome with
    | false =>
      have HR : Box (r = p0) := ⟨by rw [hch, if_pos ⟨hq0, .inl hq1⟩]⟩
      have HQ0 := Box.mk (And.intro hq0 hq1)
      clear hch hq0 hq1
      go_enter Try.func31, Try.ntmps31
      go_wp2_with (first
        | (guard_target = wpList _ _ _ (⟨some 3, .box _ _, _, _, _, _⟩ :: _) _ _; refine wpl (o := ⟨some 3, .box _ _, _, _, _, _⟩) rfl fun K hK => ?_; go_must (refine op_box hs rfl _ rfl [.slice As n1 cs, .slice Aa n2 ca, .slice Ar n2 cr] rfl fun b3 w1 h => hK _ _ ?_); clear hs hK K; have hs := h; clear h; try dsimp only [List.set] at hs)
        | (guard_target = wpList _ _ _ (⟨some 16, .load _ _, _, _, _, _⟩ :: _) _ _; refine wpl (o := ⟨some 16, .load _ _, _, _, _, _⟩) rfl fun K hK => op_load_agg rfl (b := b3) (i := 0) rfl ([.slice As n1 cs, .slice Aa n2 ca, .slice Ar n2 cr]) (range_whole hs (by (try dsimp only [List.set]); repeat (first | with_reducible exact List.mem_cons_self | with_reducible apply List.mem_cons_of_mem))) (by kernel_rfl) (by kernel_rfl) (hK _ _ ?_); clear hK K)
        | (guard_target = wpList _ _ _ (⟨some 24, .load _ _, _, _, _, _⟩ :: _) _ _; refine wpl (o := ⟨some 24, .load _ _, _, _, _, _⟩) rfl fun K hK => op_load_agg rfl (b := b3) (i := 0) rfl ([.slice As n1 cs, .slice Aa n2 ca, .slice Ar n2 cr]) (range_whole hs (by (try dsimp only [List.set]); repeat (first | with_reducible exact List.mem_cons_self | with_reducible apply List.mem_cons_of_mem))) (by kernel_rfl) (by kernel_rfl) (hK _ _ ?_); clear hK K)
        | (have hh := mark1; clear hh; go_at_call 32; go_must (refine (rslone_any W _ _ _ _ _ D okD (hs.pick (A := ref (.slice As n1 cs) (.slice Aa n2 ca) (.slice Ar n2 cr) D) (by repeat (first | with_reducible exact Pick.here | with_reducible apply Pick.there))) first size 1 hr).mono ?_); clear hs; rintro e w1 ⟨rfl, hs⟩; rw [HP1.out, HQ0.out.2])
        | (go_at_call 32; go_must (refine (rslone_any W _ _ _ _ _ D okD (hs.pick (A := ref (.slice As n1 cs) (.slice Aa n2 ca) (.slice Ar n2 cr) D) (by repeat (first | with_reducible exact Pick.here | with_reducible apply Pick.there))) first size 0 hr).mono ?_); clear hs; rintro e w1 ⟨rfl, hs⟩; rw [HP0.out, HQ0.out.1]; have mark1 := trivial))
      (try simp only [Exit.inBlock, Exit.then])
      refine bodyPost_ret (res_tmp3 rfl _ _ _) rfl ?_
      refine ⟨?_, hs.pack (by repeat (first | with_reducible exact Pack.refl | with_reducible exact Pack.nil | with_reducible refine Pack.cons (by repeat (first | with_reducible exact Pick.here | with_reducible apply Pick.there)) ?_ | with_reducible apply Pack.drop))⟩
      rw [HR.out, HQ0.out.1]; rfl
    | true =>
      by_cases hgt : slGen p1 < slGen p0
      · have hgtI : (slGen p1 : Int) < (slGen p0 : Int) := by omega
        have HR : Box (r = p0) := ⟨by rw [hch, if_pos ⟨hq0, .inr hgt⟩]⟩
        have HQ0 := Box.mk (And.intro hq0 hq1)
        clear hch hq0 hq1
        go_enter Try.func31, Try.ntmps31
        go_wp2_with (first
          | (guard_target = wpList _ _ _ (⟨some 3, .box _ _, _, _, _, _⟩ :: _) _ _; refine wpl (o := ⟨some 3, .box _ _, _, _, _, _⟩) rfl fun K hK => ?_; go_must (refine op_box hs rfl _ rfl [.slice As n1 cs, .slice Aa n2 ca, .slice Ar n2 cr] rfl fun b3 w1 h => hK _ _ ?_); clear hs hK K; have hs := h; clear h; try dsimp only [List.set] at hs)
          | (guard_target = wpList _ _ _ (⟨some 16, .load _ _, _, _, _, _⟩ :: _) _ _; refine wpl (o := ⟨some 16, .load _ _, _, _, _, _⟩) rfl fun K hK => op_load_agg rfl (b := b3) (i := 0) rfl ([.slice As n1 cs, .slice Aa n2 ca, .slice Ar n2 cr]) (range_whole hs (by (try dsimp only [List.set]); repeat (first | with_reducible exact List.mem_cons_self | with_reducible apply List.mem_cons_of_mem))) (by kernel_rfl) (by kernel_rfl) (hK _ _ ?_); clear hK K)
          | (guard_target = wpList _ _ _ (⟨some 24, .load _ _, _, _, _, _⟩ :: _) _ _; refine wpl (o := ⟨some 24, .load _ _, _, _, _, _⟩) rfl fun K hK => op_load_agg rfl (b := b3) (i := 0) rfl ([.slice As n1 cs, .slice Aa n2 ca, .slice Ar n2 cr]) (range_whole hs (by (try dsimp only [List.set]); repeat (first | with_reducible exact List.mem_cons_self | with_reducible apply List.mem_cons_of_mem))) (by kernel_rfl) (by kernel_rfl) (hK _ _ ?_); clear hK K)
          | (have hh := mark1; clear hh; go_at_call 32; go_must (refine (rslone_any W _ _ _ _ _ D okD (hs.pick (A := ref (.slice As n1 cs) (.slice Aa n2 ca) (.slice Ar n2 cr) D) (by repeat (first | with_reducible exact Pick.here | with_reducible apply Pick.there))) first size 1 hr).mono ?_); clear hs; rintro e w1 ⟨rfl, hs⟩; rw [HP1.out, HQ0.out.2])
          | (go_at_call 32; go_must (refine (rslone_any W _ _ _ _ _ D okD (hs.pick (A := ref (.slice As n1 cs) (.slice Aa n2 ca) (.slice Ar n2 cr) D) (by repeat (first | with_reducible exact Pick.here | with_reducible apply Pick.there))) first size 0 hr).mono ?_); clear hs; rintro e w1 ⟨rfl, hs⟩; rw [HP0.out, HQ0.out.1]; have mark1 := trivial))
        (try simp only [Exit.inBlock, Exit.then])
        refine bodyPost_ret (res_tmp3 rfl _ _ _) rfl ?_
        refine ⟨?_, hs.pack (by repeat (first | with_reducible exact Pack.refl | with_reducible exact Pack.nil | with_reducible refine Pack.cons (by repeat (first | with_reducible exact Pick.here | with_reducible apply Pick.there)) ?_ | with_reducible apply Pack.drop))⟩
        rw [HR.out, HQ0.out.1]; rfl
      · have hgtI : ¬ (slGen p1 : Int) < (slGen p0 : Int) := by omega
        have HR : Box (r = p1) := ⟨by rw [hch, if_neg (by rw [hq1]; simp [hgt])]⟩
        have HQ0 := Box.mk (And.intro hq0 hq1)
        clear hch hq0 hq1
        go_enter Try.func31, Try.ntmps31
        go_wp2_with (first
          | (guard_target = wpList _ _ _ (⟨some 3, .box _ _, _, _, _, _⟩ :: _) _ _; refine wpl (o := ⟨some 3, .box _ _, _, _, _, _⟩) rfl fun K hK => ?_; go_must (refine op_box hs rfl _ rfl [.slice As n1 cs, .slice Aa n2 ca, .slice Ar n2 cr] rfl fun b3 w1 h => hK _ _ ?_); clear hs hK K; have hs := h; clear h; try dsimp only [List.set] at hs)
          | (guard_target = wpList _ _ _ (⟨some 16, .load _ _, _, _, _, _⟩ :: _) _ _; refine wpl (o := ⟨some 16, .load _ _, _, _, _, _⟩) rfl fun K hK => op_load_agg rfl (b := b3) (i := 0) rfl ([.slice As n1 cs, .slice Aa n2 ca, .slice Ar n2 cr]) (range_whole hs (by (try dsimp only [List.set]); repeat (first | with_reducible exact List.mem_cons_self | with_reducible apply List.mem_cons_of_mem))) (by kernel_rfl) (by kernel_rfl) (hK _ _ ?_); clear hK K)
          | (guard_target = wpList _ _ _ (⟨some 24, .load _ _, _, _, _, _⟩ :: _) _ _; refine wpl (o := ⟨some 24, .load _ _, _, _, _, _⟩) rfl fun K hK => op_load_agg rfl (b := b3) (i := 0) rfl ([.slice As n1 cs, .slice Aa n2 ca, .slice Ar n2 cr]) (range_whole hs (by (try dsimp only [List.set]); repeat (first | with_reducible exact List.mem_cons_self | with_reducible apply List.mem_cons_of_mem))) (by kernel_rfl) (by kernel_rfl) (hK _ _ ?_); clear hK K)
          | (have hh := mark1; clear hh; go_at_call 32; go_must (refine (rslone_any W _ _ _ _ _ D okD (hs.pick (A := ref (.slice As n1 cs) (.slice Aa n2 ca) (.slice Ar n2 cr) D) (by repeat (first | with_reducible exact Pick.here | with_reducible apply Pick.there))) first size 1 hr).mono ?_); clear hs; rintro e w1 ⟨rfl, hs⟩; rw [HP1.out, HQ0.out.2])
          | (go_at_call 32; go_must (refine (rslone_any W _ _ _ _ _ D okD (hs.pick (A := ref (.slice As n1 cs) (.slice Aa n2 ca) (.slice Ar n2 cr) D) (by repeat (first | with_reducible exact Pick.here | with_reducible apply Pick.there))) first size 0 hr).mono ?_); clear hs; rintro e w1 ⟨rfl, hs⟩; rw [HP0.out, HQ0.out.1]; have mark1 := trivial))
        (try simp only [Exit.inBlock, Exit.then])
        refine bodyPost_ret (res_tmp3 rfl _ _ _) rfl ?_
        refine ⟨?_, hs.pack (by repeat (first | with_reducible exact Pack.refl | with_reducible exact Pack.nil | with_reducible refine Pack.cons (by repeat (first | with_reducible exact Pick.here | with_reducible apply Pick.there)) ?_ | with_reducible apply Pack.drop))⟩
        rw [HR.out, HQ0.out.2]; rfl
def Dk.sdeed (D : Dk) (first size : Int) (c : SDeed) : Dk :=
  if c.kind = 1 then slSave D first size c.gen.toNat c.b else if c.kind = 2 then D.sync else if c.kind = 3 then D.crash (fun i => c.keep.getD i false) else D.wnext c.at_ c.b
theorem save_okI {D : Dk} (ok : D.Ok) (first size : Int) (gen : Nat) (b : List UInt8) : (slSave D first size gen b).Ok := by
  cases hm : slMayB D.secs.length first size with
  | true =>
    obtain ⟨f, s, rfl, rfl, _, _⟩ := may_nats hm
    exact save_ok ok f s gen b
  | false =>
    have hc : slCode D.secs.length first size gen b = 1 := by unfold slCode; rw [if_pos (.inl hm)]
    have hsv : slSave D first size gen b = D := by unfold slSave; rw [hc]; rfl
    rw [hsv]; exact ok
theorem save_rowI (D : Dk) (first size : Int) (gen : Nat) (b : List UInt8) : (slSave D first size gen b).row.length ≤ D.row.length + (cuts b).length := by
  unfold slSave
  split
  · rw [slLay_rows, cutF_length]; omega
  · omega
theorem Dk.sdeed_ok {D : Dk} (ok : D.Ok) (first size : Int) (c : SDeed) : (D.sdeed first size c).Ok := by
  unfold Dk.sdeed
  split
  · exact save_okI ok _ _ _ _
  · split
    · exact Dk.crash_ok ok _
    · split
      · exact Dk.crash_ok ok _
      · exact Dk.wnext_ok ok _ _
theorem cuts_300 {l : List UInt8} (h : l.length ≤ 300) : (cuts l).length ≤ 6 := by rw [cuts_number _ l (Nat.le_refl _)]; omega
theorem Dk.sdeed_row (D : Dk) (first size : Int) (c : SDeed) (h : c.b.length ≤ 300) : (D.sdeed first size c).row.length ≤ D.row.length + 6 := by
  have := cuts_300 h
  unfold Dk.sdeed
  split
  · have := save_rowI D first size c.gen.toNat c.b; omega
  · split
    · simp
    · split
      · simp
      · have := Dk.wnext_row D c.at_ c.b; omega
@[simp] theorem Dk.sdeed_size (D : Dk) (first size : Int) (c : SDeed) : (D.sdeed first size c).secs.length = D.secs.length := by
  unfold Dk.sdeed
  split
  · rw [save_secs]
  · split
    · simp
    · split <;> simp
def sdoPost (b : Nat) (D' : Dk) (W : World) (L : List HP) (e : Ending) (w' : World) : Prop := ∃ vs' va' vr', e = .returned (.tuple #[.agg #[vs', va', vr'], .bool true]) ∧ Sat W w' (disk b D' :: ref vs' va' vr' D' :: L)
set_option maxRecDepth 100000 in
set_option maxHeartbeats 4000000 in
theorem sldo_spec (W w : World) (L : List HP) (b : Nat) (vs va vr vb vk : Value) (D : Dk) (first size : Int) (hfi : first < 9223372036854775808) (kind : Int) (g : Nat) (hg : g < 4294967296) (at_ : Int) (bb : List UInt8) (keep : List Bool) (hs : Sat W w (disk b D :: ref vs va vr D :: L)) (hb : Has L (bytesAt vb bb)) (hk : Has L (boolsAt vk keep)) (hl : bb.length ≤ 300) (hr : D.row.length ≤ 700000) :
    Calls Try.prog 30 #[.pointer (some ⟨b, 0, none⟩), .agg #[vs, va, vr], .agg (areaC first size).toArray, .agg (sdCells kind g at_ vb vk).toArray] w (sdoPost b (D.sdeed first size ⟨kind, g, at_, bb, keep⟩) W L) := by
  have ok := hs.disk_open.1
  have hr8 : D.row.length ≤ 800000 := by omega
  have hr9 : D.row.length ≤ 1000000 := by omega
  have hl5 : bb.length ≤ 1000 := by omega
  obtain ⟨As, cs, rfl, _, _⟩ := slice_form (hs.slice (ref_secs m1))
  obtain ⟨Aa, ca, rfl, _, _⟩ := slice_form (hs.slice (ref_ats m1))
  obtain ⟨Ar, cr, rfl, _, _⟩ := slice_form (hs.slice (ref_row m1))
  obtain ⟨Ab, cb, rfl, _, _⟩ := slice_form (hs.slice hb.tail.tail)
  obtain ⟨Ak, ck, rfl, _, _⟩ := slice_form (hs.slice hk.tail.tail)
  generalize hn1 : D.secs.length = n1 at hs
  generalize hn2 : D.row.length = n2 at hs
  have HN := Box.mk (And.intro hn1 hn2)
  clear hn1 hn2
  by_cases h1 : kind = 1
  · subst h1
    have hD : D.sdeed first size ⟨1, g, at_, bb, keep⟩ = slSave D first size g bb := by simp [Dk.sdeed]
    rw [hD]
    clear hD
    generalize hD' : slSave D first size g bb = D'
    generalize hcd : slCode D.secs.length first size g bb = code
    have HD' := Box.mk hD'
    have HC := Box.mk hcd
    clear hD' hcd
    go_enter Try.func30, Try.ntmps30
    go_wp2_with (first
      | (guard_target = wpList _ _ _ (⟨some 5, .box _ _, _, _, _, _⟩ :: _) _ _; refine wpl (o := ⟨some 5, .box _ _, _, _, _, _⟩) rfl fun K hK => ?_; go_must (refine op_box hs rfl _ rfl [.slice As n1 cs, .slice Aa n2 ca, .slice Ar n2 cr] rfl fun b5 w1 h => hK _ _ ?_); clear hs hK K; have hs := h; clear h; try dsimp only [List.set] at hs)
      | (guard_target = wpList _ _ _ (⟨some 6, .box _ _, _, _, _, _⟩ :: _) _ _; refine wpl (o := ⟨some 6, .box _ _, _, _, _, _⟩) rfl fun K hK => ?_; go_must (refine op_box hs rfl _ rfl (areaC first size) rfl fun b6 w1 h => hK _ _ ?_); clear hs hK K; have hs := h; clear h; try dsimp only [List.set] at hs)
      | (guard_target = wpList _ _ _ (⟨some 7, .box _ _, _, _, _, _⟩ :: _) _ _; refine wpl (o := ⟨some 7, .box _ _, _, _, _, _⟩) rfl fun K hK => ?_; go_must (refine op_box hs rfl _ rfl (sdCells 1 g at_ (.slice Ab bb.length cb) (.slice Ak keep.length ck)) rfl fun b7 w1 h => hK _ _ ?_); clear hs hK K; have hs := h; clear h; try dsimp only [List.set] at hs)
      | (guard_target = wpList _ _ _ (⟨some 8, .alloc _, _, _, _, _⟩ :: _) _ _; refine wpl (o := ⟨some 8, .alloc _, _, _, _, _⟩) rfl fun K hK => ?_; go_must (refine op_alloc hs rfl _ zref [.slice none 0 0, .slice none 0 0, .slice none 0 0] rfl fun b8 w1 h => hK _ _ ?_); clear hs hK K; have hs := h; clear h; try dsimp only [List.set] at hs)
      | (guard_target = wpList _ _ _ (⟨some 17, .load _ _, _, _, _, _⟩ :: _) _ _; refine wpl (o := ⟨some 17, .load _ _, _, _, _, _⟩) rfl fun K hK => op_load rfl (ad := ⟨b7, 0, none⟩) rfl (by kernel_rfl) (hs.cell (l := sdCells 1 g at_ (.slice Ab bb.length cb) (.slice Ak keep.length ck)) (t := 67) (by (try dsimp only [List.set]); repeat (first | with_reducible exact List.mem_cons_self | with_reducible apply List.mem_cons_of_mem)) rfl) (hK _ _ ?_); clear hK K)
      | (guard_target = wpList _ _ _ (⟨some 21, .load _ _, _, _, _, _⟩ :: _) _ _; refine wpl (o := ⟨some 21, .load _ _, _, _, _, _⟩) rfl fun K hK => op_load_agg rfl (b := b6) (i := 0) rfl ((areaC first size)) (range_whole hs (by (try dsimp only [List.set]); repeat (first | with_reducible exact List.mem_cons_self | with_reducible apply List.mem_cons_of_mem))) (by kernel_rfl) (by kernel_rfl) (hK _ _ ?_); clear hK K)
      | (guard_target = wpList _ _ _ (⟨some 23, .load _ _, _, _, _, _⟩ :: _) _ _; refine wpl (o := ⟨some 23, .load _ _, _, _, _, _⟩) rfl fun K hK => op_load rfl (ad := ⟨b7, 1, none⟩) rfl (by kernel_rfl) (hs.cell (l := sdCells 1 g at_ (.slice Ab bb.length cb) (.slice Ak keep.length ck)) (t := 67) (by (try dsimp only [List.set]); repeat (first | with_reducible exact List.mem_cons_self | with_reducible apply List.mem_cons_of_mem)) rfl) (hK _ _ ?_); clear hK K)
      | (guard_target = wpList _ _ _ (⟨some 25, .load _ _, _, _, _, _⟩ :: _) _ _; refine wpl (o := ⟨some 25, .load _ _, _, _, _, _⟩) rfl fun K hK => op_load rfl (ad := ⟨b7, 3, none⟩) rfl (by kernel_rfl) (hs.cell (l := sdCells 1 g at_ (.slice Ab bb.length cb) (.slice Ak keep.length ck)) (t := 67) (by (try dsimp only [List.set]); repeat (first | with_reducible exact List.mem_cons_self | with_reducible apply List.mem_cons_of_mem)) rfl) (hK _ _ ?_); clear hK K)
      | (go_at_call 17; go_must (refine (slsave_anyI W _ _ b D (hs.pick (A := disk b D) (by repeat (first | with_reducible exact Pick.here | with_reducible apply Pick.there))) first size hfi g hg _ bb (by (try dsimp only [List.set]); repeat (first | exact hb | apply Has.tail)) hl5 hr8).mono ?_); clear hs; rintro e w1 ⟨rfl, hs⟩; rw [HD'.out] at hs; rw [HC.out])
      | (guard_target = wpList _ _ _ (⟨some 28, .load _ _, _, _, _, _⟩ :: _) _ _; refine wpl (o := ⟨some 28, .load _ _, _, _, _, _⟩) rfl fun K hK => op_load_agg rfl (b := b5) (i := 0) rfl ([.slice As n1 cs, .slice Aa n2 ca, .slice Ar n2 cr]) (range_whole hs (by (try dsimp only [List.set]); repeat (first | with_reducible exact List.mem_cons_self | with_reducible apply List.mem_cons_of_mem))) (by kernel_rfl) (by kernel_rfl) (hK _ _ ?_); clear hK K)
      | (guard_target = wpList _ _ _ (⟨some 30, .load _ _, _, _, _, _⟩ :: _) _ _; refine wpl (o := ⟨some 30, .load _ _, _, _, _, _⟩) rfl fun K hK => op_load rfl (ad := ⟨b6, 0, none⟩) rfl (by kernel_rfl) (hs.cell (l := areaC first size) (t := 31) (by (try dsimp only [List.set]); repeat (first | with_reducible exact List.mem_cons_self | with_reducible apply List.mem_cons_of_mem)) rfl) (hK _ _ ?_); clear hK K)
      | (guard_target = wpList _ _ _ (⟨some 32, .load _ _, _, _, _, _⟩ :: _) _ _; refine wpl (o := ⟨some 32, .load _ _, _, _, _, _⟩) rfl fun K hK => op_load rfl (ad := ⟨b6, 1, none⟩) rfl (by kernel_rfl) (hs.cell (l := areaC first size) (t := 31) (by (try dsimp only [List.set]); repeat (first | with_reducible exact List.mem_cons_self | with_reducible apply List.mem_cons_of_mem)) rfl) (hK _ _ ?_); clear hK K)
      | (guard_target = wpList _ _ _ (⟨some 34, .load _ _, _, _, _, _⟩ :: _) _ _; refine wpl (o := ⟨some 34, .load _ _, _, _, _, _⟩) rfl fun K hK => op_load rfl (ad := ⟨b7, 1, none⟩) rfl (by kernel_rfl) (hs.cell (l := sdCells 1 g at_ (.slice Ab bb.length cb) (.slice Ak keep.length ck)) (t := 67) (by (try dsimp only [List.set]); repeat (first | with_reducible exact List.mem_cons_self | with_reducible apply List.mem_cons_of_mem)) rfl) (hK _ _ ?_); clear hK K)
      | (guard_target = wpList _ _ _ (⟨some 36, .load _ _, _, _, _, _⟩ :: _) _ _; refine wpl (o := ⟨some 36, .load _ _, _, _, _, _⟩) rfl fun K hK => op_load rfl (ad := ⟨b7, 3, none⟩) rfl (by kernel_rfl) (hs.cell (l := sdCells 1 g at_ (.slice Ab bb.length cb) (.slice Ak keep.length ck)) (t := 67) (by (try dsimp only [List.set]); repeat (first | with_reducible exact List.mem_cons_self | with_reducible apply List.mem_cons_of_mem)) rfl) (hK _ _ ?_); clear hK K)
      | (guard_target = wpList _ _ _ (⟨some 37, .convert _ _ _, _, _, _, _⟩ :: _) _ _; refine wpl (o := ⟨some 37, .convert _ _ _, _, _, _, _⟩) rfl fun K hK => ?_; go_must (refine op_to_string rfl Try.underlying23 Try.underlying5 Try.underlying9 rfl (hs.bytes ((by (try dsimp only [List.set]); repeat (first | exact hb | apply Has.tail)))) (hK _ _ ?_)); clear hK K)
      | (go_at_call 58; go_must (refine (rslsave_anyI W _ _ _ _ _ D ok (hs.pick (A := ref (.slice As n1 cs) (.slice Aa n2 ca) (.slice Ar n2 cr) D) (by repeat (first | with_reducible exact Pick.here | with_reducible apply Pick.there))) first size g hg bb hl5 hr8).mono ?_); clear hs; rintro e w1 ⟨vs2, va2, vr2, rfl, hs⟩; rw [HD'.out] at hs; rw [HC.out]
         obtain ⟨As2, cs2, rfl, _, _⟩ := slice_form (hs.slice (ref_secs m0))
         obtain ⟨Aa2, ca2, rfl, _, _⟩ := slice_form (hs.slice (ref_ats m0))
         obtain ⟨Ar2, cr2, rfl, _, _⟩ := slice_form (hs.slice (ref_row m0)))
      | (guard_target = wpList _ _ _ (⟨some 11, .alloc _, _, _, _, _⟩ :: _) _ _; refine wpl (o := ⟨some 11, .alloc _, _, _, _, _⟩) rfl fun K hK => ?_; go_must (refine op_alloc hs rfl _ zref [.slice none 0 0, .slice none 0 0, .slice none 0 0] rfl fun b11 w1 h => hK _ _ ?_); clear hs hK K; have hs := h; clear h; try dsimp only [List.set] at hs)
      | (guard_target = wpList _ _ _ (⟨none, .store _ (.tmp 11) _, _, _, _, _⟩ :: _) _ _; refine wpl (o := ⟨none, .store _ (.tmp 11) _, _, _, _, _⟩) rfl fun K hK => ?_; go_must (refine op_store_whole (hs.pick (A := row b11 [.slice none 0 0, .slice none 0 0, .slice none 0 0] 46) (by repeat (first | with_reducible exact Pick.here | with_reducible apply Pick.there))) (b := b11) rfl rfl [.slice As2 D'.secs.length cs2, .slice Aa2 D'.row.length ca2, .slice Ar2 D'.row.length cr2] rfl (slices_one rfl rfl rfl) (by kernel_rfl) (k := 0) rfl rfl fun w3 h => hK _ _ ?_); clear hs hK K; have hs := h; clear h; try dsimp only [List.set] at hs)
      | (guard_target = wpList _ _ _ (⟨some 41, .load _ _, _, _, _, _⟩ :: _) _ _; refine wpl (o := ⟨some 41, .load _ _, _, _, _, _⟩) rfl fun K hK => op_load_agg rfl (b := b11) (i := 0) rfl ([.slice As2 D'.secs.length cs2, .slice Aa2 D'.row.length ca2, .slice Ar2 D'.row.length cr2]) (range_whole hs (by (try dsimp only [List.set]); repeat (first | with_reducible exact List.mem_cons_self | with_reducible apply List.mem_cons_of_mem))) (by kernel_rfl) (by kernel_rfl) (hK _ _ ?_); clear hK K)
      | (guard_target = wpList _ _ _ (⟨none, .store _ (.tmp 8) _, _, _, _, _⟩ :: _) _ _; refine wpl (o := ⟨none, .store _ (.tmp 8) _, _, _, _, _⟩) rfl fun K hK => ?_; go_must (refine op_store_whole (hs.pick (A := row b8 [.slice none 0 0, .slice none 0 0, .slice none 0 0] 46) (by repeat (first | with_reducible exact Pick.here | with_reducible apply Pick.there))) (b := b8) rfl rfl [.slice As2 D'.secs.length cs2, .slice Aa2 D'.row.length ca2, .slice Ar2 D'.row.length cr2] rfl (slices_one rfl rfl rfl) (by kernel_rfl) (k := 0) rfl rfl fun w3 h => hK _ _ ?_); clear hs hK K; have hs := h; clear h; try dsimp only [List.set] at hs))
    refine bodyPost_ret (run_results_cell_tmp rfl (b := b8) rfl [.slice As2 D'.secs.length cs2, .slice Aa2 D'.row.length ca2, .slice Ar2 D'.row.length cr2] (range_whole hs m0) (by kernel_rfl) (by kernel_rfl)) rfl ⟨_, _, _, ?_, hs.pack (by repeat (first | with_reducible exact Pack.refl | with_reducible exact Pack.nil | with_reducible refine Pack.cons (by repeat (first | with_reducible exact Pick.here | with_reducible apply Pick.there)) ?_ | with_reducible apply Pack.drop))⟩
    simp
  by_cases h2 : kind = 2
  · subst h2
    have hD : D.sdeed first size ⟨2, g, at_, bb, keep⟩ = D.sync := by simp [Dk.sdeed]
    rw [hD]
    clear hD
    generalize hD' : D.sync = D'
    have HD' := Box.mk hD'
    clear hD'
    go_enter Try.func30, Try.ntmps30
    go_wp2_with (first
      | (guard_target = wpList _ _ _ (⟨some 5, .box _ _, _, _, _, _⟩ :: _) _ _; refine wpl (o := ⟨some 5, .box _ _, _, _, _, _⟩) rfl fun K hK => ?_; go_must (refine op_box hs rfl _ rfl [.slice As n1 cs, .slice Aa n2 ca, .slice Ar n2 cr] rfl fun b5 w1 h => hK _ _ ?_); clear hs hK K; have hs := h; clear h; try dsimp only [List.set] at hs)
      | (guard_target = wpList _ _ _ (⟨some 6, .box _ _, _, _, _, _⟩ :: _) _ _; refine wpl (o := ⟨some 6, .box _ _, _, _, _, _⟩) rfl fun K hK => ?_; go_must (refine op_box hs rfl _ rfl (areaC first size) rfl fun b6 w1 h => hK _ _ ?_); clear hs hK K; have hs := h; clear h; try dsimp only [List.set] at hs)
      | (guard_target = wpList _ _ _ (⟨some 7, .box _ _, _, _, _, _⟩ :: _) _ _; refine wpl (o := ⟨some 7, .box _ _, _, _, _, _⟩) rfl fun K hK => ?_; go_must (refine op_box hs rfl _ rfl (sdCells 2 g at_ (.slice Ab bb.length cb) (.slice Ak keep.length ck)) rfl fun b7 w1 h => hK _ _ ?_); clear hs hK K; have hs := h; clear h; try dsimp only [List.set] at hs)
      | (guard_target = wpList _ _ _ (⟨some 8, .alloc _, _, _, _, _⟩ :: _) _ _; refine wpl (o := ⟨some 8, .alloc _, _, _, _, _⟩) rfl fun K hK => ?_; go_must (refine op_alloc hs rfl _ zref [.slice none 0 0, .slice none 0 0, .slice none 0 0] rfl fun b8 w1 h => hK _ _ ?_); clear hs hK K; have hs := h; clear h; try dsimp only [List.set] at hs)
      | (guard_target = wpList _ _ _ (⟨some 17, .load _ _, _, _, _, _⟩ :: _) _ _; refine wpl (o := ⟨some 17, .load _ _, _, _, _, _⟩) rfl fun K hK => op_load rfl (ad := ⟨b7, 0, none⟩) rfl (by kernel_rfl) (hs.cell (l := sdCells 2 g at_ (.slice Ab bb.length cb) (.slice Ak keep.length ck)) (t := 67) (by (try dsimp only [List.set]); repeat (first | with_reducible exact List.mem_cons_self | with_reducible apply List.mem_cons_of_mem)) rfl) (hK _ _ ?_); clear hK K)
      | (go_at_call 20; go_must (refine (sync_spec W _ _ b D (hs.pick (A := disk b D) (by repeat (first | with_reducible exact Pick.here | with_reducible apply Pick.there))) hr9).mono ?_); clear hs; rintro e w1 ⟨rfl, hs⟩; rw [HD'.out] at hs)
      | (guard_target = wpList _ _ _ (⟨some 49, .load _ _, _, _, _, _⟩ :: _) _ _; refine wpl (o := ⟨some 49, .load _ _, _, _, _, _⟩) rfl fun K hK => op_load_agg rfl (b := b5) (i := 0) rfl ([.slice As n1 cs, .slice Aa n2 ca, .slice Ar n2 cr]) (range_whole hs (by (try dsimp only [List.set]); repeat (first | with_reducible exact List.mem_cons_self | with_reducible apply List.mem_cons_of_mem))) (by kernel_rfl) (by kernel_rfl) (hK _ _ ?_); clear hK K)
      | (go_at_call 59; go_must (refine (rsync_spec W _ _ _ _ _ D (hs.pick (A := ref (.slice As n1 cs) (.slice Aa n2 ca) (.slice Ar n2 cr) D) (by repeat (first | with_reducible exact Pick.here | with_reducible apply Pick.there))) ok hr9).mono ?_); clear hs; rintro e w1 ⟨vs2, va2, vr2, rfl, hs⟩; rw [HD'.out] at hs
         obtain ⟨As2, cs2, rfl, _, _⟩ := slice_form (hs.slice (ref_secs m0))
         obtain ⟨Aa2, ca2, rfl, _, _⟩ := slice_form (hs.slice (ref_ats m0))
         obtain ⟨Ar2, cr2, rfl, _, _⟩ := slice_form (hs.slice (ref_row m0)))
      | (guard_target = wpList _ _ _ (⟨none, .store _ (.tmp 8) _, _, _, _, _⟩ :: _) _ _; refine wpl (o := ⟨none, .store _ (.tmp 8) _, _, _, _, _⟩) rfl fun K hK => ?_; go_must (refine op_store_whole (hs.pick (A := row b8 [.slice none 0 0, .slice none 0 0, .slice none 0 0] 46) (by repeat (first | with_reducible exact Pick.here | with_reducible apply Pick.there))) (b := b8) rfl rfl [.slice As2 D'.secs.length cs2, .slice Aa2 D'.row.length ca2, .slice Ar2 D'.row.length cr2] rfl (slices_one rfl rfl rfl) (by kernel_rfl) (k := 0) rfl rfl fun w3 h => hK _ _ ?_); clear hs hK K; have hs := h; clear h; try dsimp only [List.set] at hs))
    exact bodyPost_ret (run_results_cell_tmp rfl (b := b8) rfl [.slice As2 D'.secs.length cs2, .slice Aa2 D'.row.length ca2, .slice Ar2 D'.row.length cr2] (range_whole hs m0) (by kernel_rfl) (by kernel_rfl)) rfl ⟨_, _, _, rfl, hs.pack (by repeat (first | with_reducible exact Pack.refl | with_reducible exact Pack.nil | with_reducible refine Pack.cons (by repeat (first | with_reducible exact Pick.here | with_reducible apply Pick.there)) ?_ | with_reducible apply Pack.drop))⟩
  by_cases h3 : kind = 3
  · subst h3
    have hD : D.sdeed first size ⟨3, g, at_, bb, keep⟩ = D.crash (fun i => keep.getD i false) := by simp [Dk.sdeed]
    rw [hD]
    clear hD
    generalize hD' : D.crash (fun i => keep.getD i false) = D'
    have HD' := Box.mk hD'
    clear hD'
    go_enter Try.func30, Try.ntmps30
    go_wp2_with (first
      | (guard_target = wpList _ _ _ (⟨some 5, .box _ _, _, _, _, _⟩ :: _) _ _; refine wpl (o := ⟨some 5, .box _ _, _, _, _, _⟩) rfl fun K hK => ?_; go_must (refine op_box hs rfl _ rfl [.slice As n1 cs, .slice Aa n2 ca, .slice Ar n2 cr] rfl fun b5 w1 h => hK _ _ ?_); clear hs hK K; have hs := h; clear h; try dsimp only [List.set] at hs)
      | (guard_target = wpList _ _ _ (⟨some 6, .box _ _, _, _, _, _⟩ :: _) _ _; refine wpl (o := ⟨some 6, .box _ _, _, _, _, _⟩) rfl fun K hK => ?_; go_must (refine op_box hs rfl _ rfl (areaC first size) rfl fun b6 w1 h => hK _ _ ?_); clear hs hK K; have hs := h; clear h; try dsimp only [List.set] at hs)
      | (guard_target = wpList _ _ _ (⟨some 7, .box _ _, _, _, _, _⟩ :: _) _ _; refine wpl (o := ⟨some 7, .box _ _, _, _, _, _⟩) rfl fun K hK => ?_; go_must (refine op_box hs rfl _ rfl (sdCells 3 g at_ (.slice Ab bb.length cb) (.slice Ak keep.length ck)) rfl fun b7 w1 h => hK _ _ ?_); clear hs hK K; have hs := h; clear h; try dsimp only [List.set] at hs)
      | (guard_target = wpList _ _ _ (⟨some 8, .alloc _, _, _, _, _⟩ :: _) _ _; refine wpl (o := ⟨some 8, .alloc _, _, _, _, _⟩) rfl fun K hK => ?_; go_must (refine op_alloc hs rfl _ zref [.slice none 0 0, .slice none 0 0, .slice none 0 0] rfl fun b8 w1 h => hK _ _ ?_); clear hs hK K; have hs := h; clear h; try dsimp only [List.set] at hs)
      | (guard_target = wpList _ _ _ (⟨some 17, .load _ _, _, _, _, _⟩ :: _) _ _; refine wpl (o := ⟨some 17, .load _ _, _, _, _, _⟩) rfl fun K hK => op_load rfl (ad := ⟨b7, 0, none⟩) rfl (by kernel_rfl) (hs.cell (l := sdCells 3 g at_ (.slice Ab bb.length cb) (.slice Ak keep.length ck)) (t := 67) (by (try dsimp only [List.set]); repeat (first | with_reducible exact List.mem_cons_self | with_reducible apply List.mem_cons_of_mem)) rfl) (hK _ _ ?_); clear hK K)
      | (guard_target = wpList _ _ _ (⟨some 55, .load _ _, _, _, _, _⟩ :: _) _ _; refine wpl (o := ⟨some 55, .load _ _, _, _, _, _⟩) rfl fun K hK => op_load rfl (ad := ⟨b7, 4, none⟩) rfl (by kernel_rfl) (hs.cell (l := sdCells 3 g at_ (.slice Ab bb.length cb) (.slice Ak keep.length ck)) (t := 67) (by (try dsimp only [List.set]); repeat (first | with_reducible exact List.mem_cons_self | with_reducible apply List.mem_cons_of_mem)) rfl) (hK _ _ ?_); clear hK K)
      | (go_at_call 21; go_must (refine (crash_spec W _ _ b D (hs.pick (A := disk b D) (by repeat (first | with_reducible exact Pick.here | with_reducible apply Pick.there))) hr9 _ keep (by (try dsimp only [List.set]); repeat (first | exact hk | apply Has.tail))).mono ?_); clear hs; rintro e w1 ⟨rfl, hs⟩; rw [HD'.out] at hs)
      | (guard_target = wpList _ _ _ (⟨some 57, .load _ _, _, _, _, _⟩ :: _) _ _; refine wpl (o := ⟨some 57, .load _ _, _, _, _, _⟩) rfl fun K hK => op_load_agg rfl (b := b5) (i := 0) rfl ([.slice As n1 cs, .slice Aa n2 ca, .slice Ar n2 cr]) (range_whole hs (by (try dsimp only [List.set]); repeat (first | with_reducible exact List.mem_cons_self | with_reducible apply List.mem_cons_of_mem))) (by kernel_rfl) (by kernel_rfl) (hK _ _ ?_); clear hK K)
      | (guard_target = wpList _ _ _ (⟨some 59, .load _ _, _, _, _, _⟩ :: _) _ _; refine wpl (o := ⟨some 59, .load _ _, _, _, _, _⟩) rfl fun K hK => op_load rfl (ad := ⟨b7, 4, none⟩) rfl (by kernel_rfl) (hs.cell (l := sdCells 3 g at_ (.slice Ab bb.length cb) (.slice Ak keep.length ck)) (t := 67) (by (try dsimp only [List.set]); repeat (first | with_reducible exact List.mem_cons_self | with_reducible apply List.mem_cons_of_mem)) rfl) (hK _ _ ?_); clear hK K)
      | (go_at_call 60; go_must (refine (rcrash_spec W _ _ _ _ _ D (hs.pick (A := ref (.slice As n1 cs) (.slice Aa n2 ca) (.slice Ar n2 cr) D) (by repeat (first | with_reducible exact Pick.here | with_reducible apply Pick.there))) ok hr9 _ keep (by (try dsimp only [List.set]); repeat (first | exact hk | apply Has.tail))).mono ?_); clear hs; rintro e w1 ⟨vs2, va2, vr2, rfl, hs⟩; rw [HD'.out] at hs
         obtain ⟨As2, cs2, rfl, _, _⟩ := slice_form (hs.slice (ref_secs m0))
         obtain ⟨Aa2, ca2, rfl, _, _⟩ := slice_form (hs.slice (ref_ats m0))
         obtain ⟨Ar2, cr2, rfl, _, _⟩ := slice_form (hs.slice (ref_row m0)))
      | (guard_target = wpList _ _ _ (⟨none, .store _ (.tmp 8) _, _, _, _, _⟩ :: _) _ _; refine wpl (o := ⟨none, .store _ (.tmp 8) _, _, _, _, _⟩) rfl fun K hK => ?_; go_must (refine op_store_whole (hs.pick (A := row b8 [.slice none 0 0, .slice none 0 0, .slice none 0 0] 46) (by repeat (first | with_reducible exact Pick.here | with_reducible apply Pick.there))) (b := b8) rfl rfl [.slice As2 D'.secs.length cs2, .slice Aa2 D'.row.length ca2, .slice Ar2 D'.row.length cr2] rfl (slices_one rfl rfl rfl) (by kernel_rfl) (k := 0) rfl rfl fun w3 h => hK _ _ ?_); clear hs hK K; have hs := h; clear h; try dsimp only [List.set] at hs))
    exact bodyPost_ret (run_results_cell_tmp rfl (b := b8) rfl [.slice As2 D'.secs.length cs2, .slice Aa2 D'.row.length ca2, .slice Ar2 D'.row.length cr2] (range_whole hs m0) (by kernel_rfl) (by kernel_rfl)) rfl ⟨_, _, _, rfl, hs.pack (by repeat (first | with_reducible exact Pack.refl | with_reducible exact Pack.nil | with_reducible refine Pack.cons (by repeat (first | with_reducible exact Pick.here | with_reducible apply Pick.there)) ?_ | with_reducible apply Pack.drop))⟩
  have hD : D.sdeed first size ⟨kind, g, at_, bb, keep⟩ = D.wnext at_ bb := by simp [Dk.sdeed, h1, h2, h3]
  rw [hD]
  clear hD
  generalize hD' : D.wnext at_ bb = D'
  generalize hcd : D.wcode at_ bb = code
  have HD' := Box.mk hD'
  have HC := Box.mk hcd
  clear hD' hcd
  go_enter Try.func30, Try.ntmps30
  go_wp2_with (first
    | (guard_target = wpList _ _ _ (⟨some 5, .box _ _, _, _, _, _⟩ :: _) _ _; refine wpl (o := ⟨some 5, .box _ _, _, _, _, _⟩) rfl fun K hK => ?_; go_must (refine op_box hs rfl _ rfl [.slice As n1 cs, .slice Aa n2 ca, .slice Ar n2 cr] rfl fun b5 w1 h => hK _ _ ?_); clear hs hK K; have hs := h; clear h; try dsimp only [List.set] at hs)
    | (guard_target = wpList _ _ _ (⟨some 6, .box _ _, _, _, _, _⟩ :: _) _ _; refine wpl (o := ⟨some 6, .box _ _, _, _, _, _⟩) rfl fun K hK => ?_; go_must (refine op_box hs rfl _ rfl (areaC first size) rfl fun b6 w1 h => hK _ _ ?_); clear hs hK K; have hs := h; clear h; try dsimp only [List.set] at hs)
    | (guard_target = wpList _ _ _ (⟨some 7, .box _ _, _, _, _, _⟩ :: _) _ _; refine wpl (o := ⟨some 7, .box _ _, _, _, _, _⟩) rfl fun K hK => ?_; go_must (refine op_box hs rfl _ rfl (sdCells kind g at_ (.slice Ab bb.length cb) (.slice Ak keep.length ck)) rfl fun b7 w1 h => hK _ _ ?_); clear hs hK K; have hs := h; clear h; try dsimp only [List.set] at hs)
    | (guard_target = wpList _ _ _ (⟨some 8, .alloc _, _, _, _, _⟩ :: _) _ _; refine wpl (o := ⟨some 8, .alloc _, _, _, _, _⟩) rfl fun K hK => ?_; go_must (refine op_alloc hs rfl _ zref [.slice none 0 0, .slice none 0 0, .slice none 0 0] rfl fun b8 w1 h => hK _ _ ?_); clear hs hK K; have hs := h; clear h; try dsimp only [List.set] at hs)
    | (guard_target = wpList _ _ _ (⟨some 17, .load _ _, _, _, _, _⟩ :: _) _ _; refine wpl (o := ⟨some 17, .load _ _, _, _, _, _⟩) rfl fun K hK => op_load rfl (ad := ⟨b7, 0, none⟩) rfl (by kernel_rfl) (hs.cell (l := sdCells kind g at_ (.slice Ab bb.length cb) (.slice Ak keep.length ck)) (t := 67) (by (try dsimp only [List.set]); repeat (first | with_reducible exact List.mem_cons_self | with_reducible apply List.mem_cons_of_mem)) rfl) (hK _ _ ?_); clear hK K)
    | (guard_target = wpList _ _ _ (⟨some 63, .load _ _, _, _, _, _⟩ :: _) _ _; refine wpl (o := ⟨some 63, .load _ _, _, _, _, _⟩) rfl fun K hK => op_load rfl (ad := ⟨b7, 2, none⟩) rfl (by kernel_rfl) (hs.cell (l := sdCells kind g at_ (.slice Ab bb.length cb) (.slice Ak keep.length ck)) (t := 67) (by (try dsimp only [List.set]); repeat (first | with_reducible exact List.mem_cons_self | with_reducible apply List.mem_cons_of_mem)) rfl) (hK _ _ ?_); clear hK K)
    | (guard_target = wpList _ _ _ (⟨some 65, .load _ _, _, _, _, _⟩ :: _) _ _; refine wpl (o := ⟨some 65, .load _ _, _, _, _, _⟩) rfl fun K hK => op_load rfl (ad := ⟨b7, 3, none⟩) rfl (by kernel_rfl) (hs.cell (l := sdCells kind g at_ (.slice Ab bb.length cb) (.slice Ak keep.length ck)) (t := 67) (by (try dsimp only [List.set]); repeat (first | with_reducible exact List.mem_cons_self | with_reducible apply List.mem_cons_of_mem)) rfl) (hK _ _ ?_); clear hK K)
    | (go_at_call 25; go_must (refine (write_any W _ _ b D (hs.pick (A := disk b D) (by repeat (first | with_reducible exact Pick.here | with_reducible apply Pick.there))) at_ _ bb (by (try dsimp only [List.set]); repeat (first | exact hb | apply Has.tail)) hr9).mono ?_); clear hs; rintro e w1 ⟨rfl, hs⟩; rw [HD'.out] at hs; rw [HC.out])
    | (guard_target = wpList _ _ _ (⟨some 68, .load _ _, _, _, _, _⟩ :: _) _ _; refine wpl (o := ⟨some 68, .load _ _, _, _, _, _⟩) rfl fun K hK => op_load_agg rfl (b := b5) (i := 0) rfl ([.slice As n1 cs, .slice Aa n2 ca, .slice Ar n2 cr]) (range_whole hs (by (try dsimp only [List.set]); repeat (first | with_reducible exact List.mem_cons_self | with_reducible apply List.mem_cons_of_mem))) (by kernel_rfl) (by kernel_rfl) (hK _ _ ?_); clear hK K)
    | (guard_target = wpList _ _ _ (⟨some 70, .load _ _, _, _, _, _⟩ :: _) _ _; refine wpl (o := ⟨some 70, .load _ _, _, _, _, _⟩) rfl fun K hK => op_load rfl (ad := ⟨b7, 2, none⟩) rfl (by kernel_rfl) (hs.cell (l := sdCells kind g at_ (.slice Ab bb.length cb) (.slice Ak keep.length ck)) (t := 67) (by (try dsimp only [List.set]); repeat (first | with_reducible exact List.mem_cons_self | with_reducible apply List.mem_cons_of_mem)) rfl) (hK _ _ ?_); clear hK K)
    | (guard_target = wpList _ _ _ (⟨some 72, .load _ _, _, _, _, _⟩ :: _) _ _; refine wpl (o := ⟨some 72, .load _ _, _, _, _, _⟩) rfl fun K hK => op_load rfl (ad := ⟨b7, 3, none⟩) rfl (by kernel_rfl) (hs.cell (l := sdCells kind g at_ (.slice Ab bb.length cb) (.slice Ak keep.length ck)) (t := 67) (by (try dsimp only [List.set]); repeat (first | with_reducible exact List.mem_cons_self | with_reducible apply List.mem_cons_of_mem)) rfl) (hK _ _ ?_); clear hK K)
    | (go_at_call 26; go_must (refine (rwrite_any W _ _ _ _ _ D (hs.pick (A := ref (.slice As n1 cs) (.slice Aa n2 ca) (.slice Ar n2 cr) D) (by repeat (first | with_reducible exact Pick.here | with_reducible apply Pick.there))) at_ _ bb (by (try dsimp only [List.set]); repeat (first | exact hb | apply Has.tail)) hr9).mono ?_); clear hs; rintro e w1 ⟨vs2, va2, vr2, rfl, hs⟩; rw [HD'.out] at hs; rw [HC.out]
       obtain ⟨As2, cs2, rfl, _, _⟩ := slice_form (hs.slice (ref_secs m0))
       obtain ⟨Aa2, ca2, rfl, _, _⟩ := slice_form (hs.slice (ref_ats m0))
       obtain ⟨Ar2, cr2, rfl, _, _⟩ := slice_form (hs.slice (ref_row m0)))
    | (guard_target = wpList _ _ _ (⟨some 14, .alloc _, _, _, _, _⟩ :: _) _ _; refine wpl (o := ⟨some 14, .alloc _, _, _, _, _⟩) rfl fun K hK => ?_; go_must (refine op_alloc hs rfl _ zref [.slice none 0 0, .slice none 0 0, .slice none 0 0] rfl fun b14 w1 h => hK _ _ ?_); clear hs hK K; have hs := h; clear h; try dsimp only [List.set] at hs)
    | (guard_target = wpList _ _ _ (⟨none, .store _ (.tmp 14) _, _, _, _, _⟩ :: _) _ _; refine wpl (o := ⟨none, .store _ (.tmp 14) _, _, _, _, _⟩) rfl fun K hK => ?_; go_must (refine op_store_whole (hs.pick (A := row b14 [.slice none 0 0, .slice none 0 0, .slice none 0 0] 46) (by repeat (first | with_reducible exact Pick.here | with_reducible apply Pick.there))) (b := b14) rfl rfl [.slice As2 D'.secs.length cs2, .slice Aa2 D'.row.length ca2, .slice Ar2 D'.row.length cr2] rfl (slices_one rfl rfl rfl) (by kernel_rfl) (k := 0) rfl rfl fun w3 h => hK _ _ ?_); clear hs hK K; have hs := h; clear h; try dsimp only [List.set] at hs)
    | (guard_target = wpList _ _ _ (⟨some 76, .load _ _, _, _, _, _⟩ :: _) _ _; refine wpl (o := ⟨some 76, .load _ _, _, _, _, _⟩) rfl fun K hK => op_load_agg rfl (b := b14) (i := 0) rfl ([.slice As2 D'.secs.length cs2, .slice Aa2 D'.row.length ca2, .slice Ar2 D'.row.length cr2]) (range_whole hs (by (try dsimp only [List.set]); repeat (first | with_reducible exact List.mem_cons_self | with_reducible apply List.mem_cons_of_mem))) (by kernel_rfl) (by kernel_rfl) (hK _ _ ?_); clear hK K)
    | (guard_target = wpList _ _ _ (⟨none, .store _ (.tmp 8) _, _, _, _, _⟩ :: _) _ _; refine wpl (o := ⟨none, .store _ (.tmp 8) _, _, _, _, _⟩) rfl fun K hK => ?_; go_must (refine op_store_whole (hs.pick (A := row b8 [.slice none 0 0, .slice none 0 0, .slice none 0 0] 46) (by repeat (first | with_reducible exact Pick.here | with_reducible apply Pick.there))) (b := b8) rfl rfl [.slice As2 D'.secs.length cs2, .slice Aa2 D'.row.length ca2, .slice Ar2 D'.row.length cr2] rfl (slices_one rfl rfl rfl) (by kernel_rfl) (k := 0) rfl rfl fun w3 h => hK _ _ ?_); clear hs hK K; have hs := h; clear h; try dsimp only [List.set] at hs))
  refine bodyPost_ret (run_results_cell_tmp rfl (b := b8) rfl [.slice As2 D'.secs.length cs2, .slice Aa2 D'.row.length ca2, .slice Ar2 D'.row.length cr2] (range_whole hs m0) (by kernel_rfl) (by kernel_rfl)) rfl ⟨_, _, _, ?_, hs.pack (by repeat (first | with_reducible exact Pack.refl | with_reducible exact Pack.nil | with_reducible refine Pack.cons (by repeat (first | with_reducible exact Pick.here | with_reducible apply Pick.there)) ?_ | with_reducible apply Pack.drop))⟩
  simp
abbrev AreaTup := Int × Int × Unit
def areaKin : Kin AreaTup := Kin.pair (Kin.int .i64) (Kin.pair (Kin.int .i64) Kin.unit)
theorem fits_area : Fits Try.prog 31 areaKin :=
  fits_struct Try.underlying31 (by kernel_rfl)
    (fitsL_cons rfl (fits_int Try.underlying3 (by kernel_rfl))
      (fitsL_cons rfl (fits_int Try.underlying3 (by kernel_rfl))
        (fitsL_nil _)))
theorem i64_lit' {n : Int} (hn : (Lit.int .i64 n).wf = true) : n < 9223372036854775808 := by
  have hn' : -9223372036854775808 ≤ n ∧ n ≤ 9223372036854775807 := by simpa [Lit.wf, IntKind.min, IntKind.max, IntKind.signed, IntKind.bits] using hn
  omega
theorem area_cells {F : PH} {c : AreaTup} {cs : List Value} (h : areaKin.K F c cs) : ∃ first size : Int, first < 9223372036854775808 ∧ size < 9223372036854775808 ∧ cs = areaC first size := by
  obtain ⟨f, m, u⟩ := c
  obtain ⟨a1, b1, rfl, ⟨rfl, hf⟩, a2, b2, rfl, ⟨rfl, hm⟩, h4⟩ := h
  cases h4
  exact ⟨f, m, i64_lit' hf, i64_lit' hm, rfl⟩
def sPlay (D : Dk) (first size : Int) (l : List SDeed) : Dk := l.foldl (fun D c => D.sdeed first size c) D
theorem sPlay_snoc (D : Dk) (first size : Int) (l : List SDeed) (k : Nat) (h : k < l.length) : sPlay D first size (l.take (k + 1)) = (sPlay D first size (l.take k)).sdeed first size l[k] := by
  rw [List.take_succ_eq_append_getElem h]; unfold sPlay; rw [List.foldl_append]; rfl
theorem sPlay_inv (D : Dk) (ok : D.Ok) (hD : D.secs.length = 12) (hr : D.row.length = 0) (first size : Int) (l : List SDeed) (hs : SSmall l) : ∀ k, k ≤ l.length → (sPlay D first size (l.take k)).Ok ∧ (sPlay D first size (l.take k)).secs.length = 12 ∧ (sPlay D first size (l.take k)).row.length ≤ 6 * k
  | 0, _ => ⟨ok, hD, by show D.row.length ≤ 0; omega⟩
  | k + 1, hk => by
    obtain ⟨h1, h2, h3⟩ := sPlay_inv D ok hD hr first size l hs k (by omega)
    rw [sPlay_snoc D first size l k (by omega)]
    have hr := Dk.sdeed_row (sPlay D first size (l.take k)) first size l[k] (hs.2 l[k] (List.getElem_mem (by omega)))
    exact ⟨Dk.sdeed_ok h1 _ _ _, by simp [h2], by omega⟩
def runS8 (b7 : Nat) (cs : List Value) (b2 : Nat) (as' : List Value) (bd o : Nat) (ds : List Value) (w : World) : Prop := w.rangeAt b7 0 cs ∧ w.rangeAt b2 0 as' ∧ w.rangeAt bd o ds
set_option maxRecDepth 100000 in
set_option maxHeartbeats 4000000 in
theorem slotPlays_many (W w : World) (L : List HP) (hs : Sat W w L) (hold : old W ∈ L) (first size : Int) (hfi : first < 9223372036854775808) (v : Value) (l : List SDeed) (h : sdeedsAt v l (hp W)) (hsm : ¬ SSmall l) :
    Calls Try.prog 7 #[.agg (areaC first size).toArray, v] w fun e w' => e = .returned (.bool true) ∧ Sat W w' L := by
  obtain ⟨A, cap, rfl, _, _, _⟩ := sdeeds_form h
  have hF := Box.mk (sfewB_no hsm)
  clear hsm
  go_enter Try.func7, Try.ntmps7
  go_wp2_with (first
    | (guard_target = wpList _ _ _ (⟨some 2, .box _ _, _, _, _, _⟩ :: _) _ _; refine wpl (o := ⟨some 2, .box _ _, _, _, _, _⟩) rfl fun K hK => ?_; go_must (refine op_box hs rfl _ rfl (areaC first size) rfl fun b2 w1 h => hK _ _ ?_); clear hs hK K; have hs := h; clear h; try dsimp only [List.set] at hs)
    | (go_at_call 15; go_must (refine (awake8_spec W _ _ hs).mono ?_); clear hs; rintro e w1 ⟨rfl, hs⟩)
    | (go_at_call 16; go_must (refine (new_spec W _ _ hs 12 (by omega) (by omega)).mono ?_); clear hs; rintro e w1 ⟨b1, rfl, hs⟩)
    | (go_at_call 29; go_must (refine (sfew_spec W _ _ hs (by (try dsimp only [List.set]); repeat (first | exact hold | apply List.mem_cons_of_mem)) _ l h).mono ?_); clear hs; rintro e w1 ⟨rfl, hs⟩; rw [hF.out]))
  go_ret
  exact ⟨rfl, hs.pack (by repeat (first | with_reducible exact Pack.refl | with_reducible exact Pack.nil | with_reducible refine Pack.cons (by repeat (first | with_reducible exact Pick.here | with_reducible apply Pick.there)) ?_ | with_reducible apply Pack.drop))⟩
set_option maxRecDepth 100000 in
set_option maxHeartbeats 16000000 in
theorem slotPlays_all (W w : World) (L : List HP) (hs : Sat W w L) (hold : old W ∈ L) (first size : Int) (hfi : first < 9223372036854775808) (v : Value) (l : List SDeed) (h : sdeedsAt v l (hp W)) (hsm : SSmall l) :
    Calls Try.prog 7 #[.agg (areaC first size).toArray, v] w fun e w' => e = .returned (.bool true) ∧ Sat W w' L := by
  obtain ⟨D0, hD0⟩ : ∃ D0, Dk.new 12 = D0 := ⟨_, rfl⟩
  have h12 : D0.secs.length = 12 := by rw [← hD0]; simp [Dk.new]
  have hr0 : D0.row.length = 0 := by rw [← hD0]; rfl
  have okD0 : D0.Ok := by rw [← hD0]; exact Dk.new_ok (by omega)
  have HD0 := Box.mk hD0
  obtain ⟨A, cap, rfl, _, _, _⟩ := sdeeds_form h
  have hF := Box.mk ((sfewB_iff l).2 hsm)
  have hINV := Box.mk (sPlay_inv D0 okD0 h12 hr0 first size l hsm)
  clear h12 hr0 okD0 hD0
  have hl30 := hsm.1
  go_enter Try.func7, Try.ntmps7
  go_wp2_with (first
    | (guard_target = wpList _ _ _ (⟨some 2, .box _ _, _, _, _, _⟩ :: _) _ _; refine wpl (o := ⟨some 2, .box _ _, _, _, _, _⟩) rfl fun K hK => ?_; go_must (refine op_box hs rfl _ rfl (areaC first size) rfl fun b2 w1 h => hK _ _ ?_); clear hs hK K; have hs := h; clear h; try dsimp only [List.set] at hs)
    | (go_at_call 15; go_must (refine (awake8_spec W _ _ hs).mono ?_); clear hs; rintro e w1 ⟨rfl, hs⟩)
    | (go_at_call 16; go_must (refine (new_spec W _ _ hs 12 (by omega) (by omega)).mono ?_); clear hs; rintro e w1 ⟨b1, rfl, hs⟩; rw [HD0.out] at hs)
    | (go_at_call 29; go_must (refine (sfew_spec W _ _ hs (by (try dsimp only [List.set]); repeat (first | exact hold | apply List.mem_cons_of_mem)) _ l h).mono ?_); clear hs; rintro e w1 ⟨rfl, hs⟩; rw [hF.out])
    | (go_at_call 24; go_must (refine (rnew_spec W _ _ hs 12 (by omega)).mono ?_); clear hs; rintro e w1 ⟨vs, va, vr, rfl, hs⟩; rw [HD0.out] at hs
       obtain ⟨As, cs, rfl, _, _⟩ := slice_form (hs.slice (ref_secs m0))
       obtain ⟨Aa, ca, rfl, _, _⟩ := slice_form (hs.slice (ref_ats m0))
       obtain ⟨Ar, cr, rfl, _, _⟩ := slice_form (hs.slice (ref_row m0)))
    | (guard_target = wpList _ _ _ (⟨some 7, .alloc _, _, _, _, _⟩ :: _) _ _; refine wpl (o := ⟨some 7, .alloc _, _, _, _, _⟩) rfl fun K hK => ?_; go_must (refine op_alloc hs rfl _ zref [.slice none 0 0, .slice none 0 0, .slice none 0 0] rfl fun b7 w1 h => hK _ _ ?_); clear hs hK K; have hs := h; clear h; try dsimp only [List.set] at hs)
    | (guard_target = wpList _ _ _ (⟨none, .store _ (.tmp 7) _, _, _, _, _⟩ :: _) _ _; refine wpl (o := ⟨none, .store _ (.tmp 7) _, _, _, _, _⟩) rfl fun K hK => ?_; go_must (refine op_store_whole (hs.pick (A := row b7 [.slice none 0 0, .slice none 0 0, .slice none 0 0] 46) (by repeat (first | with_reducible exact Pick.here | with_reducible apply Pick.there))) (b := b7) rfl rfl [.slice As D0.secs.length cs, .slice Aa D0.row.length ca, .slice Ar D0.row.length cr] rfl (slices_one rfl rfl rfl) (by kernel_rfl) (k := 0) rfl rfl fun w3 h => hK _ _ ?_); clear hs hK K; have hs := h; clear h; try dsimp only [List.set] at hs))
  have hs1 := hs.pack (L := row b7 [.slice As D0.secs.length cs, .slice Aa D0.row.length ca, .slice Ar D0.row.length cr] 46 :: row b2 (areaC first size) 31 :: disk b1 (sPlay D0 first size (l.take 0)) :: ref (.slice As D0.secs.length cs) (.slice Aa D0.row.length ca) (.slice Ar D0.row.length cr) (sPlay D0 first size (l.take 0)) :: L) (by
    rw [show sPlay D0 first size (l.take 0) = D0 from rfl]
    exact (by repeat (first | with_reducible exact Pack.refl | with_reducible exact Pack.nil | with_reducible refine Pack.cons (by repeat (first | with_reducible exact Pick.here | with_reducible apply Pick.there)) ?_ | with_reducible apply Pack.drop)))
  clear hs
  have hs := hs1
  clear hs1
  go_loopw [8] (fun v8 wr => ∃ (k : Nat) (us ua ur : Value), k ≤ l.length ∧ v8 = .int .i64 (k : Nat) ∧ Sat W wr (row b7 [us, ua, ur] 46 :: row b2 (areaC first size) 31 :: disk b1 (sPlay D0 first size (l.take k)) :: ref us ua ur (sPlay D0 first size (l.take k)) :: L)) (fun v8 _ => l.length - (intOf v8).toNat)
  case atStart => exact ⟨0, _, _, _, by omega, rfl, hs⟩
  case round =>
    clear hs
    obtain ⟨k, us, ua, ur, hk, rfl, hs⟩ := hrel
    have hsn := fun h => sPlay_snoc D0 first size l k h
    obtain ⟨ok, hsz, hrow⟩ := hINV.out k hk
    generalize hst : sPlay D0 first size (l.take k) = D at *
    have HS := Box.mk hsn
    clear hsn hst hsz
    obtain ⟨As1, cs1, rfl, _, _⟩ := slice_form (hs.slice (ref_secs (by (try dsimp only [List.set]); repeat (first | with_reducible exact List.mem_cons_self | with_reducible apply List.mem_cons_of_mem))))
    obtain ⟨Aa1, ca1, rfl, _, _⟩ := slice_form (hs.slice (ref_ats (by (try dsimp only [List.set]); repeat (first | with_reducible exact List.mem_cons_self | with_reducible apply List.mem_cons_of_mem))))
    obtain ⟨Ar1, cr1, rfl, _, _⟩ := slice_form (hs.slice (ref_row (by (try dsimp only [List.set]); repeat (first | with_reducible exact List.mem_cons_self | with_reducible apply List.mem_cons_of_mem))))
    by_cases hlt : k < l.length
    · have hltI : (k : Int) < (l.length : Int) := by omega
      generalize Value.slice As1 D.secs.length cs1 = us at hs
      generalize Value.slice Aa1 D.row.length ca1 = ua at hs
      generalize Value.slice Ar1 D.row.length cr1 = ur at hs
      obtain ⟨bd, od, cd, vb, vk, g, e, hg1, hg2, hrg, hb, hkp⟩ := sdeeds_old h k hlt
      cases e
      have hS := HS.out hlt
      have hc3 := hsm.2 l[k] (List.getElem_mem hlt)
      have ok' := Dk.sdeed_ok ok first size l[k]
      have hrow' := Dk.sdeed_row D first size l[k] hc3
      have HSS := Box.mk hS
      clear hS
      generalize l[k] = c at hrg hb hkp HSS hc3 ok' hrow' hg1
      obtain ⟨kind, gen, at_, bb, keep⟩ := c
      simp only at hg1 hrg hb hkp hc3
      subst hg1
      obtain ⟨Ab, cb, rfl, _, _⟩ := slice_form (hs.slice (has_w (by (try dsimp only [List.set]); repeat (first | exact hold | apply List.mem_cons_of_mem)) hb))
      obtain ⟨Ak, ck, rfl, _, _⟩ := slice_form (hs.slice (has_w (by (try dsimp only [List.set]); repeat (first | exact hold | apply List.mem_cons_of_mem)) hkp))
      have hrow7 : D.row.length ≤ 700000 := by omega
      have hrowN : (D.sdeed first size ⟨kind, (g : Nat), at_, bb, keep⟩).row.length ≤ 1000000 := by omega
      clear hrow'
      have cS : ∀ w M, Sat W w M → row b7 [us, ua, ur] 46 ∈ M → row b2 (areaC first size) 31 ∈ M → old W ∈ M → runS8 b7 [us, ua, ur] b2 (areaC first size) bd (od + k * 5) (sdCells kind g at_ (.slice Ab bb.length cb) (.slice Ak keep.length ck)) w := fun w M h hm hm2 ho => ⟨range_whole h hm, range_whole h hm2, oold_range h ho hrg (by simp [sdCells])⟩
      have r47 : ∀ w, runS8 b7 [us, ua, ur] b2 (areaC first size) bd (od + k * 5) (sdCells kind g at_ (.slice Ab bb.length cb) (.slice Ak keep.length ck)) w → w.rangeAt b7 0 [us, ua, ur] := fun w h => h.1
      have r48 : ∀ w, runS8 b7 [us, ua, ur] b2 (areaC first size) bd (od + k * 5) (sdCells kind g at_ (.slice Ab bb.length cb) (.slice Ak keep.length ck)) w → w.rangeAt b2 0 (areaC first size) := fun w h => h.2.1
      have r52 : ∀ w, runS8 b7 [us, ua, ur] b2 (areaC first size) bd (od + k * 5) (sdCells kind g at_ (.slice Ab bb.length cb) (.slice Ak keep.length ck)) w → w.rangeAt bd (od + k * 5) (sdCells kind g at_ (.slice Ab bb.length cb) (.slice Ak keep.length ck)) := fun w h => h.2.2
      generalize hD' : D.sdeed first size ⟨kind, (g : Nat), at_, bb, keep⟩ = D' at HSS ok' hrowN
      have HD' := Box.mk hD'
      clear hD'
      go_wp2_with fail
      have hS0 := cS _ _ hs.drew (by (try dsimp only [List.set]); repeat (first | with_reducible exact List.mem_cons_self | with_reducible apply List.mem_cons_of_mem)) (by (try dsimp only [List.set]); repeat (first | with_reducible exact List.mem_cons_self | with_reducible apply List.mem_cons_of_mem)) (by (try dsimp only [List.set]); repeat (first | exact hold | apply List.mem_cons_of_mem))
      refine wp_region_tree (runS8 b7 [us, ua, ur] b2 (areaC first size) bd (od + k * 5) (sdCells kind g at_ (.slice Ab bb.length cb) (.slice Ak keep.length ck))) (.take 0 (.take 1 (.take 2 (.take 3 (.take 4 (.take 5 (.take 6 (.all [(7, .take 8 (.take 9 (.take 10 (.all [(11, .all [(12, .take 13 (DTree.done))])])))), (11, .all [(7, .take 8 (.take 9 (.take 10 (.all [(12, .take 13 (DTree.done))]))))])])))))))) (by kernel_rfl) (by kernel_rfl) (by kernel_rfl) (fun _ _ d _ _ h => by cases d <;> exact h) hS0 ?_
      have hs' := hs.drew
      clear hs
      have hs := hs'
      clear hs'
      have hq := fun p : Prop => class_const hS0 p
      clear hS0
      repeat (first
        | (with_reducible refine tree_load_agg (o := ⟨some 47, .load _ _, _, _, _, _⟩) [us, ua, ur] rfl rfl rfl rfl ?_ ?_ r47 ?_; (kernel_rfl); (kernel_rfl))
        | (with_reducible refine tree_load_agg (o := ⟨some 48, .load _ _, _, _, _, _⟩) (areaC first size) rfl rfl rfl rfl ?_ ?_ r48 ?_; (kernel_rfl); (kernel_rfl))
        | (with_reducible refine tree_load_agg (o := ⟨some 52, .load _ _, _, _, _, _⟩) (sdCells kind g at_ (.slice Ab bb.length cb) (.slice Ak keep.length ck)) rfl rfl rfl rfl ?_ ?_ r52 ?_; (kernel_rfl); (kernel_rfl))
        | (refine tree_take rfl (fun K hK => ?_); go_simp; with_reducible refine hK _ ?_; clear hK K))
      refine tree_all (trees_cons_yes (o := _) rfl rfl (fun K hK => ?_) (cS _ _ hs (by (try dsimp only [List.set]); repeat (first | with_reducible exact List.mem_cons_self | with_reducible apply List.mem_cons_of_mem)) (by (try dsimp only [List.set]); repeat (first | with_reducible exact List.mem_cons_self | with_reducible apply List.mem_cons_of_mem)) (by (try dsimp only [List.set]); repeat (first | exact hold | apply List.mem_cons_of_mem))) (trees_cons_yes (o := _) rfl rfl (fun K hK => ?_) (cS _ _ hs (by (try dsimp only [List.set]); repeat (first | with_reducible exact List.mem_cons_self | with_reducible apply List.mem_cons_of_mem)) (by (try dsimp only [List.set]); repeat (first | with_reducible exact List.mem_cons_self | with_reducible apply List.mem_cons_of_mem)) (by (try dsimp only [List.set]); repeat (first | exact hold | apply List.mem_cons_of_mem))) trees_nil))
      · try go_simp
        go_at_call 30
        refine (sldo_spec W _ _ b1 us ua ur (.slice Ab bb.length cb) (.slice Ak keep.length ck) D first size hfi kind g hg2 at_ bb keep ((hs.pick (A := ref us ua ur D) (by repeat (first | with_reducible exact Pick.here | with_reducible apply Pick.there))).pick (A := disk b1 D) (by repeat (first | with_reducible exact Pick.here | with_reducible apply Pick.there))) (has_w (by (try dsimp only [List.set]); repeat (first | exact hold | apply List.mem_cons_of_mem)) hb) (has_w (by (try dsimp only [List.set]); repeat (first | exact hold | apply List.mem_cons_of_mem)) hkp) hc3 hrow7).mono ?_
        clear hs
        rintro e w5 ⟨vs2, va2, vr2, rfl, hs⟩
        rw [HD'.out] at hs
        obtain ⟨As2, cs2, rfl, _, _⟩ := slice_form (hs.slice (ref_secs (by (try dsimp only [List.set]); repeat (first | with_reducible exact List.mem_cons_self | with_reducible apply List.mem_cons_of_mem))))
        obtain ⟨Aa2, ca2, rfl, _, _⟩ := slice_form (hs.slice (ref_ats (by (try dsimp only [List.set]); repeat (first | with_reducible exact List.mem_cons_self | with_reducible apply List.mem_cons_of_mem))))
        obtain ⟨Ar2, cr2, rfl, _, _⟩ := slice_form (hs.slice (ref_row (by (try dsimp only [List.set]); repeat (first | with_reducible exact List.mem_cons_self | with_reducible apply List.mem_cons_of_mem))))
        try go_simp
        refine hK _ _ (cS _ _ hs (by (try dsimp only [List.set]); repeat (first | with_reducible exact List.mem_cons_self | with_reducible apply List.mem_cons_of_mem)) (by (try dsimp only [List.set]); repeat (first | with_reducible exact List.mem_cons_self | with_reducible apply List.mem_cons_of_mem)) (by (try dsimp only [List.set]); repeat (first | exact hold | apply List.mem_cons_of_mem))) ?_
        clear hK K
        repeat (first
          | (with_reducible refine tree_load_agg (o := ⟨some 47, .load _ _, _, _, _, _⟩) [us, ua, ur] rfl rfl rfl rfl ?_ ?_ r47 ?_; (kernel_rfl); (kernel_rfl))
          | (with_reducible refine tree_load_agg (o := ⟨some 48, .load _ _, _, _, _, _⟩) (areaC first size) rfl rfl rfl rfl ?_ ?_ r48 ?_; (kernel_rfl); (kernel_rfl))
          | (with_reducible refine tree_load_agg (o := ⟨some 52, .load _ _, _, _, _, _⟩) (sdCells kind g at_ (.slice Ab bb.length cb) (.slice Ak keep.length ck)) rfl rfl rfl rfl ?_ ?_ r52 ?_; (kernel_rfl); (kernel_rfl))
          | (refine tree_take rfl (fun K hK => ?_); go_simp; with_reducible refine hK _ ?_; clear hK K))
        refine tree_one_yes (o := _) rfl rfl (fun K hK => ?_) (cS _ _ hs (by (try dsimp only [List.set]); repeat (first | with_reducible exact List.mem_cons_self | with_reducible apply List.mem_cons_of_mem)) (by (try dsimp only [List.set]); repeat (first | with_reducible exact List.mem_cons_self | with_reducible apply List.mem_cons_of_mem)) (by (try dsimp only [List.set]); repeat (first | exact hold | apply List.mem_cons_of_mem)))
        refine op_alloc hs rfl _ zref [.slice none 0 0, .slice none 0 0, .slice none 0 0] rfl fun b9 w2 h => hK _ _ (cS _ _ h (by (try dsimp only [List.set]); repeat (first | with_reducible exact List.mem_cons_self | with_reducible apply List.mem_cons_of_mem)) (by (try dsimp only [List.set]); repeat (first | with_reducible exact List.mem_cons_self | with_reducible apply List.mem_cons_of_mem)) (by (try dsimp only [List.set]); repeat (first | exact hold | apply List.mem_cons_of_mem))) ?_
        clear hs hK K
        have hs := h
        clear h
        try dsimp only [List.set] at hs
        try go_simp
        refine tree_one_yes (o := _) rfl rfl (fun K hK => ?_) (cS _ _ hs (by (try dsimp only [List.set]); repeat (first | with_reducible exact List.mem_cons_self | with_reducible apply List.mem_cons_of_mem)) (by (try dsimp only [List.set]); repeat (first | with_reducible exact List.mem_cons_self | with_reducible apply List.mem_cons_of_mem)) (by (try dsimp only [List.set]); repeat (first | exact hold | apply List.mem_cons_of_mem)))
        refine op_store_whole (hs.pick (A := row b9 [.slice none 0 0, .slice none 0 0, .slice none 0 0] 46) (by repeat (first | with_reducible exact Pick.here | with_reducible apply Pick.there))) rfl (b := b9) rfl [.slice As2 D'.secs.length cs2, .slice Aa2 D'.row.length ca2, .slice Ar2 D'.row.length cr2] rfl (slices_one rfl rfl rfl) (by kernel_rfl) (k := 0) rfl rfl fun w3 h => hK _ _ (cS _ _ h (by (try dsimp only [List.set]); repeat (first | with_reducible exact List.mem_cons_self | with_reducible apply List.mem_cons_of_mem)) (by (try dsimp only [List.set]); repeat (first | with_reducible exact List.mem_cons_self | with_reducible apply List.mem_cons_of_mem)) (by (try dsimp only [List.set]); repeat (first | exact hold | apply List.mem_cons_of_mem))) ?_
        clear hs hK K
        have hs := h
        clear h
        try dsimp only [List.set] at hs
        try go_simp
        repeat (first
          | (with_reducible refine tree_load_agg (o := ⟨some 47, .load _ _, _, _, _, _⟩) [us, ua, ur] rfl rfl rfl rfl ?_ ?_ r47 ?_; (kernel_rfl); (kernel_rfl))
          | (with_reducible refine tree_load_agg (o := ⟨some 48, .load _ _, _, _, _, _⟩) (areaC first size) rfl rfl rfl rfl ?_ ?_ r48 ?_; (kernel_rfl); (kernel_rfl))
          | (with_reducible refine tree_load_agg (o := ⟨some 52, .load _ _, _, _, _, _⟩) (sdCells kind g at_ (.slice Ab bb.length cb) (.slice Ak keep.length ck)) rfl rfl rfl rfl ?_ ?_ r52 ?_; (kernel_rfl); (kernel_rfl))
          | (refine tree_take rfl (fun K hK => ?_); go_simp; with_reducible refine hK _ ?_; clear hK K))
        refine tree_done ?_
        clear hq
        obtain ⟨p, hp⟩ : ∃ p, slLoadA D' first size = p := ⟨_, rfl⟩
        have HP' := Box.mk hp
        clear hp
        go_wp2_with (first
          | (guard_target = wpList _ _ _ (⟨some 56, .load _ _, _, _, _, _⟩ :: _) _ _; refine wpl (o := ⟨some 56, .load _ _, _, _, _, _⟩) rfl fun K hK => op_load_agg rfl (b := b9) (i := 0) rfl ([.slice As2 D'.secs.length cs2, .slice Aa2 D'.row.length ca2, .slice Ar2 D'.row.length cr2]) (range_whole hs (by (try dsimp only [List.set]); repeat (first | with_reducible exact List.mem_cons_self | with_reducible apply List.mem_cons_of_mem))) (by kernel_rfl) (by kernel_rfl) (hK _ _ ?_); clear hK K)
          | (guard_target = wpList _ _ _ (⟨none, .store _ (.tmp 7) _, _, _, _, _⟩ :: _) _ _; refine wpl (o := ⟨none, .store _ (.tmp 7) _, _, _, _, _⟩) rfl fun K hK => ?_; go_must (refine op_store_whole (hs.pick (A := row b7 [us, ua, ur] 46) (by repeat (first | with_reducible exact Pick.here | with_reducible apply Pick.there))) (b := b7) rfl rfl [.slice As2 D'.secs.length cs2, .slice Aa2 D'.row.length ca2, .slice Ar2 D'.row.length cr2] rfl (slices_one rfl rfl rfl) (by kernel_rfl) (k := 0) rfl rfl fun w4 h => hK _ _ ?_); clear hs hK K; have hs := h; clear h; try dsimp only [List.set] at hs)
          | (guard_target = wpList _ _ _ (⟨some 59, .load _ _, _, _, _, _⟩ :: _) _ _; refine wpl (o := ⟨some 59, .load _ _, _, _, _, _⟩) rfl fun K hK => op_load_agg rfl (b := b2) (i := 0) rfl ((areaC first size)) (range_whole hs (by (try dsimp only [List.set]); repeat (first | with_reducible exact List.mem_cons_self | with_reducible apply List.mem_cons_of_mem))) (by kernel_rfl) (by kernel_rfl) (hK _ _ ?_); clear hK K)
          | (go_at_call 19; go_must (refine (slload_any W _ _ b1 D' (hs.pick (A := disk b1 D') (by repeat (first | with_reducible exact Pick.here | with_reducible apply Pick.there))) first size hfi hrowN).mono ?_); clear hs; rintro e w1 ⟨v12, rfl, hs⟩; rw [HP'.out] at hs ⊢
             obtain ⟨A12, c12, rfl, _, _⟩ := slice_form (hs.bytes (bytesH_has 0 rfl)))
          | (guard_target = wpList _ _ _ (⟨some 65, .load _ _, _, _, _, _⟩ :: _) _ _; refine wpl (o := ⟨some 65, .load _ _, _, _, _, _⟩) rfl fun K hK => op_load_agg rfl (b := b7) (i := 0) rfl ([.slice As2 D'.secs.length cs2, .slice Aa2 D'.row.length ca2, .slice Ar2 D'.row.length cr2]) (range_whole hs (by (try dsimp only [List.set]); repeat (first | with_reducible exact List.mem_cons_self | with_reducible apply List.mem_cons_of_mem))) (by kernel_rfl) (by kernel_rfl) (hK _ _ ?_); clear hK K)
          | (guard_target = wpList _ _ _ (⟨some 67, .load _ _, _, _, _, _⟩ :: _) _ _; refine wpl (o := ⟨some 67, .load _ _, _, _, _, _⟩) rfl fun K hK => op_load rfl (ad := ⟨b2, 0, none⟩) rfl (by kernel_rfl) (hs.cell (l := areaC first size) (t := 31) (by (try dsimp only [List.set]); repeat (first | with_reducible exact List.mem_cons_self | with_reducible apply List.mem_cons_of_mem)) rfl) (hK _ _ ?_); clear hK K)
          | (guard_target = wpList _ _ _ (⟨some 69, .load _ _, _, _, _, _⟩ :: _) _ _; refine wpl (o := ⟨some 69, .load _ _, _, _, _, _⟩) rfl fun K hK => op_load rfl (ad := ⟨b2, 1, none⟩) rfl (by kernel_rfl) (hs.cell (l := areaC first size) (t := 31) (by (try dsimp only [List.set]); repeat (first | with_reducible exact List.mem_cons_self | with_reducible apply List.mem_cons_of_mem)) rfl) (hK _ _ ?_); clear hK K)
          | (go_at_call 31; go_must (refine (rslload_any W _ _ _ _ _ D' ok' (hs.pick (A := ref (.slice As2 D'.secs.length cs2) (.slice Aa2 D'.row.length ca2) (.slice Ar2 D'.row.length cr2) D') (by repeat (first | with_reducible exact Pick.here | with_reducible apply Pick.there))) first size hrowN).mono ?_); clear hs; rintro e w1 ⟨rfl, hs⟩; rw [HP'.out])
          | (guard_target = wpList _ _ _ (⟨some 83, .convert _ _ _, _, _, _, _⟩ :: _) _ _; refine wpl (o := ⟨some 83, .convert _ _ _, _, _, _, _⟩) rfl fun K hK => ?_; go_must (refine op_to_string rfl Try.underlying23 Try.underlying5 Try.underlying9 rfl (hs.bytes ((show Has _ (bytesAt (.slice A12 (slBody p).length c12) (slBody p)) from Has.mem (A := bytesH (.slice A12 (slBody p).length c12) (slBody p)) (by (try dsimp only [List.set]); repeat (first | with_reducible exact List.mem_cons_self | with_reducible apply List.mem_cons_of_mem)) fun F hF => hF))) (hK _ _ ?_)); clear hK K))
        go_loopw [17] (fun v17 wr => ∃ i : Int, -1 ≤ i ∧ i ≤ 3 ∧ v17 = .int .i64 i ∧ Sat W wr (row b7 [.slice As2 D'.secs.length cs2, .slice Aa2 D'.row.length ca2, .slice Ar2 D'.row.length cr2] 46 :: row b2 (areaC first size) 31 :: disk b1 D' :: ref (.slice As2 D'.secs.length cs2) (.slice Aa2 D'.row.length ca2) (.slice Ar2 D'.row.length cr2) D' :: L)) (fun v17 _ => (3 - intOf v17).toNat)
        case atStart => exact ⟨-1, by omega, by omega, rfl, hs.pack (by repeat (first | with_reducible exact Pack.refl | with_reducible exact Pack.nil | with_reducible refine Pack.cons (by repeat (first | with_reducible exact Pick.here | with_reducible apply Pick.there)) ?_ | with_reducible apply Pack.drop))⟩
        case round =>
          clear hs
          obtain ⟨i, hi0, hi1, rfl, hs⟩ := hrel
          by_cases hi3 : i < 3
          · obtain ⟨q, hq⟩ : ∃ q, slHasA D' first size i = q := ⟨_, rfl⟩
            have HQ' := Box.mk hq
            clear hq
            have hwi : IntKind.i64.wrap (i + 1) = i + 1 := by rw [IntKind.wrap_i64]; omega
            go_wp2_with (first
              | (guard_target = wpList _ _ _ (⟨some 98, .load _ _, _, _, _, _⟩ :: _) _ _; refine wpl (o := ⟨some 98, .load _ _, _, _, _, _⟩) rfl fun K hK => op_load_agg rfl (b := b2) (i := 0) rfl ((areaC first size)) (range_whole hs (by (try dsimp only [List.set]); repeat (first | with_reducible exact List.mem_cons_self | with_reducible apply List.mem_cons_of_mem))) (by kernel_rfl) (by kernel_rfl) (hK _ _ ?_); clear hK K)
              | (go_at_call 22; go_must (refine (slone_any W _ _ b1 D' (hs.pick (A := disk b1 D') (by repeat (first | with_reducible exact Pick.here | with_reducible apply Pick.there))) first size i hfi hrowN).mono ?_); clear hs; rintro e w1 ⟨v19, rfl, hs⟩; rw [HQ'.out] at hs ⊢
                 obtain ⟨A19, c19, rfl, _, _⟩ := slice_form (hs.bytes (bytesH_has 0 rfl)))
              | (guard_target = wpList _ _ _ (⟨some 105, .load _ _, _, _, _, _⟩ :: _) _ _; refine wpl (o := ⟨some 105, .load _ _, _, _, _, _⟩) rfl fun K hK => op_load_agg rfl (b := b7) (i := 0) rfl ([.slice As2 D'.secs.length cs2, .slice Aa2 D'.row.length ca2, .slice Ar2 D'.row.length cr2]) (range_whole hs (by (try dsimp only [List.set]); repeat (first | with_reducible exact List.mem_cons_self | with_reducible apply List.mem_cons_of_mem))) (by kernel_rfl) (by kernel_rfl) (hK _ _ ?_); clear hK K)
              | (guard_target = wpList _ _ _ (⟨some 107, .load _ _, _, _, _, _⟩ :: _) _ _; refine wpl (o := ⟨some 107, .load _ _, _, _, _, _⟩) rfl fun K hK => op_load rfl (ad := ⟨b2, 0, none⟩) rfl (by kernel_rfl) (hs.cell (l := areaC first size) (t := 31) (by (try dsimp only [List.set]); repeat (first | with_reducible exact List.mem_cons_self | with_reducible apply List.mem_cons_of_mem)) rfl) (hK _ _ ?_); clear hK K)
              | (guard_target = wpList _ _ _ (⟨some 109, .load _ _, _, _, _, _⟩ :: _) _ _; refine wpl (o := ⟨some 109, .load _ _, _, _, _, _⟩) rfl fun K hK => op_load rfl (ad := ⟨b2, 1, none⟩) rfl (by kernel_rfl) (hs.cell (l := areaC first size) (t := 31) (by (try dsimp only [List.set]); repeat (first | with_reducible exact List.mem_cons_self | with_reducible apply List.mem_cons_of_mem)) rfl) (hK _ _ ?_); clear hK K)
              | (go_at_call 32; go_must (refine (rslone_any W _ _ _ _ _ D' ok' (hs.pick (A := ref (.slice As2 D'.secs.length cs2) (.slice Aa2 D'.row.length ca2) (.slice Ar2 D'.row.length cr2) D') (by repeat (first | with_reducible exact Pick.here | with_reducible apply Pick.there))) first size i hrowN).mono ?_); clear hs; rintro e w1 ⟨rfl, hs⟩; rw [HQ'.out])
              | (guard_target = wpList _ _ _ (⟨some 120, .convert _ _ _, _, _, _, _⟩ :: _) _ _; refine wpl (o := ⟨some 120, .convert _ _ _, _, _, _, _⟩) rfl fun K hK => ?_; go_must (refine op_to_string rfl Try.underlying23 Try.underlying5 Try.underlying9 rfl (hs.bytes ((show Has _ (bytesAt (.slice A19 (slBody q).length c19) (slBody q)) from Has.mem (A := bytesH (.slice A19 (slBody q).length c19) (slBody q)) (by (try dsimp only [List.set]); repeat (first | with_reducible exact List.mem_cons_self | with_reducible apply List.mem_cons_of_mem)) fun F hF => hF))) (hK _ _ ?_)); clear hK K))
            exact ⟨⟨i + 1, by omega, by omega, rfl, hs.pack (by repeat (first | with_reducible exact Pack.refl | with_reducible exact Pack.nil | with_reducible refine Pack.cons (by repeat (first | with_reducible exact Pick.here | with_reducible apply Pick.there)) ?_ | with_reducible apply Pack.drop))⟩, by simp only [intOf]; omega⟩
          · go_wp2_with fail
            refine ⟨⟨k + 1, .slice As2 D'.secs.length cs2, .slice Aa2 D'.row.length ca2, .slice Ar2 D'.row.length cr2, by omega, by go_num, ?_⟩, by simp only [intOf]; omega⟩
            rw [HSS.out]
            exact hs.pack (by repeat (first | with_reducible exact Pack.refl | with_reducible exact Pack.nil | with_reducible refine Pack.cons (by repeat (first | with_reducible exact Pick.here | with_reducible apply Pick.there)) ?_ | with_reducible apply Pack.drop))
      · refine op_alloc hs rfl _ zref [.slice none 0 0, .slice none 0 0, .slice none 0 0] rfl fun b9 w2 h => hK _ _ (cS _ _ h (by (try dsimp only [List.set]); repeat (first | with_reducible exact List.mem_cons_self | with_reducible apply List.mem_cons_of_mem)) (by (try dsimp only [List.set]); repeat (first | with_reducible exact List.mem_cons_self | with_reducible apply List.mem_cons_of_mem)) (by (try dsimp only [List.set]); repeat (first | exact hold | apply List.mem_cons_of_mem))) ?_
        clear hs hK K
        have hs := h
        clear h
        try dsimp only [List.set] at hs
        try go_simp
        refine tree_one_yes (o := _) rfl rfl (fun K hK => ?_) (cS _ _ hs (by (try dsimp only [List.set]); repeat (first | with_reducible exact List.mem_cons_self | with_reducible apply List.mem_cons_of_mem)) (by (try dsimp only [List.set]); repeat (first | with_reducible exact List.mem_cons_self | with_reducible apply List.mem_cons_of_mem)) (by (try dsimp only [List.set]); repeat (first | exact hold | apply List.mem_cons_of_mem)))
        try go_simp
        go_at_call 30
        refine (sldo_spec W _ _ b1 us ua ur (.slice Ab bb.length cb) (.slice Ak keep.length ck) D first size hfi kind g hg2 at_ bb keep ((hs.pick (A := ref us ua ur D) (by repeat (first | with_reducible exact Pick.here | with_reducible apply Pick.there))).pick (A := disk b1 D) (by repeat (first | with_reducible exact Pick.here | with_reducible apply Pick.there))) (has_w (by (try dsimp only [List.set]); repeat (first | exact hold | apply List.mem_cons_of_mem)) hb) (has_w (by (try dsimp only [List.set]); repeat (first | exact hold | apply List.mem_cons_of_mem)) hkp) hc3 hrow7).mono ?_
        clear hs
        rintro e w5 ⟨vs2, va2, vr2, rfl, hs⟩
        rw [HD'.out] at hs
        obtain ⟨As2, cs2, rfl, _, _⟩ := slice_form (hs.slice (ref_secs (by (try dsimp only [List.set]); repeat (first | with_reducible exact List.mem_cons_self | with_reducible apply List.mem_cons_of_mem))))
        obtain ⟨Aa2, ca2, rfl, _, _⟩ := slice_form (hs.slice (ref_ats (by (try dsimp only [List.set]); repeat (first | with_reducible exact List.mem_cons_self | with_reducible apply List.mem_cons_of_mem))))
        obtain ⟨Ar2, cr2, rfl, _, _⟩ := slice_form (hs.slice (ref_row (by (try dsimp only [List.set]); repeat (first | with_reducible exact List.mem_cons_self | with_reducible apply List.mem_cons_of_mem))))
        try go_simp
        refine hK _ _ (cS _ _ hs (by (try dsimp only [List.set]); repeat (first | with_reducible exact List.mem_cons_self | with_reducible apply List.mem_cons_of_mem)) (by (try dsimp only [List.set]); repeat (first | with_reducible exact List.mem_cons_self | with_reducible apply List.mem_cons_of_mem)) (by (try dsimp only [List.set]); repeat (first | exact hold | apply List.mem_cons_of_mem))) ?_
        clear hK K
        repeat (first
          | (with_reducible refine tree_load_agg (o := ⟨some 47, .load _ _, _, _, _, _⟩) [us, ua, ur] rfl rfl rfl rfl ?_ ?_ r47 ?_; (kernel_rfl); (kernel_rfl))
          | (with_reducible refine tree_load_agg (o := ⟨some 48, .load _ _, _, _, _, _⟩) (areaC first size) rfl rfl rfl rfl ?_ ?_ r48 ?_; (kernel_rfl); (kernel_rfl))
          | (with_reducible refine tree_load_agg (o := ⟨some 52, .load _ _, _, _, _, _⟩) (sdCells kind g at_ (.slice Ab bb.length cb) (.slice Ak keep.length ck)) rfl rfl rfl rfl ?_ ?_ r52 ?_; (kernel_rfl); (kernel_rfl))
          | (refine tree_take rfl (fun K hK => ?_); go_simp; with_reducible refine hK _ ?_; clear hK K))
        refine tree_one_yes (o := _) rfl rfl (fun K hK => ?_) (cS _ _ hs (by (try dsimp only [List.set]); repeat (first | with_reducible exact List.mem_cons_self | with_reducible apply List.mem_cons_of_mem)) (by (try dsimp only [List.set]); repeat (first | with_reducible exact List.mem_cons_self | with_reducible apply List.mem_cons_of_mem)) (by (try dsimp only [List.set]); repeat (first | exact hold | apply List.mem_cons_of_mem)))
        refine op_store_whole (hs.pick (A := row b9 [.slice none 0 0, .slice none 0 0, .slice none 0 0] 46) (by repeat (first | with_reducible exact Pick.here | with_reducible apply Pick.there))) rfl (b := b9) rfl [.slice As2 D'.secs.length cs2, .slice Aa2 D'.row.length ca2, .slice Ar2 D'.row.length cr2] rfl (slices_one rfl rfl rfl) (by kernel_rfl) (k := 0) rfl rfl fun w3 h => hK _ _ (cS _ _ h (by (try dsimp only [List.set]); repeat (first | with_reducible exact List.mem_cons_self | with_reducible apply List.mem_cons_of_mem)) (by (try dsimp only [List.set]); repeat (first | with_reducible exact List.mem_cons_self | with_reducible apply List.mem_cons_of_mem)) (by (try dsimp only [List.set]); repeat (first | exact hold | apply List.mem_cons_of_mem))) ?_
        clear hs hK K
        have hs := h
        clear h
        try dsimp only [List.set] at hs
        try go_simp
        repeat (first
          | (with_reducible refine tree_load_agg (o := ⟨some 47, .load _ _, _, _, _, _⟩) [us, ua, ur] rfl rfl rfl rfl ?_ ?_ r47 ?_; (kernel_rfl); (kernel_rfl))
          | (with_reducible refine tree_load_agg (o := ⟨some 48, .load _ _, _, _, _, _⟩) (areaC first size) rfl rfl rfl rfl ?_ ?_ r48 ?_; (kernel_rfl); (kernel_rfl))
          | (with_reducible refine tree_load_agg (o := ⟨some 52, .load _ _, _, _, _, _⟩) (sdCells kind g at_ (.slice Ab bb.length cb) (.slice Ak keep.length ck)) rfl rfl rfl rfl ?_ ?_ r52 ?_; (kernel_rfl); (kernel_rfl))
          | (refine tree_take rfl (fun K hK => ?_); go_simp; with_reducible refine hK _ ?_; clear hK K))
        refine tree_done ?_
        clear hq
        obtain ⟨p, hp⟩ : ∃ p, slLoadA D' first size = p := ⟨_, rfl⟩
        have HP' := Box.mk hp
        clear hp
        go_wp2_with (first
          | (guard_target = wpList _ _ _ (⟨some 56, .load _ _, _, _, _, _⟩ :: _) _ _; refine wpl (o := ⟨some 56, .load _ _, _, _, _, _⟩) rfl fun K hK => op_load_agg rfl (b := b9) (i := 0) rfl ([.slice As2 D'.secs.length cs2, .slice Aa2 D'.row.length ca2, .slice Ar2 D'.row.length cr2]) (range_whole hs (by (try dsimp only [List.set]); repeat (first | with_reducible exact List.mem_cons_self | with_reducible apply List.mem_cons_of_mem))) (by kernel_rfl) (by kernel_rfl) (hK _ _ ?_); clear hK K)
          | (guard_target = wpList _ _ _ (⟨none, .store _ (.tmp 7) _, _, _, _, _⟩ :: _) _ _; refine wpl (o := ⟨none, .store _ (.tmp 7) _, _, _, _, _⟩) rfl fun K hK => ?_; go_must (refine op_store_whole (hs.pick (A := row b7 [us, ua, ur] 46) (by repeat (first | with_reducible exact Pick.here | with_reducible apply Pick.there))) (b := b7) rfl rfl [.slice As2 D'.secs.length cs2, .slice Aa2 D'.row.length ca2, .slice Ar2 D'.row.length cr2] rfl (slices_one rfl rfl rfl) (by kernel_rfl) (k := 0) rfl rfl fun w4 h => hK _ _ ?_); clear hs hK K; have hs := h; clear h; try dsimp only [List.set] at hs)
          | (guard_target = wpList _ _ _ (⟨some 59, .load _ _, _, _, _, _⟩ :: _) _ _; refine wpl (o := ⟨some 59, .load _ _, _, _, _, _⟩) rfl fun K hK => op_load_agg rfl (b := b2) (i := 0) rfl ((areaC first size)) (range_whole hs (by (try dsimp only [List.set]); repeat (first | with_reducible exact List.mem_cons_self | with_reducible apply List.mem_cons_of_mem))) (by kernel_rfl) (by kernel_rfl) (hK _ _ ?_); clear hK K)
          | (go_at_call 19; go_must (refine (slload_any W _ _ b1 D' (hs.pick (A := disk b1 D') (by repeat (first | with_reducible exact Pick.here | with_reducible apply Pick.there))) first size hfi hrowN).mono ?_); clear hs; rintro e w1 ⟨v12, rfl, hs⟩; rw [HP'.out] at hs ⊢
             obtain ⟨A12, c12, rfl, _, _⟩ := slice_form (hs.bytes (bytesH_has 0 rfl)))
          | (guard_target = wpList _ _ _ (⟨some 65, .load _ _, _, _, _, _⟩ :: _) _ _; refine wpl (o := ⟨some 65, .load _ _, _, _, _, _⟩) rfl fun K hK => op_load_agg rfl (b := b7) (i := 0) rfl ([.slice As2 D'.secs.length cs2, .slice Aa2 D'.row.length ca2, .slice Ar2 D'.row.length cr2]) (range_whole hs (by (try dsimp only [List.set]); repeat (first | with_reducible exact List.mem_cons_self | with_reducible apply List.mem_cons_of_mem))) (by kernel_rfl) (by kernel_rfl) (hK _ _ ?_); clear hK K)
          | (guard_target = wpList _ _ _ (⟨some 67, .load _ _, _, _, _, _⟩ :: _) _ _; refine wpl (o := ⟨some 67, .load _ _, _, _, _, _⟩) rfl fun K hK => op_load rfl (ad := ⟨b2, 0, none⟩) rfl (by kernel_rfl) (hs.cell (l := areaC first size) (t := 31) (by (try dsimp only [List.set]); repeat (first | with_reducible exact List.mem_cons_self | with_reducible apply List.mem_cons_of_mem)) rfl) (hK _ _ ?_); clear hK K)
          | (guard_target = wpList _ _ _ (⟨some 69, .load _ _, _, _, _, _⟩ :: _) _ _; refine wpl (o := ⟨some 69, .load _ _, _, _, _, _⟩) rfl fun K hK => op_load rfl (ad := ⟨b2, 1, none⟩) rfl (by kernel_rfl) (hs.cell (l := areaC first size) (t := 31) (by (try dsimp only [List.set]); repeat (first | with_reducible exact List.mem_cons_self | with_reducible apply List.mem_cons_of_mem)) rfl) (hK _ _ ?_); clear hK K)
          | (go_at_call 31; go_must (refine (rslload_any W _ _ _ _ _ D' ok' (hs.pick (A := ref (.slice As2 D'.secs.length cs2) (.slice Aa2 D'.row.length ca2) (.slice Ar2 D'.row.length cr2) D') (by repeat (first | with_reducible exact Pick.here | with_reducible apply Pick.there))) first size hrowN).mono ?_); clear hs; rintro e w1 ⟨rfl, hs⟩; rw [HP'.out])
          | (guard_target = wpList _ _ _ (⟨some 83, .convert _ _ _, _, _, _, _⟩ :: _) _ _; refine wpl (o := ⟨some 83, .convert _ _ _, _, _, _, _⟩) rfl fun K hK => ?_; go_must (refine op_to_string rfl Try.underlying23 Try.underlying5 Try.underlying9 rfl (hs.bytes ((show Has _ (bytesAt (.slice A12 (slBody p).length c12) (slBody p)) from Has.mem (A := bytesH (.slice A12 (slBody p).length c12) (slBody p)) (by (try dsimp only [List.set]); repeat (first | with_reducible exact List.mem_cons_self | with_reducible apply List.mem_cons_of_mem)) fun F hF => hF))) (hK _ _ ?_)); clear hK K))
        go_loopw [17] (fun v17 wr => ∃ i : Int, -1 ≤ i ∧ i ≤ 3 ∧ v17 = .int .i64 i ∧ Sat W wr (row b7 [.slice As2 D'.secs.length cs2, .slice Aa2 D'.row.length ca2, .slice Ar2 D'.row.length cr2] 46 :: row b2 (areaC first size) 31 :: disk b1 D' :: ref (.slice As2 D'.secs.length cs2) (.slice Aa2 D'.row.length ca2) (.slice Ar2 D'.row.length cr2) D' :: L)) (fun v17 _ => (3 - intOf v17).toNat)
        case atStart => exact ⟨-1, by omega, by omega, rfl, hs.pack (by repeat (first | with_reducible exact Pack.refl | with_reducible exact Pack.nil | with_reducible refine Pack.cons (by repeat (first | with_reducible exact Pick.here | with_reducible apply Pick.there)) ?_ | with_reducible apply Pack.drop))⟩
        case round =>
          clear hs
          obtain ⟨i, hi0, hi1, rfl, hs⟩ := hrel
          by_cases hi3 : i < 3
          · obtain ⟨q, hq⟩ : ∃ q, slHasA D' first size i = q := ⟨_, rfl⟩
            have HQ' := Box.mk hq
            clear hq
            have hwi : IntKind.i64.wrap (i + 1) = i + 1 := by rw [IntKind.wrap_i64]; omega
            go_wp2_with (first
              | (guard_target = wpList _ _ _ (⟨some 98, .load _ _, _, _, _, _⟩ :: _) _ _; refine wpl (o := ⟨some 98, .load _ _, _, _, _, _⟩) rfl fun K hK => op_load_agg rfl (b := b2) (i := 0) rfl ((areaC first size)) (range_whole hs (by (try dsimp only [List.set]); repeat (first | with_reducible exact List.mem_cons_self | with_reducible apply List.mem_cons_of_mem))) (by kernel_rfl) (by kernel_rfl) (hK _ _ ?_); clear hK K)
              | (go_at_call 22; go_must (refine (slone_any W _ _ b1 D' (hs.pick (A := disk b1 D') (by repeat (first | with_reducible exact Pick.here | with_reducible apply Pick.there))) first size i hfi hrowN).mono ?_); clear hs; rintro e w1 ⟨v19, rfl, hs⟩; rw [HQ'.out] at hs ⊢
                 obtain ⟨A19, c19, rfl, _, _⟩ := slice_form (hs.bytes (bytesH_has 0 rfl)))
              | (guard_target = wpList _ _ _ (⟨some 105, .load _ _, _, _, _, _⟩ :: _) _ _; refine wpl (o := ⟨some 105, .load _ _, _, _, _, _⟩) rfl fun K hK => op_load_agg rfl (b := b7) (i := 0) rfl ([.slice As2 D'.secs.length cs2, .slice Aa2 D'.row.length ca2, .slice Ar2 D'.row.length cr2]) (range_whole hs (by (try dsimp only [List.set]); repeat (first | with_reducible exact List.mem_cons_self | with_reducible apply List.mem_cons_of_mem))) (by kernel_rfl) (by kernel_rfl) (hK _ _ ?_); clear hK K)
              | (guard_target = wpList _ _ _ (⟨some 107, .load _ _, _, _, _, _⟩ :: _) _ _; refine wpl (o := ⟨some 107, .load _ _, _, _, _, _⟩) rfl fun K hK => op_load rfl (ad := ⟨b2, 0, none⟩) rfl (by kernel_rfl) (hs.cell (l := areaC first size) (t := 31) (by (try dsimp only [List.set]); repeat (first | with_reducible exact List.mem_cons_self | with_reducible apply List.mem_cons_of_mem)) rfl) (hK _ _ ?_); clear hK K)
              | (guard_target = wpList _ _ _ (⟨some 109, .load _ _, _, _, _, _⟩ :: _) _ _; refine wpl (o := ⟨some 109, .load _ _, _, _, _, _⟩) rfl fun K hK => op_load rfl (ad := ⟨b2, 1, none⟩) rfl (by kernel_rfl) (hs.cell (l := areaC first size) (t := 31) (by (try dsimp only [List.set]); repeat (first | with_reducible exact List.mem_cons_self | with_reducible apply List.mem_cons_of_mem)) rfl) (hK _ _ ?_); clear hK K)
              | (go_at_call 32; go_must (refine (rslone_any W _ _ _ _ _ D' ok' (hs.pick (A := ref (.slice As2 D'.secs.length cs2) (.slice Aa2 D'.row.length ca2) (.slice Ar2 D'.row.length cr2) D') (by repeat (first | with_reducible exact Pick.here | with_reducible apply Pick.there))) first size i hrowN).mono ?_); clear hs; rintro e w1 ⟨rfl, hs⟩; rw [HQ'.out])
              | (guard_target = wpList _ _ _ (⟨some 120, .convert _ _ _, _, _, _, _⟩ :: _) _ _; refine wpl (o := ⟨some 120, .convert _ _ _, _, _, _, _⟩) rfl fun K hK => ?_; go_must (refine op_to_string rfl Try.underlying23 Try.underlying5 Try.underlying9 rfl (hs.bytes ((show Has _ (bytesAt (.slice A19 (slBody q).length c19) (slBody q)) from Has.mem (A := bytesH (.slice A19 (slBody q).length c19) (slBody q)) (by (try dsimp only [List.set]); repeat (first | with_reducible exact List.mem_cons_self | with_reducible apply List.mem_cons_of_mem)) fun F hF => hF))) (hK _ _ ?_)); clear hK K))
            exact ⟨⟨i + 1, by omega, by omega, rfl, hs.pack (by repeat (first | with_reducible exact Pack.refl | with_reducible exact Pack.nil | with_reducible refine Pack.cons (by repeat (first | with_reducible exact Pick.here | with_reducible apply Pick.there)) ?_ | with_reducible apply Pack.drop))⟩, by simp only [intOf]; omega⟩
          · go_wp2_with fail
            refine ⟨⟨k + 1, .slice As2 D'.secs.length cs2, .slice Aa2 D'.row.length ca2, .slice Ar2 D'.row.length cr2, by omega, by go_num, ?_⟩, by simp only [intOf]; omega⟩
            rw [HSS.out]
            exact hs.pack (by repeat (first | with_reducible exact Pack.refl | with_reducible exact Pack.nil | with_reducible refine Pack.cons (by repeat (first | with_reducible exact Pick.here | with_reducible apply Pick.there)) ?_ | with_reducible apply Pack.drop))
    · have hltI : ¬ (k : Int) < (l.length : Int) := by omega
      have cS : ∀ w M, Sat W w M → row b7 [.slice As1 D.secs.length cs1, .slice Aa1 D.row.length ca1, .slice Ar1 D.row.length cr1] 46 ∈ M → rngS b7 [.slice As1 D.secs.length cs1, .slice Aa1 D.row.length ca1, .slice Ar1 D.row.length cr1] w := fun w M h hm => range_whole h hm
      have d134 : ∀ w, rngS b7 [.slice As1 D.secs.length cs1, .slice Aa1 D.row.length ca1, .slice Ar1 D.row.length cr1] w → w.cell? ⟨b7, 2, none⟩ = some (.slice Ar1 D.row.length cr1) := fun w h => h 2 _ rfl
      go_wp2_with fail
      have hS0 := cS _ _ hs.drew (by (try dsimp only [List.set]); repeat (first | with_reducible exact List.mem_cons_self | with_reducible apply List.mem_cons_of_mem))
      refine wp_region_tree (rngS b7 [.slice As1 D.secs.length cs1, .slice Aa1 D.row.length ca1, .slice Ar1 D.row.length cr1]) (.take 0 (.take 1 (.take 2 (.take 4 (.take 5 (.take 6 (.all [(3, .take 7 (.take 8 (.take 9 (DTree.done))))]))))))) (by kernel_rfl) (by kernel_rfl) (by kernel_rfl) (fun _ _ d _ _ h => by cases d <;> exact h) hS0 ?_
      have hs' := hs.drew
      clear hs
      have hs := hs'
      clear hs'
      have hq := fun p : Prop => class_const hS0 p
      clear hS0
      repeat (first
        | (with_reducible refine tree_load (o := ⟨some 134, .load _ _, _, _, _, _⟩) rfl rfl rfl rfl rfl d134 ?_)
        | (refine tree_take rfl (fun K hK => ?_); go_simp; with_reducible refine hK _ ?_; clear hK K))
      refine tree_one_yes (o := _) rfl rfl (fun K hK => ?_) (cS _ _ hs (by (try dsimp only [List.set]); repeat (first | with_reducible exact List.mem_cons_self | with_reducible apply List.mem_cons_of_mem)))
      try go_simp
      go_at_call 33
      refine (pending_spec W _ _ b1 D (hs.pick (A := disk b1 D) (by repeat (first | with_reducible exact Pick.here | with_reducible apply Pick.there)))).mono ?_
      clear hs
      rintro e w5 ⟨rfl, hs⟩
      try go_simp
      refine hK _ _ (cS _ _ hs (by (try dsimp only [List.set]); repeat (first | with_reducible exact List.mem_cons_self | with_reducible apply List.mem_cons_of_mem))) ?_
      clear hK K
      repeat (first
        | (with_reducible refine tree_load (o := ⟨some 134, .load _ _, _, _, _, _⟩) rfl rfl rfl rfl rfl d134 ?_)
        | (refine tree_take rfl (fun K hK => ?_); go_simp; with_reducible refine hK _ ?_; clear hK K))
      refine tree_done ?_
      clear hq
      go_wp2_with fail
      go_ret
      exact ⟨by simp, hs.pack (by repeat (first | with_reducible exact Pack.refl | with_reducible exact Pack.nil | with_reducible refine Pack.cons (by repeat (first | with_reducible exact Pick.here | with_reducible apply Pick.there)) ?_ | with_reducible apply Pack.drop))⟩
theorem slotPlays_main (W : World) (x0 : AreaTup) (c0 : List Value) (h0 : areaKin.K (hp W) x0 c0) (l : List SDeed) (v : Value) (h1 : (Kin.slice 72 sdeedKin).K (hp W) l [v]) :
    Calls Try.prog 7 #[.agg c0.toArray, v] W fun e w' => e = .returned (.bool true) ∧ Below W.heap.size W w' := by
  obtain ⟨first, size, hf, _, rfl⟩ := area_cells h0
  have fin : Calls Try.prog 7 #[.agg (areaC first size).toArray, v] W fun e w' => e = .returned (.bool true) ∧ Sat W w' [old W] := by
    by_cases hsm : SSmall l
    · exact slotPlays_all W W _ (Sat.start W) m0 first size hf v l h1 hsm
    · exact slotPlays_many W W _ (Sat.start W) m0 first size hf v l h1 hsm
  exact fin.mono fun e w' ⟨he, hs⟩ => ⟨he, hs.end_ m0⟩
end Go.Proofs.Ytfpgmnnecnaheaa
