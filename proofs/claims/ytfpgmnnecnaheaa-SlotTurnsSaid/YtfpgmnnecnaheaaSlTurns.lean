/- The walk of the law SlotTurns. -/
import Derived.Test.YtfpgmnnecnaheaaSlAwake
import Derived.Test.YtfpgmnnecnaheaaKinW
import Derived.Test.YtfpgmnnecnaheaaLift
set_option linter.unusedVariables false
set_option linter.unusedSimpArgs false
namespace Go.Proofs.Ytfpgmnnecnaheaa
open Go.RowKit
theorem u32_arg' {W : World} {n : Int} {v : Value} (h : (Kin.int .u32).K (hp W) n [v]) : ∃ m : Nat, m < 4294967296 ∧ v = .int .u32 (m : Nat) := by
  obtain ⟨e1, hn⟩ := h
  have hn' : 0 ≤ n ∧ n ≤ 4294967295 := by simpa [Lit.wf, IntKind.min, IntKind.max, IntKind.signed, IntKind.bits] using hn
  obtain ⟨m, rfl⟩ := Int.eq_ofNat_of_zero_le hn'.1
  cases e1
  exact ⟨m, by omega, rfl⟩
theorem slCode_fits {n gen : Nat} {b : List UInt8} (hn : n = 12) (hg : gen ≠ 0) (hb : b.length ≤ 200) : slCode n ((1 : Nat) : Int) ((4 : Nat) : Int) gen b = 0 := by
  have hc : (cuts b).length ≤ 4 := by rw [cuts_number _ b (Nat.le_refl _)]; omega
  unfold slCode
  rw [if_neg (by rw [hn]; intro h; rcases h with h | h; (exact absurd h (by decide)); (exact hg h)), if_neg (by omega)]
set_option maxRecDepth 100000 in
set_option maxHeartbeats 6000000 in
theorem slotTurns_walk (W w : World) (L : List HP) (hs : Sat W w L) (g : Nat) (hg : g < 4294967296) (vb vc : Value) (lb lc : List UInt8) (hb : Has L (bytesAt vb lb)) (hc : Has L (bytesAt vc lc)) :
    Calls Try.prog 5 #[.int .u32 (g : Nat), vb, vc] w fun e w' => e = .returned (.bool true) ∧ Sat W w' L := by
  obtain ⟨Ab, capb, rfl, _, _⟩ := slice_form (hs.bytes hb)
  obtain ⟨Ac, capc, rfl, _, _⟩ := slice_form (hs.bytes hc)
  by_cases hbig : 200 < lb.length
  · have hbigI : (200 : Int) < (lb.length : Int) := by omega
    go_enter Try.func5, Try.ntmps5
    go_wp2_with (first
      | (go_at_call 15; go_must (refine (awake8_spec W _ _ hs).mono ?_); clear hs; rintro e w1 ⟨rfl, hs⟩)
      | (go_at_call 16; go_must (refine (new_spec W _ _ hs 12 (by omega) (by omega)).mono ?_); clear hs; rintro e w1 ⟨b1, rfl, hs⟩))
    go_ret
    exact ⟨rfl, hs.pack (by repeat (first | with_reducible exact Pack.refl | with_reducible exact Pack.nil | with_reducible refine Pack.cons (by repeat (first | with_reducible exact Pick.here | with_reducible apply Pick.there)) ?_ | with_reducible apply Pack.drop))⟩
  have hbigI : ¬ (200 : Int) < (lb.length : Int) := by omega
  by_cases hbig2 : 200 < lc.length
  · have hbig2I : (200 : Int) < (lc.length : Int) := by omega
    go_enter Try.func5, Try.ntmps5
    go_wp2_with (first
      | (go_at_call 15; go_must (refine (awake8_spec W _ _ hs).mono ?_); clear hs; rintro e w1 ⟨rfl, hs⟩)
      | (go_at_call 16; go_must (refine (new_spec W _ _ hs 12 (by omega) (by omega)).mono ?_); clear hs; rintro e w1 ⟨b1, rfl, hs⟩))
    go_ret
    exact ⟨rfl, hs.pack (by repeat (first | with_reducible exact Pack.refl | with_reducible exact Pack.nil | with_reducible refine Pack.cons (by repeat (first | with_reducible exact Pick.here | with_reducible apply Pick.there)) ?_ | with_reducible apply Pack.drop))⟩
  have hbig2I : ¬ (200 : Int) < (lc.length : Int) := by omega
  obtain ⟨n, hn⟩ : ∃ n, 1 + g % 1073741824 = n := ⟨_, rfl⟩
  have hn1 : n ≠ 0 ∧ n ≤ 1073741824 := by omega
  have hnI : (1 : Int) + ((g : Int) % 1073741824) = (n : Int) := by omega
  have hgm : (g : Int).tmod 1073741824 = (g : Int) % 1073741824 := Int.tmod_eq_emod_of_nonneg (by omega)
  have hw1 : IntKind.u32.wrap ((1 : Int) + ((g : Int) % 1073741824)) = (n : Int) := by rw [hnI, IntKind.wrap_u32]; omega
  clear hnI
  have hw2 : IntKind.u32.wrap ((n : Int) + 1) = (n : Int) + 1 := by rw [IntKind.wrap_u32]; omega
  obtain ⟨p, hp⟩ : ∃ p, n % 2 = p := ⟨_, rfl⟩
  obtain ⟨q, hq⟩ : ∃ q, (n + 1) % 2 = q := ⟨_, rfl⟩
  have hpI : (n : Int).tmod 2 = (p : Int) := by rw [Int.tmod_eq_emod_of_nonneg (by omega), ← hp]; push_cast; rfl
  have hqI : ((n : Int) + 1).tmod 2 = (q : Int) := by rw [Int.tmod_eq_emod_of_nonneg (by omega), ← hq]; push_cast; rfl
  have hpI2 : (n : Int) % 2 = (p : Int) := by rw [← hp]; push_cast; rfl
  have hqI2 : ((n : Int) + 1) % 2 = (q : Int) := by rw [← hq]; push_cast; rfl
  have hp1 : p ≤ 1 := by omega
  have hq1 : q ≤ 1 := by omega
  have hwp : IntKind.i64.wrap (p : Int) = (p : Int) := by rw [IntKind.wrap_i64]; omega
  have hwq : IntKind.i64.wrap (q : Int) = (q : Int) := by rw [IntKind.wrap_i64]; omega
  have okN : (Dk.new 12).Ok := Dk.new_ok (by omega)
  have ok1 := save_ok okN 1 4 n lb
  have e1 : Box (slCode (Dk.new 12).secs.length ((1 : Nat) : Int) ((4 : Nat) : Int) n lb = 0) := ⟨slCode_fits new12 hn1.1 (by omega)⟩
  have hs1 : (slSave (Dk.new 12) ((1 : Nat) : Int) ((4 : Nat) : Int) n lb).secs.length = 12 := by rw [save_secs]; exact new12
  have e2 : Box (slCode (slSave (Dk.new 12) ((1 : Nat) : Int) ((4 : Nat) : Int) n lb).secs.length ((1 : Nat) : Int) ((4 : Nat) : Int) (n + 1) lc = 0) := ⟨slCode_fits hs1 (by omega) (by omega)⟩
  have r1 : (slSave (Dk.new 12) ((1 : Nat) : Int) ((4 : Nat) : Int) n lb).row.length ≤ 100000 := by
    unfold slSave; split
    · rw [slLay_rows, cutF_length]; have := cuts_count lb; simp [Dk.new]; omega
    · simp [Dk.new]
  have r2 : (slSave (slSave (Dk.new 12) ((1 : Nat) : Int) ((4 : Nat) : Int) n lb) ((1 : Nat) : Int) ((4 : Nat) : Int) (n + 1) lc).row.length ≤ 200000 := by
    have h0 : ∀ D : Dk, (slSave D ((1 : Nat) : Int) ((4 : Nat) : Int) (n + 1) lc).row.length ≤ D.row.length + 201 := fun D => by
      unfold slSave; split
      · rw [slLay_rows, cutF_length]; have := cuts_count lc; omega
      · omega
    have := h0 (slSave (Dk.new 12) ((1 : Nat) : Int) ((4 : Nat) : Int) n lb)
    omega
  have hs2 : (slSave (slSave (Dk.new 12) ((1 : Nat) : Int) ((4 : Nat) : Int) n lb) ((1 : Nat) : Int) ((4 : Nat) : Int) (n + 1) lc).secs.length = 12 := by rw [save_secs]; exact hs1
  have H2 : Box (slHas (slSave (slSave (Dk.new 12) ((1 : Nat) : Int) ((4 : Nat) : Int) n lb) ((1 : Nat) : Int) ((4 : Nat) : Int) (n + 1) lc) 1 4 q = some (n + 1, lc)) := ⟨by
    rw [← hq]
    exact slHas_save _ 1 4 (n + 1) (by omega) (by omega) lc e2.out (by omega)⟩
  have H1 : Box (slHas (slSave (slSave (Dk.new 12) ((1 : Nat) : Int) ((4 : Nat) : Int) n lb) ((1 : Nat) : Int) ((4 : Nat) : Int) (n + 1) lc) 1 4 p = some (n, lb)) := ⟨by
    rw [slHas_other _ 1 4 (n + 1) p hp1 (by omega) lc, ← hp]
    exact slHas_save _ 1 4 n hn1.1 (by omega) lb e1.out (by omega)⟩
  have M0 : Box (slMayB (Dk.new 12).secs.length ((1 : Nat) : Int) ((4 : Nat) : Int) = true) := ⟨by rw [new12]; exact may14⟩
  have M1 : Box (slMayB (slSave (Dk.new 12) ((1 : Nat) : Int) ((4 : Nat) : Int) n lb).secs.length ((1 : Nat) : Int) ((4 : Nat) : Int) = true) := ⟨by rw [hs1]; exact may14⟩
  have M2 : Box (slMayB (slSave (slSave (Dk.new 12) ((1 : Nat) : Int) ((4 : Nat) : Int) n lb) ((1 : Nat) : Int) ((4 : Nat) : Int) (n + 1) lc).secs.length ((1 : Nat) : Int) ((4 : Nat) : Int) = true) := ⟨by rw [hs2]; exact may14⟩
  generalize hD2 : slSave (slSave (Dk.new 12) ((1 : Nat) : Int) ((4 : Nat) : Int) n lb) ((1 : Nat) : Int) ((4 : Nat) : Int) (n + 1) lc = D2 at *
  generalize hD1 : slSave (Dk.new 12) ((1 : Nat) : Int) ((4 : Nat) : Int) n lb = D1 at *
  have HD1 := Box.mk hD1
  have HD2 := Box.mk hD2
  have HN := Box.mk hn1
  clear hD1 hD2 hs1 hs2 hp hq hn hn1 okN ok1
  have hb5 : lb.length ≤ 1000000 := by omega
  have hc5 : lc.length ≤ 1000000 := by omega
  have R0 : (Dk.new 12).row.length ≤ 800000 := by decide
  go_enter Try.func5, Try.ntmps5
  go_wp2_with (first
    | (go_at_call 15; go_must (refine (awake8_spec W _ _ hs).mono ?_); clear hs; rintro e w1 ⟨rfl, hs⟩)
    | (go_at_call 16; go_must (refine (new_spec W _ _ hs 12 (by omega) (by omega)).mono ?_); clear hs; rintro e w1 ⟨b1, rfl, hs⟩)
    | (go_at_call 18; go_must (refine (area_spec W _ _ hs).mono ?_); clear hs; rintro e w1 ⟨rfl, hs⟩)
    | (have hh := mark1; clear hh; go_at_call 17; go_must (refine (slsave_spec W _ _ b1 D1 (hs.pick (A := disk b1 D1) (by repeat (first | with_reducible exact Pick.here | with_reducible apply Pick.there))) 1 4 (n + 1) (by omega) (by have := HN.out; omega) M1.out _ lc (show Has _ (bytesAt _ lc) from (by (try dsimp only [List.set]); repeat (first | exact hc | apply Has.tail))) hc5 (by omega)).mono ?_); clear hs; rintro e w1 ⟨rfl, hs⟩; rw [e2.out]; rw [HD2.out] at hs)
    | (go_at_call 17; go_must (refine (slsave_spec W _ _ b1 (Dk.new 12) (hs.pick (A := disk b1 (Dk.new 12)) (by repeat (first | with_reducible exact Pick.here | with_reducible apply Pick.there))) 1 4 n (by have := HN.out; omega) (by have := HN.out; omega) M0.out _ lb (show Has _ (bytesAt _ lb) from (by (try dsimp only [List.set]); repeat (first | exact hb | apply Has.tail))) hb5 R0).mono ?_); clear hs; rintro e w1 ⟨rfl, hs⟩; rw [e1.out]; rw [HD1.out] at hs; have mark1 := trivial)
    | (have hh := mark2; clear hh; go_at_call 22; go_must (refine (slone_spec W _ _ b1 D2 (hs.pick (A := disk b1 D2) (by repeat (first | with_reducible exact Pick.here | with_reducible apply Pick.there))) 1 4 q M2.out hq1 (by omega)).mono ?_); clear hs; rintro e w1 ⟨v9, rfl, hs⟩; rw [H2.out] at hs ⊢
       obtain ⟨A9, c9, rfl, _, _⟩ := slice_form (hs.bytes (bytesH_has (l := lc) 0 rfl)))
    | (go_at_call 22; go_must (refine (slone_spec W _ _ b1 D2 (hs.pick (A := disk b1 D2) (by repeat (first | with_reducible exact Pick.here | with_reducible apply Pick.there))) 1 4 p M2.out hp1 (by omega)).mono ?_); clear hs; rintro e w1 ⟨v8, rfl, hs⟩; rw [H1.out] at hs ⊢
       obtain ⟨A8, c8, rfl, _, _⟩ := slice_form (hs.bytes (bytesH_has (l := lb) 0 rfl)); have mark2 := trivial)
    | (guard_target = wpList _ _ _ (⟨some 100, .convert _ _ _, _, _, _, _⟩ :: _) _ _; refine wpl (o := ⟨some 100, .convert _ _ _, _, _, _, _⟩) rfl fun K hK => ?_; go_must (refine op_to_string rfl Try.underlying23 Try.underlying5 Try.underlying9 rfl (hs.bytes ((show Has _ (bytesAt (.slice A8 lb.length c8) lb) from Has.mem (A := bytesH (.slice A8 lb.length c8) (slBody (some (n, lb)))) (by (try dsimp only [List.set]); repeat (first | with_reducible exact List.mem_cons_self | with_reducible apply List.mem_cons_of_mem)) fun F hF => hF))) (hK _ _ ?_)); clear hK K)
    | (guard_target = wpList _ _ _ (⟨some 102, .convert _ _ _, _, _, _, _⟩ :: _) _ _; refine wpl (o := ⟨some 102, .convert _ _ _, _, _, _, _⟩) rfl fun K hK => ?_; go_must (refine op_to_string rfl Try.underlying23 Try.underlying5 Try.underlying9 rfl (hs.bytes ((show Has _ (bytesAt _ lb) from (by (try dsimp only [List.set]); repeat (first | exact hb | apply Has.tail))))) (hK _ _ ?_)); clear hK K)
    | (guard_target = wpList _ _ _ (⟨some 107, .convert _ _ _, _, _, _, _⟩ :: _) _ _; refine wpl (o := ⟨some 107, .convert _ _ _, _, _, _, _⟩) rfl fun K hK => ?_; go_must (refine op_to_string rfl Try.underlying23 Try.underlying5 Try.underlying9 rfl (hs.bytes ((show Has _ (bytesAt (.slice A9 lc.length c9) lc) from Has.mem (A := bytesH (.slice A9 lc.length c9) (slBody (some (n + 1, lc)))) (by (try dsimp only [List.set]); repeat (first | with_reducible exact List.mem_cons_self | with_reducible apply List.mem_cons_of_mem)) fun F hF => hF))) (hK _ _ ?_)); clear hK K)
    | (guard_target = wpList _ _ _ (⟨some 109, .convert _ _ _, _, _, _, _⟩ :: _) _ _; refine wpl (o := ⟨some 109, .convert _ _ _, _, _, _, _⟩) rfl fun K hK => ?_; go_must (refine op_to_string rfl Try.underlying23 Try.underlying5 Try.underlying9 rfl (hs.bytes ((show Has _ (bytesAt _ lc) from (by (try dsimp only [List.set]); repeat (first | exact hc | apply Has.tail))))) (hK _ _ ?_)); clear hK K))
  go_ret
  exact ⟨rfl, hs.pack (by repeat (first | with_reducible exact Pack.refl | with_reducible exact Pack.nil | with_reducible refine Pack.cons (by repeat (first | with_reducible exact Pick.here | with_reducible apply Pick.there)) ?_ | with_reducible apply Pack.drop))⟩
theorem slotTurns_main (W : World) (e : Int) (v0 : Value) (h0 : (Kin.int .u32).K (hp W) e [v0]) (l1 : List UInt8) (v1 : Value) (h1 : (Kin.slice 1 Kin.u8).K (hp W) l1 [v1]) (l2 : List UInt8) (v2 : Value) (h2 : (Kin.slice 1 Kin.u8).K (hp W) l2 [v2]) :
    Calls Try.prog 5 #[v0, v1, v2] W fun e w' => e = .returned (.bool true) ∧ Below W.heap.size W w' := by
  obtain ⟨g, hg, rfl⟩ := u32_arg' h0
  exact (slotTurns_walk W W _ (Sat.start W) g hg v1 v2 l1 l2 ((has_old h1).imp fun F hF => (kin_bytes hF).1) ((has_old h2).imp fun F hF => (kin_bytes hF).1)).mono fun e w' ⟨he, hs⟩ => ⟨he, hs.end_ m0⟩
end Go.Proofs.Ytfpgmnnecnaheaa
