/- The walk of the law SlotNone. -/
import Derived.Test.YtfpgmnnecnaheaaSlAwake
import Derived.Test.YtfpgmnnecnaheaaKinW
import Derived.Test.YtfpgmnnecnaheaaLift
set_option linter.unusedVariables false
set_option linter.unusedSimpArgs false
namespace Go.Proofs.Ytfpgmnnecnaheaa
open Go.RowKit
theorem may54 : slMayB 12 5 4 = false := by decide
theorem load_new : slLoadO (slHas (Dk.new 12) 1 4 0) (slHas (Dk.new 12) 1 4 1) = none := by rw [slHas_new 1 4 0 (by decide), slHas_new 1 4 1 (by decide)]; rfl
set_option maxRecDepth 100000 in
set_option maxHeartbeats 4000000 in
theorem slotNone_walk (W w : World) (L : List HP) (hs : Sat W w L) (first size : Int) (hfi : first < 9223372036854775808) (v : Value) (l : List UInt8) (hv : Has L (bytesAt v l)) :
    Calls Try.prog 8 #[.agg (areaC first size).toArray, v] w fun e w' => e = .returned (.bool true) ∧ Sat W w' L := by
  obtain ⟨A, cap, rfl, _, _⟩ := slice_form (hs.bytes hv)
  by_cases hbig : 200 < l.length
  · have hbigI : (200 : Int) < (l.length : Int) := by omega
    go_enter Try.func8, Try.ntmps8
    go_wp2_with (first
      | (guard_target = wpList _ _ _ (⟨some 2, .box _ _, _, _, _, _⟩ :: _) _ _; refine wpl (o := ⟨some 2, .box _ _, _, _, _, _⟩) rfl fun K hK => ?_; go_must (refine op_box hs rfl _ rfl (areaC first size) rfl fun b2 w1 h => hK _ _ ?_); clear hs hK K; have hs := h; clear h; try dsimp only [List.set] at hs)
      | (go_at_call 15; go_must (refine (awake8_spec W _ _ hs).mono ?_); clear hs; rintro e w1 ⟨rfl, hs⟩)
      | (go_at_call 16; go_must (refine (new_spec W _ _ hs 12 (by omega) (by omega)).mono ?_); clear hs; rintro e w1 ⟨b1, rfl, hs⟩))
    go_ret
    exact ⟨rfl, hs.pack (by repeat (first | with_reducible exact Pack.refl | with_reducible exact Pack.nil | with_reducible refine Pack.cons (by repeat (first | with_reducible exact Pick.here | with_reducible apply Pick.there)) ?_ | with_reducible apply Pack.drop))⟩
  · have hbigI : ¬ (200 : Int) < (l.length : Int) := by omega
    have M1 : Box (slMayB (Dk.new 12).secs.length ((1 : Nat) : Int) ((4 : Nat) : Int) = true) := ⟨by rw [new12]; exact may14⟩
    have M5 : Box (slMayB (Dk.new 12).secs.length 5 4 = false) := ⟨by rw [new12]; exact may54⟩
    have LD := Box.mk load_new
    have R0 : (Dk.new 12).row.length ≤ 1000000 := by decide
    have R00 : Box ((Dk.new 12).row.length = 0) := ⟨rfl⟩
    go_enter Try.func8, Try.ntmps8
    go_wp2_with (first
      | (guard_target = wpList _ _ _ (⟨some 2, .box _ _, _, _, _, _⟩ :: _) _ _; refine wpl (o := ⟨some 2, .box _ _, _, _, _, _⟩) rfl fun K hK => ?_; go_must (refine op_box hs rfl _ rfl (areaC first size) rfl fun b2 w1 h => hK _ _ ?_); clear hs hK K; have hs := h; clear h; try dsimp only [List.set] at hs)
      | (go_at_call 15; go_must (refine (awake8_spec W _ _ hs).mono ?_); clear hs; rintro e w1 ⟨rfl, hs⟩)
      | (go_at_call 16; go_must (refine (new_spec W _ _ hs 12 (by omega) (by omega)).mono ?_); clear hs; rintro e w1 ⟨b1, rfl, hs⟩)
      | (go_at_call 18; go_must (refine (area_spec W _ _ hs).mono ?_); clear hs; rintro e w1 ⟨rfl, hs⟩)
      | (guard_target = wpList _ _ _ (⟨some 56, .load _ _, _, _, _, _⟩ :: _) _ _; refine wpl (o := ⟨some 56, .load _ _, _, _, _, _⟩) rfl fun K hK => op_load_agg rfl (b := b2) (i := 0) rfl (areaC first size) (range_whole hs (by (try dsimp only [List.set]); repeat (first | with_reducible exact List.mem_cons_self | with_reducible apply List.mem_cons_of_mem))) (by kernel_rfl) (by kernel_rfl) (hK _ _ ?_); clear hK K)
      | (guard_target = wpList _ _ _ (⟨some 61, .load _ _, _, _, _, _⟩ :: _) _ _; refine wpl (o := ⟨some 61, .load _ _, _, _, _, _⟩) rfl fun K hK => op_load_agg rfl (b := b2) (i := 0) rfl (areaC first size) (range_whole hs (by (try dsimp only [List.set]); repeat (first | with_reducible exact List.mem_cons_self | with_reducible apply List.mem_cons_of_mem))) (by kernel_rfl) (by kernel_rfl) (hK _ _ ?_); clear hK K)
      | (have hh := mark4; clear hh; go_at_call 17; go_must (refine (slsave_nil W _ _ hs first size hfi 1 _).mono ?_); clear hs; rintro e w1 ⟨rfl, hs⟩)
      | (have hh := mark3; clear hh; go_at_call 19; go_must (refine (slload_nil W _ _ hs first size hfi).mono ?_); clear hs; rintro e w1 ⟨v3, rfl, hs⟩; rw [show slGen none = 0 from rfl, show (none : Option (Nat × List UInt8)).isSome = false from rfl]
         obtain ⟨A3, c3, rfl, _, _⟩ := slice_form (hs.bytes (bytesH_has 0 rfl)); have mark4 := trivial)
      | (have hh := mark2; clear hh; go_at_call 17; go_must (refine (slsave_arg W _ _ b1 (Dk.new 12) (hs.pick (A := disk b1 (Dk.new 12)) (by repeat (first | with_reducible exact Pick.here | with_reducible apply Pick.there))) 5 4 (by omega) 1 _ (.inl M5.out)).mono ?_); clear hs; rintro e w1 ⟨rfl, hs⟩; have mark3 := trivial)
      | (have hh := mark1; clear hh; go_at_call 19; go_must (refine (slload_none W _ _ b1 (Dk.new 12) (hs.pick (A := disk b1 (Dk.new 12)) (by repeat (first | with_reducible exact Pick.here | with_reducible apply Pick.there))) 5 4 (by omega) M5.out).mono ?_); clear hs; rintro e w1 ⟨v2, rfl, hs⟩; rw [show slGen none = 0 from rfl, show (none : Option (Nat × List UInt8)).isSome = false from rfl]
         obtain ⟨A2, c2, rfl, _, _⟩ := slice_form (hs.bytes (bytesH_has 0 rfl)); have mark2 := trivial)
      | (go_at_call 17; go_must (refine (slsave_arg W _ _ b1 (Dk.new 12) (hs.pick (A := disk b1 (Dk.new 12)) (by repeat (first | with_reducible exact Pick.here | with_reducible apply Pick.there))) 1 4 (by omega) 0 _ (.inr rfl)).mono ?_); clear hs; rintro e w1 ⟨rfl, hs⟩; have mark1 := trivial)
      | (go_at_call 19; go_must (refine (slload_spec W _ _ b1 (Dk.new 12) (hs.pick (A := disk b1 (Dk.new 12)) (by repeat (first | with_reducible exact Pick.here | with_reducible apply Pick.there))) 1 4 M1.out R0).mono ?_); clear hs; rintro e w1 ⟨v1, rfl, hs⟩; rw [LD.out] at hs ⊢; rw [show slGen none = 0 from rfl, show (none : Option (Nat × List UInt8)).isSome = false from rfl]
         obtain ⟨A1, c1, rfl, _, _⟩ := slice_form (hs.bytes (bytesH_has 0 rfl)))
      | (go_at_call 33; go_must (refine (pending_spec W _ _ b1 (Dk.new 12) (hs.pick (A := disk b1 (Dk.new 12)) (by repeat (first | with_reducible exact Pick.here | with_reducible apply Pick.there)))).mono ?_); clear hs; rintro e w1 ⟨rfl, hs⟩; rw [R00.out]))
    go_ret
    exact ⟨rfl, hs.pack (by repeat (first | with_reducible exact Pack.refl | with_reducible exact Pack.nil | with_reducible refine Pack.cons (by repeat (first | with_reducible exact Pick.here | with_reducible apply Pick.there)) ?_ | with_reducible apply Pack.drop))⟩
abbrev AreaTup := Int × Int × Unit
def areaKin : Kin AreaTup := Kin.pair (Kin.int .i64) (Kin.pair (Kin.int .i64) Kin.unit)
theorem fits_area : Fits Try.prog 31 areaKin :=
  fits_struct Try.underlying31 (by kernel_rfl)
    (fitsL_cons rfl (fits_int Try.underlying3 (by kernel_rfl))
      (fitsL_cons rfl (fits_int Try.underlying3 (by kernel_rfl))
        (fitsL_nil _)))
theorem i64_lit' {n : Int} (hn : (Lit.int .i64 n).wf = true) : n < 9223372036854775808 := by
  have hn' : -9223372036854775808 ≤ n ∧ n ≤ 9223372036854775807 := by simpa [Lit.wf, IntKind.min, IntKind.max, IntKind.signed, IntKind.bits] using hn
  omega
theorem area_cells {F : PH} {c : AreaTup} {cs : List Value} (h : areaKin.K F c cs) : ∃ first size : Int, first < 9223372036854775808 ∧ size < 9223372036854775808 ∧ cs = areaC first size := by
  obtain ⟨f, m, u⟩ := c
  obtain ⟨a1, b1, rfl, ⟨rfl, hf⟩, a2, b2, rfl, ⟨rfl, hm⟩, h4⟩ := h
  cases h4
  exact ⟨f, m, i64_lit' hf, i64_lit' hm, rfl⟩
theorem slotNone_main (W : World) (x0 : AreaTup) (c0 : List Value) (h0 : areaKin.K (hp W) x0 c0) (l : List UInt8) (v : Value) (h1 : (Kin.slice 1 Kin.u8).K (hp W) l [v]) :
    Calls Try.prog 8 #[.agg c0.toArray, v] W fun e w' => e = .returned (.bool true) ∧ Below W.heap.size W w' := by
  obtain ⟨first, size, hf, _, rfl⟩ := area_cells h0
  exact (slotNone_walk W W _ (Sat.start W) first size hf v l ((has_old h1).imp fun F hF => (kin_bytes hF).1)).mono fun e w' ⟨he, hs⟩ => ⟨he, hs.end_ m0⟩
end Go.Proofs.Ytfpgmnnecnaheaa
