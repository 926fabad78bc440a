/- The walk of the law RingNobody. -/
import Derived.Test.YtoedmjibhpajjaaRgAwake
import Derived.Test.YtoedmjibhpajjaaRCut
import Derived.Test.YtoedmjibhpajjaaRgStart
set_option linter.unusedVariables false
set_option linter.unusedSimpArgs false
namespace Go.Proofs.Ytoedmjibhpajjaa
open Go.RowKit
theorem cuts_nil : (cuts []).length = 1 := by rw [cuts_last (by simp)]; rfl
set_option maxRecDepth 100000 in
set_option maxHeartbeats 4000000 in
theorem ringNobody_walk (W w : World) (L : List HP) (hs : Sat W w L) (first many : Int) (epoch low next : Nat) (v : Value) (rec : List UInt8) (hv : Has L (bytesAt v rec)) :
    Calls Try.prog 9 #[.agg (startCells first many epoch low next).toArray, v] w fun e w' => e = .returned (.bool true) ∧ Sat W w' L := by
  obtain ⟨A, cap, rfl, hc1, hc2⟩ := slice_form (hs.bytes hv)
  have hcn : Box ((cuts ([] : List UInt8)).length = 1) := ⟨cuts_nil⟩
  have n12 : (Dk.new 12).secs.length = 12 := by simp [Dk.new]
  go_enter Try.func9, Try.ntmps9
  go_wp2_with (first
    | (guard_target = wpList _ _ _ (⟨some 2, .box _ _, _, _, _, _⟩ :: _) _ _; refine wpl (o := ⟨some 2, .box _ _, _, _, _, _⟩) rfl fun K hK => ?_; go_must (refine op_box hs rfl _ rfl (startCells first many epoch low next) rfl fun b2 w1 h => hK _ _ ?_); clear hs hK K; have hs := h; clear h; try dsimp only [List.set] at hs)
    | (go_at_call 23; go_must (refine (awake6_spec W _ _ hs).mono ?_); clear hs; rintro e w1 ⟨rfl, hs⟩)
    | (go_at_call 24; go_must (refine (append_nil W _ _ hs _).mono ?_); clear hs; rintro e w1 ⟨rfl, hs⟩)
    | (go_at_call 25; go_must (refine (truncate_nil W _ _ hs _).mono ?_); clear hs; rintro e w1 ⟨⟨_, rfl⟩, hs⟩)
    | (go_at_call 26; go_must (refine (new_spec W _ _ hs 12 (by omega) (by omega)).mono ?_); clear hs; rintro e w1 ⟨b1, rfl, hs⟩)
    | (have hh := mark3; clear hh; go_at_call 27; go_must (refine (rgnew_none W _ _ b1 (Dk.new 12) hs 0 4 0 0 5 (by omega) (by omega) (by omega) (by simp [RgMay])).mono ?_); clear hs; rintro e w1 ⟨rfl, hs⟩; have mark4 := trivial)
    | (have hh := mark2; clear hh; go_at_call 27; go_must (refine (rgnew_none W _ _ b1 (Dk.new 12) hs 0 4 0 5 4 (by omega) (by omega) (by omega) (by simp [RgMay])).mono ?_); clear hs; rintro e w1 ⟨rfl, hs⟩; have mark3 := trivial)
    | (have hh := mark1; clear hh; go_at_call 27; go_must (refine (rgnew_none W _ _ b1 (Dk.new 12) hs 9 4 0 0 0 (by omega) (by omega) (by omega) (by simp [Dk.new, RgMay])).mono ?_); clear hs; rintro e w1 ⟨rfl, hs⟩; have mark2 := trivial)
    | (go_at_call 27; go_must (refine (rgnew_nil W _ _ hs 0 4 0 0 0).mono ?_); clear hs; rintro e w1 ⟨rfl, hs⟩; have mark1 := trivial)
    | (go_at_call 28; go_must (refine (rlow_nil W _ _ hs).mono ?_); clear hs; rintro e w1 ⟨rfl, hs⟩)
    | (go_at_call 29; go_must (refine (rnext_nil W _ _ hs).mono ?_); clear hs; rintro e w1 ⟨rfl, hs⟩)
    | (go_at_call 30; go_must (refine (rfree_nil W _ _ hs).mono ?_); clear hs; rintro e w1 ⟨rfl, hs⟩; have k74 : w1.cell? ⟨b2, 3, none⟩ = some (.int .u32 (low : Nat)) := hs.cell (l := startCells first many epoch low next) (t := 50) (by (try dsimp only [List.set]); repeat (first | with_reducible exact List.mem_cons_self | with_reducible apply List.mem_cons_of_mem)) rfl)
    | (guard_target = wpList _ _ _ (⟨some 74, .load _ _, _, _, _, _⟩ :: _) _ _; refine wpl (o := ⟨some 74, .load _ _, _, _, _, _⟩) rfl fun K hK => op_load rfl (ad := ⟨b2, 3, none⟩) rfl (by kernel_rfl) k74 (hK _ _ ?_); clear hK K)
    | (go_at_call 31; go_must (refine (at_none W _ _ hs 0 0 0 (by omega) _).mono ?_); clear hs; rintro e w1 ⟨rfl, hs⟩)
    | (go_at_call 22; go_must (refine (rcut_spec W _ _ hs 1 1 (by omega) (by omega) [] (by simp)).mono ?_); clear hs; rintro e w1 ⟨v79, rfl, hs⟩; rw [hcn.out] at hs
       obtain ⟨A79, c79, rfl, _, _⟩ := own_slice hs (i := 0) rfl))
  go_ret
  exact ⟨rfl, hs.pack (by repeat (first | with_reducible exact Pack.refl | with_reducible exact Pack.nil | with_reducible refine Pack.cons (by repeat (first | with_reducible exact Pick.here | with_reducible apply Pick.there)) ?_ | with_reducible apply Pack.drop))⟩
theorem ringNobody_main (W : World) (x0 : StartTup) (c0 : List Value) (h0 : startKin.K (hp W) x0 c0) (l : List UInt8) (v : Value) (h1 : (Kin.slice 1 Kin.u8).K (hp W) l [v]) :
    Calls Try.prog 9 #[.agg c0.toArray, v] W fun e w' => e = .returned (.bool true) ∧ Below W.heap.size W w' := by
  obtain ⟨first, many, epoch, low, next, _, _, _, _, _, rfl⟩ := start_cells h0
  obtain ⟨hb, hl⟩ := kin_bytes h1
  exact (ringNobody_walk W W _ (Sat.start W) first many epoch low next v l ((has_old h1).imp fun F hF => (kin_bytes hF).1)).mono fun e w' ⟨he, hs⟩ => ⟨he, hs.end_ m0⟩
end Go.Proofs.Ytoedmjibhpajjaa
