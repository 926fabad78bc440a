/- The example of the laws of layer 6 is true. -/
import Derived.Test.YtoedmjibhpajjaaRgNew
import Derived.Test.YtoedmjibhpajjaaRgApp
set_option linter.unusedVariables false
set_option linter.unusedSimpArgs false
namespace Go.Proofs.Ytoedmjibhpajjaa
open Go.RowKit
theorem append_room {R : Rg} {rec : List UInt8} {n : Nat} (hc : (cuts rec).length = n) (h1 : n ≤ R.free) (h2 : R.next + n ≤ 1073741824) :
    R.code rec = 0 ∧ R.told rec = R.next + n ∧ ∃ D', R.append rec = ⟨D', R.first, R.many, R.epoch, R.low, R.next + n⟩ ∧ D'.row.length = R.D.row.length + n ∧ D'.secs = R.D.secs := by
  have hcode : R.code rec = 0 := by unfold Rg.code; rw [hc, if_neg (by omega), if_neg (by omega)]
  refine ⟨hcode, by unfold Rg.told; rw [hcode, hc]; rfl, R.lay R.D (R.frames rec), by unfold Rg.append; rw [hcode, hc]; rfl, ?_, by simp⟩
  rw [Rg.lay_rows]
  have : (R.frames rec).length = n := by simp [Rg.frames, hc]
  rw [this]
theorem append_full {R : Rg} {rec : List UInt8} {n : Nat} (hc : (cuts rec).length = n) (h1 : R.free < n) : R.code rec = 3 ∧ R.told rec = 0 ∧ R.append rec = R := by
  have hcode : R.code rec = 3 := by unfold Rg.code; rw [hc, if_pos h1]
  exact ⟨hcode, by unfold Rg.told; rw [hcode]; rfl, by unfold Rg.append; rw [hcode]; rfl⟩
def z60 : List UInt8 := List.replicate 60 0
theorem cuts60 : (cuts z60).length = 2 := by rw [cuts_number _ z60 (Nat.le_refl _)]; rfl
set_option maxRecDepth 100000 in
set_option maxHeartbeats 4000000 in
theorem awake6_spec (W w : World) (L : List HP) (hs : Sat W w L) :
    Calls Try.prog 23 #[] w fun e w' => e = .returned (.bool true) ∧ Sat W w' L := by
  obtain ⟨R0, hR0⟩ : ∃ R0 : Rg, R0 = ⟨Dk.new 6, 1, 4, 7, 0, 0⟩ := ⟨_, rfl⟩
  have ok0 : R0.Ok := by rw [hR0]; exact ⟨Dk.new_ok (by omega), by decide, by simp [Dk.new], by decide, by decide, by decide, by decide⟩
  have e60 : Box (List.replicate 60 (Value.int .u8 0) = u8s z60) := ⟨by simp [u8s, z60]⟩
  obtain ⟨f1, g1, D1, a1, r1, _⟩ := append_room (R := R0) cuts60 (by rw [hR0]; simp [Rg.free]) (by rw [hR0]; simp [Rg.free])
  have ok1 := Rg.append_ok ok0 z60
  rw [a1] at ok1
  generalize hR1 : (⟨D1, R0.first, R0.many, R0.epoch, R0.low, R0.next + 2⟩ : Rg) = R1 at a1 ok1
  obtain ⟨f2, g2, D2, a2, r2, _⟩ := append_room (R := R1) cuts60 (by rw [← hR1, hR0]; simp [Rg.free]) (by rw [← hR1, hR0]; simp [Rg.free])
  have ok2 := Rg.append_ok ok1 z60
  rw [a2] at ok2
  generalize hR2 : (⟨D2, R1.first, R1.many, R1.epoch, R1.low, R1.next + 2⟩ : Rg) = R2 at a2 ok2
  obtain ⟨f3, g3, a3⟩ := append_full (R := R2) cuts60 (by rw [← hR2, ← hR1, hR0]; simp [Rg.free])
  obtain ⟨R4, hR4⟩ : ∃ R4, R2.cut 2 = R4 := ⟨_, rfl⟩
  have ok4 : R4.Ok := by rw [← hR4]; exact Rg.cut_ok ok2 2
  have e4 : R4 = ⟨R2.D, R2.first, R2.many, R2.epoch, 2, R2.next⟩ := by
    rw [← hR4]; unfold Rg.cut; rw [if_pos]; rw [← hR2, ← hR1, hR0]; simp [Rg.free]
  obtain ⟨f5, g5, D5, a5, r5, _⟩ := append_room (R := R4) cuts60 (by rw [e4, ← hR2, ← hR1, hR0]; simp [Rg.free]) (by rw [e4, ← hR2, ← hR1, hR0]; simp [Rg.free])
  have ok5 := Rg.append_ok ok4 z60
  rw [a5] at ok5
  generalize hR5 : (⟨D5, R4.first, R4.many, R4.epoch, R4.low, R4.next + 2⟩ : Rg) = R5 at a5 ok5
  have n1 : R0.told z60 = 2 := by rw [g1, hR0]
  have n2 : R1.told z60 = 4 := by rw [g2, ← hR1, hR0]
  have n5 : R4.told z60 = 6 := by rw [g5, e4, ← hR2, ← hR1, hR0]
  have free5 : R5.free = 0 := by rw [← hR5, e4, ← hR2, ← hR1, hR0]; simp [Rg.free]
  have low5 : R5.low = 2 := by rw [← hR5, e4]
  have row0 : R0.D.row.length = 0 := by rw [hR0]; rfl
  have row1 : R1.D.row.length = 2 := by rw [← hR1]; show D1.row.length = 2; rw [r1, row0]
  have row2 : R2.D.row.length = 4 := by rw [← hR2]; show D2.row.length = 4; rw [r2, row1]
  have row4 : R4.D.row.length = 4 := by rw [e4]; exact row2
  have row5 : R5.D.row.length = 6 := by rw [← hR5]; show D5.row.length = 6; rw [r5, row4]
  have d4 : R4.D = R2.D := by rw [e4]
  have hD0 : Dk.new 6 = R0.D := by rw [hR0]
  have F1 := Box.mk (And.intro f1 (And.intro n1 a1))
  have F2 := Box.mk (And.intro f2 (And.intro n2 a2))
  have F3 := Box.mk (And.intro f3 (And.intro g3 a3))
  have F4 := Box.mk (And.intro hR4 d4)
  have F5 := Box.mk (And.intro f5 (And.intro n5 a5))
  have F6 := Box.mk (And.intro free5 (And.intro low5 row5))
  have HR0 := Box.mk hR0
  have HD0 := Box.mk hD0
  have hrr : R0.D.row.length ≤ 800000 ∧ R1.D.row.length ≤ 800000 ∧ R2.D.row.length ≤ 800000 ∧ R4.D.row.length ≤ 800000 := by omega
  have HRR := Box.mk hrr
  clear f1 g1 a1 r1 f2 g2 a2 r2 f3 g3 a3 hR4 e4 f5 g5 a5 r5 n1 n2 n5 free5 low5 row0 row1 row2 row4 row5 d4 hrr hR1 hR2 hR5 hR0 hD0
  have hz : z60.length ≤ 100000 := by simp [z60]
  go_enter Try.func23, Try.ntmps23
  go_wp2_with (first
    | (go_at_call 26; go_must (refine (new_spec W _ _ hs 6 (by omega) (by omega)).mono ?_); clear hs; rintro e w1 ⟨b1, rfl, hs⟩)
    | (go_at_call 27; go_must (refine (rgnew_some W _ _ b1 (Dk.new 6) hs 1 4 7 0 0 (by decide) (by simp [Dk.new, RgMay])).mono ?_); clear hs; rintro e w1 ⟨br, rfl, hs⟩; rw [← HR0.out, HD0.out] at hs)
    | (guard_target = wpList _ _ _ (⟨some 19, .makeSlice _ _ _, _, _, _, _⟩ :: _) _ _; refine wpl (o := ⟨some 19, .makeSlice _ _ _, _, _, _, _⟩) rfl fun K hK => ?_; go_must (refine op_make hs rfl Try.underlying23 rfl rfl info_u8 rfl (n := 60) (c := 60) (by omega) (by omega) (by omega) fun b19 w1 h => hK _ _ ?_); clear hs hK K; have hs := h; clear h; rw [e60.out] at hs)
    | (guard_target = wpList _ _ _ (⟨some 25, .makeSlice _ _ _, _, _, _, _⟩ :: _) _ _; refine wpl (o := ⟨some 25, .makeSlice _ _ _, _, _, _, _⟩) rfl fun K hK => ?_; go_must (refine op_make hs rfl Try.underlying23 rfl rfl info_u8 rfl (n := 60) (c := 60) (by omega) (by omega) (by omega) fun b25 w1 h => hK _ _ ?_); clear hs hK K; have hs := h; clear h; rw [e60.out] at hs)
    | (guard_target = wpList _ _ _ (⟨some 31, .makeSlice _ _ _, _, _, _, _⟩ :: _) _ _; refine wpl (o := ⟨some 31, .makeSlice _ _ _, _, _, _, _⟩) rfl fun K hK => ?_; go_must (refine op_make hs rfl Try.underlying23 rfl rfl info_u8 rfl (n := 60) (c := 60) (by omega) (by omega) (by omega) fun b31 w1 h => hK _ _ ?_); clear hs hK K; have hs := h; clear h; rw [e60.out] at hs)
    | (guard_target = wpList _ _ _ (⟨some 39, .makeSlice _ _ _, _, _, _, _⟩ :: _) _ _; refine wpl (o := ⟨some 39, .makeSlice _ _ _, _, _, _, _⟩) rfl fun K hK => ?_; go_must (refine op_make hs rfl Try.underlying23 rfl rfl info_u8 rfl (n := 60) (c := 60) (by omega) (by omega) (by omega) fun b39 w1 h => hK _ _ ?_); clear hs hK K; have hs := h; clear h; rw [e60.out] at hs)
    | (have hh : b39 = b39 := rfl; clear hh; go_at_call 24; go_must (refine (append_spec W _ _ br b1 R4 ok4 ((hs.pick (A := rg br b1 R4) (by repeat (first | with_reducible exact Pick.here | with_reducible apply Pick.there))).pick (A := disk b1 R4.D) (by repeat (first | with_reducible exact Pick.here | with_reducible apply Pick.there))) _ z60 (lit_bytes 0 rfl 60 rfl (by omega)) hz HRR.out.2.2.2).mono ?_); clear hs; rintro e w1 ⟨rfl, hs⟩; rw [F5.out.1, F5.out.2.1]; rw [F5.out.2.2] at hs)
    | (have hh : b31 = b31 := rfl; clear hh; go_at_call 24; go_must (refine (append_spec W _ _ br b1 R2 ok2 ((hs.pick (A := rg br b1 R2) (by repeat (first | with_reducible exact Pick.here | with_reducible apply Pick.there))).pick (A := disk b1 R2.D) (by repeat (first | with_reducible exact Pick.here | with_reducible apply Pick.there))) _ z60 (lit_bytes 0 rfl 60 rfl (by omega)) hz HRR.out.2.2.1).mono ?_); clear hs; rintro e w1 ⟨rfl, hs⟩; rw [F3.out.1, F3.out.2.1]; rw [F3.out.2.2] at hs)
    | (have hh : b25 = b25 := rfl; clear hh; go_at_call 24; go_must (refine (append_spec W _ _ br b1 R1 ok1 ((hs.pick (A := rg br b1 R1) (by repeat (first | with_reducible exact Pick.here | with_reducible apply Pick.there))).pick (A := disk b1 R1.D) (by repeat (first | with_reducible exact Pick.here | with_reducible apply Pick.there))) _ z60 (lit_bytes 0 rfl 60 rfl (by omega)) hz HRR.out.2.1).mono ?_); clear hs; rintro e w1 ⟨rfl, hs⟩; rw [F2.out.1, F2.out.2.1]; rw [F2.out.2.2] at hs)
    | (go_at_call 24; go_must (refine (append_spec W _ _ br b1 R0 ok0 ((hs.pick (A := rg br b1 R0) (by repeat (first | with_reducible exact Pick.here | with_reducible apply Pick.there))).pick (A := disk b1 R0.D) (by repeat (first | with_reducible exact Pick.here | with_reducible apply Pick.there))) _ z60 (lit_bytes 0 rfl 60 rfl (by omega)) hz HRR.out.1).mono ?_); clear hs; rintro e w1 ⟨rfl, hs⟩; rw [F1.out.1, F1.out.2.1]; rw [F1.out.2.2] at hs)
    | (go_at_call 25; go_must (refine (truncate_spec W _ _ br b1 R2 (hs.pick (A := rg br b1 R2) (by repeat (first | with_reducible exact Pick.here | with_reducible apply Pick.there))) 2).mono ?_); clear hs; rintro e w1 ⟨⟨_, rfl⟩, hs⟩; rw [F4.out.1, ← F4.out.2] at hs)
    | (go_at_call 30; go_must (refine (rfree_spec W _ _ hs br b1 R5 ok5 (by (try dsimp only [List.set]); repeat (first | with_reducible exact List.mem_cons_self | with_reducible apply List.mem_cons_of_mem))).mono ?_); clear hs; rintro e w1 ⟨rfl, hs⟩; rw [F6.out.1])
    | (go_at_call 28; go_must (refine (rlow_spec W _ _ hs br b1 R5 (by (try dsimp only [List.set]); repeat (first | with_reducible exact List.mem_cons_self | with_reducible apply List.mem_cons_of_mem))).mono ?_); clear hs; rintro e w1 ⟨rfl, hs⟩; rw [F6.out.2.1])
    | (go_at_call 34; go_must (refine (pending_spec W _ _ b1 R5.D (hs.pick (A := disk b1 R5.D) (by repeat (first | with_reducible exact Pick.here | with_reducible apply Pick.there)))).mono ?_); clear hs; rintro e w1 ⟨rfl, hs⟩; rw [F6.out.2.2]))
  go_ret
  exact ⟨rfl, hs.pack (by repeat (first | with_reducible exact Pack.refl | with_reducible exact Pack.nil | with_reducible refine Pack.cons (by repeat (first | with_reducible exact Pick.here | with_reducible apply Pick.there)) ?_ | with_reducible apply Pack.drop))⟩
end Go.Proofs.Ytoedmjibhpajjaa
