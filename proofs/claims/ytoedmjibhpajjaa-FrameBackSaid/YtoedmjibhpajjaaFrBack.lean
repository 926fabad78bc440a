/- The walk of the law FrameBack. (Printed by wip/genback.py.) -/
import Derived.Test.YtoedmjibhpajjaaFrTells
set_option linter.unusedVariables false
set_option linter.unusedSimpArgs false
namespace Go.Proofs.Ytoedmjibhpajjaa
open Go.RowKit
theorem sector_small (f : Fr) : f.sector.length ≤ 64 := by
  unfold Fr.sector
  split
  · rw [Fr.pack_length (by assumption)]; omega
  · simp
theorem parse_ok (l : List UInt8) : (Fr.parse l).Ok := by
  unfold Fr.parse
  split
  · exact Fr.told_ok l
  · exact ⟨by decide, by decide⟩
theorem code_nil : Fr.code [] = 2 := rfl
set_option maxRecDepth 100000 in
set_option maxHeartbeats 4000000 in
theorem frameBack_early1 (W w : World) (L : List HP) (hs : Sat W w L) (f : Fr) (Af : Option Addr) (cf : Nat) (hf : Has L (bytesAt (.slice Af f.body.length cf) f.body)) (l : List UInt8) (Al : Option Addr) (cl : Nat) (hb : (200 : Int) < (f.body.length : Int)) :
    Calls Try.prog 5 #[.agg (frCells f (.slice Af f.body.length cf)).toArray, .slice Al l.length cl] w fun e w' => e = .returned (.bool true) ∧ Sat W w' L := by
  go_enter Try.func5, Try.ntmps5
  go_wp2_with (first
    | (refine wpl (o := ⟨some 2, .box _ _, _, _, _, _⟩) rfl fun K hK => ?_; go_must (refine op_box hs rfl _ rfl (frCells f (.slice Af f.body.length cf)) rfl fun b2 w1 h => hK _ _ ?_); clear hs hK K; have hs := h; clear h; try dsimp only [List.set] at hs)
    | (go_at_call 15; go_must (refine (awake5_spec W _ _ hs).mono ?_); clear hs; rintro e w1 ⟨rfl, hs⟩; have k16 : w1.cell? ⟨b2, 3, none⟩ = some (.slice Af f.body.length cf) := hs.cell m0 rfl)
    | (refine wpl (o := ⟨some 16, .load _ _, _, _, _, _⟩) rfl fun K hK => op_load rfl (ad := ⟨b2, 3, none⟩) rfl (by kernel_rfl) k16 (hK _ _ ?_); clear hK K))
  go_ret
  exact ⟨rfl, hs.tail⟩
set_option maxRecDepth 100000 in
set_option maxHeartbeats 4000000 in
theorem frameBack_early2 (W w : World) (L : List HP) (hs : Sat W w L) (f : Fr) (Af : Option Addr) (cf : Nat) (hf : Has L (bytesAt (.slice Af f.body.length cf) f.body)) (l : List UInt8) (Al : Option Addr) (cl : Nat) (hb : ¬ (200 : Int) < (f.body.length : Int)) (hb2 : (200 : Int) < (l.length : Int)) :
    Calls Try.prog 5 #[.agg (frCells f (.slice Af f.body.length cf)).toArray, .slice Al l.length cl] w fun e w' => e = .returned (.bool true) ∧ Sat W w' L := by
  go_enter Try.func5, Try.ntmps5
  go_wp2_with (first
    | (refine wpl (o := ⟨some 2, .box _ _, _, _, _, _⟩) rfl fun K hK => ?_; go_must (refine op_box hs rfl _ rfl (frCells f (.slice Af f.body.length cf)) rfl fun b2 w1 h => hK _ _ ?_); clear hs hK K; have hs := h; clear h; try dsimp only [List.set] at hs)
    | (go_at_call 15; go_must (refine (awake5_spec W _ _ hs).mono ?_); clear hs; rintro e w1 ⟨rfl, hs⟩; have k16 : w1.cell? ⟨b2, 3, none⟩ = some (.slice Af f.body.length cf) := hs.cell m0 rfl)
    | (refine wpl (o := ⟨some 16, .load _ _, _, _, _, _⟩) rfl fun K hK => op_load rfl (ad := ⟨b2, 3, none⟩) rfl (by kernel_rfl) k16 (hK _ _ ?_); clear hK K))
  go_ret
  exact ⟨rfl, hs.tail⟩
set_option maxRecDepth 100000 in
set_option maxHeartbeats 4000000 in
theorem frameBack_AB (W w : World) (L : List HP) (hs : Sat W w L) (f : Fr) (ok : f.Ok) (Af : Option Addr) (cf : Nat) (hf : Has L (bytesAt (.slice Af f.body.length cf) f.body)) (l : List UInt8) (Al : Option Addr) (cl : Nat) (hl : Has L (bytesAt (.slice Al l.length cl) l)) (hbigI : ¬ (200 : Int) < (f.body.length : Int)) (hbigI2 : ¬ (200 : Int) < (l.length : Int)) (h50I : (f.body.length : Int) ≤ 50) (hsc : Box (f.scode = 0)) (hcx : Box (Fr.code f.sector = 0)) (hpx : Box (Fr.parse f.sector = f)) (hcl : Box (Fr.code l = 0)) (hsc2 : Box ((Fr.parse l).scode = 0)) (hsec : Box ((Fr.parse l).sector = l)) :
    Calls Try.prog 5 #[.agg (frCells f (.slice Af f.body.length cf)).toArray, .slice Al l.length cl] w fun e w' => e = .returned (.bool true) ∧ Sat W w' L := by
  have hss := sector_small f
  have hll : l.length ≤ 200 := by omega
  have hne := fun w => run_equal_rframe f f w
  rw [Fr.same_refl] at hne
  go_enter Try.func5, Try.ntmps5
  go_wp2_with (first
    | (refine wpl (o := ⟨some 2, .box _ _, _, _, _, _⟩) rfl fun K hK => ?_; go_must (refine op_box hs rfl _ rfl (frCells f (.slice Af f.body.length cf)) rfl fun b2 w1 h => hK _ _ ?_); clear hs hK K; have hs := h; clear h; try dsimp only [List.set] at hs)
    | (go_at_call 15; go_must (refine (awake5_spec W _ _ hs).mono ?_); clear hs; rintro e w1 ⟨rfl, hs⟩; have k16 : w1.cell? ⟨b2, 3, none⟩ = some (.slice Af f.body.length cf) := hs.cell m0 rfl)
    | (refine wpl (o := ⟨some 16, .load _ _, _, _, _, _⟩) rfl fun K hK => op_load rfl (ad := ⟨b2, 3, none⟩) rfl (by kernel_rfl) k16 (hK _ _ ?_); clear hK K)
    | (refine wpl (o := ⟨some 26, .load _ _, _, _, _, _⟩) rfl fun K hK => op_load_agg rfl (b := b2) (i := 0) rfl (frCells f (.slice Af f.body.length cf)) (range_whole hs (by (try dsimp only [List.set]); repeat (first | with_reducible exact List.mem_cons_self | with_reducible apply List.mem_cons_of_mem))) (by kernel_rfl) (by kernel_rfl) (hK _ _ ?_); clear hK K)
    | (go_at_call 16; go_must (refine (fpack_any W _ _ hs f ok _ hf.tail).mono ?_); clear hs; rintro e w1 ⟨v1, rfl, hs⟩; rw [hsc.out]
       obtain ⟨A1, c1, rfl, _, _⟩ := slice_form (hs.bytes (bytesH_has 0 rfl)))
    | (go_at_call 19; go_must (refine (fparse_spec W _ _ hs _ f.sector (bytesH_has 0 rfl) (by omega)).mono ?_); clear hs; rintro e w1 ⟨vx, rfl, hs⟩; rw [hcx.out]; rw [hpx.out]; rw [hpx.out] at hs
       obtain ⟨Ax, cx, rfl, _, _⟩ := slice_form (hs.bytes (bytesH_has 0 rfl)))
    | (refine wpl (o := ⟨some 8, .alloc _, _, _, _, _⟩) rfl fun K hK => ?_; go_must (refine op_alloc hs rfl _ zframe [.int .u32 0, .int .u32 0, .int .u8 0, .slice none 0 0] rfl fun b8 w1 h => hK _ _ ?_); clear hs hK K; have hs := h; clear h; try dsimp only [List.set] at hs)
    | (refine wpl (o := ⟨none, .store _ (.tmp 8) _, _, _, _, _⟩) rfl fun K hK => ?_; go_must (refine op_store_whole hs (b := b8) rfl rfl (frCells f (.slice Ax f.body.length cx)) rfl (by simp [frCells, Value.oneCell']) (by kernel_rfl) (k := 0) rfl rfl fun w3 h => hK _ _ ?_); clear hs hK K; have hs := h; clear h; try dsimp only [List.set] at hs))
  obtain ⟨M, hM, hs⟩ : ∃ M, M = _ ∧ Sat W _ M := ⟨_, rfl, hs⟩
  have k38 : ∀ w, Sat W w M → w.cell? ⟨b2, 3, none⟩ = some (.slice Af f.body.length cf) := fun w h => h.cell (l := frCells f (.slice Af f.body.length cf)) (t := 25) (by rw [hM]; exact (by (try dsimp only [List.set]); repeat (first | with_reducible exact List.mem_cons_self | with_reducible apply List.mem_cons_of_mem))) rfl
  have d1 : ∀ w, Sat W w M → w.rangeAt b8 0 (frCells f (.slice Ax f.body.length cx)) := fun w h => range_whole h (by rw [hM]; exact (by (try dsimp only [List.set]); repeat (first | with_reducible exact List.mem_cons_self | with_reducible apply List.mem_cons_of_mem)))
  have d2 : ∀ w, Sat W w M → w.rangeAt b2 0 (frCells f (.slice Af f.body.length cf)) := fun w h => range_whole h (by rw [hM]; exact (by (try dsimp only [List.set]); repeat (first | with_reducible exact List.mem_cons_self | with_reducible apply List.mem_cons_of_mem)))
  have oF : ∀ w, Sat W w M → Calls Try.prog 18 #[.agg (frCells f (.slice Ax f.body.length cx)).toArray] w fun e w' => e = .returned (.agg (rCells f).toArray) ∧ Sat W w' M := fun w h => real_spec W w M h f _ (by rw [hM]; exact bytesH_mem (by (try dsimp only [List.set]); repeat (first | with_reducible exact List.mem_cons_self | with_reducible apply List.mem_cons_of_mem)))
  have oG : ∀ w, Sat W w M → Calls Try.prog 18 #[.agg (frCells f (.slice Af f.body.length cf)).toArray] w fun e w' => e = .returned (.agg (rCells f).toArray) ∧ Sat W w' M := fun w h => real_spec W w M h f _ (by rw [hM]; exact hf.tail.tail.tail.tail)
  have oF_ := Box.mk oF
  clear oF
  have oF := oF_
  clear oF_
  have oG_ := Box.mk oG
  clear oG
  have oG := oG_
  clear oG_
  have hM_ := Box.mk hM
  clear hM
  have hM := hM_
  clear hM_
  refine wp_region_quiet (C := fun w' => Sat W w' M) (by kernel_rfl) (by kernel_rfl) hs.drew ?_
  have hq := sat_const hs
  repeat (first
    | (with_reducible refine quiet_load (o := ⟨some 38, .load _ _, _, _, _, _⟩) rfl rfl rfl rfl k38 ?_)
    | ((with_reducible refine quiet_load_agg (o := ⟨some 53, .load _ _, _, _, _, _⟩) (frCells f (.slice Ax f.body.length cx)) rfl rfl rfl ?_ ?_ d1 ?_); (kernel_rfl); (kernel_rfl))
    | ((with_reducible refine quiet_load_agg (o := ⟨some 55, .load _ _, _, _, _, _⟩) (frCells f (.slice Af f.body.length cf)) rfl rfl rfl ?_ ?_ d2 ?_); (kernel_rfl); (kernel_rfl))
    | (refine wpQuiet_step (fun K hK => ?_); go_simp; first
        | (with_reducible refine hK _ ?_; clear hK K)
        | (apply Exists.intro; refine ⟨fun w5 h5 => ?_, hK _ ?_⟩; (first | with_reducible exact oF.out w5 h5 | with_reducible exact oG.out w5 h5); clear hK K)))
  refine wpQuiet_nil ?_
  intro w8 hs8
  clear hs
  rw [hM.out] at hs8
  have hs := hs8
  clear hs8
  go_wp2_with (first
    | (go_at_call 19; go_must (refine (fparse_spec W _ _ hs _ l hl.tail.tail.tail.tail (by omega)).mono ?_); clear hs; rintro e w1 ⟨vy, rfl, hs⟩; rw [hcl.out]
       obtain ⟨Ay, cy, rfl, _, _⟩ := slice_form (hs.bytes (bytesH_has 0 rfl)))
    | (refine wpl (o := ⟨some 10, .alloc _, _, _, _, _⟩) rfl fun K hK => ?_; go_must (refine op_alloc hs rfl _ zframe [.int .u32 0, .int .u32 0, .int .u8 0, .slice none 0 0] rfl fun b10 w1 h => hK _ _ ?_); clear hs hK K; have hs := h; clear h; try dsimp only [List.set] at hs)
    | (refine wpl (o := ⟨none, .store _ (.tmp 10) _, _, _, _, _⟩) rfl fun K hK => ?_; go_must (refine op_store_whole hs (b := b10) rfl rfl (frCells (Fr.parse l) (.slice Ay (Fr.parse l).body.length cy)) rfl (by simp [frCells, Value.oneCell']) (by kernel_rfl) (k := 0) rfl rfl fun w3 h => hK _ _ ?_); clear hs hK K; have hs := h; clear h; try dsimp only [List.set] at hs)
    | (refine wpl (o := ⟨some 66, .load _ _, _, _, _, _⟩) rfl fun K hK => op_load_agg rfl (b := b10) (i := 0) rfl (frCells (Fr.parse l) (.slice Ay (Fr.parse l).body.length cy)) (range_whole hs (by (try dsimp only [List.set]); repeat (first | with_reducible exact List.mem_cons_self | with_reducible apply List.mem_cons_of_mem))) (by kernel_rfl) (by kernel_rfl) (hK _ _ ?_); clear hK K)
    | (go_at_call 16; go_must (refine (fpack_any W _ _ hs (Fr.parse l) (parse_ok l) _ (bytesH_has 1 rfl)).mono ?_); clear hs; rintro e w1 ⟨vz, rfl, hs⟩; rw [hsc2.out]; rw [hsec.out] at hs
       obtain ⟨Az, cz, rfl, _, _⟩ := slice_form (hs.bytes (bytesH_has 0 rfl)))
    | (refine wpl (o := ⟨some 79, .convert _ _ _, _, _, _, _⟩) rfl fun K hK => ?_; go_must (refine op_to_string rfl Try.underlying23 Try.underlying5 Try.underlying9 rfl (hs.bytes (bytesH_has 0 rfl)) (hK _ _ ?_)); clear hK K)
    | (refine wpl (o := ⟨some 81, .convert _ _ _, _, _, _, _⟩) rfl fun K hK => ?_; go_must (refine op_to_string rfl Try.underlying23 Try.underlying5 Try.underlying9 rfl (hs.bytes (hl.tail.tail.tail.tail.tail.tail.tail)) (hK _ _ ?_)); clear hK K))
  go_ret
  exact ⟨rfl, hs.pack (by repeat (first | with_reducible exact Pack.refl | with_reducible exact Pack.nil | with_reducible refine Pack.cons (by repeat (first | with_reducible exact Pick.here | with_reducible apply Pick.there)) ?_ | with_reducible apply Pack.drop))⟩
set_option maxRecDepth 100000 in
set_option maxHeartbeats 4000000 in
theorem frameBack_Ab (W w : World) (L : List HP) (hs : Sat W w L) (f : Fr) (ok : f.Ok) (Af : Option Addr) (cf : Nat) (hf : Has L (bytesAt (.slice Af f.body.length cf) f.body)) (l : List UInt8) (Al : Option Addr) (cl : Nat) (hl : Has L (bytesAt (.slice Al l.length cl) l)) (hbigI : ¬ (200 : Int) < (f.body.length : Int)) (hbigI2 : ¬ (200 : Int) < (l.length : Int)) (h50I : (f.body.length : Int) ≤ 50) (hsc : Box (f.scode = 0)) (hcx : Box (Fr.code f.sector = 0)) (hpx : Box (Fr.parse f.sector = f)) (hcl : Box (Fr.code l = 2)) :
    Calls Try.prog 5 #[.agg (frCells f (.slice Af f.body.length cf)).toArray, .slice Al l.length cl] w fun e w' => e = .returned (.bool true) ∧ Sat W w' L := by
  have hss := sector_small f
  have hll : l.length ≤ 200 := by omega
  have hne := fun w => run_equal_rframe f f w
  rw [Fr.same_refl] at hne
  go_enter Try.func5, Try.ntmps5
  go_wp2_with (first
    | (refine wpl (o := ⟨some 2, .box _ _, _, _, _, _⟩) rfl fun K hK => ?_; go_must (refine op_box hs rfl _ rfl (frCells f (.slice Af f.body.length cf)) rfl fun b2 w1 h => hK _ _ ?_); clear hs hK K; have hs := h; clear h; try dsimp only [List.set] at hs)
    | (go_at_call 15; go_must (refine (awake5_spec W _ _ hs).mono ?_); clear hs; rintro e w1 ⟨rfl, hs⟩; have k16 : w1.cell? ⟨b2, 3, none⟩ = some (.slice Af f.body.length cf) := hs.cell m0 rfl)
    | (refine wpl (o := ⟨some 16, .load _ _, _, _, _, _⟩) rfl fun K hK => op_load rfl (ad := ⟨b2, 3, none⟩) rfl (by kernel_rfl) k16 (hK _ _ ?_); clear hK K)
    | (refine wpl (o := ⟨some 26, .load _ _, _, _, _, _⟩) rfl fun K hK => op_load_agg rfl (b := b2) (i := 0) rfl (frCells f (.slice Af f.body.length cf)) (range_whole hs (by (try dsimp only [List.set]); repeat (first | with_reducible exact List.mem_cons_self | with_reducible apply List.mem_cons_of_mem))) (by kernel_rfl) (by kernel_rfl) (hK _ _ ?_); clear hK K)
    | (go_at_call 16; go_must (refine (fpack_any W _ _ hs f ok _ hf.tail).mono ?_); clear hs; rintro e w1 ⟨v1, rfl, hs⟩; rw [hsc.out]
       obtain ⟨A1, c1, rfl, _, _⟩ := slice_form (hs.bytes (bytesH_has 0 rfl)))
    | (go_at_call 19; go_must (refine (fparse_spec W _ _ hs _ f.sector (bytesH_has 0 rfl) (by omega)).mono ?_); clear hs; rintro e w1 ⟨vx, rfl, hs⟩; rw [hcx.out]; rw [hpx.out]; rw [hpx.out] at hs
       obtain ⟨Ax, cx, rfl, _, _⟩ := slice_form (hs.bytes (bytesH_has 0 rfl)))
    | (refine wpl (o := ⟨some 8, .alloc _, _, _, _, _⟩) rfl fun K hK => ?_; go_must (refine op_alloc hs rfl _ zframe [.int .u32 0, .int .u32 0, .int .u8 0, .slice none 0 0] rfl fun b8 w1 h => hK _ _ ?_); clear hs hK K; have hs := h; clear h; try dsimp only [List.set] at hs)
    | (refine wpl (o := ⟨none, .store _ (.tmp 8) _, _, _, _, _⟩) rfl fun K hK => ?_; go_must (refine op_store_whole hs (b := b8) rfl rfl (frCells f (.slice Ax f.body.length cx)) rfl (by simp [frCells, Value.oneCell']) (by kernel_rfl) (k := 0) rfl rfl fun w3 h => hK _ _ ?_); clear hs hK K; have hs := h; clear h; try dsimp only [List.set] at hs))
  obtain ⟨M, hM, hs⟩ : ∃ M, M = _ ∧ Sat W _ M := ⟨_, rfl, hs⟩
  have k38 : ∀ w, Sat W w M → w.cell? ⟨b2, 3, none⟩ = some (.slice Af f.body.length cf) := fun w h => h.cell (l := frCells f (.slice Af f.body.length cf)) (t := 25) (by rw [hM]; exact (by (try dsimp only [List.set]); repeat (first | with_reducible exact List.mem_cons_self | with_reducible apply List.mem_cons_of_mem))) rfl
  have d1 : ∀ w, Sat W w M → w.rangeAt b8 0 (frCells f (.slice Ax f.body.length cx)) := fun w h => range_whole h (by rw [hM]; exact (by (try dsimp only [List.set]); repeat (first | with_reducible exact List.mem_cons_self | with_reducible apply List.mem_cons_of_mem)))
  have d2 : ∀ w, Sat W w M → w.rangeAt b2 0 (frCells f (.slice Af f.body.length cf)) := fun w h => range_whole h (by rw [hM]; exact (by (try dsimp only [List.set]); repeat (first | with_reducible exact List.mem_cons_self | with_reducible apply List.mem_cons_of_mem)))
  have oF : ∀ w, Sat W w M → Calls Try.prog 18 #[.agg (frCells f (.slice Ax f.body.length cx)).toArray] w fun e w' => e = .returned (.agg (rCells f).toArray) ∧ Sat W w' M := fun w h => real_spec W w M h f _ (by rw [hM]; exact bytesH_mem (by (try dsimp only [List.set]); repeat (first | with_reducible exact List.mem_cons_self | with_reducible apply List.mem_cons_of_mem)))
  have oG : ∀ w, Sat W w M → Calls Try.prog 18 #[.agg (frCells f (.slice Af f.body.length cf)).toArray] w fun e w' => e = .returned (.agg (rCells f).toArray) ∧ Sat W w' M := fun w h => real_spec W w M h f _ (by rw [hM]; exact hf.tail.tail.tail.tail)
  have oF_ := Box.mk oF
  clear oF
  have oF := oF_
  clear oF_
  have oG_ := Box.mk oG
  clear oG
  have oG := oG_
  clear oG_
  have hM_ := Box.mk hM
  clear hM
  have hM := hM_
  clear hM_
  refine wp_region_quiet (C := fun w' => Sat W w' M) (by kernel_rfl) (by kernel_rfl) hs.drew ?_
  have hq := sat_const hs
  repeat (first
    | (with_reducible refine quiet_load (o := ⟨some 38, .load _ _, _, _, _, _⟩) rfl rfl rfl rfl k38 ?_)
    | ((with_reducible refine quiet_load_agg (o := ⟨some 53, .load _ _, _, _, _, _⟩) (frCells f (.slice Ax f.body.length cx)) rfl rfl rfl ?_ ?_ d1 ?_); (kernel_rfl); (kernel_rfl))
    | ((with_reducible refine quiet_load_agg (o := ⟨some 55, .load _ _, _, _, _, _⟩) (frCells f (.slice Af f.body.length cf)) rfl rfl rfl ?_ ?_ d2 ?_); (kernel_rfl); (kernel_rfl))
    | (refine wpQuiet_step (fun K hK => ?_); go_simp; first
        | (with_reducible refine hK _ ?_; clear hK K)
        | (apply Exists.intro; refine ⟨fun w5 h5 => ?_, hK _ ?_⟩; (first | with_reducible exact oF.out w5 h5 | with_reducible exact oG.out w5 h5); clear hK K)))
  refine wpQuiet_nil ?_
  intro w8 hs8
  clear hs
  rw [hM.out] at hs8
  have hs := hs8
  clear hs8
  go_wp2_with (first
    | (go_at_call 19; go_must (refine (fparse_spec W _ _ hs _ l hl.tail.tail.tail.tail (by omega)).mono ?_); clear hs; rintro e w1 ⟨vy, rfl, hs⟩; rw [hcl.out]
       obtain ⟨Ay, cy, rfl, _, _⟩ := slice_form (hs.bytes (bytesH_has 0 rfl)))
    | (refine wpl (o := ⟨some 10, .alloc _, _, _, _, _⟩) rfl fun K hK => ?_; go_must (refine op_alloc hs rfl _ zframe [.int .u32 0, .int .u32 0, .int .u8 0, .slice none 0 0] rfl fun b10 w1 h => hK _ _ ?_); clear hs hK K; have hs := h; clear h; try dsimp only [List.set] at hs)
    | (refine wpl (o := ⟨none, .store _ (.tmp 10) _, _, _, _, _⟩) rfl fun K hK => ?_; go_must (refine op_store_whole hs (b := b10) rfl rfl (frCells (Fr.parse l) (.slice Ay (Fr.parse l).body.length cy)) rfl (by simp [frCells, Value.oneCell']) (by kernel_rfl) (k := 0) rfl rfl fun w3 h => hK _ _ ?_); clear hs hK K; have hs := h; clear h; try dsimp only [List.set] at hs)
    | (refine wpl (o := ⟨some 66, .load _ _, _, _, _, _⟩) rfl fun K hK => op_load_agg rfl (b := b10) (i := 0) rfl (frCells (Fr.parse l) (.slice Ay (Fr.parse l).body.length cy)) (range_whole hs (by (try dsimp only [List.set]); repeat (first | with_reducible exact List.mem_cons_self | with_reducible apply List.mem_cons_of_mem))) (by kernel_rfl) (by kernel_rfl) (hK _ _ ?_); clear hK K)
    | (go_at_call 16; go_must (refine (fpack_any W _ _ hs (Fr.parse l) (parse_ok l) _ (bytesH_has 1 rfl)).mono ?_); clear hs; rintro e w1 ⟨vz, rfl, hs⟩
       obtain ⟨Az, cz, rfl, _, _⟩ := slice_form (hs.bytes (bytesH_has 0 rfl))))
  go_ret
  exact ⟨rfl, hs.pack (by repeat (first | with_reducible exact Pack.refl | with_reducible exact Pack.nil | with_reducible refine Pack.cons (by repeat (first | with_reducible exact Pick.here | with_reducible apply Pick.there)) ?_ | with_reducible apply Pack.drop))⟩
set_option maxRecDepth 100000 in
set_option maxHeartbeats 4000000 in
theorem frameBack_aB (W w : World) (L : List HP) (hs : Sat W w L) (f : Fr) (ok : f.Ok) (Af : Option Addr) (cf : Nat) (hf : Has L (bytesAt (.slice Af f.body.length cf) f.body)) (l : List UInt8) (Al : Option Addr) (cl : Nat) (hl : Has L (bytesAt (.slice Al l.length cl) l)) (hbigI : ¬ (200 : Int) < (f.body.length : Int)) (hbigI2 : ¬ (200 : Int) < (l.length : Int)) (h50I : ¬ (f.body.length : Int) ≤ 50) (hsc : Box (f.scode = 3)) (hcx : Box (Fr.code f.sector = 2)) (hcl : Box (Fr.code l = 0)) (hsc2 : Box ((Fr.parse l).scode = 0)) (hsec : Box ((Fr.parse l).sector = l)) :
    Calls Try.prog 5 #[.agg (frCells f (.slice Af f.body.length cf)).toArray, .slice Al l.length cl] w fun e w' => e = .returned (.bool true) ∧ Sat W w' L := by
  have hss := sector_small f
  have hll : l.length ≤ 200 := by omega
  have hne := fun w => run_equal_rframe f f w
  rw [Fr.same_refl] at hne
  go_enter Try.func5, Try.ntmps5
  go_wp2_with (first
    | (refine wpl (o := ⟨some 2, .box _ _, _, _, _, _⟩) rfl fun K hK => ?_; go_must (refine op_box hs rfl _ rfl (frCells f (.slice Af f.body.length cf)) rfl fun b2 w1 h => hK _ _ ?_); clear hs hK K; have hs := h; clear h; try dsimp only [List.set] at hs)
    | (go_at_call 15; go_must (refine (awake5_spec W _ _ hs).mono ?_); clear hs; rintro e w1 ⟨rfl, hs⟩; have k16 : w1.cell? ⟨b2, 3, none⟩ = some (.slice Af f.body.length cf) := hs.cell m0 rfl)
    | (refine wpl (o := ⟨some 16, .load _ _, _, _, _, _⟩) rfl fun K hK => op_load rfl (ad := ⟨b2, 3, none⟩) rfl (by kernel_rfl) k16 (hK _ _ ?_); clear hK K)
    | (refine wpl (o := ⟨some 26, .load _ _, _, _, _, _⟩) rfl fun K hK => op_load_agg rfl (b := b2) (i := 0) rfl (frCells f (.slice Af f.body.length cf)) (range_whole hs (by (try dsimp only [List.set]); repeat (first | with_reducible exact List.mem_cons_self | with_reducible apply List.mem_cons_of_mem))) (by kernel_rfl) (by kernel_rfl) (hK _ _ ?_); clear hK K)
    | (go_at_call 16; go_must (refine (fpack_any W _ _ hs f ok _ hf.tail).mono ?_); clear hs; rintro e w1 ⟨v1, rfl, hs⟩; rw [hsc.out]
       obtain ⟨A1, c1, rfl, _, _⟩ := slice_form (hs.bytes (bytesH_has 0 rfl)))
    | (go_at_call 19; go_must (refine (fparse_spec W _ _ hs _ f.sector (bytesH_has 0 rfl) (by omega)).mono ?_); clear hs; rintro e w1 ⟨vx, rfl, hs⟩; rw [hcx.out]
       obtain ⟨Ax, cx, rfl, _, _⟩ := slice_form (hs.bytes (bytesH_has 0 rfl)))
    | (refine wpl (o := ⟨some 8, .alloc _, _, _, _, _⟩) rfl fun K hK => ?_; go_must (refine op_alloc hs rfl _ zframe [.int .u32 0, .int .u32 0, .int .u8 0, .slice none 0 0] rfl fun b8 w1 h => hK _ _ ?_); clear hs hK K; have hs := h; clear h; try dsimp only [List.set] at hs)
    | (refine wpl (o := ⟨none, .store _ (.tmp 8) _, _, _, _, _⟩) rfl fun K hK => ?_; go_must (refine op_store_whole hs (b := b8) rfl rfl (frCells (Fr.parse f.sector) (.slice Ax (Fr.parse f.sector).body.length cx)) rfl (by simp [frCells, Value.oneCell']) (by kernel_rfl) (k := 0) rfl rfl fun w3 h => hK _ _ ?_); clear hs hK K; have hs := h; clear h; try dsimp only [List.set] at hs))
  obtain ⟨M, hM, hs⟩ : ∃ M, M = _ ∧ Sat W _ M := ⟨_, rfl, hs⟩
  have k38 : ∀ w, Sat W w M → w.cell? ⟨b2, 3, none⟩ = some (.slice Af f.body.length cf) := fun w h => h.cell (l := frCells f (.slice Af f.body.length cf)) (t := 25) (by rw [hM]; exact (by (try dsimp only [List.set]); repeat (first | with_reducible exact List.mem_cons_self | with_reducible apply List.mem_cons_of_mem))) rfl
  have d1 : ∀ w, Sat W w M → w.rangeAt b8 0 (frCells (Fr.parse f.sector) (.slice Ax (Fr.parse f.sector).body.length cx)) := fun w h => range_whole h (by rw [hM]; exact (by (try dsimp only [List.set]); repeat (first | with_reducible exact List.mem_cons_self | with_reducible apply List.mem_cons_of_mem)))
  have d2 : ∀ w, Sat W w M → w.rangeAt b2 0 (frCells f (.slice Af f.body.length cf)) := fun w h => range_whole h (by rw [hM]; exact (by (try dsimp only [List.set]); repeat (first | with_reducible exact List.mem_cons_self | with_reducible apply List.mem_cons_of_mem)))
  have hM_ := Box.mk hM
  clear hM
  have hM := hM_
  clear hM_
  refine wp_region_quiet (C := fun w' => Sat W w' M) (by kernel_rfl) (by kernel_rfl) hs.drew ?_
  have hq := sat_const hs
  repeat (first
    | (with_reducible refine quiet_load (o := ⟨some 38, .load _ _, _, _, _, _⟩) rfl rfl rfl rfl k38 ?_)
    | ((with_reducible refine quiet_skip (o := ⟨some 53, _, _, _, _, _⟩) ?_ ?_); (kernel_rfl))
    | ((with_reducible refine quiet_skip (o := ⟨some 54, _, _, _, _, _⟩) ?_ ?_); (kernel_rfl))
    | ((with_reducible refine quiet_skip (o := ⟨some 55, _, _, _, _, _⟩) ?_ ?_); (kernel_rfl))
    | ((with_reducible refine quiet_skip (o := ⟨some 56, _, _, _, _, _⟩) ?_ ?_); (kernel_rfl))
    | ((with_reducible refine quiet_skip (o := ⟨some 57, _, _, _, _, _⟩) ?_ ?_); (kernel_rfl))
    | (refine wpQuiet_step (fun K hK => ?_); go_simp; first
        | (with_reducible refine hK _ ?_; clear hK K)))
  refine wpQuiet_nil ?_
  intro w8 hs8
  clear hs
  rw [hM.out] at hs8
  have hs := hs8
  clear hs8
  go_wp2_with (first
    | (go_at_call 19; go_must (refine (fparse_spec W _ _ hs _ l hl.tail.tail.tail.tail (by omega)).mono ?_); clear hs; rintro e w1 ⟨vy, rfl, hs⟩; rw [hcl.out]
       obtain ⟨Ay, cy, rfl, _, _⟩ := slice_form (hs.bytes (bytesH_has 0 rfl)))
    | (refine wpl (o := ⟨some 10, .alloc _, _, _, _, _⟩) rfl fun K hK => ?_; go_must (refine op_alloc hs rfl _ zframe [.int .u32 0, .int .u32 0, .int .u8 0, .slice none 0 0] rfl fun b10 w1 h => hK _ _ ?_); clear hs hK K; have hs := h; clear h; try dsimp only [List.set] at hs)
    | (refine wpl (o := ⟨none, .store _ (.tmp 10) _, _, _, _, _⟩) rfl fun K hK => ?_; go_must (refine op_store_whole hs (b := b10) rfl rfl (frCells (Fr.parse l) (.slice Ay (Fr.parse l).body.length cy)) rfl (by simp [frCells, Value.oneCell']) (by kernel_rfl) (k := 0) rfl rfl fun w3 h => hK _ _ ?_); clear hs hK K; have hs := h; clear h; try dsimp only [List.set] at hs)
    | (refine wpl (o := ⟨some 66, .load _ _, _, _, _, _⟩) rfl fun K hK => op_load_agg rfl (b := b10) (i := 0) rfl (frCells (Fr.parse l) (.slice Ay (Fr.parse l).body.length cy)) (range_whole hs (by (try dsimp only [List.set]); repeat (first | with_reducible exact List.mem_cons_self | with_reducible apply List.mem_cons_of_mem))) (by kernel_rfl) (by kernel_rfl) (hK _ _ ?_); clear hK K)
    | (go_at_call 16; go_must (refine (fpack_any W _ _ hs (Fr.parse l) (parse_ok l) _ (bytesH_has 1 rfl)).mono ?_); clear hs; rintro e w1 ⟨vz, rfl, hs⟩; rw [hsc2.out]; rw [hsec.out] at hs
       obtain ⟨Az, cz, rfl, _, _⟩ := slice_form (hs.bytes (bytesH_has 0 rfl)))
    | (refine wpl (o := ⟨some 79, .convert _ _ _, _, _, _, _⟩) rfl fun K hK => ?_; go_must (refine op_to_string rfl Try.underlying23 Try.underlying5 Try.underlying9 rfl (hs.bytes (bytesH_has 0 rfl)) (hK _ _ ?_)); clear hK K)
    | (refine wpl (o := ⟨some 81, .convert _ _ _, _, _, _, _⟩) rfl fun K hK => ?_; go_must (refine op_to_string rfl Try.underlying23 Try.underlying5 Try.underlying9 rfl (hs.bytes (hl.tail.tail.tail.tail.tail.tail.tail)) (hK _ _ ?_)); clear hK K))
  go_ret
  exact ⟨rfl, hs.pack (by repeat (first | with_reducible exact Pack.refl | with_reducible exact Pack.nil | with_reducible refine Pack.cons (by repeat (first | with_reducible exact Pick.here | with_reducible apply Pick.there)) ?_ | with_reducible apply Pack.drop))⟩
set_option maxRecDepth 100000 in
set_option maxHeartbeats 4000000 in
theorem frameBack_ab (W w : World) (L : List HP) (hs : Sat W w L) (f : Fr) (ok : f.Ok) (Af : Option Addr) (cf : Nat) (hf : Has L (bytesAt (.slice Af f.body.length cf) f.body)) (l : List UInt8) (Al : Option Addr) (cl : Nat) (hl : Has L (bytesAt (.slice Al l.length cl) l)) (hbigI : ¬ (200 : Int) < (f.body.length : Int)) (hbigI2 : ¬ (200 : Int) < (l.length : Int)) (h50I : ¬ (f.body.length : Int) ≤ 50) (hsc : Box (f.scode = 3)) (hcx : Box (Fr.code f.sector = 2)) (hcl : Box (Fr.code l = 2)) :
    Calls Try.prog 5 #[.agg (frCells f (.slice Af f.body.length cf)).toArray, .slice Al l.length cl] w fun e w' => e = .returned (.bool true) ∧ Sat W w' L := by
  have hss := sector_small f
  have hll : l.length ≤ 200 := by omega
  have hne := fun w => run_equal_rframe f f w
  rw [Fr.same_refl] at hne
  go_enter Try.func5, Try.ntmps5
  go_wp2_with (first
    | (refine wpl (o := ⟨some 2, .box _ _, _, _, _, _⟩) rfl fun K hK => ?_; go_must (refine op_box hs rfl _ rfl (frCells f (.slice Af f.body.length cf)) rfl fun b2 w1 h => hK _ _ ?_); clear hs hK K; have hs := h; clear h; try dsimp only [List.set] at hs)
    | (go_at_call 15; go_must (refine (awake5_spec W _ _ hs).mono ?_); clear hs; rintro e w1 ⟨rfl, hs⟩; have k16 : w1.cell? ⟨b2, 3, none⟩ = some (.slice Af f.body.length cf) := hs.cell m0 rfl)
    | (refine wpl (o := ⟨some 16, .load _ _, _, _, _, _⟩) rfl fun K hK => op_load rfl (ad := ⟨b2, 3, none⟩) rfl (by kernel_rfl) k16 (hK _ _ ?_); clear hK K)
    | (refine wpl (o := ⟨some 26, .load _ _, _, _, _, _⟩) rfl fun K hK => op_load_agg rfl (b := b2) (i := 0) rfl (frCells f (.slice Af f.body.length cf)) (range_whole hs (by (try dsimp only [List.set]); repeat (first | with_reducible exact List.mem_cons_self | with_reducible apply List.mem_cons_of_mem))) (by kernel_rfl) (by kernel_rfl) (hK _ _ ?_); clear hK K)
    | (go_at_call 16; go_must (refine (fpack_any W _ _ hs f ok _ hf.tail).mono ?_); clear hs; rintro e w1 ⟨v1, rfl, hs⟩; rw [hsc.out]
       obtain ⟨A1, c1, rfl, _, _⟩ := slice_form (hs.bytes (bytesH_has 0 rfl)))
    | (go_at_call 19; go_must (refine (fparse_spec W _ _ hs _ f.sector (bytesH_has 0 rfl) (by omega)).mono ?_); clear hs; rintro e w1 ⟨vx, rfl, hs⟩; rw [hcx.out]
       obtain ⟨Ax, cx, rfl, _, _⟩ := slice_form (hs.bytes (bytesH_has 0 rfl)))
    | (refine wpl (o := ⟨some 8, .alloc _, _, _, _, _⟩) rfl fun K hK => ?_; go_must (refine op_alloc hs rfl _ zframe [.int .u32 0, .int .u32 0, .int .u8 0, .slice none 0 0] rfl fun b8 w1 h => hK _ _ ?_); clear hs hK K; have hs := h; clear h; try dsimp only [List.set] at hs)
    | (refine wpl (o := ⟨none, .store _ (.tmp 8) _, _, _, _, _⟩) rfl fun K hK => ?_; go_must (refine op_store_whole hs (b := b8) rfl rfl (frCells (Fr.parse f.sector) (.slice Ax (Fr.parse f.sector).body.length cx)) rfl (by simp [frCells, Value.oneCell']) (by kernel_rfl) (k := 0) rfl rfl fun w3 h => hK _ _ ?_); clear hs hK K; have hs := h; clear h; try dsimp only [List.set] at hs))
  obtain ⟨M, hM, hs⟩ : ∃ M, M = _ ∧ Sat W _ M := ⟨_, rfl, hs⟩
  have k38 : ∀ w, Sat W w M → w.cell? ⟨b2, 3, none⟩ = some (.slice Af f.body.length cf) := fun w h => h.cell (l := frCells f (.slice Af f.body.length cf)) (t := 25) (by rw [hM]; exact (by (try dsimp only [List.set]); repeat (first | with_reducible exact List.mem_cons_self | with_reducible apply List.mem_cons_of_mem))) rfl
  have d1 : ∀ w, Sat W w M → w.rangeAt b8 0 (frCells (Fr.parse f.sector) (.slice Ax (Fr.parse f.sector).body.length cx)) := fun w h => range_whole h (by rw [hM]; exact (by (try dsimp only [List.set]); repeat (first | with_reducible exact List.mem_cons_self | with_reducible apply List.mem_cons_of_mem)))
  have d2 : ∀ w, Sat W w M → w.rangeAt b2 0 (frCells f (.slice Af f.body.length cf)) := fun w h => range_whole h (by rw [hM]; exact (by (try dsimp only [List.set]); repeat (first | with_reducible exact List.mem_cons_self | with_reducible apply List.mem_cons_of_mem)))
  have hM_ := Box.mk hM
  clear hM
  have hM := hM_
  clear hM_
  refine wp_region_quiet (C := fun w' => Sat W w' M) (by kernel_rfl) (by kernel_rfl) hs.drew ?_
  have hq := sat_const hs
  repeat (first
    | (with_reducible refine quiet_load (o := ⟨some 38, .load _ _, _, _, _, _⟩) rfl rfl rfl rfl k38 ?_)
    | ((with_reducible refine quiet_skip (o := ⟨some 53, _, _, _, _, _⟩) ?_ ?_); (kernel_rfl))
    | ((with_reducible refine quiet_skip (o := ⟨some 54, _, _, _, _, _⟩) ?_ ?_); (kernel_rfl))
    | ((with_reducible refine quiet_skip (o := ⟨some 55, _, _, _, _, _⟩) ?_ ?_); (kernel_rfl))
    | ((with_reducible refine quiet_skip (o := ⟨some 56, _, _, _, _, _⟩) ?_ ?_); (kernel_rfl))
    | ((with_reducible refine quiet_skip (o := ⟨some 57, _, _, _, _, _⟩) ?_ ?_); (kernel_rfl))
    | (refine wpQuiet_step (fun K hK => ?_); go_simp; first
        | (with_reducible refine hK _ ?_; clear hK K)))
  refine wpQuiet_nil ?_
  intro w8 hs8
  clear hs
  rw [hM.out] at hs8
  have hs := hs8
  clear hs8
  go_wp2_with (first
    | (go_at_call 19; go_must (refine (fparse_spec W _ _ hs _ l hl.tail.tail.tail.tail (by omega)).mono ?_); clear hs; rintro e w1 ⟨vy, rfl, hs⟩; rw [hcl.out]
       obtain ⟨Ay, cy, rfl, _, _⟩ := slice_form (hs.bytes (bytesH_has 0 rfl)))
    | (refine wpl (o := ⟨some 10, .alloc _, _, _, _, _⟩) rfl fun K hK => ?_; go_must (refine op_alloc hs rfl _ zframe [.int .u32 0, .int .u32 0, .int .u8 0, .slice none 0 0] rfl fun b10 w1 h => hK _ _ ?_); clear hs hK K; have hs := h; clear h; try dsimp only [List.set] at hs)
    | (refine wpl (o := ⟨none, .store _ (.tmp 10) _, _, _, _, _⟩) rfl fun K hK => ?_; go_must (refine op_store_whole hs (b := b10) rfl rfl (frCells (Fr.parse l) (.slice Ay (Fr.parse l).body.length cy)) rfl (by simp [frCells, Value.oneCell']) (by kernel_rfl) (k := 0) rfl rfl fun w3 h => hK _ _ ?_); clear hs hK K; have hs := h; clear h; try dsimp only [List.set] at hs)
    | (refine wpl (o := ⟨some 66, .load _ _, _, _, _, _⟩) rfl fun K hK => op_load_agg rfl (b := b10) (i := 0) rfl (frCells (Fr.parse l) (.slice Ay (Fr.parse l).body.length cy)) (range_whole hs (by (try dsimp only [List.set]); repeat (first | with_reducible exact List.mem_cons_self | with_reducible apply List.mem_cons_of_mem))) (by kernel_rfl) (by kernel_rfl) (hK _ _ ?_); clear hK K)
    | (go_at_call 16; go_must (refine (fpack_any W _ _ hs (Fr.parse l) (parse_ok l) _ (bytesH_has 1 rfl)).mono ?_); clear hs; rintro e w1 ⟨vz, rfl, hs⟩
       obtain ⟨Az, cz, rfl, _, _⟩ := slice_form (hs.bytes (bytesH_has 0 rfl))))
  go_ret
  exact ⟨rfl, hs.pack (by repeat (first | with_reducible exact Pack.refl | with_reducible exact Pack.nil | with_reducible refine Pack.cons (by repeat (first | with_reducible exact Pick.here | with_reducible apply Pick.there)) ?_ | with_reducible apply Pack.drop))⟩
theorem frameBack_walk (W w : World) (L : List HP) (hs : Sat W w L) (f : Fr) (ok : f.Ok) (vf : Value) (hf : Has L (bytesAt vf f.body)) (vl : Value) (l : List UInt8) (hl : Has L (bytesAt vl l)) :
    Calls Try.prog 5 #[.agg (frCells f vf).toArray, vl] w fun e w' => e = .returned (.bool true) ∧ Sat W w' L := by
  obtain ⟨Af, cf, rfl, _, _⟩ := slice_form (hs.bytes hf)
  obtain ⟨Al, cl, rfl, _, _⟩ := slice_form (hs.bytes hl)
  by_cases hbig : 200 < f.body.length
  · exact frameBack_early1 W w L hs f Af cf hf l Al cl (by omega)
  by_cases hbig2 : 200 < l.length
  · exact frameBack_early2 W w L hs f Af cf hf l Al cl (by omega) (by omega)
  have h1 : ¬ (200 : Int) < (f.body.length : Int) := by omega
  have h2 : ¬ (200 : Int) < (l.length : Int) := by omega
  by_cases h50 : f.body.length ≤ 50
  · have h50I : (f.body.length : Int) ≤ 50 := by omega
    have a1 : f.scode = 0 := if_pos h50
    have a2 : f.sector = f.pack := if_pos h50
    have a3 : Fr.code f.sector = 0 := by rw [a2]; exact Fr.code_pack ok h50
    have a4 : Fr.parse f.sector = f := by rw [a2]; exact Fr.parse_pack ok h50
    cases hi : Fr.is l with
    | true =>
      have b0 : Fr.parse l = Fr.told l := by simp [Fr.parse, hi]
      have b5 := Fr.pack_told hi
      exact frameBack_AB W w L hs f ok Af cf hf l Al cl hl h1 h2 h50I ⟨a1⟩ ⟨a3⟩ ⟨a4⟩ ⟨by simp [Fr.code, hi]⟩ ⟨by rw [b0]; exact if_pos b5.2⟩ ⟨by rw [b0]; exact (if_pos b5.2).trans b5.1⟩
    | false => exact frameBack_Ab W w L hs f ok Af cf hf l Al cl hl h1 h2 h50I ⟨a1⟩ ⟨a3⟩ ⟨a4⟩ ⟨by simp [Fr.code, hi]⟩
  · have h50I : ¬ (f.body.length : Int) ≤ 50 := by omega
    have a1 : f.scode = 3 := if_neg h50
    have a2 : f.sector = [] := if_neg h50
    have a3 : Fr.code f.sector = 2 := by rw [a2]; exact code_nil
    cases hi : Fr.is l with
    | true =>
      have b0 : Fr.parse l = Fr.told l := by simp [Fr.parse, hi]
      have b5 := Fr.pack_told hi
      exact frameBack_aB W w L hs f ok Af cf hf l Al cl hl h1 h2 h50I ⟨a1⟩ ⟨a3⟩ ⟨by simp [Fr.code, hi]⟩ ⟨by rw [b0]; exact if_pos b5.2⟩ ⟨by rw [b0]; exact (if_pos b5.2).trans b5.1⟩
    | false => exact frameBack_ab W w L hs f ok Af cf hf l Al cl hl h1 h2 h50I ⟨a1⟩ ⟨a3⟩ ⟨by simp [Fr.code, hi]⟩
theorem frameBack_main (W : World) (x0 : FrTup) (c0 : List Value) (h0 : frKin.K (hp W) x0 c0) (l : List UInt8) (v1 : Value) (h1 : (Kin.slice 1 Kin.u8).K (hp W) l [v1]) :
    Calls Try.prog 5 #[.agg c0.toArray, v1] W fun e w' => e = .returned (.bool true) ∧ Below W.heap.size W w' := by
  obtain ⟨f, vf, okf, rfl, hf, _⟩ := fr_cells h0
  exact (frameBack_walk W W _ (Sat.start W) f okf vf hf v1 l ((has_old h1).imp fun F hF => (kin_bytes hF).1)).mono fun e w' ⟨he, hs⟩ => ⟨he, hs.end_ m0⟩
end Go.Proofs.Ytoedmjibhpajjaa
