/- The contracts of slot.Load and of the laws' area. -/
import Derived.Test.YtfpgmnnecnaheaaSlOne
set_option linter.unusedVariables false
set_option linter.unusedSimpArgs false
namespace Go.Proofs.Ytfpgmnnecnaheaa
open Go.RowKit
def zarea : List Value := [.int .i64 0, .int .i64 0]
theorem zarea_zero : (Try.prog.info? 31).bind (·.zero) = some (.agg [Value.int .i64 0, .int .i64 0].toArray) := by kernel_rfl
set_option maxRecDepth 100000 in
set_option maxHeartbeats 1000000 in
theorem area_spec (W w : World) (L : List HP) (hs : Sat W w L) : Calls Try.prog 18 #[] w fun e w' => e = .returned (.agg (areaC 1 4).toArray) ∧ Sat W w' L := by
  go_enter Try.func18, Try.ntmps18
  go_wp2_with (first
    | (guard_target = wpList _ _ _ (⟨some 0, .alloc _, _, _, _, _⟩ :: _) _ _; refine wpl (o := ⟨some 0, .alloc _, _, _, _, _⟩) rfl fun K hK => ?_; go_must (refine op_alloc hs rfl _ zarea_zero zarea rfl fun b0 w1 h => hK _ _ ?_); clear hs hK K; have hs := h; clear h; try dsimp only [List.set] at hs)
    | (guard_target = wpList _ _ _ (⟨none, .store _ (.tmp 0) _, _, _, _, _⟩ :: _) _ _; refine wpl (o := ⟨none, .store _ (.tmp 0) _, _, _, _, _⟩) rfl fun K hK => ?_; go_must (refine op_store_whole hs (b := b0) rfl rfl (areaC 1 4) rfl (by simp [areaC, Value.oneCell']) (by kernel_rfl) (k := 0) rfl rfl fun w3 h => hK _ _ ?_); clear hs hK K; have hs := h; clear h; try dsimp only [List.set] at hs))
  exact bodyPost_ret (run_results_cell rfl (b := b0) rfl (areaC 1 4) (range_whole hs m0) (by kernel_rfl) (by kernel_rfl)) rfl ⟨rfl, hs.tail⟩
set_option maxRecDepth 100000 in
set_option maxHeartbeats 4000000 in
theorem slload_none (W w : World) (L : List HP) (b : Nat) (D : Dk) (hs : Sat W w (disk b D :: L)) (first size : Int) (hfi : first < 9223372036854775808) (hno : slMayB D.secs.length first size = false) :
    Calls Try.prog 19 #[.pointer (some ⟨b, 0, none⟩), .agg (areaC first size).toArray] w (slonePost none W (disk b D :: L)) := by
  have hNO := Box.mk hno
  clear hno
  go_enter Try.func19, Try.ntmps19
  go_wp2_with (first
    | (guard_target = wpList _ _ _ (⟨some 3, .box _ _, _, _, _, _⟩ :: _) _ _; refine wpl (o := ⟨some 3, .box _ _, _, _, _, _⟩) rfl fun K hK => ?_; go_must (refine op_box hs rfl _ rfl (areaC first size) rfl fun b3 w1 h => hK _ _ ?_); clear hs hK K; have hs := h; clear h; try dsimp only [List.set] at hs)
    | (guard_target = wpList _ _ _ (⟨some 15, .load _ _, _, _, _, _⟩ :: _) _ _; refine wpl (o := ⟨some 15, .load _ _, _, _, _, _⟩) rfl fun K hK => op_load_agg rfl (b := b3) (i := 0) rfl (areaC first size) (range_whole hs (by (try dsimp only [List.set]); repeat (first | with_reducible exact List.mem_cons_self | with_reducible apply List.mem_cons_of_mem))) (by kernel_rfl) (by kernel_rfl) (hK _ _ ?_); clear hK K)
    | (guard_target = wpList _ _ _ (⟨some 22, .load _ _, _, _, _, _⟩ :: _) _ _; refine wpl (o := ⟨some 22, .load _ _, _, _, _, _⟩) rfl fun K hK => op_load_agg rfl (b := b3) (i := 0) rfl (areaC first size) (range_whole hs (by (try dsimp only [List.set]); repeat (first | with_reducible exact List.mem_cons_self | with_reducible apply List.mem_cons_of_mem))) (by kernel_rfl) (by kernel_rfl) (hK _ _ ?_); clear hK K)
    | (have hh := mark1; clear hh; go_at_call 22; go_must (refine (slone_none W _ _ b D (hs.pick (A := disk b D) (by repeat (first | with_reducible exact Pick.here | with_reducible apply Pick.there))) first size 1 hfi (.inl hNO.out)).mono ?_); clear hs; rintro e w1 ⟨v1, rfl, hs⟩; rw [show slGen none = 0 from rfl, show (none : Option (Nat × List UInt8)).isSome = false from rfl]
       obtain ⟨A1, cc1, rfl, _, _⟩ := slice_form (hs.bytes (bytesH_has 0 rfl)))
    | (go_at_call 22; go_must (refine (slone_none W _ _ b D (hs.pick (A := disk b D) (by repeat (first | with_reducible exact Pick.here | with_reducible apply Pick.there))) first size 0 hfi (.inl hNO.out)).mono ?_); clear hs; rintro e w1 ⟨v0, rfl, hs⟩; rw [show slGen none = 0 from rfl, show (none : Option (Nat × List UInt8)).isSome = false from rfl]
       obtain ⟨A0, cc0, rfl, _, _⟩ := slice_form (hs.bytes (bytesH_has 0 rfl)); have mark1 := trivial))
  (try simp only [Exit.inBlock, Exit.then])
  refine bodyPost_ret (res_tmp3 rfl _ _ _) rfl ?_
  exact ⟨.slice A0 (slBody none).length cc0, rfl, hs.pack (by repeat (first | with_reducible exact Pack.refl | with_reducible exact Pack.nil | with_reducible refine Pack.cons (by repeat (first | with_reducible exact Pick.here | with_reducible apply Pick.there)) ?_ | with_reducible apply Pack.drop))⟩
set_option maxRecDepth 100000 in
set_option maxHeartbeats 4000000 in
theorem slload_nil (W w : World) (L : List HP) (hs : Sat W w L) (first size : Int) (hfi : first < 9223372036854775808) :
    Calls Try.prog 19 #[.pointer none, .agg (areaC first size).toArray] w (slonePost none W (L)) := by
  go_enter Try.func19, Try.ntmps19
  go_wp2_with (first
    | (guard_target = wpList _ _ _ (⟨some 3, .box _ _, _, _, _, _⟩ :: _) _ _; refine wpl (o := ⟨some 3, .box _ _, _, _, _, _⟩) rfl fun K hK => ?_; go_must (refine op_box hs rfl _ rfl (areaC first size) rfl fun b3 w1 h => hK _ _ ?_); clear hs hK K; have hs := h; clear h; try dsimp only [List.set] at hs)
    | (guard_target = wpList _ _ _ (⟨some 15, .load _ _, _, _, _, _⟩ :: _) _ _; refine wpl (o := ⟨some 15, .load _ _, _, _, _, _⟩) rfl fun K hK => op_load_agg rfl (b := b3) (i := 0) rfl (areaC first size) (range_whole hs (by (try dsimp only [List.set]); repeat (first | with_reducible exact List.mem_cons_self | with_reducible apply List.mem_cons_of_mem))) (by kernel_rfl) (by kernel_rfl) (hK _ _ ?_); clear hK K)
    | (guard_target = wpList _ _ _ (⟨some 22, .load _ _, _, _, _, _⟩ :: _) _ _; refine wpl (o := ⟨some 22, .load _ _, _, _, _, _⟩) rfl fun K hK => op_load_agg rfl (b := b3) (i := 0) rfl (areaC first size) (range_whole hs (by (try dsimp only [List.set]); repeat (first | with_reducible exact List.mem_cons_self | with_reducible apply List.mem_cons_of_mem))) (by kernel_rfl) (by kernel_rfl) (hK _ _ ?_); clear hK K)
    | (have hh := mark1; clear hh; go_at_call 22; go_must (refine (slone_nil W _ _ hs first size 1 hfi).mono ?_); clear hs; rintro e w1 ⟨v1, rfl, hs⟩; rw [show slGen none = 0 from rfl, show (none : Option (Nat × List UInt8)).isSome = false from rfl]
       obtain ⟨A1, cc1, rfl, _, _⟩ := slice_form (hs.bytes (bytesH_has 0 rfl)))
    | (go_at_call 22; go_must (refine (slone_nil W _ _ hs first size 0 hfi).mono ?_); clear hs; rintro e w1 ⟨v0, rfl, hs⟩; rw [show slGen none = 0 from rfl, show (none : Option (Nat × List UInt8)).isSome = false from rfl]
       obtain ⟨A0, cc0, rfl, _, _⟩ := slice_form (hs.bytes (bytesH_has 0 rfl)); have mark1 := trivial))
  (try simp only [Exit.inBlock, Exit.then])
  refine bodyPost_ret (res_tmp3 rfl _ _ _) rfl ?_
  exact ⟨.slice A0 (slBody none).length cc0, rfl, hs.pack (by repeat (first | with_reducible exact Pack.refl | with_reducible exact Pack.nil | with_reducible refine Pack.cons (by repeat (first | with_reducible exact Pick.here | with_reducible apply Pick.there)) ?_ | with_reducible apply Pack.drop))⟩
set_option maxRecDepth 100000 in
set_option maxHeartbeats 4000000 in
theorem slload_spec (W w : World) (L : List HP) (b : Nat) (D : Dk) (hs : Sat W w (disk b D :: L)) (f s : Nat) (hm' : slMayB D.secs.length (f : Nat) (s : Nat) = true) (hr : D.row.length ≤ 1000000) :
    Calls Try.prog 19 #[.pointer (some ⟨b, 0, none⟩), .agg (areaC (f : Nat) (s : Nat)).toArray] w (slonePost (slLoadO (slHas D f s 0) (slHas D f s 1)) W (disk b D :: L)) := by
  have HM := Box.mk hm'
  clear hm'
  obtain ⟨p0, hp0⟩ : ∃ p, (slHas D f s 0) = p := ⟨_, rfl⟩
  obtain ⟨p1, hp1⟩ : ∃ p, (slHas D f s 1) = p := ⟨_, rfl⟩
  rw [hp0, hp1]
  have HP0 := Box.mk hp0
  have HP1 := Box.mk hp1
  clear hp0 hp1
  obtain ⟨q0, hq0⟩ : ∃ q, p0.isSome = q := ⟨_, rfl⟩
  obtain ⟨q1, hq1⟩ : ∃ q, p1.isSome = q := ⟨_, rfl⟩
  have HQ := Box.mk (And.intro hq0 hq1)
  clear hq0 hq1
  cases q1
  · have HR : Box (slLoadO p0 p1 = p0) := ⟨by unfold slLoadO; rw [HQ.out.2]; simp⟩
    go_enter Try.func19, Try.ntmps19
    go_wp2_with (first
      | (guard_target = wpList _ _ _ (⟨some 3, .box _ _, _, _, _, _⟩ :: _) _ _; refine wpl (o := ⟨some 3, .box _ _, _, _, _, _⟩) rfl fun K hK => ?_; go_must (refine op_box hs rfl _ rfl (areaC (f : Nat) (s : Nat)) rfl fun b3 w1 h => hK _ _ ?_); clear hs hK K; have hs := h; clear h; try dsimp only [List.set] at hs)
      | (guard_target = wpList _ _ _ (⟨some 15, .load _ _, _, _, _, _⟩ :: _) _ _; refine wpl (o := ⟨some 15, .load _ _, _, _, _, _⟩) rfl fun K hK => op_load_agg rfl (b := b3) (i := 0) rfl (areaC (f : Nat) (s : Nat)) (range_whole hs (by (try dsimp only [List.set]); repeat (first | with_reducible exact List.mem_cons_self | with_reducible apply List.mem_cons_of_mem))) (by kernel_rfl) (by kernel_rfl) (hK _ _ ?_); clear hK K)
      | (guard_target = wpList _ _ _ (⟨some 22, .load _ _, _, _, _, _⟩ :: _) _ _; refine wpl (o := ⟨some 22, .load _ _, _, _, _, _⟩) rfl fun K hK => op_load_agg rfl (b := b3) (i := 0) rfl (areaC (f : Nat) (s : Nat)) (range_whole hs (by (try dsimp only [List.set]); repeat (first | with_reducible exact List.mem_cons_self | with_reducible apply List.mem_cons_of_mem))) (by kernel_rfl) (by kernel_rfl) (hK _ _ ?_); clear hK K)
      | (have hh := mark1; clear hh; go_at_call 22; go_must (refine (slone_spec W _ _ b D (hs.pick (A := disk b D) (by repeat (first | with_reducible exact Pick.here | with_reducible apply Pick.there))) f s 1 HM.out (by omega) hr).mono ?_); clear hs; rintro e w1 ⟨v1, rfl, hs⟩; rw [HP1.out] at hs ⊢; rw [HQ.out.2]
         obtain ⟨A1, cc1, rfl, _, _⟩ := slice_form (hs.bytes (bytesH_has 0 rfl)))
      | (go_at_call 22; go_must (refine (slone_spec W _ _ b D (hs.pick (A := disk b D) (by repeat (first | with_reducible exact Pick.here | with_reducible apply Pick.there))) f s 0 HM.out (by omega) hr).mono ?_); clear hs; rintro e w1 ⟨v0, rfl, hs⟩; rw [HP0.out] at hs ⊢; rw [HQ.out.1]
         obtain ⟨A0, cc0, rfl, _, _⟩ := slice_form (hs.bytes (bytesH_has 0 rfl)); have mark1 := trivial))
    (try simp only [Exit.inBlock, Exit.then])
    refine bodyPost_ret (res_tmp3 rfl _ _ _) rfl ?_
    refine ⟨.slice A0 (slBody p0).length cc0, by rw [HR.out, HQ.out.1]; rfl, ?_⟩
    rw [HR.out]
    exact hs.pack (by repeat (first | with_reducible exact Pack.refl | with_reducible exact Pack.nil | with_reducible refine Pack.cons (by repeat (first | with_reducible exact Pick.here | with_reducible apply Pick.there)) ?_ | with_reducible apply Pack.drop))
  · cases q0
    · have HR : Box (slLoadO p0 p1 = p1) := ⟨by unfold slLoadO; rw [HQ.out.1, HQ.out.2]; simp⟩
      go_enter Try.func19, Try.ntmps19
      go_wp2_with (first
        | (guard_target = wpList _ _ _ (⟨some 3, .box _ _, _, _, _, _⟩ :: _) _ _; refine wpl (o := ⟨some 3, .box _ _, _, _, _, _⟩) rfl fun K hK => ?_; go_must (refine op_box hs rfl _ rfl (areaC (f : Nat) (s : Nat)) rfl fun b3 w1 h => hK _ _ ?_); clear hs hK K; have hs := h; clear h; try dsimp only [List.set] at hs)
        | (guard_target = wpList _ _ _ (⟨some 15, .load _ _, _, _, _, _⟩ :: _) _ _; refine wpl (o := ⟨some 15, .load _ _, _, _, _, _⟩) rfl fun K hK => op_load_agg rfl (b := b3) (i := 0) rfl (areaC (f : Nat) (s : Nat)) (range_whole hs (by (try dsimp only [List.set]); repeat (first | with_reducible exact List.mem_cons_self | with_reducible apply List.mem_cons_of_mem))) (by kernel_rfl) (by kernel_rfl) (hK _ _ ?_); clear hK K)
        | (guard_target = wpList _ _ _ (⟨some 22, .load _ _, _, _, _, _⟩ :: _) _ _; refine wpl (o := ⟨some 22, .load _ _, _, _, _, _⟩) rfl fun K hK => op_load_agg rfl (b := b3) (i := 0) rfl (areaC (f : Nat) (s : Nat)) (range_whole hs (by (try dsimp only [List.set]); repeat (first | with_reducible exact List.mem_cons_self | with_reducible apply List.mem_cons_of_mem))) (by kernel_rfl) (by kernel_rfl) (hK _ _ ?_); clear hK K)
        | (have hh := mark1; clear hh; go_at_call 22; go_must (refine (slone_spec W _ _ b D (hs.pick (A := disk b D) (by repeat (first | with_reducible exact Pick.here | with_reducible apply Pick.there))) f s 1 HM.out (by omega) hr).mono ?_); clear hs; rintro e w1 ⟨v1, rfl, hs⟩; rw [HP1.out] at hs ⊢; rw [HQ.out.2]
           obtain ⟨A1, cc1, rfl, _, _⟩ := slice_form (hs.bytes (bytesH_has 0 rfl)))
        | (go_at_call 22; go_must (refine (slone_spec W _ _ b D (hs.pick (A := disk b D) (by repeat (first | with_reducible exact Pick.here | with_reducible apply Pick.there))) f s 0 HM.out (by omega) hr).mono ?_); clear hs; rintro e w1 ⟨v0, rfl, hs⟩; rw [HP0.out] at hs ⊢; rw [HQ.out.1]
           obtain ⟨A0, cc0, rfl, _, _⟩ := slice_form (hs.bytes (bytesH_has 0 rfl)); have mark1 := trivial))
      (try simp only [Exit.inBlock, Exit.then])
      refine bodyPost_ret (res_tmp3 rfl _ _ _) rfl ?_
      refine ⟨.slice A1 (slBody p1).length cc1, by rw [HR.out, HQ.out.2]; rfl, ?_⟩
      rw [HR.out]
      exact hs.pack (by repeat (first | with_reducible exact Pack.refl | with_reducible exact Pack.nil | with_reducible refine Pack.cons (by repeat (first | with_reducible exact Pick.here | with_reducible apply Pick.there)) ?_ | with_reducible apply Pack.drop))
    · by_cases hgt : slGen p0 < slGen p1
      · have hgtI : (slGen p0 : Int) < (slGen p1 : Int) := by omega
        have HR : Box (slLoadO p0 p1 = p1) := ⟨by unfold slLoadO; rw [HQ.out.1, HQ.out.2, decide_eq_true hgt]; simp⟩
        go_enter Try.func19, Try.ntmps19
        go_wp2_with (first
          | (guard_target = wpList _ _ _ (⟨some 3, .box _ _, _, _, _, _⟩ :: _) _ _; refine wpl (o := ⟨some 3, .box _ _, _, _, _, _⟩) rfl fun K hK => ?_; go_must (refine op_box hs rfl _ rfl (areaC (f : Nat) (s : Nat)) rfl fun b3 w1 h => hK _ _ ?_); clear hs hK K; have hs := h; clear h; try dsimp only [List.set] at hs)
          | (guard_target = wpList _ _ _ (⟨some 15, .load _ _, _, _, _, _⟩ :: _) _ _; refine wpl (o := ⟨some 15, .load _ _, _, _, _, _⟩) rfl fun K hK => op_load_agg rfl (b := b3) (i := 0) rfl (areaC (f : Nat) (s : Nat)) (range_whole hs (by (try dsimp only [List.set]); repeat (first | with_reducible exact List.mem_cons_self | with_reducible apply List.mem_cons_of_mem))) (by kernel_rfl) (by kernel_rfl) (hK _ _ ?_); clear hK K)
          | (guard_target = wpList _ _ _ (⟨some 22, .load _ _, _, _, _, _⟩ :: _) _ _; refine wpl (o := ⟨some 22, .load _ _, _, _, _, _⟩) rfl fun K hK => op_load_agg rfl (b := b3) (i := 0) rfl (areaC (f : Nat) (s : Nat)) (range_whole hs (by (try dsimp only [List.set]); repeat (first | with_reducible exact List.mem_cons_self | with_reducible apply List.mem_cons_of_mem))) (by kernel_rfl) (by kernel_rfl) (hK _ _ ?_); clear hK K)
          | (have hh := mark1; clear hh; go_at_call 22; go_must (refine (slone_spec W _ _ b D (hs.pick (A := disk b D) (by repeat (first | with_reducible exact Pick.here | with_reducible apply Pick.there))) f s 1 HM.out (by omega) hr).mono ?_); clear hs; rintro e w1 ⟨v1, rfl, hs⟩; rw [HP1.out] at hs ⊢; rw [HQ.out.2]
             obtain ⟨A1, cc1, rfl, _, _⟩ := slice_form (hs.bytes (bytesH_has 0 rfl)))
          | (go_at_call 22; go_must (refine (slone_spec W _ _ b D (hs.pick (A := disk b D) (by repeat (first | with_reducible exact Pick.here | with_reducible apply Pick.there))) f s 0 HM.out (by omega) hr).mono ?_); clear hs; rintro e w1 ⟨v0, rfl, hs⟩; rw [HP0.out] at hs ⊢; rw [HQ.out.1]
             obtain ⟨A0, cc0, rfl, _, _⟩ := slice_form (hs.bytes (bytesH_has 0 rfl)); have mark1 := trivial))
        (try simp only [Exit.inBlock, Exit.then])
        refine bodyPost_ret (res_tmp3 rfl _ _ _) rfl ?_
        refine ⟨.slice A1 (slBody p1).length cc1, by rw [HR.out, HQ.out.2]; rfl, ?_⟩
        rw [HR.out]
        exact hs.pack (by repeat (first | with_reducible exact Pack.refl | with_reducible exact Pack.nil | with_reducible refine Pack.cons (by repeat (first | with_reducible exact Pick.here | with_reducible apply Pick.there)) ?_ | with_reducible apply Pack.drop))
      · have hgtI : ¬ (slGen p0 : Int) < (slGen p1 : Int) := by omega
        have HR : Box (slLoadO p0 p1 = p0) := ⟨by unfold slLoadO; rw [HQ.out.1, HQ.out.2, decide_eq_false hgt]; simp⟩
        go_enter Try.func19, Try.ntmps19
        go_wp2_with (first
          | (guard_target = wpList _ _ _ (⟨some 3, .box _ _, _, _, _, _⟩ :: _) _ _; refine wpl (o := ⟨some 3, .box _ _, _, _, _, _⟩) rfl fun K hK => ?_; go_must (refine op_box hs rfl _ rfl (areaC (f : Nat) (s : Nat)) rfl fun b3 w1 h => hK _ _ ?_); clear hs hK K; have hs := h; clear h; try dsimp only [List.set] at hs)
          | (guard_target = wpList _ _ _ (⟨some 15, .load _ _, _, _, _, _⟩ :: _) _ _; refine wpl (o := ⟨some 15, .load _ _, _, _, _, _⟩) rfl fun K hK => op_load_agg rfl (b := b3) (i := 0) rfl (areaC (f : Nat) (s : Nat)) (range_whole hs (by (try dsimp only [List.set]); repeat (first | with_reducible exact List.mem_cons_self | with_reducible apply List.mem_cons_of_mem))) (by kernel_rfl) (by kernel_rfl) (hK _ _ ?_); clear hK K)
          | (guard_target = wpList _ _ _ (⟨some 22, .load _ _, _, _, _, _⟩ :: _) _ _; refine wpl (o := ⟨some 22, .load _ _, _, _, _, _⟩) rfl fun K hK => op_load_agg rfl (b := b3) (i := 0) rfl (areaC (f : Nat) (s : Nat)) (range_whole hs (by (try dsimp only [List.set]); repeat (first | with_reducible exact List.mem_cons_self | with_reducible apply List.mem_cons_of_mem))) (by kernel_rfl) (by kernel_rfl) (hK _ _ ?_); clear hK K)
          | (have hh := mark1; clear hh; go_at_call 22; go_must (refine (slone_spec W _ _ b D (hs.pick (A := disk b D) (by repeat (first | with_reducible exact Pick.here | with_reducible apply Pick.there))) f s 1 HM.out (by omega) hr).mono ?_); clear hs; rintro e w1 ⟨v1, rfl, hs⟩; rw [HP1.out] at hs ⊢; rw [HQ.out.2]
             obtain ⟨A1, cc1, rfl, _, _⟩ := slice_form (hs.bytes (bytesH_has 0 rfl)))
          | (go_at_call 22; go_must (refine (slone_spec W _ _ b D (hs.pick (A := disk b D) (by repeat (first | with_reducible exact Pick.here | with_reducible apply Pick.there))) f s 0 HM.out (by omega) hr).mono ?_); clear hs; rintro e w1 ⟨v0, rfl, hs⟩; rw [HP0.out] at hs ⊢; rw [HQ.out.1]
             obtain ⟨A0, cc0, rfl, _, _⟩ := slice_form (hs.bytes (bytesH_has 0 rfl)); have mark1 := trivial))
        (try simp only [Exit.inBlock, Exit.then])
        refine bodyPost_ret (res_tmp3 rfl _ _ _) rfl ?_
        refine ⟨.slice A0 (slBody p0).length cc0, by rw [HR.out, HQ.out.1]; rfl, ?_⟩
        rw [HR.out]
        exact hs.pack (by repeat (first | with_reducible exact Pack.refl | with_reducible exact Pack.nil | with_reducible refine Pack.cons (by repeat (first | with_reducible exact Pick.here | with_reducible apply Pick.there)) ?_ | with_reducible apply Pack.drop))
end Go.Proofs.Ytfpgmnnecnaheaa
