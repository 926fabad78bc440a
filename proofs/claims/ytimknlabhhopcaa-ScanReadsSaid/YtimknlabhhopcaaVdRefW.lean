/- The reference's Write. -/
import Derived.Test.YtimknlabhhopcaaVdRef
set_option linter.unusedVariables false
set_option linter.unusedSimpArgs false
namespace Go.Proofs.Ytimknlabhhopcaa
open Go.RowKit
theorem st_slice {L : List HP} {A : HP} (h : A ∈ L) {v : Value} {n sz : Nat} {vs : List Value} {F : PH} (hA : ∀ G, A G → sliceAt v n sz vs G) (hF : st L F) : sliceAt v n sz vs F := by
  obtain ⟨G, hG, hle⟩ := st_mem h hF
  exact sliceAt_mono hle (hA G hG)
set_option maxRecDepth 100000 in
set_option maxHeartbeats 1000000 in
theorem rwrite_spec (W w : World) (L : List HP) (vs va vr : Value) (D : Dk) (hs : Sat W w (ref vs va vr D :: L)) (i : Nat) (hi : i < D.secs.length) (v : Value) (l : List UInt8) (hv : Has L (bytesAt v l)) (hl : l.length ≤ 64) (hr : D.row.length ≤ 1000000) :
    Calls Try.prog 19 #[.agg #[vs, va, vr], .int .i64 i, v] w fun e w' => ∃ vs' va' vr', e = .returned (.tuple #[.agg #[vs', va', vr'], .int .i64 0]) ∧ Sat W w' (ref vs' va' vr' (D.write i l) :: L) := by
  obtain ⟨_, Av, cv, rfl, _, _, _⟩ := hs.bytes hv.tail
  obtain ⟨As, cs, rfl, _, _⟩ := slice_form (hs.slice (ref_secs m0))
  obtain ⟨Aa, ca, rfl, _, _⟩ := slice_form (hs.slice (ref_ats m0))
  obtain ⟨Ar, cr, rfl, _, _⟩ := slice_form (hs.slice (ref_row m0))
  generalize hR : ref (.slice As D.secs.length cs) (.slice Aa D.row.length ca) (.slice Ar D.row.length cr) D = R at hs
  have hRa : Has (R :: L) (sliceAt (.slice Aa D.row.length ca) D.row.length 1 (ints (D.row.map (·.1)))) := by rw [← hR]; exact ref_ats m0
  have hRr : Has (R :: L) (sliceAt (.slice Ar D.row.length cr) D.row.length 1 (strs (D.row.map (·.2)))) := by rw [← hR]; exact ref_row m0
  go_enter Try.func19, Try.ntmps19
  go_wp2_with (first
    | (guard_target = wpList _ _ _ (⟨some 3, .box _ _, _, _, _, _⟩ :: _) _ _; refine wpl (o := ⟨some 3, .box _ _, _, _, _, _⟩) rfl fun K hK => ?_; go_must (refine op_box hs rfl _ rfl [.slice As D.secs.length cs, .slice Aa D.row.length ca, .slice Ar D.row.length cr] rfl fun b3 w1 h => hK _ _ ?_); clear hs hK K; have hs := h; clear h)
    | (guard_target = wpList _ _ _ (⟨some 6, .alloc _, _, _, _, _⟩ :: _) _ _; refine wpl (o := ⟨some 6, .alloc _, _, _, _, _⟩) rfl fun K hK => ?_; go_must (refine op_alloc hs rfl _ zref [.slice none 0 0, .slice none 0 0, .slice none 0 0] rfl fun b6 w1 h => hK _ _ ?_); clear hs hK K; have hs := h; clear h)
    | (guard_target = wpList _ _ _ (⟨some 14, .load _ _, _, _, _, _⟩ :: _) _ _; refine wpl (o := ⟨some 14, .load _ _, _, _, _, _⟩) rfl fun K hK => op_load rfl (ad := ⟨b3, 0, none⟩) rfl (by kernel_rfl) (hs.cell m1 rfl) (hK _ _ ?_); clear hK K)
    | (guard_target = wpList _ _ _ (⟨some 24, .load _ _, _, _, _, _⟩ :: _) _ _; refine wpl (o := ⟨some 24, .load _ _, _, _, _, _⟩) rfl fun K hK => op_load rfl (ad := ⟨b3, 0, none⟩) rfl (by kernel_rfl) (hs.cell m1 rfl) (hK _ _ ?_); clear hK K)
    | (guard_target = wpList _ _ _ (⟨some 8, .alloc _, _, _, _, _⟩ :: _) _ _; refine wpl (o := ⟨some 8, .alloc _, _, _, _, _⟩) rfl fun K hK => ?_; go_must (refine op_alloc hs rfl _ zref [.slice none 0 0, .slice none 0 0, .slice none 0 0] rfl fun b8 w1 h => hK _ _ ?_); clear hs hK K; have hs := h; clear h)
    | (guard_target = wpList _ _ _ (⟨none, .store _ (.tmp 8) _, _, _, _, _⟩ :: _) _ _; refine wpl (o := ⟨none, .store _ (.tmp 8) _, _, _, _, _⟩) rfl fun K hK => ?_; go_must (refine op_store_whole hs (b := b8) rfl rfl [.slice As D.secs.length cs, .slice none 0 0, .slice none 0 0] rfl (slices_one rfl rfl rfl) (by kernel_rfl) (k := 0) rfl rfl fun w3 h => hK _ _ ?_); clear hs hK K; have hs := h; clear h; dsimp only [List.set] at hs)
    | (guard_target = wpList _ _ _ (⟨some 26, .buildSlice _ _ _, _, _, _, _⟩ :: _) _ _; refine wpl (o := ⟨some 26, .buildSlice _ _ _, _, _, _, _⟩) rfl fun K hK => ?_; go_must (refine op_lit hs rfl Try.underlying30 info_int [] (by omega) (by simp [Instr.fill]) fun b26 w1 h => hK _ _ ?_); clear hs hK K; have hs := h; clear h)
    | (guard_target = wpList _ _ _ (⟨some 28, .load _ _, _, _, _, _⟩ :: _) _ _; refine wpl (o := ⟨some 28, .load _ _, _, _, _, _⟩) rfl fun K hK => op_load rfl (ad := ⟨b3, 1, none⟩) rfl (by kernel_rfl) (hs.cell m3 rfl) (hK _ _ ?_); clear hK K)
    | (guard_target = wpList _ _ _ (⟨some 29, .call _, _, _, _, _⟩ :: _) _ _; refine wpl (o := ⟨some 29, .call _, _, _, _, _⟩) rfl fun K hK => ?_; go_must (refine op_append_new hs rfl Try.underlying30 Try.underlying30 info_int rfl (by omega) rfl (slice_nil _ 1 (Has.head fun _ _ => trivial)) rfl (by repeat (first | exact hRa | apply Has.tail)) (.inr rfl) (by omega) (by omega) fun v29 w2 h => hK _ _ ?_); clear hs hK K; have hs := h; clear h)
    | (guard_target = wpList _ _ _ (⟨some 31, .buildSlice _ _ _, _, _, _, _⟩ :: _) _ _; refine wpl (o := ⟨some 31, .buildSlice _ _ _, _, _, _, _⟩) rfl fun K hK => ?_; go_must (refine op_lit1 hs rfl Try.underlying30 info_int rfl (ints [i]) (by omega) rfl (ints_one _) (by simp [ints, Act.eval]) fun b31 w3 h => hK _ _ ?_); clear hs hK K; have hs := h; clear h)
    | (guard_target = wpList _ _ _ (⟨some 32, .call _, _, _, _, _⟩ :: _) _ _; refine wpl (o := ⟨some 32, .call _, _, _, _, _⟩) rfl fun K hK => ?_; go_must (refine op_append hs rfl Try.underlying30 Try.underlying30 info_int rfl (by omega) (k := 1) rfl rfl rfl (lit_slice 0 rfl 1 1 rfl (by omega)) (ints_one _) (by omega) (by omega) fun v32 w4 h => hK _ _ ?_); clear hs hK K; have hs := h; clear h; dsimp only [List.set] at hs
       obtain ⟨A32, c32, rfl, _, _⟩ := own_slice hs (i := 1) rfl
       simp only [Nat.zero_add, List.nil_append] at hs)
    | (guard_target = wpList _ _ _ (⟨none, .store _ (.tmp 33) _, _, _, _, _⟩ :: _) _ _; refine wpl (o := ⟨none, .store _ (.tmp 33) _, _, _, _, _⟩) rfl fun K hK => ?_; go_must (refine op_store hs (b := b8) (i := 1) (v := .slice A32 (D.row.length + 1) c32) rfl rfl rfl rfl (by kernel_rfl) (k := 3) rfl (by simp) fun w5 h => hK _ _ ?_); clear hs hK K; have hs := h; clear h; dsimp only [List.set] at hs)
    | (guard_target = wpList _ _ _ (⟨some 34, .buildSlice _ _ _, _, _, _, _⟩ :: _) _ _; refine wpl (o := ⟨some 34, .buildSlice _ _ _, _, _, _, _⟩) rfl fun K hK => ?_; go_must (refine op_lit hs rfl Try.underlying29 info_str [] (by omega) (by simp [Instr.fill]) fun b34 w1 h => hK _ _ ?_); clear hs hK K; have hs := h; clear h)
    | (guard_target = wpList _ _ _ (⟨some 36, .load _ _, _, _, _, _⟩ :: _) _ _; refine wpl (o := ⟨some 36, .load _ _, _, _, _, _⟩) rfl fun K hK => op_load rfl (ad := ⟨b3, 2, none⟩) rfl (by kernel_rfl) (hs.cell m6 rfl) (hK _ _ ?_); clear hK K)
    | (guard_target = wpList _ _ _ (⟨some 37, .call _, _, _, _, _⟩ :: _) _ _; refine wpl (o := ⟨some 37, .call _, _, _, _, _⟩) rfl fun K hK => ?_; go_must (refine op_append_new hs rfl Try.underlying29 Try.underlying29 info_str rfl (by omega) rfl (slice_nil _ 1 (Has.head fun _ _ => trivial)) rfl (by repeat (first | exact hRr | apply Has.tail)) (.inr rfl) (by omega) (by omega) fun v37 w2 h => hK _ _ ?_); clear hs hK K; have hs := h; clear h)
    | (go_at_call 46; go_must (refine (full_spec W _ _ hs _ l (by repeat (first | exact hv | apply Has.tail)) (by omega)).mono ?_); clear hs; rintro e w1 ⟨rfl, hs⟩)
    | (guard_target = wpList _ _ _ (⟨some 40, .buildSlice _ _ _, _, _, _, _⟩ :: _) _ _; refine wpl (o := ⟨some 40, .buildSlice _ _ _, _, _, _, _⟩) rfl fun K hK => ?_; go_must (refine op_lit1 hs rfl Try.underlying29 info_str rfl (strs [pad l]) (by omega) rfl (strs_one _) (by simp [strs, str, Act.eval]) fun b40 w3 h => hK _ _ ?_); clear hs hK K; have hs := h; clear h)
    | (guard_target = wpList _ _ _ (⟨some 41, .call _, _, _, _, _⟩ :: _) _ _; refine wpl (o := ⟨some 41, .call _, _, _, _, _⟩) rfl fun K hK => ?_; go_must (refine op_append hs rfl Try.underlying29 Try.underlying29 info_str rfl (by omega) (k := 1) rfl rfl rfl (lit_slice 0 rfl 1 1 rfl (by omega)) (strs_one _) (by omega) (by omega) fun v41 w4 h => hK _ _ ?_); clear hs hK K; have hs := h; clear h; dsimp only [List.set] at hs
       obtain ⟨A41, c41, rfl, _, _⟩ := own_slice hs (i := 1) rfl
       simp only [Nat.zero_add, List.nil_append] at hs)
    | (guard_target = wpList _ _ _ (⟨none, .store _ (.tmp 42) _, _, _, _, _⟩ :: _) _ _; refine wpl (o := ⟨none, .store _ (.tmp 42) _, _, _, _, _⟩) rfl fun K hK => ?_; go_must (refine op_store hs (b := b8) (i := 2) (v := .slice A41 (D.row.length + 1) c41) rfl rfl rfl rfl (by kernel_rfl) (k := 6) rfl (by simp) fun w5 h => hK _ _ ?_); clear hs hK K; have hs := h; clear h; dsimp only [List.set] at hs)
    | (guard_target = wpList _ _ _ (⟨some 43, .load _ _, _, _, _, _⟩ :: _) _ _; refine wpl (o := ⟨some 43, .load _ _, _, _, _, _⟩) rfl fun K hK => op_load_agg rfl (b := b8) (i := 0) rfl [.slice As D.secs.length cs, .slice A32 (D.row.length + 1) c32, .slice A41 (D.row.length + 1) c41] (range_whole hs m6) (by kernel_rfl) (by kernel_rfl) (hK _ _ ?_); clear hK K)
    | (guard_target = wpList _ _ _ (⟨none, .store _ (.tmp 6) _, _, _, _, _⟩ :: _) _ _; refine wpl (o := ⟨none, .store _ (.tmp 6) _, _, _, _, _⟩) rfl fun K hK => ?_; go_must (refine op_store_whole hs (b := b6) rfl rfl [.slice As D.secs.length cs, .slice A32 (D.row.length + 1) c32, .slice A41 (D.row.length + 1) c41] rfl (slices_one rfl rfl rfl) (by kernel_rfl) (k := 7) rfl rfl fun w3 h => hK _ _ ?_); clear hs hK K; have hs := h; clear h; dsimp only [List.set] at hs))
  refine bodyPost_ret (run_results_cell_tmp rfl (b := b6) rfl [.slice As D.secs.length cs, .slice A32 (D.row.length + 1) c32, .slice A41 (D.row.length + 1) c41] (range_whole hs m7) (by kernel_rfl) (by kernel_rfl)) rfl ⟨_, _, _, rfl, ?_⟩
  have h1 : Sat W w3 (own (.slice A41 (D.row.length + 1) c41) 9 (D.row.length + 1) 1 (strs (D.row.map (·.2)) ++ strs [pad l]) :: own (.slice A32 (D.row.length + 1) c32) 3 (D.row.length + 1) 1 (ints (D.row.map (·.1)) ++ ints [i]) :: R :: L) := hs.keep (by repeat (first | exact List.Sublist.refl _ | with_reducible apply List.Sublist.cons_cons | apply List.Sublist.cons))
  refine Sat.shut (L' := [own (.slice A41 (D.row.length + 1) c41) 9 (D.row.length + 1) 1 (strs (D.row.map (·.2)) ++ strs [pad l]), own (.slice A32 (D.row.length + 1) c32) 3 (D.row.length + 1) 1 (ints (D.row.map (·.1)) ++ ints [i]), R]) h1 fun F hF => ?_
  refine ⟨st_slice m2 (fun G hG => by rw [← hR] at hG; exact hG.1) hF, ?_, ?_⟩
  · have := st_slice m1 own_sliceAt hF
    simpa [Dk.write, ints] using this
  · have := st_slice m0 own_sliceAt hF
    simpa [Dk.write, strs] using this
set_option maxRecDepth 100000 in
set_option maxHeartbeats 400000 in
theorem rwrite_bad (W w : World) (L : List HP) (vs va vr : Value) (D : Dk) (hs : Sat W w (ref vs va vr D :: L)) (i : Int) (v : Value) (l : List UInt8) (hv : Has L (bytesAt v l)) (x : Nat) (hx : (x = 11 ∧ (i < 0 ∨ (D.secs.length : Int) ≤ i)) ∨ (x = 1 ∧ 0 ≤ i ∧ i < (D.secs.length : Int) ∧ 64 < l.length)) :
    Calls Try.prog 19 #[.agg #[vs, va, vr], .int .i64 i, v] w fun e w' => e = .returned (.tuple #[.agg #[vs, va, vr], .int .i64 x]) ∧ Sat W w' (ref vs va vr D :: L) := by
  obtain ⟨_, Av, cv, rfl, _, _, _⟩ := hs.bytes hv.tail
  obtain ⟨As, cs, rfl, _, _⟩ := slice_form (hs.slice (ref_secs m0))
  obtain ⟨Aa, ca, rfl, _, _⟩ := slice_form (hs.slice (ref_ats m0))
  obtain ⟨Ar, cr, rfl, _, _⟩ := slice_form (hs.slice (ref_row m0))
  go_enter Try.func19, Try.ntmps19
  have fin : (i < 0) ∨ (0 ≤ i ∧ (D.secs.length : Int) ≤ i) ∨ (0 ≤ i ∧ i < (D.secs.length : Int)) := by omega
  rcases fin with h0 | h0 | h0
  · obtain ⟨rfl, _⟩ | hx := hx
    · go_wp2_with (first
        | (guard_target = wpList _ _ _ (⟨some 3, .box _ _, _, _, _, _⟩ :: _) _ _; refine wpl (o := ⟨some 3, .box _ _, _, _, _, _⟩) rfl fun K hK => ?_; go_must (refine op_box hs rfl _ rfl [.slice As D.secs.length cs, .slice Aa D.row.length ca, .slice Ar D.row.length cr] rfl fun b3 w1 h => hK _ _ ?_); clear hs hK K; have hs := h; clear h)
        | (guard_target = wpList _ _ _ (⟨some 6, .alloc _, _, _, _, _⟩ :: _) _ _; refine wpl (o := ⟨some 6, .alloc _, _, _, _, _⟩) rfl fun K hK => ?_; go_must (refine op_alloc hs rfl _ zref [.slice none 0 0, .slice none 0 0, .slice none 0 0] rfl fun b6 w1 h => hK _ _ ?_); clear hs hK K; have hs := h; clear h)
        | (guard_target = wpList _ _ _ (⟨some 18, .load _ _, _, _, _, _⟩ :: _) _ _; refine wpl (o := ⟨some 18, .load _ _, _, _, _, _⟩) rfl fun K hK => op_load_agg rfl (b := b3) (i := 0) rfl [.slice As D.secs.length cs, .slice Aa D.row.length ca, .slice Ar D.row.length cr] (range_whole hs m1) (by kernel_rfl) (by kernel_rfl) (hK _ _ ?_); clear hK K)
        | (guard_target = wpList _ _ _ (⟨none, .store _ (.tmp 6) _, _, _, _, _⟩ :: _) _ _; refine wpl (o := ⟨none, .store _ (.tmp 6) _, _, _, _, _⟩) rfl fun K hK => ?_; go_must (refine op_store_whole hs (b := b6) rfl rfl [.slice As D.secs.length cs, .slice Aa D.row.length ca, .slice Ar D.row.length cr] rfl (slices_one rfl rfl rfl) (by kernel_rfl) (k := 0) rfl rfl fun w3 h => hK _ _ ?_); clear hs hK K; have hs := h; clear h; dsimp only [List.set] at hs))
      exact bodyPost_ret (run_results_cell_tmp rfl (b := b6) rfl [.slice As D.secs.length cs, .slice Aa D.row.length ca, .slice Ar D.row.length cr] (range_whole hs m0) (by kernel_rfl) (by kernel_rfl)) rfl ⟨rfl, hs.tail.tail⟩
    · omega
  · obtain ⟨rfl, _⟩ | hx := hx
    · obtain ⟨h0, h1⟩ := h0
      have h5 : ¬ i < 0 := by omega
      clear h0
      have h2 : ¬ i < (D.secs.length : Int) := by omega
      go_wp2_with (first
        | (guard_target = wpList _ _ _ (⟨some 3, .box _ _, _, _, _, _⟩ :: _) _ _; refine wpl (o := ⟨some 3, .box _ _, _, _, _, _⟩) rfl fun K hK => ?_; go_must (refine op_box hs rfl _ rfl [.slice As D.secs.length cs, .slice Aa D.row.length ca, .slice Ar D.row.length cr] rfl fun b3 w1 h => hK _ _ ?_); clear hs hK K; have hs := h; clear h)
        | (guard_target = wpList _ _ _ (⟨some 6, .alloc _, _, _, _, _⟩ :: _) _ _; refine wpl (o := ⟨some 6, .alloc _, _, _, _, _⟩) rfl fun K hK => ?_; go_must (refine op_alloc hs rfl _ zref [.slice none 0 0, .slice none 0 0, .slice none 0 0] rfl fun b6 w1 h => hK _ _ ?_); clear hs hK K; have hs := h; clear h)
        | (guard_target = wpList _ _ _ (⟨some 14, .load _ _, _, _, _, _⟩ :: _) _ _; refine wpl (o := ⟨some 14, .load _ _, _, _, _, _⟩) rfl fun K hK => op_load rfl (ad := ⟨b3, 0, none⟩) rfl (by kernel_rfl) (hs.cell m1 rfl) (hK _ _ ?_); clear hK K)
        | (guard_target = wpList _ _ _ (⟨some 18, .load _ _, _, _, _, _⟩ :: _) _ _; refine wpl (o := ⟨some 18, .load _ _, _, _, _, _⟩) rfl fun K hK => op_load_agg rfl (b := b3) (i := 0) rfl [.slice As D.secs.length cs, .slice Aa D.row.length ca, .slice Ar D.row.length cr] (range_whole hs m1) (by kernel_rfl) (by kernel_rfl) (hK _ _ ?_); clear hK K)
        | (guard_target = wpList _ _ _ (⟨none, .store _ (.tmp 6) _, _, _, _, _⟩ :: _) _ _; refine wpl (o := ⟨none, .store _ (.tmp 6) _, _, _, _, _⟩) rfl fun K hK => ?_; go_must (refine op_store_whole hs (b := b6) rfl rfl [.slice As D.secs.length cs, .slice Aa D.row.length ca, .slice Ar D.row.length cr] rfl (slices_one rfl rfl rfl) (by kernel_rfl) (k := 0) rfl rfl fun w3 h => hK _ _ ?_); clear hs hK K; have hs := h; clear h; dsimp only [List.set] at hs))
      exact bodyPost_ret (run_results_cell_tmp rfl (b := b6) rfl [.slice As D.secs.length cs, .slice Aa D.row.length ca, .slice Ar D.row.length cr] (range_whole hs m0) (by kernel_rfl) (by kernel_rfl)) rfl ⟨rfl, hs.tail.tail⟩
    · omega
  · obtain ⟨rfl, hx⟩ | ⟨rfl, h1, h2, h3⟩ := hx
    · omega
    · have h4 : ¬ (D.secs.length : Int) ≤ i := by omega
      have h5 : ¬ i < 0 := by omega
      have h6 : (64 : Int) < (l.length : Int) := by omega
      clear h0 h1
      go_wp2_with (first
        | (guard_target = wpList _ _ _ (⟨some 3, .box _ _, _, _, _, _⟩ :: _) _ _; refine wpl (o := ⟨some 3, .box _ _, _, _, _, _⟩) rfl fun K hK => ?_; go_must (refine op_box hs rfl _ rfl [.slice As D.secs.length cs, .slice Aa D.row.length ca, .slice Ar D.row.length cr] rfl fun b3 w1 h => hK _ _ ?_); clear hs hK K; have hs := h; clear h)
        | (guard_target = wpList _ _ _ (⟨some 6, .alloc _, _, _, _, _⟩ :: _) _ _; refine wpl (o := ⟨some 6, .alloc _, _, _, _, _⟩) rfl fun K hK => ?_; go_must (refine op_alloc hs rfl _ zref [.slice none 0 0, .slice none 0 0, .slice none 0 0] rfl fun b6 w1 h => hK _ _ ?_); clear hs hK K; have hs := h; clear h)
        | (guard_target = wpList _ _ _ (⟨some 14, .load _ _, _, _, _, _⟩ :: _) _ _; refine wpl (o := ⟨some 14, .load _ _, _, _, _, _⟩) rfl fun K hK => op_load rfl (ad := ⟨b3, 0, none⟩) rfl (by kernel_rfl) (hs.cell m1 rfl) (hK _ _ ?_); clear hK K)
        | (guard_target = wpList _ _ _ (⟨some 22, .load _ _, _, _, _, _⟩ :: _) _ _; refine wpl (o := ⟨some 22, .load _ _, _, _, _, _⟩) rfl fun K hK => op_load_agg rfl (b := b3) (i := 0) rfl [.slice As D.secs.length cs, .slice Aa D.row.length ca, .slice Ar D.row.length cr] (range_whole hs m1) (by kernel_rfl) (by kernel_rfl) (hK _ _ ?_); clear hK K)
        | (guard_target = wpList _ _ _ (⟨none, .store _ (.tmp 6) _, _, _, _, _⟩ :: _) _ _; refine wpl (o := ⟨none, .store _ (.tmp 6) _, _, _, _, _⟩) rfl fun K hK => ?_; go_must (refine op_store_whole hs (b := b6) rfl rfl [.slice As D.secs.length cs, .slice Aa D.row.length ca, .slice Ar D.row.length cr] rfl (slices_one rfl rfl rfl) (by kernel_rfl) (k := 0) rfl rfl fun w3 h => hK _ _ ?_); clear hs hK K; have hs := h; clear h; dsimp only [List.set] at hs))
      exact bodyPost_ret (run_results_cell_tmp rfl (b := b6) rfl [.slice As D.secs.length cs, .slice Aa D.row.length ca, .slice Ar D.row.length cr] (range_whole hs m0) (by kernel_rfl) (by kernel_rfl)) rfl ⟨rfl, hs.tail.tail⟩
end Go.Proofs.Ytimknlabhhopcaa
