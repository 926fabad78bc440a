/- The law RedoBack. -/
import Derived.Test.YthjnefpnnifjiaaDoorRdBackP
set_option linter.unusedVariables false
set_option linter.unusedSimpArgs false
namespace Go.Proofs.YthjnefpnnifjiaaDoor
open Go.RowKit
/-- A leaf of a walk that is cut into several declarations. -/
structure RdBackLeaf (p : Prop) : Prop where
  out : p
structure RdBackCut1 (M : Prop) where
  p1 : Prop
  go : RdBackLeaf p1 → M
set_option maxRecDepth 100000 in
set_option maxHeartbeats 30000000 in
noncomputable def redoBack_walk_cut : RdBackCut1 (∀ (W w : World) (L : List HP) (hs : Sat W w L) (hold : old W ∈ L) (hm : maxLenIs W) (c : RCm) (hco : c.Small) (y : UInt8) (vw : Value) (hvw : Has L (sliceAt vw c.W.length 4 (wsC c.W))), Calls Tryd.prog 5 #[.agg (cmC c vw).toArray, .int .u8 y.toNat] w fun e w' => e = .returned (.bool true) ∧ Sat W w' L) := by
  apply RdBackCut1.mk
  case go =>
    intro K_redoBack_walk_a W w L hs hold hm c hco y vw hvw
    obtain ⟨Aw, cw, rfl, _, _⟩ := slice_form (hs.slice hvw)
    have HW := Box.mk hvw
    have HA := Box.mk (fun w (L : List HP) hs ho => awake20_spec W w L hs ho hm)
    have HM := Box.mk hm
    have hlw := hco.len
    have HCO := Box.mk hco
    clear hvw hm hco
    by_cases w60 : c.W.length ≤ 60
    · have w60I : ¬ (60 : Int) < (c.W.length : Int) := by omega
      have B := back_ok c HCO.out w60
      have HTD := Box.mk (fun w (L : List HP) hs hv => tidy_spec W w L hs c (.slice Aw c.W.length cw) hv (by omega))
      unfold tidyPost at HTD
      have HAP0 := fun w (L : List HP) hs hv vw hvw => apply_spec W w L hs back0 (tidyC c) (.slice none 0 0) vw hv hvw (by have := B.xl; show 0 + _ ≤ _; omega)
      generalize hYg : applyR back0 (tidyC c) = Y at *
      generalize tidyC c = X at *
      have HAP := Box.mk HAP0
      unfold apPost at HAP
      have HPU0 := fun w (L : List HP) hs ho v hv => put_spec W w L hs ho HM.out X B.xok (by have := B.xl; omega) v hv
      have HPS0 := fun w (L : List HP) hs ho v hv => putState_spec W w L hs ho HM.out Y B.yok (by have := B.yl; omega) v hv
      generalize encCm X = E at *
      generalize encSt Y = D at *
      obtain ⟨em, hem⟩ : ∃ em, E.length = em + 1 := ⟨E.length - 1, by have := B.e0; omega⟩
      obtain ⟨dm, hdm⟩ : ∃ dm, D.length = dm + 1 := ⟨D.length - 1, by have := B.d0; omega⟩
      rw [hem] at HPU0
      rw [hdm] at HPS0
      have HPU := Box.mk HPU0
      have HPS := Box.mk HPS0
      have b0 := B.e0
      have b1 := B.e1
      have b2 := B.d0
      have b3 := B.d1
      have xl := B.xl
      have yl := B.yl
      have hEl : E.take em = E.take (E.length - 1) := by rw [hem]; rfl
      have hDl : D.take dm = D.take (D.length - 1) := by rw [hdm]; rfl
      have HT1 := Box.mk (fun w (L : List HP) hs ho v hv => take_yes W w L hs ho HM.out v E X B.t1 hv (by omega))
      have HT2 := Box.mk (fun w (L : List HP) hs ho v hv => take_no W w L hs ho HM.out v (E.take em) (by rw [hEl]; exact takeCm_less B.t1 (by omega)) hv (by simp; omega))
      have HT3 := Box.mk (fun w (L : List HP) hs ho v hv => take_no W w L hs ho HM.out v (E ++ [y]) (takeCm_more B.t1 [y] (by simp)) hv (by simp; omega))
      have HS1 := Box.mk (fun w (L : List HP) hs ho v hv => takeSt_yes W w L hs ho HM.out v D Y B.s1 hv (by omega))
      have HS2 := Box.mk (fun w (L : List HP) hs ho v hv => takeSt_no W w L hs ho HM.out v (D.take dm) (by rw [hDl]; exact takeSt_less B.s1 (by omega)) hv (by simp; omega))
      have HS3 := Box.mk (fun w (L : List HP) hs ho v hv => takeSt_no W w L hs ho HM.out v (D ++ [y]) (takeSt_more B.s1 [y] (by simp)) hv (by simp; omega))
      have HSM := Box.mk (fun w (L : List HP) hs u v hu hv => same_spec W w L hs X u v hu hv (by omega))
      have HRY := Box.mk (fun w (L : List HP) hs v hv => real_spec W w L hs Y v hv (by omega))
      have HSY := Box.mk (fun w (L : List HP) hs u v hu hv => rsame_spec W w L hs Y u v hu hv (by omega))
      have HEL : Box (∀ {v : Value} (F : PH), (own v 5 (em + 1) 1 (u8s E)) F → bytesAt v E F) := ⟨fun F hF => by unfold bytesAt; rw [hem]; exact own_sliceAt F hF⟩
      have HDL : Box (∀ {v : Value} (F : PH), (own v 5 (dm + 1) 1 (u8s D)) F → bytesAt v D F) := ⟨fun F hF => by unfold bytesAt; rw [hdm]; exact own_sliceAt F hF⟩
      have HE2 : Box (∀ (b cc : Nat) (F : PH), bytesAt (.slice (some ⟨b, 0, none⟩) (em + 1) cc) E F → bytesAt (.slice (some ⟨b, 0, none⟩) em cc) (E.take em) F) := ⟨fun b cc F h => bytes_take h em (by omega)⟩
      have HD2 : Box (∀ (b cc : Nat) (F : PH), bytesAt (.slice (some ⟨b, 0, none⟩) (dm + 1) cc) D F → bytesAt (.slice (some ⟨b, 0, none⟩) dm cc) (D.take dm) F) := ⟨fun b cc F h => bytes_take h dm (by omega)⟩
      have HE3 : Box (em + 1 + 1 = (E ++ [y]).length) := ⟨by simp; omega⟩
      have HD3 : Box (dm + 1 + 1 = (D ++ [y]).length) := ⟨by simp; omega⟩
      have hem2 : em ≤ 200000000 := by omega
      have hdm2 : dm ≤ 200000000 := by omega
      have h12 : ¬ (em : Int) + 1 < 12 := by omega
      have h20 : ¬ (dm : Int) + 1 < 20 := by omega
      have h12b : 11 ≤ (em : Int) := by omega
      have h20b : 19 ≤ (dm : Int) := by omega
      have w1 : IntKind.i64.wrap ((em : Int) + 1 - 1) = em := by rw [IntKind.wrap_i64]; omega
      have w2 : IntKind.i64.wrap (em : Int) = em := by rw [IntKind.wrap_i64]; omega
      have w3 : IntKind.i64.wrap ((dm : Int) + 1 - 1) = dm := by rw [IntKind.wrap_i64]; omega
      have w4 : IntKind.i64.wrap (dm : Int) = dm := by rw [IntKind.wrap_i64]; omega
      have hz := run_zero (P := Tryd.prog) zstateR
      have hzm := run_zero (P := Tryd.prog) zcommit
      clear B HAP0 HPU0 HPS0 hYg hEl hDl hem hdm b0 b1 b2 b3
      go_enter Tryd.func5, Tryd.ntmps5
      go_wp2_with (first
        | (guard_target = wpList _ _ _ (⟨some 2, .box _ _, _, _, _, _⟩ :: _) _ _; refine wpl (o := ⟨some 2, .box _ _, _, _, _, _⟩) rfl fun K hK => ?_; go_must (refine op_box hs rfl _ rfl (cmC c (.slice Aw c.W.length cw)) rfl fun b2 w1 h => hK _ _ ?_); clear hs hK K; have hs := h; clear h; try dsimp only [List.set] at hs)
        | (go_at_call 9; go_must (refine (HA.out _ _ hs (by (try dsimp only [List.set]); repeat (first | exact hold | apply List.mem_cons_of_mem))).mono ?_); clear hs; rintro e w1 ⟨rfl, hs⟩)
        | (guard_target = wpList _ _ _ (⟨some 24, .load _ _, _, _, _, _⟩ :: _) _ _; refine wpl (o := ⟨some 24, .load _ _, _, _, _, _⟩) rfl fun K hK => op_load rfl (ad := ⟨b2, 1, none⟩) rfl (by kernel_rfl) (hs.cell (l := cmC c (.slice Aw c.W.length cw)) (t := 24) (by (try dsimp only [List.set]); repeat (first | with_reducible exact List.mem_cons_self | with_reducible apply List.mem_cons_of_mem)) rfl) (hK _ _ ?_); clear hK K)
        | (guard_target = wpList _ _ _ (⟨some 28, .load _ _, _, _, _, _⟩ :: _) _ _; refine wpl (o := ⟨some 28, .load _ _, _, _, _, _⟩) rfl fun K hK => op_load_agg rfl (b := b2) (i := 0) rfl ((cmC c (.slice Aw c.W.length cw))) (range_whole hs (by (try dsimp only [List.set]); repeat (first | with_reducible exact List.mem_cons_self | with_reducible apply List.mem_cons_of_mem))) (by kernel_rfl) (by kernel_rfl) (hK _ _ ?_); clear hK K)
        | (go_at_call 21; go_must (refine (HTD.out _ _ hs (show Has _ (sliceAt (.slice Aw c.W.length cw) c.W.length 4 (wsC c.W)) from (by (try dsimp only [List.set]); repeat (first | exact HW.out | apply Has.tail)))).mono ?_); clear hs; rintro e w1 ⟨v29, rfl, hs⟩
           obtain ⟨A29, c29, rfl, _, _⟩ := own_slice hs (i := 0) rfl)
        | (guard_target = wpList _ _ _ (⟨some 6, .alloc _, _, _, _, _⟩ :: _) _ _; refine wpl (o := ⟨some 6, .alloc _, _, _, _, _⟩) rfl fun K hK => ?_; go_must (refine op_alloc hs rfl _ zcommit [Value.int .i64 0, .slice none 0 0] rfl fun b6 w1 h => hK _ _ ?_); clear hs hK K; have hs := h; clear h; try dsimp only [List.set] at hs)
        | (guard_target = wpList _ _ _ (⟨none, .store _ (.tmp 6) _, _, _, _, _⟩ :: _) _ _; refine wpl (o := ⟨none, .store _ (.tmp 6) _, _, _, _, _⟩) rfl fun K hK => ?_; go_must (refine op_store_whole hs (b := b6) rfl rfl (cmC X (.slice A29 X.W.length c29)) rfl (by simp [cmC, Value.oneCell']) (by kernel_rfl) (k := 0) rfl rfl fun w3 h => hK _ _ ?_); clear hs hK K; have hs := h; clear h; try dsimp only [List.set] at hs)
        | (guard_target = wpList _ _ _ (⟨some 30, .load _ _, _, _, _, _⟩ :: _) _ _; refine wpl (o := ⟨some 30, .load _ _, _, _, _, _⟩) rfl fun K hK => op_load_agg rfl (b := b6) (i := 0) rfl ((cmC X (.slice A29 X.W.length c29))) (range_whole hs (by (try dsimp only [List.set]); repeat (first | with_reducible exact List.mem_cons_self | with_reducible apply List.mem_cons_of_mem))) (by kernel_rfl) (by kernel_rfl) (hK _ _ ?_); clear hK K)
        | (go_at_call 12; go_must (refine (HPU.out _ _ hs (by (try dsimp only [List.set]); repeat (first | exact hold | apply List.mem_cons_of_mem)) (.slice A29 X.W.length c29) (Has.of (A := own (.slice A29 X.W.length c29) 61 X.W.length 4 (wsC X.W)) (by (try dsimp only [List.set]); repeat (first | with_reducible exact List.mem_cons_self | with_reducible apply List.mem_cons_of_mem)) own_sliceAt)).mono ?_); clear hs; rintro e w1 ⟨v31, rfl, hs⟩
           obtain ⟨b31, c31, rfl⟩ := own_form hs m0 (by omega))
        | (go_at_call 10; go_must (refine (HT1.out _ _ hs (by (try dsimp only [List.set]); repeat (first | exact hold | apply List.mem_cons_of_mem)) (.slice (some ⟨b31, 0, none⟩) (em + 1) c31) (Has.of (A := (own (.slice (some ⟨b31, 0, none⟩) (em + 1) c31) 5 (em + 1) 1 (u8s E))) (by (try dsimp only [List.set]); repeat (first | with_reducible exact List.mem_cons_self | with_reducible apply List.mem_cons_of_mem)) HEL.out)).mono ?_); clear hs; rintro e w1 ⟨v35, rfl, hs⟩
           obtain ⟨A35, c35, rfl, _, _⟩ := own_slice hs (i := 0) rfl)
        | (guard_target = wpList _ _ _ (⟨some 8, .alloc _, _, _, _, _⟩ :: _) _ _; refine wpl (o := ⟨some 8, .alloc _, _, _, _, _⟩) rfl fun K hK => ?_; go_must (refine op_alloc hs rfl _ zcommit [Value.int .i64 0, .slice none 0 0] rfl fun b8 w1 h => hK _ _ ?_); clear hs hK K; have hs := h; clear h; try dsimp only [List.set] at hs)
        | (guard_target = wpList _ _ _ (⟨none, .store _ (.tmp 8) _, _, _, _, _⟩ :: _) _ _; refine wpl (o := ⟨none, .store _ (.tmp 8) _, _, _, _, _⟩) rfl fun K hK => ?_; go_must (refine op_store_whole hs (b := b8) rfl rfl (cmC X (.slice A35 X.W.length c35)) rfl (by simp [cmC, Value.oneCell']) (by kernel_rfl) (k := 0) rfl rfl fun w3 h => hK _ _ ?_); clear hs hK K; have hs := h; clear h; try dsimp only [List.set] at hs)
        | (guard_target = wpList _ _ _ (⟨some 38, .load _ _, _, _, _, _⟩ :: _) _ _; refine wpl (o := ⟨some 38, .load _ _, _, _, _, _⟩) rfl fun K hK => op_load_agg rfl (b := b6) (i := 0) rfl ((cmC X (.slice A29 X.W.length c29))) (range_whole hs (by (try dsimp only [List.set]); repeat (first | with_reducible exact List.mem_cons_self | with_reducible apply List.mem_cons_of_mem))) (by kernel_rfl) (by kernel_rfl) (hK _ _ ?_); clear hK K)
        | (go_at_call 19; go_must (refine (HAP.out _ _ hs (slice_nil _ 5 (Has.mem m0 fun _ _ => trivial)) (.slice A29 X.W.length c29) (Has.of (A := own (.slice A29 X.W.length c29) 61 X.W.length 4 (wsC X.W)) (by (try dsimp only [List.set]); repeat (first | with_reducible exact List.mem_cons_self | with_reducible apply List.mem_cons_of_mem)) own_sliceAt)).mono ?_); clear hs; rintro e w1 ⟨v39, rfl, hs⟩
           obtain ⟨A39, c39, rfl, _, _⟩ := own_slice hs (i := 0) rfl)
        | (guard_target = wpList _ _ _ (⟨some 10, .alloc _, _, _, _, _⟩ :: _) _ _; refine wpl (o := ⟨some 10, .alloc _, _, _, _, _⟩) rfl fun K hK => ?_; go_must (refine op_alloc hs rfl _ zstateR [Value.int .i64 0, .int .u32 0, .int .u32 0, .slice none 0 0] rfl fun b10 w1 h => hK _ _ ?_); clear hs hK K; have hs := h; clear h; try dsimp only [List.set] at hs)
        | (guard_target = wpList _ _ _ (⟨none, .store _ (.tmp 10) _, _, _, _, _⟩ :: _) _ _; refine wpl (o := ⟨none, .store _ (.tmp 10) _, _, _, _, _⟩) rfl fun K hK => ?_; go_must (refine op_store_whole hs (b := b10) rfl rfl (stC Y (.slice A39 Y.L.length c39)) rfl (by simp [stC, Value.oneCell']) (by kernel_rfl) (k := 0) rfl rfl fun w3 h => hK _ _ ?_); clear hs hK K; have hs := h; clear h; try dsimp only [List.set] at hs)
        | (guard_target = wpList _ _ _ (⟨some 40, .load _ _, _, _, _, _⟩ :: _) _ _; refine wpl (o := ⟨some 40, .load _ _, _, _, _, _⟩) rfl fun K hK => op_load_agg rfl (b := b10) (i := 0) rfl ((stC Y (.slice A39 Y.L.length c39))) (range_whole hs (by (try dsimp only [List.set]); repeat (first | with_reducible exact List.mem_cons_self | with_reducible apply List.mem_cons_of_mem))) (by kernel_rfl) (by kernel_rfl) (hK _ _ ?_); clear hK K)
        | (go_at_call 22; go_must (refine (HPS.out _ _ hs (by (try dsimp only [List.set]); repeat (first | exact hold | apply List.mem_cons_of_mem)) (.slice A39 Y.L.length c39) (Has.of (A := own (.slice A39 Y.L.length c39) 59 Y.L.length 5 (csC Y.L)) (by (try dsimp only [List.set]); repeat (first | with_reducible exact List.mem_cons_self | with_reducible apply List.mem_cons_of_mem)) own_sliceAt)).mono ?_); clear hs; rintro e w1 ⟨v41, rfl, hs⟩
           obtain ⟨b41, c41, rfl⟩ := own_form hs m0 (by omega))
        | (go_at_call 23; go_must (refine (HS1.out _ _ hs (by (try dsimp only [List.set]); repeat (first | exact hold | apply List.mem_cons_of_mem)) (.slice (some ⟨b41, 0, none⟩) (dm + 1) c41) (Has.of (A := (own (.slice (some ⟨b41, 0, none⟩) (dm + 1) c41) 5 (dm + 1) 1 (u8s D))) (by (try dsimp only [List.set]); repeat (first | with_reducible exact List.mem_cons_self | with_reducible apply List.mem_cons_of_mem)) HDL.out)).mono ?_); clear hs; rintro e w1 ⟨v45, rfl, hs⟩
           obtain ⟨A45, c45, rfl, _, _⟩ := own_slice hs (i := 0) rfl)
        | (guard_target = wpList _ _ _ (⟨some 12, .alloc _, _, _, _, _⟩ :: _) _ _; refine wpl (o := ⟨some 12, .alloc _, _, _, _, _⟩) rfl fun K hK => ?_; go_must (refine op_alloc hs rfl _ zstateR [Value.int .i64 0, .int .u32 0, .int .u32 0, .slice none 0 0] rfl fun b12 w1 h => hK _ _ ?_); clear hs hK K; have hs := h; clear h; try dsimp only [List.set] at hs)
        | (guard_target = wpList _ _ _ (⟨none, .store _ (.tmp 12) _, _, _, _, _⟩ :: _) _ _; refine wpl (o := ⟨none, .store _ (.tmp 12) _, _, _, _, _⟩) rfl fun K hK => ?_; go_must (refine op_store_whole hs (b := b12) rfl rfl (stC Y (.slice A45 Y.L.length c45)) rfl (by simp [stC, Value.oneCell']) (by kernel_rfl) (k := 0) rfl rfl fun w3 h => hK _ _ ?_); clear hs hK K; have hs := h; clear h; try dsimp only [List.set] at hs))
      rename_i x1_1 x1_2 x1_3 x1_4 x1_5 x1_6 x1_7 x1_8 x1_9 x1_10 x1_11 x1_12 x1_13 x1_14 x1_15 x1_16 x1_17 x1_18 x1_19 x1_20 x1_21 x1_22 x1_23 x1_24 x1_25 x1_26 x1_27 x1_28 x1_29 x1_30 x1_31 x1_32
      revert W w L hold c y Aw cw x1_1 x1_2 HW HA HM hlw HCO w60 Y X HTD HAP E D em dm HPU HPS xl yl HT1 HT2 HT3 HS1 HS2 HS3 HSM HRY HSY HEL HDL HE2 HD2 HE3 HD3 hem2 hdm2 h12b h20b x1_3 w2 x1_4 w4 hz hzm x1_5 b2 x1_6 x1_7 w60I h12 h20 x1_8 x1_9 A29 c29 x1_10 x1_11 b6 x1_12 x1_13 x1_14 b31 c31 x1_15 A35 c35 x1_16 x1_17 b8 x1_18 x1_19 x1_20 A39 c39 x1_21 x1_22 b10 x1_23 x1_24 x1_25 b41 c41 x1_26 A45 c45 x1_27 x1_28 b12 w1 w3 hs x1_29 x1_30 x1_31 x1_32
      exact K_redoBack_walk_a.out
    · have w60I : (60 : Int) < (c.W.length : Int) := by omega
      go_enter Tryd.func5, Tryd.ntmps5
      go_wp2_with (first
        | (guard_target = wpList _ _ _ (⟨some 2, .box _ _, _, _, _, _⟩ :: _) _ _; refine wpl (o := ⟨some 2, .box _ _, _, _, _, _⟩) rfl fun K hK => ?_; go_must (refine op_box hs rfl _ rfl (cmC c (.slice Aw c.W.length cw)) rfl fun b2 w1 h => hK _ _ ?_); clear hs hK K; have hs := h; clear h; try dsimp only [List.set] at hs)
        | (go_at_call 9; go_must (refine (HA.out _ _ hs (by (try dsimp only [List.set]); repeat (first | exact hold | apply List.mem_cons_of_mem))).mono ?_); clear hs; rintro e w1 ⟨rfl, hs⟩)
        | (guard_target = wpList _ _ _ (⟨some 24, .load _ _, _, _, _, _⟩ :: _) _ _; refine wpl (o := ⟨some 24, .load _ _, _, _, _, _⟩) rfl fun K hK => op_load rfl (ad := ⟨b2, 1, none⟩) rfl (by kernel_rfl) (hs.cell (l := cmC c (.slice Aw c.W.length cw)) (t := 24) (by (try dsimp only [List.set]); repeat (first | with_reducible exact List.mem_cons_self | with_reducible apply List.mem_cons_of_mem)) rfl) (hK _ _ ?_); clear hK K))
      go_ret
      exact ⟨rfl, hs.pack (by repeat (first | with_reducible exact Pack.refl | with_reducible exact Pack.nil | with_reducible refine Pack.cons (by repeat (first | with_reducible exact Pick.here | with_reducible apply Pick.there)) ?_ | with_reducible apply Pack.drop))⟩
set_option maxRecDepth 100000 in
set_option maxHeartbeats 30000000 in
noncomputable def redoBack_walk_a_cut : RdBackCut1 (redoBack_walk_cut.p1) := by
  apply RdBackCut1.mk
  case go =>
    intro K_redoBack_walk_a_b W w L hold c y Aw cw x1_1 x1_2 HW HA HM hlw HCO w60 Y X HTD HAP E D em dm HPU HPS xl yl HT1 HT2 HT3 HS1 HS2 HS3 HSM HRY HSY HEL HDL HE2 HD2 HE3 HD3 hem2 hdm2 h12b h20b x1_3 w2 x1_4 w4 hz hzm x1_5 b2 x1_6 x1_7 w60I h12 h20 x1_8 x1_9 A29 c29 x1_10 x1_11 b6 x1_12 x1_13 x1_14 b31 c31 x1_15 A35 c35 x1_16 x1_17 b8 x1_18 x1_19 x1_20 A39 c39 x1_21 x1_22 b10 x1_23 x1_24 x1_25 b41 c41 x1_26 A45 c45 x1_27 x1_28 b12 w1 w3 hs x1_29 x1_30 x1_31 x1_32
    have hc1 : ¬ (c31 : Int) < (em : Int) := by
      have := hs.fact (A := (own (.slice (some ⟨b31, 0, none⟩) (em + 1) c31) 5 (em + 1) 1 (u8s E))) (by (try dsimp only [List.set]); repeat (first | with_reducible exact List.mem_cons_self | with_reducible apply List.mem_cons_of_mem)) fun F hF => (show em + 1 ≤ c31 from by obtain ⟨_, A', cap, e, h1, _⟩ := own_sliceAt F hF; cases e; exact h1)
      omega
    have hc2 : ¬ (c41 : Int) < (dm : Int) := by
      have := hs.fact (A := (own (.slice (some ⟨b41, 0, none⟩) (dm + 1) c41) 5 (dm + 1) 1 (u8s D))) (by (try dsimp only [List.set]); repeat (first | with_reducible exact List.mem_cons_self | with_reducible apply List.mem_cons_of_mem)) fun F hF => (show dm + 1 ≤ c41 from by obtain ⟨_, A', cap, e, h1, _⟩ := own_sliceAt F hF; cases e; exact h1)
      omega
    have cS : ∀ w M, Sat W w M → row b6 (cmC X (.slice A29 X.W.length c29)) 24 ∈ M → row b8 (cmC X (.slice A35 X.W.length c35)) 24 ∈ M → row b10 (stC Y (.slice A39 Y.L.length c39)) 43 ∈ M → row b12 (stC Y (.slice A45 Y.L.length c45)) 43 ∈ M → (bkS b6 (cmC X (.slice A29 X.W.length c29)) b8 (cmC X (.slice A35 X.W.length c35)) b10 (stC Y (.slice A39 Y.L.length c39)) b12 (stC Y (.slice A45 Y.L.length c45))) w := fun w M h h1 h2 h3 h4 => ⟨range_whole h h1, range_whole h h2, range_whole h h3, range_whole h h4⟩
    have r6 : ∀ w, (bkS b6 (cmC X (.slice A29 X.W.length c29)) b8 (cmC X (.slice A35 X.W.length c35)) b10 (stC Y (.slice A39 Y.L.length c39)) b12 (stC Y (.slice A45 Y.L.length c45))) w → w.rangeAt b6 0 (cmC X (.slice A29 X.W.length c29)) := fun w h => h.1
    have r8 : ∀ w, (bkS b6 (cmC X (.slice A29 X.W.length c29)) b8 (cmC X (.slice A35 X.W.length c35)) b10 (stC Y (.slice A39 Y.L.length c39)) b12 (stC Y (.slice A45 Y.L.length c45))) w → w.rangeAt b8 0 (cmC X (.slice A35 X.W.length c35)) := fun w h => h.2.1
    have r10 : ∀ w, (bkS b6 (cmC X (.slice A29 X.W.length c29)) b8 (cmC X (.slice A35 X.W.length c35)) b10 (stC Y (.slice A39 Y.L.length c39)) b12 (stC Y (.slice A45 Y.L.length c45))) w → w.rangeAt b10 0 (stC Y (.slice A39 Y.L.length c39)) := fun w h => h.2.2.1
    have r12 : ∀ w, (bkS b6 (cmC X (.slice A29 X.W.length c29)) b8 (cmC X (.slice A35 X.W.length c35)) b10 (stC Y (.slice A39 Y.L.length c39)) b12 (stC Y (.slice A45 Y.L.length c45))) w → w.rangeAt b12 0 (stC Y (.slice A45 Y.L.length c45)) := fun w h => h.2.2.2
    have hS0 := cS _ _ hs.drew (by (try dsimp only [List.set]); repeat (first | with_reducible exact List.mem_cons_self | with_reducible apply List.mem_cons_of_mem)) (by (try dsimp only [List.set]); repeat (first | with_reducible exact List.mem_cons_self | with_reducible apply List.mem_cons_of_mem)) (by (try dsimp only [List.set]); repeat (first | with_reducible exact List.mem_cons_self | with_reducible apply List.mem_cons_of_mem)) (by (try dsimp only [List.set]); repeat (first | with_reducible exact List.mem_cons_self | with_reducible apply List.mem_cons_of_mem))
    refine wp_region_tree ((bkS b6 (cmC X (.slice A29 X.W.length c29)) b8 (cmC X (.slice A35 X.W.length c35)) b10 (stC Y (.slice A39 Y.L.length c39)) b12 (stC Y (.slice A45 Y.L.length c45)))) (.take 0 (.take 1 (.take 2 (.take 3 (.take 4 (.take 5 (.take 6 (.take 7 (.take 8 (.all [(9, .take 10 (.take 11 (.take 12 (.take 13 (.take 15 (.all [(14, .all [(16, .all [(17, .take 18 (.take 19 (.take 20 (.take 21 (.take 22 (.take 23 (.take 24 (.take 25 (.take 26 (.take 27 (.take 28 (.take 29 (DTree.done)))))))))))))])])]))))))])))))))))) (by kernel_rfl) (by kernel_rfl) (by kernel_rfl) (fun _ _ d _ _ h => by cases d <;> exact h) hS0 ?_
    have hs' := hs.drew
    clear hs
    have hs := hs'
    clear hs'
    have hq := fun p : Prop => class_const hS0 p
    clear hS0
    repeat (first
      | (with_reducible refine tree_load_agg (o := ⟨some 54, .load _ _, _, _, _, _⟩) (cmC X (.slice A29 X.W.length c29)) rfl rfl rfl rfl ?_ ?_ r6 ?_; (kernel_rfl); (kernel_rfl))
      | (with_reducible refine tree_load_agg (o := ⟨some 55, .load _ _, _, _, _, _⟩) (cmC X (.slice A35 X.W.length c35)) rfl rfl rfl rfl ?_ ?_ r8 ?_; (kernel_rfl); (kernel_rfl))
      | (with_reducible refine tree_load_agg (o := ⟨some 60, .load _ _, _, _, _, _⟩) (stC Y (.slice A39 Y.L.length c39)) rfl rfl rfl rfl ?_ ?_ r10 ?_; (kernel_rfl); (kernel_rfl))
      | (with_reducible refine tree_load_agg (o := ⟨some 62, .load _ _, _, _, _, _⟩) (stC Y (.slice A45 Y.L.length c45)) rfl rfl rfl rfl ?_ ?_ r12 ?_; (kernel_rfl); (kernel_rfl))
      | (refine tree_take rfl (fun K hK => ?_); go_simp; (first | with_reducible refine hK _ ?_ | (rw [if_neg (by decide)]; with_reducible refine hK _ ?_)); clear hK K))
    refine tree_one_yes (o := _) rfl rfl (fun K hK => ?_) (cS _ _ hs (by (try dsimp only [List.set]); repeat (first | with_reducible exact List.mem_cons_self | with_reducible apply List.mem_cons_of_mem)) (by (try dsimp only [List.set]); repeat (first | with_reducible exact List.mem_cons_self | with_reducible apply List.mem_cons_of_mem)) (by (try dsimp only [List.set]); repeat (first | with_reducible exact List.mem_cons_self | with_reducible apply List.mem_cons_of_mem)) (by (try dsimp only [List.set]); repeat (first | with_reducible exact List.mem_cons_self | with_reducible apply List.mem_cons_of_mem)))
    try go_simp
    go_at_call 14
    refine (HSM.out _ _ hs (.slice A29 X.W.length c29) (.slice A35 X.W.length c35) (Has.of (A := own (.slice A29 X.W.length c29) 61 X.W.length 4 (wsC X.W)) (by (try dsimp only [List.set]); repeat (first | with_reducible exact List.mem_cons_self | with_reducible apply List.mem_cons_of_mem)) own_sliceAt) (Has.of (A := own (.slice A35 X.W.length c35) 61 X.W.length 4 (wsC X.W)) (by (try dsimp only [List.set]); repeat (first | with_reducible exact List.mem_cons_self | with_reducible apply List.mem_cons_of_mem)) own_sliceAt)).mono ?_
    clear hs
    rintro e w5 ⟨rfl, hs⟩
    try go_simp
    refine hK _ _ (cS _ _ hs (by (try dsimp only [List.set]); repeat (first | with_reducible exact List.mem_cons_self | with_reducible apply List.mem_cons_of_mem)) (by (try dsimp only [List.set]); repeat (first | with_reducible exact List.mem_cons_self | with_reducible apply List.mem_cons_of_mem)) (by (try dsimp only [List.set]); repeat (first | with_reducible exact List.mem_cons_self | with_reducible apply List.mem_cons_of_mem)) (by (try dsimp only [List.set]); repeat (first | with_reducible exact List.mem_cons_self | with_reducible apply List.mem_cons_of_mem))) ?_
    clear hK K
    repeat (first
      | (with_reducible refine tree_load_agg (o := ⟨some 54, .load _ _, _, _, _, _⟩) (cmC X (.slice A29 X.W.length c29)) rfl rfl rfl rfl ?_ ?_ r6 ?_; (kernel_rfl); (kernel_rfl))
      | (with_reducible refine tree_load_agg (o := ⟨some 55, .load _ _, _, _, _, _⟩) (cmC X (.slice A35 X.W.length c35)) rfl rfl rfl rfl ?_ ?_ r8 ?_; (kernel_rfl); (kernel_rfl))
      | (with_reducible refine tree_load_agg (o := ⟨some 60, .load _ _, _, _, _, _⟩) (stC Y (.slice A39 Y.L.length c39)) rfl rfl rfl rfl ?_ ?_ r10 ?_; (kernel_rfl); (kernel_rfl))
      | (with_reducible refine tree_load_agg (o := ⟨some 62, .load _ _, _, _, _, _⟩) (stC Y (.slice A45 Y.L.length c45)) rfl rfl rfl rfl ?_ ?_ r12 ?_; (kernel_rfl); (kernel_rfl))
      | (refine tree_take rfl (fun K hK => ?_); go_simp; (first | with_reducible refine hK _ ?_ | (rw [if_neg (by decide)]; with_reducible refine hK _ ?_)); clear hK K))
    refine tree_one_yes (o := _) rfl rfl (fun K hK => ?_) (cS _ _ hs (by (try dsimp only [List.set]); repeat (first | with_reducible exact List.mem_cons_self | with_reducible apply List.mem_cons_of_mem)) (by (try dsimp only [List.set]); repeat (first | with_reducible exact List.mem_cons_self | with_reducible apply List.mem_cons_of_mem)) (by (try dsimp only [List.set]); repeat (first | with_reducible exact List.mem_cons_self | with_reducible apply List.mem_cons_of_mem)) (by (try dsimp only [List.set]); repeat (first | with_reducible exact List.mem_cons_self | with_reducible apply List.mem_cons_of_mem)))
    try go_simp
    go_at_call 18
    refine (HRY.out _ _ hs (.slice A39 Y.L.length c39) (Has.of (A := own (.slice A39 Y.L.length c39) 59 Y.L.length 5 (csC Y.L)) (by (try dsimp only [List.set]); repeat (first | with_reducible exact List.mem_cons_self | with_reducible apply List.mem_cons_of_mem)) own_sliceAt)).mono ?_
    clear hs
    rintro e w5 ⟨v61, rfl, hs⟩
    try go_simp
    refine hK _ _ (cS _ _ hs (by (try dsimp only [List.set]); repeat (first | with_reducible exact List.mem_cons_self | with_reducible apply List.mem_cons_of_mem)) (by (try dsimp only [List.set]); repeat (first | with_reducible exact List.mem_cons_self | with_reducible apply List.mem_cons_of_mem)) (by (try dsimp only [List.set]); repeat (first | with_reducible exact List.mem_cons_self | with_reducible apply List.mem_cons_of_mem)) (by (try dsimp only [List.set]); repeat (first | with_reducible exact List.mem_cons_self | with_reducible apply List.mem_cons_of_mem))) ?_
    clear hK K
    refine tree_one_yes (o := _) rfl rfl (fun K hK => ?_) (cS _ _ hs (by (try dsimp only [List.set]); repeat (first | with_reducible exact List.mem_cons_self | with_reducible apply List.mem_cons_of_mem)) (by (try dsimp only [List.set]); repeat (first | with_reducible exact List.mem_cons_self | with_reducible apply List.mem_cons_of_mem)) (by (try dsimp only [List.set]); repeat (first | with_reducible exact List.mem_cons_self | with_reducible apply List.mem_cons_of_mem)) (by (try dsimp only [List.set]); repeat (first | with_reducible exact List.mem_cons_self | with_reducible apply List.mem_cons_of_mem)))
    try go_simp
    go_at_call 18
    refine (HRY.out _ _ hs (.slice A45 Y.L.length c45) (Has.of (A := own (.slice A45 Y.L.length c45) 59 Y.L.length 5 (csC Y.L)) (by (try dsimp only [List.set]); repeat (first | with_reducible exact List.mem_cons_self | with_reducible apply List.mem_cons_of_mem)) own_sliceAt)).mono ?_
    clear hs
    rintro e w5 ⟨v63, rfl, hs⟩
    try go_simp
    refine hK _ _ (cS _ _ hs (by (try dsimp only [List.set]); repeat (first | with_reducible exact List.mem_cons_self | with_reducible apply List.mem_cons_of_mem)) (by (try dsimp only [List.set]); repeat (first | with_reducible exact List.mem_cons_self | with_reducible apply List.mem_cons_of_mem)) (by (try dsimp only [List.set]); repeat (first | with_reducible exact List.mem_cons_self | with_reducible apply List.mem_cons_of_mem)) (by (try dsimp only [List.set]); repeat (first | with_reducible exact List.mem_cons_self | with_reducible apply List.mem_cons_of_mem))) ?_
    clear hK K
    refine tree_one_yes (o := _) rfl rfl (fun K hK => ?_) (cS _ _ hs (by (try dsimp only [List.set]); repeat (first | with_reducible exact List.mem_cons_self | with_reducible apply List.mem_cons_of_mem)) (by (try dsimp only [List.set]); repeat (first | with_reducible exact List.mem_cons_self | with_reducible apply List.mem_cons_of_mem)) (by (try dsimp only [List.set]); repeat (first | with_reducible exact List.mem_cons_self | with_reducible apply List.mem_cons_of_mem)) (by (try dsimp only [List.set]); repeat (first | with_reducible exact List.mem_cons_self | with_reducible apply List.mem_cons_of_mem)))
    try go_simp
    go_at_call 17
    refine (HSY.out _ _ hs v61 v63 (Has.of (A := own v61 107 Y.L.length 5 (csC Y.L)) (by (try dsimp only [List.set]); repeat (first | with_reducible exact List.mem_cons_self | with_reducible apply List.mem_cons_of_mem)) own_sliceAt) (Has.mem m0 own_sliceAt)).mono ?_
    clear hs
    rintro e w5 ⟨rfl, hs⟩
    try go_simp
    refine hK _ _ (cS _ _ hs (by (try dsimp only [List.set]); repeat (first | with_reducible exact List.mem_cons_self | with_reducible apply List.mem_cons_of_mem)) (by (try dsimp only [List.set]); repeat (first | with_reducible exact List.mem_cons_self | with_reducible apply List.mem_cons_of_mem)) (by (try dsimp only [List.set]); repeat (first | with_reducible exact List.mem_cons_self | with_reducible apply List.mem_cons_of_mem)) (by (try dsimp only [List.set]); repeat (first | with_reducible exact List.mem_cons_self | with_reducible apply List.mem_cons_of_mem))) ?_
    clear hK K
    repeat (first
      | (with_reducible refine tree_load_agg (o := ⟨some 54, .load _ _, _, _, _, _⟩) (cmC X (.slice A29 X.W.length c29)) rfl rfl rfl rfl ?_ ?_ r6 ?_; (kernel_rfl); (kernel_rfl))
      | (with_reducible refine tree_load_agg (o := ⟨some 55, .load _ _, _, _, _, _⟩) (cmC X (.slice A35 X.W.length c35)) rfl rfl rfl rfl ?_ ?_ r8 ?_; (kernel_rfl); (kernel_rfl))
      | (with_reducible refine tree_load_agg (o := ⟨some 60, .load _ _, _, _, _, _⟩) (stC Y (.slice A39 Y.L.length c39)) rfl rfl rfl rfl ?_ ?_ r10 ?_; (kernel_rfl); (kernel_rfl))
      | (with_reducible refine tree_load_agg (o := ⟨some 62, .load _ _, _, _, _, _⟩) (stC Y (.slice A45 Y.L.length c45)) rfl rfl rfl rfl ?_ ?_ r12 ?_; (kernel_rfl); (kernel_rfl))
      | (refine tree_take rfl (fun K hK => ?_); go_simp; (first | with_reducible refine hK _ ?_ | (rw [if_neg (by decide)]; with_reducible refine hK _ ?_)); clear hK K))
    refine tree_done ?_
    clear hq cS r6 r8 r10 r12
    rename_i x2_1 x2_2 x2_3
    revert W w L hold c y Aw cw x1_1 x1_2 HW HA HM hlw HCO w60 Y X HTD HAP E D em dm HPU HPS xl yl HT1 HT2 HT3 HS1 HS2 HS3 HSM HRY HSY HEL HDL HE2 HD2 HE3 HD3 hem2 hdm2 h12b h20b x1_3 w2 x1_4 w4 hz hzm x1_5 b2 x1_6 x1_7 w60I h12 h20 x1_8 x1_9 A29 c29 x1_10 x1_11 b6 x1_12 x1_13 x1_14 b31 c31 x1_15 A35 c35 x1_16 x1_17 b8 x1_18 x1_19 x1_20 A39 c39 x1_21 x1_22 b10 x1_23 x1_24 x1_25 b41 c41 x1_26 A45 c45 x1_27 x1_28 b12 w1 w3 x1_29 x1_30 x1_31 x1_32 hc1 hc2 x2_1 x2_2 v61 x2_3 v63 w5 hs
    exact K_redoBack_walk_a_b.out
set_option maxRecDepth 100000 in
set_option maxHeartbeats 30000000 in
theorem redoBack_walk_a_b : redoBack_walk_a_cut.p1 := by
  intro W w L hold c y Aw cw x1_1 x1_2 HW HA HM hlw HCO w60 Y X HTD HAP E D em dm HPU HPS xl yl HT1 HT2 HT3 HS1 HS2 HS3 HSM HRY HSY HEL HDL HE2 HD2 HE3 HD3 hem2 hdm2 h12b h20b x1_3 w2 x1_4 w4 hz hzm x1_5 b2 x1_6 x1_7 w60I h12 h20 x1_8 x1_9 A29 c29 x1_10 x1_11 b6 x1_12 x1_13 x1_14 b31 c31 x1_15 A35 c35 x1_16 x1_17 b8 x1_18 x1_19 x1_20 A39 c39 x1_21 x1_22 b10 x1_23 x1_24 x1_25 b41 c41 x1_26 A45 c45 x1_27 x1_28 b12 w1 w3 x1_29 x1_30 x1_31 x1_32 hc1 hc2 x2_1 x2_2 v61 x2_3 v63 w5 hs
  go_wp2_with (first
    | (have hh : c101 = c101 := rfl; clear hh; go_at_call 10; go_must (refine (HT3.out _ _ hs (by (try dsimp only [List.set]); repeat (first | exact hold | apply List.mem_cons_of_mem)) _ (own_bytes 1 rfl HE3.out (u8s_append _ _).symm)).mono ?_); clear hs; rintro e w1 ⟨v102, rfl, hs⟩
       obtain ⟨A102, c102, rfl, _, _⟩ := own_slice hs (i := 0) rfl)
    | (have hh : c111 = c111 := rfl; clear hh; go_at_call 23; go_must (refine (HS3.out _ _ hs (by (try dsimp only [List.set]); repeat (first | exact hold | apply List.mem_cons_of_mem)) _ (own_bytes 1 rfl HD3.out (u8s_append _ _).symm)).mono ?_); clear hs; rintro e w1 ⟨v112, rfl, hs⟩
       obtain ⟨A112, c112, rfl, _, _⟩ := own_slice hs (i := 0) rfl)
    | (go_at_call 10; go_must (refine (HT2.out _ _ hs (by (try dsimp only [List.set]); repeat (first | exact hold | apply List.mem_cons_of_mem)) (.slice (some ⟨b31, 0, none⟩) em c31) (Has.of (A := (own (.slice (some ⟨b31, 0, none⟩) (em + 1) c31) 5 (em + 1) 1 (u8s E))) (by (try dsimp only [List.set]); repeat (first | with_reducible exact List.mem_cons_self | with_reducible apply List.mem_cons_of_mem)) (fun F hF => HE2.out _ _ F (HEL.out F hF)))).mono ?_); clear hs; rintro e w1 ⟨v83, rfl, hs⟩
       obtain ⟨A83, c83, rfl, _, _⟩ := own_slice hs (i := 0) rfl)
    | (go_at_call 23; go_must (refine (HS2.out _ _ hs (by (try dsimp only [List.set]); repeat (first | exact hold | apply List.mem_cons_of_mem)) (.slice (some ⟨b41, 0, none⟩) dm c41) (Has.of (A := (own (.slice (some ⟨b41, 0, none⟩) (dm + 1) c41) 5 (dm + 1) 1 (u8s D))) (by (try dsimp only [List.set]); repeat (first | with_reducible exact List.mem_cons_self | with_reducible apply List.mem_cons_of_mem)) (fun F hF => HD2.out _ _ F (HDL.out F hF)))).mono ?_); clear hs; rintro e w1 ⟨v92, rfl, hs⟩
       obtain ⟨A92, c92, rfl, _, _⟩ := own_slice hs (i := 0) rfl)
    | (guard_target = wpList _ _ _ (⟨some 14, .alloc _, _, _, _, _⟩ :: _) _ _; refine wpl (o := ⟨some 14, .alloc _, _, _, _, _⟩) rfl fun K hK => ?_; go_must (refine op_alloc hs rfl _ zcommit [Value.int .i64 0, .slice none 0 0] rfl fun b14 w1 h => hK _ _ ?_); clear hs hK K; have hs := h; clear h; try dsimp only [List.set] at hs)
    | (guard_target = wpList _ _ _ (⟨none, .store _ (.tmp 14) _, _, _, _, _⟩ :: _) _ _; refine wpl (o := ⟨none, .store _ (.tmp 14) _, _, _, _, _⟩) rfl fun K hK => ?_; go_must (refine op_store_whole hs (b := b14) rfl rfl [Value.int .i64 0, .slice A83 0 c83] rfl (by simp [Value.oneCell']) (by kernel_rfl) (k := 0) rfl rfl fun w3 h => hK _ _ ?_); clear hs hK K; have hs := h; clear h; try dsimp only [List.set] at hs)
    | (guard_target = wpList _ _ _ (⟨some 16, .alloc _, _, _, _, _⟩ :: _) _ _; refine wpl (o := ⟨some 16, .alloc _, _, _, _, _⟩) rfl fun K hK => ?_; go_must (refine op_alloc hs rfl _ zstateR [Value.int .i64 0, .int .u32 0, .int .u32 0, .slice none 0 0] rfl fun b16 w1 h => hK _ _ ?_); clear hs hK K; have hs := h; clear h; try dsimp only [List.set] at hs)
    | (guard_target = wpList _ _ _ (⟨none, .store _ (.tmp 16) _, _, _, _, _⟩ :: _) _ _; refine wpl (o := ⟨none, .store _ (.tmp 16) _, _, _, _, _⟩) rfl fun K hK => ?_; go_must (refine op_store_whole hs (b := b16) rfl rfl [Value.int .i64 0, .int .u32 0, .int .u32 0, .slice A92 0 c92] rfl (by simp [Value.oneCell']) (by kernel_rfl) (k := 0) rfl rfl fun w3 h => hK _ _ ?_); clear hs hK K; have hs := h; clear h; try dsimp only [List.set] at hs)
    | (guard_target = wpList _ _ _ (⟨some 18, .alloc _, _, _, _, _⟩ :: _) _ _; refine wpl (o := ⟨some 18, .alloc _, _, _, _, _⟩) rfl fun K hK => ?_; go_must (refine op_alloc hs rfl _ zcommit [Value.int .i64 0, .slice none 0 0] rfl fun b18 w1 h => hK _ _ ?_); clear hs hK K; have hs := h; clear h; try dsimp only [List.set] at hs)
    | (guard_target = wpList _ _ _ (⟨none, .store _ (.tmp 18) _, _, _, _, _⟩ :: _) _ _; refine wpl (o := ⟨none, .store _ (.tmp 18) _, _, _, _, _⟩) rfl fun K hK => ?_; go_must (refine op_store_whole hs (b := b18) rfl rfl [Value.int .i64 0, .slice A102 0 c102] rfl (by simp [Value.oneCell']) (by kernel_rfl) (k := 0) rfl rfl fun w3 h => hK _ _ ?_); clear hs hK K; have hs := h; clear h; try dsimp only [List.set] at hs)
    | (guard_target = wpList _ _ _ (⟨some 20, .alloc _, _, _, _, _⟩ :: _) _ _; refine wpl (o := ⟨some 20, .alloc _, _, _, _, _⟩) rfl fun K hK => ?_; go_must (refine op_alloc hs rfl _ zstateR [Value.int .i64 0, .int .u32 0, .int .u32 0, .slice none 0 0] rfl fun b20 w1 h => hK _ _ ?_); clear hs hK K; have hs := h; clear h; try dsimp only [List.set] at hs)
    | (guard_target = wpList _ _ _ (⟨none, .store _ (.tmp 20) _, _, _, _, _⟩ :: _) _ _; refine wpl (o := ⟨none, .store _ (.tmp 20) _, _, _, _, _⟩) rfl fun K hK => ?_; go_must (refine op_store_whole hs (b := b20) rfl rfl [Value.int .i64 0, .int .u32 0, .int .u32 0, .slice A112 0 c112] rfl (by simp [Value.oneCell']) (by kernel_rfl) (k := 0) rfl rfl fun w3 h => hK _ _ ?_); clear hs hK K; have hs := h; clear h; try dsimp only [List.set] at hs)
    | (guard_target = wpList _ _ _ (⟨some 96, .buildSlice _ _ _, _, _, _, _⟩ :: _) _ _; refine wpl (o := ⟨some 96, .buildSlice _ _ _, _, _, _, _⟩) rfl fun K hK => ?_; go_must (refine op_lit hs rfl Tryd.underlying25 info_u8 [] (by omega) (by simp [Instr.fill]) fun b96 w1 h => hK _ _ ?_); clear hs hK K; have hs := h; clear h; try dsimp only [List.set] at hs)
    | (guard_target = wpList _ _ _ (⟨some 98, .call _, _, _, _, _⟩ :: _) _ _; refine wpl (o := ⟨some 98, .call _, _, _, _, _⟩) rfl fun K hK => ?_; go_must (refine op_append_new hs rfl Tryd.underlying25 Tryd.underlying25 info_u8 rfl (by omega) rfl (slice_nil _ 1 (Has.mem m0 fun _ _ => trivial)) rfl (Has.of (A := (own (.slice (some ⟨b31, 0, none⟩) (em + 1) c31) 5 (em + 1) 1 (u8s E))) (by (try dsimp only [List.set]); repeat (first | with_reducible exact List.mem_cons_self | with_reducible apply List.mem_cons_of_mem)) own_sliceAt) (.inr rfl) (by omega) (by omega) fun v98 w2 h => hK _ _ ?_); clear hs hK K; have hs := h; clear h
       simp only [Nat.zero_add, List.nil_append] at hs
       obtain ⟨A98, c98, rfl, _, _⟩ := own_slice hs (i := 0) rfl)
    | (guard_target = wpList _ _ _ (⟨some 100, .buildSlice _ _ _, _, _, _, _⟩ :: _) _ _; refine wpl (o := ⟨some 100, .buildSlice _ _ _, _, _, _, _⟩) rfl fun K hK => ?_; go_must (refine op_lit1 hs rfl Tryd.underlying25 info_u8 rfl (u8s [y]) (by omega) rfl (u8s_one _) (by simp [u8s, Act.eval]) fun b100 w1 h => hK _ _ ?_); clear hs hK K; have hs := h; clear h; try dsimp only [List.set] at hs)
    | (guard_target = wpList _ _ _ (⟨some 101, .call _, _, _, _, _⟩ :: _) _ _; refine wpl (o := ⟨some 101, .call _, _, _, _, _⟩) rfl fun K hK => ?_; go_must (refine op_append hs rfl Tryd.underlying25 Tryd.underlying25 info_u8 rfl (by omega) (k := 1) rfl rfl rfl (lit_bytes (l := [y]) 0 rfl 1 rfl (by omega)) (u8s_one _) (by simp; omega) (by simp; omega) fun v101 w2 h => hK _ _ ?_); clear hs hK K; have hs := h; clear h; dsimp only [List.set] at hs
       obtain ⟨A101, c101, rfl, _, _⟩ := own_slice hs (i := 1) rfl)
    | (guard_target = wpList _ _ _ (⟨some 106, .buildSlice _ _ _, _, _, _, _⟩ :: _) _ _; refine wpl (o := ⟨some 106, .buildSlice _ _ _, _, _, _, _⟩) rfl fun K hK => ?_; go_must (refine op_lit hs rfl Tryd.underlying25 info_u8 [] (by omega) (by simp [Instr.fill]) fun b106 w1 h => hK _ _ ?_); clear hs hK K; have hs := h; clear h; try dsimp only [List.set] at hs)
    | (guard_target = wpList _ _ _ (⟨some 108, .call _, _, _, _, _⟩ :: _) _ _; refine wpl (o := ⟨some 108, .call _, _, _, _, _⟩) rfl fun K hK => ?_; go_must (refine op_append_new hs rfl Tryd.underlying25 Tryd.underlying25 info_u8 rfl (by omega) rfl (slice_nil _ 1 (Has.mem m0 fun _ _ => trivial)) rfl (Has.of (A := (own (.slice (some ⟨b41, 0, none⟩) (dm + 1) c41) 5 (dm + 1) 1 (u8s D))) (by (try dsimp only [List.set]); repeat (first | with_reducible exact List.mem_cons_self | with_reducible apply List.mem_cons_of_mem)) own_sliceAt) (.inr rfl) (by omega) (by omega) fun v108 w2 h => hK _ _ ?_); clear hs hK K; have hs := h; clear h
       simp only [Nat.zero_add, List.nil_append] at hs
       obtain ⟨A108, c108, rfl, _, _⟩ := own_slice hs (i := 0) rfl)
    | (guard_target = wpList _ _ _ (⟨some 110, .buildSlice _ _ _, _, _, _, _⟩ :: _) _ _; refine wpl (o := ⟨some 110, .buildSlice _ _ _, _, _, _, _⟩) rfl fun K hK => ?_; go_must (refine op_lit1 hs rfl Tryd.underlying25 info_u8 rfl (u8s [y]) (by omega) rfl (u8s_one _) (by simp [u8s, Act.eval]) fun b110 w1 h => hK _ _ ?_); clear hs hK K; have hs := h; clear h; try dsimp only [List.set] at hs)
    | (guard_target = wpList _ _ _ (⟨some 111, .call _, _, _, _, _⟩ :: _) _ _; refine wpl (o := ⟨some 111, .call _, _, _, _, _⟩) rfl fun K hK => ?_; go_must (refine op_append hs rfl Tryd.underlying25 Tryd.underlying25 info_u8 rfl (by omega) (k := 1) rfl rfl rfl (lit_bytes (l := [y]) 0 rfl 1 rfl (by omega)) (u8s_one _) (by simp; omega) (by simp; omega) fun v111 w2 h => hK _ _ ?_); clear hs hK K; have hs := h; clear h; dsimp only [List.set] at hs
       obtain ⟨A111, c111, rfl, _, _⟩ := own_slice hs (i := 1) rfl))
  go_ret
  exact ⟨rfl, hs.pack (by repeat (first | with_reducible exact Pack.refl | with_reducible exact Pack.nil | with_reducible refine Pack.cons (by repeat (first | with_reducible exact Pick.here | with_reducible apply Pick.there)) ?_ | with_reducible apply Pack.drop))⟩
theorem redoBack_walk_a : redoBack_walk_cut.p1 :=
  redoBack_walk_a_cut.go ⟨redoBack_walk_a_b⟩
theorem redoBack_walk (W w : World) (L : List HP) (hs : Sat W w L) (hold : old W ∈ L) (hm : maxLenIs W) (c : RCm) (hco : c.Small) (y : UInt8) (vw : Value) (hvw : Has L (sliceAt vw c.W.length 4 (wsC c.W))) :
    Calls Tryd.prog 5 #[.agg (cmC c vw).toArray, .int .u8 y.toNat] w fun e w' => e = .returned (.bool true) ∧ Sat W w' L :=
  redoBack_walk_cut.go ⟨redoBack_walk_a⟩ W w L hs hold hm c hco y vw hvw
theorem redoBack_main (W : World) (hm : maxLenIs W) (c : RCm) (ds : List Value) (h0 : cmKin.K (hp W) c ds) (y : UInt8) (v : Value) (h1 : Kin.u8.K (hp W) y [v]) :
    Calls Tryd.prog 5 #[.agg ds.toArray, v] W fun e w' => e = .returned (.bool true) ∧ Below W.heap.size W w' := by
  obtain ⟨vw, rfl, k1, co⟩ := cm_val h0
  cases h1
  exact (redoBack_walk W W _ (Sat.start W) m0 hm c co y vw (hasW m0 k1)).mono fun e w' ⟨he, hs⟩ => ⟨he, hs.end_ m0⟩
end Go.Proofs.YthjnefpnnifjiaaDoor
