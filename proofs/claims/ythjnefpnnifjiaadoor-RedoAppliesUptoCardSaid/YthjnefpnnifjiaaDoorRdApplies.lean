/- The law RedoApplies. -/
import Derived.Test.YthjnefpnnifjiaaDoorRdKin
import Derived.Test.YthjnefpnnifjiaaDoorRdAwake
set_option linter.unusedVariables false
set_option linter.unusedSimpArgs false
namespace Go.Proofs.YthjnefpnnifjiaaDoor
open Go.RowKit
def apsS (b2 : Nat) (c2 : List Value) (b3 : Nat) (c3 : List Value) (b6 : Nat) (c6 : List Value) (w : World) : Prop := w.rangeAt b2 0 c2 ∧ w.rangeAt b3 0 c3 ∧ w.rangeAt b6 0 c6
set_option maxRecDepth 100000 in
set_option maxHeartbeats 16000000 in
theorem redoApplies_walk (W w : World) (L : List HP) (hs : Sat W w L) (hold : old W ∈ L) (hm : maxLenIs W) (s : RSt) (c : RCm) (hso : s.Small) (hco : c.Small) (vs vw : Value) (hvs : Has L (sliceAt vs s.L.length 5 (csC s.L))) (hvw : Has L (sliceAt vw c.W.length 4 (wsC c.W))) :
    Calls Tryd.prog 4 #[.agg (stC s vs).toArray, .agg (cmC c vw).toArray] w fun e w' => e = .returned (.bool true) ∧ Sat W w' L := by
  obtain ⟨As, cs, rfl, _, _⟩ := slice_form (hs.slice hvs)
  obtain ⟨Aw, cw, rfl, _, _⟩ := slice_form (hs.slice hvw)
  have HV := Box.mk hvs
  have HW := Box.mk hvw
  have HA := Box.mk (fun w (L : List HP) hs ho => awake20_spec W w L hs ho hm)
  have hln := hso.len
  have hlw := hco.len
  clear hvs hvw hm hso hco
  by_cases h60 : s.L.length ≤ 60
  · have h60I : ¬ (60 : Int) < (s.L.length : Int) := by omega
    by_cases w60 : c.W.length ≤ 60
    · have w60I : ¬ (60 : Int) < (c.W.length : Int) := by omega
      have HO := Box.mk (fun w (L : List HP) hs hv => ordered_spec W w L hs (.slice As s.L.length cs) s.L hv (by omega))
      obtain ⟨q, hq0⟩ : ∃ q, ordB s.L = q := ⟨_, rfl⟩
      rw [hq0] at HO
      clear hq0
      cases q with
      | false =>
        go_enter Tryd.func4, Tryd.ntmps4
        go_wp2_with (first
          | (guard_target = wpList _ _ _ (⟨some 2, .box _ _, _, _, _, _⟩ :: _) _ _; refine wpl (o := ⟨some 2, .box _ _, _, _, _, _⟩) rfl fun K hK => ?_; go_must (refine op_box hs rfl _ rfl (stC s (.slice As s.L.length cs)) rfl fun b2 w1 h => hK _ _ ?_); clear hs hK K; have hs := h; clear h; try dsimp only [List.set] at hs)
          | (guard_target = wpList _ _ _ (⟨some 3, .box _ _, _, _, _, _⟩ :: _) _ _; refine wpl (o := ⟨some 3, .box _ _, _, _, _, _⟩) rfl fun K hK => ?_; go_must (refine op_box hs rfl _ rfl (cmC c (.slice Aw c.W.length cw)) rfl fun b3 w1 h => hK _ _ ?_); clear hs hK K; have hs := h; clear h; try dsimp only [List.set] at hs)
          | (go_at_call 9; go_must (refine (HA.out _ _ hs (by (try dsimp only [List.set]); repeat (first | exact hold | apply List.mem_cons_of_mem))).mono ?_); clear hs; rintro e w1 ⟨rfl, hs⟩
             have k9 : w1.cell? ⟨b2, 3, none⟩ = some (.slice As s.L.length cs) := hs.cell (l := stC s (.slice As s.L.length cs)) (t := 39) (by (try dsimp only [List.set]); repeat (first | with_reducible exact List.mem_cons_self | with_reducible apply List.mem_cons_of_mem)) rfl
             have k14 : w1.cell? ⟨b3, 1, none⟩ = some (.slice Aw c.W.length cw) := hs.cell (l := cmC c (.slice Aw c.W.length cw)) (t := 24) (by (try dsimp only [List.set]); repeat (first | with_reducible exact List.mem_cons_self | with_reducible apply List.mem_cons_of_mem)) rfl)
          | (guard_target = wpList _ _ _ (⟨some 9, .load _ _, _, _, _, _⟩ :: _) _ _; refine wpl (o := ⟨some 9, .load _ _, _, _, _, _⟩) rfl fun K hK => op_load rfl (ad := ⟨b2, 3, none⟩) rfl (by kernel_rfl) k9 (hK _ _ ?_); clear hK K)
          | (guard_target = wpList _ _ _ (⟨some 14, .load _ _, _, _, _, _⟩ :: _) _ _; refine wpl (o := ⟨some 14, .load _ _, _, _, _, _⟩) rfl fun K hK => op_load rfl (ad := ⟨b3, 1, none⟩) rfl (by kernel_rfl) k14 (hK _ _ ?_); clear hK K)
          | (guard_target = wpList _ _ _ (⟨some 20, .load _ _, _, _, _, _⟩ :: _) _ _; refine wpl (o := ⟨some 20, .load _ _, _, _, _, _⟩) rfl fun K hK => op_load rfl (ad := ⟨b2, 3, none⟩) rfl (by kernel_rfl) k9 (hK _ _ ?_); clear hK K)
          | (go_at_call 15; go_must (refine (HO.out _ _ hs (show Has _ (sliceAt (.slice As s.L.length cs) s.L.length 5 (csC s.L)) from (by (try dsimp only [List.set]); repeat (first | exact HV.out | apply Has.tail)))).mono ?_); clear hs; rintro e w1 ⟨rfl, hs⟩))
        go_ret
        exact ⟨rfl, hs.pack (by repeat (first | with_reducible exact Pack.refl | with_reducible exact Pack.nil | with_reducible refine Pack.cons (by repeat (first | with_reducible exact Pick.here | with_reducible apply Pick.there)) ?_ | with_reducible apply Pack.drop))⟩
      | true =>
        have HMD := Box.mk (fun w (L : List HP) hs hv => made_spec W w L hs s (.slice As s.L.length cs) hv (by omega))
        have HAP := Box.mk (fun w (L : List HP) hs v hv hvw => apply_spec W w L hs s c v (.slice Aw c.W.length cw) hv hvw (by omega))
        have HRA := Box.mk (fun w (L : List HP) hs hv hvw => rapply_spec W w L hs s c (.slice As s.L.length cs) (.slice Aw c.W.length cw) hv hvw (by omega))
        have HSS := Box.mk (fun w (L : List HP) hs u v hu hv => rsame_spec W w L hs s u v hu hv (by omega))
        have HRS := Box.mk (fun w (L : List HP) hs v hv => real_spec W w L hs s v hv (by omega))
        have hRl : (applyR s c).L.length ≤ 1000000 := by
          have := applyL_len s.L c.ts c.W c.W.length (Nat.le_refl _)
          rw [List.take_length] at this
          show (applyL s.L c.ts c.W).length ≤ _
          omega
        generalize applyR s c = R at HAP HRA hRl
        have HSR := Box.mk (fun w (L : List HP) hs u v hu hv => rsame_spec W w L hs R u v hu hv (by omega))
        have HRR := Box.mk (fun w (L : List HP) hs v hv => real_spec W w L hs R v hv (by omega))
        go_enter Tryd.func4, Tryd.ntmps4
        go_wp2_with (first
          | (guard_target = wpList _ _ _ (⟨some 2, .box _ _, _, _, _, _⟩ :: _) _ _; refine wpl (o := ⟨some 2, .box _ _, _, _, _, _⟩) rfl fun K hK => ?_; go_must (refine op_box hs rfl _ rfl (stC s (.slice As s.L.length cs)) rfl fun b2 w1 h => hK _ _ ?_); clear hs hK K; have hs := h; clear h; try dsimp only [List.set] at hs)
          | (guard_target = wpList _ _ _ (⟨some 3, .box _ _, _, _, _, _⟩ :: _) _ _; refine wpl (o := ⟨some 3, .box _ _, _, _, _, _⟩) rfl fun K hK => ?_; go_must (refine op_box hs rfl _ rfl (cmC c (.slice Aw c.W.length cw)) rfl fun b3 w1 h => hK _ _ ?_); clear hs hK K; have hs := h; clear h; try dsimp only [List.set] at hs)
          | (go_at_call 9; go_must (refine (HA.out _ _ hs (by (try dsimp only [List.set]); repeat (first | exact hold | apply List.mem_cons_of_mem))).mono ?_); clear hs; rintro e w1 ⟨rfl, hs⟩
             have k9 : w1.cell? ⟨b2, 3, none⟩ = some (.slice As s.L.length cs) := hs.cell (l := stC s (.slice As s.L.length cs)) (t := 39) (by (try dsimp only [List.set]); repeat (first | with_reducible exact List.mem_cons_self | with_reducible apply List.mem_cons_of_mem)) rfl
             have k14 : w1.cell? ⟨b3, 1, none⟩ = some (.slice Aw c.W.length cw) := hs.cell (l := cmC c (.slice Aw c.W.length cw)) (t := 24) (by (try dsimp only [List.set]); repeat (first | with_reducible exact List.mem_cons_self | with_reducible apply List.mem_cons_of_mem)) rfl)
          | (guard_target = wpList _ _ _ (⟨some 9, .load _ _, _, _, _, _⟩ :: _) _ _; refine wpl (o := ⟨some 9, .load _ _, _, _, _, _⟩) rfl fun K hK => op_load rfl (ad := ⟨b2, 3, none⟩) rfl (by kernel_rfl) k9 (hK _ _ ?_); clear hK K)
          | (guard_target = wpList _ _ _ (⟨some 14, .load _ _, _, _, _, _⟩ :: _) _ _; refine wpl (o := ⟨some 14, .load _ _, _, _, _, _⟩) rfl fun K hK => op_load rfl (ad := ⟨b3, 1, none⟩) rfl (by kernel_rfl) k14 (hK _ _ ?_); clear hK K)
          | (guard_target = wpList _ _ _ (⟨some 20, .load _ _, _, _, _, _⟩ :: _) _ _; refine wpl (o := ⟨some 20, .load _ _, _, _, _, _⟩) rfl fun K hK => op_load rfl (ad := ⟨b2, 3, none⟩) rfl (by kernel_rfl) k9 (hK _ _ ?_); clear hK K)
          | (go_at_call 15; go_must (refine (HO.out _ _ hs (show Has _ (sliceAt (.slice As s.L.length cs) s.L.length 5 (csC s.L)) from (by (try dsimp only [List.set]); repeat (first | exact HV.out | apply Has.tail)))).mono ?_); clear hs; rintro e w1 ⟨rfl, hs⟩)
          | (guard_target = wpList _ _ _ (⟨some 25, .load _ _, _, _, _, _⟩ :: _) _ _; refine wpl (o := ⟨some 25, .load _ _, _, _, _, _⟩) rfl fun K hK => op_load_agg rfl (b := b2) (i := 0) rfl ((stC s (.slice As s.L.length cs))) (range_whole hs (by (try dsimp only [List.set]); repeat (first | with_reducible exact List.mem_cons_self | with_reducible apply List.mem_cons_of_mem))) (by kernel_rfl) (by kernel_rfl) (hK _ _ ?_); clear hK K)
          | (go_at_call 16; go_must (refine (HMD.out _ _ hs (show Has _ (sliceAt (.slice As s.L.length cs) s.L.length 5 (csC s.L)) from (by (try dsimp only [List.set]); repeat (first | exact HV.out | apply Has.tail)))).mono ?_); clear hs; rintro e w1 ⟨v26, rfl, hs⟩
             obtain ⟨A26, c26, rfl, _, _⟩ := own_slice hs (i := 0) rfl)
          | (guard_target = wpList _ _ _ (⟨some 6, .alloc _, _, _, _, _⟩ :: _) _ _; refine wpl (o := ⟨some 6, .alloc _, _, _, _, _⟩) rfl fun K hK => ?_; go_must (refine op_alloc hs rfl _ zstateR [Value.int .i64 0, .int .u32 0, .int .u32 0, .slice none 0 0] rfl fun b6 w1 h => hK _ _ ?_); clear hs hK K; have hs := h; clear h; try dsimp only [List.set] at hs)
          | (guard_target = wpList _ _ _ (⟨none, .store _ (.tmp 6) _, _, _, _, _⟩ :: _) _ _; refine wpl (o := ⟨none, .store _ (.tmp 6) _, _, _, _, _⟩) rfl fun K hK => ?_; go_must (refine op_store_whole hs (b := b6) rfl rfl (stC s (.slice A26 s.L.length c26)) rfl (by simp [stC, Value.oneCell']) (by kernel_rfl) (k := 0) rfl rfl fun w3 h => hK _ _ ?_); clear hs hK K; have hs := h; clear h; try dsimp only [List.set] at hs))
        have cS : ∀ w M, Sat W w M → row b2 (stC s (.slice As s.L.length cs)) 39 ∈ M → row b3 (cmC c (.slice Aw c.W.length cw)) 24 ∈ M → row b6 (stC s (.slice A26 s.L.length c26)) 43 ∈ M → (apsS b2 (stC s (.slice As s.L.length cs)) b3 (cmC c (.slice Aw c.W.length cw)) b6 (stC s (.slice A26 s.L.length c26))) w := fun w M h h1 h2 h3 => ⟨range_whole h h1, range_whole h h2, range_whole h h3⟩
        have r2 : ∀ w, (apsS b2 (stC s (.slice As s.L.length cs)) b3 (cmC c (.slice Aw c.W.length cw)) b6 (stC s (.slice A26 s.L.length c26))) w → w.rangeAt b2 0 (stC s (.slice As s.L.length cs)) := fun w h => h.1
        have r3 : ∀ w, (apsS b2 (stC s (.slice As s.L.length cs)) b3 (cmC c (.slice Aw c.W.length cw)) b6 (stC s (.slice A26 s.L.length c26))) w → w.rangeAt b3 0 (cmC c (.slice Aw c.W.length cw)) := fun w h => h.2.1
        have r6 : ∀ w, (apsS b2 (stC s (.slice As s.L.length cs)) b3 (cmC c (.slice Aw c.W.length cw)) b6 (stC s (.slice A26 s.L.length c26))) w → w.rangeAt b6 0 (stC s (.slice A26 s.L.length c26)) := fun w h => h.2.2
        have hS0 := cS _ _ hs.drew (by (try dsimp only [List.set]); repeat (first | with_reducible exact List.mem_cons_self | with_reducible apply List.mem_cons_of_mem | with_reducible apply List.mem_append_right)) (by (try dsimp only [List.set]); repeat (first | with_reducible exact List.mem_cons_self | with_reducible apply List.mem_cons_of_mem | with_reducible apply List.mem_append_right)) (by (try dsimp only [List.set]); repeat (first | with_reducible exact List.mem_cons_self | with_reducible apply List.mem_cons_of_mem | with_reducible apply List.mem_append_right))
        refine wp_region_tree ((apsS b2 (stC s (.slice As s.L.length cs)) b3 (cmC c (.slice Aw c.W.length cw)) b6 (stC s (.slice A26 s.L.length c26)))) (.take 0 (.take 1 (.take 2 (.take 3 (.take 6 (.take 7 (.all [(4, .all [(5, .all [(8, .all [(9, .take 10 (.take 11 (.take 12 (.take 14 (.all [(13, .all [(15, .take 16 (.take 17 (DTree.done)))])])))))])])])]))))))) (by kernel_rfl) (by kernel_rfl) (by kernel_rfl) (fun _ _ d _ _ h => by cases d <;> exact h) hS0 ?_
        have hs' := hs.drew
        clear hs
        have hs := hs'
        clear hs'
        have hq := fun p : Prop => class_const hS0 p
        clear hS0
        repeat (first
          | (with_reducible refine tree_load_agg (o := ⟨some 29, .load _ _, _, _, _, _⟩) (stC s (.slice A26 s.L.length c26)) rfl rfl rfl rfl ?_ ?_ r6 ?_; (kernel_rfl); (kernel_rfl))
          | (with_reducible refine tree_load_agg (o := ⟨some 30, .load _ _, _, _, _, _⟩) (cmC c (.slice Aw c.W.length cw)) rfl rfl rfl rfl ?_ ?_ r3 ?_; (kernel_rfl); (kernel_rfl))
          | (with_reducible refine tree_load_agg (o := ⟨some 33, .load _ _, _, _, _, _⟩) (stC s (.slice As s.L.length cs)) rfl rfl rfl rfl ?_ ?_ r2 ?_; (kernel_rfl); (kernel_rfl))
          | (with_reducible refine tree_load_agg (o := ⟨some 34, .load _ _, _, _, _, _⟩) (cmC c (.slice Aw c.W.length cw)) rfl rfl rfl rfl ?_ ?_ r3 ?_; (kernel_rfl); (kernel_rfl))
          | (with_reducible refine tree_load_agg (o := ⟨some 39, .load _ _, _, _, _, _⟩) (stC s (.slice A26 s.L.length c26)) rfl rfl rfl rfl ?_ ?_ r6 ?_; (kernel_rfl); (kernel_rfl))
          | (with_reducible refine tree_load_agg (o := ⟨some 41, .load _ _, _, _, _, _⟩) (stC s (.slice As s.L.length cs)) rfl rfl rfl rfl ?_ ?_ r2 ?_; (kernel_rfl); (kernel_rfl))
          | (refine tree_take rfl (fun K hK => ?_); go_simp; with_reducible refine hK _ ?_; clear hK K))
        refine tree_one_yes (o := _) rfl rfl (fun K hK => ?_) (cS _ _ hs (by (try dsimp only [List.set]); repeat (first | with_reducible exact List.mem_cons_self | with_reducible apply List.mem_cons_of_mem | with_reducible apply List.mem_append_right)) (by (try dsimp only [List.set]); repeat (first | with_reducible exact List.mem_cons_self | with_reducible apply List.mem_cons_of_mem | with_reducible apply List.mem_append_right)) (by (try dsimp only [List.set]); repeat (first | with_reducible exact List.mem_cons_self | with_reducible apply List.mem_cons_of_mem | with_reducible apply List.mem_append_right)))
        try go_simp
        go_at_call 19
        refine (HAP.out _ _ hs (.slice A26 s.L.length c26) (Has.of (A := own (.slice A26 s.L.length c26) 59 s.L.length 5 (csC s.L)) (by (try dsimp only [List.set]); repeat (first | with_reducible exact List.mem_cons_self | with_reducible apply List.mem_cons_of_mem)) own_sliceAt) (show Has _ (sliceAt (.slice Aw c.W.length cw) c.W.length 4 (wsC c.W)) from (by (try dsimp only [List.set]); repeat (first | exact HW.out | apply Has.tail)))).mono ?_
        clear hs
        rintro e w5 ⟨v31, rfl, hs⟩
        try go_simp
        refine hK _ _ (cS _ _ hs (by (try dsimp only [List.set]); repeat (first | with_reducible exact List.mem_cons_self | with_reducible apply List.mem_cons_of_mem | with_reducible apply List.mem_append_right)) (by (try dsimp only [List.set]); repeat (first | with_reducible exact List.mem_cons_self | with_reducible apply List.mem_cons_of_mem | with_reducible apply List.mem_append_right)) (by (try dsimp only [List.set]); repeat (first | with_reducible exact List.mem_cons_self | with_reducible apply List.mem_cons_of_mem | with_reducible apply List.mem_append_right))) ?_
        clear hK K
        refine tree_one_yes (o := _) rfl rfl (fun K hK => ?_) (cS _ _ hs (by (try dsimp only [List.set]); repeat (first | with_reducible exact List.mem_cons_self | with_reducible apply List.mem_cons_of_mem | with_reducible apply List.mem_append_right)) (by (try dsimp only [List.set]); repeat (first | with_reducible exact List.mem_cons_self | with_reducible apply List.mem_cons_of_mem | with_reducible apply List.mem_append_right)) (by (try dsimp only [List.set]); repeat (first | with_reducible exact List.mem_cons_self | with_reducible apply List.mem_cons_of_mem | with_reducible apply List.mem_append_right)))
        try go_simp
        go_at_call 18
        refine (HRR.out _ _ hs v31 (Has.mem m0 own_sliceAt)).mono ?_
        clear hs
        rintro e w5 ⟨v32, rfl, hs⟩
        try go_simp
        refine hK _ _ (cS _ _ hs (by (try dsimp only [List.set]); repeat (first | with_reducible exact List.mem_cons_self | with_reducible apply List.mem_cons_of_mem | with_reducible apply List.mem_append_right)) (by (try dsimp only [List.set]); repeat (first | with_reducible exact List.mem_cons_self | with_reducible apply List.mem_cons_of_mem | with_reducible apply List.mem_append_right)) (by (try dsimp only [List.set]); repeat (first | with_reducible exact List.mem_cons_self | with_reducible apply List.mem_cons_of_mem | with_reducible apply List.mem_append_right))) ?_
        clear hK K
        refine tree_one_yes (o := _) rfl rfl (fun K hK => ?_) (cS _ _ hs (by (try dsimp only [List.set]); repeat (first | with_reducible exact List.mem_cons_self | with_reducible apply List.mem_cons_of_mem | with_reducible apply List.mem_append_right)) (by (try dsimp only [List.set]); repeat (first | with_reducible exact List.mem_cons_self | with_reducible apply List.mem_cons_of_mem | with_reducible apply List.mem_append_right)) (by (try dsimp only [List.set]); repeat (first | with_reducible exact List.mem_cons_self | with_reducible apply List.mem_cons_of_mem | with_reducible apply List.mem_append_right)))
        try go_simp
        go_at_call 20
        refine (HRA.out _ _ hs (show Has _ (sliceAt (.slice As s.L.length cs) s.L.length 5 (csC s.L)) from (by (try dsimp only [List.set]); repeat (first | exact HV.out | apply Has.tail))) (show Has _ (sliceAt (.slice Aw c.W.length cw) c.W.length 4 (wsC c.W)) from (by (try dsimp only [List.set]); repeat (first | exact HW.out | apply Has.tail)))).mono ?_
        clear hs
        rintro e w5 ⟨v35, rfl, M35, hM35, hs⟩
        have HM35 := Box.mk hM35
        clear hM35
        try go_simp
        refine hK _ _ (cS _ _ hs (by (try dsimp only [List.set]); repeat (first | with_reducible exact List.mem_cons_self | with_reducible apply List.mem_cons_of_mem | with_reducible apply List.mem_append_right)) (by (try dsimp only [List.set]); repeat (first | with_reducible exact List.mem_cons_self | with_reducible apply List.mem_cons_of_mem | with_reducible apply List.mem_append_right)) (by (try dsimp only [List.set]); repeat (first | with_reducible exact List.mem_cons_self | with_reducible apply List.mem_cons_of_mem | with_reducible apply List.mem_append_right))) ?_
        clear hK K
        refine tree_one_yes (o := _) rfl rfl (fun K hK => ?_) (cS _ _ hs (by (try dsimp only [List.set]); repeat (first | with_reducible exact List.mem_cons_self | with_reducible apply List.mem_cons_of_mem | with_reducible apply List.mem_append_right)) (by (try dsimp only [List.set]); repeat (first | with_reducible exact List.mem_cons_self | with_reducible apply List.mem_cons_of_mem | with_reducible apply List.mem_append_right)) (by (try dsimp only [List.set]); repeat (first | with_reducible exact List.mem_cons_self | with_reducible apply List.mem_cons_of_mem | with_reducible apply List.mem_append_right)))
        try go_simp
        go_at_call 17
        refine (HSR.out _ _ hs v32 v35 (Has.app (Has.mem m0 own_sliceAt)) HM35.out).mono ?_
        clear hs
        rintro e w5 ⟨rfl, hs⟩
        try go_simp
        refine hK _ _ (cS _ _ hs (by (try dsimp only [List.set]); repeat (first | with_reducible exact List.mem_cons_self | with_reducible apply List.mem_cons_of_mem | with_reducible apply List.mem_append_right)) (by (try dsimp only [List.set]); repeat (first | with_reducible exact List.mem_cons_self | with_reducible apply List.mem_cons_of_mem | with_reducible apply List.mem_append_right)) (by (try dsimp only [List.set]); repeat (first | with_reducible exact List.mem_cons_self | with_reducible apply List.mem_cons_of_mem | with_reducible apply List.mem_append_right))) ?_
        clear hK K
        repeat (first
          | (with_reducible refine tree_load_agg (o := ⟨some 29, .load _ _, _, _, _, _⟩) (stC s (.slice A26 s.L.length c26)) rfl rfl rfl rfl ?_ ?_ r6 ?_; (kernel_rfl); (kernel_rfl))
          | (with_reducible refine tree_load_agg (o := ⟨some 30, .load _ _, _, _, _, _⟩) (cmC c (.slice Aw c.W.length cw)) rfl rfl rfl rfl ?_ ?_ r3 ?_; (kernel_rfl); (kernel_rfl))
          | (with_reducible refine tree_load_agg (o := ⟨some 33, .load _ _, _, _, _, _⟩) (stC s (.slice As s.L.length cs)) rfl rfl rfl rfl ?_ ?_ r2 ?_; (kernel_rfl); (kernel_rfl))
          | (with_reducible refine tree_load_agg (o := ⟨some 34, .load _ _, _, _, _, _⟩) (cmC c (.slice Aw c.W.length cw)) rfl rfl rfl rfl ?_ ?_ r3 ?_; (kernel_rfl); (kernel_rfl))
          | (with_reducible refine tree_load_agg (o := ⟨some 39, .load _ _, _, _, _, _⟩) (stC s (.slice A26 s.L.length c26)) rfl rfl rfl rfl ?_ ?_ r6 ?_; (kernel_rfl); (kernel_rfl))
          | (with_reducible refine tree_load_agg (o := ⟨some 41, .load _ _, _, _, _, _⟩) (stC s (.slice As s.L.length cs)) rfl rfl rfl rfl ?_ ?_ r2 ?_; (kernel_rfl); (kernel_rfl))
          | (refine tree_take rfl (fun K hK => ?_); go_simp; with_reducible refine hK _ ?_; clear hK K))
        refine tree_one_yes (o := _) rfl rfl (fun K hK => ?_) (cS _ _ hs (by (try dsimp only [List.set]); repeat (first | with_reducible exact List.mem_cons_self | with_reducible apply List.mem_cons_of_mem | with_reducible apply List.mem_append_right)) (by (try dsimp only [List.set]); repeat (first | with_reducible exact List.mem_cons_self | with_reducible apply List.mem_cons_of_mem | with_reducible apply List.mem_append_right)) (by (try dsimp only [List.set]); repeat (first | with_reducible exact List.mem_cons_self | with_reducible apply List.mem_cons_of_mem | with_reducible apply List.mem_append_right)))
        try go_simp
        go_at_call 18
        refine (HRS.out _ _ hs (.slice A26 s.L.length c26) (Has.of (A := own (.slice A26 s.L.length c26) 59 s.L.length 5 (csC s.L)) (by (try dsimp only [List.set]); repeat (first | with_reducible exact List.mem_cons_self | with_reducible apply List.mem_cons_of_mem | with_reducible apply List.mem_append_right)) own_sliceAt)).mono ?_
        clear hs
        rintro e w5 ⟨v40, rfl, hs⟩
        try go_simp
        refine hK _ _ (cS _ _ hs (by (try dsimp only [List.set]); repeat (first | with_reducible exact List.mem_cons_self | with_reducible apply List.mem_cons_of_mem | with_reducible apply List.mem_append_right)) (by (try dsimp only [List.set]); repeat (first | with_reducible exact List.mem_cons_self | with_reducible apply List.mem_cons_of_mem | with_reducible apply List.mem_append_right)) (by (try dsimp only [List.set]); repeat (first | with_reducible exact List.mem_cons_self | with_reducible apply List.mem_cons_of_mem | with_reducible apply List.mem_append_right))) ?_
        clear hK K
        refine tree_one_yes (o := _) rfl rfl (fun K hK => ?_) (cS _ _ hs (by (try dsimp only [List.set]); repeat (first | with_reducible exact List.mem_cons_self | with_reducible apply List.mem_cons_of_mem | with_reducible apply List.mem_append_right)) (by (try dsimp only [List.set]); repeat (first | with_reducible exact List.mem_cons_self | with_reducible apply List.mem_cons_of_mem | with_reducible apply List.mem_append_right)) (by (try dsimp only [List.set]); repeat (first | with_reducible exact List.mem_cons_self | with_reducible apply List.mem_cons_of_mem | with_reducible apply List.mem_append_right)))
        try go_simp
        go_at_call 17
        refine (HSS.out _ _ hs v40 (.slice As s.L.length cs) (Has.mem m0 own_sliceAt) (show Has _ (sliceAt (.slice As s.L.length cs) s.L.length 5 (csC s.L)) from (by (try dsimp only [List.set]); repeat (first | exact HV.out | with_reducible apply Has.tail | with_reducible apply Has.app)))).mono ?_
        clear hs
        rintro e w5 ⟨rfl, hs⟩
        try go_simp
        refine hK _ _ (cS _ _ hs (by (try dsimp only [List.set]); repeat (first | with_reducible exact List.mem_cons_self | with_reducible apply List.mem_cons_of_mem | with_reducible apply List.mem_append_right)) (by (try dsimp only [List.set]); repeat (first | with_reducible exact List.mem_cons_self | with_reducible apply List.mem_cons_of_mem | with_reducible apply List.mem_append_right)) (by (try dsimp only [List.set]); repeat (first | with_reducible exact List.mem_cons_self | with_reducible apply List.mem_cons_of_mem | with_reducible apply List.mem_append_right))) ?_
        clear hK K
        repeat (first
          | (with_reducible refine tree_load_agg (o := ⟨some 29, .load _ _, _, _, _, _⟩) (stC s (.slice A26 s.L.length c26)) rfl rfl rfl rfl ?_ ?_ r6 ?_; (kernel_rfl); (kernel_rfl))
          | (with_reducible refine tree_load_agg (o := ⟨some 30, .load _ _, _, _, _, _⟩) (cmC c (.slice Aw c.W.length cw)) rfl rfl rfl rfl ?_ ?_ r3 ?_; (kernel_rfl); (kernel_rfl))
          | (with_reducible refine tree_load_agg (o := ⟨some 33, .load _ _, _, _, _, _⟩) (stC s (.slice As s.L.length cs)) rfl rfl rfl rfl ?_ ?_ r2 ?_; (kernel_rfl); (kernel_rfl))
          | (with_reducible refine tree_load_agg (o := ⟨some 34, .load _ _, _, _, _, _⟩) (cmC c (.slice Aw c.W.length cw)) rfl rfl rfl rfl ?_ ?_ r3 ?_; (kernel_rfl); (kernel_rfl))
          | (with_reducible refine tree_load_agg (o := ⟨some 39, .load _ _, _, _, _, _⟩) (stC s (.slice A26 s.L.length c26)) rfl rfl rfl rfl ?_ ?_ r6 ?_; (kernel_rfl); (kernel_rfl))
          | (with_reducible refine tree_load_agg (o := ⟨some 41, .load _ _, _, _, _, _⟩) (stC s (.slice As s.L.length cs)) rfl rfl rfl rfl ?_ ?_ r2 ?_; (kernel_rfl); (kernel_rfl))
          | (refine tree_take rfl (fun K hK => ?_); go_simp; with_reducible refine hK _ ?_; clear hK K))
        refine tree_done ?_
        clear hq
        go_wp2_with fail
        go_ret
        exact ⟨rfl, hs.pack (by repeat (first | with_reducible exact Pack.refl | with_reducible exact Pack.nil | with_reducible refine Pack.cons (by repeat (first | with_reducible exact Pick.here | with_reducible apply Pick.there)) ?_ | with_reducible apply Pack.drop | with_reducible apply Pack.drops))⟩
    · have w60I : (60 : Int) < (c.W.length : Int) := by omega
      go_enter Tryd.func4, Tryd.ntmps4
      go_wp2_with (first
        | (guard_target = wpList _ _ _ (⟨some 2, .box _ _, _, _, _, _⟩ :: _) _ _; refine wpl (o := ⟨some 2, .box _ _, _, _, _, _⟩) rfl fun K hK => ?_; go_must (refine op_box hs rfl _ rfl (stC s (.slice As s.L.length cs)) rfl fun b2 w1 h => hK _ _ ?_); clear hs hK K; have hs := h; clear h; try dsimp only [List.set] at hs)
        | (guard_target = wpList _ _ _ (⟨some 3, .box _ _, _, _, _, _⟩ :: _) _ _; refine wpl (o := ⟨some 3, .box _ _, _, _, _, _⟩) rfl fun K hK => ?_; go_must (refine op_box hs rfl _ rfl (cmC c (.slice Aw c.W.length cw)) rfl fun b3 w1 h => hK _ _ ?_); clear hs hK K; have hs := h; clear h; try dsimp only [List.set] at hs)
        | (go_at_call 9; go_must (refine (HA.out _ _ hs (by (try dsimp only [List.set]); repeat (first | exact hold | apply List.mem_cons_of_mem))).mono ?_); clear hs; rintro e w1 ⟨rfl, hs⟩
           have k9 : w1.cell? ⟨b2, 3, none⟩ = some (.slice As s.L.length cs) := hs.cell (l := stC s (.slice As s.L.length cs)) (t := 39) (by (try dsimp only [List.set]); repeat (first | with_reducible exact List.mem_cons_self | with_reducible apply List.mem_cons_of_mem)) rfl
           have k14 : w1.cell? ⟨b3, 1, none⟩ = some (.slice Aw c.W.length cw) := hs.cell (l := cmC c (.slice Aw c.W.length cw)) (t := 24) (by (try dsimp only [List.set]); repeat (first | with_reducible exact List.mem_cons_self | with_reducible apply List.mem_cons_of_mem)) rfl)
        | (guard_target = wpList _ _ _ (⟨some 9, .load _ _, _, _, _, _⟩ :: _) _ _; refine wpl (o := ⟨some 9, .load _ _, _, _, _, _⟩) rfl fun K hK => op_load rfl (ad := ⟨b2, 3, none⟩) rfl (by kernel_rfl) k9 (hK _ _ ?_); clear hK K)
        | (guard_target = wpList _ _ _ (⟨some 14, .load _ _, _, _, _, _⟩ :: _) _ _; refine wpl (o := ⟨some 14, .load _ _, _, _, _, _⟩) rfl fun K hK => op_load rfl (ad := ⟨b3, 1, none⟩) rfl (by kernel_rfl) k14 (hK _ _ ?_); clear hK K)
        | (guard_target = wpList _ _ _ (⟨some 20, .load _ _, _, _, _, _⟩ :: _) _ _; refine wpl (o := ⟨some 20, .load _ _, _, _, _, _⟩) rfl fun K hK => op_load rfl (ad := ⟨b2, 3, none⟩) rfl (by kernel_rfl) k9 (hK _ _ ?_); clear hK K)
        | (go_at_call 15; go_must (refine (HO.out _ _ hs (show Has _ (sliceAt (.slice As s.L.length cs) s.L.length 5 (csC s.L)) from (by (try dsimp only [List.set]); repeat (first | exact HV.out | apply Has.tail)))).mono ?_); clear hs; rintro e w1 ⟨rfl, hs⟩))
      go_ret
      exact ⟨rfl, hs.pack (by repeat (first | with_reducible exact Pack.refl | with_reducible exact Pack.nil | with_reducible refine Pack.cons (by repeat (first | with_reducible exact Pick.here | with_reducible apply Pick.there)) ?_ | with_reducible apply Pack.drop))⟩
  · have h60I : (60 : Int) < (s.L.length : Int) := by omega
    go_enter Tryd.func4, Tryd.ntmps4
    go_wp2_with (first
      | (guard_target = wpList _ _ _ (⟨some 2, .box _ _, _, _, _, _⟩ :: _) _ _; refine wpl (o := ⟨some 2, .box _ _, _, _, _, _⟩) rfl fun K hK => ?_; go_must (refine op_box hs rfl _ rfl (stC s (.slice As s.L.length cs)) rfl fun b2 w1 h => hK _ _ ?_); clear hs hK K; have hs := h; clear h; try dsimp only [List.set] at hs)
      | (guard_target = wpList _ _ _ (⟨some 3, .box _ _, _, _, _, _⟩ :: _) _ _; refine wpl (o := ⟨some 3, .box _ _, _, _, _, _⟩) rfl fun K hK => ?_; go_must (refine op_box hs rfl _ rfl (cmC c (.slice Aw c.W.length cw)) rfl fun b3 w1 h => hK _ _ ?_); clear hs hK K; have hs := h; clear h; try dsimp only [List.set] at hs)
      | (go_at_call 9; go_must (refine (HA.out _ _ hs (by (try dsimp only [List.set]); repeat (first | exact hold | apply List.mem_cons_of_mem))).mono ?_); clear hs; rintro e w1 ⟨rfl, hs⟩
         have k9 : w1.cell? ⟨b2, 3, none⟩ = some (.slice As s.L.length cs) := hs.cell (l := stC s (.slice As s.L.length cs)) (t := 39) (by (try dsimp only [List.set]); repeat (first | with_reducible exact List.mem_cons_self | with_reducible apply List.mem_cons_of_mem)) rfl
         have k14 : w1.cell? ⟨b3, 1, none⟩ = some (.slice Aw c.W.length cw) := hs.cell (l := cmC c (.slice Aw c.W.length cw)) (t := 24) (by (try dsimp only [List.set]); repeat (first | with_reducible exact List.mem_cons_self | with_reducible apply List.mem_cons_of_mem)) rfl)
      | (guard_target = wpList _ _ _ (⟨some 9, .load _ _, _, _, _, _⟩ :: _) _ _; refine wpl (o := ⟨some 9, .load _ _, _, _, _, _⟩) rfl fun K hK => op_load rfl (ad := ⟨b2, 3, none⟩) rfl (by kernel_rfl) k9 (hK _ _ ?_); clear hK K)
      | (guard_target = wpList _ _ _ (⟨some 14, .load _ _, _, _, _, _⟩ :: _) _ _; refine wpl (o := ⟨some 14, .load _ _, _, _, _, _⟩) rfl fun K hK => op_load rfl (ad := ⟨b3, 1, none⟩) rfl (by kernel_rfl) k14 (hK _ _ ?_); clear hK K)
      | (guard_target = wpList _ _ _ (⟨some 20, .load _ _, _, _, _, _⟩ :: _) _ _; refine wpl (o := ⟨some 20, .load _ _, _, _, _, _⟩) rfl fun K hK => op_load rfl (ad := ⟨b2, 3, none⟩) rfl (by kernel_rfl) k9 (hK _ _ ?_); clear hK K)
      | (go_at_call 15; go_must (refine (HO.out _ _ hs (show Has _ (sliceAt (.slice As s.L.length cs) s.L.length 5 (csC s.L)) from (by (try dsimp only [List.set]); repeat (first | exact HV.out | apply Has.tail)))).mono ?_); clear hs; rintro e w1 ⟨rfl, hs⟩))
    go_ret
    exact ⟨rfl, hs.pack (by repeat (first | with_reducible exact Pack.refl | with_reducible exact Pack.nil | with_reducible refine Pack.cons (by repeat (first | with_reducible exact Pick.here | with_reducible apply Pick.there)) ?_ | with_reducible apply Pack.drop))⟩
theorem redoApplies_main (W : World) (hm : maxLenIs W) (s : RSt) (cs : List Value) (h0 : stKin.K (hp W) s cs) (c : RCm) (ds : List Value) (h1 : cmKin.K (hp W) c ds) :
    Calls Tryd.prog 4 #[.agg cs.toArray, .agg ds.toArray] W fun e w' => e = .returned (.bool true) ∧ Below W.heap.size W w' := by
  obtain ⟨vs, rfl, k0, so⟩ := st_val h0
  obtain ⟨vw, rfl, k1, co⟩ := cm_val h1
  exact (redoApplies_walk W W _ (Sat.start W) m0 hm s c so co vs vw (hasW m0 k0) (hasW m0 k1)).mono fun e w' ⟨he, hs⟩ => ⟨he, hs.end_ m0⟩
end Go.Proofs.YthjnefpnnifjiaaDoor
