/- The law RedoFresh. -/
import Derived.Test.YthjnefpnnifjiaaDoorRdFreshP
set_option linter.unusedVariables false
set_option linter.unusedSimpArgs false
namespace Go.Proofs.YthjnefpnnifjiaaDoor
open Go.RowKit
def frsS (b2 : Nat) (c2 : List Value) (b6 : Nat) (c6 : List Value) (w : World) : Prop := w.rangeAt b2 0 c2 ∧ w.rangeAt b6 0 c6
def frfS (b8 : Nat) (vy : Value) (ba o : Nat) (cy : List Value) (b7 : Nat) (vx : Value) (bw p : Nat) (cx : List Value) (ts : Int) (w : World) : Prop := w.cell? ⟨b8, 3, none⟩ = some vy ∧ w.rangeAt ba o cy ∧ w.cell? ⟨b7, 1, none⟩ = some vx ∧ w.rangeAt bw p cx ∧ w.cell? ⟨b7, 0, none⟩ = some (.int .i64 ts)
/-- A leaf of a walk that is cut into several declarations. -/
structure RdFreshLLeaf (p : Prop) : Prop where
  out : p
structure RdFreshLCut1 (M : Prop) where
  p1 : Prop
  go : RdFreshLLeaf p1 → M
structure RdFreshLCut2 (M : Prop) where
  p1 : Prop
  p2 : Prop
  go : RdFreshLLeaf p1 → RdFreshLLeaf p2 → M
set_option maxRecDepth 100000 in
set_option maxHeartbeats 30000000 in
noncomputable def redoFresh_walk_cut : RdFreshLCut1 (∀ (W w : World) (L : List HP) (hs : Sat W w L) (hold : old W ∈ L) (hm : maxLenIs W) (s : RSt) (c : RCm) (hso : s.Small) (hco : c.Small) (vs vw : Value) (hvs : Has L (sliceAt vs s.L.length 5 (csC s.L))) (hvw : Has L (sliceAt vw c.W.length 4 (wsC c.W))), Calls Tryd.prog 8 #[.agg (stC s vs).toArray, .agg (cmC c vw).toArray] w fun e w' => e = .returned (.bool true) ∧ Sat W w' L) := by
  apply RdFreshLCut1.mk
  case go =>
    intro K_redoFresh_walk_a W w L hs hold hm s c hso hco vs vw hvs hvw
    obtain ⟨As, cs, rfl, _, _⟩ := slice_form (hs.slice hvs)
    obtain ⟨Aw, cw, rfl, _, _⟩ := slice_form (hs.slice hvw)
    have HV := Box.mk hvs
    have HW := Box.mk hvw
    have HA := Box.mk (fun w (L : List HP) hs ho => awake20_spec W w L hs ho hm)
    have hln := hso.len
    have hlw := hco.len
    have HTI := Box.mk hco.ts
    clear hvs hvw hm hso hco
    by_cases h60 : s.L.length ≤ 60
    · have h60I : ¬ (60 : Int) < (s.L.length : Int) := by omega
      by_cases w60 : c.W.length ≤ 60
      · have w60I : ¬ (60 : Int) < (c.W.length : Int) := by omega
        have HO := Box.mk (fun w (L : List HP) hs hv => ordered_spec W w L hs (.slice As s.L.length cs) s.L hv (by omega))
        obtain ⟨q, hq0⟩ : ∃ q, ordB s.L = q := ⟨_, rfl⟩
        rw [hq0] at HO
        cases q with
        | false =>
          clear hq0
          go_enter Tryd.func8, Tryd.ntmps8
          go_wp2_with (first
            | (guard_target = wpList _ _ _ (⟨some 2, .box _ _, _, _, _, _⟩ :: _) _ _; refine wpl (o := ⟨some 2, .box _ _, _, _, _, _⟩) rfl fun K hK => ?_; go_must (refine op_box hs rfl _ rfl (stC s (.slice As s.L.length cs)) rfl fun b2 w1 h => hK _ _ ?_); clear hs hK K; have hs := h; clear h; try dsimp only [List.set] at hs)
            | (guard_target = wpList _ _ _ (⟨some 3, .box _ _, _, _, _, _⟩ :: _) _ _; refine wpl (o := ⟨some 3, .box _ _, _, _, _, _⟩) rfl fun K hK => ?_; go_must (refine op_box hs rfl _ rfl (cmC c (.slice Aw c.W.length cw)) rfl fun b3 w1 h => hK _ _ ?_); clear hs hK K; have hs := h; clear h; try dsimp only [List.set] at hs)
            | (go_at_call 9; go_must (refine (HA.out _ _ hs (by (try dsimp only [List.set]); repeat (first | exact hold | apply List.mem_cons_of_mem))).mono ?_); clear hs; rintro e w1 ⟨rfl, hs⟩
               have k14 : w1.cell? ⟨b2, 3, none⟩ = some (.slice As s.L.length cs) := hs.cell (l := stC s (.slice As s.L.length cs)) (t := 39) (by (try dsimp only [List.set]); repeat (first | with_reducible exact List.mem_cons_self | with_reducible apply List.mem_cons_of_mem)) rfl
               have k19 : w1.cell? ⟨b3, 1, none⟩ = some (.slice Aw c.W.length cw) := hs.cell (l := cmC c (.slice Aw c.W.length cw)) (t := 24) (by (try dsimp only [List.set]); repeat (first | with_reducible exact List.mem_cons_self | with_reducible apply List.mem_cons_of_mem)) rfl)
            | (guard_target = wpList _ _ _ (⟨some 14, .load _ _, _, _, _, _⟩ :: _) _ _; refine wpl (o := ⟨some 14, .load _ _, _, _, _, _⟩) rfl fun K hK => op_load rfl (ad := ⟨b2, 3, none⟩) rfl (by kernel_rfl) k14 (hK _ _ ?_); clear hK K)
            | (guard_target = wpList _ _ _ (⟨some 19, .load _ _, _, _, _, _⟩ :: _) _ _; refine wpl (o := ⟨some 19, .load _ _, _, _, _, _⟩) rfl fun K hK => op_load rfl (ad := ⟨b3, 1, none⟩) rfl (by kernel_rfl) k19 (hK _ _ ?_); clear hK K)
            | (guard_target = wpList _ _ _ (⟨some 25, .load _ _, _, _, _, _⟩ :: _) _ _; refine wpl (o := ⟨some 25, .load _ _, _, _, _, _⟩) rfl fun K hK => op_load rfl (ad := ⟨b2, 3, none⟩) rfl (by kernel_rfl) k14 (hK _ _ ?_); clear hK K)
            | (go_at_call 15; go_must (refine (HO.out _ _ hs (show Has _ (sliceAt (.slice As s.L.length cs) s.L.length 5 (csC s.L)) from (by (try dsimp only [List.set]); repeat (first | exact HV.out | apply Has.tail)))).mono ?_); clear hs; rintro e w1 ⟨rfl, hs⟩))
          go_ret
          exact ⟨rfl, hs.pack (by repeat (first | with_reducible exact Pack.refl | with_reducible exact Pack.nil | with_reducible refine Pack.cons (by repeat (first | with_reducible exact Pick.here | with_reducible apply Pick.there)) ?_ | with_reducible apply Pack.drop))⟩
        | true =>
          have hsrt := (srt_iff _).1 hq0
          clear hq0
          have hti := tidyC_tidy c HTI.out (by omega)
          have hFX := Box.mk (fun w hw => fresh_found hsrt (tidyC c) hti w hw)
          have hFO : ordB (applyL (freshL s.L) (tidyC c).ts (tidyC c).W) = true := (srt_iff _).2 (fresh_law hsrt (tidyC c) hti).srt
          have hGF := graph_fresh s.L
          have hfl := freshL_len s.L
          have hgl := graphL_len s.L
          have htl := tidyW_len c.W
          have hyl := applyL_len (freshL s.L) (tidyC c).ts (tidyC c).W (tidyC c).W.length (Nat.le_refl _)
          rw [List.take_length] at hyl
          have HMD := Box.mk (fun w (L : List HP) hs hv => made_spec W w L hs s (.slice As s.L.length cs) hv (by omega))
          have HFR := Box.mk (fun w (L : List HP) hs v hv => fresh_spec W w L hs s v hv (by omega))
          have HTD := Box.mk (fun w (L : List HP) hs hv => tidy_spec W w L hs c (.slice Aw c.W.length cw) hv (by omega))
          have HG1 := Box.mk (fun w (L : List HP) hs v hv => graph_spec W w L hs s v hv (by omega))
          have hFl : (fresh s).L.length ≤ 60 := by show (freshL s.L).length ≤ 60; omega
          have HG2 := Box.mk (fun w (L : List HP) hs v hv => graph_spec W w L hs (fresh s) v hv (by omega))
          have hGF2 : graphL (fresh s).L = graphL s.L := hGF
          rw [hGF2] at HG2
          have hXl : (tidyC c).W.length ≤ 60 := by show (tidyW c.W).length ≤ 60; omega
          have HAP := Box.mk (fun w (L : List HP) hs v hv vw hvw => apply_spec W w L hs (fresh s) (tidyC c) v vw hv hvw (by omega))
          have hYL : (applyR (fresh s) (tidyC c)).L = applyL (freshL s.L) (tidyC c).ts (tidyC c).W := rfl
          have hFL : (fresh s).L = freshL s.L := rfl
          rw [← hYL] at hFX hFO hyl
          rw [← hFL] at hyl
          clear hYL hFL hGF hfl htl hti hsrt hGF2
          generalize applyR (fresh s) (tidyC c) = Y at *
          generalize fresh s = F at *
          generalize tidyC c = X at *
          generalize graphL s.L = g at *
          have HWS := Box.mk (fun w (L : List HP) hs u v hu hv => writes_spec W w L hs g u v hu hv (by omega))
          have HRY := Box.mk (fun w (L : List HP) hs v hv => real_spec' W w L hs Y v hv (by omega))
          have HOY := Box.mk (fun w (L : List HP) hs v hv => by have := ordered_spec W w L hs v Y.L hv (by omega); rw [hFO] at this; exact this)
          have hsum : IntKind.i64.wrap ((F.L.length : Int) + (X.W.length : Int)) = (F.L.length : Int) + (X.W.length : Int) := by rw [IntKind.wrap_i64]; omega
          have hleI : (Y.L.length : Int) ≤ (F.L.length : Int) + (X.W.length : Int) := by omega
          unfold tidyPost at HTD
          unfold freshPost at HFR
          unfold apPost at HAP
          clear hFO
          go_enter Tryd.func8, Tryd.ntmps8
          go_wp2_with (first
            | (guard_target = wpList _ _ _ (⟨some 2, .box _ _, _, _, _, _⟩ :: _) _ _; refine wpl (o := ⟨some 2, .box _ _, _, _, _, _⟩) rfl fun K hK => ?_; go_must (refine op_box hs rfl _ rfl (stC s (.slice As s.L.length cs)) rfl fun b2 w1 h => hK _ _ ?_); clear hs hK K; have hs := h; clear h; try dsimp only [List.set] at hs)
            | (guard_target = wpList _ _ _ (⟨some 3, .box _ _, _, _, _, _⟩ :: _) _ _; refine wpl (o := ⟨some 3, .box _ _, _, _, _, _⟩) rfl fun K hK => ?_; go_must (refine op_box hs rfl _ rfl (cmC c (.slice Aw c.W.length cw)) rfl fun b3 w1 h => hK _ _ ?_); clear hs hK K; have hs := h; clear h; try dsimp only [List.set] at hs)
            | (go_at_call 9; go_must (refine (HA.out _ _ hs (by (try dsimp only [List.set]); repeat (first | exact hold | apply List.mem_cons_of_mem))).mono ?_); clear hs; rintro e w1 ⟨rfl, hs⟩
               have k14 : w1.cell? ⟨b2, 3, none⟩ = some (.slice As s.L.length cs) := hs.cell (l := stC s (.slice As s.L.length cs)) (t := 39) (by (try dsimp only [List.set]); repeat (first | with_reducible exact List.mem_cons_self | with_reducible apply List.mem_cons_of_mem)) rfl
               have k19 : w1.cell? ⟨b3, 1, none⟩ = some (.slice Aw c.W.length cw) := hs.cell (l := cmC c (.slice Aw c.W.length cw)) (t := 24) (by (try dsimp only [List.set]); repeat (first | with_reducible exact List.mem_cons_self | with_reducible apply List.mem_cons_of_mem)) rfl)
            | (guard_target = wpList _ _ _ (⟨some 14, .load _ _, _, _, _, _⟩ :: _) _ _; refine wpl (o := ⟨some 14, .load _ _, _, _, _, _⟩) rfl fun K hK => op_load rfl (ad := ⟨b2, 3, none⟩) rfl (by kernel_rfl) k14 (hK _ _ ?_); clear hK K)
            | (guard_target = wpList _ _ _ (⟨some 19, .load _ _, _, _, _, _⟩ :: _) _ _; refine wpl (o := ⟨some 19, .load _ _, _, _, _, _⟩) rfl fun K hK => op_load rfl (ad := ⟨b3, 1, none⟩) rfl (by kernel_rfl) k19 (hK _ _ ?_); clear hK K)
            | (guard_target = wpList _ _ _ (⟨some 25, .load _ _, _, _, _, _⟩ :: _) _ _; refine wpl (o := ⟨some 25, .load _ _, _, _, _, _⟩) rfl fun K hK => op_load rfl (ad := ⟨b2, 3, none⟩) rfl (by kernel_rfl) k14 (hK _ _ ?_); clear hK K)
            | (go_at_call 15; go_must (refine (HO.out _ _ hs (show Has _ (sliceAt (.slice As s.L.length cs) s.L.length 5 (csC s.L)) from (by (try dsimp only [List.set]); repeat (first | exact HV.out | apply Has.tail)))).mono ?_); clear hs; rintro e w1 ⟨rfl, hs⟩)
            | (guard_target = wpList _ _ _ (⟨some 30, .load _ _, _, _, _, _⟩ :: _) _ _; refine wpl (o := ⟨some 30, .load _ _, _, _, _, _⟩) rfl fun K hK => op_load_agg rfl (b := b2) (i := 0) rfl ((stC s (.slice As s.L.length cs))) (range_whole hs (by (try dsimp only [List.set]); repeat (first | with_reducible exact List.mem_cons_self | with_reducible apply List.mem_cons_of_mem))) (by kernel_rfl) (by kernel_rfl) (hK _ _ ?_); clear hK K)
            | (go_at_call 16; go_must (refine (HMD.out _ _ hs (show Has _ (sliceAt (.slice As s.L.length cs) s.L.length 5 (csC s.L)) from (by (try dsimp only [List.set]); repeat (first | exact HV.out | apply Has.tail)))).mono ?_); clear hs; rintro e w1 ⟨v31, rfl, hs⟩)
            | (go_at_call 29; go_must (refine (HFR.out _ _ hs v31 (Has.mem m0 own_sliceAt)).mono ?_); clear hs; rintro e w1 ⟨v32, rfl, hs⟩
               obtain ⟨A32, c32, rfl, _, _⟩ := own_slice hs (i := 0) rfl)
            | (guard_target = wpList _ _ _ (⟨some 6, .alloc _, _, _, _, _⟩ :: _) _ _; refine wpl (o := ⟨some 6, .alloc _, _, _, _, _⟩) rfl fun K hK => ?_; go_must (refine op_alloc hs rfl _ zstateR [Value.int .i64 0, .int .u32 0, .int .u32 0, .slice none 0 0] rfl fun b6 w1 h => hK _ _ ?_); clear hs hK K; have hs := h; clear h; try dsimp only [List.set] at hs)
            | (guard_target = wpList _ _ _ (⟨none, .store _ (.tmp 6) _, _, _, _, _⟩ :: _) _ _; refine wpl (o := ⟨none, .store _ (.tmp 6) _, _, _, _, _⟩) rfl fun K hK => ?_; go_must (refine op_store_whole hs (b := b6) rfl rfl (stC F (.slice A32 F.L.length c32)) rfl (by simp [stC, Value.oneCell']) (by kernel_rfl) (k := 0) rfl rfl fun w3 h => hK _ _ ?_); clear hs hK K; have hs := h; clear h; try dsimp only [List.set] at hs))
          rename_i x1_1 x1_2 x1_3 x1_4 x1_5 x1_6 x1_7 x1_8 x1_9 x1_10 x1_11 x1_12 x1_13 x1_14 x1_15 x1_16 x1_17 x1_18
          revert W w L hold s c As cs x1_1 x1_2 Aw cw x1_3 x1_4 HV HW HA hln hlw HTI h60 w60 HO HMD Y F HFR hFl X HTD hXl hFX hyl HAP g hgl HG1 HG2 HWS HRY HOY hsum hleI x1_5 b2 x1_6 b3 x1_7 x1_8 k14 k19 h60I w60I x1_9 x1_10 x1_11 v31 x1_12 A32 c32 x1_13 x1_14 b6 w1 w3 hs x1_15 x1_16 x1_17 x1_18
          exact K_redoFresh_walk_a.out
      · have w60I : (60 : Int) < (c.W.length : Int) := by omega
        go_enter Tryd.func8, Tryd.ntmps8
        go_wp2_with (first
          | (guard_target = wpList _ _ _ (⟨some 2, .box _ _, _, _, _, _⟩ :: _) _ _; refine wpl (o := ⟨some 2, .box _ _, _, _, _, _⟩) rfl fun K hK => ?_; go_must (refine op_box hs rfl _ rfl (stC s (.slice As s.L.length cs)) rfl fun b2 w1 h => hK _ _ ?_); clear hs hK K; have hs := h; clear h; try dsimp only [List.set] at hs)
          | (guard_target = wpList _ _ _ (⟨some 3, .box _ _, _, _, _, _⟩ :: _) _ _; refine wpl (o := ⟨some 3, .box _ _, _, _, _, _⟩) rfl fun K hK => ?_; go_must (refine op_box hs rfl _ rfl (cmC c (.slice Aw c.W.length cw)) rfl fun b3 w1 h => hK _ _ ?_); clear hs hK K; have hs := h; clear h; try dsimp only [List.set] at hs)
          | (go_at_call 9; go_must (refine (HA.out _ _ hs (by (try dsimp only [List.set]); repeat (first | exact hold | apply List.mem_cons_of_mem))).mono ?_); clear hs; rintro e w1 ⟨rfl, hs⟩
             have k14 : w1.cell? ⟨b2, 3, none⟩ = some (.slice As s.L.length cs) := hs.cell (l := stC s (.slice As s.L.length cs)) (t := 39) (by (try dsimp only [List.set]); repeat (first | with_reducible exact List.mem_cons_self | with_reducible apply List.mem_cons_of_mem)) rfl
             have k19 : w1.cell? ⟨b3, 1, none⟩ = some (.slice Aw c.W.length cw) := hs.cell (l := cmC c (.slice Aw c.W.length cw)) (t := 24) (by (try dsimp only [List.set]); repeat (first | with_reducible exact List.mem_cons_self | with_reducible apply List.mem_cons_of_mem)) rfl)
          | (guard_target = wpList _ _ _ (⟨some 14, .load _ _, _, _, _, _⟩ :: _) _ _; refine wpl (o := ⟨some 14, .load _ _, _, _, _, _⟩) rfl fun K hK => op_load rfl (ad := ⟨b2, 3, none⟩) rfl (by kernel_rfl) k14 (hK _ _ ?_); clear hK K)
          | (guard_target = wpList _ _ _ (⟨some 19, .load _ _, _, _, _, _⟩ :: _) _ _; refine wpl (o := ⟨some 19, .load _ _, _, _, _, _⟩) rfl fun K hK => op_load rfl (ad := ⟨b3, 1, none⟩) rfl (by kernel_rfl) k19 (hK _ _ ?_); clear hK K)
          | (guard_target = wpList _ _ _ (⟨some 25, .load _ _, _, _, _, _⟩ :: _) _ _; refine wpl (o := ⟨some 25, .load _ _, _, _, _, _⟩) rfl fun K hK => op_load rfl (ad := ⟨b2, 3, none⟩) rfl (by kernel_rfl) k14 (hK _ _ ?_); clear hK K))
        go_ret
        exact ⟨rfl, hs.pack (by repeat (first | with_reducible exact Pack.refl | with_reducible exact Pack.nil | with_reducible refine Pack.cons (by repeat (first | with_reducible exact Pick.here | with_reducible apply Pick.there)) ?_ | with_reducible apply Pack.drop))⟩
    · have h60I : (60 : Int) < (s.L.length : Int) := by omega
      go_enter Tryd.func8, Tryd.ntmps8
      go_wp2_with (first
        | (guard_target = wpList _ _ _ (⟨some 2, .box _ _, _, _, _, _⟩ :: _) _ _; refine wpl (o := ⟨some 2, .box _ _, _, _, _, _⟩) rfl fun K hK => ?_; go_must (refine op_box hs rfl _ rfl (stC s (.slice As s.L.length cs)) rfl fun b2 w1 h => hK _ _ ?_); clear hs hK K; have hs := h; clear h; try dsimp only [List.set] at hs)
        | (guard_target = wpList _ _ _ (⟨some 3, .box _ _, _, _, _, _⟩ :: _) _ _; refine wpl (o := ⟨some 3, .box _ _, _, _, _, _⟩) rfl fun K hK => ?_; go_must (refine op_box hs rfl _ rfl (cmC c (.slice Aw c.W.length cw)) rfl fun b3 w1 h => hK _ _ ?_); clear hs hK K; have hs := h; clear h; try dsimp only [List.set] at hs)
        | (go_at_call 9; go_must (refine (HA.out _ _ hs (by (try dsimp only [List.set]); repeat (first | exact hold | apply List.mem_cons_of_mem))).mono ?_); clear hs; rintro e w1 ⟨rfl, hs⟩
           have k14 : w1.cell? ⟨b2, 3, none⟩ = some (.slice As s.L.length cs) := hs.cell (l := stC s (.slice As s.L.length cs)) (t := 39) (by (try dsimp only [List.set]); repeat (first | with_reducible exact List.mem_cons_self | with_reducible apply List.mem_cons_of_mem)) rfl
           have k19 : w1.cell? ⟨b3, 1, none⟩ = some (.slice Aw c.W.length cw) := hs.cell (l := cmC c (.slice Aw c.W.length cw)) (t := 24) (by (try dsimp only [List.set]); repeat (first | with_reducible exact List.mem_cons_self | with_reducible apply List.mem_cons_of_mem)) rfl)
        | (guard_target = wpList _ _ _ (⟨some 14, .load _ _, _, _, _, _⟩ :: _) _ _; refine wpl (o := ⟨some 14, .load _ _, _, _, _, _⟩) rfl fun K hK => op_load rfl (ad := ⟨b2, 3, none⟩) rfl (by kernel_rfl) k14 (hK _ _ ?_); clear hK K)
        | (guard_target = wpList _ _ _ (⟨some 19, .load _ _, _, _, _, _⟩ :: _) _ _; refine wpl (o := ⟨some 19, .load _ _, _, _, _, _⟩) rfl fun K hK => op_load rfl (ad := ⟨b3, 1, none⟩) rfl (by kernel_rfl) k19 (hK _ _ ?_); clear hK K)
        | (guard_target = wpList _ _ _ (⟨some 25, .load _ _, _, _, _, _⟩ :: _) _ _; refine wpl (o := ⟨some 25, .load _ _, _, _, _, _⟩) rfl fun K hK => op_load rfl (ad := ⟨b2, 3, none⟩) rfl (by kernel_rfl) k14 (hK _ _ ?_); clear hK K))
      go_ret
      exact ⟨rfl, hs.pack (by repeat (first | with_reducible exact Pack.refl | with_reducible exact Pack.nil | with_reducible refine Pack.cons (by repeat (first | with_reducible exact Pick.here | with_reducible apply Pick.there)) ?_ | with_reducible apply Pack.drop))⟩
set_option maxRecDepth 100000 in
set_option maxHeartbeats 30000000 in
noncomputable def redoFresh_walk_a_cut : RdFreshLCut1 (redoFresh_walk_cut.p1) := by
  apply RdFreshLCut1.mk
  case go =>
    intro K_redoFresh_walk_a_b W w L hold s c As cs x1_1 x1_2 Aw cw x1_3 x1_4 HV HW HA hln hlw HTI h60 w60 HO HMD Y F HFR hFl X HTD hXl hFX hyl HAP g hgl HG1 HG2 HWS HRY HOY hsum hleI x1_5 b2 x1_6 b3 x1_7 x1_8 k14 k19 h60I w60I x1_9 x1_10 x1_11 v31 x1_12 A32 c32 x1_13 x1_14 b6 w1 w3 hs x1_15 x1_16 x1_17 x1_18
    have cS : ∀ w M, Sat W w M → row b2 (stC s (.slice As s.L.length cs)) 39 ∈ M → row b6 (stC F (.slice A32 F.L.length c32)) 43 ∈ M → (frsS b2 (stC s (.slice As s.L.length cs)) b6 (stC F (.slice A32 F.L.length c32))) w := fun w M h h1 h2 => ⟨range_whole h h1, range_whole h h2⟩
    have r2 : ∀ w, (frsS b2 (stC s (.slice As s.L.length cs)) b6 (stC F (.slice A32 F.L.length c32))) w → w.rangeAt b2 0 (stC s (.slice As s.L.length cs)) := fun w h => h.1
    have r6 : ∀ w, (frsS b2 (stC s (.slice As s.L.length cs)) b6 (stC F (.slice A32 F.L.length c32))) w → w.rangeAt b6 0 (stC F (.slice A32 F.L.length c32)) := fun w h => h.2
    have hS0 := cS _ _ hs.drew (by (try dsimp only [List.set]); repeat (first | with_reducible exact List.mem_cons_self | with_reducible apply List.mem_cons_of_mem)) (by (try dsimp only [List.set]); repeat (first | with_reducible exact List.mem_cons_self | with_reducible apply List.mem_cons_of_mem))
    refine wp_region_tree ((frsS b2 (stC s (.slice As s.L.length cs)) b6 (stC F (.slice A32 F.L.length c32)))) (.take 0 (.take 2 (.all [(1, .all [(3, .all [(4, .all [(5, .take 6 (DTree.done))])])])]))) (by kernel_rfl) (by kernel_rfl) (by kernel_rfl) (fun _ _ d _ _ h => by cases d <;> exact h) hS0 ?_
    have hs' := hs.drew
    clear hs
    have hs := hs'
    clear hs'
    have hq := fun p : Prop => class_const hS0 p
    clear hS0
    repeat (first
      | (with_reducible refine tree_load_agg (o := ⟨some 33, .load _ _, _, _, _, _⟩) (stC F (.slice A32 F.L.length c32)) rfl rfl rfl rfl ?_ ?_ r6 ?_; (kernel_rfl); (kernel_rfl))
      | (with_reducible refine tree_load_agg (o := ⟨some 35, .load _ _, _, _, _, _⟩) (stC s (.slice As s.L.length cs)) rfl rfl rfl rfl ?_ ?_ r2 ?_; (kernel_rfl); (kernel_rfl))
      | (refine tree_take rfl (fun K hK => ?_); go_simp; (first | with_reducible refine hK _ ?_ | (rw [if_neg (by decide)]; with_reducible refine hK _ ?_)); clear hK K))
    refine tree_one_yes (o := _) rfl rfl (fun K hK => ?_) (cS _ _ hs (by (try dsimp only [List.set]); repeat (first | with_reducible exact List.mem_cons_self | with_reducible apply List.mem_cons_of_mem)) (by (try dsimp only [List.set]); repeat (first | with_reducible exact List.mem_cons_self | with_reducible apply List.mem_cons_of_mem)))
    try go_simp
    go_at_call 27
    refine (HG2.out _ _ hs (.slice A32 F.L.length c32) (Has.of (A := own (.slice A32 F.L.length c32) 59 F.L.length 5 (csC F.L)) (by (try dsimp only [List.set]); repeat (first | with_reducible exact List.mem_cons_self | with_reducible apply List.mem_cons_of_mem)) own_sliceAt)).mono ?_
    clear hs
    rintro e w5 ⟨v34, rfl, hs⟩
    try go_simp
    refine hK _ _ (cS _ _ hs (by (try dsimp only [List.set]); repeat (first | with_reducible exact List.mem_cons_self | with_reducible apply List.mem_cons_of_mem)) (by (try dsimp only [List.set]); repeat (first | with_reducible exact List.mem_cons_self | with_reducible apply List.mem_cons_of_mem))) ?_
    clear hK K
    refine tree_one_yes (o := _) rfl rfl (fun K hK => ?_) (cS _ _ hs (by (try dsimp only [List.set]); repeat (first | with_reducible exact List.mem_cons_self | with_reducible apply List.mem_cons_of_mem)) (by (try dsimp only [List.set]); repeat (first | with_reducible exact List.mem_cons_self | with_reducible apply List.mem_cons_of_mem)))
    try go_simp
    go_at_call 16
    refine (HMD.out _ _ hs (show Has _ (sliceAt (.slice As s.L.length cs) s.L.length 5 (csC s.L)) from (by (try dsimp only [List.set]); repeat (first | exact HV.out | apply Has.tail)))).mono ?_
    clear hs
    rintro e w5 ⟨v36, rfl, hs⟩
    try go_simp
    refine hK _ _ (cS _ _ hs (by (try dsimp only [List.set]); repeat (first | with_reducible exact List.mem_cons_self | with_reducible apply List.mem_cons_of_mem)) (by (try dsimp only [List.set]); repeat (first | with_reducible exact List.mem_cons_self | with_reducible apply List.mem_cons_of_mem))) ?_
    clear hK K
    refine tree_one_yes (o := _) rfl rfl (fun K hK => ?_) (cS _ _ hs (by (try dsimp only [List.set]); repeat (first | with_reducible exact List.mem_cons_self | with_reducible apply List.mem_cons_of_mem)) (by (try dsimp only [List.set]); repeat (first | with_reducible exact List.mem_cons_self | with_reducible apply List.mem_cons_of_mem)))
    try go_simp
    go_at_call 27
    refine (HG1.out _ _ hs v36 (Has.mem m0 own_sliceAt)).mono ?_
    clear hs
    rintro e w5 ⟨v37, rfl, hs⟩
    try go_simp
    refine hK _ _ (cS _ _ hs (by (try dsimp only [List.set]); repeat (first | with_reducible exact List.mem_cons_self | with_reducible apply List.mem_cons_of_mem)) (by (try dsimp only [List.set]); repeat (first | with_reducible exact List.mem_cons_self | with_reducible apply List.mem_cons_of_mem))) ?_
    clear hK K
    refine tree_one_yes (o := _) rfl rfl (fun K hK => ?_) (cS _ _ hs (by (try dsimp only [List.set]); repeat (first | with_reducible exact List.mem_cons_self | with_reducible apply List.mem_cons_of_mem)) (by (try dsimp only [List.set]); repeat (first | with_reducible exact List.mem_cons_self | with_reducible apply List.mem_cons_of_mem)))
    try go_simp
    go_at_call 26
    refine (HWS.out _ _ hs v34 v37 (Has.of (A := own v34 61 g.length 4 (wsC g)) (by (try dsimp only [List.set]); repeat (first | with_reducible exact List.mem_cons_self | with_reducible apply List.mem_cons_of_mem)) own_sliceAt) (Has.mem m0 own_sliceAt)).mono ?_
    clear hs
    rintro e w5 ⟨rfl, hs⟩
    try go_simp
    refine hK _ _ (cS _ _ hs (by (try dsimp only [List.set]); repeat (first | with_reducible exact List.mem_cons_self | with_reducible apply List.mem_cons_of_mem)) (by (try dsimp only [List.set]); repeat (first | with_reducible exact List.mem_cons_self | with_reducible apply List.mem_cons_of_mem))) ?_
    clear hK K
    repeat (first
      | (with_reducible refine tree_load_agg (o := ⟨some 33, .load _ _, _, _, _, _⟩) (stC F (.slice A32 F.L.length c32)) rfl rfl rfl rfl ?_ ?_ r6 ?_; (kernel_rfl); (kernel_rfl))
      | (with_reducible refine tree_load_agg (o := ⟨some 35, .load _ _, _, _, _, _⟩) (stC s (.slice As s.L.length cs)) rfl rfl rfl rfl ?_ ?_ r2 ?_; (kernel_rfl); (kernel_rfl))
      | (refine tree_take rfl (fun K hK => ?_); go_simp; (first | with_reducible refine hK _ ?_ | (rw [if_neg (by decide)]; with_reducible refine hK _ ?_)); clear hK K))
    refine tree_done ?_
    clear hq cS r2 r6
    rename_i x2_1 x2_2 x2_3
    revert W w L hold s c As cs x1_1 x1_2 Aw cw x1_3 x1_4 HV HW HA hln hlw HTI h60 w60 HO HMD Y F HFR hFl X HTD hXl hFX hyl HAP g hgl HG1 HG2 HWS HRY HOY hsum hleI x1_5 b2 x1_6 b3 x1_7 x1_8 k14 k19 h60I w60I x1_9 x1_10 x1_11 v31 x1_12 A32 c32 x1_13 x1_14 b6 w1 w3 x1_15 x1_16 x1_17 x1_18 x2_1 v34 x2_2 v36 x2_3 v37 w5 hs
    exact K_redoFresh_walk_a_b.out
set_option maxRecDepth 100000 in
set_option maxHeartbeats 30000000 in
noncomputable def redoFresh_walk_a_b_cut : RdFreshLCut1 (redoFresh_walk_a_cut.p1) := by
  apply RdFreshLCut1.mk
  case go =>
    intro K_redoFresh_walk_a_b_c W w L hold s c As cs x1_1 x1_2 Aw cw x1_3 x1_4 HV HW HA hln hlw HTI h60 w60 HO HMD Y F HFR hFl X HTD hXl hFX hyl HAP g hgl HG1 HG2 HWS HRY HOY hsum hleI x1_5 b2 x1_6 b3 x1_7 x1_8 k14 k19 h60I w60I x1_9 x1_10 x1_11 v31 x1_12 A32 c32 x1_13 x1_14 b6 w1 w3 x1_15 x1_16 x1_17 x1_18 x2_1 v34 x2_2 v36 x2_3 v37 w5 hs
    go_wp2_with (first
      | (guard_target = wpList _ _ _ (⟨some 40, .load _ _, _, _, _, _⟩ :: _) _ _; refine wpl (o := ⟨some 40, .load _ _, _, _, _, _⟩) rfl fun K hK => op_load_agg rfl (b := b3) (i := 0) rfl ((cmC c (.slice Aw c.W.length cw))) (range_whole hs (by (try dsimp only [List.set]); repeat (first | with_reducible exact List.mem_cons_self | with_reducible apply List.mem_cons_of_mem))) (by kernel_rfl) (by kernel_rfl) (hK _ _ ?_); clear hK K)
      | (go_at_call 21; go_must (refine (HTD.out _ _ hs (show Has _ (sliceAt (.slice Aw c.W.length cw) c.W.length 4 (wsC c.W)) from (by (try dsimp only [List.set]); repeat (first | exact HW.out | apply Has.tail)))).mono ?_); clear hs; rintro e w1 ⟨v41, rfl, hs⟩
         obtain ⟨A41, c41, rfl, _, _⟩ := own_slice hs (i := 0) rfl)
      | (guard_target = wpList _ _ _ (⟨some 7, .alloc _, _, _, _, _⟩ :: _) _ _; refine wpl (o := ⟨some 7, .alloc _, _, _, _, _⟩) rfl fun K hK => ?_; go_must (refine op_alloc hs rfl _ zcommit' [Value.int .i64 0, .slice none 0 0] rfl fun b7 w1 h => hK _ _ ?_); clear hs hK K; have hs := h; clear h; try dsimp only [List.set] at hs)
      | (guard_target = wpList _ _ _ (⟨none, .store _ (.tmp 7) _, _, _, _, _⟩ :: _) _ _; refine wpl (o := ⟨none, .store _ (.tmp 7) _, _, _, _, _⟩) rfl fun K hK => ?_; go_must (refine op_store_whole hs (b := b7) rfl rfl (cmC X (.slice A41 X.W.length c41)) rfl (by simp [cmC, Value.oneCell']) (by kernel_rfl) (k := 0) rfl rfl fun w3 h => hK _ _ ?_); clear hs hK K; have hs := h; clear h; try dsimp only [List.set] at hs)
      | (guard_target = wpList _ _ _ (⟨some 42, .load _ _, _, _, _, _⟩ :: _) _ _; refine wpl (o := ⟨some 42, .load _ _, _, _, _, _⟩) rfl fun K hK => op_load_agg rfl (b := b6) (i := 0) rfl ((stC F (.slice A32 F.L.length c32))) (range_whole hs (by (try dsimp only [List.set]); repeat (first | with_reducible exact List.mem_cons_self | with_reducible apply List.mem_cons_of_mem))) (by kernel_rfl) (by kernel_rfl) (hK _ _ ?_); clear hK K)
      | (guard_target = wpList _ _ _ (⟨some 43, .load _ _, _, _, _, _⟩ :: _) _ _; refine wpl (o := ⟨some 43, .load _ _, _, _, _, _⟩) rfl fun K hK => op_load_agg rfl (b := b7) (i := 0) rfl ((cmC X (.slice A41 X.W.length c41))) (range_whole hs (by (try dsimp only [List.set]); repeat (first | with_reducible exact List.mem_cons_self | with_reducible apply List.mem_cons_of_mem))) (by kernel_rfl) (by kernel_rfl) (hK _ _ ?_); clear hK K)
      | (go_at_call 19; go_must (refine (HAP.out _ _ hs (.slice A32 F.L.length c32) (Has.of (A := own (.slice A32 F.L.length c32) 59 F.L.length 5 (csC F.L)) (by (try dsimp only [List.set]); repeat (first | with_reducible exact List.mem_cons_self | with_reducible apply List.mem_cons_of_mem)) own_sliceAt) (.slice A41 X.W.length c41) (Has.of (A := own (.slice A41 X.W.length c41) 61 X.W.length 4 (wsC X.W)) (by (try dsimp only [List.set]); repeat (first | with_reducible exact List.mem_cons_self | with_reducible apply List.mem_cons_of_mem)) own_sliceAt)).mono ?_); clear hs; rintro e w1 ⟨v44, rfl, hs⟩
         obtain ⟨A44, c44, rfl, _, _⟩ := own_slice hs (i := 0) rfl)
      | (guard_target = wpList _ _ _ (⟨some 8, .alloc _, _, _, _, _⟩ :: _) _ _; refine wpl (o := ⟨some 8, .alloc _, _, _, _, _⟩) rfl fun K hK => ?_; go_must (refine op_alloc hs rfl _ zstateR [Value.int .i64 0, .int .u32 0, .int .u32 0, .slice none 0 0] rfl fun b8 w1 h => hK _ _ ?_); clear hs hK K; have hs := h; clear h; try dsimp only [List.set] at hs)
      | (guard_target = wpList _ _ _ (⟨none, .store _ (.tmp 8) _, _, _, _, _⟩ :: _) _ _; refine wpl (o := ⟨none, .store _ (.tmp 8) _, _, _, _, _⟩) rfl fun K hK => ?_; go_must (refine op_store_whole hs (b := b8) rfl rfl (stC Y (.slice A44 Y.L.length c44)) rfl (by simp [stC, Value.oneCell']) (by kernel_rfl) (k := 0) rfl rfl fun w3 h => hK _ _ ?_); clear hs hK K; have hs := h; clear h; try dsimp only [List.set] at hs))
    go_loopw [9] (fun v9 wr => ∃ i : Nat, i ≤ X.W.length ∧ v9 = .int .i64 (i : Nat) ∧ Sat W wr (row b8 (stC Y (.slice A44 Y.L.length c44)) 43 :: row b7 (cmC X (.slice A41 X.W.length c41)) 24 :: row b6 (stC F (.slice A32 F.L.length c32)) 43 :: own (.slice A44 Y.L.length c44) 59 Y.L.length 5 (csC Y.L) :: own (.slice A41 X.W.length c41) 61 X.W.length 4 (wsC X.W) :: L)) (fun v9 _ => X.W.length - (intOf v9).toNat)
    case atStart => exact ⟨0, by omega, rfl, hs.pack (L := row b8 (stC Y (.slice A44 Y.L.length c44)) 43 :: row b7 (cmC X (.slice A41 X.W.length c41)) 24 :: row b6 (stC F (.slice A32 F.L.length c32)) 43 :: own (.slice A44 Y.L.length c44) 59 Y.L.length 5 (csC Y.L) :: own (.slice A41 X.W.length c41) 61 X.W.length 4 (wsC X.W) :: L) (by repeat (first | with_reducible exact Pack.refl | with_reducible exact Pack.nil | with_reducible refine Pack.cons (by repeat (first | with_reducible exact Pick.here | with_reducible apply Pick.there)) ?_ | with_reducible apply Pack.drop))⟩
    case round =>
      rename_i x3_1 x3_2 x3_3 x3_4 x3_5 x3_6 x3_7 x3_8 x3_9 x3_10 x3_11 x3_12
      revert W w L hold s c As cs x1_1 x1_2 Aw cw x1_3 x1_4 HV HW HA hln hlw HTI h60 w60 HO HMD Y F HFR hFl X HTD hXl hFX hyl HAP g hgl HG1 HG2 HWS HRY HOY hsum hleI x1_5 b2 x1_6 b3 x1_7 x1_8 k14 k19 h60I w60I x1_9 x1_10 x1_11 v31 x1_12 A32 c32 x1_13 x1_14 b6 x3_1 x3_2 x2_1 v34 x2_2 v36 x2_3 v37 w5 x3_3 A41 c41 x3_4 x3_5 b7 x3_6 x3_7 x3_8 A44 c44 x3_9 x3_10 b8 w1 w3 hs x3_11 x3_12 wr u4 u9 u10 u11 u45 u46 u47 u48 u49 u50 u51 u52 u53 u54 u55 u56 u57 u58 u59 u60 u61 u62 u63 u64 u65 u66 u67 u68 u69 u70 u71 u72 u73 u74 u75 u76 u77 u78 u79 u80 u81 u82 u83 u84 u85 u86 u87 u88 u89 u90 u91 u92 u93 u94 u95 u96 u97 u98 u99 u100 u101 u102 hrel
      exact K_redoFresh_walk_a_b_c.out
set_option maxRecDepth 100000 in
set_option maxHeartbeats 30000000 in
noncomputable def redoFresh_walk_a_b_c_cut : RdFreshLCut2 (redoFresh_walk_a_b_cut.p1) := by
  apply RdFreshLCut2.mk
  case go =>
    intro K_redoFresh_walk_a_b_c_e K_redoFresh_walk_a_b_c_d W w L hold s c As cs x1_1 x1_2 Aw cw x1_3 x1_4 HV HW HA hln hlw HTI h60 w60 HO HMD Y F HFR hFl X HTD hXl hFX hyl HAP g hgl HG1 HG2 HWS HRY HOY hsum hleI x1_5 b2 x1_6 b3 x1_7 x1_8 k14 k19 h60I w60I x1_9 x1_10 x1_11 v31 x1_12 A32 c32 x1_13 x1_14 b6 x3_1 x3_2 x2_1 v34 x2_2 v36 x2_3 v37 w5 x3_3 A41 c41 x3_4 x3_5 b7 x3_6 x3_7 x3_8 A44 c44 x3_9 x3_10 b8 w1 w3 hs x3_11 x3_12 wr u4 u9 u10 u11 u45 u46 u47 u48 u49 u50 u51 u52 u53 u54 u55 u56 u57 u58 u59 u60 u61 u62 u63 u64 u65 u66 u67 u68 u69 u70 u71 u72 u73 u74 u75 u76 u77 u78 u79 u80 u81 u82 u83 u84 u85 u86 u87 u88 u89 u90 u91 u92 u93 u94 u95 u96 u97 u98 u99 u100 u101 u102 hrel
    clear hs
    obtain ⟨i, hi, rfl, hs⟩ := hrel
    by_cases hlt : i < X.W.length
    · have hltI : (i : Int) < (X.W.length : Int) := by omega
      have hwi : IntKind.i64.wrap ((i : Int) + 1) = (i : Int) + 1 := by rw [IntKind.wrap_i64]; omega
      have hfx := hFX.out X.W[i] (List.getElem_mem hlt)
      obtain ⟨bw, cw', e, _, _⟩ := own_formR hs (v := .slice A41 X.W.length c41) (e := 61) (n := X.W.length) (sz := 4) (vs := wsC X.W) (by (try dsimp only [List.set]); repeat (first | with_reducible exact List.mem_cons_self | with_reducible apply List.mem_cons_of_mem)) (by omega)
      cases e
      have HRX := Box.mk (fun w (M : List HP) (h : Sat W w M) (hm : own (.slice (some ⟨bw, 0, none⟩) X.W.length c41) 61 X.W.length 4 (wsC X.W) ∈ M) => own_partR wC 4 wC_length h hm i hlt)
      generalize X.W[i] = x at hfx HRX
      have HFX := Box.mk hfx
      clear hfx
      go_wp2_with (first
        | (guard_target = wpList _ _ _ (⟨some 47, .load _ _, _, _, _, _⟩ :: _) _ _; refine wpl (o := ⟨some 47, .load _ _, _, _, _, _⟩) rfl fun K hK => op_load rfl (ad := ⟨b7, 1, none⟩) rfl (by kernel_rfl) (hs.cell (l := cmC X (.slice (some ⟨bw, 0, none⟩) X.W.length c41)) (t := 24) (by (try dsimp only [List.set]); repeat (first | with_reducible exact List.mem_cons_self | with_reducible apply List.mem_cons_of_mem)) rfl) (hK _ _ ?_); clear hK K))
      go_loopw [10, 11] (fun v10 v11 wr => ∃ k : Nat, k ≤ Y.L.length ∧ v10 = .bool (found x X.ts (Y.L.take k)) ∧ v11 = .int .i64 (k : Nat) ∧ Sat W wr (row b8 (stC Y (.slice A44 Y.L.length c44)) 43 :: row b7 (cmC X (.slice (some ⟨bw, 0, none⟩) X.W.length c41)) 24 :: row b6 (stC F (.slice A32 F.L.length c32)) 43 :: own (.slice A44 Y.L.length c44) 59 Y.L.length 5 (csC Y.L) :: own (.slice (some ⟨bw, 0, none⟩) X.W.length c41) 61 X.W.length 4 (wsC X.W) :: L)) (fun _ v11 _ => Y.L.length - (intOf v11).toNat)
      case atStart => exact ⟨0, by omega, rfl, rfl, hs⟩
      case round =>
        rename_i x4_1 x4_2 x4_3 x4_4 x4_5 x4_6 x4_7 x4_8 x4_9 x4_10 x4_11 x4_12 x4_13 x4_14 x4_15 x4_16 x4_17 x4_18 x4_19 x4_20 x4_21 x4_22 x4_23 x4_24 x4_25 x4_26 x4_27 x4_28 x4_29 x4_30 x4_31 x4_32 x4_33 x4_34 x4_35 x4_36 x4_37 x4_38 x4_39 x4_40 x4_41 x4_42 x4_43 x4_44 x4_45 x4_46 x4_47 x4_48 x4_49 x4_50 x4_51 x4_52 x4_53 x4_54 x4_55 x4_56 x4_57 x4_58 x4_59
        revert W w L hold s c As cs x1_1 x1_2 Aw cw x1_3 x1_4 HV HW HA hln hlw HTI h60 w60 HO HMD Y F HFR hFl X HTD hXl hFX hyl HAP g hgl HG1 HG2 HWS HRY HOY hsum hleI x1_5 b2 x1_6 b3 x1_7 x1_8 k14 k19 h60I w60I x1_9 x1_10 x1_11 v31 x1_12 A32 c32 x1_13 x1_14 b6 x3_1 x3_2 x2_1 v34 x2_2 v36 x2_3 v37 w5 x3_3 c41 x3_4 x3_5 b7 x3_6 x3_7 x3_8 A44 c44 x3_9 x3_10 b8 w1 w3 x3_11 x3_12 x4_1 u4 x4_2 x4_3 u45 u46 u47 u48 u49 u50 u51 x4_4 x4_5 x4_6 x4_7 x4_8 x4_9 x4_10 x4_11 x4_12 x4_13 x4_14 x4_15 x4_16 x4_17 x4_18 x4_19 x4_20 x4_21 x4_22 x4_23 x4_24 x4_25 x4_26 x4_27 x4_28 x4_29 x4_30 x4_31 x4_32 x4_33 x4_34 x4_35 x4_36 x4_37 x4_38 x4_39 x4_40 x4_41 x4_42 x4_43 x4_44 x4_45 x4_46 x4_47 x4_48 x4_49 x4_50 x4_51 x4_52 u101 u102 i hi hlt hltI hwi bw hs x4_53 x4_54 x HRX HFX x4_55 x4_56 x4_57 x4_58 x4_59 wr u10 u11 u52 u53 u54 u55 u56 u57 u58 u59 u60 u61 u62 u63 u64 u65 u66 u67 u68 u69 u70 u71 u72 u73 u74 u75 u76 u77 u78 u79 u80 u81 u82 u83 u84 u85 u86 u87 u88 u89 u90 u91 u92 u93 u94 u95 u96 u97 u98 u99 u100 hrel
        exact K_redoFresh_walk_a_b_c_e.out
    · have hltI : ¬ (i : Int) < (X.W.length : Int) := by omega
      revert W w L hold s c As cs x1_1 x1_2 Aw cw x1_3 x1_4 HV HW HA hln hlw HTI h60 w60 HO HMD Y F HFR hFl X HTD hXl hFX hyl HAP g hgl HG1 HG2 HWS HRY HOY hsum hleI x1_5 b2 x1_6 b3 x1_7 x1_8 k14 k19 h60I w60I x1_9 x1_10 x1_11 v31 x1_12 A32 c32 x1_13 x1_14 b6 x3_1 x3_2 x2_1 v34 x2_2 v36 x2_3 v37 w5 x3_3 A41 c41 x3_4 x3_5 b7 x3_6 x3_7 x3_8 A44 c44 x3_9 x3_10 b8 w1 w3 x3_11 x3_12 wr u4 u10 u11 u45 u46 u47 u48 u49 u50 u51 u52 u53 u54 u55 u56 u57 u58 u59 u60 u61 u62 u63 u64 u65 u66 u67 u68 u69 u70 u71 u72 u73 u74 u75 u76 u77 u78 u79 u80 u81 u82 u83 u84 u85 u86 u87 u88 u89 u90 u91 u92 u93 u94 u95 u96 u97 u98 u99 u100 u101 u102 i hi hs hlt hltI
      exact K_redoFresh_walk_a_b_c_d.out
set_option maxRecDepth 100000 in
set_option maxHeartbeats 30000000 in
theorem redoFresh_walk_a_b_c_e : redoFresh_walk_a_b_c_cut.p1 := by
  intro W w L hold s c As cs x1_1 x1_2 Aw cw x1_3 x1_4 HV HW HA hln hlw HTI h60 w60 HO HMD Y F HFR hFl X HTD hXl hFX hyl HAP g hgl HG1 HG2 HWS HRY HOY hsum hleI x1_5 b2 x1_6 b3 x1_7 x1_8 k14 k19 h60I w60I x1_9 x1_10 x1_11 v31 x1_12 A32 c32 x1_13 x1_14 b6 x3_1 x3_2 x2_1 v34 x2_2 v36 x2_3 v37 w5 x3_3 c41 x3_4 x3_5 b7 x3_6 x3_7 x3_8 A44 c44 x3_9 x3_10 b8 w1 w3 x3_11 x3_12 x4_1 u4 x4_2 x4_3 u45 u46 u47 u48 u49 u50 u51 x4_4 x4_5 x4_6 x4_7 x4_8 x4_9 x4_10 x4_11 x4_12 x4_13 x4_14 x4_15 x4_16 x4_17 x4_18 x4_19 x4_20 x4_21 x4_22 x4_23 x4_24 x4_25 x4_26 x4_27 x4_28 x4_29 x4_30 x4_31 x4_32 x4_33 x4_34 x4_35 x4_36 x4_37 x4_38 x4_39 x4_40 x4_41 x4_42 x4_43 x4_44 x4_45 x4_46 x4_47 x4_48 x4_49 x4_50 x4_51 x4_52 u101 u102 i hi hlt hltI hwi bw hs x4_53 x4_54 x HRX HFX x4_55 x4_56 x4_57 x4_58 x4_59 wr u10 u11 u52 u53 u54 u55 u56 u57 u58 u59 u60 u61 u62 u63 u64 u65 u66 u67 u68 u69 u70 u71 u72 u73 u74 u75 u76 u77 u78 u79 u80 u81 u82 u83 u84 u85 u86 u87 u88 u89 u90 u91 u92 u93 u94 u95 u96 u97 u98 u99 u100 hrel
  clear hs
  obtain ⟨k, hk, rfl, rfl, hs⟩ := hrel
  by_cases hkt : k < Y.L.length
  · have hktI : (k : Int) < (Y.L.length : Int) := by omega
    have hwk : IntKind.i64.wrap ((k : Int) + 1) = (k : Int) + 1 := by rw [IntKind.wrap_i64]; omega
    obtain ⟨ba, ca', e, _, _⟩ := own_formR hs (v := .slice A44 Y.L.length c44) (e := 59) (n := Y.L.length) (sz := 5) (vs := csC Y.L) (by (try dsimp only [List.set]); repeat (first | with_reducible exact List.mem_cons_self | with_reducible apply List.mem_cons_of_mem)) (by omega)
    cases e
    have HRYY := Box.mk (fun w (M : List HP) (h : Sat W w M) (hm : own (.slice (some ⟨ba, 0, none⟩) Y.L.length c44) 59 Y.L.length 5 (csC Y.L) ∈ M) => own_partR cC 5 cC_length h hm k hkt)
    have hsn := found_snoc x X.ts Y.L k hkt
    generalize Y.L[k] = y at HRYY hsn
    obtain ⟨q, hq1⟩ : ∃ q, found x X.ts (Y.L.take k) = q := ⟨_, rfl⟩
    rw [hq1] at hsn ⊢
    unfold hit at hsn
    obtain ⟨qk, hqk⟩ : ∃ q, keySame y.k x.k = q := ⟨_, rfl⟩
    obtain ⟨qv, hqv⟩ : ∃ q, (y.v == x.v) = q := ⟨_, rfl⟩
    obtain ⟨qt, hqt⟩ : ∃ q, (y.ts == X.ts) = q := ⟨_, rfl⟩
    rw [hqk, hqv, hqt] at hsn
    have heq : ∀ w, (Op.equalIn 10000 57 (.agg (kC y.k).toArray) (.agg (kC x.k).toArray)).run Tryd.prog w = .ok qk w := fun w => by rw [run_equal_key, hqk]
    have HSN := Box.mk hsn
    clear hsn hq1 hqk
    have cS : ∀ w M, Sat W w M → row b8 (stC Y (.slice (some ⟨ba, 0, none⟩) Y.L.length c44)) 43 ∈ M → own (.slice (some ⟨ba, 0, none⟩) Y.L.length c44) 59 Y.L.length 5 (csC Y.L) ∈ M → row b7 (cmC X (.slice (some ⟨bw, 0, none⟩) X.W.length c41)) 24 ∈ M → own (.slice (some ⟨bw, 0, none⟩) X.W.length c41) 61 X.W.length 4 (wsC X.W) ∈ M → (frfS b8 (.slice (some ⟨ba, 0, none⟩) Y.L.length c44) ba (k * 5) (cC y) b7 (.slice (some ⟨bw, 0, none⟩) X.W.length c41) bw (i * 4) (wC x) X.ts) w := fun w M h h1 h2 h3 h4 => ⟨h.cell h1 rfl, HRYY.out w M h h2, h.cell h3 rfl, HRX.out w M h h4, h.cell h3 rfl⟩
    have h62 : ∀ w, (frfS b8 (.slice (some ⟨ba, 0, none⟩) Y.L.length c44) ba (k * 5) (cC y) b7 (.slice (some ⟨bw, 0, none⟩) X.W.length c41) bw (i * 4) (wC x) X.ts) w → w.cell? ⟨b8, 3, none⟩ = some (.slice (some ⟨ba, 0, none⟩) Y.L.length c44) := fun w h => h.1
    have h66 : ∀ w, (frfS b8 (.slice (some ⟨ba, 0, none⟩) Y.L.length c44) ba (k * 5) (cC y) b7 (.slice (some ⟨bw, 0, none⟩) X.W.length c41) bw (i * 4) (wC x) X.ts) w → w.rangeAt ba (k * 5) (kC y.k) := fun w h => range_pre (ds := [.int .i64 y.ts, (.string ⟨(y.v).toArray⟩)]) h.2.1
    have h68 : ∀ w, (frfS b8 (.slice (some ⟨ba, 0, none⟩) Y.L.length c44) ba (k * 5) (cC y) b7 (.slice (some ⟨bw, 0, none⟩) X.W.length c41) bw (i * 4) (wC x) X.ts) w → w.cell? ⟨b7, 1, none⟩ = some (.slice (some ⟨bw, 0, none⟩) X.W.length c41) := fun w h => h.2.2.1
    have h72 : ∀ w, (frfS b8 (.slice (some ⟨ba, 0, none⟩) Y.L.length c44) ba (k * 5) (cC y) b7 (.slice (some ⟨bw, 0, none⟩) X.W.length c41) bw (i * 4) (wC x) X.ts) w → w.rangeAt bw (i * 4) (kC x.k) := fun w h => range_pre (ds := [(.string ⟨(x.v).toArray⟩)]) h.2.2.2.1
    have h80 : ∀ w, (frfS b8 (.slice (some ⟨ba, 0, none⟩) Y.L.length c44) ba (k * 5) (cC y) b7 (.slice (some ⟨bw, 0, none⟩) X.W.length c41) bw (i * 4) (wC x) X.ts) w → w.cell? ⟨ba, k * 5 + 4, none⟩ = some (.string ⟨(y.v).toArray⟩) := fun w h => h.2.1 4 _ rfl
    have h86 : ∀ w, (frfS b8 (.slice (some ⟨ba, 0, none⟩) Y.L.length c44) ba (k * 5) (cC y) b7 (.slice (some ⟨bw, 0, none⟩) X.W.length c41) bw (i * 4) (wC x) X.ts) w → w.cell? ⟨bw, i * 4 + 3, none⟩ = some (.string ⟨(x.v).toArray⟩) := fun w h => h.2.2.2.1 3 _ rfl
    have h95 : ∀ w, (frfS b8 (.slice (some ⟨ba, 0, none⟩) Y.L.length c44) ba (k * 5) (cC y) b7 (.slice (some ⟨bw, 0, none⟩) X.W.length c41) bw (i * 4) (wC x) X.ts) w → w.cell? ⟨ba, k * 5 + 3, none⟩ = some (.int .i64 y.ts) := fun w h => h.2.1 3 _ rfl
    have h97 : ∀ w, (frfS b8 (.slice (some ⟨ba, 0, none⟩) Y.L.length c44) ba (k * 5) (cC y) b7 (.slice (some ⟨bw, 0, none⟩) X.W.length c41) bw (i * 4) (wC x) X.ts) w → w.cell? ⟨b7, 0, none⟩ = some (.int .i64 X.ts) := fun w h => h.2.2.2.2
    go_wp2_with (first
      | (guard_target = wpList _ _ _ (⟨some 54, .load _ _, _, _, _, _⟩ :: _) _ _; refine wpl (o := ⟨some 54, .load _ _, _, _, _, _⟩) rfl fun K hK => op_load rfl (ad := ⟨b8, 3, none⟩) rfl (by kernel_rfl) (hs.cell (l := stC Y (.slice (some ⟨ba, 0, none⟩) Y.L.length c44)) (t := 43) (by (try dsimp only [List.set]); repeat (first | with_reducible exact List.mem_cons_self | with_reducible apply List.mem_cons_of_mem)) rfl) (hK _ _ ?_); clear hK K))
    cases q with
    | true =>
      clear hqv hqt heq HRX HRYY
      have hS0 := cS _ _ hs.drew (by (try dsimp only [List.set]); repeat (first | with_reducible exact List.mem_cons_self | with_reducible apply List.mem_cons_of_mem)) (by (try dsimp only [List.set]); repeat (first | with_reducible exact List.mem_cons_self | with_reducible apply List.mem_cons_of_mem)) (by (try dsimp only [List.set]); repeat (first | with_reducible exact List.mem_cons_self | with_reducible apply List.mem_cons_of_mem)) (by (try dsimp only [List.set]); repeat (first | with_reducible exact List.mem_cons_self | with_reducible apply List.mem_cons_of_mem))
      refine wp_region_tree ((frfS b8 (.slice (some ⟨ba, 0, none⟩) Y.L.length c44) ba (k * 5) (cC y) b7 (.slice (some ⟨bw, 0, none⟩) X.W.length c41) bw (i * 4) (wC x) X.ts)) (.take 0 (.take 1 (.take 2 (.take 3 (.take 4 (.take 5 (.take 6 (.take 7 (.take 8 (.take 9 (.take 10 (.take 11 (.take 12 (.take 13 (.take 14 (.take 15 (.take 16 (.take 17 (.take 18 (.take 19 (.take 20 (.take 21 (.take 22 (.take 23 (.take 24 (.take 25 (.take 26 (.take 27 (.take 28 (.take 29 (.take 30 (.take 31 (.take 32 (.take 33 (.take 34 (.take 35 (.take 36 (.take 37 (.take 38 (.take 39 (.take 40 (.take 41 (.take 42 (DTree.done)))))))))))))))))))))))))))))))))))))))))))) (by kernel_rfl) (by kernel_rfl) (by kernel_rfl) (fun _ _ d _ _ h => by cases d <;> exact h) hS0 ?_
      have hs' := hs.drew
      clear hs
      have hs := hs'
      clear hs'
      have hq := fun p : Prop => class_const hS0 p
      clear hS0
      repeat (first
        | ((with_reducible refine tree_skip (o := ⟨some 61, _, _, _, _, _⟩) rfl ?_ ?_); (kernel_rfl))
        | ((with_reducible refine tree_skip (o := ⟨some 62, _, _, _, _, _⟩) rfl ?_ ?_); (kernel_rfl))
        | ((with_reducible refine tree_skip (o := ⟨some 63, _, _, _, _, _⟩) rfl ?_ ?_); (kernel_rfl))
        | ((with_reducible refine tree_skip (o := ⟨some 64, _, _, _, _, _⟩) rfl ?_ ?_); (kernel_rfl))
        | ((with_reducible refine tree_skip (o := ⟨some 65, _, _, _, _, _⟩) rfl ?_ ?_); (kernel_rfl))
        | ((with_reducible refine tree_skip (o := ⟨some 66, _, _, _, _, _⟩) rfl ?_ ?_); (kernel_rfl))
        | ((with_reducible refine tree_skip (o := ⟨some 67, _, _, _, _, _⟩) rfl ?_ ?_); (kernel_rfl))
        | ((with_reducible refine tree_skip (o := ⟨some 68, _, _, _, _, _⟩) rfl ?_ ?_); (kernel_rfl))
        | ((with_reducible refine tree_skip (o := ⟨some 69, _, _, _, _, _⟩) rfl ?_ ?_); (kernel_rfl))
        | ((with_reducible refine tree_skip (o := ⟨some 70, _, _, _, _, _⟩) rfl ?_ ?_); (kernel_rfl))
        | ((with_reducible refine tree_skip (o := ⟨some 71, _, _, _, _, _⟩) rfl ?_ ?_); (kernel_rfl))
        | ((with_reducible refine tree_skip (o := ⟨some 72, _, _, _, _, _⟩) rfl ?_ ?_); (kernel_rfl))
        | ((with_reducible refine tree_skip (o := ⟨some 73, _, _, _, _, _⟩) rfl ?_ ?_); (kernel_rfl))
        | ((with_reducible refine tree_skip (o := ⟨some 74, _, _, _, _, _⟩) rfl ?_ ?_); (kernel_rfl))
        | ((with_reducible refine tree_skip (o := ⟨some 75, _, _, _, _, _⟩) rfl ?_ ?_); (kernel_rfl))
        | ((with_reducible refine tree_skip (o := ⟨some 76, _, _, _, _, _⟩) rfl ?_ ?_); (kernel_rfl))
        | ((with_reducible refine tree_skip (o := ⟨some 77, _, _, _, _, _⟩) rfl ?_ ?_); (kernel_rfl))
        | ((with_reducible refine tree_skip (o := ⟨some 78, _, _, _, _, _⟩) rfl ?_ ?_); (kernel_rfl))
        | ((with_reducible refine tree_skip (o := ⟨some 79, _, _, _, _, _⟩) rfl ?_ ?_); (kernel_rfl))
        | ((with_reducible refine tree_skip (o := ⟨some 80, _, _, _, _, _⟩) rfl ?_ ?_); (kernel_rfl))
        | ((with_reducible refine tree_skip (o := ⟨some 81, _, _, _, _, _⟩) rfl ?_ ?_); (kernel_rfl))
        | ((with_reducible refine tree_skip (o := ⟨some 82, _, _, _, _, _⟩) rfl ?_ ?_); (kernel_rfl))
        | ((with_reducible refine tree_skip (o := ⟨some 83, _, _, _, _, _⟩) rfl ?_ ?_); (kernel_rfl))
        | ((with_reducible refine tree_skip (o := ⟨some 84, _, _, _, _, _⟩) rfl ?_ ?_); (kernel_rfl))
        | ((with_reducible refine tree_skip (o := ⟨some 85, _, _, _, _, _⟩) rfl ?_ ?_); (kernel_rfl))
        | ((with_reducible refine tree_skip (o := ⟨some 86, _, _, _, _, _⟩) rfl ?_ ?_); (kernel_rfl))
        | ((with_reducible refine tree_skip (o := ⟨some 87, _, _, _, _, _⟩) rfl ?_ ?_); (kernel_rfl))
        | ((with_reducible refine tree_skip (o := ⟨some 88, _, _, _, _, _⟩) rfl ?_ ?_); (kernel_rfl))
        | ((with_reducible refine tree_skip (o := ⟨some 89, _, _, _, _, _⟩) rfl ?_ ?_); (kernel_rfl))
        | ((with_reducible refine tree_skip (o := ⟨some 90, _, _, _, _, _⟩) rfl ?_ ?_); (kernel_rfl))
        | ((with_reducible refine tree_skip (o := ⟨some 91, _, _, _, _, _⟩) rfl ?_ ?_); (kernel_rfl))
        | ((with_reducible refine tree_skip (o := ⟨some 92, _, _, _, _, _⟩) rfl ?_ ?_); (kernel_rfl))
        | ((with_reducible refine tree_skip (o := ⟨some 93, _, _, _, _, _⟩) rfl ?_ ?_); (kernel_rfl))
        | ((with_reducible refine tree_skip (o := ⟨some 94, _, _, _, _, _⟩) rfl ?_ ?_); (kernel_rfl))
        | ((with_reducible refine tree_skip (o := ⟨some 95, _, _, _, _, _⟩) rfl ?_ ?_); (kernel_rfl))
        | ((with_reducible refine tree_skip (o := ⟨some 96, _, _, _, _, _⟩) rfl ?_ ?_); (kernel_rfl))
        | ((with_reducible refine tree_skip (o := ⟨some 97, _, _, _, _, _⟩) rfl ?_ ?_); (kernel_rfl))
        | ((with_reducible refine tree_skip (o := ⟨some 98, _, _, _, _, _⟩) rfl ?_ ?_); (kernel_rfl))
        | ((with_reducible refine tree_skip (o := ⟨some 99, _, _, _, _, _⟩) rfl ?_ ?_); (kernel_rfl))
        | (refine tree_take rfl (fun K hK => ?_); go_simp; (first | with_reducible refine hK _ ?_ | (rw [if_neg (by decide)]; with_reducible refine hK _ ?_)); clear hK K))
      refine tree_done ?_
      clear hq
      go_wp2_with fail
      exact ⟨⟨k + 1, by omega, by rw [HSN.out]; rfl, by go_num, hs⟩, by simp only [intOf]; omega⟩
    | false =>
      cases qk with
      | false =>
        clear hqv hqt
        have hS0 := cS _ _ hs.drew (by (try dsimp only [List.set]); repeat (first | with_reducible exact List.mem_cons_self | with_reducible apply List.mem_cons_of_mem)) (by (try dsimp only [List.set]); repeat (first | with_reducible exact List.mem_cons_self | with_reducible apply List.mem_cons_of_mem)) (by (try dsimp only [List.set]); repeat (first | with_reducible exact List.mem_cons_self | with_reducible apply List.mem_cons_of_mem)) (by (try dsimp only [List.set]); repeat (first | with_reducible exact List.mem_cons_self | with_reducible apply List.mem_cons_of_mem))
        refine wp_region_tree ((frfS b8 (.slice (some ⟨ba, 0, none⟩) Y.L.length c44) ba (k * 5) (cC y) b7 (.slice (some ⟨bw, 0, none⟩) X.W.length c41) bw (i * 4) (wC x) X.ts)) (.take 0 (.take 1 (.take 2 (.take 3 (.take 4 (.take 5 (.take 6 (.take 7 (.take 8 (.take 9 (.take 10 (.take 11 (.take 12 (.take 13 (.take 14 (.take 15 (.take 16 (.take 17 (.take 18 (.take 19 (.take 20 (.take 21 (.take 22 (.take 23 (.take 24 (.take 25 (.take 26 (.take 27 (.take 28 (.take 29 (.take 30 (.take 31 (.take 32 (.take 33 (.take 34 (.take 35 (.take 36 (.take 37 (.take 38 (.take 39 (.take 40 (.take 41 (.take 42 (DTree.done)))))))))))))))))))))))))))))))))))))))))))) (by kernel_rfl) (by kernel_rfl) (by kernel_rfl) (fun _ _ d _ _ h => by cases d <;> exact h) hS0 ?_
        have hs' := hs.drew
        clear hs
        have hs := hs'
        clear hs'
        have hq := fun p : Prop => class_const hS0 p
        clear hS0
        repeat (first
          | ((with_reducible refine tree_skip (o := ⟨some 75, _, _, _, _, _⟩) rfl ?_ ?_); (kernel_rfl))
          | ((with_reducible refine tree_skip (o := ⟨some 76, _, _, _, _, _⟩) rfl ?_ ?_); (kernel_rfl))
          | ((with_reducible refine tree_skip (o := ⟨some 77, _, _, _, _, _⟩) rfl ?_ ?_); (kernel_rfl))
          | ((with_reducible refine tree_skip (o := ⟨some 78, _, _, _, _, _⟩) rfl ?_ ?_); (kernel_rfl))
          | ((with_reducible refine tree_skip (o := ⟨some 79, _, _, _, _, _⟩) rfl ?_ ?_); (kernel_rfl))
          | ((with_reducible refine tree_skip (o := ⟨some 80, _, _, _, _, _⟩) rfl ?_ ?_); (kernel_rfl))
          | ((with_reducible refine tree_skip (o := ⟨some 81, _, _, _, _, _⟩) rfl ?_ ?_); (kernel_rfl))
          | ((with_reducible refine tree_skip (o := ⟨some 82, _, _, _, _, _⟩) rfl ?_ ?_); (kernel_rfl))
          | ((with_reducible refine tree_skip (o := ⟨some 83, _, _, _, _, _⟩) rfl ?_ ?_); (kernel_rfl))
          | ((with_reducible refine tree_skip (o := ⟨some 84, _, _, _, _, _⟩) rfl ?_ ?_); (kernel_rfl))
          | ((with_reducible refine tree_skip (o := ⟨some 85, _, _, _, _, _⟩) rfl ?_ ?_); (kernel_rfl))
          | ((with_reducible refine tree_skip (o := ⟨some 86, _, _, _, _, _⟩) rfl ?_ ?_); (kernel_rfl))
          | ((with_reducible refine tree_skip (o := ⟨some 87, _, _, _, _, _⟩) rfl ?_ ?_); (kernel_rfl))
          | ((with_reducible refine tree_skip (o := ⟨some 90, _, _, _, _, _⟩) rfl ?_ ?_); (kernel_rfl))
          | ((with_reducible refine tree_skip (o := ⟨some 91, _, _, _, _, _⟩) rfl ?_ ?_); (kernel_rfl))
          | ((with_reducible refine tree_skip (o := ⟨some 92, _, _, _, _, _⟩) rfl ?_ ?_); (kernel_rfl))
          | ((with_reducible refine tree_skip (o := ⟨some 93, _, _, _, _, _⟩) rfl ?_ ?_); (kernel_rfl))
          | ((with_reducible refine tree_skip (o := ⟨some 94, _, _, _, _, _⟩) rfl ?_ ?_); (kernel_rfl))
          | ((with_reducible refine tree_skip (o := ⟨some 95, _, _, _, _, _⟩) rfl ?_ ?_); (kernel_rfl))
          | ((with_reducible refine tree_skip (o := ⟨some 96, _, _, _, _, _⟩) rfl ?_ ?_); (kernel_rfl))
          | ((with_reducible refine tree_skip (o := ⟨some 97, _, _, _, _, _⟩) rfl ?_ ?_); (kernel_rfl))
          | ((with_reducible refine tree_skip (o := ⟨some 98, _, _, _, _, _⟩) rfl ?_ ?_); (kernel_rfl))
          | (with_reducible refine tree_load (o := ⟨some 62, .load _ _, _, _, _, _⟩) rfl rfl rfl rfl rfl h62 ?_)
          | (with_reducible refine tree_load_agg (o := ⟨some 66, .load _ _, _, _, _, _⟩) (kC y.k) rfl rfl rfl rfl ?_ ?_ h66 ?_; (kernel_rfl); (kernel_rfl))
          | (with_reducible refine tree_load (o := ⟨some 68, .load _ _, _, _, _, _⟩) rfl rfl rfl rfl rfl h68 ?_)
          | (with_reducible refine tree_load_agg (o := ⟨some 72, .load _ _, _, _, _, _⟩) (kC x.k) rfl rfl rfl rfl ?_ ?_ h72 ?_; (kernel_rfl); (kernel_rfl))
          | (refine tree_take rfl (fun K hK => ?_); go_simp; (first | with_reducible refine hK _ ?_ | (rw [if_neg (by decide)]; with_reducible refine hK _ ?_)); clear hK K))
        refine tree_done ?_
        clear hq
        go_wp2_with fail
        exact ⟨⟨k + 1, by omega, by rw [HSN.out]; rfl, by go_num, hs⟩, by simp only [intOf]; omega⟩
      | true =>
        cases qv with
        | false =>
          clear hqt
          have hS0 := cS _ _ hs.drew (by (try dsimp only [List.set]); repeat (first | with_reducible exact List.mem_cons_self | with_reducible apply List.mem_cons_of_mem)) (by (try dsimp only [List.set]); repeat (first | with_reducible exact List.mem_cons_self | with_reducible apply List.mem_cons_of_mem)) (by (try dsimp only [List.set]); repeat (first | with_reducible exact List.mem_cons_self | with_reducible apply List.mem_cons_of_mem)) (by (try dsimp only [List.set]); repeat (first | with_reducible exact List.mem_cons_self | with_reducible apply List.mem_cons_of_mem))
          refine wp_region_tree ((frfS b8 (.slice (some ⟨ba, 0, none⟩) Y.L.length c44) ba (k * 5) (cC y) b7 (.slice (some ⟨bw, 0, none⟩) X.W.length c41) bw (i * 4) (wC x) X.ts)) (.take 0 (.take 1 (.take 2 (.take 3 (.take 4 (.take 5 (.take 6 (.take 7 (.take 8 (.take 9 (.take 10 (.take 11 (.take 12 (.take 13 (.take 14 (.take 15 (.take 16 (.take 17 (.take 18 (.take 19 (.take 20 (.take 21 (.take 22 (.take 23 (.take 24 (.take 25 (.take 26 (.take 27 (.take 28 (.take 29 (.take 30 (.take 31 (.take 32 (.take 33 (.take 34 (.take 35 (.take 36 (.take 37 (.take 38 (.take 39 (.take 40 (.take 41 (.take 42 (DTree.done)))))))))))))))))))))))))))))))))))))))))))) (by kernel_rfl) (by kernel_rfl) (by kernel_rfl) (fun _ _ d _ _ h => by cases d <;> exact h) hS0 ?_
          have hs' := hs.drew
          clear hs
          have hs := hs'
          clear hs'
          have hq := fun p : Prop => class_const hS0 p
          clear hS0
          repeat (first
            | ((with_reducible refine tree_skip (o := ⟨some 90, _, _, _, _, _⟩) rfl ?_ ?_); (kernel_rfl))
            | ((with_reducible refine tree_skip (o := ⟨some 91, _, _, _, _, _⟩) rfl ?_ ?_); (kernel_rfl))
            | ((with_reducible refine tree_skip (o := ⟨some 92, _, _, _, _, _⟩) rfl ?_ ?_); (kernel_rfl))
            | ((with_reducible refine tree_skip (o := ⟨some 93, _, _, _, _, _⟩) rfl ?_ ?_); (kernel_rfl))
            | ((with_reducible refine tree_skip (o := ⟨some 94, _, _, _, _, _⟩) rfl ?_ ?_); (kernel_rfl))
            | ((with_reducible refine tree_skip (o := ⟨some 95, _, _, _, _, _⟩) rfl ?_ ?_); (kernel_rfl))
            | ((with_reducible refine tree_skip (o := ⟨some 96, _, _, _, _, _⟩) rfl ?_ ?_); (kernel_rfl))
            | ((with_reducible refine tree_skip (o := ⟨some 97, _, _, _, _, _⟩) rfl ?_ ?_); (kernel_rfl))
            | ((with_reducible refine tree_skip (o := ⟨some 98, _, _, _, _, _⟩) rfl ?_ ?_); (kernel_rfl))
            | (with_reducible refine tree_load (o := ⟨some 62, .load _ _, _, _, _, _⟩) rfl rfl rfl rfl rfl h62 ?_)
            | (with_reducible refine tree_load_agg (o := ⟨some 66, .load _ _, _, _, _, _⟩) (kC y.k) rfl rfl rfl rfl ?_ ?_ h66 ?_; (kernel_rfl); (kernel_rfl))
            | (with_reducible refine tree_load (o := ⟨some 68, .load _ _, _, _, _, _⟩) rfl rfl rfl rfl rfl h68 ?_)
            | (with_reducible refine tree_load_agg (o := ⟨some 72, .load _ _, _, _, _, _⟩) (kC x.k) rfl rfl rfl rfl ?_ ?_ h72 ?_; (kernel_rfl); (kernel_rfl))
            | (with_reducible refine tree_load (o := ⟨some 76, .load _ _, _, _, _, _⟩) rfl rfl rfl rfl rfl h62 ?_)
            | (with_reducible refine tree_load (o := ⟨some 80, .load _ _, _, _, _, _⟩) rfl rfl rfl rfl rfl h80 ?_)
            | (with_reducible refine tree_load (o := ⟨some 82, .load _ _, _, _, _, _⟩) rfl rfl rfl rfl rfl h68 ?_)
            | (with_reducible refine tree_load (o := ⟨some 86, .load _ _, _, _, _, _⟩) rfl rfl rfl rfl rfl h86 ?_)
            | (refine tree_take rfl (fun K hK => ?_); go_simp; (first | with_reducible refine hK _ ?_ | (rw [if_neg (by decide)]; with_reducible refine hK _ ?_)); clear hK K))
          refine tree_done ?_
          clear hq
          go_wp2_with fail
          exact ⟨⟨k + 1, by omega, by rw [HSN.out]; rfl, by go_num, hs⟩, by simp only [intOf]; omega⟩
        | true =>
          skip
          have hS0 := cS _ _ hs.drew (by (try dsimp only [List.set]); repeat (first | with_reducible exact List.mem_cons_self | with_reducible apply List.mem_cons_of_mem)) (by (try dsimp only [List.set]); repeat (first | with_reducible exact List.mem_cons_self | with_reducible apply List.mem_cons_of_mem)) (by (try dsimp only [List.set]); repeat (first | with_reducible exact List.mem_cons_self | with_reducible apply List.mem_cons_of_mem)) (by (try dsimp only [List.set]); repeat (first | with_reducible exact List.mem_cons_self | with_reducible apply List.mem_cons_of_mem))
          refine wp_region_tree ((frfS b8 (.slice (some ⟨ba, 0, none⟩) Y.L.length c44) ba (k * 5) (cC y) b7 (.slice (some ⟨bw, 0, none⟩) X.W.length c41) bw (i * 4) (wC x) X.ts)) (.take 0 (.take 1 (.take 2 (.take 3 (.take 4 (.take 5 (.take 6 (.take 7 (.take 8 (.take 9 (.take 10 (.take 11 (.take 12 (.take 13 (.take 14 (.take 15 (.take 16 (.take 17 (.take 18 (.take 19 (.take 20 (.take 21 (.take 22 (.take 23 (.take 24 (.take 25 (.take 26 (.take 27 (.take 28 (.take 29 (.take 30 (.take 31 (.take 32 (.take 33 (.take 34 (.take 35 (.take 36 (.take 37 (.take 38 (.take 39 (.take 40 (.take 41 (.take 42 (DTree.done)))))))))))))))))))))))))))))))))))))))))))) (by kernel_rfl) (by kernel_rfl) (by kernel_rfl) (fun _ _ d _ _ h => by cases d <;> exact h) hS0 ?_
          have hs' := hs.drew
          clear hs
          have hs := hs'
          clear hs'
          have hq := fun p : Prop => class_const hS0 p
          clear hS0
          repeat (first
            | ((with_reducible refine tree_skip (o := ⟨some 0, _, _, _, _, _⟩) rfl ?_ ?_); (kernel_rfl))
            | (with_reducible refine tree_load (o := ⟨some 62, .load _ _, _, _, _, _⟩) rfl rfl rfl rfl rfl h62 ?_)
            | (with_reducible refine tree_load_agg (o := ⟨some 66, .load _ _, _, _, _, _⟩) (kC y.k) rfl rfl rfl rfl ?_ ?_ h66 ?_; (kernel_rfl); (kernel_rfl))
            | (with_reducible refine tree_load (o := ⟨some 68, .load _ _, _, _, _, _⟩) rfl rfl rfl rfl rfl h68 ?_)
            | (with_reducible refine tree_load_agg (o := ⟨some 72, .load _ _, _, _, _, _⟩) (kC x.k) rfl rfl rfl rfl ?_ ?_ h72 ?_; (kernel_rfl); (kernel_rfl))
            | (with_reducible refine tree_load (o := ⟨some 76, .load _ _, _, _, _, _⟩) rfl rfl rfl rfl rfl h62 ?_)
            | (with_reducible refine tree_load (o := ⟨some 80, .load _ _, _, _, _, _⟩) rfl rfl rfl rfl rfl h80 ?_)
            | (with_reducible refine tree_load (o := ⟨some 82, .load _ _, _, _, _, _⟩) rfl rfl rfl rfl rfl h68 ?_)
            | (with_reducible refine tree_load (o := ⟨some 86, .load _ _, _, _, _, _⟩) rfl rfl rfl rfl rfl h86 ?_)
            | (with_reducible refine tree_load (o := ⟨some 91, .load _ _, _, _, _, _⟩) rfl rfl rfl rfl rfl h62 ?_)
            | (with_reducible refine tree_load (o := ⟨some 95, .load _ _, _, _, _, _⟩) rfl rfl rfl rfl rfl h95 ?_)
            | (with_reducible refine tree_load (o := ⟨some 97, .load _ _, _, _, _, _⟩) rfl rfl rfl rfl rfl h97 ?_)
            | (refine tree_take rfl (fun K hK => ?_); go_simp; (first | with_reducible refine hK _ ?_ | (rw [if_neg (by decide)]; with_reducible refine hK _ ?_)); clear hK K))
          refine tree_done ?_
          clear hq
          go_wp2_with fail
          exact ⟨⟨k + 1, by omega, by rw [HSN.out]; cases qt <;> rfl, by go_num, hs⟩, by simp only [intOf]; omega⟩
  · have hktI : ¬ (k : Int) < (Y.L.length : Int) := by omega
    have he : found x X.ts (Y.L.take k) = true := by rw [List.take_of_length_le (by omega)]; exact HFX.out
    rw [he]
    clear he
    go_wp2_with (first
      | (guard_target = wpList _ _ _ (⟨some 54, .load _ _, _, _, _, _⟩ :: _) _ _; refine wpl (o := ⟨some 54, .load _ _, _, _, _, _⟩) rfl fun K hK => op_load rfl (ad := ⟨b8, 3, none⟩) rfl (by kernel_rfl) (hs.cell (l := (stC Y (.slice A44 Y.L.length c44))) (t := 43) (by (try dsimp only [List.set]); repeat (first | with_reducible exact List.mem_cons_self | with_reducible apply List.mem_cons_of_mem)) rfl) (hK _ _ ?_); clear hK K))
    exact ⟨⟨i + 1, by omega, by go_num, hs⟩, by simp only [intOf]; omega⟩
set_option maxRecDepth 100000 in
set_option maxHeartbeats 30000000 in
theorem redoFresh_walk_a_b_c_d : redoFresh_walk_a_b_c_cut.p2 := by
  intro W w L hold s c As cs x1_1 x1_2 Aw cw x1_3 x1_4 HV HW HA hln hlw HTI h60 w60 HO HMD Y F HFR hFl X HTD hXl hFX hyl HAP g hgl HG1 HG2 HWS HRY HOY hsum hleI x1_5 b2 x1_6 b3 x1_7 x1_8 k14 k19 h60I w60I x1_9 x1_10 x1_11 v31 x1_12 A32 c32 x1_13 x1_14 b6 x3_1 x3_2 x2_1 v34 x2_2 v36 x2_3 v37 w5 x3_3 A41 c41 x3_4 x3_5 b7 x3_6 x3_7 x3_8 A44 c44 x3_9 x3_10 b8 w1 w3 x3_11 x3_12 wr u4 u10 u11 u45 u46 u47 u48 u49 u50 u51 u52 u53 u54 u55 u56 u57 u58 u59 u60 u61 u62 u63 u64 u65 u66 u67 u68 u69 u70 u71 u72 u73 u74 u75 u76 u77 u78 u79 u80 u81 u82 u83 u84 u85 u86 u87 u88 u89 u90 u91 u92 u93 u94 u95 u96 u97 u98 u99 u100 u101 u102 i hi hs hlt hltI
  go_wp2_with (first
    | (guard_target = wpList _ _ _ (⟨some 47, .load _ _, _, _, _, _⟩ :: _) _ _; refine wpl (o := ⟨some 47, .load _ _, _, _, _, _⟩) rfl fun K hK => op_load rfl (ad := ⟨b7, 1, none⟩) rfl (by kernel_rfl) (hs.cell (l := (cmC X (.slice A41 X.W.length c41))) (t := 24) (by (try dsimp only [List.set]); repeat (first | with_reducible exact List.mem_cons_self | with_reducible apply List.mem_cons_of_mem)) rfl) (hK _ _ ?_); clear hK K)
    | (guard_target = wpList _ _ _ (⟨some 105, .load _ _, _, _, _, _⟩ :: _) _ _; refine wpl (o := ⟨some 105, .load _ _, _, _, _, _⟩) rfl fun K hK => op_load_agg rfl (b := b8) (i := 0) rfl ((stC Y (.slice A44 Y.L.length c44))) (range_whole hs (by (try dsimp only [List.set]); repeat (first | with_reducible exact List.mem_cons_self | with_reducible apply List.mem_cons_of_mem))) (by kernel_rfl) (by kernel_rfl) (hK _ _ ?_); clear hK K)
    | (go_at_call 18; go_must (refine (HRY.out _ _ hs (.slice A44 Y.L.length c44) (Has.of (A := own (.slice A44 Y.L.length c44) 59 Y.L.length 5 (csC Y.L)) (by (try dsimp only [List.set]); repeat (first | with_reducible exact List.mem_cons_self | with_reducible apply List.mem_cons_of_mem)) own_sliceAt)).mono ?_); clear hs; rintro e w1 ⟨v106, rfl, hs⟩
       obtain ⟨A106, c106, rfl, _, _⟩ := own_slice hs (i := 0) rfl
       have hfl := fun w => run_field3 Y.last Y.epoch Y.low A106 Y.L.length c106 w)
    | (go_at_call 15; go_must (refine (HOY.out _ _ hs (.slice A106 Y.L.length c106) (Has.mem m0 own_sliceAt)).mono ?_); clear hs; rintro e w1 ⟨rfl, hs⟩
       have k112 : w1.cell? ⟨b8, 3, none⟩ = some (.slice A44 Y.L.length c44) := hs.cell (l := (stC Y (.slice A44 Y.L.length c44))) (t := 43) (by (try dsimp only [List.set]); repeat (first | with_reducible exact List.mem_cons_self | with_reducible apply List.mem_cons_of_mem)) rfl
       have k115 : w1.cell? ⟨b6, 3, none⟩ = some (.slice A32 F.L.length c32) := hs.cell (l := (stC F (.slice A32 F.L.length c32))) (t := 43) (by (try dsimp only [List.set]); repeat (first | with_reducible exact List.mem_cons_self | with_reducible apply List.mem_cons_of_mem)) rfl
       have k118 : w1.cell? ⟨b7, 1, none⟩ = some (.slice A41 X.W.length c41) := hs.cell (l := (cmC X (.slice A41 X.W.length c41))) (t := 24) (by (try dsimp only [List.set]); repeat (first | with_reducible exact List.mem_cons_self | with_reducible apply List.mem_cons_of_mem)) rfl)
    | (guard_target = wpList _ _ _ (⟨some 112, .load _ _, _, _, _, _⟩ :: _) _ _; refine wpl (o := ⟨some 112, .load _ _, _, _, _, _⟩) rfl fun K hK => op_load rfl (ad := ⟨b8, 3, none⟩) rfl (by kernel_rfl) k112 (hK _ _ ?_); clear hK K)
    | (guard_target = wpList _ _ _ (⟨some 115, .load _ _, _, _, _, _⟩ :: _) _ _; refine wpl (o := ⟨some 115, .load _ _, _, _, _, _⟩) rfl fun K hK => op_load rfl (ad := ⟨b6, 3, none⟩) rfl (by kernel_rfl) k115 (hK _ _ ?_); clear hK K)
    | (guard_target = wpList _ _ _ (⟨some 118, .load _ _, _, _, _, _⟩ :: _) _ _; refine wpl (o := ⟨some 118, .load _ _, _, _, _, _⟩) rfl fun K hK => op_load rfl (ad := ⟨b7, 1, none⟩) rfl (by kernel_rfl) k118 (hK _ _ ?_); clear hK K))
  go_ret
  exact ⟨rfl, hs.pack (by repeat (first | with_reducible exact Pack.refl | with_reducible exact Pack.nil | with_reducible refine Pack.cons (by repeat (first | with_reducible exact Pick.here | with_reducible apply Pick.there)) ?_ | with_reducible apply Pack.drop))⟩
theorem redoFresh_walk_a_b_c : redoFresh_walk_a_b_cut.p1 :=
  redoFresh_walk_a_b_c_cut.go ⟨redoFresh_walk_a_b_c_e⟩ ⟨redoFresh_walk_a_b_c_d⟩
theorem redoFresh_walk_a_b : redoFresh_walk_a_cut.p1 :=
  redoFresh_walk_a_b_cut.go ⟨redoFresh_walk_a_b_c⟩
theorem redoFresh_walk_a : redoFresh_walk_cut.p1 :=
  redoFresh_walk_a_cut.go ⟨redoFresh_walk_a_b⟩
theorem redoFresh_walk (W w : World) (L : List HP) (hs : Sat W w L) (hold : old W ∈ L) (hm : maxLenIs W) (s : RSt) (c : RCm) (hso : s.Small) (hco : c.Small) (vs vw : Value) (hvs : Has L (sliceAt vs s.L.length 5 (csC s.L))) (hvw : Has L (sliceAt vw c.W.length 4 (wsC c.W))) :
    Calls Tryd.prog 8 #[.agg (stC s vs).toArray, .agg (cmC c vw).toArray] w fun e w' => e = .returned (.bool true) ∧ Sat W w' L :=
  redoFresh_walk_cut.go ⟨redoFresh_walk_a⟩ W w L hs hold hm s c hso hco vs vw hvs hvw
theorem redoFresh_main (W : World) (hm : maxLenIs W) (s : RSt) (cs : List Value) (h0 : stKin.K (hp W) s cs) (c : RCm) (ds : List Value) (h1 : cmKin.K (hp W) c ds) :
    Calls Tryd.prog 8 #[.agg cs.toArray, .agg ds.toArray] W fun e w' => e = .returned (.bool true) ∧ Below W.heap.size W w' := by
  obtain ⟨vs, rfl, k0, so⟩ := st_val h0
  obtain ⟨vw, rfl, k1, co⟩ := cm_val h1
  exact (redoFresh_walk W W _ (Sat.start W) m0 hm s c so co vs vw (hasW m0 k0) (hasW m0 k1)).mono fun e w' ⟨he, hs⟩ => ⟨he, hs.end_ m0⟩
end Go.Proofs.YthjnefpnnifjiaaDoor
