/- The law RedoStates. -/
import Derived.Test.YthjnefpnnifjiaaDoorRdKin
import Derived.Test.YthjnefpnnifjiaaDoorRdTakeR3
import Derived.Test.YthjnefpnnifjiaaDoorRdPutR
import Derived.Test.YthjnefpnnifjiaaDoorRdRef3
set_option linter.unusedVariables false
set_option linter.unusedSimpArgs false
namespace Go.Proofs.YthjnefpnnifjiaaDoor
open Go.RowKit
theorem takeSt_len {l : List UInt8} {s : RSt} (h : takeSt l = some s) : s.L.length ≤ l.length := by
  obtain ⟨h1, h2, _, _, h5⟩ := takeSt_some h
  have h6 := rdCs_many (⟨l, false⟩ : Rd).int.1 (⟨l, false⟩ : Rd).int.2.num.2.num.2.num.1 (⟨l, false⟩ : Rd).int.2.num.2.num.2.num.2 [] (by rw [h1])
  have h7 := rdCs_len (⟨l, false⟩ : Rd).int.1 (⟨l, false⟩ : Rd).int.2.num.2.num.2.num.1 (⟨l, false⟩ : Rd).int.2.num.2.num.2.num.2 []
  have h8 := (⟨l, false⟩ : Rd).int.2.num.2.num.2.num_len
  have h11 := (⟨l, false⟩ : Rd).int.2.num.2.num_len
  have h12 := (⟨l, false⟩ : Rd).int.2.num_len
  have h9 := (⟨l, false⟩ : Rd).int_len
  have h10 : (⟨l, false⟩ : Rd).rest.length = l.length := rfl
  rw [h5]
  simp only [List.length_nil] at h7
  show (rdCs (⟨l, false⟩ : Rd).int.1 (⟨l, false⟩ : Rd).int.2.num.2.num.2.num.1 (⟨l, false⟩ : Rd).int.2.num.2.num.2.num.2 []).2.length ≤ _
  omega
theorem stOf_len (l : List UInt8) : (stOf (takeSt l)).L.length ≤ l.length := by
  cases e : takeSt l with
  | none => simp [stOf]
  | some c => exact takeSt_len e
def ststS (b2 : Nat) (c2 : List Value) (b6 : Nat) (c6 : List Value) (b8 : Nat) (c8 : List Value) (b10 : Nat) (c10 : List Value) (w : World) : Prop := w.rangeAt b2 0 c2 ∧ w.rangeAt b6 0 c6 ∧ w.rangeAt b8 0 c8 ∧ w.rangeAt b10 0 c10
set_option maxRecDepth 100000 in
set_option maxHeartbeats 30000000 in
theorem redoStates_walk (W w : World) (L : List HP) (hs : Sat W w L) (hold : old W ∈ L) (hm : maxLenIs W) (s : RSt) (hso : s.Small) (l : List UInt8) (vs vb : Value) (hvs : Has L (sliceAt vs s.L.length 5 (csC s.L))) (hvb : Has L (bytesAt vb l)) (hlb : l.length ≤ 140737488351232) :
    Calls Tryd.prog 7 #[.agg (stC s vs).toArray, vb] w fun e w' => e = .returned (.bool true) ∧ Sat W w' L := by
  obtain ⟨As, cs, rfl, _, _⟩ := slice_form (hs.slice hvs)
  obtain ⟨Ab, cb, rfl, _, _⟩ := slice_form (hs.bytes hvb)
  have HV := Box.mk hvs
  have HB := Box.mk hvb
  have HA := Box.mk (fun w (L : List HP) hs ho => awake20_spec W w L hs ho hm)
  have HOK := Box.mk hso.ok
  have hln := hso.len
  have HM := Box.mk hm
  clear hvs hvb hm hso
  by_cases h60 : s.L.length ≤ 60
  · have h60I : ¬ (60 : Int) < (s.L.length : Int) := by omega
    by_cases b60 : l.length ≤ 2000
    · have b60I : ¬ (2000 : Int) < (l.length : Int) := by omega
      have HT := Box.mk (fun w (L : List HP) hs ho hv => takeState_spec W w L hs ho HM.out (.slice Ab l.length cb) l hv (by omega))
      have HRT := Box.mk (fun w (L : List HP) hs => rtakeSt_spec W w L hs l (by omega))
      have HMD := Box.mk (fun w (L : List HP) hs hv => made_spec W w L hs s (.slice As s.L.length cs) hv (by omega))
      have HPU := Box.mk (fun w (L : List HP) hs ho v hv => putState_spec W w L hs ho HM.out s HOK.out (by omega) v hv)
      have HRP := Box.mk (fun w (L : List HP) hs hv => refputState_spec W w L hs s HOK.out (by omega) (.slice As s.L.length cs) hv)
      have HG := Box.mk (fun w (L : List HP) hs v hv => graph_spec W w L hs s v hv (by omega))
      have HRG := Box.mk (fun w (L : List HP) hs hv => rgraph_spec W w L hs s (.slice As s.L.length cs) hv (by omega))
      have HF := Box.mk (fun w (L : List HP) hs v hv => fresh_spec W w L hs s v hv (by omega))
      have HRF := Box.mk (fun w (L : List HP) hs hv => rfresh_spec W w L hs s (.slice As s.L.length cs) hv (by omega))
      have HRS := Box.mk (fun w (L : List HP) hs v hv => real_spec W w L hs s v hv (by omega))
      have HSS := Box.mk (fun w (L : List HP) hs u v hu hv => rsame_spec W w L hs s u v hu hv (by omega))
      have hCl := stOf_len l
      have hgl := graphL_len s.L
      have hfl : (fresh s).L.length ≤ 60 := by have := freshL_len s.L; show (freshL s.L).length ≤ 60; omega
      generalize takeSt l = O at HT HRT hCl
      unfold takeStPost at HT
      unfold rtStPost at HRT
      unfold freshPost at HF HRF
      generalize stOf O = C at HT HRT hCl
      generalize codeOf O = k0 at HT HRT
      generalize graphL s.L = g at HG HRG hgl
      generalize fresh s = F at HF HRF hfl
      have HRC := Box.mk (fun w (L : List HP) hs v hv => real_spec W w L hs C v hv (by omega))
      have HSC := Box.mk (fun w (L : List HP) hs u v hu hv => rsame_spec W w L hs C u v hu hv (by omega))
      have HRF2 := Box.mk (fun w (L : List HP) hs v hv => real_spec W w L hs F v hv (by omega))
      have HSF := Box.mk (fun w (L : List HP) hs u v hu hv => rsame_spec W w L hs F u v hu hv (by omega))
      have HWS := Box.mk (fun w (L : List HP) hs u v hu hv => writes_spec W w L hs g u v hu hv (by omega))
      obtain ⟨E, hE⟩ : ∃ E, encSt s = E := ⟨_, rfl⟩
      rw [hE] at HPU HRP
      clear hE hCl hgl hfl
      go_enter Tryd.func7, Tryd.ntmps7
      go_wp2_with (first
        | (guard_target = wpList _ _ _ (⟨some 2, .box _ _, _, _, _, _⟩ :: _) _ _; refine wpl (o := ⟨some 2, .box _ _, _, _, _, _⟩) rfl fun K hK => ?_; go_must (refine op_box hs rfl _ rfl (stC s (.slice As s.L.length cs)) rfl fun b2 w1 h => hK _ _ ?_); clear hs hK K; have hs := h; clear h; try dsimp only [List.set] at hs)
        | (go_at_call 9; go_must (refine (HA.out _ _ hs (by (try dsimp only [List.set]); repeat (first | exact hold | apply List.mem_cons_of_mem))).mono ?_); clear hs; rintro e w1 ⟨rfl, hs⟩
           have k13 : w1.cell? ⟨b2, 3, none⟩ = some (.slice As s.L.length cs) := hs.cell (l := (stC s (.slice As s.L.length cs))) (t := 39) (by (try dsimp only [List.set]); repeat (first | with_reducible exact List.mem_cons_self | with_reducible apply List.mem_cons_of_mem)) rfl)
        | (guard_target = wpList _ _ _ (⟨some 13, .load _ _, _, _, _, _⟩ :: _) _ _; refine wpl (o := ⟨some 13, .load _ _, _, _, _, _⟩) rfl fun K hK => op_load rfl (ad := ⟨b2, 3, none⟩) rfl (by kernel_rfl) k13 (hK _ _ ?_); clear hK K)
        | (go_at_call 23; go_must (refine (HT.out _ _ hs (by (try dsimp only [List.set]); repeat (first | exact hold | apply List.mem_cons_of_mem)) (show Has _ (bytesAt (.slice Ab l.length cb) l) from (by (try dsimp only [List.set]); repeat (first | exact HB.out | apply Has.tail)))).mono ?_); clear hs; rintro e w1 ⟨v24, rfl, hs⟩
           obtain ⟨A24, c24, rfl, _, _⟩ := own_slice hs (i := 0) rfl)
        | (guard_target = wpList _ _ _ (⟨some 6, .alloc _, _, _, _, _⟩ :: _) _ _; refine wpl (o := ⟨some 6, .alloc _, _, _, _, _⟩) rfl fun K hK => ?_; go_must (refine op_alloc hs rfl _ zstateR [Value.int .i64 0, .int .u32 0, .int .u32 0, .slice none 0 0] rfl fun b6 w1 h => hK _ _ ?_); clear hs hK K; have hs := h; clear h; try dsimp only [List.set] at hs)
        | (guard_target = wpList _ _ _ (⟨none, .store _ (.tmp 6) _, _, _, _, _⟩ :: _) _ _; refine wpl (o := ⟨none, .store _ (.tmp 6) _, _, _, _, _⟩) rfl fun K hK => ?_; go_must (refine op_store_whole hs (b := b6) rfl rfl (stC C (.slice A24 C.L.length c24)) rfl (by simp [stC, Value.oneCell']) (by kernel_rfl) (k := 0) rfl rfl fun w3 h => hK _ _ ?_); clear hs hK K; have hs := h; clear h; try dsimp only [List.set] at hs)
        | (guard_target = wpList _ _ _ (⟨some 29, .convert _ _ _, _, _, _, _⟩ :: _) _ _; refine wpl (o := ⟨some 29, .convert _ _ _, _, _, _, _⟩) rfl fun K hK => ?_; go_must (refine op_to_string rfl Tryd.underlying25 Tryd.underlying5 Tryd.underlying9 rfl (hs.bytes ((show Has _ (bytesAt (.slice Ab l.length cb) l) from (by (try dsimp only [List.set]); repeat (first | exact HB.out | apply Has.tail))))) (hK _ _ ?_)); clear hK K)
        | (go_at_call 24; go_must (refine (HRT.out _ _ hs).mono ?_); clear hs; rintro e w1 ⟨v30, rfl, hs⟩
           obtain ⟨A30, c30, rfl, _, _⟩ := own_slice hs (i := 0) rfl)
        | (guard_target = wpList _ _ _ (⟨some 8, .alloc _, _, _, _, _⟩ :: _) _ _; refine wpl (o := ⟨some 8, .alloc _, _, _, _, _⟩) rfl fun K hK => ?_; go_must (refine op_alloc hs rfl _ zrstate [Value.int .i64 0, .int .u32 0, .int .u32 0, .slice none 0 0] rfl fun b8 w1 h => hK _ _ ?_); clear hs hK K; have hs := h; clear h; try dsimp only [List.set] at hs)
        | (guard_target = wpList _ _ _ (⟨none, .store _ (.tmp 8) _, _, _, _, _⟩ :: _) _ _; refine wpl (o := ⟨none, .store _ (.tmp 8) _, _, _, _, _⟩) rfl fun K hK => ?_; go_must (refine op_store_whole hs (b := b8) rfl rfl (stC C (.slice A30 C.L.length c30)) rfl (by simp [stC, Value.oneCell']) (by kernel_rfl) (k := 0) rfl rfl fun w3 h => hK _ _ ?_); clear hs hK K; have hs := h; clear h; try dsimp only [List.set] at hs)
        | (guard_target = wpList _ _ _ (⟨some 33, .load _ _, _, _, _, _⟩ :: _) _ _; refine wpl (o := ⟨some 33, .load _ _, _, _, _, _⟩) rfl fun K hK => op_load_agg rfl (b := b2) (i := 0) rfl ((stC s (.slice As s.L.length cs))) (range_whole hs (by (try dsimp only [List.set]); repeat (first | with_reducible exact List.mem_cons_self | with_reducible apply List.mem_cons_of_mem))) (by kernel_rfl) (by kernel_rfl) (hK _ _ ?_); clear hK K)
        | (go_at_call 16; go_must (refine (HMD.out _ _ hs (show Has _ (sliceAt (.slice As s.L.length cs) s.L.length 5 (csC s.L)) from (by (try dsimp only [List.set]); repeat (first | exact HV.out | apply Has.tail)))).mono ?_); clear hs; rintro e w1 ⟨v34, rfl, hs⟩
           obtain ⟨A34, c34, rfl, _, _⟩ := own_slice hs (i := 0) rfl)
        | (guard_target = wpList _ _ _ (⟨some 10, .alloc _, _, _, _, _⟩ :: _) _ _; refine wpl (o := ⟨some 10, .alloc _, _, _, _, _⟩) rfl fun K hK => ?_; go_must (refine op_alloc hs rfl _ zstateR [Value.int .i64 0, .int .u32 0, .int .u32 0, .slice none 0 0] rfl fun b10 w1 h => hK _ _ ?_); clear hs hK K; have hs := h; clear h; try dsimp only [List.set] at hs)
        | (guard_target = wpList _ _ _ (⟨none, .store _ (.tmp 10) _, _, _, _, _⟩ :: _) _ _; refine wpl (o := ⟨none, .store _ (.tmp 10) _, _, _, _, _⟩) rfl fun K hK => ?_; go_must (refine op_store_whole hs (b := b10) rfl rfl (stC s (.slice A34 s.L.length c34)) rfl (by simp [stC, Value.oneCell']) (by kernel_rfl) (k := 0) rfl rfl fun w3 h => hK _ _ ?_); clear hs hK K; have hs := h; clear h; try dsimp only [List.set] at hs))
      have cS : ∀ w M, Sat W w M → row b2 (stC s (.slice As s.L.length cs)) 39 ∈ M → row b6 (stC C (.slice A24 C.L.length c24)) 43 ∈ M → row b8 (stC C (.slice A30 C.L.length c30)) 39 ∈ M → row b10 (stC s (.slice A34 s.L.length c34)) 43 ∈ M → (ststS b2 (stC s (.slice As s.L.length cs)) b6 (stC C (.slice A24 C.L.length c24)) b8 (stC C (.slice A30 C.L.length c30)) b10 (stC s (.slice A34 s.L.length c34))) w := fun w M h h1 h2 h3 h4 => ⟨range_whole h h1, range_whole h h2, range_whole h h3, range_whole h h4⟩
      have r2 : ∀ w, (ststS b2 (stC s (.slice As s.L.length cs)) b6 (stC C (.slice A24 C.L.length c24)) b8 (stC C (.slice A30 C.L.length c30)) b10 (stC s (.slice A34 s.L.length c34))) w → w.rangeAt b2 0 (stC s (.slice As s.L.length cs)) := fun w h => h.1
      have r6 : ∀ w, (ststS b2 (stC s (.slice As s.L.length cs)) b6 (stC C (.slice A24 C.L.length c24)) b8 (stC C (.slice A30 C.L.length c30)) b10 (stC s (.slice A34 s.L.length c34))) w → w.rangeAt b6 0 (stC C (.slice A24 C.L.length c24)) := fun w h => h.2.1
      have r8 : ∀ w, (ststS b2 (stC s (.slice As s.L.length cs)) b6 (stC C (.slice A24 C.L.length c24)) b8 (stC C (.slice A30 C.L.length c30)) b10 (stC s (.slice A34 s.L.length c34))) w → w.rangeAt b8 0 (stC C (.slice A30 C.L.length c30)) := fun w h => h.2.2.1
      have r10 : ∀ w, (ststS b2 (stC s (.slice As s.L.length cs)) b6 (stC C (.slice A24 C.L.length c24)) b8 (stC C (.slice A30 C.L.length c30)) b10 (stC s (.slice A34 s.L.length c34))) w → w.rangeAt b10 0 (stC s (.slice A34 s.L.length c34)) := fun w h => h.2.2.2
      have hS0 := cS _ _ hs.drew (by (try dsimp only [List.set]); repeat (first | with_reducible exact List.mem_cons_self | with_reducible apply List.mem_cons_of_mem)) (by (try dsimp only [List.set]); repeat (first | with_reducible exact List.mem_cons_self | with_reducible apply List.mem_cons_of_mem)) (by (try dsimp only [List.set]); repeat (first | with_reducible exact List.mem_cons_self | with_reducible apply List.mem_cons_of_mem)) (by (try dsimp only [List.set]); repeat (first | with_reducible exact List.mem_cons_self | with_reducible apply List.mem_cons_of_mem))
      refine wp_region_tree ((ststS b2 (stC s (.slice As s.L.length cs)) b6 (stC C (.slice A24 C.L.length c24)) b8 (stC C (.slice A30 C.L.length c30)) b10 (stC s (.slice A34 s.L.length c34)))) (.take 0 (.take 1 (.take 2 (.take 5 (.all [(3, .all [(4, .all [(6, .take 7 (.take 8 (.take 9 (.take 10 (.take 12 (.all [(11, .all [(13, .take 14 (.take 15 (.take 16 (.take 17 (.take 18 (.take 19 (.take 20 (.take 21 (.take 23 (.all [(22, .all [(24, .all [(25, .take 26 (.take 27 (.take 28 (.take 31 (.all [(29, .all [(30, .all [(32, .all [(33, .take 34 (.take 35 (.take 36 (.take 38 (.all [(37, .all [(39, .take 40 (.take 41 (DTree.done)))])])))))])])])])))))])])]))))))))))])]))))))]), (6, .all [(4, .take 7 (.take 8 (.take 9 (.take 10 (.take 12 (.all [(11, .all [(13, .take 14 (.take 15 (.take 16 (.take 17 (.take 18 (.take 19 (.take 20 (.take 21 (.take 23 (.all [(22, .all [(24, .all [(25, .take 26 (.take 27 (.take 28 (.take 31 (.all [(29, .all [(30, .all [(32, .all [(33, .take 34 (.take 35 (.take 36 (.take 38 (.all [(37, .all [(39, .take 40 (.take 41 (DTree.done)))])])))))])])])])))))])])]))))))))))])]))))))])])]))))) (by kernel_rfl) (by kernel_rfl) (by kernel_rfl) (fun _ _ d _ _ h => by cases d <;> exact h) hS0 ?_
      have hs' := hs.drew
      clear hs
      have hs := hs'
      clear hs'
      have hq := fun p : Prop => class_const hS0 p
      clear hS0
      repeat (first
        | (with_reducible refine tree_load_agg (o := ⟨some 37, .load _ _, _, _, _, _⟩) (stC s (.slice A34 s.L.length c34)) rfl rfl rfl rfl ?_ ?_ r10 ?_; (kernel_rfl); (kernel_rfl))
        | (with_reducible refine tree_load_agg (o := ⟨some 40, .load _ _, _, _, _, _⟩) (stC s (.slice As s.L.length cs)) rfl rfl rfl rfl ?_ ?_ r2 ?_; (kernel_rfl); (kernel_rfl))
        | (with_reducible refine tree_load_agg (o := ⟨some 45, .load _ _, _, _, _, _⟩) (stC C (.slice A24 C.L.length c24)) rfl rfl rfl rfl ?_ ?_ r6 ?_; (kernel_rfl); (kernel_rfl))
        | (with_reducible refine tree_load_agg (o := ⟨some 47, .load _ _, _, _, _, _⟩) (stC C (.slice A30 C.L.length c30)) rfl rfl rfl rfl ?_ ?_ r8 ?_; (kernel_rfl); (kernel_rfl))
        | (with_reducible refine tree_load_agg (o := ⟨some 56, .load _ _, _, _, _, _⟩) (stC s (.slice A34 s.L.length c34)) rfl rfl rfl rfl ?_ ?_ r10 ?_; (kernel_rfl); (kernel_rfl))
        | (with_reducible refine tree_load_agg (o := ⟨some 58, .load _ _, _, _, _, _⟩) (stC s (.slice As s.L.length cs)) rfl rfl rfl rfl ?_ ?_ r2 ?_; (kernel_rfl); (kernel_rfl))
        | (with_reducible refine tree_load_agg (o := ⟨some 63, .load _ _, _, _, _, _⟩) (stC s (.slice A34 s.L.length c34)) rfl rfl rfl rfl ?_ ?_ r10 ?_; (kernel_rfl); (kernel_rfl))
        | (with_reducible refine tree_load_agg (o := ⟨some 66, .load _ _, _, _, _, _⟩) (stC s (.slice As s.L.length cs)) rfl rfl rfl rfl ?_ ?_ r2 ?_; (kernel_rfl); (kernel_rfl))
        | (with_reducible refine tree_load_agg (o := ⟨some 71, .load _ _, _, _, _, _⟩) (stC s (.slice A34 s.L.length c34)) rfl rfl rfl rfl ?_ ?_ r10 ?_; (kernel_rfl); (kernel_rfl))
        | (with_reducible refine tree_load_agg (o := ⟨some 73, .load _ _, _, _, _, _⟩) (stC s (.slice As s.L.length cs)) rfl rfl rfl rfl ?_ ?_ r2 ?_; (kernel_rfl); (kernel_rfl))
        | (refine tree_take rfl (fun K hK => ?_); go_simp; (first | with_reducible refine hK _ ?_ | (rw [if_neg (by decide)]; with_reducible refine hK _ ?_)); clear hK K))
      refine tree_one_yes (o := _) rfl rfl (fun K hK => ?_) (cS _ _ hs (by (try dsimp only [List.set]); repeat (first | with_reducible exact List.mem_cons_self | with_reducible apply List.mem_cons_of_mem)) (by (try dsimp only [List.set]); repeat (first | with_reducible exact List.mem_cons_self | with_reducible apply List.mem_cons_of_mem)) (by (try dsimp only [List.set]); repeat (first | with_reducible exact List.mem_cons_self | with_reducible apply List.mem_cons_of_mem)) (by (try dsimp only [List.set]); repeat (first | with_reducible exact List.mem_cons_self | with_reducible apply List.mem_cons_of_mem)))
      try go_simp
      go_at_call 22
      refine (HPU.out _ _ hs (by (try dsimp only [List.set]); repeat (first | exact hold | apply List.mem_cons_of_mem)) (.slice A34 s.L.length c34) (Has.of (A := own (.slice A34 s.L.length c34) 59 s.L.length 5 (csC s.L)) (by (try dsimp only [List.set]); repeat (first | with_reducible exact List.mem_cons_self | with_reducible apply List.mem_cons_of_mem)) own_sliceAt)).mono ?_
      clear hs
      rintro e w5 ⟨v38, rfl, hs⟩
      obtain ⟨A38, c38, rfl, _, _⟩ := own_slice hs (i := 0) rfl
      try go_simp
      refine hK _ _ (cS _ _ hs (by (try dsimp only [List.set]); repeat (first | with_reducible exact List.mem_cons_self | with_reducible apply List.mem_cons_of_mem)) (by (try dsimp only [List.set]); repeat (first | with_reducible exact List.mem_cons_self | with_reducible apply List.mem_cons_of_mem)) (by (try dsimp only [List.set]); repeat (first | with_reducible exact List.mem_cons_self | with_reducible apply List.mem_cons_of_mem)) (by (try dsimp only [List.set]); repeat (first | with_reducible exact List.mem_cons_self | with_reducible apply List.mem_cons_of_mem))) ?_
      clear hK K
      refine tree_all (trees_cons_yes (o := _) rfl rfl (fun K hK => ?_) (cS _ _ hs (by (try dsimp only [List.set]); repeat (first | with_reducible exact List.mem_cons_self | with_reducible apply List.mem_cons_of_mem)) (by (try dsimp only [List.set]); repeat (first | with_reducible exact List.mem_cons_self | with_reducible apply List.mem_cons_of_mem)) (by (try dsimp only [List.set]); repeat (first | with_reducible exact List.mem_cons_self | with_reducible apply List.mem_cons_of_mem)) (by (try dsimp only [List.set]); repeat (first | with_reducible exact List.mem_cons_self | with_reducible apply List.mem_cons_of_mem))) (trees_cons_yes (o := _) rfl rfl (fun K hK => ?_) (cS _ _ hs (by (try dsimp only [List.set]); repeat (first | with_reducible exact List.mem_cons_self | with_reducible apply List.mem_cons_of_mem)) (by (try dsimp only [List.set]); repeat (first | with_reducible exact List.mem_cons_self | with_reducible apply List.mem_cons_of_mem)) (by (try dsimp only [List.set]); repeat (first | with_reducible exact List.mem_cons_self | with_reducible apply List.mem_cons_of_mem)) (by (try dsimp only [List.set]); repeat (first | with_reducible exact List.mem_cons_self | with_reducible apply List.mem_cons_of_mem))) trees_nil))
      · refine op_to_string rfl Tryd.underlying25 Tryd.underlying5 Tryd.underlying9 rfl (hs.bytes (Has.mem m0 own_sliceAt)) (hK _ _ (cS _ _ hs (by (try dsimp only [List.set]); repeat (first | with_reducible exact List.mem_cons_self | with_reducible apply List.mem_cons_of_mem)) (by (try dsimp only [List.set]); repeat (first | with_reducible exact List.mem_cons_self | with_reducible apply List.mem_cons_of_mem)) (by (try dsimp only [List.set]); repeat (first | with_reducible exact List.mem_cons_self | with_reducible apply List.mem_cons_of_mem)) (by (try dsimp only [List.set]); repeat (first | with_reducible exact List.mem_cons_self | with_reducible apply List.mem_cons_of_mem))) ?_)
        clear hK K
        try go_simp
        refine tree_one_yes (o := _) rfl rfl (fun K hK => ?_) (cS _ _ hs (by (try dsimp only [List.set]); repeat (first | with_reducible exact List.mem_cons_self | with_reducible apply List.mem_cons_of_mem)) (by (try dsimp only [List.set]); repeat (first | with_reducible exact List.mem_cons_self | with_reducible apply List.mem_cons_of_mem)) (by (try dsimp only [List.set]); repeat (first | with_reducible exact List.mem_cons_self | with_reducible apply List.mem_cons_of_mem)) (by (try dsimp only [List.set]); repeat (first | with_reducible exact List.mem_cons_self | with_reducible apply List.mem_cons_of_mem)))
        try go_simp
        go_at_call 25
        refine (HRP.out _ _ hs (show Has _ (sliceAt (.slice As s.L.length cs) s.L.length 5 (csC s.L)) from (by (try dsimp only [List.set]); repeat (first | exact HV.out | apply Has.tail)))).mono ?_
        clear hs
        rintro e w5 ⟨rfl, hs⟩
        try go_simp
        refine hK _ _ (cS _ _ hs (by (try dsimp only [List.set]); repeat (first | with_reducible exact List.mem_cons_self | with_reducible apply List.mem_cons_of_mem)) (by (try dsimp only [List.set]); repeat (first | with_reducible exact List.mem_cons_self | with_reducible apply List.mem_cons_of_mem)) (by (try dsimp only [List.set]); repeat (first | with_reducible exact List.mem_cons_self | with_reducible apply List.mem_cons_of_mem)) (by (try dsimp only [List.set]); repeat (first | with_reducible exact List.mem_cons_self | with_reducible apply List.mem_cons_of_mem))) ?_
        clear hK K
        repeat (first
          | (with_reducible refine tree_load_agg (o := ⟨some 37, .load _ _, _, _, _, _⟩) (stC s (.slice A34 s.L.length c34)) rfl rfl rfl rfl ?_ ?_ r10 ?_; (kernel_rfl); (kernel_rfl))
          | (with_reducible refine tree_load_agg (o := ⟨some 40, .load _ _, _, _, _, _⟩) (stC s (.slice As s.L.length cs)) rfl rfl rfl rfl ?_ ?_ r2 ?_; (kernel_rfl); (kernel_rfl))
          | (with_reducible refine tree_load_agg (o := ⟨some 45, .load _ _, _, _, _, _⟩) (stC C (.slice A24 C.L.length c24)) rfl rfl rfl rfl ?_ ?_ r6 ?_; (kernel_rfl); (kernel_rfl))
          | (with_reducible refine tree_load_agg (o := ⟨some 47, .load _ _, _, _, _, _⟩) (stC C (.slice A30 C.L.length c30)) rfl rfl rfl rfl ?_ ?_ r8 ?_; (kernel_rfl); (kernel_rfl))
          | (with_reducible refine tree_load_agg (o := ⟨some 56, .load _ _, _, _, _, _⟩) (stC s (.slice A34 s.L.length c34)) rfl rfl rfl rfl ?_ ?_ r10 ?_; (kernel_rfl); (kernel_rfl))
          | (with_reducible refine tree_load_agg (o := ⟨some 58, .load _ _, _, _, _, _⟩) (stC s (.slice As s.L.length cs)) rfl rfl rfl rfl ?_ ?_ r2 ?_; (kernel_rfl); (kernel_rfl))
          | (with_reducible refine tree_load_agg (o := ⟨some 63, .load _ _, _, _, _, _⟩) (stC s (.slice A34 s.L.length c34)) rfl rfl rfl rfl ?_ ?_ r10 ?_; (kernel_rfl); (kernel_rfl))
          | (with_reducible refine tree_load_agg (o := ⟨some 66, .load _ _, _, _, _, _⟩) (stC s (.slice As s.L.length cs)) rfl rfl rfl rfl ?_ ?_ r2 ?_; (kernel_rfl); (kernel_rfl))
          | (with_reducible refine tree_load_agg (o := ⟨some 71, .load _ _, _, _, _, _⟩) (stC s (.slice A34 s.L.length c34)) rfl rfl rfl rfl ?_ ?_ r10 ?_; (kernel_rfl); (kernel_rfl))
          | (with_reducible refine tree_load_agg (o := ⟨some 73, .load _ _, _, _, _, _⟩) (stC s (.slice As s.L.length cs)) rfl rfl rfl rfl ?_ ?_ r2 ?_; (kernel_rfl); (kernel_rfl))
          | (refine tree_take rfl (fun K hK => ?_); go_simp; (first | with_reducible refine hK _ ?_ | (rw [if_neg (by decide)]; with_reducible refine hK _ ?_)); clear hK K))
        refine tree_one_yes (o := _) rfl rfl (fun K hK => ?_) (cS _ _ hs (by (try dsimp only [List.set]); repeat (first | with_reducible exact List.mem_cons_self | with_reducible apply List.mem_cons_of_mem)) (by (try dsimp only [List.set]); repeat (first | with_reducible exact List.mem_cons_self | with_reducible apply List.mem_cons_of_mem)) (by (try dsimp only [List.set]); repeat (first | with_reducible exact List.mem_cons_self | with_reducible apply List.mem_cons_of_mem)) (by (try dsimp only [List.set]); repeat (first | with_reducible exact List.mem_cons_self | with_reducible apply List.mem_cons_of_mem)))
        try go_simp
        go_at_call 18
        refine (HRC.out _ _ hs (.slice A24 C.L.length c24) (Has.of (A := own (.slice A24 C.L.length c24) 59 C.L.length 5 (csC C.L)) (by (try dsimp only [List.set]); repeat (first | with_reducible exact List.mem_cons_self | with_reducible apply List.mem_cons_of_mem)) own_sliceAt)).mono ?_
        clear hs
        rintro e w5 ⟨v46, rfl, hs⟩
        try go_simp
        refine hK _ _ (cS _ _ hs (by (try dsimp only [List.set]); repeat (first | with_reducible exact List.mem_cons_self | with_reducible apply List.mem_cons_of_mem)) (by (try dsimp only [List.set]); repeat (first | with_reducible exact List.mem_cons_self | with_reducible apply List.mem_cons_of_mem)) (by (try dsimp only [List.set]); repeat (first | with_reducible exact List.mem_cons_self | with_reducible apply List.mem_cons_of_mem)) (by (try dsimp only [List.set]); repeat (first | with_reducible exact List.mem_cons_self | with_reducible apply List.mem_cons_of_mem))) ?_
        clear hK K
        refine tree_one_yes (o := _) rfl rfl (fun K hK => ?_) (cS _ _ hs (by (try dsimp only [List.set]); repeat (first | with_reducible exact List.mem_cons_self | with_reducible apply List.mem_cons_of_mem)) (by (try dsimp only [List.set]); repeat (first | with_reducible exact List.mem_cons_self | with_reducible apply List.mem_cons_of_mem)) (by (try dsimp only [List.set]); repeat (first | with_reducible exact List.mem_cons_self | with_reducible apply List.mem_cons_of_mem)) (by (try dsimp only [List.set]); repeat (first | with_reducible exact List.mem_cons_self | with_reducible apply List.mem_cons_of_mem)))
        try go_simp
        go_at_call 17
        refine (HSC.out _ _ hs v46 (.slice A30 C.L.length c30) (Has.mem m0 own_sliceAt) (Has.of (A := own (.slice A30 C.L.length c30) 107 C.L.length 5 (csC C.L)) (by (try dsimp only [List.set]); repeat (first | with_reducible exact List.mem_cons_self | with_reducible apply List.mem_cons_of_mem)) own_sliceAt)).mono ?_
        clear hs
        rintro e w5 ⟨rfl, hs⟩
        try go_simp
        refine hK _ _ (cS _ _ hs (by (try dsimp only [List.set]); repeat (first | with_reducible exact List.mem_cons_self | with_reducible apply List.mem_cons_of_mem)) (by (try dsimp only [List.set]); repeat (first | with_reducible exact List.mem_cons_self | with_reducible apply List.mem_cons_of_mem)) (by (try dsimp only [List.set]); repeat (first | with_reducible exact List.mem_cons_self | with_reducible apply List.mem_cons_of_mem)) (by (try dsimp only [List.set]); repeat (first | with_reducible exact List.mem_cons_self | with_reducible apply List.mem_cons_of_mem))) ?_
        clear hK K
        repeat (first
          | (with_reducible refine tree_load_agg (o := ⟨some 37, .load _ _, _, _, _, _⟩) (stC s (.slice A34 s.L.length c34)) rfl rfl rfl rfl ?_ ?_ r10 ?_; (kernel_rfl); (kernel_rfl))
          | (with_reducible refine tree_load_agg (o := ⟨some 40, .load _ _, _, _, _, _⟩) (stC s (.slice As s.L.length cs)) rfl rfl rfl rfl ?_ ?_ r2 ?_; (kernel_rfl); (kernel_rfl))
          | (with_reducible refine tree_load_agg (o := ⟨some 45, .load _ _, _, _, _, _⟩) (stC C (.slice A24 C.L.length c24)) rfl rfl rfl rfl ?_ ?_ r6 ?_; (kernel_rfl); (kernel_rfl))
          | (with_reducible refine tree_load_agg (o := ⟨some 47, .load _ _, _, _, _, _⟩) (stC C (.slice A30 C.L.length c30)) rfl rfl rfl rfl ?_ ?_ r8 ?_; (kernel_rfl); (kernel_rfl))
          | (with_reducible refine tree_load_agg (o := ⟨some 56, .load _ _, _, _, _, _⟩) (stC s (.slice A34 s.L.length c34)) rfl rfl rfl rfl ?_ ?_ r10 ?_; (kernel_rfl); (kernel_rfl))
          | (with_reducible refine tree_load_agg (o := ⟨some 58, .load _ _, _, _, _, _⟩) (stC s (.slice As s.L.length cs)) rfl rfl rfl rfl ?_ ?_ r2 ?_; (kernel_rfl); (kernel_rfl))
          | (with_reducible refine tree_load_agg (o := ⟨some 63, .load _ _, _, _, _, _⟩) (stC s (.slice A34 s.L.length c34)) rfl rfl rfl rfl ?_ ?_ r10 ?_; (kernel_rfl); (kernel_rfl))
          | (with_reducible refine tree_load_agg (o := ⟨some 66, .load _ _, _, _, _, _⟩) (stC s (.slice As s.L.length cs)) rfl rfl rfl rfl ?_ ?_ r2 ?_; (kernel_rfl); (kernel_rfl))
          | (with_reducible refine tree_load_agg (o := ⟨some 71, .load _ _, _, _, _, _⟩) (stC s (.slice A34 s.L.length c34)) rfl rfl rfl rfl ?_ ?_ r10 ?_; (kernel_rfl); (kernel_rfl))
          | (with_reducible refine tree_load_agg (o := ⟨some 73, .load _ _, _, _, _, _⟩) (stC s (.slice As s.L.length cs)) rfl rfl rfl rfl ?_ ?_ r2 ?_; (kernel_rfl); (kernel_rfl))
          | (refine tree_take rfl (fun K hK => ?_); go_simp; (first | with_reducible refine hK _ ?_ | (rw [if_neg (by decide)]; with_reducible refine hK _ ?_)); clear hK K))
        refine tree_one_yes (o := _) rfl rfl (fun K hK => ?_) (cS _ _ hs (by (try dsimp only [List.set]); repeat (first | with_reducible exact List.mem_cons_self | with_reducible apply List.mem_cons_of_mem)) (by (try dsimp only [List.set]); repeat (first | with_reducible exact List.mem_cons_self | with_reducible apply List.mem_cons_of_mem)) (by (try dsimp only [List.set]); repeat (first | with_reducible exact List.mem_cons_self | with_reducible apply List.mem_cons_of_mem)) (by (try dsimp only [List.set]); repeat (first | with_reducible exact List.mem_cons_self | with_reducible apply List.mem_cons_of_mem)))
        try go_simp
        go_at_call 27
        refine (HG.out _ _ hs (.slice A34 s.L.length c34) (Has.of (A := own (.slice A34 s.L.length c34) 59 s.L.length 5 (csC s.L)) (by (try dsimp only [List.set]); repeat (first | with_reducible exact List.mem_cons_self | with_reducible apply List.mem_cons_of_mem)) own_sliceAt)).mono ?_
        clear hs
        rintro e w5 ⟨v57, rfl, hs⟩
        try go_simp
        refine hK _ _ (cS _ _ hs (by (try dsimp only [List.set]); repeat (first | with_reducible exact List.mem_cons_self | with_reducible apply List.mem_cons_of_mem)) (by (try dsimp only [List.set]); repeat (first | with_reducible exact List.mem_cons_self | with_reducible apply List.mem_cons_of_mem)) (by (try dsimp only [List.set]); repeat (first | with_reducible exact List.mem_cons_self | with_reducible apply List.mem_cons_of_mem)) (by (try dsimp only [List.set]); repeat (first | with_reducible exact List.mem_cons_self | with_reducible apply List.mem_cons_of_mem))) ?_
        clear hK K
        refine tree_one_yes (o := _) rfl rfl (fun K hK => ?_) (cS _ _ hs (by (try dsimp only [List.set]); repeat (first | with_reducible exact List.mem_cons_self | with_reducible apply List.mem_cons_of_mem)) (by (try dsimp only [List.set]); repeat (first | with_reducible exact List.mem_cons_self | with_reducible apply List.mem_cons_of_mem)) (by (try dsimp only [List.set]); repeat (first | with_reducible exact List.mem_cons_self | with_reducible apply List.mem_cons_of_mem)) (by (try dsimp only [List.set]); repeat (first | with_reducible exact List.mem_cons_self | with_reducible apply List.mem_cons_of_mem)))
        try go_simp
        go_at_call 28
        refine (HRG.out _ _ hs (show Has _ (sliceAt (.slice As s.L.length cs) s.L.length 5 (csC s.L)) from (by (try dsimp only [List.set]); repeat (first | exact HV.out | apply Has.tail)))).mono ?_
        clear hs
        rintro e w5 ⟨v59, rfl, hs⟩
        try go_simp
        refine hK _ _ (cS _ _ hs (by (try dsimp only [List.set]); repeat (first | with_reducible exact List.mem_cons_self | with_reducible apply List.mem_cons_of_mem)) (by (try dsimp only [List.set]); repeat (first | with_reducible exact List.mem_cons_self | with_reducible apply List.mem_cons_of_mem)) (by (try dsimp only [List.set]); repeat (first | with_reducible exact List.mem_cons_self | with_reducible apply List.mem_cons_of_mem)) (by (try dsimp only [List.set]); repeat (first | with_reducible exact List.mem_cons_self | with_reducible apply List.mem_cons_of_mem))) ?_
        clear hK K
        refine tree_one_yes (o := _) rfl rfl (fun K hK => ?_) (cS _ _ hs (by (try dsimp only [List.set]); repeat (first | with_reducible exact List.mem_cons_self | with_reducible apply List.mem_cons_of_mem)) (by (try dsimp only [List.set]); repeat (first | with_reducible exact List.mem_cons_self | with_reducible apply List.mem_cons_of_mem)) (by (try dsimp only [List.set]); repeat (first | with_reducible exact List.mem_cons_self | with_reducible apply List.mem_cons_of_mem)) (by (try dsimp only [List.set]); repeat (first | with_reducible exact List.mem_cons_self | with_reducible apply List.mem_cons_of_mem)))
        try go_simp
        go_at_call 26
        refine (HWS.out _ _ hs v57 v59 (Has.of (A := own v57 61 g.length 4 (wsC g)) (by (try dsimp only [List.set]); repeat (first | with_reducible exact List.mem_cons_self | with_reducible apply List.mem_cons_of_mem)) own_sliceAt) (Has.mem m0 own_sliceAt)).mono ?_
        clear hs
        rintro e w5 ⟨rfl, hs⟩
        try go_simp
        refine hK _ _ (cS _ _ hs (by (try dsimp only [List.set]); repeat (first | with_reducible exact List.mem_cons_self | with_reducible apply List.mem_cons_of_mem)) (by (try dsimp only [List.set]); repeat (first | with_reducible exact List.mem_cons_self | with_reducible apply List.mem_cons_of_mem)) (by (try dsimp only [List.set]); repeat (first | with_reducible exact List.mem_cons_self | with_reducible apply List.mem_cons_of_mem)) (by (try dsimp only [List.set]); repeat (first | with_reducible exact List.mem_cons_self | with_reducible apply List.mem_cons_of_mem))) ?_
        clear hK K
        repeat (first
          | (with_reducible refine tree_load_agg (o := ⟨some 37, .load _ _, _, _, _, _⟩) (stC s (.slice A34 s.L.length c34)) rfl rfl rfl rfl ?_ ?_ r10 ?_; (kernel_rfl); (kernel_rfl))
          | (with_reducible refine tree_load_agg (o := ⟨some 40, .load _ _, _, _, _, _⟩) (stC s (.slice As s.L.length cs)) rfl rfl rfl rfl ?_ ?_ r2 ?_; (kernel_rfl); (kernel_rfl))
          | (with_reducible refine tree_load_agg (o := ⟨some 45, .load _ _, _, _, _, _⟩) (stC C (.slice A24 C.L.length c24)) rfl rfl rfl rfl ?_ ?_ r6 ?_; (kernel_rfl); (kernel_rfl))
          | (with_reducible refine tree_load_agg (o := ⟨some 47, .load _ _, _, _, _, _⟩) (stC C (.slice A30 C.L.length c30)) rfl rfl rfl rfl ?_ ?_ r8 ?_; (kernel_rfl); (kernel_rfl))
          | (with_reducible refine tree_load_agg (o := ⟨some 56, .load _ _, _, _, _, _⟩) (stC s (.slice A34 s.L.length c34)) rfl rfl rfl rfl ?_ ?_ r10 ?_; (kernel_rfl); (kernel_rfl))
          | (with_reducible refine tree_load_agg (o := ⟨some 58, .load _ _, _, _, _, _⟩) (stC s (.slice As s.L.length cs)) rfl rfl rfl rfl ?_ ?_ r2 ?_; (kernel_rfl); (kernel_rfl))
          | (with_reducible refine tree_load_agg (o := ⟨some 63, .load _ _, _, _, _, _⟩) (stC s (.slice A34 s.L.length c34)) rfl rfl rfl rfl ?_ ?_ r10 ?_; (kernel_rfl); (kernel_rfl))
          | (with_reducible refine tree_load_agg (o := ⟨some 66, .load _ _, _, _, _, _⟩) (stC s (.slice As s.L.length cs)) rfl rfl rfl rfl ?_ ?_ r2 ?_; (kernel_rfl); (kernel_rfl))
          | (with_reducible refine tree_load_agg (o := ⟨some 71, .load _ _, _, _, _, _⟩) (stC s (.slice A34 s.L.length c34)) rfl rfl rfl rfl ?_ ?_ r10 ?_; (kernel_rfl); (kernel_rfl))
          | (with_reducible refine tree_load_agg (o := ⟨some 73, .load _ _, _, _, _, _⟩) (stC s (.slice As s.L.length cs)) rfl rfl rfl rfl ?_ ?_ r2 ?_; (kernel_rfl); (kernel_rfl))
          | (refine tree_take rfl (fun K hK => ?_); go_simp; (first | with_reducible refine hK _ ?_ | (rw [if_neg (by decide)]; with_reducible refine hK _ ?_)); clear hK K))
        refine tree_one_yes (o := _) rfl rfl (fun K hK => ?_) (cS _ _ hs (by (try dsimp only [List.set]); repeat (first | with_reducible exact List.mem_cons_self | with_reducible apply List.mem_cons_of_mem)) (by (try dsimp only [List.set]); repeat (first | with_reducible exact List.mem_cons_self | with_reducible apply List.mem_cons_of_mem)) (by (try dsimp only [List.set]); repeat (first | with_reducible exact List.mem_cons_self | with_reducible apply List.mem_cons_of_mem)) (by (try dsimp only [List.set]); repeat (first | with_reducible exact List.mem_cons_self | with_reducible apply List.mem_cons_of_mem)))
        try go_simp
        go_at_call 29
        refine (HF.out _ _ hs (.slice A34 s.L.length c34) (Has.of (A := own (.slice A34 s.L.length c34) 59 s.L.length 5 (csC s.L)) (by (try dsimp only [List.set]); repeat (first | with_reducible exact List.mem_cons_self | with_reducible apply List.mem_cons_of_mem)) own_sliceAt)).mono ?_
        clear hs
        rintro e w5 ⟨v64, rfl, hs⟩
        try go_simp
        refine hK _ _ (cS _ _ hs (by (try dsimp only [List.set]); repeat (first | with_reducible exact List.mem_cons_self | with_reducible apply List.mem_cons_of_mem)) (by (try dsimp only [List.set]); repeat (first | with_reducible exact List.mem_cons_self | with_reducible apply List.mem_cons_of_mem)) (by (try dsimp only [List.set]); repeat (first | with_reducible exact List.mem_cons_self | with_reducible apply List.mem_cons_of_mem)) (by (try dsimp only [List.set]); repeat (first | with_reducible exact List.mem_cons_self | with_reducible apply List.mem_cons_of_mem))) ?_
        clear hK K
        refine tree_one_yes (o := _) rfl rfl (fun K hK => ?_) (cS _ _ hs (by (try dsimp only [List.set]); repeat (first | with_reducible exact List.mem_cons_self | with_reducible apply List.mem_cons_of_mem)) (by (try dsimp only [List.set]); repeat (first | with_reducible exact List.mem_cons_self | with_reducible apply List.mem_cons_of_mem)) (by (try dsimp only [List.set]); repeat (first | with_reducible exact List.mem_cons_self | with_reducible apply List.mem_cons_of_mem)) (by (try dsimp only [List.set]); repeat (first | with_reducible exact List.mem_cons_self | with_reducible apply List.mem_cons_of_mem)))
        try go_simp
        go_at_call 18
        refine (HRF2.out _ _ hs v64 (Has.mem m0 own_sliceAt)).mono ?_
        clear hs
        rintro e w5 ⟨v65, rfl, hs⟩
        try go_simp
        refine hK _ _ (cS _ _ hs (by (try dsimp only [List.set]); repeat (first | with_reducible exact List.mem_cons_self | with_reducible apply List.mem_cons_of_mem)) (by (try dsimp only [List.set]); repeat (first | with_reducible exact List.mem_cons_self | with_reducible apply List.mem_cons_of_mem)) (by (try dsimp only [List.set]); repeat (first | with_reducible exact List.mem_cons_self | with_reducible apply List.mem_cons_of_mem)) (by (try dsimp only [List.set]); repeat (first | with_reducible exact List.mem_cons_self | with_reducible apply List.mem_cons_of_mem))) ?_
        clear hK K
        refine tree_one_yes (o := _) rfl rfl (fun K hK => ?_) (cS _ _ hs (by (try dsimp only [List.set]); repeat (first | with_reducible exact List.mem_cons_self | with_reducible apply List.mem_cons_of_mem)) (by (try dsimp only [List.set]); repeat (first | with_reducible exact List.mem_cons_self | with_reducible apply List.mem_cons_of_mem)) (by (try dsimp only [List.set]); repeat (first | with_reducible exact List.mem_cons_self | with_reducible apply List.mem_cons_of_mem)) (by (try dsimp only [List.set]); repeat (first | with_reducible exact List.mem_cons_self | with_reducible apply List.mem_cons_of_mem)))
        try go_simp
        go_at_call 30
        refine (HRF.out _ _ hs (show Has _ (sliceAt (.slice As s.L.length cs) s.L.length 5 (csC s.L)) from (by (try dsimp only [List.set]); repeat (first | exact HV.out | apply Has.tail)))).mono ?_
        clear hs
        rintro e w5 ⟨v67, rfl, hs⟩
        try go_simp
        refine hK _ _ (cS _ _ hs (by (try dsimp only [List.set]); repeat (first | with_reducible exact List.mem_cons_self | with_reducible apply List.mem_cons_of_mem)) (by (try dsimp only [List.set]); repeat (first | with_reducible exact List.mem_cons_self | with_reducible apply List.mem_cons_of_mem)) (by (try dsimp only [List.set]); repeat (first | with_reducible exact List.mem_cons_self | with_reducible apply List.mem_cons_of_mem)) (by (try dsimp only [List.set]); repeat (first | with_reducible exact List.mem_cons_self | with_reducible apply List.mem_cons_of_mem))) ?_
        clear hK K
        refine tree_one_yes (o := _) rfl rfl (fun K hK => ?_) (cS _ _ hs (by (try dsimp only [List.set]); repeat (first | with_reducible exact List.mem_cons_self | with_reducible apply List.mem_cons_of_mem)) (by (try dsimp only [List.set]); repeat (first | with_reducible exact List.mem_cons_self | with_reducible apply List.mem_cons_of_mem)) (by (try dsimp only [List.set]); repeat (first | with_reducible exact List.mem_cons_self | with_reducible apply List.mem_cons_of_mem)) (by (try dsimp only [List.set]); repeat (first | with_reducible exact List.mem_cons_self | with_reducible apply List.mem_cons_of_mem)))
        try go_simp
        go_at_call 17
        refine (HSF.out _ _ hs v65 v67 (Has.of (A := own v65 107 F.L.length 5 (csC F.L)) (by (try dsimp only [List.set]); repeat (first | with_reducible exact List.mem_cons_self | with_reducible apply List.mem_cons_of_mem)) own_sliceAt) (Has.mem m0 own_sliceAt)).mono ?_
        clear hs
        rintro e w5 ⟨rfl, hs⟩
        try go_simp
        refine hK _ _ (cS _ _ hs (by (try dsimp only [List.set]); repeat (first | with_reducible exact List.mem_cons_self | with_reducible apply List.mem_cons_of_mem)) (by (try dsimp only [List.set]); repeat (first | with_reducible exact List.mem_cons_self | with_reducible apply List.mem_cons_of_mem)) (by (try dsimp only [List.set]); repeat (first | with_reducible exact List.mem_cons_self | with_reducible apply List.mem_cons_of_mem)) (by (try dsimp only [List.set]); repeat (first | with_reducible exact List.mem_cons_self | with_reducible apply List.mem_cons_of_mem))) ?_
        clear hK K
        repeat (first
          | (with_reducible refine tree_load_agg (o := ⟨some 37, .load _ _, _, _, _, _⟩) (stC s (.slice A34 s.L.length c34)) rfl rfl rfl rfl ?_ ?_ r10 ?_; (kernel_rfl); (kernel_rfl))
          | (with_reducible refine tree_load_agg (o := ⟨some 40, .load _ _, _, _, _, _⟩) (stC s (.slice As s.L.length cs)) rfl rfl rfl rfl ?_ ?_ r2 ?_; (kernel_rfl); (kernel_rfl))
          | (with_reducible refine tree_load_agg (o := ⟨some 45, .load _ _, _, _, _, _⟩) (stC C (.slice A24 C.L.length c24)) rfl rfl rfl rfl ?_ ?_ r6 ?_; (kernel_rfl); (kernel_rfl))
          | (with_reducible refine tree_load_agg (o := ⟨some 47, .load _ _, _, _, _, _⟩) (stC C (.slice A30 C.L.length c30)) rfl rfl rfl rfl ?_ ?_ r8 ?_; (kernel_rfl); (kernel_rfl))
          | (with_reducible refine tree_load_agg (o := ⟨some 56, .load _ _, _, _, _, _⟩) (stC s (.slice A34 s.L.length c34)) rfl rfl rfl rfl ?_ ?_ r10 ?_; (kernel_rfl); (kernel_rfl))
          | (with_reducible refine tree_load_agg (o := ⟨some 58, .load _ _, _, _, _, _⟩) (stC s (.slice As s.L.length cs)) rfl rfl rfl rfl ?_ ?_ r2 ?_; (kernel_rfl); (kernel_rfl))
          | (with_reducible refine tree_load_agg (o := ⟨some 63, .load _ _, _, _, _, _⟩) (stC s (.slice A34 s.L.length c34)) rfl rfl rfl rfl ?_ ?_ r10 ?_; (kernel_rfl); (kernel_rfl))
          | (with_reducible refine tree_load_agg (o := ⟨some 66, .load _ _, _, _, _, _⟩) (stC s (.slice As s.L.length cs)) rfl rfl rfl rfl ?_ ?_ r2 ?_; (kernel_rfl); (kernel_rfl))
          | (with_reducible refine tree_load_agg (o := ⟨some 71, .load _ _, _, _, _, _⟩) (stC s (.slice A34 s.L.length c34)) rfl rfl rfl rfl ?_ ?_ r10 ?_; (kernel_rfl); (kernel_rfl))
          | (with_reducible refine tree_load_agg (o := ⟨some 73, .load _ _, _, _, _, _⟩) (stC s (.slice As s.L.length cs)) rfl rfl rfl rfl ?_ ?_ r2 ?_; (kernel_rfl); (kernel_rfl))
          | (refine tree_take rfl (fun K hK => ?_); go_simp; (first | with_reducible refine hK _ ?_ | (rw [if_neg (by decide)]; with_reducible refine hK _ ?_)); clear hK K))
        refine tree_one_yes (o := _) rfl rfl (fun K hK => ?_) (cS _ _ hs (by (try dsimp only [List.set]); repeat (first | with_reducible exact List.mem_cons_self | with_reducible apply List.mem_cons_of_mem)) (by (try dsimp only [List.set]); repeat (first | with_reducible exact List.mem_cons_self | with_reducible apply List.mem_cons_of_mem)) (by (try dsimp only [List.set]); repeat (first | with_reducible exact List.mem_cons_self | with_reducible apply List.mem_cons_of_mem)) (by (try dsimp only [List.set]); repeat (first | with_reducible exact List.mem_cons_self | with_reducible apply List.mem_cons_of_mem)))
        try go_simp
        go_at_call 18
        refine (HRS.out _ _ hs (.slice A34 s.L.length c34) (Has.of (A := own (.slice A34 s.L.length c34) 59 s.L.length 5 (csC s.L)) (by (try dsimp only [List.set]); repeat (first | with_reducible exact List.mem_cons_self | with_reducible apply List.mem_cons_of_mem)) own_sliceAt)).mono ?_
        clear hs
        rintro e w5 ⟨v72, rfl, hs⟩
        try go_simp
        refine hK _ _ (cS _ _ hs (by (try dsimp only [List.set]); repeat (first | with_reducible exact List.mem_cons_self | with_reducible apply List.mem_cons_of_mem)) (by (try dsimp only [List.set]); repeat (first | with_reducible exact List.mem_cons_self | with_reducible apply List.mem_cons_of_mem)) (by (try dsimp only [List.set]); repeat (first | with_reducible exact List.mem_cons_self | with_reducible apply List.mem_cons_of_mem)) (by (try dsimp only [List.set]); repeat (first | with_reducible exact List.mem_cons_self | with_reducible apply List.mem_cons_of_mem))) ?_
        clear hK K
        refine tree_one_yes (o := _) rfl rfl (fun K hK => ?_) (cS _ _ hs (by (try dsimp only [List.set]); repeat (first | with_reducible exact List.mem_cons_self | with_reducible apply List.mem_cons_of_mem)) (by (try dsimp only [List.set]); repeat (first | with_reducible exact List.mem_cons_self | with_reducible apply List.mem_cons_of_mem)) (by (try dsimp only [List.set]); repeat (first | with_reducible exact List.mem_cons_self | with_reducible apply List.mem_cons_of_mem)) (by (try dsimp only [List.set]); repeat (first | with_reducible exact List.mem_cons_self | with_reducible apply List.mem_cons_of_mem)))
        try go_simp
        go_at_call 17
        refine (HSS.out _ _ hs v72 (.slice As s.L.length cs) (Has.mem m0 own_sliceAt) (show Has _ (sliceAt (.slice As s.L.length cs) s.L.length 5 (csC s.L)) from (by (try dsimp only [List.set]); repeat (first | exact HV.out | apply Has.tail)))).mono ?_
        clear hs
        rintro e w5 ⟨rfl, hs⟩
        try go_simp
        refine hK _ _ (cS _ _ hs (by (try dsimp only [List.set]); repeat (first | with_reducible exact List.mem_cons_self | with_reducible apply List.mem_cons_of_mem)) (by (try dsimp only [List.set]); repeat (first | with_reducible exact List.mem_cons_self | with_reducible apply List.mem_cons_of_mem)) (by (try dsimp only [List.set]); repeat (first | with_reducible exact List.mem_cons_self | with_reducible apply List.mem_cons_of_mem)) (by (try dsimp only [List.set]); repeat (first | with_reducible exact List.mem_cons_self | with_reducible apply List.mem_cons_of_mem))) ?_
        clear hK K
        repeat (first
          | (with_reducible refine tree_load_agg (o := ⟨some 37, .load _ _, _, _, _, _⟩) (stC s (.slice A34 s.L.length c34)) rfl rfl rfl rfl ?_ ?_ r10 ?_; (kernel_rfl); (kernel_rfl))
          | (with_reducible refine tree_load_agg (o := ⟨some 40, .load _ _, _, _, _, _⟩) (stC s (.slice As s.L.length cs)) rfl rfl rfl rfl ?_ ?_ r2 ?_; (kernel_rfl); (kernel_rfl))
          | (with_reducible refine tree_load_agg (o := ⟨some 45, .load _ _, _, _, _, _⟩) (stC C (.slice A24 C.L.length c24)) rfl rfl rfl rfl ?_ ?_ r6 ?_; (kernel_rfl); (kernel_rfl))
          | (with_reducible refine tree_load_agg (o := ⟨some 47, .load _ _, _, _, _, _⟩) (stC C (.slice A30 C.L.length c30)) rfl rfl rfl rfl ?_ ?_ r8 ?_; (kernel_rfl); (kernel_rfl))
          | (with_reducible refine tree_load_agg (o := ⟨some 56, .load _ _, _, _, _, _⟩) (stC s (.slice A34 s.L.length c34)) rfl rfl rfl rfl ?_ ?_ r10 ?_; (kernel_rfl); (kernel_rfl))
          | (with_reducible refine tree_load_agg (o := ⟨some 58, .load _ _, _, _, _, _⟩) (stC s (.slice As s.L.length cs)) rfl rfl rfl rfl ?_ ?_ r2 ?_; (kernel_rfl); (kernel_rfl))
          | (with_reducible refine tree_load_agg (o := ⟨some 63, .load _ _, _, _, _, _⟩) (stC s (.slice A34 s.L.length c34)) rfl rfl rfl rfl ?_ ?_ r10 ?_; (kernel_rfl); (kernel_rfl))
          | (with_reducible refine tree_load_agg (o := ⟨some 66, .load _ _, _, _, _, _⟩) (stC s (.slice As s.L.length cs)) rfl rfl rfl rfl ?_ ?_ r2 ?_; (kernel_rfl); (kernel_rfl))
          | (with_reducible refine tree_load_agg (o := ⟨some 71, .load _ _, _, _, _, _⟩) (stC s (.slice A34 s.L.length c34)) rfl rfl rfl rfl ?_ ?_ r10 ?_; (kernel_rfl); (kernel_rfl))
          | (with_reducible refine tree_load_agg (o := ⟨some 73, .load _ _, _, _, _, _⟩) (stC s (.slice As s.L.length cs)) rfl rfl rfl rfl ?_ ?_ r2 ?_; (kernel_rfl); (kernel_rfl))
          | (refine tree_take rfl (fun K hK => ?_); go_simp; (first | with_reducible refine hK _ ?_ | (rw [if_neg (by decide)]; with_reducible refine hK _ ?_)); clear hK K))
        refine tree_done ?_
        clear hq
        go_wp2_with fail
        go_ret
        exact ⟨rfl, hs.pack (by repeat (first | with_reducible exact Pack.refl | with_reducible exact Pack.nil | with_reducible refine Pack.cons (by repeat (first | with_reducible exact Pick.here | with_reducible apply Pick.there)) ?_ | with_reducible apply Pack.drop))⟩
      · try go_simp
        go_at_call 25
        refine (HRP.out _ _ hs (show Has _ (sliceAt (.slice As s.L.length cs) s.L.length 5 (csC s.L)) from (by (try dsimp only [List.set]); repeat (first | exact HV.out | apply Has.tail)))).mono ?_
        clear hs
        rintro e w5 ⟨rfl, hs⟩
        try go_simp
        refine hK _ _ (cS _ _ hs (by (try dsimp only [List.set]); repeat (first | with_reducible exact List.mem_cons_self | with_reducible apply List.mem_cons_of_mem)) (by (try dsimp only [List.set]); repeat (first | with_reducible exact List.mem_cons_self | with_reducible apply List.mem_cons_of_mem)) (by (try dsimp only [List.set]); repeat (first | with_reducible exact List.mem_cons_self | with_reducible apply List.mem_cons_of_mem)) (by (try dsimp only [List.set]); repeat (first | with_reducible exact List.mem_cons_self | with_reducible apply List.mem_cons_of_mem))) ?_
        clear hK K
        refine tree_one_yes (o := _) rfl rfl (fun K hK => ?_) (cS _ _ hs (by (try dsimp only [List.set]); repeat (first | with_reducible exact List.mem_cons_self | with_reducible apply List.mem_cons_of_mem)) (by (try dsimp only [List.set]); repeat (first | with_reducible exact List.mem_cons_self | with_reducible apply List.mem_cons_of_mem)) (by (try dsimp only [List.set]); repeat (first | with_reducible exact List.mem_cons_self | with_reducible apply List.mem_cons_of_mem)) (by (try dsimp only [List.set]); repeat (first | with_reducible exact List.mem_cons_self | with_reducible apply List.mem_cons_of_mem)))
        refine op_to_string rfl Tryd.underlying25 Tryd.underlying5 Tryd.underlying9 rfl (hs.bytes (Has.mem m0 own_sliceAt)) (hK _ _ (cS _ _ hs (by (try dsimp only [List.set]); repeat (first | with_reducible exact List.mem_cons_self | with_reducible apply List.mem_cons_of_mem)) (by (try dsimp only [List.set]); repeat (first | with_reducible exact List.mem_cons_self | with_reducible apply List.mem_cons_of_mem)) (by (try dsimp only [List.set]); repeat (first | with_reducible exact List.mem_cons_self | with_reducible apply List.mem_cons_of_mem)) (by (try dsimp only [List.set]); repeat (first | with_reducible exact List.mem_cons_self | with_reducible apply List.mem_cons_of_mem))) ?_)
        clear hK K
        try go_simp
        repeat (first
          | (with_reducible refine tree_load_agg (o := ⟨some 37, .load _ _, _, _, _, _⟩) (stC s (.slice A34 s.L.length c34)) rfl rfl rfl rfl ?_ ?_ r10 ?_; (kernel_rfl); (kernel_rfl))
          | (with_reducible refine tree_load_agg (o := ⟨some 40, .load _ _, _, _, _, _⟩) (stC s (.slice As s.L.length cs)) rfl rfl rfl rfl ?_ ?_ r2 ?_; (kernel_rfl); (kernel_rfl))
          | (with_reducible refine tree_load_agg (o := ⟨some 45, .load _ _, _, _, _, _⟩) (stC C (.slice A24 C.L.length c24)) rfl rfl rfl rfl ?_ ?_ r6 ?_; (kernel_rfl); (kernel_rfl))
          | (with_reducible refine tree_load_agg (o := ⟨some 47, .load _ _, _, _, _, _⟩) (stC C (.slice A30 C.L.length c30)) rfl rfl rfl rfl ?_ ?_ r8 ?_; (kernel_rfl); (kernel_rfl))
          | (with_reducible refine tree_load_agg (o := ⟨some 56, .load _ _, _, _, _, _⟩) (stC s (.slice A34 s.L.length c34)) rfl rfl rfl rfl ?_ ?_ r10 ?_; (kernel_rfl); (kernel_rfl))
          | (with_reducible refine tree_load_agg (o := ⟨some 58, .load _ _, _, _, _, _⟩) (stC s (.slice As s.L.length cs)) rfl rfl rfl rfl ?_ ?_ r2 ?_; (kernel_rfl); (kernel_rfl))
          | (with_reducible refine tree_load_agg (o := ⟨some 63, .load _ _, _, _, _, _⟩) (stC s (.slice A34 s.L.length c34)) rfl rfl rfl rfl ?_ ?_ r10 ?_; (kernel_rfl); (kernel_rfl))
          | (with_reducible refine tree_load_agg (o := ⟨some 66, .load _ _, _, _, _, _⟩) (stC s (.slice As s.L.length cs)) rfl rfl rfl rfl ?_ ?_ r2 ?_; (kernel_rfl); (kernel_rfl))
          | (with_reducible refine tree_load_agg (o := ⟨some 71, .load _ _, _, _, _, _⟩) (stC s (.slice A34 s.L.length c34)) rfl rfl rfl rfl ?_ ?_ r10 ?_; (kernel_rfl); (kernel_rfl))
          | (with_reducible refine tree_load_agg (o := ⟨some 73, .load _ _, _, _, _, _⟩) (stC s (.slice As s.L.length cs)) rfl rfl rfl rfl ?_ ?_ r2 ?_; (kernel_rfl); (kernel_rfl))
          | (refine tree_take rfl (fun K hK => ?_); go_simp; (first | with_reducible refine hK _ ?_ | (rw [if_neg (by decide)]; with_reducible refine hK _ ?_)); clear hK K))
        refine tree_one_yes (o := _) rfl rfl (fun K hK => ?_) (cS _ _ hs (by (try dsimp only [List.set]); repeat (first | with_reducible exact List.mem_cons_self | with_reducible apply List.mem_cons_of_mem)) (by (try dsimp only [List.set]); repeat (first | with_reducible exact List.mem_cons_self | with_reducible apply List.mem_cons_of_mem)) (by (try dsimp only [List.set]); repeat (first | with_reducible exact List.mem_cons_self | with_reducible apply List.mem_cons_of_mem)) (by (try dsimp only [List.set]); repeat (first | with_reducible exact List.mem_cons_self | with_reducible apply List.mem_cons_of_mem)))
        try go_simp
        go_at_call 18
        refine (HRC.out _ _ hs (.slice A24 C.L.length c24) (Has.of (A := own (.slice A24 C.L.length c24) 59 C.L.length 5 (csC C.L)) (by (try dsimp only [List.set]); repeat (first | with_reducible exact List.mem_cons_self | with_reducible apply List.mem_cons_of_mem)) own_sliceAt)).mono ?_
        clear hs
        rintro e w5 ⟨v46, rfl, hs⟩
        try go_simp
        refine hK _ _ (cS _ _ hs (by (try dsimp only [List.set]); repeat (first | with_reducible exact List.mem_cons_self | with_reducible apply List.mem_cons_of_mem)) (by (try dsimp only [List.set]); repeat (first | with_reducible exact List.mem_cons_self | with_reducible apply List.mem_cons_of_mem)) (by (try dsimp only [List.set]); repeat (first | with_reducible exact List.mem_cons_self | with_reducible apply List.mem_cons_of_mem)) (by (try dsimp only [List.set]); repeat (first | with_reducible exact List.mem_cons_self | with_reducible apply List.mem_cons_of_mem))) ?_
        clear hK K
        refine tree_one_yes (o := _) rfl rfl (fun K hK => ?_) (cS _ _ hs (by (try dsimp only [List.set]); repeat (first | with_reducible exact List.mem_cons_self | with_reducible apply List.mem_cons_of_mem)) (by (try dsimp only [List.set]); repeat (first | with_reducible exact List.mem_cons_self | with_reducible apply List.mem_cons_of_mem)) (by (try dsimp only [List.set]); repeat (first | with_reducible exact List.mem_cons_self | with_reducible apply List.mem_cons_of_mem)) (by (try dsimp only [List.set]); repeat (first | with_reducible exact List.mem_cons_self | with_reducible apply List.mem_cons_of_mem)))
        try go_simp
        go_at_call 17
        refine (HSC.out _ _ hs v46 (.slice A30 C.L.length c30) (Has.mem m0 own_sliceAt) (Has.of (A := own (.slice A30 C.L.length c30) 107 C.L.length 5 (csC C.L)) (by (try dsimp only [List.set]); repeat (first | with_reducible exact List.mem_cons_self | with_reducible apply List.mem_cons_of_mem)) own_sliceAt)).mono ?_
        clear hs
        rintro e w5 ⟨rfl, hs⟩
        try go_simp
        refine hK _ _ (cS _ _ hs (by (try dsimp only [List.set]); repeat (first | with_reducible exact List.mem_cons_self | with_reducible apply List.mem_cons_of_mem)) (by (try dsimp only [List.set]); repeat (first | with_reducible exact List.mem_cons_self | with_reducible apply List.mem_cons_of_mem)) (by (try dsimp only [List.set]); repeat (first | with_reducible exact List.mem_cons_self | with_reducible apply List.mem_cons_of_mem)) (by (try dsimp only [List.set]); repeat (first | with_reducible exact List.mem_cons_self | with_reducible apply List.mem_cons_of_mem))) ?_
        clear hK K
        repeat (first
          | (with_reducible refine tree_load_agg (o := ⟨some 37, .load _ _, _, _, _, _⟩) (stC s (.slice A34 s.L.length c34)) rfl rfl rfl rfl ?_ ?_ r10 ?_; (kernel_rfl); (kernel_rfl))
          | (with_reducible refine tree_load_agg (o := ⟨some 40, .load _ _, _, _, _, _⟩) (stC s (.slice As s.L.length cs)) rfl rfl rfl rfl ?_ ?_ r2 ?_; (kernel_rfl); (kernel_rfl))
          | (with_reducible refine tree_load_agg (o := ⟨some 45, .load _ _, _, _, _, _⟩) (stC C (.slice A24 C.L.length c24)) rfl rfl rfl rfl ?_ ?_ r6 ?_; (kernel_rfl); (kernel_rfl))
          | (with_reducible refine tree_load_agg (o := ⟨some 47, .load _ _, _, _, _, _⟩) (stC C (.slice A30 C.L.length c30)) rfl rfl rfl rfl ?_ ?_ r8 ?_; (kernel_rfl); (kernel_rfl))
          | (with_reducible refine tree_load_agg (o := ⟨some 56, .load _ _, _, _, _, _⟩) (stC s (.slice A34 s.L.length c34)) rfl rfl rfl rfl ?_ ?_ r10 ?_; (kernel_rfl); (kernel_rfl))
          | (with_reducible refine tree_load_agg (o := ⟨some 58, .load _ _, _, _, _, _⟩) (stC s (.slice As s.L.length cs)) rfl rfl rfl rfl ?_ ?_ r2 ?_; (kernel_rfl); (kernel_rfl))
          | (with_reducible refine tree_load_agg (o := ⟨some 63, .load _ _, _, _, _, _⟩) (stC s (.slice A34 s.L.length c34)) rfl rfl rfl rfl ?_ ?_ r10 ?_; (kernel_rfl); (kernel_rfl))
          | (with_reducible refine tree_load_agg (o := ⟨some 66, .load _ _, _, _, _, _⟩) (stC s (.slice As s.L.length cs)) rfl rfl rfl rfl ?_ ?_ r2 ?_; (kernel_rfl); (kernel_rfl))
          | (with_reducible refine tree_load_agg (o := ⟨some 71, .load _ _, _, _, _, _⟩) (stC s (.slice A34 s.L.length c34)) rfl rfl rfl rfl ?_ ?_ r10 ?_; (kernel_rfl); (kernel_rfl))
          | (with_reducible refine tree_load_agg (o := ⟨some 73, .load _ _, _, _, _, _⟩) (stC s (.slice As s.L.length cs)) rfl rfl rfl rfl ?_ ?_ r2 ?_; (kernel_rfl); (kernel_rfl))
          | (refine tree_take rfl (fun K hK => ?_); go_simp; (first | with_reducible refine hK _ ?_ | (rw [if_neg (by decide)]; with_reducible refine hK _ ?_)); clear hK K))
        refine tree_one_yes (o := _) rfl rfl (fun K hK => ?_) (cS _ _ hs (by (try dsimp only [List.set]); repeat (first | with_reducible exact List.mem_cons_self | with_reducible apply List.mem_cons_of_mem)) (by (try dsimp only [List.set]); repeat (first | with_reducible exact List.mem_cons_self | with_reducible apply List.mem_cons_of_mem)) (by (try dsimp only [List.set]); repeat (first | with_reducible exact List.mem_cons_self | with_reducible apply List.mem_cons_of_mem)) (by (try dsimp only [List.set]); repeat (first | with_reducible exact List.mem_cons_self | with_reducible apply List.mem_cons_of_mem)))
        try go_simp
        go_at_call 27
        refine (HG.out _ _ hs (.slice A34 s.L.length c34) (Has.of (A := own (.slice A34 s.L.length c34) 59 s.L.length 5 (csC s.L)) (by (try dsimp only [List.set]); repeat (first | with_reducible exact List.mem_cons_self | with_reducible apply List.mem_cons_of_mem)) own_sliceAt)).mono ?_
        clear hs
        rintro e w5 ⟨v57, rfl, hs⟩
        try go_simp
        refine hK _ _ (cS _ _ hs (by (try dsimp only [List.set]); repeat (first | with_reducible exact List.mem_cons_self | with_reducible apply List.mem_cons_of_mem)) (by (try dsimp only [List.set]); repeat (first | with_reducible exact List.mem_cons_self | with_reducible apply List.mem_cons_of_mem)) (by (try dsimp only [List.set]); repeat (first | with_reducible exact List.mem_cons_self | with_reducible apply List.mem_cons_of_mem)) (by (try dsimp only [List.set]); repeat (first | with_reducible exact List.mem_cons_self | with_reducible apply List.mem_cons_of_mem))) ?_
        clear hK K
        refine tree_one_yes (o := _) rfl rfl (fun K hK => ?_) (cS _ _ hs (by (try dsimp only [List.set]); repeat (first | with_reducible exact List.mem_cons_self | with_reducible apply List.mem_cons_of_mem)) (by (try dsimp only [List.set]); repeat (first | with_reducible exact List.mem_cons_self | with_reducible apply List.mem_cons_of_mem)) (by (try dsimp only [List.set]); repeat (first | with_reducible exact List.mem_cons_self | with_reducible apply List.mem_cons_of_mem)) (by (try dsimp only [List.set]); repeat (first | with_reducible exact List.mem_cons_self | with_reducible apply List.mem_cons_of_mem)))
        try go_simp
        go_at_call 28
        refine (HRG.out _ _ hs (show Has _ (sliceAt (.slice As s.L.length cs) s.L.length 5 (csC s.L)) from (by (try dsimp only [List.set]); repeat (first | exact HV.out | apply Has.tail)))).mono ?_
        clear hs
        rintro e w5 ⟨v59, rfl, hs⟩
        try go_simp
        refine hK _ _ (cS _ _ hs (by (try dsimp only [List.set]); repeat (first | with_reducible exact List.mem_cons_self | with_reducible apply List.mem_cons_of_mem)) (by (try dsimp only [List.set]); repeat (first | with_reducible exact List.mem_cons_self | with_reducible apply List.mem_cons_of_mem)) (by (try dsimp only [List.set]); repeat (first | with_reducible exact List.mem_cons_self | with_reducible apply List.mem_cons_of_mem)) (by (try dsimp only [List.set]); repeat (first | with_reducible exact List.mem_cons_self | with_reducible apply List.mem_cons_of_mem))) ?_
        clear hK K
        refine tree_one_yes (o := _) rfl rfl (fun K hK => ?_) (cS _ _ hs (by (try dsimp only [List.set]); repeat (first | with_reducible exact List.mem_cons_self | with_reducible apply List.mem_cons_of_mem)) (by (try dsimp only [List.set]); repeat (first | with_reducible exact List.mem_cons_self | with_reducible apply List.mem_cons_of_mem)) (by (try dsimp only [List.set]); repeat (first | with_reducible exact List.mem_cons_self | with_reducible apply List.mem_cons_of_mem)) (by (try dsimp only [List.set]); repeat (first | with_reducible exact List.mem_cons_self | with_reducible apply List.mem_cons_of_mem)))
        try go_simp
        go_at_call 26
        refine (HWS.out _ _ hs v57 v59 (Has.of (A := own v57 61 g.length 4 (wsC g)) (by (try dsimp only [List.set]); repeat (first | with_reducible exact List.mem_cons_self | with_reducible apply List.mem_cons_of_mem)) own_sliceAt) (Has.mem m0 own_sliceAt)).mono ?_
        clear hs
        rintro e w5 ⟨rfl, hs⟩
        try go_simp
        refine hK _ _ (cS _ _ hs (by (try dsimp only [List.set]); repeat (first | with_reducible exact List.mem_cons_self | with_reducible apply List.mem_cons_of_mem)) (by (try dsimp only [List.set]); repeat (first | with_reducible exact List.mem_cons_self | with_reducible apply List.mem_cons_of_mem)) (by (try dsimp only [List.set]); repeat (first | with_reducible exact List.mem_cons_self | with_reducible apply List.mem_cons_of_mem)) (by (try dsimp only [List.set]); repeat (first | with_reducible exact List.mem_cons_self | with_reducible apply List.mem_cons_of_mem))) ?_
        clear hK K
        repeat (first
          | (with_reducible refine tree_load_agg (o := ⟨some 37, .load _ _, _, _, _, _⟩) (stC s (.slice A34 s.L.length c34)) rfl rfl rfl rfl ?_ ?_ r10 ?_; (kernel_rfl); (kernel_rfl))
          | (with_reducible refine tree_load_agg (o := ⟨some 40, .load _ _, _, _, _, _⟩) (stC s (.slice As s.L.length cs)) rfl rfl rfl rfl ?_ ?_ r2 ?_; (kernel_rfl); (kernel_rfl))
          | (with_reducible refine tree_load_agg (o := ⟨some 45, .load _ _, _, _, _, _⟩) (stC C (.slice A24 C.L.length c24)) rfl rfl rfl rfl ?_ ?_ r6 ?_; (kernel_rfl); (kernel_rfl))
          | (with_reducible refine tree_load_agg (o := ⟨some 47, .load _ _, _, _, _, _⟩) (stC C (.slice A30 C.L.length c30)) rfl rfl rfl rfl ?_ ?_ r8 ?_; (kernel_rfl); (kernel_rfl))
          | (with_reducible refine tree_load_agg (o := ⟨some 56, .load _ _, _, _, _, _⟩) (stC s (.slice A34 s.L.length c34)) rfl rfl rfl rfl ?_ ?_ r10 ?_; (kernel_rfl); (kernel_rfl))
          | (with_reducible refine tree_load_agg (o := ⟨some 58, .load _ _, _, _, _, _⟩) (stC s (.slice As s.L.length cs)) rfl rfl rfl rfl ?_ ?_ r2 ?_; (kernel_rfl); (kernel_rfl))
          | (with_reducible refine tree_load_agg (o := ⟨some 63, .load _ _, _, _, _, _⟩) (stC s (.slice A34 s.L.length c34)) rfl rfl rfl rfl ?_ ?_ r10 ?_; (kernel_rfl); (kernel_rfl))
          | (with_reducible refine tree_load_agg (o := ⟨some 66, .load _ _, _, _, _, _⟩) (stC s (.slice As s.L.length cs)) rfl rfl rfl rfl ?_ ?_ r2 ?_; (kernel_rfl); (kernel_rfl))
          | (with_reducible refine tree_load_agg (o := ⟨some 71, .load _ _, _, _, _, _⟩) (stC s (.slice A34 s.L.length c34)) rfl rfl rfl rfl ?_ ?_ r10 ?_; (kernel_rfl); (kernel_rfl))
          | (with_reducible refine tree_load_agg (o := ⟨some 73, .load _ _, _, _, _, _⟩) (stC s (.slice As s.L.length cs)) rfl rfl rfl rfl ?_ ?_ r2 ?_; (kernel_rfl); (kernel_rfl))
          | (refine tree_take rfl (fun K hK => ?_); go_simp; (first | with_reducible refine hK _ ?_ | (rw [if_neg (by decide)]; with_reducible refine hK _ ?_)); clear hK K))
        refine tree_one_yes (o := _) rfl rfl (fun K hK => ?_) (cS _ _ hs (by (try dsimp only [List.set]); repeat (first | with_reducible exact List.mem_cons_self | with_reducible apply List.mem_cons_of_mem)) (by (try dsimp only [List.set]); repeat (first | with_reducible exact List.mem_cons_self | with_reducible apply List.mem_cons_of_mem)) (by (try dsimp only [List.set]); repeat (first | with_reducible exact List.mem_cons_self | with_reducible apply List.mem_cons_of_mem)) (by (try dsimp only [List.set]); repeat (first | with_reducible exact List.mem_cons_self | with_reducible apply List.mem_cons_of_mem)))
        try go_simp
        go_at_call 29
        refine (HF.out _ _ hs (.slice A34 s.L.length c34) (Has.of (A := own (.slice A34 s.L.length c34) 59 s.L.length 5 (csC s.L)) (by (try dsimp only [List.set]); repeat (first | with_reducible exact List.mem_cons_self | with_reducible apply List.mem_cons_of_mem)) own_sliceAt)).mono ?_
        clear hs
        rintro e w5 ⟨v64, rfl, hs⟩
        try go_simp
        refine hK _ _ (cS _ _ hs (by (try dsimp only [List.set]); repeat (first | with_reducible exact List.mem_cons_self | with_reducible apply List.mem_cons_of_mem)) (by (try dsimp only [List.set]); repeat (first | with_reducible exact List.mem_cons_self | with_reducible apply List.mem_cons_of_mem)) (by (try dsimp only [List.set]); repeat (first | with_reducible exact List.mem_cons_self | with_reducible apply List.mem_cons_of_mem)) (by (try dsimp only [List.set]); repeat (first | with_reducible exact List.mem_cons_self | with_reducible apply List.mem_cons_of_mem))) ?_
        clear hK K
        refine tree_one_yes (o := _) rfl rfl (fun K hK => ?_) (cS _ _ hs (by (try dsimp only [List.set]); repeat (first | with_reducible exact List.mem_cons_self | with_reducible apply List.mem_cons_of_mem)) (by (try dsimp only [List.set]); repeat (first | with_reducible exact List.mem_cons_self | with_reducible apply List.mem_cons_of_mem)) (by (try dsimp only [List.set]); repeat (first | with_reducible exact List.mem_cons_self | with_reducible apply List.mem_cons_of_mem)) (by (try dsimp only [List.set]); repeat (first | with_reducible exact List.mem_cons_self | with_reducible apply List.mem_cons_of_mem)))
        try go_simp
        go_at_call 18
        refine (HRF2.out _ _ hs v64 (Has.mem m0 own_sliceAt)).mono ?_
        clear hs
        rintro e w5 ⟨v65, rfl, hs⟩
        try go_simp
        refine hK _ _ (cS _ _ hs (by (try dsimp only [List.set]); repeat (first | with_reducible exact List.mem_cons_self | with_reducible apply List.mem_cons_of_mem)) (by (try dsimp only [List.set]); repeat (first | with_reducible exact List.mem_cons_self | with_reducible apply List.mem_cons_of_mem)) (by (try dsimp only [List.set]); repeat (first | with_reducible exact List.mem_cons_self | with_reducible apply List.mem_cons_of_mem)) (by (try dsimp only [List.set]); repeat (first | with_reducible exact List.mem_cons_self | with_reducible apply List.mem_cons_of_mem))) ?_
        clear hK K
        refine tree_one_yes (o := _) rfl rfl (fun K hK => ?_) (cS _ _ hs (by (try dsimp only [List.set]); repeat (first | with_reducible exact List.mem_cons_self | with_reducible apply List.mem_cons_of_mem)) (by (try dsimp only [List.set]); repeat (first | with_reducible exact List.mem_cons_self | with_reducible apply List.mem_cons_of_mem)) (by (try dsimp only [List.set]); repeat (first | with_reducible exact List.mem_cons_self | with_reducible apply List.mem_cons_of_mem)) (by (try dsimp only [List.set]); repeat (first | with_reducible exact List.mem_cons_self | with_reducible apply List.mem_cons_of_mem)))
        try go_simp
        go_at_call 30
        refine (HRF.out _ _ hs (show Has _ (sliceAt (.slice As s.L.length cs) s.L.length 5 (csC s.L)) from (by (try dsimp only [List.set]); repeat (first | exact HV.out | apply Has.tail)))).mono ?_
        clear hs
        rintro e w5 ⟨v67, rfl, hs⟩
        try go_simp
        refine hK _ _ (cS _ _ hs (by (try dsimp only [List.set]); repeat (first | with_reducible exact List.mem_cons_self | with_reducible apply List.mem_cons_of_mem)) (by (try dsimp only [List.set]); repeat (first | with_reducible exact List.mem_cons_self | with_reducible apply List.mem_cons_of_mem)) (by (try dsimp only [List.set]); repeat (first | with_reducible exact List.mem_cons_self | with_reducible apply List.mem_cons_of_mem)) (by (try dsimp only [List.set]); repeat (first | with_reducible exact List.mem_cons_self | with_reducible apply List.mem_cons_of_mem))) ?_
        clear hK K
        refine tree_one_yes (o := _) rfl rfl (fun K hK => ?_) (cS _ _ hs (by (try dsimp only [List.set]); repeat (first | with_reducible exact List.mem_cons_self | with_reducible apply List.mem_cons_of_mem)) (by (try dsimp only [List.set]); repeat (first | with_reducible exact List.mem_cons_self | with_reducible apply List.mem_cons_of_mem)) (by (try dsimp only [List.set]); repeat (first | with_reducible exact List.mem_cons_self | with_reducible apply List.mem_cons_of_mem)) (by (try dsimp only [List.set]); repeat (first | with_reducible exact List.mem_cons_self | with_reducible apply List.mem_cons_of_mem)))
        try go_simp
        go_at_call 17
        refine (HSF.out _ _ hs v65 v67 (Has.of (A := own v65 107 F.L.length 5 (csC F.L)) (by (try dsimp only [List.set]); repeat (first | with_reducible exact List.mem_cons_self | with_reducible apply List.mem_cons_of_mem)) own_sliceAt) (Has.mem m0 own_sliceAt)).mono ?_
        clear hs
        rintro e w5 ⟨rfl, hs⟩
        try go_simp
        refine hK _ _ (cS _ _ hs (by (try dsimp only [List.set]); repeat (first | with_reducible exact List.mem_cons_self | with_reducible apply List.mem_cons_of_mem)) (by (try dsimp only [List.set]); repeat (first | with_reducible exact List.mem_cons_self | with_reducible apply List.mem_cons_of_mem)) (by (try dsimp only [List.set]); repeat (first | with_reducible exact List.mem_cons_self | with_reducible apply List.mem_cons_of_mem)) (by (try dsimp only [List.set]); repeat (first | with_reducible exact List.mem_cons_self | with_reducible apply List.mem_cons_of_mem))) ?_
        clear hK K
        repeat (first
          | (with_reducible refine tree_load_agg (o := ⟨some 37, .load _ _, _, _, _, _⟩) (stC s (.slice A34 s.L.length c34)) rfl rfl rfl rfl ?_ ?_ r10 ?_; (kernel_rfl); (kernel_rfl))
          | (with_reducible refine tree_load_agg (o := ⟨some 40, .load _ _, _, _, _, _⟩) (stC s (.slice As s.L.length cs)) rfl rfl rfl rfl ?_ ?_ r2 ?_; (kernel_rfl); (kernel_rfl))
          | (with_reducible refine tree_load_agg (o := ⟨some 45, .load _ _, _, _, _, _⟩) (stC C (.slice A24 C.L.length c24)) rfl rfl rfl rfl ?_ ?_ r6 ?_; (kernel_rfl); (kernel_rfl))
          | (with_reducible refine tree_load_agg (o := ⟨some 47, .load _ _, _, _, _, _⟩) (stC C (.slice A30 C.L.length c30)) rfl rfl rfl rfl ?_ ?_ r8 ?_; (kernel_rfl); (kernel_rfl))
          | (with_reducible refine tree_load_agg (o := ⟨some 56, .load _ _, _, _, _, _⟩) (stC s (.slice A34 s.L.length c34)) rfl rfl rfl rfl ?_ ?_ r10 ?_; (kernel_rfl); (kernel_rfl))
          | (with_reducible refine tree_load_agg (o := ⟨some 58, .load _ _, _, _, _, _⟩) (stC s (.slice As s.L.length cs)) rfl rfl rfl rfl ?_ ?_ r2 ?_; (kernel_rfl); (kernel_rfl))
          | (with_reducible refine tree_load_agg (o := ⟨some 63, .load _ _, _, _, _, _⟩) (stC s (.slice A34 s.L.length c34)) rfl rfl rfl rfl ?_ ?_ r10 ?_; (kernel_rfl); (kernel_rfl))
          | (with_reducible refine tree_load_agg (o := ⟨some 66, .load _ _, _, _, _, _⟩) (stC s (.slice As s.L.length cs)) rfl rfl rfl rfl ?_ ?_ r2 ?_; (kernel_rfl); (kernel_rfl))
          | (with_reducible refine tree_load_agg (o := ⟨some 71, .load _ _, _, _, _, _⟩) (stC s (.slice A34 s.L.length c34)) rfl rfl rfl rfl ?_ ?_ r10 ?_; (kernel_rfl); (kernel_rfl))
          | (with_reducible refine tree_load_agg (o := ⟨some 73, .load _ _, _, _, _, _⟩) (stC s (.slice As s.L.length cs)) rfl rfl rfl rfl ?_ ?_ r2 ?_; (kernel_rfl); (kernel_rfl))
          | (refine tree_take rfl (fun K hK => ?_); go_simp; (first | with_reducible refine hK _ ?_ | (rw [if_neg (by decide)]; with_reducible refine hK _ ?_)); clear hK K))
        refine tree_one_yes (o := _) rfl rfl (fun K hK => ?_) (cS _ _ hs (by (try dsimp only [List.set]); repeat (first | with_reducible exact List.mem_cons_self | with_reducible apply List.mem_cons_of_mem)) (by (try dsimp only [List.set]); repeat (first | with_reducible exact List.mem_cons_self | with_reducible apply List.mem_cons_of_mem)) (by (try dsimp only [List.set]); repeat (first | with_reducible exact List.mem_cons_self | with_reducible apply List.mem_cons_of_mem)) (by (try dsimp only [List.set]); repeat (first | with_reducible exact List.mem_cons_self | with_reducible apply List.mem_cons_of_mem)))
        try go_simp
        go_at_call 18
        refine (HRS.out _ _ hs (.slice A34 s.L.length c34) (Has.of (A := own (.slice A34 s.L.length c34) 59 s.L.length 5 (csC s.L)) (by (try dsimp only [List.set]); repeat (first | with_reducible exact List.mem_cons_self | with_reducible apply List.mem_cons_of_mem)) own_sliceAt)).mono ?_
        clear hs
        rintro e w5 ⟨v72, rfl, hs⟩
        try go_simp
        refine hK _ _ (cS _ _ hs (by (try dsimp only [List.set]); repeat (first | with_reducible exact List.mem_cons_self | with_reducible apply List.mem_cons_of_mem)) (by (try dsimp only [List.set]); repeat (first | with_reducible exact List.mem_cons_self | with_reducible apply List.mem_cons_of_mem)) (by (try dsimp only [List.set]); repeat (first | with_reducible exact List.mem_cons_self | with_reducible apply List.mem_cons_of_mem)) (by (try dsimp only [List.set]); repeat (first | with_reducible exact List.mem_cons_self | with_reducible apply List.mem_cons_of_mem))) ?_
        clear hK K
        refine tree_one_yes (o := _) rfl rfl (fun K hK => ?_) (cS _ _ hs (by (try dsimp only [List.set]); repeat (first | with_reducible exact List.mem_cons_self | with_reducible apply List.mem_cons_of_mem)) (by (try dsimp only [List.set]); repeat (first | with_reducible exact List.mem_cons_self | with_reducible apply List.mem_cons_of_mem)) (by (try dsimp only [List.set]); repeat (first | with_reducible exact List.mem_cons_self | with_reducible apply List.mem_cons_of_mem)) (by (try dsimp only [List.set]); repeat (first | with_reducible exact List.mem_cons_self | with_reducible apply List.mem_cons_of_mem)))
        try go_simp
        go_at_call 17
        refine (HSS.out _ _ hs v72 (.slice As s.L.length cs) (Has.mem m0 own_sliceAt) (show Has _ (sliceAt (.slice As s.L.length cs) s.L.length 5 (csC s.L)) from (by (try dsimp only [List.set]); repeat (first | exact HV.out | apply Has.tail)))).mono ?_
        clear hs
        rintro e w5 ⟨rfl, hs⟩
        try go_simp
        refine hK _ _ (cS _ _ hs (by (try dsimp only [List.set]); repeat (first | with_reducible exact List.mem_cons_self | with_reducible apply List.mem_cons_of_mem)) (by (try dsimp only [List.set]); repeat (first | with_reducible exact List.mem_cons_self | with_reducible apply List.mem_cons_of_mem)) (by (try dsimp only [List.set]); repeat (first | with_reducible exact List.mem_cons_self | with_reducible apply List.mem_cons_of_mem)) (by (try dsimp only [List.set]); repeat (first | with_reducible exact List.mem_cons_self | with_reducible apply List.mem_cons_of_mem))) ?_
        clear hK K
        repeat (first
          | (with_reducible refine tree_load_agg (o := ⟨some 37, .load _ _, _, _, _, _⟩) (stC s (.slice A34 s.L.length c34)) rfl rfl rfl rfl ?_ ?_ r10 ?_; (kernel_rfl); (kernel_rfl))
          | (with_reducible refine tree_load_agg (o := ⟨some 40, .load _ _, _, _, _, _⟩) (stC s (.slice As s.L.length cs)) rfl rfl rfl rfl ?_ ?_ r2 ?_; (kernel_rfl); (kernel_rfl))
          | (with_reducible refine tree_load_agg (o := ⟨some 45, .load _ _, _, _, _, _⟩) (stC C (.slice A24 C.L.length c24)) rfl rfl rfl rfl ?_ ?_ r6 ?_; (kernel_rfl); (kernel_rfl))
          | (with_reducible refine tree_load_agg (o := ⟨some 47, .load _ _, _, _, _, _⟩) (stC C (.slice A30 C.L.length c30)) rfl rfl rfl rfl ?_ ?_ r8 ?_; (kernel_rfl); (kernel_rfl))
          | (with_reducible refine tree_load_agg (o := ⟨some 56, .load _ _, _, _, _, _⟩) (stC s (.slice A34 s.L.length c34)) rfl rfl rfl rfl ?_ ?_ r10 ?_; (kernel_rfl); (kernel_rfl))
          | (with_reducible refine tree_load_agg (o := ⟨some 58, .load _ _, _, _, _, _⟩) (stC s (.slice As s.L.length cs)) rfl rfl rfl rfl ?_ ?_ r2 ?_; (kernel_rfl); (kernel_rfl))
          | (with_reducible refine tree_load_agg (o := ⟨some 63, .load _ _, _, _, _, _⟩) (stC s (.slice A34 s.L.length c34)) rfl rfl rfl rfl ?_ ?_ r10 ?_; (kernel_rfl); (kernel_rfl))
          | (with_reducible refine tree_load_agg (o := ⟨some 66, .load _ _, _, _, _, _⟩) (stC s (.slice As s.L.length cs)) rfl rfl rfl rfl ?_ ?_ r2 ?_; (kernel_rfl); (kernel_rfl))
          | (with_reducible refine tree_load_agg (o := ⟨some 71, .load _ _, _, _, _, _⟩) (stC s (.slice A34 s.L.length c34)) rfl rfl rfl rfl ?_ ?_ r10 ?_; (kernel_rfl); (kernel_rfl))
          | (with_reducible refine tree_load_agg (o := ⟨some 73, .load _ _, _, _, _, _⟩) (stC s (.slice As s.L.length cs)) rfl rfl rfl rfl ?_ ?_ r2 ?_; (kernel_rfl); (kernel_rfl))
          | (refine tree_take rfl (fun K hK => ?_); go_simp; (first | with_reducible refine hK _ ?_ | (rw [if_neg (by decide)]; with_reducible refine hK _ ?_)); clear hK K))
        refine tree_done ?_
        clear hq
        go_wp2_with fail
        go_ret
        exact ⟨rfl, hs.pack (by repeat (first | with_reducible exact Pack.refl | with_reducible exact Pack.nil | with_reducible refine Pack.cons (by repeat (first | with_reducible exact Pick.here | with_reducible apply Pick.there)) ?_ | with_reducible apply Pack.drop))⟩
    · have b60I : (2000 : Int) < (l.length : Int) := by omega
      go_enter Tryd.func7, Tryd.ntmps7
      go_wp2_with (first
        | (guard_target = wpList _ _ _ (⟨some 2, .box _ _, _, _, _, _⟩ :: _) _ _; refine wpl (o := ⟨some 2, .box _ _, _, _, _, _⟩) rfl fun K hK => ?_; go_must (refine op_box hs rfl _ rfl (stC s (.slice As s.L.length cs)) rfl fun b2 w1 h => hK _ _ ?_); clear hs hK K; have hs := h; clear h; try dsimp only [List.set] at hs)
        | (go_at_call 9; go_must (refine (HA.out _ _ hs (by (try dsimp only [List.set]); repeat (first | exact hold | apply List.mem_cons_of_mem))).mono ?_); clear hs; rintro e w1 ⟨rfl, hs⟩
           have k13 : w1.cell? ⟨b2, 3, none⟩ = some (.slice As s.L.length cs) := hs.cell (l := (stC s (.slice As s.L.length cs))) (t := 39) (by (try dsimp only [List.set]); repeat (first | with_reducible exact List.mem_cons_self | with_reducible apply List.mem_cons_of_mem)) rfl)
        | (guard_target = wpList _ _ _ (⟨some 13, .load _ _, _, _, _, _⟩ :: _) _ _; refine wpl (o := ⟨some 13, .load _ _, _, _, _, _⟩) rfl fun K hK => op_load rfl (ad := ⟨b2, 3, none⟩) rfl (by kernel_rfl) k13 (hK _ _ ?_); clear hK K))
      go_ret
      exact ⟨rfl, hs.pack (by repeat (first | with_reducible exact Pack.refl | with_reducible exact Pack.nil | with_reducible refine Pack.cons (by repeat (first | with_reducible exact Pick.here | with_reducible apply Pick.there)) ?_ | with_reducible apply Pack.drop))⟩
  · have h60I : (60 : Int) < (s.L.length : Int) := by omega
    go_enter Tryd.func7, Tryd.ntmps7
    go_wp2_with (first
      | (guard_target = wpList _ _ _ (⟨some 2, .box _ _, _, _, _, _⟩ :: _) _ _; refine wpl (o := ⟨some 2, .box _ _, _, _, _, _⟩) rfl fun K hK => ?_; go_must (refine op_box hs rfl _ rfl (stC s (.slice As s.L.length cs)) rfl fun b2 w1 h => hK _ _ ?_); clear hs hK K; have hs := h; clear h; try dsimp only [List.set] at hs)
      | (go_at_call 9; go_must (refine (HA.out _ _ hs (by (try dsimp only [List.set]); repeat (first | exact hold | apply List.mem_cons_of_mem))).mono ?_); clear hs; rintro e w1 ⟨rfl, hs⟩
         have k13 : w1.cell? ⟨b2, 3, none⟩ = some (.slice As s.L.length cs) := hs.cell (l := (stC s (.slice As s.L.length cs))) (t := 39) (by (try dsimp only [List.set]); repeat (first | with_reducible exact List.mem_cons_self | with_reducible apply List.mem_cons_of_mem)) rfl)
      | (guard_target = wpList _ _ _ (⟨some 13, .load _ _, _, _, _, _⟩ :: _) _ _; refine wpl (o := ⟨some 13, .load _ _, _, _, _, _⟩) rfl fun K hK => op_load rfl (ad := ⟨b2, 3, none⟩) rfl (by kernel_rfl) k13 (hK _ _ ?_); clear hK K))
    go_ret
    exact ⟨rfl, hs.pack (by repeat (first | with_reducible exact Pack.refl | with_reducible exact Pack.nil | with_reducible refine Pack.cons (by repeat (first | with_reducible exact Pick.here | with_reducible apply Pick.there)) ?_ | with_reducible apply Pack.drop))⟩
theorem redoStates_main (W : World) (hm : maxLenIs W) (s : RSt) (cs : List Value) (h0 : stKin.K (hp W) s cs) (l : List UInt8) (v : Value) (h1 : (Kin.slice 1 Kin.u8).K (hp W) l [v]) :
    Calls Tryd.prog 7 #[.agg cs.toArray, v] W fun e w' => e = .returned (.bool true) ∧ Below W.heap.size W w' := by
  obtain ⟨vs, rfl, k0, so⟩ := st_val h0
  obtain ⟨k2, hl⟩ := kin_bytes h1
  exact (redoStates_walk W W _ (Sat.start W) m0 hm s so l vs v (hasW m0 k0) (hasW m0 k2) hl).mono fun e w' ⟨he, hs⟩ => ⟨he, hs.end_ m0⟩
end Go.Proofs.YthjnefpnnifjiaaDoor
