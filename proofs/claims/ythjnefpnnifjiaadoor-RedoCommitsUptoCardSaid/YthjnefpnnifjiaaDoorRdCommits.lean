/- The law RedoCommits. -/
import Derived.Test.YthjnefpnnifjiaaDoorRdKin
import Derived.Test.YthjnefpnnifjiaaDoorRdTakeR2
import Derived.Test.YthjnefpnnifjiaaDoorRdPutR
import Derived.Test.YthjnefpnnifjiaaDoorRdRef3
set_option linter.unusedVariables false
set_option linter.unusedSimpArgs false
namespace Go.Proofs.YthjnefpnnifjiaaDoor
open Go.RowKit
theorem takeCm_len {l : List UInt8} {c : RCm} (h : takeCm l = some c) : c.W.length ≤ l.length := by
  obtain ⟨h1, h2, _, _, h5⟩ := takeCm_some h
  have h6 := rdWs_many (⟨l, false⟩ : Rd).int.2.num.1 (⟨l, false⟩ : Rd).int.2.num.2 [] (by rw [h1])
  have h7 := rdWs_len (⟨l, false⟩ : Rd).int.2.num.1 (⟨l, false⟩ : Rd).int.2.num.2 []
  have h8 := (⟨l, false⟩ : Rd).int.2.num_len
  have h9 := (⟨l, false⟩ : Rd).int_len
  have h10 : (⟨l, false⟩ : Rd).rest.length = l.length := rfl
  rw [h5]
  simp only [List.length_nil] at h7
  show (rdWs (⟨l, false⟩ : Rd).int.2.num.1 (⟨l, false⟩ : Rd).int.2.num.2 []).2.length ≤ _
  omega
theorem cmOf_len (l : List UInt8) : (cmOf (takeCm l)).W.length ≤ l.length := by
  cases e : takeCm l with
  | none => simp [cmOf]
  | some c => exact takeCm_len e
def cmtS (b2 : Nat) (c2 : List Value) (b6 : Nat) (c6 : List Value) (b8 : Nat) (c8 : List Value) (w : World) : Prop := w.rangeAt b2 0 c2 ∧ w.rangeAt b6 0 c6 ∧ w.rangeAt b8 0 c8
set_option maxRecDepth 100000 in
set_option maxHeartbeats 16000000 in
theorem redoCommits_walk (W w : World) (L : List HP) (hs : Sat W w L) (hold : old W ∈ L) (hm : maxLenIs W) (c : RCm) (hco : c.Small) (l : List UInt8) (vw vb : Value) (hvw : Has L (sliceAt vw c.W.length 4 (wsC c.W))) (hvb : Has L (bytesAt vb l)) (hlb : l.length ≤ 140737488351232) :
    Calls Tryd.prog 3 #[.agg (cmC c vw).toArray, vb] w fun e w' => e = .returned (.bool true) ∧ Sat W w' L := by
  obtain ⟨Aw, cw, rfl, _, _⟩ := slice_form (hs.slice hvw)
  obtain ⟨Ab, cb, rfl, _, _⟩ := slice_form (hs.bytes hvb)
  have HW := Box.mk hvw
  have HB := Box.mk hvb
  have HA := Box.mk (fun w (L : List HP) hs ho => awake20_spec W w L hs ho hm)
  have HOK := Box.mk hco.ok
  have hlw := hco.len
  have HM := Box.mk hm
  clear hvw hvb hm hco
  by_cases w60 : c.W.length ≤ 60
  · have w60I : ¬ (60 : Int) < (c.W.length : Int) := by omega
    by_cases b60 : l.length ≤ 2000
    · have b60I : ¬ (2000 : Int) < (l.length : Int) := by omega
      have HT := Box.mk (fun w (L : List HP) hs ho hv => take_spec W w L hs ho HM.out (.slice Ab l.length cb) l hv (by omega))
      have HRT := Box.mk (fun w (L : List HP) hs => rtake_spec W w L hs l (by omega))
      have HPU := Box.mk (fun w (L : List HP) hs ho hv => put_spec W w L hs ho HM.out c HOK.out (by omega) (.slice Aw c.W.length cw) hv)
      have HRP := Box.mk (fun w (L : List HP) hs hv => refput_spec W w L hs c HOK.out (by omega) (.slice Aw c.W.length cw) hv)
      have hCl := cmOf_len l
      generalize takeCm l = O at HT HRT hCl
      unfold takePost at HT HRT
      obtain ⟨C, hC⟩ : ∃ C, cmOf O = C := ⟨_, rfl⟩
      rw [hC] at hCl
      have hCt : (cmOf O).ts = C.ts := by rw [hC]
      have HCO := Box.mk hC
      rw [hCt] at HT HRT
      obtain ⟨k0, hk0⟩ : ∃ k0, codeOf O = k0 := ⟨_, rfl⟩
      rw [hk0] at HT HRT
      have HSM := Box.mk (fun w (L : List HP) hs u v hu hv => same_spec W w L hs C u v hu hv (by omega))
      obtain ⟨E, hE⟩ : ∃ E, encCm c = E := ⟨_, rfl⟩
      rw [hE] at HPU HRP
      clear hC hCt hk0 hE hCl
      go_enter Tryd.func3, Tryd.ntmps3
      go_wp2_with (first
        | (guard_target = wpList _ _ _ (⟨some 2, .box _ _, _, _, _, _⟩ :: _) _ _; refine wpl (o := ⟨some 2, .box _ _, _, _, _, _⟩) rfl fun K hK => ?_; go_must (refine op_box hs rfl _ rfl (cmC c (.slice Aw c.W.length cw)) rfl fun b2 w1 h => hK _ _ ?_); clear hs hK K; have hs := h; clear h; try dsimp only [List.set] at hs)
        | (go_at_call 9; go_must (refine (HA.out _ _ hs (by (try dsimp only [List.set]); repeat (first | exact hold | apply List.mem_cons_of_mem))).mono ?_); clear hs; rintro e w1 ⟨rfl, hs⟩
           have k12 : w1.cell? ⟨b2, 1, none⟩ = some (.slice Aw c.W.length cw) := hs.cell (l := (cmC c (.slice Aw c.W.length cw))) (t := 24) (by (try dsimp only [List.set]); repeat (first | with_reducible exact List.mem_cons_self | with_reducible apply List.mem_cons_of_mem)) rfl)
        | (guard_target = wpList _ _ _ (⟨some 12, .load _ _, _, _, _, _⟩ :: _) _ _; refine wpl (o := ⟨some 12, .load _ _, _, _, _, _⟩) rfl fun K hK => op_load rfl (ad := ⟨b2, 1, none⟩) rfl (by kernel_rfl) k12 (hK _ _ ?_); clear hK K)
        | (go_at_call 10; go_must (refine (HT.out _ _ hs (by (try dsimp only [List.set]); repeat (first | exact hold | apply List.mem_cons_of_mem)) (show Has _ (bytesAt (.slice Ab l.length cb) l) from (by (try dsimp only [List.set]); repeat (first | exact HB.out | apply Has.tail)))).mono ?_); clear hs; rintro e w1 ⟨v23, rfl, hs⟩
           rw [HCO.out] at hs
           obtain ⟨A23, c23, rfl, _, _⟩ := own_slice hs (i := 0) rfl)
        | (guard_target = wpList _ _ _ (⟨some 6, .alloc _, _, _, _, _⟩ :: _) _ _; refine wpl (o := ⟨some 6, .alloc _, _, _, _, _⟩) rfl fun K hK => ?_; go_must (refine op_alloc hs rfl _ zcommit [Value.int .i64 0, .slice none 0 0] rfl fun b6 w1 h => hK _ _ ?_); clear hs hK K; have hs := h; clear h; try dsimp only [List.set] at hs)
        | (guard_target = wpList _ _ _ (⟨none, .store _ (.tmp 6) _, _, _, _, _⟩ :: _) _ _; refine wpl (o := ⟨none, .store _ (.tmp 6) _, _, _, _, _⟩) rfl fun K hK => ?_; go_must (refine op_store_whole hs (b := b6) rfl rfl (cmC C (.slice A23 C.W.length c23)) rfl (by simp [cmC, Value.oneCell']) (by kernel_rfl) (k := 0) rfl rfl fun w3 h => hK _ _ ?_); clear hs hK K; have hs := h; clear h; try dsimp only [List.set] at hs)
        | (guard_target = wpList _ _ _ (⟨some 28, .convert _ _ _, _, _, _, _⟩ :: _) _ _; refine wpl (o := ⟨some 28, .convert _ _ _, _, _, _, _⟩) rfl fun K hK => ?_; go_must (refine op_to_string rfl Tryd.underlying25 Tryd.underlying5 Tryd.underlying9 rfl (hs.bytes (show Has _ (bytesAt (.slice Ab l.length cb) l) from (by (try dsimp only [List.set]); repeat (first | exact HB.out | apply Has.tail)))) (hK _ _ ?_)); clear hK K)
        | (go_at_call 11; go_must (refine (HRT.out _ _ hs).mono ?_); clear hs; rintro e w1 ⟨v29, rfl, hs⟩
           rw [HCO.out] at hs
           obtain ⟨A29, c29, rfl, _, _⟩ := own_slice hs (i := 0) rfl)
        | (guard_target = wpList _ _ _ (⟨some 8, .alloc _, _, _, _, _⟩ :: _) _ _; refine wpl (o := ⟨some 8, .alloc _, _, _, _, _⟩) rfl fun K hK => ?_; go_must (refine op_alloc hs rfl _ zcommit [Value.int .i64 0, .slice none 0 0] rfl fun b8 w1 h => hK _ _ ?_); clear hs hK K; have hs := h; clear h; try dsimp only [List.set] at hs)
        | (guard_target = wpList _ _ _ (⟨none, .store _ (.tmp 8) _, _, _, _, _⟩ :: _) _ _; refine wpl (o := ⟨none, .store _ (.tmp 8) _, _, _, _, _⟩) rfl fun K hK => ?_; go_must (refine op_store_whole hs (b := b8) rfl rfl (cmC C (.slice A29 C.W.length c29)) rfl (by simp [cmC, Value.oneCell']) (by kernel_rfl) (k := 0) rfl rfl fun w3 h => hK _ _ ?_); clear hs hK K; have hs := h; clear h; try dsimp only [List.set] at hs))
      have cS : ∀ w M, Sat W w M → row b2 (cmC c (.slice Aw c.W.length cw)) 24 ∈ M → row b6 (cmC C (.slice A23 C.W.length c23)) 24 ∈ M → row b8 (cmC C (.slice A29 C.W.length c29)) 24 ∈ M → (cmtS b2 (cmC c (.slice Aw c.W.length cw)) b6 (cmC C (.slice A23 C.W.length c23)) b8 (cmC C (.slice A29 C.W.length c29))) w := fun w M h h1 h2 h3 => ⟨range_whole h h1, range_whole h h2, range_whole h h3⟩
      have r2 : ∀ w, (cmtS b2 (cmC c (.slice Aw c.W.length cw)) b6 (cmC C (.slice A23 C.W.length c23)) b8 (cmC C (.slice A29 C.W.length c29))) w → w.rangeAt b2 0 (cmC c (.slice Aw c.W.length cw)) := fun w h => h.1
      have r6 : ∀ w, (cmtS b2 (cmC c (.slice Aw c.W.length cw)) b6 (cmC C (.slice A23 C.W.length c23)) b8 (cmC C (.slice A29 C.W.length c29))) w → w.rangeAt b6 0 (cmC C (.slice A23 C.W.length c23)) := fun w h => h.2.1
      have r8 : ∀ w, (cmtS b2 (cmC c (.slice Aw c.W.length cw)) b6 (cmC C (.slice A23 C.W.length c23)) b8 (cmC C (.slice A29 C.W.length c29))) w → w.rangeAt b8 0 (cmC C (.slice A29 C.W.length c29)) := fun w h => h.2.2
      have hS0 := cS _ _ hs.drew (by (try dsimp only [List.set]); repeat (first | with_reducible exact List.mem_cons_self | with_reducible apply List.mem_cons_of_mem)) (by (try dsimp only [List.set]); repeat (first | with_reducible exact List.mem_cons_self | with_reducible apply List.mem_cons_of_mem)) (by (try dsimp only [List.set]); repeat (first | with_reducible exact List.mem_cons_self | with_reducible apply List.mem_cons_of_mem))
      refine wp_region_tree ((cmtS b2 (cmC c (.slice Aw c.W.length cw)) b6 (cmC C (.slice A23 C.W.length c23)) b8 (cmC C (.slice A29 C.W.length c29)))) (.take 0 (.take 1 (.take 2 (.take 5 (.all [(3, .all [(4, .all [(6, .take 7 (.take 8 (.take 9 (.take 10 (.take 11 (.all [(12, .take 13 (.take 14 (.take 15 (.take 16 (.take 17 (.take 18 (.take 19 (DTree.done))))))))]))))))]), (6, .all [(4, .take 7 (.take 8 (.take 9 (.take 10 (.take 11 (.all [(12, .take 13 (.take 14 (.take 15 (.take 16 (.take 17 (.take 18 (.take 19 (DTree.done))))))))]))))))])])]))))) (by kernel_rfl) (by kernel_rfl) (by kernel_rfl) (fun _ _ d _ _ h => by cases d <;> exact h) hS0 ?_
      have hs' := hs.drew
      clear hs
      have hs := hs'
      clear hs'
      have hq := fun p : Prop => class_const hS0 p
      clear hS0
      repeat (first
        | (with_reducible refine tree_load_agg (o := ⟨some 34, .load _ _, _, _, _, _⟩) (cmC c (.slice Aw c.W.length cw)) rfl rfl rfl rfl ?_ ?_ r2 ?_; (kernel_rfl); (kernel_rfl))
        | (with_reducible refine tree_load_agg (o := ⟨some 37, .load _ _, _, _, _, _⟩) (cmC c (.slice Aw c.W.length cw)) rfl rfl rfl rfl ?_ ?_ r2 ?_; (kernel_rfl); (kernel_rfl))
        | (with_reducible refine tree_load_agg (o := ⟨some 42, .load _ _, _, _, _, _⟩) (cmC C (.slice A23 C.W.length c23)) rfl rfl rfl rfl ?_ ?_ r6 ?_; (kernel_rfl); (kernel_rfl))
        | (with_reducible refine tree_load_agg (o := ⟨some 43, .load _ _, _, _, _, _⟩) (cmC C (.slice A29 C.W.length c29)) rfl rfl rfl rfl ?_ ?_ r8 ?_; (kernel_rfl); (kernel_rfl))
        | (refine tree_take rfl (fun K hK => ?_); go_simp; (first | with_reducible refine hK _ ?_ | (rw [if_neg (by decide)]; with_reducible refine hK _ ?_)); clear hK K))
      refine tree_one_yes (o := _) rfl rfl (fun K hK => ?_) (cS _ _ hs (by (try dsimp only [List.set]); repeat (first | with_reducible exact List.mem_cons_self | with_reducible apply List.mem_cons_of_mem)) (by (try dsimp only [List.set]); repeat (first | with_reducible exact List.mem_cons_self | with_reducible apply List.mem_cons_of_mem)) (by (try dsimp only [List.set]); repeat (first | with_reducible exact List.mem_cons_self | with_reducible apply List.mem_cons_of_mem)))
      try go_simp
      go_at_call 12
      refine (HPU.out _ _ hs (by (try dsimp only [List.set]); repeat (first | exact hold | apply List.mem_cons_of_mem)) (show Has _ (sliceAt (.slice Aw c.W.length cw) c.W.length 4 (wsC c.W)) from (by (try dsimp only [List.set]); repeat (first | exact HW.out | apply Has.tail)))).mono ?_
      clear hs
      rintro e w5 ⟨v35, rfl, hs⟩
      obtain ⟨A35, c35, rfl, _, _⟩ := own_slice hs (i := 0) rfl
      try go_simp
      refine hK _ _ (cS _ _ hs (by (try dsimp only [List.set]); repeat (first | with_reducible exact List.mem_cons_self | with_reducible apply List.mem_cons_of_mem)) (by (try dsimp only [List.set]); repeat (first | with_reducible exact List.mem_cons_self | with_reducible apply List.mem_cons_of_mem)) (by (try dsimp only [List.set]); repeat (first | with_reducible exact List.mem_cons_self | with_reducible apply List.mem_cons_of_mem))) ?_
      clear hK K
      refine tree_all (trees_cons_yes (o := _) rfl rfl (fun K hK => ?_) (cS _ _ hs (by (try dsimp only [List.set]); repeat (first | with_reducible exact List.mem_cons_self | with_reducible apply List.mem_cons_of_mem)) (by (try dsimp only [List.set]); repeat (first | with_reducible exact List.mem_cons_self | with_reducible apply List.mem_cons_of_mem)) (by (try dsimp only [List.set]); repeat (first | with_reducible exact List.mem_cons_self | with_reducible apply List.mem_cons_of_mem))) (trees_cons_yes (o := _) rfl rfl (fun K hK => ?_) (cS _ _ hs (by (try dsimp only [List.set]); repeat (first | with_reducible exact List.mem_cons_self | with_reducible apply List.mem_cons_of_mem)) (by (try dsimp only [List.set]); repeat (first | with_reducible exact List.mem_cons_self | with_reducible apply List.mem_cons_of_mem)) (by (try dsimp only [List.set]); repeat (first | with_reducible exact List.mem_cons_self | with_reducible apply List.mem_cons_of_mem))) trees_nil))
      · refine op_to_string rfl Tryd.underlying25 Tryd.underlying5 Tryd.underlying9 rfl (hs.bytes (Has.mem m0 own_sliceAt)) (hK _ _ (cS _ _ hs (by (try dsimp only [List.set]); repeat (first | with_reducible exact List.mem_cons_self | with_reducible apply List.mem_cons_of_mem)) (by (try dsimp only [List.set]); repeat (first | with_reducible exact List.mem_cons_self | with_reducible apply List.mem_cons_of_mem)) (by (try dsimp only [List.set]); repeat (first | with_reducible exact List.mem_cons_self | with_reducible apply List.mem_cons_of_mem))) ?_)
        clear hK K
        try go_simp
        refine tree_one_yes (o := _) rfl rfl (fun K hK => ?_) (cS _ _ hs (by (try dsimp only [List.set]); repeat (first | with_reducible exact List.mem_cons_self | with_reducible apply List.mem_cons_of_mem)) (by (try dsimp only [List.set]); repeat (first | with_reducible exact List.mem_cons_self | with_reducible apply List.mem_cons_of_mem)) (by (try dsimp only [List.set]); repeat (first | with_reducible exact List.mem_cons_self | with_reducible apply List.mem_cons_of_mem)))
        try go_simp
        go_at_call 13
        refine (HRP.out _ _ hs (show Has _ (sliceAt (.slice Aw c.W.length cw) c.W.length 4 (wsC c.W)) from (by (try dsimp only [List.set]); repeat (first | exact HW.out | apply Has.tail)))).mono ?_
        clear hs
        rintro e w5 ⟨rfl, hs⟩
        try go_simp
        refine hK _ _ (cS _ _ hs (by (try dsimp only [List.set]); repeat (first | with_reducible exact List.mem_cons_self | with_reducible apply List.mem_cons_of_mem)) (by (try dsimp only [List.set]); repeat (first | with_reducible exact List.mem_cons_self | with_reducible apply List.mem_cons_of_mem)) (by (try dsimp only [List.set]); repeat (first | with_reducible exact List.mem_cons_self | with_reducible apply List.mem_cons_of_mem))) ?_
        clear hK K
        repeat (first
          | (with_reducible refine tree_load_agg (o := ⟨some 34, .load _ _, _, _, _, _⟩) (cmC c (.slice Aw c.W.length cw)) rfl rfl rfl rfl ?_ ?_ r2 ?_; (kernel_rfl); (kernel_rfl))
          | (with_reducible refine tree_load_agg (o := ⟨some 37, .load _ _, _, _, _, _⟩) (cmC c (.slice Aw c.W.length cw)) rfl rfl rfl rfl ?_ ?_ r2 ?_; (kernel_rfl); (kernel_rfl))
          | (with_reducible refine tree_load_agg (o := ⟨some 42, .load _ _, _, _, _, _⟩) (cmC C (.slice A23 C.W.length c23)) rfl rfl rfl rfl ?_ ?_ r6 ?_; (kernel_rfl); (kernel_rfl))
          | (with_reducible refine tree_load_agg (o := ⟨some 43, .load _ _, _, _, _, _⟩) (cmC C (.slice A29 C.W.length c29)) rfl rfl rfl rfl ?_ ?_ r8 ?_; (kernel_rfl); (kernel_rfl))
          | (refine tree_take rfl (fun K hK => ?_); go_simp; (first | with_reducible refine hK _ ?_ | (rw [if_neg (by decide)]; with_reducible refine hK _ ?_)); clear hK K))
        refine tree_one_yes (o := _) rfl rfl (fun K hK => ?_) (cS _ _ hs (by (try dsimp only [List.set]); repeat (first | with_reducible exact List.mem_cons_self | with_reducible apply List.mem_cons_of_mem)) (by (try dsimp only [List.set]); repeat (first | with_reducible exact List.mem_cons_self | with_reducible apply List.mem_cons_of_mem)) (by (try dsimp only [List.set]); repeat (first | with_reducible exact List.mem_cons_self | with_reducible apply List.mem_cons_of_mem)))
        try go_simp
        go_at_call 14
        refine (HSM.out _ _ hs (.slice A23 C.W.length c23) (.slice A29 C.W.length c29) (Has.of (A := own (.slice A23 C.W.length c23) 61 C.W.length 4 (wsC C.W)) (by (try dsimp only [List.set]); repeat (first | with_reducible exact List.mem_cons_self | with_reducible apply List.mem_cons_of_mem)) own_sliceAt) (Has.of (A := own (.slice A29 C.W.length c29) 61 C.W.length 4 (wsC C.W)) (by (try dsimp only [List.set]); repeat (first | with_reducible exact List.mem_cons_self | with_reducible apply List.mem_cons_of_mem)) own_sliceAt)).mono ?_
        clear hs
        rintro e w5 ⟨rfl, hs⟩
        try go_simp
        refine hK _ _ (cS _ _ hs (by (try dsimp only [List.set]); repeat (first | with_reducible exact List.mem_cons_self | with_reducible apply List.mem_cons_of_mem)) (by (try dsimp only [List.set]); repeat (first | with_reducible exact List.mem_cons_self | with_reducible apply List.mem_cons_of_mem)) (by (try dsimp only [List.set]); repeat (first | with_reducible exact List.mem_cons_self | with_reducible apply List.mem_cons_of_mem))) ?_
        clear hK K
        repeat (first
          | (with_reducible refine tree_load_agg (o := ⟨some 34, .load _ _, _, _, _, _⟩) (cmC c (.slice Aw c.W.length cw)) rfl rfl rfl rfl ?_ ?_ r2 ?_; (kernel_rfl); (kernel_rfl))
          | (with_reducible refine tree_load_agg (o := ⟨some 37, .load _ _, _, _, _, _⟩) (cmC c (.slice Aw c.W.length cw)) rfl rfl rfl rfl ?_ ?_ r2 ?_; (kernel_rfl); (kernel_rfl))
          | (with_reducible refine tree_load_agg (o := ⟨some 42, .load _ _, _, _, _, _⟩) (cmC C (.slice A23 C.W.length c23)) rfl rfl rfl rfl ?_ ?_ r6 ?_; (kernel_rfl); (kernel_rfl))
          | (with_reducible refine tree_load_agg (o := ⟨some 43, .load _ _, _, _, _, _⟩) (cmC C (.slice A29 C.W.length c29)) rfl rfl rfl rfl ?_ ?_ r8 ?_; (kernel_rfl); (kernel_rfl))
          | (refine tree_take rfl (fun K hK => ?_); go_simp; (first | with_reducible refine hK _ ?_ | (rw [if_neg (by decide)]; with_reducible refine hK _ ?_)); clear hK K))
        refine tree_done ?_
        clear hq
        go_wp2_with fail
        go_ret
        exact ⟨rfl, hs.pack (by repeat (first | with_reducible exact Pack.refl | with_reducible exact Pack.nil | with_reducible refine Pack.cons (by repeat (first | with_reducible exact Pick.here | with_reducible apply Pick.there)) ?_ | with_reducible apply Pack.drop))⟩
      · try go_simp
        go_at_call 13
        refine (HRP.out _ _ hs (show Has _ (sliceAt (.slice Aw c.W.length cw) c.W.length 4 (wsC c.W)) from (by (try dsimp only [List.set]); repeat (first | exact HW.out | apply Has.tail)))).mono ?_
        clear hs
        rintro e w5 ⟨rfl, hs⟩
        try go_simp
        refine hK _ _ (cS _ _ hs (by (try dsimp only [List.set]); repeat (first | with_reducible exact List.mem_cons_self | with_reducible apply List.mem_cons_of_mem)) (by (try dsimp only [List.set]); repeat (first | with_reducible exact List.mem_cons_self | with_reducible apply List.mem_cons_of_mem)) (by (try dsimp only [List.set]); repeat (first | with_reducible exact List.mem_cons_self | with_reducible apply List.mem_cons_of_mem))) ?_
        clear hK K
        refine tree_one_yes (o := _) rfl rfl (fun K hK => ?_) (cS _ _ hs (by (try dsimp only [List.set]); repeat (first | with_reducible exact List.mem_cons_self | with_reducible apply List.mem_cons_of_mem)) (by (try dsimp only [List.set]); repeat (first | with_reducible exact List.mem_cons_self | with_reducible apply List.mem_cons_of_mem)) (by (try dsimp only [List.set]); repeat (first | with_reducible exact List.mem_cons_self | with_reducible apply List.mem_cons_of_mem)))
        refine op_to_string rfl Tryd.underlying25 Tryd.underlying5 Tryd.underlying9 rfl (hs.bytes (Has.mem m0 own_sliceAt)) (hK _ _ (cS _ _ hs (by (try dsimp only [List.set]); repeat (first | with_reducible exact List.mem_cons_self | with_reducible apply List.mem_cons_of_mem)) (by (try dsimp only [List.set]); repeat (first | with_reducible exact List.mem_cons_self | with_reducible apply List.mem_cons_of_mem)) (by (try dsimp only [List.set]); repeat (first | with_reducible exact List.mem_cons_self | with_reducible apply List.mem_cons_of_mem))) ?_)
        clear hK K
        try go_simp
        repeat (first
          | (with_reducible refine tree_load_agg (o := ⟨some 34, .load _ _, _, _, _, _⟩) (cmC c (.slice Aw c.W.length cw)) rfl rfl rfl rfl ?_ ?_ r2 ?_; (kernel_rfl); (kernel_rfl))
          | (with_reducible refine tree_load_agg (o := ⟨some 37, .load _ _, _, _, _, _⟩) (cmC c (.slice Aw c.W.length cw)) rfl rfl rfl rfl ?_ ?_ r2 ?_; (kernel_rfl); (kernel_rfl))
          | (with_reducible refine tree_load_agg (o := ⟨some 42, .load _ _, _, _, _, _⟩) (cmC C (.slice A23 C.W.length c23)) rfl rfl rfl rfl ?_ ?_ r6 ?_; (kernel_rfl); (kernel_rfl))
          | (with_reducible refine tree_load_agg (o := ⟨some 43, .load _ _, _, _, _, _⟩) (cmC C (.slice A29 C.W.length c29)) rfl rfl rfl rfl ?_ ?_ r8 ?_; (kernel_rfl); (kernel_rfl))
          | (refine tree_take rfl (fun K hK => ?_); go_simp; (first | with_reducible refine hK _ ?_ | (rw [if_neg (by decide)]; with_reducible refine hK _ ?_)); clear hK K))
        refine tree_one_yes (o := _) rfl rfl (fun K hK => ?_) (cS _ _ hs (by (try dsimp only [List.set]); repeat (first | with_reducible exact List.mem_cons_self | with_reducible apply List.mem_cons_of_mem)) (by (try dsimp only [List.set]); repeat (first | with_reducible exact List.mem_cons_self | with_reducible apply List.mem_cons_of_mem)) (by (try dsimp only [List.set]); repeat (first | with_reducible exact List.mem_cons_self | with_reducible apply List.mem_cons_of_mem)))
        try go_simp
        go_at_call 14
        refine (HSM.out _ _ hs (.slice A23 C.W.length c23) (.slice A29 C.W.length c29) (Has.of (A := own (.slice A23 C.W.length c23) 61 C.W.length 4 (wsC C.W)) (by (try dsimp only [List.set]); repeat (first | with_reducible exact List.mem_cons_self | with_reducible apply List.mem_cons_of_mem)) own_sliceAt) (Has.of (A := own (.slice A29 C.W.length c29) 61 C.W.length 4 (wsC C.W)) (by (try dsimp only [List.set]); repeat (first | with_reducible exact List.mem_cons_self | with_reducible apply List.mem_cons_of_mem)) own_sliceAt)).mono ?_
        clear hs
        rintro e w5 ⟨rfl, hs⟩
        try go_simp
        refine hK _ _ (cS _ _ hs (by (try dsimp only [List.set]); repeat (first | with_reducible exact List.mem_cons_self | with_reducible apply List.mem_cons_of_mem)) (by (try dsimp only [List.set]); repeat (first | with_reducible exact List.mem_cons_self | with_reducible apply List.mem_cons_of_mem)) (by (try dsimp only [List.set]); repeat (first | with_reducible exact List.mem_cons_self | with_reducible apply List.mem_cons_of_mem))) ?_
        clear hK K
        repeat (first
          | (with_reducible refine tree_load_agg (o := ⟨some 34, .load _ _, _, _, _, _⟩) (cmC c (.slice Aw c.W.length cw)) rfl rfl rfl rfl ?_ ?_ r2 ?_; (kernel_rfl); (kernel_rfl))
          | (with_reducible refine tree_load_agg (o := ⟨some 37, .load _ _, _, _, _, _⟩) (cmC c (.slice Aw c.W.length cw)) rfl rfl rfl rfl ?_ ?_ r2 ?_; (kernel_rfl); (kernel_rfl))
          | (with_reducible refine tree_load_agg (o := ⟨some 42, .load _ _, _, _, _, _⟩) (cmC C (.slice A23 C.W.length c23)) rfl rfl rfl rfl ?_ ?_ r6 ?_; (kernel_rfl); (kernel_rfl))
          | (with_reducible refine tree_load_agg (o := ⟨some 43, .load _ _, _, _, _, _⟩) (cmC C (.slice A29 C.W.length c29)) rfl rfl rfl rfl ?_ ?_ r8 ?_; (kernel_rfl); (kernel_rfl))
          | (refine tree_take rfl (fun K hK => ?_); go_simp; (first | with_reducible refine hK _ ?_ | (rw [if_neg (by decide)]; with_reducible refine hK _ ?_)); clear hK K))
        refine tree_done ?_
        clear hq
        go_wp2_with fail
        go_ret
        exact ⟨rfl, hs.pack (by repeat (first | with_reducible exact Pack.refl | with_reducible exact Pack.nil | with_reducible refine Pack.cons (by repeat (first | with_reducible exact Pick.here | with_reducible apply Pick.there)) ?_ | with_reducible apply Pack.drop))⟩
    · have b60I : (2000 : Int) < (l.length : Int) := by omega
      go_enter Tryd.func3, Tryd.ntmps3
      go_wp2_with (first
        | (guard_target = wpList _ _ _ (⟨some 2, .box _ _, _, _, _, _⟩ :: _) _ _; refine wpl (o := ⟨some 2, .box _ _, _, _, _, _⟩) rfl fun K hK => ?_; go_must (refine op_box hs rfl _ rfl (cmC c (.slice Aw c.W.length cw)) rfl fun b2 w1 h => hK _ _ ?_); clear hs hK K; have hs := h; clear h; try dsimp only [List.set] at hs)
        | (go_at_call 9; go_must (refine (HA.out _ _ hs (by (try dsimp only [List.set]); repeat (first | exact hold | apply List.mem_cons_of_mem))).mono ?_); clear hs; rintro e w1 ⟨rfl, hs⟩
           have k12 : w1.cell? ⟨b2, 1, none⟩ = some (.slice Aw c.W.length cw) := hs.cell (l := (cmC c (.slice Aw c.W.length cw))) (t := 24) (by (try dsimp only [List.set]); repeat (first | with_reducible exact List.mem_cons_self | with_reducible apply List.mem_cons_of_mem)) rfl)
        | (guard_target = wpList _ _ _ (⟨some 12, .load _ _, _, _, _, _⟩ :: _) _ _; refine wpl (o := ⟨some 12, .load _ _, _, _, _, _⟩) rfl fun K hK => op_load rfl (ad := ⟨b2, 1, none⟩) rfl (by kernel_rfl) k12 (hK _ _ ?_); clear hK K))
      go_ret
      exact ⟨rfl, hs.pack (by repeat (first | with_reducible exact Pack.refl | with_reducible exact Pack.nil | with_reducible refine Pack.cons (by repeat (first | with_reducible exact Pick.here | with_reducible apply Pick.there)) ?_ | with_reducible apply Pack.drop))⟩
  · have w60I : (60 : Int) < (c.W.length : Int) := by omega
    go_enter Tryd.func3, Tryd.ntmps3
    go_wp2_with (first
      | (guard_target = wpList _ _ _ (⟨some 2, .box _ _, _, _, _, _⟩ :: _) _ _; refine wpl (o := ⟨some 2, .box _ _, _, _, _, _⟩) rfl fun K hK => ?_; go_must (refine op_box hs rfl _ rfl (cmC c (.slice Aw c.W.length cw)) rfl fun b2 w1 h => hK _ _ ?_); clear hs hK K; have hs := h; clear h; try dsimp only [List.set] at hs)
      | (go_at_call 9; go_must (refine (HA.out _ _ hs (by (try dsimp only [List.set]); repeat (first | exact hold | apply List.mem_cons_of_mem))).mono ?_); clear hs; rintro e w1 ⟨rfl, hs⟩
         have k12 : w1.cell? ⟨b2, 1, none⟩ = some (.slice Aw c.W.length cw) := hs.cell (l := (cmC c (.slice Aw c.W.length cw))) (t := 24) (by (try dsimp only [List.set]); repeat (first | with_reducible exact List.mem_cons_self | with_reducible apply List.mem_cons_of_mem)) rfl)
      | (guard_target = wpList _ _ _ (⟨some 12, .load _ _, _, _, _, _⟩ :: _) _ _; refine wpl (o := ⟨some 12, .load _ _, _, _, _, _⟩) rfl fun K hK => op_load rfl (ad := ⟨b2, 1, none⟩) rfl (by kernel_rfl) k12 (hK _ _ ?_); clear hK K))
    go_ret
    exact ⟨rfl, hs.pack (by repeat (first | with_reducible exact Pack.refl | with_reducible exact Pack.nil | with_reducible refine Pack.cons (by repeat (first | with_reducible exact Pick.here | with_reducible apply Pick.there)) ?_ | with_reducible apply Pack.drop))⟩
theorem redoCommits_main (W : World) (hm : maxLenIs W) (c : RCm) (ds : List Value) (h0 : cmKin.K (hp W) c ds) (l : List UInt8) (v : Value) (h1 : (Kin.slice 1 Kin.u8).K (hp W) l [v]) :
    Calls Tryd.prog 3 #[.agg ds.toArray, v] W fun e w' => e = .returned (.bool true) ∧ Below W.heap.size W w' := by
  obtain ⟨vw, rfl, k1, co⟩ := cm_val h0
  obtain ⟨k2, hl⟩ := kin_bytes h1
  exact (redoCommits_walk W W _ (Sat.start W) m0 hm c co l vw v (hasW m0 k1) (hasW m0 k2) hl).mono fun e w' ⟨he, hs⟩ => ⟨he, hs.end_ m0⟩
end Go.Proofs.YthjnefpnnifjiaaDoor
