/- The walk of ScanOn. -/
import Derived.Test.YtimknlabhhopcaaScRun
import Derived.Test.YtimknlabhhopcaaScAll
import Derived.Test.YtimknlabhhopcaaVdCrash
import Derived.Test.YtimknlabhhopcaaLift
set_option linter.unusedVariables false
set_option linter.unusedSimpArgs false
namespace Go.Proofs.Ytimknlabhhopcaa
open Go.RowKit
def on9S (b : Nat) (cs : List Value) (bp : Nat) (w : World) : Prop := w.rangeAt b 0 cs ∧ w.rangeAt bp 0 (place (2 : Nat) (8 : Nat) 4)
def mcS (b : Nat) (cs : List Value) (w : World) : Prop := w.rangeAt b 0 cs
set_option maxRecDepth 100000 in
set_option maxHeartbeats 16000000 in
theorem scanOn_walk (W w : World) (L : List HP) (hs : Sat W w L) (hold : old W ∈ L) (v : Value) (l : List RDeed) (h : rdeedsAt v l (hp W)) (n : UInt8) :
    Calls Try.prog 5 #[v, .int .u8 (n.toNat : Nat)] w fun e w' => e = .returned (.bool true) ∧ Sat W w' L := by
  by_cases hsm : Small l
  · have hB := mdRun_inv l hsm l.length (Nat.le_refl _)
    rw [List.take_length] at hB
    have hrun : ∀ w M, Sat W w M → old W ∈ M → Calls Try.prog 23 #[v] w (scrunPost (mdRun l) W M) := fun w M hs ho => scrun_spec W w M hs ho v l h hsm
    have hfew : ∀ w M, Sat W w M → old W ∈ M → Calls Try.prog 22 #[v] w fun e w' => e = .returned (.bool true) ∧ Sat W w' M := fun w M hs ho => by have := scfew_spec W w M hs ho v l h; unfold rfewPost at this; rw [(fewB_iff l).2 hsm] at this; exact this
    have hl30 := hsm.1
    clear hsm
    generalize mdRun l = st at hB hrun
    obtain ⟨R, rl, sy⟩ := st
    obtain ⟨I, rows, cnt⟩ := hB
    dsimp only at I rows cnt
    obtain ⟨hlow, hnx⟩ := sc_low I
    have hrow : R.D.row.length ≤ 240 := by omega
    have hrl : rl.length ≤ 30 := by omega
    have ok := I.ok
    have HI := Box.mk I
    have HT := Box.mk (sc_other I)
    clear I
    go_enter Try.func5, Try.ntmps5
    go_wp2_with (first
      | (go_at_call 15; go_must (refine (awake7_spec W _ _ hs).mono ?_); clear hs; rintro e w1 ⟨rfl, hs⟩)
      | (go_at_call 22; go_must (refine (hfew _ _ hs (by (try dsimp only [List.set]); repeat (first | exact hold | apply List.mem_cons_of_mem))).mono ?_); clear hs; rintro e w1 ⟨rfl, hs⟩)
      | (go_at_call 23; go_must (refine (hrun _ _ hs (by (try dsimp only [List.set]); repeat (first | exact hold | apply List.mem_cons_of_mem))).mono ?_); clear hs; rintro e w1 ⟨b1, br, v2, v3, rfl, hs⟩; dsimp only at hs
         obtain ⟨A2, c2, rfl, hc2, _⟩ := slice_form (hs.slice (Has.mem m0 fun F h => h))
         obtain ⟨A3, c3, rfl, hc3, _⟩ := slice_form (hs.slice (Has.mem m1 fun F h => h)))
      | (guard_target = wpList _ _ _ (⟨some 6, .alloc _, _, _, _, _⟩ :: _) _ _; refine wpl (o := ⟨some 6, .alloc _, _, _, _, _⟩) rfl fun K hK => ?_; go_must (refine op_alloc hs rfl _ zmade zmd rfl fun bm w1 h => hK _ _ ?_); clear hs hK K; have hs := h; clear h; try dsimp only [List.set] at hs)
      | (guard_target = wpList _ _ _ (⟨none, .store _ (.tmp 6) _, _, _, _, _⟩ :: _) _ _; refine wpl (o := ⟨none, .store _ (.tmp 6) _, _, _, _, _⟩) rfl fun K hK => ?_; go_must (refine op_store_whole (hs.pick (A := row bm zmd 56) (by repeat (first | with_reducible exact Pick.here | with_reducible apply Pick.there))) (b := bm) rfl rfl (mdCells b1 br (.slice A2 rl.length c2) (.slice A3 rl.length c3) sy) rfl (md_one _ _ _ _ _ _ _ _ _) (by kernel_rfl) (k := 0) rfl rfl fun w3 h => hK _ _ ?_); clear hs hK K; have hs := h; clear h; try dsimp only [List.set] at hs)
      | (guard_target = wpList _ _ _ (⟨some 21, .load _ _, _, _, _, _⟩ :: _) _ _; refine wpl (o := ⟨some 21, .load _ _, _, _, _, _⟩) rfl fun K hK => op_load rfl (ad := ⟨bm, 1, none⟩) rfl (by kernel_rfl) (hs.cell (l := (mdCells b1 br (.slice A2 rl.length c2) (.slice A3 rl.length c3) sy)) (t := 56) (by (try dsimp only [List.set]); repeat (first | with_reducible exact List.mem_cons_self | with_reducible apply List.mem_cons_of_mem)) rfl) (hK _ _ ?_); clear hK K)
      | (guard_target = wpList _ _ _ (⟨some 7, .alloc _, _, _, _, _⟩ :: _) _ _; refine wpl (o := ⟨some 7, .alloc _, _, _, _, _⟩) rfl fun K hK => ?_; go_must (refine op_alloc hs rfl _ zplace [Value.int .i64 0, .int .i64 0, .int .u32 0] rfl fun bp w1 h => hK _ _ ?_); clear hs hK K; have hs := h; clear h; try dsimp only [List.set] at hs)
      | (go_at_call 25; go_must (refine (scplace_spec W _ _ hs).mono ?_); clear hs; rintro e w1 ⟨rfl, hs⟩)
      | (guard_target = wpList _ _ _ (⟨none, .store _ (.tmp 7) _, _, _, _, _⟩ :: _) _ _; refine wpl (o := ⟨none, .store _ (.tmp 7) _, _, _, _, _⟩) rfl fun K hK => ?_; go_must (refine op_store_whole (hs.pick (A := row bp [Value.int .i64 0, .int .i64 0, .int .u32 0] 25) (by repeat (first | with_reducible exact Pick.here | with_reducible apply Pick.there))) (b := bp) rfl rfl (place (2 : Nat) (8 : Nat) 3) rfl (by simp [place, Value.oneCell']) (by kernel_rfl) (k := 0) rfl rfl fun w3 h => hK _ _ ?_); clear hs hK K; have hs := h; clear h; try dsimp only [List.set] at hs)
      | (guard_target = wpList _ _ _ (⟨none, .store _ (.tmp 24) _, _, _, _, _⟩ :: _) _ _; refine wpl (o := ⟨none, .store _ (.tmp 24) _, _, _, _, _⟩) rfl fun K hK => ?_; go_must (refine op_store (hs.pick (A := row bp (place (2 : Nat) (8 : Nat) 3) 25) (by repeat (first | with_reducible exact Pick.here | with_reducible apply Pick.there))) rfl (b := bp) (i := 2) (v := .int .u32 ((4 : Nat) : Int)) rfl rfl rfl (by kernel_rfl) (k := 0) rfl (by simp [place]) fun w7 h => hK _ _ ?_); clear hs hK K; have hs := h; clear h; change Sat W _ (row bp (place (2 : Nat) (8 : Nat) 4) 25 :: _) at hs))
    have cS : ∀ w M, Sat W w M → row bm (mdCells b1 br (.slice A2 rl.length c2) (.slice A3 rl.length c3) sy) 56 ∈ M → row bp (place (2 : Nat) (8 : Nat) 4) 25 ∈ M → on9S bm (mdCells b1 br (.slice A2 rl.length c2) (.slice A3 rl.length c3) sy) bp w := fun w M h hm hp => ⟨range_whole h hm, range_whole h hp⟩
    have d0 : ∀ w, on9S bm (mdCells b1 br (.slice A2 rl.length c2) (.slice A3 rl.length c3) sy) bp w → w.cell? ⟨bm, 0, none⟩ = some (.pointer (some ⟨b1, 0, none⟩)) := fun w h => h.1 0 _ rfl
    have d1 : ∀ w, on9S bm (mdCells b1 br (.slice A2 rl.length c2) (.slice A3 rl.length c3) sy) bp w → w.cell? ⟨bm, 1, none⟩ = some (.pointer (some ⟨br, 0, none⟩)) := fun w h => h.1 1 _ rfl
    have dp : ∀ w, on9S bm (mdCells b1 br (.slice A2 rl.length c2) (.slice A3 rl.length c3) sy) bp w → w.rangeAt bp 0 (place (2 : Nat) (8 : Nat) 4) := fun w h => h.2
    have hS0 := cS _ _ hs.drew (by (try dsimp only [List.set]); repeat (first | with_reducible exact List.mem_cons_self | with_reducible apply List.mem_cons_of_mem)) (by (try dsimp only [List.set]); repeat (first | with_reducible exact List.mem_cons_self | with_reducible apply List.mem_cons_of_mem))
    refine wp_region_tree (on9S bm (mdCells b1 br (.slice A2 rl.length c2) (.slice A3 rl.length c3) sy) bp) (.take 0 (.take 1 (.take 2 (.take 3 (.take 4 (.all [(5, .all [(6, .take 7 (.take 8 (.take 9 (.take 10 (.take 11 (DTree.done))))))])])))))) (by kernel_rfl) (by kernel_rfl) (by kernel_rfl) (fun _ _ d _ _ h => by cases d <;> exact h) hS0 ?_
    have hs' := hs.drew
    clear hs
    have hs := hs'
    clear hs'
    have hq := fun p : Prop => class_const hS0 p
    clear hS0
    repeat (first
      | (with_reducible refine tree_load (o := ⟨some 27, .load _ _, _, _, _, _⟩) rfl rfl rfl rfl rfl d0 ?_)
      | (with_reducible refine tree_load_agg (o := ⟨some 28, .load _ _, _, _, _, _⟩) (place (2 : Nat) (8 : Nat) 4) rfl rfl rfl rfl ?_ ?_ dp ?_; (kernel_rfl); (kernel_rfl))
      | (with_reducible refine tree_load (o := ⟨some 30, .load _ _, _, _, _, _⟩) rfl rfl rfl rfl rfl d1 ?_)
      | (refine tree_take rfl (fun K hK => ?_); go_simp; (first | with_reducible refine hK _ ?_ | (rw [if_neg (by decide)]; with_reducible refine hK _ ?_)); clear hK K))
    refine tree_one_yes (o := _) rfl rfl (fun K hK => ?_) (cS _ _ hs (by (try dsimp only [List.set]); repeat (first | with_reducible exact List.mem_cons_self | with_reducible apply List.mem_cons_of_mem)) (by (try dsimp only [List.set]); repeat (first | with_reducible exact List.mem_cons_self | with_reducible apply List.mem_cons_of_mem)))
    try go_simp
    go_at_call 26
    refine (rlow_spec W _ _ hs br b1 R (by (try dsimp only [List.set]); repeat (first | with_reducible exact List.mem_cons_self | with_reducible apply List.mem_cons_of_mem))).mono ?_
    clear hs
    rintro e w5 ⟨rfl, hs⟩
    try go_simp
    refine hK _ _ (cS _ _ hs (by (try dsimp only [List.set]); repeat (first | with_reducible exact List.mem_cons_self | with_reducible apply List.mem_cons_of_mem)) (by (try dsimp only [List.set]); repeat (first | with_reducible exact List.mem_cons_self | with_reducible apply List.mem_cons_of_mem))) ?_
    clear hK K
    refine tree_one_yes (o := _) rfl rfl (fun K hK => ?_) (cS _ _ hs (by (try dsimp only [List.set]); repeat (first | with_reducible exact List.mem_cons_self | with_reducible apply List.mem_cons_of_mem)) (by (try dsimp only [List.set]); repeat (first | with_reducible exact List.mem_cons_self | with_reducible apply List.mem_cons_of_mem)))
    try go_simp
    go_at_call 20
    refine (scan8_spec W _ _ b1 R.D (hs.pick (A := disk b1 R.D) (by repeat (first | with_reducible exact Pick.here | with_reducible apply Pick.there))) 4 R.low (by omega) (by omega) _ _ HT.out).mono ?_
    clear hs
    rintro e w5 ⟨v5, out, rfl, hout, hs⟩
    have hlen : out.length = 0 := by have := congrArg List.length hout; simpa using this
    rw [hlen] at hs
    obtain ⟨A5, c5, rfl, _, _⟩ := own_slice hs (i := 0) rfl
    try go_simp
    refine hK _ _ (cS _ _ hs (by (try dsimp only [List.set]); repeat (first | with_reducible exact List.mem_cons_self | with_reducible apply List.mem_cons_of_mem)) (by (try dsimp only [List.set]); repeat (first | with_reducible exact List.mem_cons_self | with_reducible apply List.mem_cons_of_mem))) ?_
    clear hK K
    repeat (first
      | (with_reducible refine tree_load (o := ⟨some 27, .load _ _, _, _, _, _⟩) rfl rfl rfl rfl rfl d0 ?_)
      | (with_reducible refine tree_load_agg (o := ⟨some 28, .load _ _, _, _, _, _⟩) (place (2 : Nat) (8 : Nat) 4) rfl rfl rfl rfl ?_ ?_ dp ?_; (kernel_rfl); (kernel_rfl))
      | (with_reducible refine tree_load (o := ⟨some 30, .load _ _, _, _, _, _⟩) rfl rfl rfl rfl rfl d1 ?_)
      | (refine tree_take rfl (fun K hK => ?_); go_simp; (first | with_reducible refine hK _ ?_ | (rw [if_neg (by decide)]; with_reducible refine hK _ ?_)); clear hK K))
    refine tree_done ?_
    clear hq cS d0 d1 dp hout hlen HT
    have k41 : w5.cell? ⟨bm, 1, none⟩ = some (.pointer (some ⟨br, 0, none⟩)) := hs.cell (l := (mdCells b1 br (.slice A2 rl.length c2) (.slice A3 rl.length c3) sy)) (t := 56) (by (try dsimp only [List.set]); repeat (first | with_reducible exact List.mem_cons_self | with_reducible apply List.mem_cons_of_mem)) rfl
    by_cases h0 : rl.length = 0
    · have h0I : ((rl.length : Int) == 0) = true := by simp [h0]
      have h0J : (rl.length : Int) = 0 := by omega
      go_wp2_with (first
        | (guard_target = wpList _ _ _ (⟨some 41, .load _ _, _, _, _, _⟩ :: _) _ _; refine wpl (o := ⟨some 41, .load _ _, _, _, _, _⟩) rfl fun K hK => op_load rfl (ad := ⟨bm, 1, none⟩) rfl (by kernel_rfl) k41 (hK _ _ ?_); clear hK K)
        | (go_at_call 26; go_must (refine (rlow_spec W _ _ hs br b1 R (by (try dsimp only [List.set]); repeat (first | with_reducible exact List.mem_cons_self | with_reducible apply List.mem_cons_of_mem))).mono ?_); clear hs; rintro e w1 ⟨rfl, hs⟩)
        | (guard_target = wpList _ _ _ (⟨some 46, .load _ _, _, _, _, _⟩ :: _) _ _; refine wpl (o := ⟨some 46, .load _ _, _, _, _, _⟩) rfl fun K hK => op_load rfl (ad := ⟨bm, 2, none⟩) rfl (by kernel_rfl) (hs.cell (l := (mdCells b1 br (.slice A2 rl.length c2) (.slice A3 rl.length c3) sy)) (t := 56) (by (try dsimp only [List.set]); repeat (first | with_reducible exact List.mem_cons_self | with_reducible apply List.mem_cons_of_mem)) rfl) (hK _ _ ?_); clear hK K))
      go_ret
      exact ⟨rfl, hs.pack (by repeat (first | with_reducible exact Pack.refl | with_reducible exact Pack.nil | with_reducible refine Pack.cons (by repeat (first | with_reducible exact Pick.here | with_reducible apply Pick.there)) ?_ | with_reducible apply Pack.drop))⟩
    · have h0I : ((rl.length : Int) == 0) = false := by simp [h0]
      have h0J : ¬ (rl.length : Int) = 0 := by omega
      obtain ⟨i, hi⟩ : ∃ i, n.toNat % rl.length = i := ⟨_, rfl⟩
      have hlt : i < rl.length := by rw [← hi]; exact Nat.mod_lt _ (by omega)
      have hn8 := n.toNat_lt
      have hi8 : i ≤ n.toNat := by rw [← hi]; exact Nat.mod_le _ _
      have hwn : IntKind.i64.wrap (n.toNat : Int) = (n.toNat : Int) := by rw [IntKind.wrap_i64]; omega
      have hrem : Int.tmod (n.toNat : Int) (rl.length : Int) = (i : Int) := by rw [← hi]; rfl
      have hremE : (n.toNat : Int) % (rl.length : Int) = (i : Int) := by rw [← hi]; rfl
      have hwi : IntKind.i64.wrap (i : Int) = (i : Int) := by rw [IntKind.wrap_i64]; omega
      have hltI : (i : Int) < (rl.length : Int) := by omega
      obtain ⟨p2, o2, c2', e2, _, _⟩ := sl1_form hs (v := .slice A2 rl.length c2) (n := rl.length) (vs := rcsS rl) (by (try dsimp only [List.set]); repeat (first | with_reducible exact List.mem_cons_self | with_reducible apply List.mem_cons_of_mem)) (by omega)
      cases e2
      obtain ⟨p3, o3, c3', e3, _, _⟩ := sl1_form hs (v := .slice A3 rl.length c3) (n := rl.length) (vs := rcsN rl) (by (try dsimp only [List.set]); repeat (first | with_reducible exact List.mem_cons_self | with_reducible apply List.mem_cons_of_mem)) (by omega)
      cases e3
      obtain ⟨ke, hke⟩ : ∃ ke, i + 1 = ke := ⟨_, rfl⟩
      have hkeI : IntKind.i64.wrap ((i : Int) + 1) = (ke : Int) := by rw [IntKind.wrap_i64]; omega
      have hkeJ : (i : Int) + 1 = (ke : Int) := by omega
      have hkl : ke ≤ rl.length := by omega
      have hkc2 : ke ≤ c2 := by omega
      have hkc3 : ke ≤ c3 := by omega
      obtain ⟨lo, hlo⟩ : ∃ lo, rl[i].2 = lo := ⟨_, rfl⟩
      have hget := rcsN_get rl i hlt
      rw [hlo] at hget
      have hend : endAt R.low rl ke = lo := by rw [← hke, endAt_get R.low rl i hlt, hlo]
      have hT := sc_on HI.out ke hkl
      have hlo8 := sc_end HI.out ke hkl
      rw [hend] at hT hlo8
      have HT := Box.mk hT
      have hdl : (rl.drop ke).length = rl.length - ke := List.length_drop
      clear hT hi hend hlo hke
      go_wp2_with (first
        | (guard_target = wpList _ _ _ (⟨some 41, .load _ _, _, _, _, _⟩ :: _) _ _; refine wpl (o := ⟨some 41, .load _ _, _, _, _, _⟩) rfl fun K hK => op_load rfl (ad := ⟨bm, 1, none⟩) rfl (by kernel_rfl) k41 (hK _ _ ?_); clear hK K)
        | (go_at_call 26; go_must (refine (rlow_spec W _ _ hs br b1 R (by (try dsimp only [List.set]); repeat (first | with_reducible exact List.mem_cons_self | with_reducible apply List.mem_cons_of_mem))).mono ?_); clear hs; rintro e w1 ⟨rfl, hs⟩)
        | (guard_target = wpList _ _ _ (⟨some 46, .load _ _, _, _, _, _⟩ :: _) _ _; refine wpl (o := ⟨some 46, .load _ _, _, _, _, _⟩) rfl fun K hK => op_load rfl (ad := ⟨bm, 2, none⟩) rfl (by kernel_rfl) (hs.cell (l := (mdCells b1 br (.slice (some ⟨p2, o2, none⟩) rl.length c2) (.slice (some ⟨p3, o3, none⟩) rl.length c3) sy)) (t := 56) (by (try dsimp only [List.set]); repeat (first | with_reducible exact List.mem_cons_self | with_reducible apply List.mem_cons_of_mem)) rfl) (hK _ _ ?_); clear hK K)
        | (guard_target = wpList _ _ _ (⟨some 53, .load _ _, _, _, _, _⟩ :: _) _ _; refine wpl (o := ⟨some 53, .load _ _, _, _, _, _⟩) rfl fun K hK => op_load rfl (ad := ⟨bm, 2, none⟩) rfl (by kernel_rfl) (hs.cell (l := (mdCells b1 br (.slice (some ⟨p2, o2, none⟩) rl.length c2) (.slice (some ⟨p3, o3, none⟩) rl.length c3) sy)) (t := 56) (by (try dsimp only [List.set]); repeat (first | with_reducible exact List.mem_cons_self | with_reducible apply List.mem_cons_of_mem)) rfl) (hK _ _ ?_); clear hK K))
      have cS : ∀ w M, Sat W w M → row bm (mdCells b1 br (.slice (some ⟨p2, o2, none⟩) rl.length c2) (.slice (some ⟨p3, o3, none⟩) rl.length c3) sy) 56 ∈ M → sl1 (.slice (some ⟨p3, o3, none⟩) rl.length c3) rl.length (rcsN rl) ∈ M → ctS bm (mdCells b1 br (.slice (some ⟨p2, o2, none⟩) rl.length c2) (.slice (some ⟨p3, o3, none⟩) rl.length c3) sy) p3 (o3 + i) lo w := fun w M h hm hm2 => ⟨range_whole h hm, sl1_cell h hm2 hget⟩
      have d0 : ∀ w, ctS bm (mdCells b1 br (.slice (some ⟨p2, o2, none⟩) rl.length c2) (.slice (some ⟨p3, o3, none⟩) rl.length c3) sy) p3 (o3 + i) lo w → w.cell? ⟨bm, 0, none⟩ = some (.pointer (some ⟨b1, 0, none⟩)) := fun w h => h.1 0 _ rfl
      have d1 : ∀ w, ctS bm (mdCells b1 br (.slice (some ⟨p2, o2, none⟩) rl.length c2) (.slice (some ⟨p3, o3, none⟩) rl.length c3) sy) p3 (o3 + i) lo w → w.cell? ⟨bm, 3, none⟩ = some (.slice (some ⟨p3, o3, none⟩) rl.length c3) := fun w h => h.1 3 _ rfl
      have d2 : ∀ w, ctS bm (mdCells b1 br (.slice (some ⟨p2, o2, none⟩) rl.length c2) (.slice (some ⟨p3, o3, none⟩) rl.length c3) sy) p3 (o3 + i) lo w → w.cell? ⟨p3, o3 + i, none⟩ = some (.int .u32 (lo : Nat)) := fun w h => h.2
      have hS0 := cS _ _ hs.drew (by (try dsimp only [List.set]); repeat (first | with_reducible exact List.mem_cons_self | with_reducible apply List.mem_cons_of_mem)) (by (try dsimp only [List.set]); repeat (first | with_reducible exact List.mem_cons_self | with_reducible apply List.mem_cons_of_mem))
      refine wp_region_tree (ctS bm (mdCells b1 br (.slice (some ⟨p2, o2, none⟩) rl.length c2) (.slice (some ⟨p3, o3, none⟩) rl.length c3) sy) p3 (o3 + i) lo) (.take 0 (.take 1 (.take 3 (.take 4 (.take 5 (.take 6 (.take 7 (.all [(2, .all [(8, .take 9 (.take 10 (.take 11 (.take 12 (.take 13 (DTree.done))))))])])))))))) (by kernel_rfl) (by kernel_rfl) (by kernel_rfl) (fun _ _ d _ _ h => by cases d <;> exact h) hS0 ?_
      have hs' := hs.drew
      clear hs
      have hs := hs'
      clear hs'
      have hq := fun p : Prop => class_const hS0 p
      clear hS0
      repeat (first
        | (with_reducible refine tree_load (o := ⟨some 58, .load _ _, _, _, _, _⟩) rfl rfl rfl rfl rfl d0 ?_)
        | (with_reducible refine tree_load (o := ⟨some 61, .load _ _, _, _, _, _⟩) rfl rfl rfl rfl rfl d1 ?_)
        | (with_reducible refine tree_load (o := ⟨some 64, .load _ _, _, _, _, _⟩) rfl rfl rfl rfl rfl d2 ?_)
        | (refine tree_take rfl (fun K hK => ?_); go_simp; (first | with_reducible refine hK _ ?_ | (rw [if_neg (by decide)]; with_reducible refine hK _ ?_)); clear hK K))
      refine tree_one_yes (o := _) rfl rfl (fun K hK => ?_) (cS _ _ hs (by (try dsimp only [List.set]); repeat (first | with_reducible exact List.mem_cons_self | with_reducible apply List.mem_cons_of_mem)) (by (try dsimp only [List.set]); repeat (first | with_reducible exact List.mem_cons_self | with_reducible apply List.mem_cons_of_mem)))
      try go_simp
      go_at_call 25
      refine (scplace_spec W _ _ hs).mono ?_
      clear hs
      rintro e w5 ⟨rfl, hs⟩
      try go_simp
      refine hK _ _ (cS _ _ hs (by (try dsimp only [List.set]); repeat (first | with_reducible exact List.mem_cons_self | with_reducible apply List.mem_cons_of_mem)) (by (try dsimp only [List.set]); repeat (first | with_reducible exact List.mem_cons_self | with_reducible apply List.mem_cons_of_mem))) ?_
      clear hK K
      refine tree_one_yes (o := _) rfl rfl (fun K hK => ?_) (cS _ _ hs (by (try dsimp only [List.set]); repeat (first | with_reducible exact List.mem_cons_self | with_reducible apply List.mem_cons_of_mem)) (by (try dsimp only [List.set]); repeat (first | with_reducible exact List.mem_cons_self | with_reducible apply List.mem_cons_of_mem)))
      try go_simp
      go_at_call 20
      refine (scan8_spec W _ _ b1 R.D (hs.pick (A := disk b1 R.D) (by repeat (first | with_reducible exact Pick.here | with_reducible apply Pick.there))) 3 lo (by omega) (by omega) _ _ HT.out).mono ?_
      clear hs
      rintro e w5 ⟨v6, out, rfl, hout, hs⟩
      have hlen : out.length = (rl.length - ke) := by have := congrArg List.length hout; rw [List.length_map] at this; omega
      rw [hlen] at hs
      obtain ⟨A6, c6, rfl, _, _⟩ := own_slice hs (i := 0) rfl
      try go_simp
      refine hK _ _ (cS _ _ hs (by (try dsimp only [List.set]); repeat (first | with_reducible exact List.mem_cons_self | with_reducible apply List.mem_cons_of_mem)) (by (try dsimp only [List.set]); repeat (first | with_reducible exact List.mem_cons_self | with_reducible apply List.mem_cons_of_mem))) ?_
      clear hK K
      repeat (first
        | (with_reducible refine tree_load (o := ⟨some 58, .load _ _, _, _, _, _⟩) rfl rfl rfl rfl rfl d0 ?_)
        | (with_reducible refine tree_load (o := ⟨some 61, .load _ _, _, _, _, _⟩) rfl rfl rfl rfl rfl d1 ?_)
        | (with_reducible refine tree_load (o := ⟨some 64, .load _ _, _, _, _, _⟩) rfl rfl rfl rfl rfl d2 ?_)
        | (refine tree_take rfl (fun K hK => ?_); go_simp; (first | with_reducible refine hK _ ?_ | (rw [if_neg (by decide)]; with_reducible refine hK _ ?_)); clear hK K))
      refine tree_done ?_
      clear hq cS d0 d1 d2
      go_wp2_with (first
        | (guard_target = wpList _ _ _ (⟨some 69, .load _ _, _, _, _, _⟩ :: _) _ _; refine wpl (o := ⟨some 69, .load _ _, _, _, _, _⟩) rfl fun K hK => op_load rfl (ad := ⟨bm, 2, none⟩) rfl (by kernel_rfl) (hs.cell (l := (mdCells b1 br (.slice (some ⟨p2, o2, none⟩) rl.length c2) (.slice (some ⟨p3, o3, none⟩) rl.length c3) sy)) (t := 56) (by (try dsimp only [List.set]); repeat (first | with_reducible exact List.mem_cons_self | with_reducible apply List.mem_cons_of_mem)) rfl) (hK _ _ ?_); clear hK K)
        | (guard_target = wpList _ _ _ (⟨none, .store _ (.tmp 73) _, _, _, _, _⟩ :: _) _ _; refine wpl (o := ⟨none, .store _ (.tmp 73) _, _, _, _, _⟩) rfl fun K hK => ?_; go_must (refine op_store (hs.pick (A := row bm (mdCells b1 br (.slice (some ⟨p2, o2, none⟩) rl.length c2) (.slice (some ⟨p3, o3, none⟩) rl.length c3) sy) 56) (by repeat (first | with_reducible exact Pick.here | with_reducible apply Pick.there))) rfl (b := bm) (i := 2) (v := (.slice (if c2 = ke then some ⟨p2, o2, none⟩ else some ⟨p2, o2 + ke, none⟩) (rl.length - ke) (c2 - ke))) rfl rfl rfl (by kernel_rfl) (k := 0) rfl (by simp [mdCells]) fun w5 h => hK _ _ ?_); clear hs hK K; have hs := h; clear h; change Sat W _ (row bm (mdCells b1 br (.slice (if c2 = ke then some ⟨p2, o2, none⟩ else some ⟨p2, o2 + ke, none⟩) (rl.length - ke) (c2 - ke)) (.slice (some ⟨p3, o3, none⟩) rl.length c3) sy) 56 :: _) at hs)
        | (guard_target = wpList _ _ _ (⟨some 75, .load _ _, _, _, _, _⟩ :: _) _ _; refine wpl (o := ⟨some 75, .load _ _, _, _, _, _⟩) rfl fun K hK => op_load rfl (ad := ⟨bm, 3, none⟩) rfl (by kernel_rfl) (hs.cell (l := (mdCells b1 br (.slice (if c2 = ke then some ⟨p2, o2, none⟩ else some ⟨p2, o2 + ke, none⟩) (rl.length - ke) (c2 - ke)) (.slice (some ⟨p3, o3, none⟩) rl.length c3) sy)) (t := 56) (by (try dsimp only [List.set]); repeat (first | with_reducible exact List.mem_cons_self | with_reducible apply List.mem_cons_of_mem)) rfl) (hK _ _ ?_); clear hK K)
        | (guard_target = wpList _ _ _ (⟨none, .store _ (.tmp 79) _, _, _, _, _⟩ :: _) _ _; refine wpl (o := ⟨none, .store _ (.tmp 79) _, _, _, _, _⟩) rfl fun K hK => ?_; go_must (refine op_store (hs.pick (A := row bm (mdCells b1 br (.slice (if c2 = ke then some ⟨p2, o2, none⟩ else some ⟨p2, o2 + ke, none⟩) (rl.length - ke) (c2 - ke)) (.slice (some ⟨p3, o3, none⟩) rl.length c3) sy) 56) (by repeat (first | with_reducible exact Pick.here | with_reducible apply Pick.there))) rfl (b := bm) (i := 3) (v := (.slice (if c3 = ke then some ⟨p3, o3, none⟩ else some ⟨p3, o3 + ke, none⟩) (rl.length - ke) (c3 - ke))) rfl rfl rfl (by kernel_rfl) (k := 0) rfl (by simp [mdCells]) fun w5 h => hK _ _ ?_); clear hs hK K; have hs := h; clear h; change Sat W _ (row bm (mdCells b1 br (.slice (if c2 = ke then some ⟨p2, o2, none⟩ else some ⟨p2, o2 + ke, none⟩) (rl.length - ke) (c2 - ke)) (.slice (if c3 = ke then some ⟨p3, o3, none⟩ else some ⟨p3, o3 + ke, none⟩) (rl.length - ke) (c3 - ke)) sy) 56 :: _) at hs
           have h1 := ((hs.pick (A := sl1 (.slice (some ⟨p3, o3, none⟩) rl.length c3) rl.length (rcsN rl)) (by repeat (first | with_reducible exact Pick.here | with_reducible apply Pick.there))).sub (i := 0) rfl (B := sl1 (.slice (if c3 = ke then some ⟨p3, o3, none⟩ else some ⟨p3, o3 + ke, none⟩) (rl.length - ke) (c3 - ke)) (rl.drop ke).length (rcsN (rl.drop ke))) fun F hF => by
             have := one_drop hF ke hkl
             rw [Option.map_some, add_plain] at this
             rw [List.length_drop, show rcsN (rl.drop ke) = (rcsN rl).drop ke by simp [rcsN, u32s, List.map_drop]]
             exact this)
           dsimp only [List.set] at h1
           have h2 := ((h1.pick (A := sl1 (.slice (some ⟨p2, o2, none⟩) rl.length c2) rl.length (rcsS rl)) (by repeat (first | with_reducible exact Pick.here | with_reducible apply Pick.there))).sub (i := 0) rfl (B := sl1 (.slice (if c2 = ke then some ⟨p2, o2, none⟩ else some ⟨p2, o2 + ke, none⟩) (rl.length - ke) (c2 - ke)) (rl.drop ke).length (rcsS (rl.drop ke))) fun F hF => by
             have := one_drop hF ke hkl
             rw [Option.map_some, add_plain] at this
             rw [List.length_drop, show rcsS (rl.drop ke) = (rcsS rl).drop ke by simp [rcsS, strs, List.map_drop]]
             exact this)
           dsimp only [List.set] at h2
           clear hs h1
           have hs := h2
           clear h2
           have k83 := range_whole hs (show row bm (mdCells b1 br (.slice (if c2 = ke then some ⟨p2, o2, none⟩ else some ⟨p2, o2 + ke, none⟩) (rl.length - ke) (c2 - ke)) (.slice (if c3 = ke then some ⟨p3, o3, none⟩ else some ⟨p3, o3 + ke, none⟩) (rl.length - ke) (c3 - ke)) sy) 56 ∈ _ from (by (try dsimp only [List.set]); repeat (first | with_reducible exact List.mem_cons_self | with_reducible apply List.mem_cons_of_mem))))
        | (guard_target = wpList _ _ _ (⟨some 83, .load _ _, _, _, _, _⟩ :: _) _ _; refine wpl (o := ⟨some 83, .load _ _, _, _, _, _⟩) rfl fun K hK => op_load_agg rfl (b := bm) (i := 0) rfl (mdCells b1 br (.slice (if c2 = ke then some ⟨p2, o2, none⟩ else some ⟨p2, o2 + ke, none⟩) (rl.length - ke) (c2 - ke)) (.slice (if c3 = ke then some ⟨p3, o3, none⟩ else some ⟨p3, o3 + ke, none⟩) (rl.length - ke) (c3 - ke)) sy) k83 (by kernel_rfl) (by kernel_rfl) (hK _ _ ?_); clear hK K)
        | (go_at_call 27; go_must (refine (begins_spec W _ _ b1 br (rl.drop ke) sy _ _ _ out (rl.drop ke).length (Nat.le_refl _) (by rw [hout, List.take_length]) (by first | omega | (simp; omega)) (by rw [hlen]; exact ((((hs.pick (A := sl1 (.slice (if c3 = ke then some ⟨p3, o3, none⟩ else some ⟨p3, o3 + ke, none⟩) (rl.length - ke) (c3 - ke)) (rl.drop ke).length (rcsN (rl.drop ke))) (by repeat (first | with_reducible exact Pick.here | with_reducible apply Pick.there))).pick (A := sl1 (.slice (if c2 = ke then some ⟨p2, o2, none⟩ else some ⟨p2, o2 + ke, none⟩) (rl.length - ke) (c2 - ke)) (rl.drop ke).length (rcsS (rl.drop ke))) (by repeat (first | with_reducible exact Pick.here | with_reducible apply Pick.there))).pick (A := rcBods out) (by repeat (first | with_reducible exact Pick.here | with_reducible apply Pick.there))).pick (A := own (.slice A6 (rl.length - ke) c6) 46 (rl.length - ke) 2 (rcCells out)) (by repeat (first | with_reducible exact Pick.here | with_reducible apply Pick.there))))).mono ?_); clear hs; rintro e w1 ⟨rfl, hs⟩
           have k90 : w1.cell? ⟨bm, 2, none⟩ = some (.slice (if c2 = ke then some ⟨p2, o2, none⟩ else some ⟨p2, o2 + ke, none⟩) (rl.length - ke) (c2 - ke)) := hs.cell (l := (mdCells b1 br (.slice (if c2 = ke then some ⟨p2, o2, none⟩ else some ⟨p2, o2 + ke, none⟩) (rl.length - ke) (c2 - ke)) (.slice (if c3 = ke then some ⟨p3, o3, none⟩ else some ⟨p3, o3 + ke, none⟩) (rl.length - ke) (c3 - ke)) sy)) (t := 56) (by (try dsimp only [List.set]); repeat (first | with_reducible exact List.mem_cons_self | with_reducible apply List.mem_cons_of_mem)) rfl)
        | (guard_target = wpList _ _ _ (⟨some 90, .load _ _, _, _, _, _⟩ :: _) _ _; refine wpl (o := ⟨some 90, .load _ _, _, _, _, _⟩) rfl fun K hK => op_load rfl (ad := ⟨bm, 2, none⟩) rfl (by kernel_rfl) k90 (hK _ _ ?_); clear hK K))
      all_goals
        go_ret
        exact ⟨rfl, hs.pack (by repeat (first | with_reducible exact Pack.refl | with_reducible exact Pack.nil | with_reducible refine Pack.cons (by repeat (first | with_reducible exact Pick.here | with_reducible apply Pick.there)) ?_ | with_reducible apply Pack.drop))⟩
  · have hfew : ∀ w M, Sat W w M → old W ∈ M → Calls Try.prog 22 #[v] w fun e w' => e = .returned (.bool false) ∧ Sat W w' M := fun w M hs ho => by have := scfew_spec W w M hs ho v l h; unfold rfewPost at this; rw [fewB_no hsm] at this; exact this
    go_enter Try.func5, Try.ntmps5
    go_wp2_with (first
      | (go_at_call 15; go_must (refine (awake7_spec W _ _ hs).mono ?_); clear hs; rintro e w1 ⟨rfl, hs⟩)
      | (go_at_call 22; go_must (refine (hfew _ _ hs (by (try dsimp only [List.set]); repeat (first | exact hold | apply List.mem_cons_of_mem))).mono ?_); clear hs; rintro e w1 ⟨rfl, hs⟩))
    go_ret
    exact ⟨rfl, hs⟩
theorem scanOn_main (W : World) (l : List RDeed) (v : Value) (h0 : (Kin.slice 40 rdeedKin).K (hp W) l [v]) (n : UInt8) (v2 : Value) (h2 : Kin.u8.K (hp W) n [v2]) :
    Calls Try.prog 5 #[v, v2] W fun e w' => e = .returned (.bool true) ∧ Below W.heap.size W w' :=
  by cases h2; exact (scanOn_walk W W _ (Sat.start W) m0 v l h0 n).mono fun e w' ⟨he, hs⟩ => ⟨he, hs.end_ m0⟩
end Go.Proofs.Ytimknlabhhopcaa
