/- The walk of ScanCrash. -/
import Derived.Test.YtimknlabhhopcaaScRun
import Derived.Test.YtimknlabhhopcaaScAll
import Derived.Test.YtimknlabhhopcaaVdCrash
import Derived.Test.YtimknlabhhopcaaKinB
set_option linter.unusedVariables false
set_option linter.unusedSimpArgs false
namespace Go.Proofs.Ytimknlabhhopcaa
open Go.RowKit
def mcS (b : Nat) (cs : List Value) (w : World) : Prop := w.rangeAt b 0 cs
set_option maxRecDepth 100000 in
set_option maxHeartbeats 16000000 in
theorem scanCrash_walk (W w : World) (L : List HP) (hs : Sat W w L) (hold : old W ∈ L) (v : Value) (l : List RDeed) (h : rdeedsAt v l (hp W)) (vk : Value) (keep : List Bool) (hkp : Has L (boolsAt vk keep)) :
    Calls Try.prog 4 #[v, vk] w fun e w' => e = .returned (.bool true) ∧ Sat W w' L := by
  obtain ⟨Ae, ce, rfl, _, _⟩ := slice_form (hs.slice hkp)
  by_cases hsm : Small l
  · have hB := mdRun_inv l hsm l.length (Nat.le_refl _)
    rw [List.take_length] at hB
    have hrun : ∀ w M, Sat W w M → old W ∈ M → Calls Try.prog 23 #[v] w (scrunPost (mdRun l) W M) := fun w M hs ho => scrun_spec W w M hs ho v l h hsm
    have hfew : ∀ w M, Sat W w M → old W ∈ M → Calls Try.prog 22 #[v] w fun e w' => e = .returned (.bool true) ∧ Sat W w' M := fun w M hs ho => by have := scfew_spec W w M hs ho v l h; unfold rfewPost at this; rw [(fewB_iff l).2 hsm] at this; exact this
    have hl30 := hsm.1
    clear hsm
    generalize mdRun l = st at hB hrun
    obtain ⟨R, rl, sy⟩ := st
    obtain ⟨I, rows, cnt⟩ := hB
    dsimp only at I rows cnt
    obtain ⟨hlow, hnx⟩ := sc_low I
    have hrow : R.D.row.length ≤ 240 := by omega
    have hrl : rl.length ≤ 30 := by omega
    have ok := I.ok
    obtain ⟨k, hk1, hk2, hT⟩ := sc_crash I fun i => keep.getD i false
    obtain ⟨D, hD⟩ : ∃ D, R.D.crash (fun i => keep.getD i false) = D := ⟨_, rfl⟩
    have hrowD : D.row.length ≤ 240 := by rw [← hD]; exact Nat.zero_le _
    obtain ⟨en, hen⟩ : ∃ en, endAt R.low rl k = en := ⟨_, rfl⟩
    rw [hD, hen] at hT
    have hgeI : ¬ (k : Int) < (sy : Int) := by omega
    have hgeI2 : (sy : Int) ≤ (k : Int) := by omega
    have hlast : 0 < k → (rl[k - 1]?.map (·.2)) = some en := fun h0 => by rw [← hen, endAt_take_last R.low rl k h0 hk2, List.getElem?_eq_getElem (by omega)]; rfl
    have hlast0 : k = 0 → en = R.low := fun h0 => by rw [← hen, h0]; rfl
    have HL := Box.mk (And.intro hlast hlast0)
    have HD := Box.mk hD
    have HT := Box.mk hT
    clear I hT hD hen hlast hlast0
    go_enter Try.func4, Try.ntmps4
    go_wp2_with (first
      | (go_at_call 15; go_must (refine (awake7_spec W _ _ hs).mono ?_); clear hs; rintro e w1 ⟨rfl, hs⟩)
      | (go_at_call 22; go_must (refine (hfew _ _ hs (by (try dsimp only [List.set]); repeat (first | exact hold | apply List.mem_cons_of_mem))).mono ?_); clear hs; rintro e w1 ⟨rfl, hs⟩)
      | (go_at_call 23; go_must (refine (hrun _ _ hs (by (try dsimp only [List.set]); repeat (first | exact hold | apply List.mem_cons_of_mem))).mono ?_); clear hs; rintro e w1 ⟨b1, br, v2, v3, rfl, hs⟩; dsimp only at hs
         obtain ⟨A2, c2, rfl, hc2, _⟩ := slice_form (hs.slice (Has.mem m0 fun F h => h))
         obtain ⟨A3, c3, rfl, hc3, _⟩ := slice_form (hs.slice (Has.mem m1 fun F h => h)))
      | (guard_target = wpList _ _ _ (⟨some 6, .alloc _, _, _, _, _⟩ :: _) _ _; refine wpl (o := ⟨some 6, .alloc _, _, _, _, _⟩) rfl fun K hK => ?_; go_must (refine op_alloc hs rfl _ zmade zmd rfl fun bm w1 h => hK _ _ ?_); clear hs hK K; have hs := h; clear h; try dsimp only [List.set] at hs)
      | (guard_target = wpList _ _ _ (⟨none, .store _ (.tmp 6) _, _, _, _, _⟩ :: _) _ _; refine wpl (o := ⟨none, .store _ (.tmp 6) _, _, _, _, _⟩) rfl fun K hK => ?_; go_must (refine op_store_whole (hs.pick (A := row bm zmd 56) (by repeat (first | with_reducible exact Pick.here | with_reducible apply Pick.there))) (b := bm) rfl rfl (mdCells b1 br (.slice A2 rl.length c2) (.slice A3 rl.length c3) sy) rfl (md_one _ _ _ _ _ _ _ _ _) (by kernel_rfl) (k := 0) rfl rfl fun w3 h => hK _ _ ?_); clear hs hK K; have hs := h; clear h; try dsimp only [List.set] at hs)
      | (guard_target = wpList _ _ _ (⟨some 18, .load _ _, _, _, _, _⟩ :: _) _ _; refine wpl (o := ⟨some 18, .load _ _, _, _, _, _⟩) rfl fun K hK => op_load rfl (ad := ⟨bm, 1, none⟩) rfl (by kernel_rfl) (hs.cell (l := (mdCells b1 br (.slice A2 rl.length c2) (.slice A3 rl.length c3) sy)) (t := 56) (by (try dsimp only [List.set]); repeat (first | with_reducible exact List.mem_cons_self | with_reducible apply List.mem_cons_of_mem)) rfl) (hK _ _ ?_); clear hK K)
      | (guard_target = wpList _ _ _ (⟨some 21, .load _ _, _, _, _, _⟩ :: _) _ _; refine wpl (o := ⟨some 21, .load _ _, _, _, _, _⟩) rfl fun K hK => op_load rfl (ad := ⟨bm, 0, none⟩) rfl (by kernel_rfl) (hs.cell (l := (mdCells b1 br (.slice A2 rl.length c2) (.slice A3 rl.length c3) sy)) (t := 56) (by (try dsimp only [List.set]); repeat (first | with_reducible exact List.mem_cons_self | with_reducible apply List.mem_cons_of_mem)) rfl) (hK _ _ ?_); clear hK K)
      | (go_at_call 24; go_must (refine (crash_spec W _ _ b1 R.D (hs.pick (A := disk b1 R.D) (by repeat (first | with_reducible exact Pick.here | with_reducible apply Pick.there))) (by omega) _ keep (show Has _ (boolsAt _ keep) from (by (try dsimp only [List.set]); repeat (first | exact hkp | apply Has.tail)))).mono ?_); clear hs; rintro e w1 ⟨rfl, hs⟩; rw [HD.out] at hs))
    have cS : ∀ w M, Sat W w M → row bm (mdCells b1 br (.slice A2 rl.length c2) (.slice A3 rl.length c3) sy) 56 ∈ M → mcS bm (mdCells b1 br (.slice A2 rl.length c2) (.slice A3 rl.length c3) sy) w := fun w M h hm => range_whole h hm
    have d0 : ∀ w, mcS bm (mdCells b1 br (.slice A2 rl.length c2) (.slice A3 rl.length c3) sy) w → w.cell? ⟨bm, 0, none⟩ = some (.pointer (some ⟨b1, 0, none⟩)) := fun w h => h 0 _ rfl
    have d1 : ∀ w, mcS bm (mdCells b1 br (.slice A2 rl.length c2) (.slice A3 rl.length c3) sy) w → w.cell? ⟨bm, 1, none⟩ = some (.pointer (some ⟨br, 0, none⟩)) := fun w h => h 1 _ rfl
    have hS0 := cS _ _ hs.drew (by (try dsimp only [List.set]); repeat (first | with_reducible exact List.mem_cons_self | with_reducible apply List.mem_cons_of_mem))
    refine wp_region_tree (mcS bm (mdCells b1 br (.slice A2 rl.length c2) (.slice A3 rl.length c3) sy)) (.take 0 (.take 1 (.take 3 (.take 4 (.all [(2, .all [(5, .all [(6, .take 7 (.take 8 (.take 9 (.take 10 (.take 11 (DTree.done))))))])])]))))) (by kernel_rfl) (by kernel_rfl) (by kernel_rfl) (fun _ _ d _ _ h => by cases d <;> exact h) hS0 ?_
    have hs' := hs.drew
    clear hs
    have hs := hs'
    clear hs'
    have hq := fun p : Prop => class_const hS0 p
    clear hS0
    repeat (first
      | (with_reducible refine tree_load (o := ⟨some 26, .load _ _, _, _, _, _⟩) rfl rfl rfl rfl rfl d0 ?_)
      | (with_reducible refine tree_load (o := ⟨some 29, .load _ _, _, _, _, _⟩) rfl rfl rfl rfl rfl d1 ?_)
      | (refine tree_take rfl (fun K hK => ?_); go_simp; (first | with_reducible refine hK _ ?_ | (rw [if_neg (by decide)]; with_reducible refine hK _ ?_)); clear hK K))
    refine tree_one_yes (o := _) rfl rfl (fun K hK => ?_) (cS _ _ hs (by (try dsimp only [List.set]); repeat (first | with_reducible exact List.mem_cons_self | with_reducible apply List.mem_cons_of_mem)))
    try go_simp
    go_at_call 25
    refine (scplace_spec W _ _ hs).mono ?_
    clear hs
    rintro e w5 ⟨rfl, hs⟩
    try go_simp
    refine hK _ _ (cS _ _ hs (by (try dsimp only [List.set]); repeat (first | with_reducible exact List.mem_cons_self | with_reducible apply List.mem_cons_of_mem))) ?_
    clear hK K
    refine tree_one_yes (o := _) rfl rfl (fun K hK => ?_) (cS _ _ hs (by (try dsimp only [List.set]); repeat (first | with_reducible exact List.mem_cons_self | with_reducible apply List.mem_cons_of_mem)))
    try go_simp
    go_at_call 26
    refine (rlow_spec W _ _ hs br b1 R (by (try dsimp only [List.set]); repeat (first | with_reducible exact List.mem_cons_self | with_reducible apply List.mem_cons_of_mem))).mono ?_
    clear hs
    rintro e w5 ⟨rfl, hs⟩
    try go_simp
    refine hK _ _ (cS _ _ hs (by (try dsimp only [List.set]); repeat (first | with_reducible exact List.mem_cons_self | with_reducible apply List.mem_cons_of_mem))) ?_
    clear hK K
    refine tree_one_yes (o := _) rfl rfl (fun K hK => ?_) (cS _ _ hs (by (try dsimp only [List.set]); repeat (first | with_reducible exact List.mem_cons_self | with_reducible apply List.mem_cons_of_mem)))
    try go_simp
    go_at_call 20
    refine (scan8_spec W _ _ b1 D (hs.pick (A := disk b1 D) (by repeat (first | with_reducible exact Pick.here | with_reducible apply Pick.there))) 3 R.low (by omega) (by omega) _ _ HT.out).mono ?_
    clear hs
    rintro e w5 ⟨v5, out, rfl, hout, hs⟩
    have hlen : out.length = k := by have := congrArg List.length hout; simp at this; omega
    rw [hlen] at hs
    obtain ⟨A5, c5, rfl, _, _⟩ := own_slice hs (i := 0) rfl
    try go_simp
    refine hK _ _ (cS _ _ hs (by (try dsimp only [List.set]); repeat (first | with_reducible exact List.mem_cons_self | with_reducible apply List.mem_cons_of_mem))) ?_
    clear hK K
    repeat (first
      | (with_reducible refine tree_load (o := ⟨some 26, .load _ _, _, _, _, _⟩) rfl rfl rfl rfl rfl d0 ?_)
      | (with_reducible refine tree_load (o := ⟨some 29, .load _ _, _, _, _, _⟩) rfl rfl rfl rfl rfl d1 ?_)
      | (refine tree_take rfl (fun K hK => ?_); go_simp; (first | with_reducible refine hK _ ?_ | (rw [if_neg (by decide)]; with_reducible refine hK _ ?_)); clear hK K))
    refine tree_done ?_
    clear hq cS d0 d1
    have k50 : w5.rangeAt bm 0 (mdCells b1 br (.slice A2 rl.length c2) (.slice A3 rl.length c3) sy) := range_whole hs (by (try dsimp only [List.set]); repeat (first | with_reducible exact List.mem_cons_self | with_reducible apply List.mem_cons_of_mem))
    by_cases h0 : k = 0
    · have he := HL.out.2 h0
      have h0I : ¬ (0 : Int) < (k : Int) := by omega
      have HE := Box.mk he
      subst he
      clear HE HL h0
      go_wp2_with (first
        | (guard_target = wpList _ _ _ (⟨some 50, .load _ _, _, _, _, _⟩ :: _) _ _; refine wpl (o := ⟨some 50, .load _ _, _, _, _, _⟩) rfl fun K hK => op_load_agg rfl (b := bm) (i := 0) rfl (mdCells b1 br (.slice A2 rl.length c2) (.slice A3 rl.length c3) sy) k50 (by kernel_rfl) (by kernel_rfl) (hK _ _ ?_); clear hK K)
        | (guard_target = wpList _ _ _ (⟨some 35, .load _ _, _, _, _, _⟩ :: _) _ _; refine wpl (o := ⟨some 35, .load _ _, _, _, _, _⟩) rfl fun K hK => op_load rfl (ad := ⟨bm, 1, none⟩) rfl (by kernel_rfl) (hs.cell (l := (mdCells b1 br (.slice A2 rl.length c2) (.slice A3 rl.length c3) sy)) (t := 56) (by (try dsimp only [List.set]); repeat (first | with_reducible exact List.mem_cons_self | with_reducible apply List.mem_cons_of_mem)) rfl) (hK _ _ ?_); clear hK K)
        | (go_at_call 26; go_must (refine (rlow_spec W _ _ hs br b1 R (by (try dsimp only [List.set]); repeat (first | with_reducible exact List.mem_cons_self | with_reducible apply List.mem_cons_of_mem))).mono ?_); clear hs; rintro e w1 ⟨rfl, hs⟩
           have k50 : w1.rangeAt bm 0 (mdCells b1 br (.slice A2 rl.length c2) (.slice A3 rl.length c3) sy) := range_whole hs (by (try dsimp only [List.set]); repeat (first | with_reducible exact List.mem_cons_self | with_reducible apply List.mem_cons_of_mem)))
        | (go_at_call 27; go_must (refine (begins_spec W _ _ b1 br rl sy _ _ _ out k hk2 hout (by first | omega | (simp; omega)) (by rw [hlen]; exact ((((hs.pick (A := sl1 (.slice A3 rl.length c3) rl.length (rcsN rl)) (by repeat (first | with_reducible exact Pick.here | with_reducible apply Pick.there))).pick (A := sl1 (.slice A2 rl.length c2) rl.length (rcsS rl)) (by repeat (first | with_reducible exact Pick.here | with_reducible apply Pick.there))).pick (A := rcBods out) (by repeat (first | with_reducible exact Pick.here | with_reducible apply Pick.there))).pick (A := own (.slice A5 k c5) 46 k 2 (rcCells out)) (by repeat (first | with_reducible exact Pick.here | with_reducible apply Pick.there))))).mono ?_); clear hs; rintro e w1 ⟨rfl, hs⟩
           have k57 : w1.cell? ⟨bm, 4, none⟩ = some (.int .i64 (sy : Nat)) := hs.cell (l := (mdCells b1 br (.slice A2 rl.length c2) (.slice A3 rl.length c3) sy)) (t := 56) (by (try dsimp only [List.set]); repeat (first | with_reducible exact List.mem_cons_self | with_reducible apply List.mem_cons_of_mem)) rfl)
        | (guard_target = wpList _ _ _ (⟨some 57, .load _ _, _, _, _, _⟩ :: _) _ _; refine wpl (o := ⟨some 57, .load _ _, _, _, _, _⟩) rfl fun K hK => op_load rfl (ad := ⟨bm, 4, none⟩) rfl (by kernel_rfl) k57 (hK _ _ ?_); clear hK K))
      go_ret
      exact ⟨rfl, hs.pack (by repeat (first | with_reducible exact Pack.refl | with_reducible exact Pack.nil | with_reducible refine Pack.cons (by repeat (first | with_reducible exact Pick.here | with_reducible apply Pick.there)) ?_ | with_reducible apply Pack.drop))⟩
    · obtain ⟨km, hkm⟩ : ∃ km, k - 1 = km := ⟨_, rfl⟩
      have h0I : (0 : Int) < (k : Int) := by omega
      have hkmI : IntKind.i64.wrap ((k : Int) - 1) = (km : Int) := by rw [IntKind.wrap_i64]; omega
      have hkmlt : (km : Int) < (k : Int) := by omega
      obtain ⟨p5, q5, e5, _, _⟩ := own_formS hs (v := .slice A5 k c5) m0 (by omega)
      cases e5
      have hlast := HL.out.1 (by omega)
      rw [hkm, List.getElem?_eq_getElem (by omega)] at hlast
      have hg := rec_get hout km (by omega) (by omega)
      have g0 := rcCells_get out km (by omega) 0 (by omega)
      have hl2 : rl[km].2 = en := Option.some.inj hlast
      rw [hg, hl2] at g0
      clear hlast hl2 hg hkm HL
      have k35 : w5.cell? ⟨bm, 1, none⟩ = some (.pointer (some ⟨br, 0, none⟩)) := hs.cell (l := (mdCells b1 br (.slice A2 rl.length c2) (.slice A3 rl.length c3) sy)) (t := 56) (by (try dsimp only [List.set]); repeat (first | with_reducible exact List.mem_cons_self | with_reducible apply List.mem_cons_of_mem)) rfl
      go_wp2_with (first
        | (guard_target = wpList _ _ _ (⟨some 50, .load _ _, _, _, _, _⟩ :: _) _ _; refine wpl (o := ⟨some 50, .load _ _, _, _, _, _⟩) rfl fun K hK => op_load_agg rfl (b := bm) (i := 0) rfl (mdCells b1 br (.slice A2 rl.length c2) (.slice A3 rl.length c3) sy) k50 (by kernel_rfl) (by kernel_rfl) (hK _ _ ?_); clear hK K)
        | (guard_target = wpList _ _ _ (⟨some 35, .load _ _, _, _, _, _⟩ :: _) _ _; refine wpl (o := ⟨some 35, .load _ _, _, _, _, _⟩) rfl fun K hK => op_load rfl (ad := ⟨bm, 1, none⟩) rfl (by kernel_rfl) (hs.cell (l := (mdCells b1 br (.slice A2 rl.length c2) (.slice A3 rl.length c3) sy)) (t := 56) (by (try dsimp only [List.set]); repeat (first | with_reducible exact List.mem_cons_self | with_reducible apply List.mem_cons_of_mem)) rfl) (hK _ _ ?_); clear hK K)
        | (go_at_call 26; go_must (refine (rlow_spec W _ _ hs br b1 R (by (try dsimp only [List.set]); repeat (first | with_reducible exact List.mem_cons_self | with_reducible apply List.mem_cons_of_mem))).mono ?_); clear hs; rintro e w1 ⟨rfl, hs⟩
           have k50 : w1.rangeAt bm 0 (mdCells b1 br (.slice A2 rl.length c2) (.slice A3 rl.length c3) sy) := range_whole hs (by (try dsimp only [List.set]); repeat (first | with_reducible exact List.mem_cons_self | with_reducible apply List.mem_cons_of_mem))
           have k46 : w1.cell? ⟨p5, km * 2, none⟩ = some (.int .u32 (en : Nat)) := own_cell hs (by (try dsimp only [List.set]); repeat (first | with_reducible exact List.mem_cons_self | with_reducible apply List.mem_cons_of_mem)) g0)
        | (guard_target = wpList _ _ _ (⟨some 46, .load _ _, _, _, _, _⟩ :: _) _ _; refine wpl (o := ⟨some 46, .load _ _, _, _, _, _⟩) rfl fun K hK => op_load rfl (ad := ⟨p5, km * 2, none⟩) rfl (by kernel_rfl) k46 (hK _ _ ?_); clear hK K)
        | (go_at_call 27; go_must (refine (begins_spec W _ _ b1 br rl sy _ _ _ out k hk2 hout (by first | omega | (simp; omega)) (by rw [hlen]; exact ((((hs.pick (A := sl1 (.slice A3 rl.length c3) rl.length (rcsN rl)) (by repeat (first | with_reducible exact Pick.here | with_reducible apply Pick.there))).pick (A := sl1 (.slice A2 rl.length c2) rl.length (rcsS rl)) (by repeat (first | with_reducible exact Pick.here | with_reducible apply Pick.there))).pick (A := rcBods out) (by repeat (first | with_reducible exact Pick.here | with_reducible apply Pick.there))).pick (A := own (.slice (some ⟨p5, 0, none⟩) k c5) 46 k 2 (rcCells out)) (by repeat (first | with_reducible exact Pick.here | with_reducible apply Pick.there))))).mono ?_); clear hs; rintro e w1 ⟨rfl, hs⟩
           have k57 : w1.cell? ⟨bm, 4, none⟩ = some (.int .i64 (sy : Nat)) := hs.cell (l := (mdCells b1 br (.slice A2 rl.length c2) (.slice A3 rl.length c3) sy)) (t := 56) (by (try dsimp only [List.set]); repeat (first | with_reducible exact List.mem_cons_self | with_reducible apply List.mem_cons_of_mem)) rfl)
        | (guard_target = wpList _ _ _ (⟨some 57, .load _ _, _, _, _, _⟩ :: _) _ _; refine wpl (o := ⟨some 57, .load _ _, _, _, _, _⟩) rfl fun K hK => op_load rfl (ad := ⟨bm, 4, none⟩) rfl (by kernel_rfl) k57 (hK _ _ ?_); clear hK K))
      go_ret
      exact ⟨rfl, hs.pack (by repeat (first | with_reducible exact Pack.refl | with_reducible exact Pack.nil | with_reducible refine Pack.cons (by repeat (first | with_reducible exact Pick.here | with_reducible apply Pick.there)) ?_ | with_reducible apply Pack.drop))⟩
  · have hfew : ∀ w M, Sat W w M → old W ∈ M → Calls Try.prog 22 #[v] w fun e w' => e = .returned (.bool false) ∧ Sat W w' M := fun w M hs ho => by have := scfew_spec W w M hs ho v l h; unfold rfewPost at this; rw [fewB_no hsm] at this; exact this
    go_enter Try.func4, Try.ntmps4
    go_wp2_with (first
      | (go_at_call 15; go_must (refine (awake7_spec W _ _ hs).mono ?_); clear hs; rintro e w1 ⟨rfl, hs⟩)
      | (go_at_call 22; go_must (refine (hfew _ _ hs (by (try dsimp only [List.set]); repeat (first | exact hold | apply List.mem_cons_of_mem))).mono ?_); clear hs; rintro e w1 ⟨rfl, hs⟩))
    go_ret
    exact ⟨rfl, hs⟩
theorem scanCrash_main (W : World) (l : List RDeed) (v : Value) (h0 : (Kin.slice 40 rdeedKin).K (hp W) l [v]) (l3 : List Bool) (v3 : Value) (h3 : (Kin.slice 1 Kin.bool).K (hp W) l3 [v3]) :
    Calls Try.prog 4 #[v, v3] W fun e w' => e = .returned (.bool true) ∧ Below W.heap.size W w' :=
  (scanCrash_walk W W _ (Sat.start W) m0 v l h0 v3 l3 ((has_old h3).imp fun F hF => (kin_bools hF).1)).mono fun e w' ⟨he, hs⟩ => ⟨he, hs.end_ m0⟩
end Go.Proofs.Ytimknlabhhopcaa
