/- The walk of ScanLoses. -/
import Derived.Test.YtimknlabhhopcaaScRun
import Derived.Test.YtimknlabhhopcaaScAll
import Derived.Test.YtimknlabhhopcaaVdCrash
import Derived.Test.YtimknlabhhopcaaLift
set_option linter.unusedVariables false
set_option linter.unusedSimpArgs false
namespace Go.Proofs.Ytimknlabhhopcaa
open Go.RowKit
def mcS (b : Nat) (cs : List Value) (w : World) : Prop := w.rangeAt b 0 cs
set_option maxRecDepth 100000 in
set_option maxHeartbeats 16000000 in
theorem scanLoses_walk (W w : World) (L : List HP) (hs : Sat W w L) (hold : old W ∈ L) (v : Value) (l : List RDeed) (h : rdeedsAt v l (hp W)) (vb : Value) (rec : List UInt8) (hv : Has L (bytesAt vb rec)) :
    Calls Try.prog 7 #[v, vb] w fun e w' => e = .returned (.bool true) ∧ Sat W w' L := by
  obtain ⟨Ae, ce, rfl, _, _⟩ := slice_form (hs.bytes hv)
  by_cases hsm : Small l
  · have hB := mdRun_inv l hsm l.length (Nat.le_refl _)
    rw [List.take_length] at hB
    have hrun : ∀ w M, Sat W w M → old W ∈ M → Calls Try.prog 23 #[v] w (scrunPost (mdRun l) W M) := fun w M hs ho => scrun_spec W w M hs ho v l h hsm
    have hfew : ∀ w M, Sat W w M → old W ∈ M → Calls Try.prog 22 #[v] w fun e w' => e = .returned (.bool true) ∧ Sat W w' M := fun w M hs ho => by have := scfew_spec W w M hs ho v l h; unfold rfewPost at this; rw [(fewB_iff l).2 hsm] at this; exact this
    have hl30 := hsm.1
    clear hsm
    generalize mdRun l = st at hB hrun
    obtain ⟨R, rl, sy⟩ := st
    obtain ⟨I, rows, cnt⟩ := hB
    dsimp only at I rows cnt
    obtain ⟨hlow, hnx⟩ := sc_low I
    have hrow : R.D.row.length ≤ 240 := by omega
    have hrl : rl.length ≤ 30 := by omega
    have ok := I.ok
    have hI' := Box.mk I
    by_cases h400 : 400 < rec.length
    · have h400I : (400 : Int) < (rec.length : Int) := by omega
      clear I
      go_enter Try.func7, Try.ntmps7
      go_wp2_with (first
        | (go_at_call 15; go_must (refine (awake7_spec W _ _ hs).mono ?_); clear hs; rintro e w1 ⟨rfl, hs⟩)
        | (go_at_call 22; go_must (refine (hfew _ _ hs (by (try dsimp only [List.set]); repeat (first | exact hold | apply List.mem_cons_of_mem))).mono ?_); clear hs; rintro e w1 ⟨rfl, hs⟩))
      go_ret
      exact ⟨rfl, hs⟩
    · have h400I : ¬ (400 : Int) < (rec.length : Int) := by omega
      obtain ⟨R1, hR1⟩ : ∃ R1, R.sync = R1 := ⟨_, rfl⟩
      obtain ⟨R2, hR2⟩ : ∃ R2, R1.append rec = R2 := ⟨_, rfl⟩
      obtain ⟨D, hD⟩ : ∃ D, R2.D.crash (fun i => ([] : List Bool).getD i false) = D := ⟨_, rfl⟩
      have hrowD : D.row.length ≤ 240 := by rw [← hD]; exact Nat.zero_le _
      have ok1 : R1.Ok := by rw [← hR1]; exact I.sync.ok
      have hlow1 : R1.low < 4294967296 := by rw [← hR1]; exact hlow
      have hr1 : R1.D.row.length = 0 := by rw [← hR1]; rfl
      have hr2 : R2.D.row.length ≤ 8 := by
        have h1 := Rg.append_row R1 rec
        have h2 := cuts_400S (l := rec) (by omega)
        rw [hR2] at h1; omega
      have hT : scGo (scF D 2 8 3) 8 R1.low R1.low true [] [] = (rl, R1.next) := by
        have := sc_loses I rec
        rw [hR1, hR2, hD] at this
        rw [show R1.low = R.low by rw [← hR1]; rfl, show R1.next = R.next by rw [← hR1]; rfl]
        exact this
      have hrg : ∀ br b1, rg br b1 R = rg br b1 R1 := fun br b1 => by rw [← hR1]; rfl
      have hD1 : R.D.sync = R1.D := by rw [← hR1]; rfl
      have H1 := Box.mk (And.intro hD1 hrg)
      have H2 := Box.mk hR2
      have HD := Box.mk hD
      have HT := Box.mk hT
      clear I hT hD hD1 hrg hR1 hR2
      go_enter Try.func7, Try.ntmps7
      go_wp2_with (first
        | (go_at_call 15; go_must (refine (awake7_spec W _ _ hs).mono ?_); clear hs; rintro e w1 ⟨rfl, hs⟩)
        | (go_at_call 22; go_must (refine (hfew _ _ hs (by (try dsimp only [List.set]); repeat (first | exact hold | apply List.mem_cons_of_mem))).mono ?_); clear hs; rintro e w1 ⟨rfl, hs⟩)
        | (go_at_call 23; go_must (refine (hrun _ _ hs (by (try dsimp only [List.set]); repeat (first | exact hold | apply List.mem_cons_of_mem))).mono ?_); clear hs; rintro e w1 ⟨b1, br, v2, v3, rfl, hs⟩; dsimp only at hs
           obtain ⟨A2, c2, rfl, hc2, _⟩ := slice_form (hs.slice (Has.mem m0 fun F h => h))
           obtain ⟨A3, c3, rfl, hc3, _⟩ := slice_form (hs.slice (Has.mem m1 fun F h => h)))
        | (guard_target = wpList _ _ _ (⟨some 6, .alloc _, _, _, _, _⟩ :: _) _ _; refine wpl (o := ⟨some 6, .alloc _, _, _, _, _⟩) rfl fun K hK => ?_; go_must (refine op_alloc hs rfl _ zmade zmd rfl fun bm w1 h => hK _ _ ?_); clear hs hK K; have hs := h; clear h; try dsimp only [List.set] at hs)
        | (guard_target = wpList _ _ _ (⟨none, .store _ (.tmp 6) _, _, _, _, _⟩ :: _) _ _; refine wpl (o := ⟨none, .store _ (.tmp 6) _, _, _, _, _⟩) rfl fun K hK => ?_; go_must (refine op_store_whole (hs.pick (A := row bm zmd 56) (by repeat (first | with_reducible exact Pick.here | with_reducible apply Pick.there))) (b := bm) rfl rfl (mdCells b1 br (.slice A2 rl.length c2) (.slice A3 rl.length c3) sy) rfl (md_one _ _ _ _ _ _ _ _ _) (by kernel_rfl) (k := 0) rfl rfl fun w3 h => hK _ _ ?_); clear hs hK K; have hs := h; clear h; try dsimp only [List.set] at hs)
        | (guard_target = wpList _ _ _ (⟨some 24, .load _ _, _, _, _, _⟩ :: _) _ _; refine wpl (o := ⟨some 24, .load _ _, _, _, _, _⟩) rfl fun K hK => op_load rfl (ad := ⟨bm, 1, none⟩) rfl (by kernel_rfl) (hs.cell (l := (mdCells b1 br (.slice A2 rl.length c2) (.slice A3 rl.length c3) sy)) (t := 56) (by (try dsimp only [List.set]); repeat (first | with_reducible exact List.mem_cons_self | with_reducible apply List.mem_cons_of_mem)) rfl) (hK _ _ ?_); clear hK K)
        | (guard_target = wpList _ _ _ (⟨some 27, .load _ _, _, _, _, _⟩ :: _) _ _; refine wpl (o := ⟨some 27, .load _ _, _, _, _, _⟩) rfl fun K hK => op_load rfl (ad := ⟨bm, 0, none⟩) rfl (by kernel_rfl) (hs.cell (l := (mdCells b1 br (.slice A2 rl.length c2) (.slice A3 rl.length c3) sy)) (t := 56) (by (try dsimp only [List.set]); repeat (first | with_reducible exact List.mem_cons_self | with_reducible apply List.mem_cons_of_mem)) rfl) (hK _ _ ?_); clear hK K)
        | (go_at_call 29; go_must (refine (sync_spec W _ _ b1 R.D (hs.pick (A := disk b1 R.D) (by repeat (first | with_reducible exact Pick.here | with_reducible apply Pick.there))) (by omega)).mono ?_); clear hs; rintro e w1 ⟨rfl, hs⟩; rw [H1.out.1, H1.out.2 br b1] at hs)
        | (guard_target = wpList _ _ _ (⟨some 30, .load _ _, _, _, _, _⟩ :: _) _ _; refine wpl (o := ⟨some 30, .load _ _, _, _, _, _⟩) rfl fun K hK => op_load rfl (ad := ⟨bm, 1, none⟩) rfl (by kernel_rfl) (hs.cell (l := (mdCells b1 br (.slice A2 rl.length c2) (.slice A3 rl.length c3) sy)) (t := 56) (by (try dsimp only [List.set]); repeat (first | with_reducible exact List.mem_cons_self | with_reducible apply List.mem_cons_of_mem)) rfl) (hK _ _ ?_); clear hK K)
        | (guard_target = wpList _ _ _ (⟨some 33, .load _ _, _, _, _, _⟩ :: _) _ _; refine wpl (o := ⟨some 33, .load _ _, _, _, _, _⟩) rfl fun K hK => op_load rfl (ad := ⟨bm, 1, none⟩) rfl (by kernel_rfl) (hs.cell (l := (mdCells b1 br (.slice A2 rl.length c2) (.slice A3 rl.length c3) sy)) (t := 56) (by (try dsimp only [List.set]); repeat (first | with_reducible exact List.mem_cons_self | with_reducible apply List.mem_cons_of_mem)) rfl) (hK _ _ ?_); clear hK K)
        | (guard_target = wpList _ _ _ (⟨some 36, .load _ _, _, _, _, _⟩ :: _) _ _; refine wpl (o := ⟨some 36, .load _ _, _, _, _, _⟩) rfl fun K hK => op_load rfl (ad := ⟨bm, 1, none⟩) rfl (by kernel_rfl) (hs.cell (l := (mdCells b1 br (.slice A2 rl.length c2) (.slice A3 rl.length c3) sy)) (t := 56) (by (try dsimp only [List.set]); repeat (first | with_reducible exact List.mem_cons_self | with_reducible apply List.mem_cons_of_mem)) rfl) (hK _ _ ?_); clear hK K)
        | (guard_target = wpList _ _ _ (⟨some 40, .load _ _, _, _, _, _⟩ :: _) _ _; refine wpl (o := ⟨some 40, .load _ _, _, _, _, _⟩) rfl fun K hK => op_load rfl (ad := ⟨bm, 0, none⟩) rfl (by kernel_rfl) (hs.cell (l := (mdCells b1 br (.slice A2 rl.length c2) (.slice A3 rl.length c3) sy)) (t := 56) (by (try dsimp only [List.set]); repeat (first | with_reducible exact List.mem_cons_self | with_reducible apply List.mem_cons_of_mem)) rfl) (hK _ _ ?_); clear hK K)
        | (go_at_call 26; go_must (refine (rlow_spec W _ _ hs br b1 R1 (by (try dsimp only [List.set]); repeat (first | with_reducible exact List.mem_cons_self | with_reducible apply List.mem_cons_of_mem))).mono ?_); clear hs; rintro e w1 ⟨rfl, hs⟩)
        | (go_at_call 28; go_must (refine (rnext_spec W _ _ hs br b1 R1 (by (try dsimp only [List.set]); repeat (first | with_reducible exact List.mem_cons_self | with_reducible apply List.mem_cons_of_mem))).mono ?_); clear hs; rintro e w1 ⟨rfl, hs⟩)
        | (go_at_call 30; go_must (refine (append_spec W _ _ br b1 R1 ok1 ((hs.pick (A := rg br b1 R1) (by repeat (first | with_reducible exact Pick.here | with_reducible apply Pick.there))).pick (A := disk b1 R1.D) (by repeat (first | with_reducible exact Pick.here | with_reducible apply Pick.there))) _ rec (show Has _ (bytesAt _ rec) from (by (try dsimp only [List.set]); repeat (first | exact hv | apply Has.tail))) (by omega) (by omega)).mono ?_); clear hs; rintro e w1 ⟨rfl, hs⟩; rw [H2.out] at hs)
        | (go_at_call 24; go_must (refine (crash_spec W _ _ b1 R2.D (hs.pick (A := disk b1 R2.D) (by repeat (first | with_reducible exact Pick.here | with_reducible apply Pick.there))) (by omega) (.slice none 0 0) [] (slice_nil none 1 (Has.mem m0 fun _ _ => trivial))).mono ?_); clear hs; rintro e w1 ⟨rfl, hs⟩; rw [HD.out] at hs))
      have cS : ∀ w M, Sat W w M → row bm (mdCells b1 br (.slice A2 rl.length c2) (.slice A3 rl.length c3) sy) 56 ∈ M → mcS bm (mdCells b1 br (.slice A2 rl.length c2) (.slice A3 rl.length c3) sy) w := fun w M h hm => range_whole h hm
      have d0 : ∀ w, mcS bm (mdCells b1 br (.slice A2 rl.length c2) (.slice A3 rl.length c3) sy) w → w.cell? ⟨bm, 0, none⟩ = some (.pointer (some ⟨b1, 0, none⟩)) := fun w h => h 0 _ rfl
      have d1 : ∀ w, mcS bm (mdCells b1 br (.slice A2 rl.length c2) (.slice A3 rl.length c3) sy) w → w.cell? ⟨bm, 1, none⟩ = some (.pointer (some ⟨br, 0, none⟩)) := fun w h => h 1 _ rfl
      have hS0 := cS _ _ hs.drew (by (try dsimp only [List.set]); repeat (first | with_reducible exact List.mem_cons_self | with_reducible apply List.mem_cons_of_mem))
      refine wp_region_tree (mcS bm (mdCells b1 br (.slice A2 rl.length c2) (.slice A3 rl.length c3) sy)) (.take 0 (.take 1 (.take 3 (.all [(2, .all [(4, .take 5 (.take 6 (.take 7 (.take 8 (.take 9 (DTree.done))))))])])))) (by kernel_rfl) (by kernel_rfl) (by kernel_rfl) (fun _ _ d _ _ h => by cases d <;> exact h) hS0 ?_
      have hs' := hs.drew
      clear hs
      have hs := hs'
      clear hs'
      have hq := fun p : Prop => class_const hS0 p
      clear hS0
      repeat (first
        | (with_reducible refine tree_load (o := ⟨some 44, .load _ _, _, _, _, _⟩) rfl rfl rfl rfl rfl d0 ?_)
        | (refine tree_take rfl (fun K hK => ?_); go_simp; (first | with_reducible refine hK _ ?_ | (rw [if_neg (by decide)]; with_reducible refine hK _ ?_)); clear hK K))
      refine tree_one_yes (o := _) rfl rfl (fun K hK => ?_) (cS _ _ hs (by (try dsimp only [List.set]); repeat (first | with_reducible exact List.mem_cons_self | with_reducible apply List.mem_cons_of_mem)))
      try go_simp
      go_at_call 25
      refine (scplace_spec W _ _ hs).mono ?_
      clear hs
      rintro e w5 ⟨rfl, hs⟩
      try go_simp
      refine hK _ _ (cS _ _ hs (by (try dsimp only [List.set]); repeat (first | with_reducible exact List.mem_cons_self | with_reducible apply List.mem_cons_of_mem))) ?_
      clear hK K
      refine tree_one_yes (o := _) rfl rfl (fun K hK => ?_) (cS _ _ hs (by (try dsimp only [List.set]); repeat (first | with_reducible exact List.mem_cons_self | with_reducible apply List.mem_cons_of_mem)))
      try go_simp
      go_at_call 20
      refine (scan8_spec W _ _ b1 D (hs.pick (A := disk b1 D) (by repeat (first | with_reducible exact Pick.here | with_reducible apply Pick.there))) 3 R1.low (by omega) (by omega) _ _ HT.out).mono ?_
      clear hs
      rintro e w5 ⟨v5, out, rfl, hout, hs⟩
      have hlen : out.length = rl.length := by have := congrArg List.length hout; simpa using this
      rw [hlen] at hs
      obtain ⟨A5, c5, rfl, _, _⟩ := own_slice hs (i := 0) rfl
      try go_simp
      refine hK _ _ (cS _ _ hs (by (try dsimp only [List.set]); repeat (first | with_reducible exact List.mem_cons_self | with_reducible apply List.mem_cons_of_mem))) ?_
      clear hK K
      repeat (first
        | (with_reducible refine tree_load (o := ⟨some 44, .load _ _, _, _, _, _⟩) rfl rfl rfl rfl rfl d0 ?_)
        | (refine tree_take rfl (fun K hK => ?_); go_simp; (first | with_reducible refine hK _ ?_ | (rw [if_neg (by decide)]; with_reducible refine hK _ ?_)); clear hK K))
      refine tree_done ?_
      clear hq cS d0 d1
      have k53 : w5.rangeAt bm 0 (mdCells b1 br (.slice A2 rl.length c2) (.slice A3 rl.length c3) sy) := range_whole hs (by (try dsimp only [List.set]); repeat (first | with_reducible exact List.mem_cons_self | with_reducible apply List.mem_cons_of_mem))
      go_wp2_with (first
        | (guard_target = wpList _ _ _ (⟨some 53, .load _ _, _, _, _, _⟩ :: _) _ _; refine wpl (o := ⟨some 53, .load _ _, _, _, _, _⟩) rfl fun K hK => op_load_agg rfl (b := bm) (i := 0) rfl (mdCells b1 br (.slice A2 rl.length c2) (.slice A3 rl.length c3) sy) k53 (by kernel_rfl) (by kernel_rfl) (hK _ _ ?_); clear hK K)
        | (go_at_call 27; go_must (refine (begins_spec W _ _ b1 br rl sy _ _ _ out rl.length (Nat.le_refl _) (by rw [hout, List.take_length]) (by first | omega | (simp; omega)) (by rw [hlen]; exact ((((hs.pick (A := sl1 (.slice A3 rl.length c3) rl.length (rcsN rl)) (by repeat (first | with_reducible exact Pick.here | with_reducible apply Pick.there))).pick (A := sl1 (.slice A2 rl.length c2) rl.length (rcsS rl)) (by repeat (first | with_reducible exact Pick.here | with_reducible apply Pick.there))).pick (A := rcBods out) (by repeat (first | with_reducible exact Pick.here | with_reducible apply Pick.there))).pick (A := own (.slice A5 rl.length c5) 46 rl.length 2 (rcCells out)) (by repeat (first | with_reducible exact Pick.here | with_reducible apply Pick.there))))).mono ?_); clear hs; rintro e w1 ⟨rfl, hs⟩
           have k60 : w1.cell? ⟨bm, 2, none⟩ = some (.slice A2 rl.length c2) := hs.cell (l := (mdCells b1 br (.slice A2 rl.length c2) (.slice A3 rl.length c3) sy)) (t := 56) (by (try dsimp only [List.set]); repeat (first | with_reducible exact List.mem_cons_self | with_reducible apply List.mem_cons_of_mem)) rfl)
        | (guard_target = wpList _ _ _ (⟨some 60, .load _ _, _, _, _, _⟩ :: _) _ _; refine wpl (o := ⟨some 60, .load _ _, _, _, _, _⟩) rfl fun K hK => op_load rfl (ad := ⟨bm, 2, none⟩) rfl (by kernel_rfl) k60 (hK _ _ ?_); clear hK K))
      go_ret
      exact ⟨rfl, hs.pack (by repeat (first | with_reducible exact Pack.refl | with_reducible exact Pack.nil | with_reducible refine Pack.cons (by repeat (first | with_reducible exact Pick.here | with_reducible apply Pick.there)) ?_ | with_reducible apply Pack.drop))⟩
  · have hfew : ∀ w M, Sat W w M → old W ∈ M → Calls Try.prog 22 #[v] w fun e w' => e = .returned (.bool false) ∧ Sat W w' M := fun w M hs ho => by have := scfew_spec W w M hs ho v l h; unfold rfewPost at this; rw [fewB_no hsm] at this; exact this
    go_enter Try.func7, Try.ntmps7
    go_wp2_with (first
      | (go_at_call 15; go_must (refine (awake7_spec W _ _ hs).mono ?_); clear hs; rintro e w1 ⟨rfl, hs⟩)
      | (go_at_call 22; go_must (refine (hfew _ _ hs (by (try dsimp only [List.set]); repeat (first | exact hold | apply List.mem_cons_of_mem))).mono ?_); clear hs; rintro e w1 ⟨rfl, hs⟩))
    go_ret
    exact ⟨rfl, hs⟩
theorem scanLoses_main (W : World) (l : List RDeed) (v : Value) (h0 : (Kin.slice 40 rdeedKin).K (hp W) l [v]) (l2 : List UInt8) (v2 : Value) (h2 : (Kin.slice 1 Kin.u8).K (hp W) l2 [v2]) :
    Calls Try.prog 7 #[v, v2] W fun e w' => e = .returned (.bool true) ∧ Below W.heap.size W w' :=
  (scanLoses_walk W W _ (Sat.start W) m0 v l h0 v2 l2 ((has_old h2).imp fun F hF => (kin_bytes hF).1)).mono fun e w' ⟨he, hs⟩ => ⟨he, hs.end_ m0⟩
end Go.Proofs.Ytimknlabhhopcaa
