/- The walk of ScanStill. -/
import Derived.Test.YtimknlabhhopcaaScRun
import Derived.Test.YtimknlabhhopcaaScAll
import Derived.Test.YtimknlabhhopcaaVdCrash
import Derived.Test.YtimknlabhhopcaaLift
import Derived.Test.YtimknlabhhopcaaVdCopy
import Derived.Test.YtimknlabhhopcaaRCutM
set_option linter.unusedVariables false
set_option linter.unusedSimpArgs false
namespace Go.Proofs.Ytimknlabhhopcaa
open Go.RowKit
theorem scGo_len (fr : Nat → Option Fr) (k : Nat) : ∀ (n next : Nat) (bg : Bool) (body : List UInt8) (out : List Rcd), (scGo fr k n next bg body out).1.length ≤ k + out.length := by
  induction k with
  | zero => intro n next bg body out; simp [scGo]
  | succ k ih =>
    intro n next bg body out
    rw [scGo]
    cases fr n with
    | none => simp <;> omega
    | some f =>
      dsimp only
      split
      · split
        · refine Nat.le_trans (ih _ _ _ _ _) ?_; simp <;> omega
        · refine Nat.le_trans (ih _ _ _ _ _) ?_; omega
      · simp <;> omega
theorem row64 {b : Nat} {y : List UInt8} {t : TypeId} (h : y.length = 64) : ∀ F, row b (u8s y) t F → own (.slice (some ⟨b, 0, none⟩) 64 64) t y.length 1 (u8s y) F := fun F hF => by
  have := own_exact (n := 64) (sz := 1) (by simp [h]) (by omega) F hF
  rw [h]; exact this
def zringC : List Value := [.slice none 0 0, .slice none 0 0, .slice none 0 0, .int .i64 0, .int .i64 0, .int .u32 0, .int .u32 0, .int .u32 0]
theorem zring : (Try.prog.info? 73).bind (·.zero) = some (.agg zringC.toArray) := by kernel_rfl
def mcS (b : Nat) (cs : List Value) (w : World) : Prop := w.rangeAt b 0 cs
set_option maxRecDepth 100000 in
set_option maxHeartbeats 16000000 in
theorem scanStill_walk (W w : World) (L : List HP) (hs : Sat W w L) (hold : old W ∈ L) (v : Value) (l : List RDeed) (h : rdeedsAt v l (hp W)) (from_ : Nat) (hfr : from_ < 4294967296) :
    Calls Try.prog 8 #[v, .int .u32 (from_ : Nat)] w fun e w' => e = .returned (.bool true) ∧ Sat W w' L := by
  by_cases hsm : Small l
  · have hB := mdRun_inv l hsm l.length (Nat.le_refl _)
    rw [List.take_length] at hB
    have hrun : ∀ w M, Sat W w M → old W ∈ M → Calls Try.prog 23 #[v] w (scrunPost (mdRun l) W M) := fun w M hs ho => scrun_spec W w M hs ho v l h hsm
    have hfew : ∀ w M, Sat W w M → old W ∈ M → Calls Try.prog 22 #[v] w fun e w' => e = .returned (.bool true) ∧ Sat W w' M := fun w M hs ho => by have := scfew_spec W w M hs ho v l h; unfold rfewPost at this; rw [(fewB_iff l).2 hsm] at this; exact this
    have hl30 := hsm.1
    clear hsm
    generalize mdRun l = st at hB hrun
    obtain ⟨R, rl, sy⟩ := st
    obtain ⟨I, rows, cnt⟩ := hB
    dsimp only at I rows cnt
    obtain ⟨hlow, hnx⟩ := sc_low I
    have hrow : R.D.row.length ≤ 240 := by omega
    have hrl : rl.length ≤ 30 := by omega
    have ok := I.ok
    obtain ⟨⟨fl, fn⟩, hT⟩ : ∃ T, scGo (scF R.D 2 8 3) 8 from_ from_ true [] [] = T := ⟨_, rfl⟩
    obtain ⟨N, hN⟩ : ∃ N, fl.length = N := ⟨_, rfl⟩
    have HT := Box.mk hT
    have HN := Box.mk hN
    have H12 : Box (0 < R.D.secs.length ∧ ∀ i, i < 12 → i < R.D.secs.length) := ⟨by rw [I.s12]; exact ⟨by omega, fun i h => h⟩⟩
    have HL : Box (∀ i, i < 12 → (R.D.read i).length = 64) := ⟨fun i hi => Dk.read_len ok.disk (by rw [I.s12]; exact hi)⟩
    have hN1 : Box (N ≤ 9223372036854775807) := ⟨by
      have := congrArg Prod.fst hT
      exact Nat.le_trans (by rw [← hN]; have := scGo_len (scF R.D 2 8 3) 8 from_ from_ true [] []; rw [hT] at this; exact this) (by decide : 8 + 0 ≤ 9223372036854775807)⟩
    have hzp := run_zero (P := Try.prog) zplace
    have hzr := run_zero (P := Try.prog) zring
    have hc1 : Box ((cuts []).length = 1) := ⟨by rw [cuts_number _ [] (Nat.le_refl _)]; rfl⟩
    clear I hT hN
    go_enter Try.func8, Try.ntmps8
    go_wp2_with (first
      | (go_at_call 15; go_must (refine (awake7_spec W _ _ hs).mono ?_); clear hs; rintro e w1 ⟨rfl, hs⟩)
      | (go_at_call 22; go_must (refine (hfew _ _ hs (by (try dsimp only [List.set]); repeat (first | exact hold | apply List.mem_cons_of_mem))).mono ?_); clear hs; rintro e w1 ⟨rfl, hs⟩)
      | (go_at_call 23; go_must (refine (hrun _ _ hs (by (try dsimp only [List.set]); repeat (first | exact hold | apply List.mem_cons_of_mem))).mono ?_); clear hs; rintro e w1 ⟨b1, br, v2, v3, rfl, hs⟩; dsimp only at hs
         obtain ⟨A2, c2, rfl, hc2, _⟩ := slice_form (hs.slice (Has.mem m0 fun F h => h))
         obtain ⟨A3, c3, rfl, hc3, _⟩ := slice_form (hs.slice (Has.mem m1 fun F h => h)))
      | (guard_target = wpList _ _ _ (⟨some 6, .alloc _, _, _, _, _⟩ :: _) _ _; refine wpl (o := ⟨some 6, .alloc _, _, _, _, _⟩) rfl fun K hK => ?_; go_must (refine op_alloc hs rfl _ zmade zmd rfl fun bm w1 h => hK _ _ ?_); clear hs hK K; have hs := h; clear h; try dsimp only [List.set] at hs)
      | (guard_target = wpList _ _ _ (⟨none, .store _ (.tmp 6) _, _, _, _, _⟩ :: _) _ _; refine wpl (o := ⟨none, .store _ (.tmp 6) _, _, _, _, _⟩) rfl fun K hK => ?_; go_must (refine op_store_whole (hs.pick (A := row bm zmd 56) (by repeat (first | with_reducible exact Pick.here | with_reducible apply Pick.there))) (b := bm) rfl rfl (mdCells b1 br (.slice A2 rl.length c2) (.slice A3 rl.length c3) sy) rfl (md_one _ _ _ _ _ _ _ _ _) (by kernel_rfl) (k := 0) rfl rfl fun w3 h => hK _ _ ?_); clear hs hK K; have hs := h; clear h; try dsimp only [List.set] at hs)
      | (guard_target = wpList _ _ _ (⟨some 29, .load _ _, _, _, _, _⟩ :: _) _ _; refine wpl (o := ⟨some 29, .load _ _, _, _, _, _⟩) rfl fun K hK => op_load rfl (ad := ⟨bm, 1, none⟩) rfl (by kernel_rfl) (hs.cell (l := (mdCells b1 br (.slice A2 rl.length c2) (.slice A3 rl.length c3) sy)) (t := 56) (by (try dsimp only [List.set]); repeat (first | with_reducible exact List.mem_cons_self | with_reducible apply List.mem_cons_of_mem)) rfl) (hK _ _ ?_); clear hK K)
      | (guard_target = wpList _ _ _ (⟨some 32, .load _ _, _, _, _, _⟩ :: _) _ _; refine wpl (o := ⟨some 32, .load _ _, _, _, _, _⟩) rfl fun K hK => op_load rfl (ad := ⟨bm, 0, none⟩) rfl (by kernel_rfl) (hs.cell (l := (mdCells b1 br (.slice A2 rl.length c2) (.slice A3 rl.length c3) sy)) (t := 56) (by (try dsimp only [List.set]); repeat (first | with_reducible exact List.mem_cons_self | with_reducible apply List.mem_cons_of_mem)) rfl) (hK _ _ ?_); clear hK K)
      | (go_at_call 31; go_must (refine (copy_spec W _ _ b1 R.D (hs.pick (A := disk b1 R.D) (by repeat (first | with_reducible exact Pick.here | with_reducible apply Pick.there))) H12.out.1 (by omega)).mono ?_); clear hs; rintro e w1 ⟨b7, rfl, hs⟩))
    have cS : ∀ w M, Sat W w M → row bm (mdCells b1 br (.slice A2 rl.length c2) (.slice A3 rl.length c3) sy) 56 ∈ M → mcS bm (mdCells b1 br (.slice A2 rl.length c2) (.slice A3 rl.length c3) sy) w := fun w M h hm => range_whole h hm
    have d0 : ∀ w, mcS bm (mdCells b1 br (.slice A2 rl.length c2) (.slice A3 rl.length c3) sy) w → w.cell? ⟨bm, 0, none⟩ = some (.pointer (some ⟨b1, 0, none⟩)) := fun w h => h 0 _ rfl
    have d1 : ∀ w, mcS bm (mdCells b1 br (.slice A2 rl.length c2) (.slice A3 rl.length c3) sy) w → w.cell? ⟨bm, 1, none⟩ = some (.pointer (some ⟨br, 0, none⟩)) := fun w h => h 1 _ rfl
    have hS0 := cS _ _ hs.drew (by (try dsimp only [List.set]); repeat (first | with_reducible exact List.mem_cons_self | with_reducible apply List.mem_cons_of_mem))
    refine wp_region_tree (mcS bm (mdCells b1 br (.slice A2 rl.length c2) (.slice A3 rl.length c3) sy)) (.take 0 (.take 1 (.take 3 (.all [(2, .all [(4, .take 5 (.take 6 (.take 7 (.take 8 (.take 9 (DTree.done))))))])])))) (by kernel_rfl) (by kernel_rfl) (by kernel_rfl) (fun _ _ d _ _ h => by cases d <;> exact h) hS0 ?_
    have hs' := hs.drew
    clear hs
    have hs := hs'
    clear hs'
    have hq := fun p : Prop => class_const hS0 p
    clear hS0
    repeat (first
      | (with_reducible refine tree_load (o := ⟨some 36, .load _ _, _, _, _, _⟩) rfl rfl rfl rfl rfl d0 ?_)
      | (refine tree_take rfl (fun K hK => ?_); go_simp; (first | with_reducible refine hK _ ?_ | (rw [if_neg (by decide)]; with_reducible refine hK _ ?_)); clear hK K))
    refine tree_one_yes (o := _) rfl rfl (fun K hK => ?_) (cS _ _ hs (by (try dsimp only [List.set]); repeat (first | with_reducible exact List.mem_cons_self | with_reducible apply List.mem_cons_of_mem)))
    try go_simp
    go_at_call 25
    refine (scplace_spec W _ _ hs).mono ?_
    clear hs
    rintro e w5 ⟨rfl, hs⟩
    try go_simp
    refine hK _ _ (cS _ _ hs (by (try dsimp only [List.set]); repeat (first | with_reducible exact List.mem_cons_self | with_reducible apply List.mem_cons_of_mem))) ?_
    clear hK K
    refine tree_one_yes (o := _) rfl rfl (fun K hK => ?_) (cS _ _ hs (by (try dsimp only [List.set]); repeat (first | with_reducible exact List.mem_cons_self | with_reducible apply List.mem_cons_of_mem)))
    try go_simp
    go_at_call 20
    refine (scan8_spec W _ _ b1 R.D (hs.pick (A := disk b1 R.D) (by repeat (first | with_reducible exact Pick.here | with_reducible apply Pick.there))) 3 from_ (by omega) (by omega) _ _ HT.out).mono ?_
    clear hs
    rintro e w5 ⟨v8, o8, rfl, h8, hs⟩
    have n8 : o8.length = N := by have := congrArg List.length h8; rw [List.length_map] at this; rw [this, HN.out]
    rw [n8] at hs
    obtain ⟨A8, c8, rfl, _, _⟩ := own_slice hs (i := 0) rfl
    try go_simp
    refine hK _ _ (cS _ _ hs (by (try dsimp only [List.set]); repeat (first | with_reducible exact List.mem_cons_self | with_reducible apply List.mem_cons_of_mem))) ?_
    clear hK K
    repeat (first
      | (with_reducible refine tree_load (o := ⟨some 36, .load _ _, _, _, _, _⟩) rfl rfl rfl rfl rfl d0 ?_)
      | (refine tree_take rfl (fun K hK => ?_); go_simp; (first | with_reducible refine hK _ ?_ | (rw [if_neg (by decide)]; with_reducible refine hK _ ?_)); clear hK K))
    refine tree_done ?_
    clear hq
    go_wp2_with fail
    have hS0 := cS _ _ hs.drew (by (try dsimp only [List.set]); repeat (first | with_reducible exact List.mem_cons_self | with_reducible apply List.mem_cons_of_mem))
    refine wp_region_tree (mcS bm (mdCells b1 br (.slice A2 rl.length c2) (.slice A3 rl.length c3) sy)) (.take 0 (.take 1 (.take 3 (.all [(2, .all [(4, .take 5 (.take 6 (.take 7 (.take 8 (.take 9 (DTree.done))))))])])))) (by kernel_rfl) (by kernel_rfl) (by kernel_rfl) (fun _ _ d _ _ h => by cases d <;> exact h) hS0 ?_
    have hs' := hs.drew
    clear hs
    have hs := hs'
    clear hs'
    have hq := fun p : Prop => class_const hS0 p
    clear hS0
    repeat (first
      | (with_reducible refine tree_load (o := ⟨some 44, .load _ _, _, _, _, _⟩) rfl rfl rfl rfl rfl d0 ?_)
      | (refine tree_take rfl (fun K hK => ?_); go_simp; (first | with_reducible refine hK _ ?_ | (rw [if_neg (by decide)]; with_reducible refine hK _ ?_)); clear hK K))
    refine tree_one_yes (o := _) rfl rfl (fun K hK => ?_) (cS _ _ hs (by (try dsimp only [List.set]); repeat (first | with_reducible exact List.mem_cons_self | with_reducible apply List.mem_cons_of_mem)))
    try go_simp
    go_at_call 25
    refine (scplace_spec W _ _ hs).mono ?_
    clear hs
    rintro e w5 ⟨rfl, hs⟩
    try go_simp
    refine hK _ _ (cS _ _ hs (by (try dsimp only [List.set]); repeat (first | with_reducible exact List.mem_cons_self | with_reducible apply List.mem_cons_of_mem))) ?_
    clear hK K
    refine tree_one_yes (o := _) rfl rfl (fun K hK => ?_) (cS _ _ hs (by (try dsimp only [List.set]); repeat (first | with_reducible exact List.mem_cons_self | with_reducible apply List.mem_cons_of_mem)))
    try go_simp
    go_at_call 20
    refine (scan8_spec W _ _ b1 R.D (hs.pick (A := disk b1 R.D) (by repeat (first | with_reducible exact Pick.here | with_reducible apply Pick.there))) 3 from_ (by omega) (by omega) _ _ HT.out).mono ?_
    clear hs
    rintro e w5 ⟨v10, o10, rfl, h10, hs⟩
    have n10 : o10.length = N := by have := congrArg List.length h10; rw [List.length_map] at this; rw [this, HN.out]
    rw [n10] at hs
    obtain ⟨A10, c10, rfl, _, _⟩ := own_slice hs (i := 0) rfl
    try go_simp
    refine hK _ _ (cS _ _ hs (by (try dsimp only [List.set]); repeat (first | with_reducible exact List.mem_cons_self | with_reducible apply List.mem_cons_of_mem))) ?_
    clear hK K
    repeat (first
      | (with_reducible refine tree_load (o := ⟨some 44, .load _ _, _, _, _, _⟩) rfl rfl rfl rfl rfl d0 ?_)
      | (refine tree_take rfl (fun K hK => ?_); go_simp; (first | with_reducible refine hK _ ?_ | (rw [if_neg (by decide)]; with_reducible refine hK _ ?_)); clear hK K))
    refine tree_done ?_
    clear hq
    go_wp2_with fail
    have hS0 := cS _ _ hs.drew (by (try dsimp only [List.set]); repeat (first | with_reducible exact List.mem_cons_self | with_reducible apply List.mem_cons_of_mem))
    refine wp_region_tree (mcS bm (mdCells b1 br (.slice A2 rl.length c2) (.slice A3 rl.length c3) sy)) (.take 0 (.take 1 (.take 2 (.take 3 (.take 4 (.take 5 (.take 6 (.take 7 (.take 8 (.take 9 (.take 10 (.take 11 (.take 12 (.take 13 (.take 14 (.take 15 (.take 17 (.take 18 (.all [(16, .all [(19, .take 20 (.take 21 (DTree.done)))])]))))))))))))))))))) (by kernel_rfl) (by kernel_rfl) (by kernel_rfl) (fun _ _ d _ _ h => by cases d <;> exact h) hS0 ?_
    have hs' := hs.drew
    clear hs
    have hs := hs'
    clear hs'
    have hq := fun p : Prop => class_const hS0 p
    clear hS0
    repeat (first
      | (with_reducible refine tree_load (o := ⟨some 68, .load _ _, _, _, _, _⟩) rfl rfl rfl rfl rfl d0 ?_)
      | (refine tree_take rfl (fun K hK => ?_); go_simp; (first | with_reducible refine hK _ ?_ | (rw [if_neg (by decide)]; with_reducible refine hK _ ?_)); clear hK K))
    refine tree_one_yes (o := _) rfl rfl (fun K hK => ?_) (cS _ _ hs (by (try dsimp only [List.set]); repeat (first | with_reducible exact List.mem_cons_self | with_reducible apply List.mem_cons_of_mem)))
    try go_simp
    go_at_call 32
    refine (pending_spec W _ _ b7 R.D (hs.pick (A := disk b7 R.D) (by repeat (first | with_reducible exact Pick.here | with_reducible apply Pick.there)))).mono ?_
    clear hs
    rintro e w5 ⟨rfl, hs⟩
    try go_simp
    refine hK _ _ (cS _ _ hs (by (try dsimp only [List.set]); repeat (first | with_reducible exact List.mem_cons_self | with_reducible apply List.mem_cons_of_mem))) ?_
    clear hK K
    refine tree_one_yes (o := _) rfl rfl (fun K hK => ?_) (cS _ _ hs (by (try dsimp only [List.set]); repeat (first | with_reducible exact List.mem_cons_self | with_reducible apply List.mem_cons_of_mem)))
    try go_simp
    go_at_call 32
    refine (pending_spec W _ _ b1 R.D (hs.pick (A := disk b1 R.D) (by repeat (first | with_reducible exact Pick.here | with_reducible apply Pick.there)))).mono ?_
    clear hs
    rintro e w5 ⟨rfl, hs⟩
    try go_simp
    refine hK _ _ (cS _ _ hs (by (try dsimp only [List.set]); repeat (first | with_reducible exact List.mem_cons_self | with_reducible apply List.mem_cons_of_mem))) ?_
    clear hK K
    repeat (first
      | (with_reducible refine tree_load (o := ⟨some 68, .load _ _, _, _, _, _⟩) rfl rfl rfl rfl rfl d0 ?_)
      | (refine tree_take rfl (fun K hK => ?_); go_simp; (first | with_reducible refine hK _ ?_ | (rw [if_neg (by decide)]; with_reducible refine hK _ ?_)); clear hK K))
    refine tree_done ?_
    clear hq cS d0 d1
    go_wp2_with fail
    go_loopw [12] (fun v12 wr => ∃ i : Nat, i ≤ 12 ∧ v12 = .int .i64 (i : Nat) ∧ Sat W wr (disk b7 R.D :: disk b1 R.D :: row bm (mdCells b1 br (.slice A2 rl.length c2) (.slice A3 rl.length c3) sy) 56 :: L)) (fun v12 _ => 12 - (intOf v12).toNat)
    case atStart => exact ⟨0, by omega, rfl, hs.pack (by repeat (first | with_reducible exact Pack.refl | with_reducible exact Pack.nil | with_reducible refine Pack.cons (by repeat (first | with_reducible exact Pick.here | with_reducible apply Pick.there)) ?_ | with_reducible apply Pack.drop))⟩
    case round =>
      clear hs
      obtain ⟨i, hi, rfl, hs⟩ := hrel
      by_cases hlt : i < 12
      · have hltI : (i : Int) < 12 := by omega
        obtain ⟨y, hy⟩ : ∃ y, R.D.read i = y := ⟨_, rfl⟩
        have hy64 := HL.out i hlt
        rw [hy] at hy64
        have HY := Box.mk hy
        have HY64 := Box.mk hy64
        clear hy hy64
        go_wp2_with (first
          | (guard_target = wpList _ _ _ (⟨some 84, .load _ _, _, _, _, _⟩ :: _) _ _; refine wpl (o := ⟨some 84, .load _ _, _, _, _, _⟩) rfl fun K hK => op_load rfl (ad := ⟨bm, 0, none⟩) rfl (by kernel_rfl) (hs.cell (l := (mdCells b1 br (.slice A2 rl.length c2) (.slice A3 rl.length c3) sy)) (t := 56) (by (try dsimp only [List.set]); repeat (first | with_reducible exact List.mem_cons_self | with_reducible apply List.mem_cons_of_mem)) rfl) (hK _ _ ?_); clear hK K)
          | (have hh : b13 = b13 := rfl; clear hh; go_at_call 33; go_must (refine (read_spec W _ _ b1 R.D (hs.pick (A := disk b1 R.D) (by repeat (first | with_reducible exact Pick.here | with_reducible apply Pick.there))) i (H12.out.2 i hlt) (by omega)).mono ?_); clear hs; rintro e w1 ⟨b15, rfl, hs⟩; rw [HY.out] at hs)
          | (go_at_call 33; go_must (refine (read_spec W _ _ b7 R.D (hs.pick (A := disk b7 R.D) (by repeat (first | with_reducible exact Pick.here | with_reducible apply Pick.there))) i (H12.out.2 i hlt) (by omega)).mono ?_); clear hs; rintro e w1 ⟨b13, rfl, hs⟩; rw [HY.out] at hs)
          | (guard_target = wpList _ _ _ (⟨some 90, .convert _ _ _, _, _, _, _⟩ :: _) _ _; refine wpl (o := ⟨some 90, .convert _ _ _, _, _, _, _⟩) rfl fun K hK => ?_; go_must (refine op_to_string rfl Try.underlying36 Try.underlying5 Try.underlying9 rfl (hs.bytes (l := y) (Has.of (A := row b13 (u8s y) 106) (by (try dsimp only [List.set]); repeat (first | with_reducible exact List.mem_cons_self | with_reducible apply List.mem_cons_of_mem)) fun F hF => own_sliceAt F (row64 HY64.out F hF))) (hK _ _ ?_)); clear hK K)
          | (guard_target = wpList _ _ _ (⟨some 92, .convert _ _ _, _, _, _, _⟩ :: _) _ _; refine wpl (o := ⟨some 92, .convert _ _ _, _, _, _, _⟩) rfl fun K hK => ?_; go_must (refine op_to_string rfl Try.underlying36 Try.underlying5 Try.underlying9 rfl (hs.bytes (l := y) (Has.of (A := row b15 (u8s y) 106) (by (try dsimp only [List.set]); repeat (first | with_reducible exact List.mem_cons_self | with_reducible apply List.mem_cons_of_mem)) fun F hF => own_sliceAt F (row64 HY64.out F hF))) (hK _ _ ?_)); clear hK K))
        exact ⟨⟨i + 1, by omega, by go_num, hs.pack (by repeat (first | with_reducible exact Pack.refl | with_reducible exact Pack.nil | with_reducible refine Pack.cons (by repeat (first | with_reducible exact Pick.here | with_reducible apply Pick.there)) ?_ | with_reducible apply Pack.drop))⟩, by simp only [intOf]; omega⟩
      · have hltI : ¬ (i : Int) < 12 := by omega
        go_wp2_with (first
          | (go_at_call 25; go_must (refine (scplace_spec W _ _ hs).mono ?_); clear hs; rintro e w1 ⟨rfl, hs⟩)
          | (guard_target = wpList _ _ _ (⟨some 102, .load _ _, _, _, _, _⟩ :: _) _ _; refine wpl (o := ⟨some 102, .load _ _, _, _, _, _⟩) rfl fun K hK => op_load rfl (ad := ⟨bm, 0, none⟩) rfl (by kernel_rfl) (hs.cell (l := (mdCells b1 br (.slice A2 rl.length c2) (.slice A3 rl.length c3) sy)) (t := 56) (by (try dsimp only [List.set]); repeat (first | with_reducible exact List.mem_cons_self | with_reducible apply List.mem_cons_of_mem)) rfl) (hK _ _ ?_); clear hK K)
          | (have hh : hfst = hfst := rfl; clear hh; go_at_call 20; go_must (refine (scan_none W _ _ hs 0 0 0 from_ (.pointer (some ⟨b1, 0, none⟩)) (.inr (by omega))).mono ?_); clear hs; rintro e w1 ⟨v19, o19, rfl, h19, hs⟩
             have n19 : o19 = [] := by cases o19 with | nil => rfl | cons _ _ => cases h19
             subst n19
             obtain ⟨A19, c19, rfl, _, _⟩ := own_slice hs (i := 0) rfl)
          | (go_at_call 20; refine (scan_nil W _ _ hs from_ hfr).mono ?_; clear hs; rintro e w1 ⟨rfl, hs⟩; have hfst : Box True := ⟨trivial⟩)
          | (go_at_call 34; go_must (refine (rfree_zero W _ _ hs zringC rfl rfl rfl).mono ?_); clear hs; rintro e w1 ⟨rfl, hs⟩)
          | (go_at_call 35; go_must (refine (rcut_spec W _ _ hs 1 1 (by omega) (by omega) [] (by simp)).mono ?_); clear hs; rintro e w1 ⟨v135, rfl, hs⟩; rw [hc1.out] at hs
             obtain ⟨A135, c135, rfl, _, _⟩ := own_slice hs (i := 0) rfl))
        go_ret
        exact ⟨rfl, hs.pack (by repeat (first | with_reducible exact Pack.refl | with_reducible exact Pack.nil | with_reducible refine Pack.cons (by repeat (first | with_reducible exact Pick.here | with_reducible apply Pick.there)) ?_ | with_reducible apply Pack.drop))⟩
  · have hfew : ∀ w M, Sat W w M → old W ∈ M → Calls Try.prog 22 #[v] w fun e w' => e = .returned (.bool false) ∧ Sat W w' M := fun w M hs ho => by have := scfew_spec W w M hs ho v l h; unfold rfewPost at this; rw [fewB_no hsm] at this; exact this
    go_enter Try.func8, Try.ntmps8
    go_wp2_with (first
      | (go_at_call 15; go_must (refine (awake7_spec W _ _ hs).mono ?_); clear hs; rintro e w1 ⟨rfl, hs⟩)
      | (go_at_call 22; go_must (refine (hfew _ _ hs (by (try dsimp only [List.set]); repeat (first | exact hold | apply List.mem_cons_of_mem))).mono ?_); clear hs; rintro e w1 ⟨rfl, hs⟩))
    go_ret
    exact ⟨rfl, hs⟩
theorem u32_argS {W : World} {n : Int} {v : Value} (h : (Kin.int .u32).K (hp W) n [v]) : ∃ m : Nat, m < 4294967296 ∧ v = .int .u32 (m : Nat) := by
  obtain ⟨e1, hn⟩ := h
  have hn' : 0 ≤ n ∧ n ≤ 4294967295 := by simpa [Lit.wf, IntKind.min, IntKind.max, IntKind.signed, IntKind.bits] using hn
  obtain ⟨m, rfl⟩ := Int.eq_ofNat_of_zero_le hn'.1
  cases e1
  exact ⟨m, by omega, rfl⟩
theorem scanStill_main (W : World) (l : List RDeed) (v : Value) (h0 : (Kin.slice 40 rdeedKin).K (hp W) l [v]) (n : Int) (v2 : Value) (h2 : (Kin.int .u32).K (hp W) n [v2]) :
    Calls Try.prog 8 #[v, v2] W fun e w' => e = .returned (.bool true) ∧ Below W.heap.size W w' :=
  by obtain ⟨n, hn, rfl⟩ := u32_argS h2; exact (scanStill_walk W W _ (Sat.start W) m0 v l h0 n hn).mono fun e w' ⟨he, hs⟩ => ⟨he, hs.end_ m0⟩
end Go.Proofs.Ytimknlabhhopcaa
