/- The example of the laws of layer 20 is true. -/
import Derived.Test.YthjnefpnnifjiaaDoorRdGraph
import Derived.Test.YthjnefpnnifjiaaDoorRdTake
set_option linter.unusedVariables false
set_option linter.unusedSimpArgs false
namespace Go.Proofs.YthjnefpnnifjiaaDoor
open Go.RowKit
def awk : RKey := ⟨1, 3, 0⟩
def awx : RWr := ⟨awk, [97]⟩
def awy : RWr := ⟨awk, [98]⟩
def awc : RCm := ⟨5, [awx]⟩
def awd : RCm := ⟨3, [awy]⟩
def aw0 : RSt := ⟨0, 0, 0, []⟩
def aw1 : RSt := ⟨5, 0, 0, [⟨awk, 5, [97]⟩]⟩
theorem aw_a : applyR aw0 awc = aw1 := by kernel_rfl
theorem aw_b : applyR aw1 awd = aw1 := by kernel_rfl
theorem aw_g : graphL aw1.L = [awx] := by kernel_rfl
set_option maxRecDepth 100000 in
theorem aw_t : takeSt (encSt aw1) = some aw1 := by kernel_rfl
set_option maxRecDepth 100000 in
theorem aw_u : takeCm (encCm awc) = some awc := by kernel_rfl
theorem awk_ok : awk.Ok := by intro n hn; simp [RKey.ints, awk] at hn; unfold inI; omega
theorem aw1_ok : aw1.Ok := ⟨by simp [inI, aw1], by simp [aw1], by simp [aw1], fun x hx => by
  simp only [aw1, List.mem_singleton] at hx
  subst hx
  exact ⟨awk_ok, by simp [inI], by simp [tMax]⟩⟩
theorem awc_ok : awc.Ok := ⟨by simp [inI, awc], fun x hx => by
  simp only [awc, List.mem_singleton] at hx
  subst hx
  exact ⟨awk_ok, by simp [awx, tMax]⟩⟩
set_option maxRecDepth 100000 in
set_option maxHeartbeats 1000000 in
theorem run_equal_write (y : RWr) (w : World) : (Op.equalIn 10000 61 (.agg (wC y).toArray) (.agg (wC y).toArray)).run Tryd.prog w = .ok true w := by
  rw [show (10000 : Nat) = 9999 + 1 from rfl, run_equalIn_struct w 9999 _ _ _ (by kernel_rfl) (by kernel_rfl)]
  obtain ⟨⟨a, b, c⟩, v⟩ := y
  simp only [wC]
  have hk : ∀ w, (Op.equalIn 9999 57 (.agg (kC ⟨a, b, c⟩).toArray) (.agg (kC ⟨a, b, c⟩).toArray)).run Tryd.prog w = .ok true w := fun w => by
    rw [show (9999 : Nat) = 9998 + 1 from rfl, run_equalIn_struct w 9998 _ _ _ (by kernel_rfl) (by kernel_rfl)]
    simp only [kC]
    go_simp
  simp only [kC] at hk
  go_simp
def awS (b2 b3 b5 b7 bw : Nat) (v5 : Value) (w : World) : Prop := w.cell? ⟨b2, 0, none⟩ = some (.int .i64 5) ∧ w.cell? ⟨b3, 0, none⟩ = some (.int .i64 5) ∧ w.cell? ⟨b5, 1, none⟩ = some v5 ∧ w.rangeAt b7 0 (wC awx) ∧ w.rangeAt bw 0 (wC awx)
theorem own_form {W w : World} {L : List HP} (hs : Sat W w L) {v : Value} {e : TypeId} {n sz : Nat} {vs : List Value} (hm : own v e n sz vs ∈ L) (hn : 0 < n) : ∃ b c, v = .slice (some ⟨b, 0, none⟩) n c := by
  obtain ⟨i, hi⟩ := List.getElem?_of_mem hm
  obtain ⟨b, c, _, e, _⟩ := hs.ownOpen hi hn
  exact ⟨b, c, e⟩
theorem own_rangeW {W w : World} {L : List HP} (hs : Sat W w L) {b c : Nat} {x : RWr} (hm : own (.slice (some ⟨b, 0, none⟩) 1 c) 61 1 4 (wC x) ∈ L) : w.rangeAt b 0 (wC x) := by
  obtain ⟨_, A, c', e1, _, _, h0 | ⟨b', o', e2, hc⟩⟩ := hs.slice (Has.mem hm own_sliceAt)
  · simp [wC] at h0
  · cases e1
    cases e2
    exact cellsAt_world hc
set_option maxRecDepth 100000 in
set_option maxHeartbeats 16000000 in
theorem awake20_spec (W w : World) (L : List HP) (hs : Sat W w L) (hold : old W ∈ L) (hm : maxLenIs W) :
    Calls Tryd.prog 9 #[] w fun e w' => e = .returned (.bool true) ∧ Sat W w' L := by
  have HA := Box.mk (fun w (L : List HP) hs v hv vw hvw => by have := apply_spec W w L hs aw0 awc v vw hv hvw (by decide); rw [aw_a] at this; exact this)
  have HB := Box.mk (fun w (L : List HP) hs v hv vw hvw => by have := apply_spec W w L hs aw1 awd v vw hv hvw (by decide); rw [aw_b] at this; exact this)
  have HPS := Box.mk (fun w (L : List HP) hs ho v hv => putState_spec W w L hs ho hm aw1 aw1_ok (by decide) v hv)
  have HPC := Box.mk (fun w (L : List HP) hs ho v hv => put_spec W w L hs ho hm awc awc_ok (by decide) v hv)
  have HTS := Box.mk (fun w (L : List HP) hs ho v hv => by have := takeState_spec W w L hs ho hm v (encSt aw1) hv (by decide); rw [aw_t] at this; exact this)
  have HT := Box.mk (fun w (L : List HP) hs ho v hv => by have := take_spec W w L hs ho hm v (encCm awc) hv (by decide); rw [aw_u] at this; exact this)
  have HG := Box.mk (fun w (L : List HP) hs v hv => by have := graph_spec W w L hs aw1 v hv (by decide); rw [aw_g] at this; exact this)
  have hzk := run_zero (P := Tryd.prog) zkey
  have hzs := run_zero (P := Tryd.prog) zstateR
  have hzw := run_zero (P := Tryd.prog) zwrite
  have hzm := run_zero (P := Tryd.prog) zcommit
  have heq := run_equal_write awx
  obtain ⟨ES, hES⟩ : ∃ ES, encSt aw1 = ES := ⟨_, rfl⟩
  obtain ⟨EC, hEC⟩ : ∃ EC, encCm awc = EC := ⟨_, rfl⟩
  rw [hES] at HPS HTS
  rw [hEC] at HPC HT
  clear hES hEC hm
  have hca : codeOf (some aw1) = 0 := rfl
  have hcb : codeOf (some awc) = 0 := rfl
  go_enter Tryd.func9, Tryd.ntmps9
  go_wp2_with (first
    | (guard_target = wpList _ _ _ (⟨some 1, .alloc _, _, _, _, _⟩ :: _) _ _; refine wpl (o := ⟨some 1, .alloc _, _, _, _, _⟩) rfl fun K hK => ?_; go_must (refine op_alloc hs rfl _ zkey [Value.int .i64 0, .int .i64 0, .int .i64 0] rfl fun b1 w1 h => hK _ _ ?_); clear hs hK K; have hs := h; clear h; try dsimp only [List.set] at hs)
    | (guard_target = wpList _ _ _ (⟨none, .store _ (.tmp 1) _, _, _, _, _⟩ :: _) _ _; refine wpl (o := ⟨none, .store _ (.tmp 1) _, _, _, _, _⟩) rfl fun K hK => ?_; go_must (refine op_store_whole hs (b := b1) rfl rfl [Value.int .i64 1, .int .i64 3, .int .i64 0] rfl (by simp [Value.oneCell']) (by kernel_rfl) (k := 0) rfl rfl fun w3 h => hK _ _ ?_); clear hs hK K; have hs := h; clear h; try dsimp only [List.set] at hs)
    | (guard_target = wpList _ _ _ (⟨some 10, .load _ _, _, _, _, _⟩ :: _) _ _; refine wpl (o := ⟨some 10, .load _ _, _, _, _, _⟩) rfl fun K hK => op_load_agg rfl (b := b1) (i := 0) rfl ([Value.int .i64 1, .int .i64 3, .int .i64 0]) (range_whole hs (by (try dsimp only [List.set]); repeat (first | with_reducible exact List.mem_cons_self | with_reducible apply List.mem_cons_of_mem))) (by kernel_rfl) (by kernel_rfl) (hK _ _ ?_); clear hK K)
    | (guard_target = wpList _ _ _ (⟨some 12, .buildSlice _ _ _, _, _, _, _⟩ :: _) _ _; refine wpl (o := ⟨some 12, .buildSlice _ _ _, _, _, _, _⟩) rfl fun K hK => ?_; go_must (refine op_lit_agg1 hs rfl Tryd.underlying22 info_write (wC awx) rfl rfl (by omega) (by omega) fun b12 w1 h => hK _ _ ?_); clear hs hK K; have hs := h; clear h; try dsimp only [List.set] at hs)
    | (guard_target = wpList _ _ _ (⟨some 16, .load _ _, _, _, _, _⟩ :: _) _ _; refine wpl (o := ⟨some 16, .load _ _, _, _, _, _⟩) rfl fun K hK => op_load_agg rfl (b := b1) (i := 0) rfl ([Value.int .i64 1, .int .i64 3, .int .i64 0]) (range_whole hs (by (try dsimp only [List.set]); repeat (first | with_reducible exact List.mem_cons_self | with_reducible apply List.mem_cons_of_mem))) (by kernel_rfl) (by kernel_rfl) (hK _ _ ?_); clear hK K)
    | (guard_target = wpList _ _ _ (⟨some 18, .buildSlice _ _ _, _, _, _, _⟩ :: _) _ _; refine wpl (o := ⟨some 18, .buildSlice _ _ _, _, _, _, _⟩) rfl fun K hK => ?_; go_must (refine op_lit_agg1 hs rfl Tryd.underlying22 info_write (wC awy) rfl rfl (by omega) (by omega) fun b18 w1 h => hK _ _ ?_); clear hs hK K; have hs := h; clear h; try dsimp only [List.set] at hs)
    | (have hh : b18 = b18 := rfl; clear hh; go_at_call 19; go_must (refine (HB.out _ _ hs (.slice A14 aw1.L.length c14) (Has.of (A := own (.slice A14 aw1.L.length c14) 59 aw1.L.length 5 (csC aw1.L)) (by (try dsimp only [List.set]); repeat (first | with_reducible exact List.mem_cons_self | with_reducible apply List.mem_cons_of_mem)) own_sliceAt) (.slice (some ⟨b18, 0, none⟩) 1 1) (Has.of (A := row b18 (wC awy) 61) (by (try dsimp only [List.set]); repeat (first | with_reducible exact List.mem_cons_self | with_reducible apply List.mem_cons_of_mem)) fun F hF => own_sliceAt F (own_exact (n := 1) (sz := 4) rfl (by omega) F hF))).mono ?_); clear hs; rintro e w1 ⟨v20, rfl, hs⟩
       obtain ⟨A20, c20, rfl, _, _⟩ := own_slice hs (i := 0) rfl)
    | (go_at_call 19; go_must (refine (HA.out _ _ hs (.slice none 0 0) (slice_nil _ 5 (Has.mem m0 fun _ _ => trivial)) (.slice (some ⟨b12, 0, none⟩) 1 1) (Has.of (A := row b12 (wC awx) 61) (by (try dsimp only [List.set]); repeat (first | with_reducible exact List.mem_cons_self | with_reducible apply List.mem_cons_of_mem)) fun F hF => own_sliceAt F (own_exact (n := 1) (sz := 4) rfl (by omega) F hF))).mono ?_); clear hs; rintro e w1 ⟨v14, rfl, hs⟩
       obtain ⟨A14, c14, rfl, _, _⟩ := own_slice hs (i := 0) rfl)
    | (guard_target = wpList _ _ _ (⟨some 2, .alloc _, _, _, _, _⟩ :: _) _ _; refine wpl (o := ⟨some 2, .alloc _, _, _, _, _⟩) rfl fun K hK => ?_; go_must (refine op_alloc hs rfl _ zstateR [Value.int .i64 0, .int .u32 0, .int .u32 0, .slice none 0 0] rfl fun b2 w1 h => hK _ _ ?_); clear hs hK K; have hs := h; clear h; try dsimp only [List.set] at hs)
    | (have hh : c20 = c20 := rfl; clear hh; refine wpl (o := ⟨none, .store _ (.tmp 2) _, _, _, _, _⟩) rfl fun K hK => ?_; go_must (refine op_store_whole (hs.pick (A := row b2 (stC aw1 (.slice A14 aw1.L.length c14)) 43) (by repeat (first | with_reducible exact Pick.here | with_reducible apply Pick.there))) (b := b2) rfl rfl (stC aw1 (.slice A20 aw1.L.length c20)) rfl (by simp [stC, Value.oneCell']) (by kernel_rfl) (k := 0) rfl rfl fun w9 h => hK _ _ ?_); clear hs hK K; have hs := h; clear h; dsimp only [List.set] at hs)
    | (guard_target = wpList _ _ _ (⟨none, .store _ (.tmp 2) _, _, _, _, _⟩ :: _) _ _; refine wpl (o := ⟨none, .store _ (.tmp 2) _, _, _, _, _⟩) rfl fun K hK => ?_; go_must (refine op_store_whole (hs.pick (A := row b2 [Value.int .i64 0, .int .u32 0, .int .u32 0, .slice none 0 0] 43) (by repeat (first | with_reducible exact Pick.here | with_reducible apply Pick.there))) (b := b2) rfl rfl (stC aw1 (.slice A14 aw1.L.length c14)) rfl (by simp [stC, Value.oneCell']) (by kernel_rfl) (k := 0) rfl rfl fun w9 h => hK _ _ ?_); clear hs hK K; have hs := h; clear h; dsimp only [List.set] at hs)
    | (guard_target = wpList _ _ _ (⟨some 15, .load _ _, _, _, _, _⟩ :: _) _ _; refine wpl (o := ⟨some 15, .load _ _, _, _, _, _⟩) rfl fun K hK => op_load_agg rfl (b := b2) (i := 0) rfl ((stC aw1 (.slice A14 aw1.L.length c14))) (range_whole hs (by (try dsimp only [List.set]); repeat (first | with_reducible exact List.mem_cons_self | with_reducible apply List.mem_cons_of_mem))) (by kernel_rfl) (by kernel_rfl) (hK _ _ ?_); clear hK K)
    | (guard_target = wpList _ _ _ (⟨some 22, .load _ _, _, _, _, _⟩ :: _) _ _; refine wpl (o := ⟨some 22, .load _ _, _, _, _, _⟩) rfl fun K hK => op_load_agg rfl (b := b2) (i := 0) rfl ((stC aw1 (.slice A20 aw1.L.length c20))) (range_whole hs (by (try dsimp only [List.set]); repeat (first | with_reducible exact List.mem_cons_self | with_reducible apply List.mem_cons_of_mem))) (by kernel_rfl) (by kernel_rfl) (hK _ _ ?_); clear hK K)
    | (go_at_call 22; go_must (refine (HPS.out _ _ hs (by (try dsimp only [List.set]); repeat (first | exact hold | apply List.mem_cons_of_mem)) _ (Has.of (A := own (.slice A20 aw1.L.length c20) 59 aw1.L.length 5 (csC aw1.L)) (by (try dsimp only [List.set]); repeat (first | with_reducible exact List.mem_cons_self | with_reducible apply List.mem_cons_of_mem)) own_sliceAt)).mono ?_); clear hs; rintro e w1 ⟨v23, rfl, hs⟩)
    | (go_at_call 23; go_must (refine (HTS.out _ _ hs (by (try dsimp only [List.set]); repeat (first | exact hold | apply List.mem_cons_of_mem)) v23 (Has.mem m0 own_sliceAt)).mono ?_); clear hs; rintro e w1 ⟨v24, rfl, hs⟩
       change Sat W _ (own v24 59 aw1.L.length 5 (csC aw1.L) :: _) at hs
       obtain ⟨A24, c24, rfl, _, _⟩ := own_slice hs (i := 0) rfl)
    | (guard_target = wpList _ _ _ (⟨some 3, .alloc _, _, _, _, _⟩ :: _) _ _; refine wpl (o := ⟨some 3, .alloc _, _, _, _, _⟩) rfl fun K hK => ?_; go_must (refine op_alloc hs rfl _ zstateR [Value.int .i64 0, .int .u32 0, .int .u32 0, .slice none 0 0] rfl fun b3 w1 h => hK _ _ ?_); clear hs hK K; have hs := h; clear h; try dsimp only [List.set] at hs)
    | (guard_target = wpList _ _ _ (⟨none, .store _ (.tmp 3) _, _, _, _, _⟩ :: _) _ _; refine wpl (o := ⟨none, .store _ (.tmp 3) _, _, _, _, _⟩) rfl fun K hK => ?_; go_must (refine op_store_whole hs (b := b3) rfl rfl (stC aw1 (.slice A24 aw1.L.length c24)) rfl (by simp [stC, Value.oneCell']) (by kernel_rfl) (k := 0) rfl rfl fun w3 h => hK _ _ ?_); clear hs hK K; have hs := h; clear h; try dsimp only [List.set] at hs)
    | (guard_target = wpList _ _ _ (⟨some 28, .load _ _, _, _, _, _⟩ :: _) _ _; refine wpl (o := ⟨some 28, .load _ _, _, _, _, _⟩) rfl fun K hK => op_load_agg rfl (b := b1) (i := 0) rfl ([Value.int .i64 1, .int .i64 3, .int .i64 0]) (range_whole hs (by (try dsimp only [List.set]); repeat (first | with_reducible exact List.mem_cons_self | with_reducible apply List.mem_cons_of_mem))) (by kernel_rfl) (by kernel_rfl) (hK _ _ ?_); clear hK K)
    | (guard_target = wpList _ _ _ (⟨some 30, .buildSlice _ _ _, _, _, _, _⟩ :: _) _ _; refine wpl (o := ⟨some 30, .buildSlice _ _ _, _, _, _, _⟩) rfl fun K hK => ?_; go_must (refine op_lit_agg1 hs rfl Tryd.underlying22 info_write (wC awx) rfl rfl (by omega) (by omega) fun b30 w1 h => hK _ _ ?_); clear hs hK K; have hs := h; clear h; try dsimp only [List.set] at hs)
    | (go_at_call 12; go_must (refine (HPC.out _ _ hs (by (try dsimp only [List.set]); repeat (first | exact hold | apply List.mem_cons_of_mem)) (.slice (some ⟨b30, 0, none⟩) 1 1) (Has.of (A := row b30 (wC awx) 61) (by (try dsimp only [List.set]); repeat (first | with_reducible exact List.mem_cons_self | with_reducible apply List.mem_cons_of_mem)) fun F hF => own_sliceAt F (own_exact (n := 1) (sz := 4) rfl (by omega) F hF))).mono ?_); clear hs; rintro e w1 ⟨v32, rfl, hs⟩)
    | (go_at_call 10; go_must (refine (HT.out _ _ hs (by (try dsimp only [List.set]); repeat (first | exact hold | apply List.mem_cons_of_mem)) v32 (Has.mem m0 own_sliceAt)).mono ?_); clear hs; rintro e w1 ⟨v33, rfl, hs⟩
       change Sat W _ (own v33 61 1 4 (wC awx) :: _) at hs
       obtain ⟨bw, cw, rfl⟩ := own_form hs m0 (by omega))
    | (guard_target = wpList _ _ _ (⟨some 5, .alloc _, _, _, _, _⟩ :: _) _ _; refine wpl (o := ⟨some 5, .alloc _, _, _, _, _⟩) rfl fun K hK => ?_; go_must (refine op_alloc hs rfl _ zcommit [Value.int .i64 0, .slice none 0 0] rfl fun b5 w1 h => hK _ _ ?_); clear hs hK K; have hs := h; clear h; try dsimp only [List.set] at hs)
    | (guard_target = wpList _ _ _ (⟨none, .store _ (.tmp 5) _, _, _, _, _⟩ :: _) _ _; refine wpl (o := ⟨none, .store _ (.tmp 5) _, _, _, _, _⟩) rfl fun K hK => ?_; go_must (refine op_store_whole hs (b := b5) rfl rfl (cmC awc (.slice (some ⟨bw, 0, none⟩) 1 cw)) rfl (by simp [cmC, Value.oneCell']) (by kernel_rfl) (k := 0) rfl rfl fun w3 h => hK _ _ ?_); clear hs hK K; have hs := h; clear h; try dsimp only [List.set] at hs)
    | (guard_target = wpList _ _ _ (⟨some 36, .load _ _, _, _, _, _⟩ :: _) _ _; refine wpl (o := ⟨some 36, .load _ _, _, _, _, _⟩) rfl fun K hK => op_load_agg rfl (b := b2) (i := 0) rfl ((stC aw1 (.slice A20 aw1.L.length c20))) (range_whole hs (by (try dsimp only [List.set]); repeat (first | with_reducible exact List.mem_cons_self | with_reducible apply List.mem_cons_of_mem))) (by kernel_rfl) (by kernel_rfl) (hK _ _ ?_); clear hK K)
    | (go_at_call 27; go_must (refine (HG.out _ _ hs _ (Has.of (A := own (.slice A20 aw1.L.length c20) 59 aw1.L.length 5 (csC aw1.L)) (by (try dsimp only [List.set]); repeat (first | with_reducible exact List.mem_cons_self | with_reducible apply List.mem_cons_of_mem)) own_sliceAt)).mono ?_); clear hs; rintro e w1 ⟨v37, rfl, hs⟩
       change Sat W _ (own v37 61 1 4 (wC awx) :: _) at hs
       obtain ⟨b7, c7, rfl⟩ := own_form hs m0 (by omega)))
  have cS : ∀ w M, Sat W w M → row b2 (stC aw1 (.slice A20 aw1.L.length c20)) 43 ∈ M → row b3 (stC aw1 (.slice A24 aw1.L.length c24)) 43 ∈ M → row b5 (cmC awc (.slice (some ⟨bw, 0, none⟩) 1 cw)) 24 ∈ M → own (.slice (some ⟨b7, 0, none⟩) 1 c7) 61 1 4 (wC awx) ∈ M → own (.slice (some ⟨bw, 0, none⟩) 1 cw) 61 1 4 (wC awx) ∈ M → (awS b2 b3 b5 b7 bw (.slice (some ⟨bw, 0, none⟩) 1 cw)) w := fun w M h h1 h2 h3 h4 h5 => ⟨h.cell h1 rfl, h.cell h2 rfl, h.cell h3 rfl, own_rangeW h h4, own_rangeW h h5⟩
  have h53 : ∀ w, (awS b2 b3 b5 b7 bw (.slice (some ⟨bw, 0, none⟩) 1 cw)) w → w.cell? ⟨b7, 3, none⟩ = some (.string ⟨#[97]⟩) := fun w h => h.2.2.2.1 3 _ rfl
  have h58 : ∀ w, (awS b2 b3 b5 b7 bw (.slice (some ⟨bw, 0, none⟩) 1 cw)) w → w.cell? ⟨b2, 0, none⟩ = some (.int .i64 5) := fun w h => h.1
  have h63 : ∀ w, (awS b2 b3 b5 b7 bw (.slice (some ⟨bw, 0, none⟩) 1 cw)) w → w.cell? ⟨b3, 0, none⟩ = some (.int .i64 5) := fun w h => h.2.1
  have h68 : ∀ w, (awS b2 b3 b5 b7 bw (.slice (some ⟨bw, 0, none⟩) 1 cw)) w → w.cell? ⟨b5, 1, none⟩ = some (.slice (some ⟨bw, 0, none⟩) 1 cw) := fun w h => h.2.2.1
  have h79 : ∀ w, (awS b2 b3 b5 b7 bw (.slice (some ⟨bw, 0, none⟩) 1 cw)) w → w.rangeAt b7 0 (wC awx) := fun w h => h.2.2.2.1
  have h76 : ∀ w, (awS b2 b3 b5 b7 bw (.slice (some ⟨bw, 0, none⟩) 1 cw)) w → w.rangeAt bw 0 (wC awx) := fun w h => h.2.2.2.2
  have hS0 := cS _ _ hs.drew (by (try dsimp only [List.set]); repeat (first | with_reducible exact List.mem_cons_self | with_reducible apply List.mem_cons_of_mem)) (by (try dsimp only [List.set]); repeat (first | with_reducible exact List.mem_cons_self | with_reducible apply List.mem_cons_of_mem)) (by (try dsimp only [List.set]); repeat (first | with_reducible exact List.mem_cons_self | with_reducible apply List.mem_cons_of_mem)) (by (try dsimp only [List.set]); repeat (first | with_reducible exact List.mem_cons_self | with_reducible apply List.mem_cons_of_mem)) (by (try dsimp only [List.set]); repeat (first | with_reducible exact List.mem_cons_self | with_reducible apply List.mem_cons_of_mem))
  refine wp_region_tree ((awS b2 b3 b5 b7 bw (.slice (some ⟨bw, 0, none⟩) 1 cw))) (.take 0 (.take 1 (.take 2 (.take 3 (.take 4 (.take 5 (.take 6 (.take 7 (.take 8 (.take 9 (.take 10 (.take 11 (.take 12 (.take 13 (.take 14 (.take 15 (.take 16 (.take 17 (.take 18 (.take 19 (.take 20 (.take 21 (.take 22 (.take 23 (.take 24 (.take 25 (.take 26 (.take 27 (.take 28 (.take 29 (.take 30 (.take 31 (.take 32 (.take 33 (.take 34 (.take 35 (.take 36 (.take 37 (.take 38 (.take 39 (.take 40 (.take 41 (.take 42 (.take 43 (.take 44 (DTree.done)))))))))))))))))))))))))))))))))))))))))))))) (by kernel_rfl) (by kernel_rfl) (by kernel_rfl) (fun _ _ d _ _ h => by cases d <;> exact h) hS0 ?_
  have hs' := hs.drew
  clear hs
  have hs := hs'
  clear hs'
  have hq := fun p : Prop => class_const hS0 p
  clear hS0
  repeat (first
    | (with_reducible refine tree_load (o := ⟨some 53, .load _ _, _, _, _, _⟩) rfl rfl rfl rfl rfl h53 ?_)
    | (with_reducible refine tree_load (o := ⟨some 58, .load _ _, _, _, _, _⟩) rfl rfl rfl rfl rfl h58 ?_)
    | (with_reducible refine tree_load (o := ⟨some 63, .load _ _, _, _, _, _⟩) rfl rfl rfl rfl rfl h63 ?_)
    | (with_reducible refine tree_load (o := ⟨some 68, .load _ _, _, _, _, _⟩) rfl rfl rfl rfl rfl h68 ?_)
    | (with_reducible refine tree_load (o := ⟨some 74, .load _ _, _, _, _, _⟩) rfl rfl rfl rfl rfl h68 ?_)
    | (with_reducible refine tree_load_agg (o := ⟨some 76, .load _ _, _, _, _, _⟩) (wC awx) rfl rfl rfl rfl ?_ ?_ h76 ?_; (kernel_rfl); (kernel_rfl))
    | (with_reducible refine tree_load_agg (o := ⟨some 79, .load _ _, _, _, _, _⟩) (wC awx) rfl rfl rfl rfl ?_ ?_ h79 ?_; (kernel_rfl); (kernel_rfl))
    | (refine tree_take rfl (fun K hK => ?_); go_simp; (first | with_reducible refine hK _ ?_ | (rw [if_neg (by decide)]; with_reducible refine hK _ ?_)); clear hK K))
  refine tree_done ?_
  clear hq
  go_wp2_with fail
  go_ret
  exact ⟨rfl, hs.pack (by repeat (first | with_reducible exact Pack.refl | with_reducible exact Pack.nil | with_reducible refine Pack.cons (by repeat (first | with_reducible exact Pick.here | with_reducible apply Pick.there)) ?_ | with_reducible apply Pack.drop))⟩
end Go.Proofs.YthjnefpnnifjiaaDoor
