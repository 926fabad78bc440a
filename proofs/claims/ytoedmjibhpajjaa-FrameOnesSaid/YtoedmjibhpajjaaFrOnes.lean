/- The walk of the law FrameOnes. -/
import Derived.Test.YtoedmjibhpajjaaFrAwake
import Derived.Test.YtoedmjibhpajjaaFrEq
import Derived.Test.YtoedmjibhpajjaaKinW
import Derived.Test.YtoedmjibhpajjaaLift
import Derived.Test.YtoedmjibhpajjaaFrKin
set_option linter.unusedVariables false
set_option linter.unusedSimpArgs false
namespace Go.Proofs.Ytoedmjibhpajjaa
open Go.RowKit
theorem Fr.pack_inj {f g : Fr} (hf : f.Ok) (hg : g.Ok) (h1 : f.body.length ≤ 50) (h2 : g.body.length ≤ 50) (h : f.pack = g.pack) : f = g := by
  rw [← Fr.told_pack hf h1, ← Fr.told_pack hg h2, h]
theorem fpack_cells (W w : World) (L : List HP) (hs : Sat W w L) (f : Fr) (ok : f.Ok) (vb : Value) (hb : Has L (bytesAt vb f.body)) (h50 : f.body.length ≤ 50) :
    Calls Try.prog 16 #[.agg (frCells f vb).toArray] w (fpackPost f W L) := fpack_spec W w L hs f ok vb hb h50
set_option maxRecDepth 100000 in
set_option maxHeartbeats 4000000 in
theorem frameOnes_walk (W w : World) (L : List HP) (hs : Sat W w L) (f g : Fr) (okf : f.Ok) (okg : g.Ok) (vf vg : Value) (hf : Has L (bytesAt vf f.body)) (hg : Has L (bytesAt vg g.body)) :
    Calls Try.prog 8 #[.agg (frCells f vf).toArray, .agg (frCells g vg).toArray] w fun e w' => e = .returned (.bool true) ∧ Sat W w' L := by
  obtain ⟨Af, cf, rfl, _, _⟩ := slice_form (hs.bytes hf)
  obtain ⟨Ag, cg, rfl, _, _⟩ := slice_form (hs.bytes hg)
  by_cases hbig : 50 < f.body.length
  · have hbigI : (50 : Int) < (f.body.length : Int) := by omega
    go_enter Try.func8, Try.ntmps8
    go_wp2_with (first
      | (refine wpl (o := ⟨some 2, .box _ _, _, _, _, _⟩) rfl fun K hK => ?_; go_must (refine op_box hs rfl _ rfl (frCells f (.slice Af f.body.length cf)) rfl fun b2 w1 h => hK _ _ ?_); clear hs hK K; have hs := h; clear h; try dsimp only [List.set] at hs)
      | (refine wpl (o := ⟨some 3, .box _ _, _, _, _, _⟩) rfl fun K hK => ?_; go_must (refine op_box hs rfl _ rfl (frCells g (.slice Ag g.body.length cg)) rfl fun b3 w1 h => hK _ _ ?_); clear hs hK K; have hs := h; clear h; try dsimp only [List.set] at hs)
      | (go_at_call 15; go_must (refine (awake5_spec W _ _ hs).mono ?_); clear hs; rintro e w1 ⟨rfl, hs⟩; have k12 : w1.cell? ⟨b2, 3, none⟩ = some (.slice Af f.body.length cf) := hs.cell m1 rfl; have k17 : w1.cell? ⟨b3, 3, none⟩ = some (.slice Ag g.body.length cg) := hs.cell m0 rfl)
      | (refine wpl (o := ⟨some 12, .load _ _, _, _, _, _⟩) rfl fun K hK => op_load rfl (ad := ⟨b2, 3, none⟩) rfl (by kernel_rfl) k12 (hK _ _ ?_); clear hK K))
    go_ret
    exact ⟨rfl, hs.tail.tail⟩
  · have hbigI : ¬ (50 : Int) < (f.body.length : Int) := by omega
    by_cases hbig2 : 50 < g.body.length
    · have hbigI2 : (50 : Int) < (g.body.length : Int) := by omega
      go_enter Try.func8, Try.ntmps8
      go_wp2_with (first
        | (refine wpl (o := ⟨some 2, .box _ _, _, _, _, _⟩) rfl fun K hK => ?_; go_must (refine op_box hs rfl _ rfl (frCells f (.slice Af f.body.length cf)) rfl fun b2 w1 h => hK _ _ ?_); clear hs hK K; have hs := h; clear h; try dsimp only [List.set] at hs)
        | (refine wpl (o := ⟨some 3, .box _ _, _, _, _, _⟩) rfl fun K hK => ?_; go_must (refine op_box hs rfl _ rfl (frCells g (.slice Ag g.body.length cg)) rfl fun b3 w1 h => hK _ _ ?_); clear hs hK K; have hs := h; clear h; try dsimp only [List.set] at hs)
        | (go_at_call 15; go_must (refine (awake5_spec W _ _ hs).mono ?_); clear hs; rintro e w1 ⟨rfl, hs⟩; have k12 : w1.cell? ⟨b2, 3, none⟩ = some (.slice Af f.body.length cf) := hs.cell m1 rfl; have k17 : w1.cell? ⟨b3, 3, none⟩ = some (.slice Ag g.body.length cg) := hs.cell m0 rfl)
        | (refine wpl (o := ⟨some 12, .load _ _, _, _, _, _⟩) rfl fun K hK => op_load rfl (ad := ⟨b2, 3, none⟩) rfl (by kernel_rfl) k12 (hK _ _ ?_); clear hK K)
        | (refine wpl (o := ⟨some 17, .load _ _, _, _, _, _⟩) rfl fun K hK => op_load rfl (ad := ⟨b3, 3, none⟩) rfl (by kernel_rfl) k17 (hK _ _ ?_); clear hK K))
      go_ret
      exact ⟨rfl, hs.tail.tail⟩
    · have hbigI2 : ¬ (50 : Int) < (g.body.length : Int) := by omega
      have hlf : Box (f.pack.length = 64) := ⟨Fr.pack_length (by omega)⟩
      have hlg : Box (g.pack.length = 64) := ⟨Fr.pack_length (by omega)⟩
      obtain ⟨r, hr1, hr2⟩ : ∃ r : Bool, (f.pack == g.pack) = r ∧ f.same g = r := by
        by_cases hfg : f = g
        · subst hfg; exact ⟨true, by simp, Fr.same_refl f⟩
        · refine ⟨false, ?_, ?_⟩
          · rw [beq_eq_false_iff_ne]; exact fun h => hfg (Fr.pack_inj okf okg (by omega) (by omega) h)
          · cases h : f.same g with
            | false => rfl
            | true => exact absurd ((Fr.same_iff f g).1 h) hfg
      have hne := fun w => run_equal_rframe f g w
      rw [hr2] at hne
      go_enter Try.func8, Try.ntmps8
      go_wp2_with (first
        | (refine wpl (o := ⟨some 2, .box _ _, _, _, _, _⟩) rfl fun K hK => ?_; go_must (refine op_box hs rfl _ rfl (frCells f (.slice Af f.body.length cf)) rfl fun b2 w1 h => hK _ _ ?_); clear hs hK K; have hs := h; clear h; try dsimp only [List.set] at hs)
        | (refine wpl (o := ⟨some 3, .box _ _, _, _, _, _⟩) rfl fun K hK => ?_; go_must (refine op_box hs rfl _ rfl (frCells g (.slice Ag g.body.length cg)) rfl fun b3 w1 h => hK _ _ ?_); clear hs hK K; have hs := h; clear h; try dsimp only [List.set] at hs)
        | (go_at_call 15; go_must (refine (awake5_spec W _ _ hs).mono ?_); clear hs; rintro e w1 ⟨rfl, hs⟩; have k12 : w1.cell? ⟨b2, 3, none⟩ = some (.slice Af f.body.length cf) := hs.cell m1 rfl; have k17 : w1.cell? ⟨b3, 3, none⟩ = some (.slice Ag g.body.length cg) := hs.cell m0 rfl)
        | (refine wpl (o := ⟨some 12, .load _ _, _, _, _, _⟩) rfl fun K hK => op_load rfl (ad := ⟨b2, 3, none⟩) rfl (by kernel_rfl) k12 (hK _ _ ?_); clear hK K)
        | (refine wpl (o := ⟨some 17, .load _ _, _, _, _, _⟩) rfl fun K hK => op_load rfl (ad := ⟨b3, 3, none⟩) rfl (by kernel_rfl) k17 (hK _ _ ?_); clear hK K)
        | (refine wpl (o := ⟨some 23, .load _ _, _, _, _, _⟩) rfl fun K hK => op_load_agg rfl (b := b2) (i := 0) rfl (frCells f (.slice Af f.body.length cf)) (range_whole hs (by (try dsimp only [List.set]); repeat (first | with_reducible exact List.mem_cons_self | with_reducible apply List.mem_cons_of_mem))) (by kernel_rfl) (by kernel_rfl) (hK _ _ ?_); clear hK K)
        | (refine wpl (o := ⟨some 28, .load _ _, _, _, _, _⟩) rfl fun K hK => op_load_agg rfl (b := b3) (i := 0) rfl (frCells g (.slice Ag g.body.length cg)) (range_whole hs (by (try dsimp only [List.set]); repeat (first | with_reducible exact List.mem_cons_self | with_reducible apply List.mem_cons_of_mem))) (by kernel_rfl) (by kernel_rfl) (hK _ _ ?_); clear hK K)
        | (have hh : c1 = c1 := rfl; clear hh; go_at_call 16; go_must (refine (fpack_cells W _ _ hs g okg _ hg.tail.tail.tail (by omega)).mono ?_); clear hs; rintro e w1 ⟨v2, rfl, hs⟩
           obtain ⟨A2, c2, rfl, _, _⟩ := own_slice hs (i := 0) rfl)
        | (go_at_call 16; go_must (refine (fpack_cells W _ _ hs f okf _ hf.tail.tail (by omega)).mono ?_); clear hs; rintro e w1 ⟨v1, rfl, hs⟩
           obtain ⟨A1, c1, rfl, _, _⟩ := own_slice hs (i := 0) rfl))
      obtain ⟨M, hM, hs⟩ : ∃ M, M = _ ∧ Sat W _ M := ⟨_, rfl, hs⟩
      have s1 : ∀ w, Sat W w M → bytesAt (.slice A1 64 c1) f.pack (hp w) := fun w h => h.bytes (by rw [hM]; exact own_bytes 1 rfl hlf.out.symm rfl)
      have s2 : ∀ w, Sat W w M → bytesAt (.slice A2 64 c2) g.pack (hp w) := fun w h => h.bytes (by rw [hM]; exact own_bytes 0 rfl hlg.out.symm rfl)
      have d1 : ∀ w, Sat W w M → w.rangeAt b2 0 (frCells f (.slice Af f.body.length cf)) := fun w h => range_whole h (by rw [hM]; exact (by (try dsimp only [List.set]); repeat (first | with_reducible exact List.mem_cons_self | with_reducible apply List.mem_cons_of_mem)))
      have d2 : ∀ w, Sat W w M → w.rangeAt b3 0 (frCells g (.slice Ag g.body.length cg)) := fun w h => range_whole h (by rw [hM]; exact (by (try dsimp only [List.set]); repeat (first | with_reducible exact List.mem_cons_self | with_reducible apply List.mem_cons_of_mem)))
      have oF : ∀ w, Sat W w M → Calls Try.prog 18 #[.agg (frCells f (.slice Af f.body.length cf)).toArray] w fun e w' => e = .returned (.agg (rCells f).toArray) ∧ Sat W w' M := fun w h => real_spec W w M h f _ (by rw [hM]; exact hf.tail.tail.tail.tail)
      have oG : ∀ w, Sat W w M → Calls Try.prog 18 #[.agg (frCells g (.slice Ag g.body.length cg)).toArray] w fun e w' => e = .returned (.agg (rCells g).toArray) ∧ Sat W w' M := fun w h => real_spec W w M h g _ (by rw [hM]; exact hg.tail.tail.tail.tail)
      have oF_ := Box.mk oF
      clear oF
      have oF := oF_
      clear oF_
      have oG_ := Box.mk oG
      clear oG
      have oG := oG_
      clear oG_
      have hM_ := Box.mk hM
      clear hM
      have hM := hM_
      clear hM_
      refine wp_region_quiet (C := fun w' => Sat W w' M) (by kernel_rfl) (by kernel_rfl) hs.drew ?_
      have hq := sat_const hs
      repeat (first
        | ((with_reducible refine quiet_str (o := ⟨some 35, .convert _ _ _, _, _, _, _⟩) (f.pack) ?_ rfl Try.underlying23 Try.underlying5 Try.underlying9 ?_ s1 ?_); (rfl); (rfl))
        | ((with_reducible refine quiet_str (o := ⟨some 37, .convert _ _ _, _, _, _, _⟩) (g.pack) ?_ rfl Try.underlying23 Try.underlying5 Try.underlying9 ?_ s2 ?_); (rfl); (rfl))
        | ((with_reducible refine quiet_load_agg (o := ⟨some 39, .load _ _, _, _, _, _⟩) (frCells f (.slice Af f.body.length cf)) rfl rfl rfl ?_ ?_ d1 ?_); (kernel_rfl); (kernel_rfl))
        | ((with_reducible refine quiet_load_agg (o := ⟨some 41, .load _ _, _, _, _, _⟩) (frCells g (.slice Ag g.body.length cg)) rfl rfl rfl ?_ ?_ d2 ?_); (kernel_rfl); (kernel_rfl))
        | (refine wpQuiet_step (fun K hK => ?_); go_simp; first
            | (with_reducible refine hK _ ?_; clear hK K)
            | (apply Exists.intro; refine ⟨fun w5 h5 => ?_, hK _ ?_⟩; (first | with_reducible exact oF.out w5 h5 | with_reducible exact oG.out w5 h5); clear hK K)))
      refine wpQuiet_nil ?_
      intro w8 hs8
      clear hs
      rw [hM.out] at hs8
      have hs := hs8
      clear hs8
      go_wp2_with fail
      go_ret
      exact ⟨rfl, hs.pack (by repeat (first | with_reducible exact Pack.refl | with_reducible exact Pack.nil | with_reducible refine Pack.cons (by repeat (first | with_reducible exact Pick.here | with_reducible apply Pick.there)) ?_ | with_reducible apply Pack.drop))⟩
theorem frameOnes_main (W : World) (x0 : FrTup) (c0 : List Value) (h0 : frKin.K (hp W) x0 c0) (x1 : FrTup) (c1 : List Value) (h1 : frKin.K (hp W) x1 c1) :
    Calls Try.prog 8 #[.agg c0.toArray, .agg c1.toArray] W fun e w' => e = .returned (.bool true) ∧ Below W.heap.size W w' := by
  obtain ⟨f, vf, okf, rfl, hf, _⟩ := fr_cells h0
  obtain ⟨g, vg, okg, rfl, hg, _⟩ := fr_cells h1
  exact (frameOnes_walk W W _ (Sat.start W) f g okf okg vf vg hf hg).mono fun e w' ⟨he, hs⟩ => ⟨he, hs.end_ m0⟩
end Go.Proofs.Ytoedmjibhpajjaa
