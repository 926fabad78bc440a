/- The walk of the law VdiskCopies. -/
import Derived.Test.YtclcajjcbdfaiaaVdW
import Derived.Test.YtclcajjcbdfaiaaKinW
set_option linter.unusedVariables false
set_option linter.unusedSimpArgs false
namespace Go.Proofs.Ytclcajjcbdfaiaa
open Go.RowKit
set_option maxRecDepth 100000 in
set_option maxHeartbeats 2000000 in
theorem dow_spec (W w : World) (L : List HP) (b : Nat) (vs va vr vb vk : Value) (D D' : Dk) (at_ : Int) (bb : List UInt8) (hs : Sat W w (disk b D :: ref vs va vr D' :: L)) (hb : Has L (bytesAt vb bb)) (hk : Has L (boolsAt vk [])) (hr : D.row.length ≤ 1000000) (hr' : D'.row.length ≤ 1000000) (hfew' : D'.secs.length ≤ 1024) :
    Calls Try.prog 32 #[.pointer (some ⟨b, 0, none⟩), .agg #[vs, va, vr], .agg #[.int .i64 1, .int .i64 at_, vb, vk]] w fun e w' => ∃ x r, e = .returned (.tuple #[x, .bool r]) ∧ Sat W w' (disk b (D.wnext at_ bb) :: L) := by
  have ok := hs.disk_open.1
  have hfew := ok.few
  obtain ⟨As, cs, rfl, _, _⟩ := slice_form (hs.slice (ref_secs m1))
  obtain ⟨Aa, ca, rfl, _, _⟩ := slice_form (hs.slice (ref_ats m1))
  obtain ⟨Ar, cr, rfl, _, _⟩ := slice_form (hs.slice (ref_row m1))
  obtain ⟨Ab, cb, rfl, _, _⟩ := slice_form (hs.slice hb.tail.tail)
  obtain ⟨Ak, ck, rfl, _, _⟩ := slice_form (hs.slice hk.tail.tail)
  go_enter Try.func32, Try.ntmps32
  go_wp2_with (first
    | (refine wpl (o := ⟨some 4, .box _ _, _, _, _, _⟩) rfl fun K hK => ?_; go_must (refine op_box hs rfl _ rfl [.slice As D'.secs.length cs, .slice Aa D'.row.length ca, .slice Ar D'.row.length cr] rfl fun b4 w1 h => hK _ _ ?_); clear hs hK K; have hs := h; clear h)
    | (refine wpl (o := ⟨some 5, .box _ _, _, _, _, _⟩) rfl fun K hK => ?_; go_must (refine op_box hs rfl _ rfl [_, _, _, _] rfl fun b5 w1 h => hK _ _ ?_); clear hs hK K; have hs := h; clear h)
    | (refine wpl (o := ⟨some 6, .alloc _, _, _, _, _⟩) rfl fun K hK => ?_; go_must (refine op_alloc hs rfl _ zref [.slice none 0 0, .slice none 0 0, .slice none 0 0] rfl fun b6 w1 h => hK _ _ ?_); clear hs hK K; have hs := h; clear h)
    | (refine wpl (o := ⟨some 16, .load _ _, _, _, _, _⟩) rfl fun K hK => op_load rfl (ad := ⟨b5, 0, none⟩) rfl (by kernel_rfl) (hs.cell (by first | exact m0 | exact m1 | exact m2 | exact m3 | exact m4 | exact m5 | exact m6) rfl) (hK _ _ ?_); clear hK K)
    | (refine wpl (o := ⟨some 21, .load _ _, _, _, _, _⟩) rfl fun K hK => op_load rfl (ad := ⟨b5, 1, none⟩) rfl (by kernel_rfl) (hs.cell (by first | exact m0 | exact m1 | exact m2 | exact m3 | exact m4 | exact m5 | exact m6) rfl) (hK _ _ ?_); clear hK K)
    | (refine wpl (o := ⟨some 23, .load _ _, _, _, _, _⟩) rfl fun K hK => op_load rfl (ad := ⟨b5, 2, none⟩) rfl (by kernel_rfl) (hs.cell (by first | exact m0 | exact m1 | exact m2 | exact m3 | exact m4 | exact m5 | exact m6) rfl) (hK _ _ ?_); clear hK K)
    | (go_at_call 25; go_must (refine (write_any W _ _ b D (hs.pull 3 rfl) _ _ bb (by dsimp only [List.eraseIdx]; repeat (first | exact hb | apply Has.tail)) hr).mono ?_); clear hs; rintro e w1 ⟨rfl, hs⟩; dsimp only [List.eraseIdx] at hs)
    | (refine wpl (o := ⟨some 26, .load _ _, _, _, _, _⟩) rfl fun K hK => op_load_agg rfl (b := b4) (i := 0) rfl [.slice As D'.secs.length cs, .slice Aa D'.row.length ca, .slice Ar D'.row.length cr] (range_whole hs (by first | exact m0 | exact m1 | exact m2 | exact m3 | exact m4 | exact m5 | exact m6)) (by kernel_rfl) (by kernel_rfl) (hK _ _ ?_); clear hK K)
    | (refine wpl (o := ⟨some 28, .load _ _, _, _, _, _⟩) rfl fun K hK => op_load rfl (ad := ⟨b5, 1, none⟩) rfl (by kernel_rfl) (hs.cell (by first | exact m0 | exact m1 | exact m2 | exact m3 | exact m4 | exact m5 | exact m6) rfl) (hK _ _ ?_); clear hK K)
    | (refine wpl (o := ⟨some 30, .load _ _, _, _, _, _⟩) rfl fun K hK => op_load rfl (ad := ⟨b5, 2, none⟩) rfl (by kernel_rfl) (hs.cell (by first | exact m0 | exact m1 | exact m2 | exact m3 | exact m4 | exact m5 | exact m6) rfl) (hK _ _ ?_); clear hK K)
    | (go_at_call 38; go_must (refine (rwrite_any W _ _ _ _ _ D' (hs.pull 4 rfl) _ _ bb (by dsimp only [List.eraseIdx]; repeat (first | exact hb | apply Has.tail)) hr').mono ?_); clear hs; rintro e w1 ⟨vs', va', vr', rfl, hs⟩; dsimp only [List.eraseIdx] at hs
       obtain ⟨As', cs', rfl, _, _⟩ := slice_form (hs.slice (ref_secs m0))
       obtain ⟨Aa', ca', rfl, _, _⟩ := slice_form (hs.slice (ref_ats m0))
       obtain ⟨Ar', cr', rfl, _, _⟩ := slice_form (hs.slice (ref_row m0)))
    | (refine wpl (o := ⟨some 9, .alloc _, _, _, _, _⟩) rfl fun K hK => ?_; go_must (refine op_alloc hs rfl _ zref [.slice none 0 0, .slice none 0 0, .slice none 0 0] rfl fun b9 w1 h => hK _ _ ?_); clear hs hK K; have hs := h; clear h)
    | (refine wpl (o := ⟨none, .store _ (.tmp 9) _, _, _, _, _⟩) rfl fun K hK => ?_; go_must (refine op_store_whole hs (b := b9) rfl rfl [_, _, _] rfl (slices_one rfl rfl rfl) (by kernel_rfl) (k := 0) rfl rfl fun w3 h => hK _ _ ?_); clear hs hK K; have hs := h; clear h; dsimp only [List.set] at hs)
    | (refine wpl (o := ⟨some 34, .load _ _, _, _, _, _⟩) rfl fun K hK => op_load_agg rfl (b := b9) (i := 0) rfl [_, _, _] (range_whole hs (by first | exact m0 | exact m1 | exact m2 | exact m3 | exact m4 | exact m5 | exact m6)) (by kernel_rfl) (by kernel_rfl) (hK _ _ ?_); clear hK K)
    | (refine wpl (o := ⟨none, .store _ (.tmp 6) _, _, _, _, _⟩) rfl fun K hK => ?_; go_must (refine op_store_whole hs (b := b6) rfl rfl [_, _, _] rfl (slices_one rfl rfl rfl) (by kernel_rfl) (k := 3) rfl rfl fun w3 h => hK _ _ ?_); clear hs hK K; have hs := h; clear h; dsimp only [List.set] at hs))
  simp only [Dk.wnext_size] at hs
  refine bodyPost_ret (run_results_cell_tmp rfl (b := b6) rfl [_, _, _] (range_whole hs m3) (by kernel_rfl) (by kernel_rfl)) rfl ⟨_, _, rfl, hs.pack (by repeat (first | with_reducible exact Pack.refl | with_reducible exact Pack.nil | with_reducible refine Pack.cons (by repeat (first | with_reducible exact Pick.here | with_reducible apply Pick.there)) ?_ | with_reducible apply Pack.drop))⟩
theorem fits_deed : Fits Try.prog 47 deedKin :=
  (fits_iso (fun x : Int × Int × List UInt8 × List Bool × Unit => (⟨x.1, x.2.1, x.2.2.1, x.2.2.2.1⟩ : Deed)) (fun _ => rfl)
      (fits_struct Try.underlying47 (by kernel_rfl)
        (fitsL_cons rfl (fits_int Try.underlying3 (by kernel_rfl))
          (fitsL_cons rfl (fits_int Try.underlying3 (by kernel_rfl))
            (fitsL_cons rfl (fits_slice Try.underlying22 (by kernel_rfl) (fits_u8 Try.underlying5 (by kernel_rfl)) (by decide) (by kernel_rfl))
              (fitsL_cons rfl (fits_slice Try.underlying45 (by kernel_rfl) (fits_bool Try.underlying4 (by kernel_rfl)) (by decide) (by kernel_rfl))
                (fitsL_nil _)))))))
def rngS (b : Nat) (cs : List Value) (w : World) : Prop := w.rangeAt b 0 cs
theorem bytesH_mem {L : List HP} {v : Value} {l : List UInt8} (h : bytesH v l ∈ L) : Has L (bytesAt v l) := Has.mem h fun F h => h
set_option maxRecDepth 100000 in
set_option maxHeartbeats 8000000 in
theorem vdiskCopies_walk (W w : World) (L : List HP) (hs : Sat W w L) (hold : old W ∈ L) (v0 : Value) (l : List Deed) (h0 : deedsAt v0 l (hp W)) (at_ kind : Int) (bb : List UInt8) (keep : List Bool) (vb vk : Value) (hb : bytesAt vb bb (hp W)) (hk : boolsAt vk keep (hp W)) (hw : (Lit.int .i64 at_).wf = true) :
    Calls Try.prog 13 #[v0, .agg #[.int .i64 kind, .int .i64 at_, vb, vk]] w fun e w' => e = .returned (.bool true) ∧ Sat W w' L := by
  obtain ⟨A0, c0, rfl, hl1, hl2, hl3⟩ := deeds_form h0
  obtain ⟨_, Ab, cb, rfl, _, _, _⟩ := id hb
  obtain ⟨_, Ak, ck, rfl, _, _, _⟩ := id hk
  by_cases hbig : 100 < bb.length
  · have hbigI : (100 : Int) < (bb.length : Int) := by omega
    go_enter Try.func13, Try.ntmps13
    go_wp2_with (first
      | (refine wpl (o := ⟨some 3, .box _ _, _, _, _, _⟩) rfl fun K hK => ?_; go_must (refine op_box hs rfl _ rfl [.int .i64 kind, .int .i64 at_, .slice Ab bb.length cb, .slice Ak keep.length ck] rfl fun b3 w1 h => hK _ _ ?_); clear hs hK K; have hs := h; clear h; try dsimp only [List.set] at hs)
      | (go_at_call 22; go_must (refine (vawake_spec W _ _ hs).mono ?_); clear hs; rintro e w1 ⟨rfl, hs⟩)
      | (go_at_call 23; with_reducible refine (few2_spec W _ _ hs (by repeat (first | exact hold | apply List.mem_cons_of_mem)) _ l h0).mono ?_; clear hs; rintro e w1 (⟨rfl, hs⟩ | ⟨rfl, hf0, hf0b, hs⟩))
      | (refine wpl (o := ⟨some 20, .load _ _, _, _, _, _⟩) rfl fun K hK => op_load rfl (ad := ⟨b3, 2, none⟩) rfl (by kernel_rfl) (hs.cell m0 rfl) (hK _ _ ?_); clear hK K))
    · go_ret
      exact ⟨rfl, hs.pack (by repeat (first | with_reducible exact Pack.refl | with_reducible exact Pack.nil | with_reducible refine Pack.cons (by repeat (first | with_reducible exact Pick.here | with_reducible apply Pick.there)) ?_ | with_reducible apply Pack.drop))⟩
    · go_ret
      exact ⟨rfl, hs.pack (by repeat (first | with_reducible exact Pack.refl | with_reducible exact Pack.nil | with_reducible refine Pack.cons (by repeat (first | with_reducible exact Pick.here | with_reducible apply Pick.there)) ?_ | with_reducible apply Pack.drop))⟩
  · have hbigI : ¬ (100 : Int) < (bb.length : Int) := by omega
    go_enter Try.func13, Try.ntmps13
    go_wp2_with (first
      | (refine wpl (o := ⟨some 3, .box _ _, _, _, _, _⟩) rfl fun K hK => ?_; go_must (refine op_box hs rfl _ rfl [.int .i64 kind, .int .i64 at_, .slice Ab bb.length cb, .slice Ak keep.length ck] rfl fun b3 w1 h => hK _ _ ?_); clear hs hK K; have hs := h; clear h; try dsimp only [List.set] at hs)
      | (go_at_call 22; go_must (refine (vawake_spec W _ _ hs).mono ?_); clear hs; rintro e w1 ⟨rfl, hs⟩)
      | (go_at_call 23; with_reducible refine (few2_spec W _ _ hs (by repeat (first | exact hold | apply List.mem_cons_of_mem)) _ l h0).mono ?_; clear hs; rintro e w1 (⟨rfl, hs⟩ | ⟨rfl, hf0, hf0b, hs⟩))
      | (refine wpl (o := ⟨some 20, .load _ _, _, _, _, _⟩) rfl fun K hK => op_load rfl (ad := ⟨b3, 2, none⟩) rfl (by kernel_rfl) (hs.cell m0 rfl) (hK _ _ ?_); clear hK K)
      | (go_at_call 24; go_must (refine (run_spec W _ _ hs (by repeat (first | exact hold | apply List.mem_cons_of_mem)) _ l h0 (by omega)).mono ?_); clear hs; rintro e w1 ⟨b1, D0, rfl, ok0, h80, hr0, hs⟩
         have H80 := Box.mk h80; clear h80)
      | (go_at_call 36; with_reducible refine (copy_spec W _ _ b1 D0 hs (by have := H80.out; omega) (by omega)).mono ?_; clear hs; rintro e w1 ⟨b7, rfl, hs⟩)
      | (go_at_call 36; with_reducible refine (copy_spec W _ _ b1 D0 (hs.pick (by repeat (first | with_reducible exact Pick.here | with_reducible apply Pick.there))) (by have := H80.out; omega) (by omega)).mono ?_; clear hs; rintro e w1 ⟨b8, rfl, hs⟩))
    · go_ret
      exact ⟨rfl, hs.pack (by repeat (first | with_reducible exact Pack.refl | with_reducible exact Pack.nil | with_reducible refine Pack.cons (by repeat (first | with_reducible exact Pick.here | with_reducible apply Pick.there)) ?_ | with_reducible apply Pack.drop))⟩
    have cS : ∀ w M, Sat W w M → row b3 [.int .i64 kind, .int .i64 at_, .slice Ab bb.length cb, .slice Ak keep.length ck] 47 ∈ M → rngS b3 [.int .i64 kind, .int .i64 at_, .slice Ab bb.length cb, .slice Ak keep.length ck] w := fun w M h hm => range_whole h hm
    have cl1 : ∀ w, rngS b3 [.int .i64 kind, .int .i64 at_, .slice Ab bb.length cb, .slice Ak keep.length ck] w → w.cell? ⟨b3, 1, none⟩ = some (.int .i64 at_) := fun w h => h 1 _ rfl
    have cl2 : ∀ w, rngS b3 [.int .i64 kind, .int .i64 at_, .slice Ab bb.length cb, .slice Ak keep.length ck] w → w.cell? ⟨b3, 2, none⟩ = some (.slice Ab bb.length cb) := fun w h => h 2 _ rfl
    have hS0 := cS _ _ hs.drew (by repeat (first | with_reducible exact List.mem_cons_self | with_reducible apply List.mem_cons_of_mem))
    refine wp_region_tree (rngS b3 [.int .i64 kind, .int .i64 at_, .slice Ab bb.length cb, .slice Ak keep.length ck]) (.take 0 (.take 2 (.take 3 (.take 4 (.take 5 (.take 6 (.all [(1, .all [(7, DTree.done)])]))))))) (by kernel_rfl) (by kernel_rfl) (by kernel_rfl) (fun _ _ d _ _ h => by cases d <;> exact h) hS0 ?_
    have hs' := hs.drew
    clear hs
    have hs := hs'
    clear hs'
    have hq := fun p : Prop => class_const hS0 p
    clear hS0
    repeat (first
      | (with_reducible refine tree_load (o := ⟨some 42, .load _ _, _, _, _, _⟩) rfl rfl rfl rfl rfl cl1 ?_)
      | (with_reducible refine tree_load (o := ⟨some 44, .load _ _, _, _, _, _⟩) rfl rfl rfl rfl rfl cl2 ?_)
      | (refine tree_take rfl (fun K hK => ?_); go_simp; with_reducible refine hK _ ?_; clear hK K))
    refine tree_one_yes (o := _) rfl rfl (fun K hK => ?_) (cS _ _ hs (by repeat (first | with_reducible exact List.mem_cons_self | with_reducible apply List.mem_cons_of_mem)))
    try go_simp
    go_at_call 31
    refine (rnew_spec W _ _ hs 8 (by decide)).mono ?_
    clear hs
    rintro e w5 ⟨vs, va, vr, rfl, hs⟩
    try go_simp
    refine hK _ _ (cS _ _ hs (by repeat (first | with_reducible exact List.mem_cons_self | with_reducible apply List.mem_cons_of_mem))) ?_
    clear hK K
    refine tree_one_yes (o := _) rfl rfl (fun K hK => ?_) (cS _ _ hs (by repeat (first | with_reducible exact List.mem_cons_self | with_reducible apply List.mem_cons_of_mem)))
    try go_simp
    go_at_call 32
    refine (dow_spec W _ _ b7 vs va vr _ _ D0 (Dk.new 8) at_ bb ((hs.pick (A := ref vs va vr (Dk.new 8)) (by repeat (first | with_reducible exact Pick.here | with_reducible apply Pick.there))).pick (A := disk b7 D0) (by repeat (first | with_reducible exact Pick.here | with_reducible apply Pick.there))) (has_w (by repeat (first | exact hold | apply List.mem_cons_of_mem)) hb) (Has.of (A := disk b1 D0) (by repeat (first | with_reducible exact List.mem_cons_self | with_reducible apply List.mem_cons_of_mem)) fun F _ => bools_nil F) (by omega) (by decide) (by decide)).mono ?_
    clear hs
    rintro e w5 ⟨vx, r, rfl, hs⟩
    try go_simp
    refine hK _ _ (cS _ _ hs (by repeat (first | with_reducible exact List.mem_cons_self | with_reducible apply List.mem_cons_of_mem))) ?_
    clear hK K
    refine tree_done ?_
    have hwr := Dk.wnext_row D0 at_ bb
    go_wp2_with (first
      | (refine wpl (o := ⟨some 49, .load _ _, _, _, _, _⟩) rfl fun K hK => op_load rfl (ad := ⟨b3, 3, none⟩) rfl (by kernel_rfl) (cS _ _ hs (by repeat (first | with_reducible exact List.mem_cons_self | with_reducible apply List.mem_cons_of_mem)) 3 _ rfl) (hK _ _ ?_); clear hK K)
      | (go_at_call 27; go_must (refine (crash_spec W _ _ b7 _ hs (by omega) _ keep (has_w (by repeat (first | exact hold | apply List.mem_cons_of_mem)) hk)).mono ?_); clear hs; rintro e w1 ⟨rfl, hs⟩))
    have hz0 : ((D0.wnext at_ bb).crash fun i => keep.getD i false).row.length = 0 := by simp
    generalize ((D0.wnext at_ bb).crash fun i => keep.getD i false) = Dz at hs hz0
    have HZ := Box.mk hz0
    clear hz0 hwr cl1 cl2 cS hq
    go_loopw [9] (fun v9 wr => ∃ (i : Nat), i ≤ 8 ∧ v9 = .int .i64 i ∧ Sat W wr (disk b7 Dz :: disk b8 D0 :: disk b1 D0 :: L)) (fun v9 _ => 8 - (intOf v9).toNat)
    case atStart => exact ⟨0, by omega, rfl, hs.pack (by repeat (first | with_reducible exact Pack.refl | with_reducible exact Pack.nil | with_reducible refine Pack.cons (by repeat (first | with_reducible exact Pick.here | with_reducible apply Pick.there)) ?_ | with_reducible apply Pack.drop))⟩
    case round =>
      clear hs
      obtain ⟨i, hi, rfl, hs⟩ := hrel
      by_cases hlt3 : i < 8
      · have hlt3I : (i : Int) < 8 := by omega
        have hb1 := Box.mk (rbytes_in (D := D0) (i := i) (by have := H80.out; omega))
        have hc1 := Box.mk (rcode_in (D := D0) (i := i) (by have := H80.out; omega))
        go_wp2_with (first
          | (go_at_call 28; with_reducible refine (read_any W _ _ b1 D0 (hs.pick (by repeat (first | with_reducible exact Pick.here | with_reducible apply Pick.there))) i (by omega)).mono ?_; clear hs; rintro e w1 ⟨vx, rfl, hs⟩; rw [hb1.out] at hs; rw [hc1.out])
          | (go_at_call 28; with_reducible refine (read_any W _ _ b8 D0 (hs.pick (by repeat (first | with_reducible exact Pick.here | with_reducible apply Pick.there))) i (by omega)).mono ?_; clear hs; rintro e w1 ⟨vy, rfl, hs⟩; rw [hb1.out] at hs; rw [hc1.out])
          | (refine wpl (o := ⟨some 75, .convert _ _ _, _, _, _, _⟩) rfl fun K hK => ?_; go_must (refine op_to_string rfl Try.underlying22 Try.underlying5 Try.underlying9 rfl (hs.bytes (bytesH_mem (v := vx) (l := D0.read i) (by repeat (first | with_reducible exact List.mem_cons_self | with_reducible apply List.mem_cons_of_mem)))) (hK _ _ ?_)); clear hK K)
          | (refine wpl (o := ⟨some 77, .convert _ _ _, _, _, _, _⟩) rfl fun K hK => ?_; go_must (refine op_to_string rfl Try.underlying22 Try.underlying5 Try.underlying9 rfl (hs.bytes (bytesH_mem (v := vy) (l := D0.read i) (by repeat (first | with_reducible exact List.mem_cons_self | with_reducible apply List.mem_cons_of_mem)))) (hK _ _ ?_)); clear hK K))
        exact ⟨⟨i + 1, by omega, by go_num, hs.pack (by repeat (first | with_reducible exact Pack.refl | with_reducible exact Pack.nil | with_reducible refine Pack.cons (by repeat (first | with_reducible exact Pick.here | with_reducible apply Pick.there)) ?_ | with_reducible apply Pack.drop))⟩, by simp [intOf]; omega⟩
      · have hlt3I : ¬ (i : Int) < 8 := by omega
        go_wp2_with (first
          | (go_at_call 33; with_reducible refine (pending_spec W _ _ b8 D0 (hs.pick (by repeat (first | with_reducible exact Pick.here | with_reducible apply Pick.there)))).mono ?_; clear hs; rintro e w1 ⟨rfl, hs⟩)
          | (go_at_call 33; with_reducible refine (pending_spec W _ _ b1 D0 (hs.pick (by repeat (first | with_reducible exact Pick.here | with_reducible apply Pick.there)))).mono ?_; clear hs; rintro e w1 ⟨rfl, hs⟩)
          | (go_at_call 33; with_reducible refine (pending_spec W _ _ b7 Dz (hs.pick (by repeat (first | with_reducible exact Pick.here | with_reducible apply Pick.there)))).mono ?_; clear hs; rintro e w1 ⟨rfl, hs⟩; rw [HZ.out])
          | (go_at_call 35; with_reducible refine (len_spec W _ _ b8 D0 (hs.pick (by repeat (first | with_reducible exact Pick.here | with_reducible apply Pick.there)))).mono ?_; clear hs; rintro e w1 ⟨rfl, hs⟩; rw [H80.out]))
        go_ret
        exact ⟨rfl, hs.pack (by repeat (first | with_reducible exact Pack.refl | with_reducible exact Pack.nil | with_reducible refine Pack.cons (by repeat (first | with_reducible exact Pick.here | with_reducible apply Pick.there)) ?_ | with_reducible apply Pack.drop))⟩
theorem vdiskCopies_main (W : World) (l : List Deed) (v0 : Value) (h0 : (Kin.slice 64 deedKin).K (hp W) l [v0]) (c : Deed) (c1 : List Value) (h1 : deedKin.K (hp W) c c1) :
    Calls Try.prog 13 #[v0, .agg c1.toArray] W fun e w' => e = .returned (.bool true) ∧ Below W.heap.size W w' := by
  obtain ⟨vb, vk, rfl, hb, hk, hw⟩ := deed_cells h1
  exact (vdiskCopies_walk W W _ (Sat.start W) m0 v0 l h0 c.at_ c.kind c.b c.keep vb vk hb hk hw).mono fun e w' ⟨he, hs⟩ => ⟨he, hs.end_ m0⟩
end Go.Proofs.Ytclcajjcbdfaiaa
