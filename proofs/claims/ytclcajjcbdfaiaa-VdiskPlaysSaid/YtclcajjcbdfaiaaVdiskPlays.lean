/- The walk of the law VdiskPlays. -/
import Derived.Test.YtclcajjcbdfaiaaVdRun
import Derived.Test.YtclcajjcbdfaiaaVdFits
set_option linter.unusedVariables false
set_option linter.unusedSimpArgs false
namespace Go.Proofs.Ytclcajjcbdfaiaa
open Go.RowKit
theorem rcode_in {D : Dk} {i : Nat} (h : i < D.secs.length) : D.rcode (i : Int) = 0 := by
  have : D.out (i : Int) = false := by simp [Dk.out]; omega
  simp [Dk.rcode, this]
def playInv (n m b b4 : Nat) (W : World) (L : List HP) (v5 : Value) (wr : World) : Prop := ∃ (k : Nat) (D : Dk) (vs va vr : Value), k ≤ n ∧ v5 = .int .i64 k ∧ D.Ok ∧ D.secs.length = m ∧ D.row.length ≤ k ∧ Sat W wr (disk b D :: ref vs va vr D :: row b4 [vs, va, vr] 57 :: L)
set_option maxRecDepth 100000 in
set_option maxHeartbeats 2000000 in
theorem vdiskPlays_walk (W w : World) (L : List HP) (hs : Sat W w L) (hold : old W ∈ L) (n : Int) (hn : (Lit.int .i64 n).wf = true) (v : Value) (l : List Deed) (h : deedsAt v l (hp W)) :
    Calls Try.prog 10 #[.int .i64 n, v] w fun e w' => e = .returned (.bool true) ∧ Sat W w' L := by
  obtain ⟨A, cap, rfl, hl1, hl2, hl3⟩ := deeds_form h
  go_enter Try.func10, Try.ntmps10
  by_cases hout : n < 1 ∨ 1024 < n
  · rcases hout with hout | hout
    · go_wp2_with (first
        | (go_at_call 22; go_must (refine (vawake_spec W _ _ hs).mono ?_); clear hs; rintro e w3 ⟨rfl, hs⟩)
        | (go_at_call 30; go_must (refine (new_none W _ _ hs n (.inl hout)).mono ?_); clear hs; rintro e w1 ⟨rfl, hs⟩))
      go_ret
      exact ⟨rfl, hs⟩
    · have hout1 : ¬ n < 1 := by omega
      go_wp2_with (first
        | (go_at_call 22; go_must (refine (vawake_spec W _ _ hs).mono ?_); clear hs; rintro e w3 ⟨rfl, hs⟩)
        | (go_at_call 30; go_must (refine (new_none W _ _ hs n (.inr hout)).mono ?_); clear hs; rintro e w1 ⟨rfl, hs⟩))
      go_ret
      exact ⟨rfl, hs⟩
  · have hin1 : ¬ n < 1 := by omega
    have hin2 : ¬ 1024 < n := by omega
    obtain ⟨m, rfl⟩ : ∃ m : Nat, n = m := ⟨n.toNat, by omega⟩
    clear hout
    have hm1 : 1 ≤ m := by omega
    have hm2 : m ≤ 1024 := by omega
    go_wp2_with (first
      | (go_at_call 22; go_must (refine (vawake_spec W _ _ hs).mono ?_); clear hs; rintro e w3 ⟨rfl, hs⟩)
      | (go_at_call 30; go_must (refine (new_spec W _ _ hs m (by omega) (by omega)).mono ?_); clear hs; rintro e w1 ⟨b1, rfl, hs⟩)
      | (go_at_call 23; go_must (refine (few_spec W _ _ hs (by repeat (first | exact hold | apply List.mem_cons_of_mem)) _ l h).mono ?_); clear hs; rintro e w1 ⟨r, rfl, hfew, hs⟩
         cases r)
      | (go_at_call 31; go_must (refine (rnew_spec W _ _ hs m (by omega)).mono ?_); clear hs; rintro e w1 ⟨vs, va, vr, rfl, hs⟩
         obtain ⟨As, cs, rfl, _, _⟩ := slice_form (hs.slice (ref_secs m0))
         obtain ⟨Aa, ca, rfl, _, _⟩ := slice_form (hs.slice (ref_ats m0))
         obtain ⟨Ar, cr, rfl, _, _⟩ := slice_form (hs.slice (ref_row m0)))
      | (refine wpl (o := ⟨some 7, .alloc _, _, _, _, _⟩) rfl fun K hK => ?_; go_must (refine op_alloc hs rfl _ zref [.slice none 0 0, .slice none 0 0, .slice none 0 0] rfl fun b4 w1 h => hK _ _ ?_); clear hs hK K; have hs := h; clear h)
      | (refine wpl (o := ⟨none, .store _ (.tmp 7) _, _, _, _, _⟩) rfl fun K hK => ?_; go_must (refine op_store_whole hs (b := b4) rfl rfl [_, _, _] rfl (slices_one rfl rfl rfl) (by kernel_rfl) (k := 0) rfl rfl fun w3 h => hK _ _ ?_); clear hs hK K; have hs := h; clear h; dsimp only [List.set] at hs))
    · go_ret
      exact ⟨rfl, hs.tail⟩
    obtain ⟨hf1, hf2⟩ := hfew trivial
    clear hfew hf2
    go_loopw [8] (fun v8 wr => playInv l.length m b1 b4 W L v8 wr) (fun v8 _ => l.length - (intOf v8).toNat)
    case atStart => exact ⟨0, Dk.new m, _, _, _, by omega, rfl, Dk.new_ok hm2, by simp [Dk.new], by simp [Dk.new], (hs.pull2).perm ((List.Perm.swap _ _ _).cons _)⟩
    case round =>
      clear hs
      obtain ⟨k, D, vs, va, vr, hk, rfl, ok, h8, hrow, hs⟩ := hrel
      have H8 := Box.mk h8
      clear h8
      obtain ⟨As, cs, rfl, _, _⟩ := slice_form (hs.slice (ref_secs m1))
      obtain ⟨Aa, ca, rfl, _, _⟩ := slice_form (hs.slice (ref_ats m1))
      obtain ⟨Ar, cr, rfl, _, _⟩ := slice_form (hs.slice (ref_row m1))
      by_cases hlt : k < l.length
      · have hltI : (k : Int) < (l.length : Int) := by omega
        obtain ⟨bd, od, cd, vb, vk, e, hrg, hb, hkp, _⟩ := deeds_old h k hlt
        cases e
        go_wp2_with fail
        have mkS : ∀ w M, Sat W w M → row b4 [.slice As D.secs.length cs, .slice Aa D.row.length ca, .slice Ar D.row.length cr] 57 ∈ M → old W ∈ M → runS b4 [.slice As D.secs.length cs, .slice Aa D.row.length ca, .slice Ar D.row.length cr] bd (od + k * 4) [.int .i64 l[k].kind, .int .i64 l[k].at_, vb, vk] w := fun w M h1 h2 h3 => ⟨range_whole h1 h2, old_range h1 h3 hrg (by simp)⟩
        generalize hS : runS b4 [.slice As D.secs.length cs, .slice Aa D.row.length ca, .slice Ar D.row.length cr] bd (od + k * 4) [.int .i64 l[k].kind, .int .i64 l[k].at_, vb, vk] = S at mkS
        have c1 : ∀ w, S w → w.rangeAt b4 0 [.slice As D.secs.length cs, .slice Aa D.row.length ca, .slice Ar D.row.length cr] := by rw [← hS]; exact runS_1
        have c2 : ∀ w, S w → w.rangeAt bd (od + k * 4) [.int .i64 l[k].kind, .int .i64 l[k].at_, vb, vk] := by rw [← hS]; exact runS_2
        clear hS
        refine wp_region_tree S (.take 0 (.take 1 (.take 2 (.take 3 (.take 4 (.take 5 (.all [(6, .take 7 (.take 8 (.take 9 (.all [(10, .all [(11, .take 12 (DTree.done))])])))), (10, .all [(6, .take 7 (.take 8 (.take 9 (.all [(11, .take 12 (DTree.done))]))))])]))))))) (by kernel_rfl) (by kernel_rfl) (by kernel_rfl) (fun _ _ d _ _ h => by cases d <;> exact h) (mkS _ _ hs.drew m2 (by repeat (first | exact hold | apply List.mem_cons_of_mem))) ?_
        have hs' := hs.drew
        clear hs
        have hs := hs'
        clear hs'
        have hS0 := mkS _ _ hs m2 (by repeat (first | exact hold | apply List.mem_cons_of_mem))
        have hq := fun p : Prop => class_const hS0 p
        repeat (first
          | (with_reducible refine tree_load_agg (o := ⟨some 46, .load _ _, _, _, _, _⟩) [.slice As D.secs.length cs, .slice Aa D.row.length ca, .slice Ar D.row.length cr] rfl rfl rfl rfl ?_ ?_ c1 ?_; (kernel_rfl); (kernel_rfl))
          | (with_reducible refine tree_load_agg (o := ⟨some 50, .load _ _, _, _, _, _⟩) [.int .i64 l[k].kind, .int .i64 l[k].at_, vb, vk] rfl rfl rfl rfl ?_ ?_ c2 ?_; (kernel_rfl); (kernel_rfl))
          | (refine tree_take rfl (fun K hK => ?_); go_simp; with_reducible refine hK _ ?_; clear hK K))
        refine tree_two_yes (o := ⟨some 51, .call _, _, _, _, _⟩) (q := ⟨some 9, .alloc _, _, _, _, _⟩) rfl rfl rfl rfl hS0 (fun K hK => ?_) (fun K hK => ?_)
        · clear hS0
          go_simp
          go_at_call 32
          refine (do_spec W _ _ b1 _ _ _ vb vk D l[k] hs (has_w (by repeat (first | exact hold | apply List.mem_cons_of_mem)) hb) (has_w (by repeat (first | exact hold | apply List.mem_cons_of_mem)) hkp) (by omega)).mono ?_
          clear hs
          rintro e w5 ⟨vs', va', vr', rfl, hs⟩
          obtain ⟨As', cs', rfl, _, _⟩ := slice_form (hs.slice (ref_secs m1))
          obtain ⟨Aa', ca', rfl, _, _⟩ := slice_form (hs.slice (ref_ats m1))
          obtain ⟨Ar', cr', rfl, _, _⟩ := slice_form (hs.slice (ref_row m1))
          try go_simp
          refine hK _ _ (mkS _ _ hs (by first | exact m0 | exact m1 | exact m2 | exact m3 | exact m4 | exact m5 | exact m6) (by repeat (first | exact hold | apply List.mem_cons_of_mem))) ?_
          clear hK K
          repeat (refine tree_take rfl (fun K hK => ?_); go_simp; with_reducible refine hK _ ?_; clear hK K)
          refine tree_one_yes (o := _) rfl rfl (fun K hK => ?_) (mkS _ _ hs (by first | exact m0 | exact m1 | exact m2 | exact m3 | exact m4 | exact m5 | exact m6) (by repeat (first | exact hold | apply List.mem_cons_of_mem)))
          refine op_alloc hs rfl _ zref [.slice none 0 0, .slice none 0 0, .slice none 0 0] rfl fun b6 w6 h => hK _ _ (mkS _ _ h (by first | exact m0 | exact m1 | exact m2 | exact m3 | exact m4 | exact m5 | exact m6) (by repeat (first | exact hold | apply List.mem_cons_of_mem))) ?_
          clear hs hK K
          have hs := h
          clear h
          try dsimp only [List.set] at hs
          try go_simp
          refine tree_one_yes (o := _) rfl rfl (fun K hK => ?_) (mkS _ _ hs (by first | exact m0 | exact m1 | exact m2 | exact m3 | exact m4 | exact m5 | exact m6) (by repeat (first | exact hold | apply List.mem_cons_of_mem)))
          refine op_store_whole hs (b := b6) rfl rfl [_, _, _] rfl (slices_one rfl rfl rfl) (by kernel_rfl) (k := 0) rfl rfl fun w7 h => hK _ _ (mkS _ _ (by have h' := h; dsimp only [List.set] at h'; exact h') (by first | exact m0 | exact m1 | exact m2 | exact m3 | exact m4 | exact m5 | exact m6) (by repeat (first | exact hold | apply List.mem_cons_of_mem))) ?_
          clear hs hK K
          have hs := h
          clear h
          try dsimp only [List.set] at hs
          try go_simp
          repeat (refine tree_take rfl (fun K hK => ?_); go_simp; with_reducible refine hK _ ?_; clear hK K)
          refine tree_done ?_
          go_wp2_with (first
            | (refine wpl (o := ⟨some 54, .load _ _, _, _, _, _⟩) rfl fun K hK => op_load_agg rfl (b := b6) (i := 0) rfl [_, _, _] (range_whole hs (by first | exact m0 | exact m1 | exact m2 | exact m3 | exact m4 | exact m5 | exact m6)) (by kernel_rfl) (by kernel_rfl) (hK _ _ ?_); clear hK K)
            | (refine wpl (o := ⟨none, .store _ (.tmp 7) _, _, _, _, _⟩) rfl fun K hK => ?_; go_must (refine op_store_whole hs (b := b4) rfl rfl [_, _, _] rfl (slices_one rfl rfl rfl) (by kernel_rfl) (k := 3) rfl rfl fun w3 h => hK _ _ ?_); clear hs hK K; have hs := h; clear h; dsimp only [List.set] at hs))
          simp only [Dk.deed_size] at hs
          have hs2 := hs.tail
          clear hs
          obtain ⟨M, hM⟩ : ∃ M, M = disk b1 (D.deed l[k]) :: ref (.slice As' D.secs.length cs') (.slice Aa' (D.deed l[k]).row.length ca') (.slice Ar' (D.deed l[k]).row.length cr') (D.deed l[k]) :: row b4 [.slice As' D.secs.length cs', .slice Aa' (D.deed l[k]).row.length ca', .slice Ar' (D.deed l[k]).row.length cr'] 57 :: L := ⟨_, rfl⟩
          have hs : Sat W w3 M := by rw [hM]; exact hs2.keep (by repeat (first | exact List.Sublist.refl _ | with_reducible apply List.Sublist.cons_cons | apply List.Sublist.cons))
          clear hs2
          have oP := Box.mk (show ∀ w, Sat W w M → Calls Try.prog 33 #[.pointer (some ⟨b1, 0, none⟩)] w fun e w' => e = .returned (.int .i64 (D.deed l[k]).row.length) ∧ Sat W w' M by rw [hM]; exact fun w h => pending_spec W w _ b1 _ h)
          have cR : ∀ w, Sat W w M → w.cell? ⟨b4, 2, none⟩ = some (.slice Ar' (D.deed l[k]).row.length cr') := by rw [hM]; exact fun w h => h.cell m2 rfl
          have HM := Box.mk hM
          clear hM
          refine wp_region_quiet (C := fun w' => Sat W w' M) (by kernel_rfl) (by kernel_rfl) hs.drew ?_
          clear hq c1 c2 mkS
          have hq := sat_const hs
          repeat (first
            | (with_reducible refine quiet_load (o := ⟨some 61, .load _ _, _, _, _, _⟩) rfl rfl rfl rfl cR ?_)
            | (refine wpQuiet_step (fun K hK => ?_); go_simp; first
                | (with_reducible refine hK _ ?_; clear hK K)
                | (apply Exists.intro; refine ⟨fun w5 h5 => ?_, hK _ ?_⟩; with_reducible exact oP.out w5 h5; clear hK K)))
          refine wpQuiet_nil ?_
          intro w8 hs8
          clear hs
          rw [HM.out] at hs8
          go_wp2_with fail
          exact ⟨⟨k + 1, D.deed l[k], _, _, _, by omega, by go_num, Dk.deed_ok ok _, by rw [Dk.deed_size]; exact H8.out, by have := Dk.deed_row D l[k]; omega, hs8⟩, by simp [intOf]; omega⟩
        · clear hS0
          refine op_alloc hs rfl _ zref [.slice none 0 0, .slice none 0 0, .slice none 0 0] rfl fun b6 w6 h => hK _ _ (mkS _ _ h (by first | exact m0 | exact m1 | exact m2 | exact m3 | exact m4 | exact m5 | exact m6) (by repeat (first | exact hold | apply List.mem_cons_of_mem))) ?_
          clear hs hK K
          have hs := h
          clear h
          try dsimp only [List.set] at hs
          try go_simp
          refine tree_one_yes (o := _) rfl rfl (fun K hK => ?_) (mkS _ _ hs (by first | exact m0 | exact m1 | exact m2 | exact m3 | exact m4 | exact m5 | exact m6) (by repeat (first | exact hold | apply List.mem_cons_of_mem)))
          go_simp
          go_at_call 32
          refine (do_spec W _ _ b1 _ _ _ vb vk D l[k] hs.rot3r (has_w (by repeat (first | exact hold | apply List.mem_cons_of_mem)) hb) (has_w (by repeat (first | exact hold | apply List.mem_cons_of_mem)) hkp) (by omega)).mono ?_
          clear hs
          rintro e w5 ⟨vs', va', vr', rfl, hs⟩
          obtain ⟨As', cs', rfl, _, _⟩ := slice_form (hs.slice (ref_secs m1))
          obtain ⟨Aa', ca', rfl, _, _⟩ := slice_form (hs.slice (ref_ats m1))
          obtain ⟨Ar', cr', rfl, _, _⟩ := slice_form (hs.slice (ref_row m1))
          try go_simp
          refine hK _ _ (mkS _ _ hs (by first | exact m0 | exact m1 | exact m2 | exact m3 | exact m4 | exact m5 | exact m6) (by repeat (first | exact hold | apply List.mem_cons_of_mem))) ?_
          clear hK K
          repeat (refine tree_take rfl (fun K hK => ?_); go_simp; with_reducible refine hK _ ?_; clear hK K)
          refine tree_one_yes (o := _) rfl rfl (fun K hK => ?_) (mkS _ _ hs (by first | exact m0 | exact m1 | exact m2 | exact m3 | exact m4 | exact m5 | exact m6) (by repeat (first | exact hold | apply List.mem_cons_of_mem)))
          refine op_store_whole hs (b := b6) rfl rfl [_, _, _] rfl (slices_one rfl rfl rfl) (by kernel_rfl) (k := 3) rfl rfl fun w7 h => hK _ _ (mkS _ _ (by have h' := h; dsimp only [List.set] at h'; exact h') (by first | exact m0 | exact m1 | exact m2 | exact m3 | exact m4 | exact m5 | exact m6) (by repeat (first | exact hold | apply List.mem_cons_of_mem))) ?_
          clear hs hK K
          have hs := h
          clear h
          try dsimp only [List.set] at hs
          try go_simp
          repeat (refine tree_take rfl (fun K hK => ?_); go_simp; with_reducible refine hK _ ?_; clear hK K)
          refine tree_done ?_
          go_wp2_with (first
            | (refine wpl (o := ⟨some 54, .load _ _, _, _, _, _⟩) rfl fun K hK => op_load_agg rfl (b := b6) (i := 0) rfl [_, _, _] (range_whole hs (by first | exact m0 | exact m1 | exact m2 | exact m3 | exact m4 | exact m5 | exact m6)) (by kernel_rfl) (by kernel_rfl) (hK _ _ ?_); clear hK K)
            | (refine wpl (o := ⟨none, .store _ (.tmp 7) _, _, _, _, _⟩) rfl fun K hK => ?_; go_must (refine op_store_whole hs (b := b4) rfl rfl [_, _, _] rfl (slices_one rfl rfl rfl) (by kernel_rfl) (k := 2) rfl rfl fun w3 h => hK _ _ ?_); clear hs hK K; have hs := h; clear h; dsimp only [List.set] at hs))
          simp only [Dk.deed_size] at hs
          have hs2 := hs
          clear hs
          obtain ⟨M, hM⟩ : ∃ M, M = disk b1 (D.deed l[k]) :: ref (.slice As' D.secs.length cs') (.slice Aa' (D.deed l[k]).row.length ca') (.slice Ar' (D.deed l[k]).row.length cr') (D.deed l[k]) :: row b4 [.slice As' D.secs.length cs', .slice Aa' (D.deed l[k]).row.length ca', .slice Ar' (D.deed l[k]).row.length cr'] 57 :: L := ⟨_, rfl⟩
          have hs : Sat W w3 M := by rw [hM]; exact hs2.keep (by repeat (first | exact List.Sublist.refl _ | with_reducible apply List.Sublist.cons_cons | apply List.Sublist.cons))
          clear hs2
          have oP := Box.mk (show ∀ w, Sat W w M → Calls Try.prog 33 #[.pointer (some ⟨b1, 0, none⟩)] w fun e w' => e = .returned (.int .i64 (D.deed l[k]).row.length) ∧ Sat W w' M by rw [hM]; exact fun w h => pending_spec W w _ b1 _ h)
          have cR : ∀ w, Sat W w M → w.cell? ⟨b4, 2, none⟩ = some (.slice Ar' (D.deed l[k]).row.length cr') := by rw [hM]; exact fun w h => h.cell m2 rfl
          have HM := Box.mk hM
          clear hM
          refine wp_region_quiet (C := fun w' => Sat W w' M) (by kernel_rfl) (by kernel_rfl) hs.drew ?_
          clear hq c1 c2 mkS
          have hq := sat_const hs
          repeat (first
            | (with_reducible refine quiet_load (o := ⟨some 61, .load _ _, _, _, _, _⟩) rfl rfl rfl rfl cR ?_)
            | (refine wpQuiet_step (fun K hK => ?_); go_simp; first
                | (with_reducible refine hK _ ?_; clear hK K)
                | (apply Exists.intro; refine ⟨fun w5 h5 => ?_, hK _ ?_⟩; with_reducible exact oP.out w5 h5; clear hK K)))
          refine wpQuiet_nil ?_
          intro w8 hs8
          clear hs
          rw [HM.out] at hs8
          go_wp2_with fail
          exact ⟨⟨k + 1, D.deed l[k], _, _, _, by omega, by go_num, Dk.deed_ok ok _, by rw [Dk.deed_size]; exact H8.out, by have := Dk.deed_row D l[k]; omega, hs8⟩, by simp [intOf]; omega⟩
      · have hltI : ¬ (k : Int) < (l.length : Int) := by omega
        go_wp2_with fail
        go_loopw [11] (fun v11 wr => ∃ i : Nat, i ≤ m ∧ v11 = .int .i64 i ∧ Sat W wr (disk b1 D :: ref (.slice As D.secs.length cs) (.slice Aa D.row.length ca) (.slice Ar D.row.length cr) D :: row b4 [.slice As D.secs.length cs, .slice Aa D.row.length ca, .slice Ar D.row.length cr] 57 :: L)) (fun v11 _ => m - (intOf v11).toNat)
        case atStart => exact ⟨0, by omega, rfl, hs⟩
        case round =>
          clear hs
          obtain ⟨i, hi, rfl, hs⟩ := hrel
          by_cases hlt2 : i < m
          · have hltI2 : (i : Int) < (m : Int) := by omega
            have hrc : D.rcode (i : Int) = 0 := rcode_in (by have := H8.out; omega)
            go_wp2_with (first
              | (go_at_call 28; go_must (refine (read_any W _ _ b1 D hs _ (by omega)).mono ?_); clear hs; rintro e w1 ⟨v, rfl, hs⟩
                 rw [hrc]
                 obtain ⟨Av, cv, rfl, _, _⟩ := slice_form (hs.slice (Has.mem m0 fun F h => h)))
              | (refine wpl (o := ⟨some 77, .load _ _, _, _, _, _⟩) rfl fun K hK => op_load_agg rfl (b := b4) (i := 0) rfl [.slice As D.secs.length cs, .slice Aa D.row.length ca, .slice Ar D.row.length cr] (range_whole hs m3) (by kernel_rfl) (by kernel_rfl) (hK _ _ ?_); clear hK K)
              | (go_at_call 34; go_must (refine (rread_any W _ _ _ _ _ D (hs.pull 2 rfl) _ (by omega) ok.few).mono ?_); clear hs; rintro e w1 ⟨rfl, hs⟩; dsimp only [List.eraseIdx] at hs; simp only [str])
              | (refine wpl (o := ⟨some 86, .convert _ _ _, _, _, _, _⟩) rfl fun K hK => ?_; go_must (refine op_to_string rfl Try.underlying22 Try.underlying5 Try.underlying9 rfl (hs.bytes (l := D.rbytes i) (Has.mem m1 fun F h => h)) (hK _ _ ?_)); clear hK K))
            have h1 := hs.pull 2 rfl
            dsimp only [List.eraseIdx] at h1
            exact ⟨⟨i + 1, by omega, by go_num, h1.keep (by repeat (first | exact List.Sublist.refl _ | with_reducible apply List.Sublist.cons_cons | apply List.Sublist.cons))⟩, by simp [intOf]; omega⟩
          · have hltI2 : ¬ (i : Int) < (m : Int) := by omega
            go_wp2_with (first
              | (go_at_call 35; go_must (refine (len_spec W _ _ b1 D hs).mono ?_); clear hs; rintro e w1 ⟨rfl, hs⟩; rw [H8.out]))
            go_ret
            exact ⟨rfl, hs.keep (by repeat (first | exact List.Sublist.refl _ | with_reducible apply List.Sublist.cons_cons | apply List.Sublist.cons))⟩
theorem vdiskPlays_main (W : World) (n : Int) (v0 : Value) (h0 : (Kin.int .i64).K (hp W) n [v0]) (l : List Deed) (v1 : Value) (h1 : (Kin.slice 64 deedKin).K (hp W) l [v1]) :
    Calls Try.prog 10 #[v0, v1] W fun e w' => e = .returned (.bool true) ∧ Below W.heap.size W w' := by
  obtain ⟨e0, hn⟩ := h0
  cases e0
  exact (vdiskPlays_walk W W _ (Sat.start W) m0 n hn v1 l h1).mono fun e w' ⟨he, hs⟩ => ⟨he, hs.end_ m0⟩
end Go.Proofs.Ytclcajjcbdfaiaa
