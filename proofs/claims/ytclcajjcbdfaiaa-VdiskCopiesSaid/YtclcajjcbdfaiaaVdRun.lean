/- run: a disk behind deeds. -/
import Derived.Test.YtclcajjcbdfaiaaVdDeeds
set_option linter.unusedVariables false
set_option linter.unusedSimpArgs false
namespace Go.Proofs.Ytclcajjcbdfaiaa
open Go.RowKit
def runPost (n : Nat) (W : World) (L : List HP) (e : Ending) (w' : World) : Prop := ∃ b D, e = .returned (.pointer (some ⟨b, 0, none⟩)) ∧ D.Ok ∧ D.secs.length = 8 ∧ D.row.length ≤ n ∧ Sat W w' (disk b D :: L)
def runInv (n b b4 : Nat) (W : World) (L : List HP) (v5 : Value) (wr : World) : Prop := ∃ (k : Nat) (D : Dk) (vs va vr : Value), k ≤ n ∧ v5 = .int .i64 k ∧ D.Ok ∧ D.secs.length = 8 ∧ D.row.length ≤ k ∧ Sat W wr (disk b D :: ref vs va vr D :: row b4 [vs, va, vr] 57 :: L)
def runS (b4 : Nat) (cs : List Value) (bd o : Nat) (ds : List Value) (w : World) : Prop := w.rangeAt b4 0 cs ∧ w.rangeAt bd o ds
theorem runS_1 {b4 : Nat} {cs : List Value} {bd o : Nat} {ds : List Value} : ∀ w, runS b4 cs bd o ds w → w.rangeAt b4 0 cs := fun _ h => h.1
theorem runS_2 {b4 : Nat} {cs : List Value} {bd o : Nat} {ds : List Value} : ∀ w, runS b4 cs bd o ds w → w.rangeAt bd o ds := fun _ h => h.2
theorem Sat.rot3r {W w : World} {L : List HP} {A B C D : HP} (h : Sat W w (A :: B :: C :: D :: L)) : Sat W w (B :: C :: D :: A :: L) := h.rot3
theorem Sat.rot2 {W w : World} {L : List HP} {A B C : HP} (h : Sat W w (A :: B :: C :: L)) : Sat W w (B :: C :: A :: L) :=
  h.perm ((List.Perm.swap B A _).trans ((List.Perm.swap C A _).cons B))
set_option maxRecDepth 100000 in
set_option maxHeartbeats 2000000 in
theorem run_spec (W w : World) (L : List HP) (hs : Sat W w L) (hold : old W ∈ L) (v : Value) (l : List Deed) (h : deedsAt v l (hp W)) (hlen : l.length ≤ 1000000) :
    Calls Try.prog 24 #[v] w (runPost l.length W L) := by
  obtain ⟨A, cap, rfl, hl1, hl2, hl3⟩ := deeds_form h
  go_enter Try.func24, Try.ntmps24
  go_wp2_with (first
    | (go_at_call 30; go_must (refine (new_spec W _ _ hs 8 (by omega) (by omega)).mono ?_); clear hs; rintro e w1 ⟨b1, rfl, hs⟩)
    | (go_at_call 31; go_must (refine (rnew_spec W _ _ hs 8 (by decide)).mono ?_); clear hs; rintro e w1 ⟨vs, va, vr, rfl, hs⟩
       obtain ⟨As, cs, rfl, _, _⟩ := slice_form (hs.slice (ref_secs m0))
       obtain ⟨Aa, ca, rfl, _, _⟩ := slice_form (hs.slice (ref_ats m0))
       obtain ⟨Ar, cr, rfl, _, _⟩ := slice_form (hs.slice (ref_row m0)))
    | (refine wpl (o := ⟨some 4, .alloc _, _, _, _, _⟩) rfl fun K hK => ?_; go_must (refine op_alloc hs rfl _ zref [.slice none 0 0, .slice none 0 0, .slice none 0 0] rfl fun b4 w1 h => hK _ _ ?_); clear hs hK K; have hs := h; clear h)
    | (refine wpl (o := ⟨none, .store _ (.tmp 4) _, _, _, _, _⟩) rfl fun K hK => ?_; go_must (refine op_store_whole hs (b := b4) rfl rfl [_, _, _] rfl (slices_one rfl rfl rfl) (by kernel_rfl) (k := 0) rfl rfl fun w3 h => hK _ _ ?_); clear hs hK K; have hs := h; clear h; dsimp only [List.set] at hs))
  go_loopw [5] (fun v5 wr => runInv l.length b1 b4 W L v5 wr) (fun v5 _ => l.length - (intOf v5).toNat)
  case atStart => exact ⟨0, Dk.new 8, _, _, _, by omega, rfl, Dk.new_ok (by decide), by simp [Dk.new], by simp [Dk.new], (hs.pull2).perm ((List.Perm.swap _ _ _).cons _)⟩
  case round =>
    clear hs
    obtain ⟨k, D, vs, va, vr, hk, rfl, ok, h8, hrow, hs⟩ := hrel
    have H8 := Box.mk h8
    clear h8
    obtain ⟨As, cs, rfl, _, _⟩ := slice_form (hs.slice (ref_secs m1))
    obtain ⟨Aa, ca, rfl, _, _⟩ := slice_form (hs.slice (ref_ats m1))
    obtain ⟨Ar, cr, rfl, _, _⟩ := slice_form (hs.slice (ref_row m1))
    by_cases hlt : k < l.length
    · have hltI : (k : Int) < (l.length : Int) := by omega
      obtain ⟨bd, od, cd, vb, vk, e, hrg, hb, hkp, _⟩ := deeds_old h k hlt
      cases e
      go_wp2_with fail
      have mkS : ∀ w M, Sat W w M → row b4 [.slice As D.secs.length cs, .slice Aa D.row.length ca, .slice Ar D.row.length cr] 57 ∈ M → old W ∈ M → runS b4 [.slice As D.secs.length cs, .slice Aa D.row.length ca, .slice Ar D.row.length cr] bd (od + k * 4) [.int .i64 l[k].kind, .int .i64 l[k].at_, vb, vk] w := fun w M h1 h2 h3 => ⟨range_whole h1 h2, old_range h1 h3 hrg (by simp)⟩
      generalize hS : runS b4 [.slice As D.secs.length cs, .slice Aa D.row.length ca, .slice Ar D.row.length cr] bd (od + k * 4) [.int .i64 l[k].kind, .int .i64 l[k].at_, vb, vk] = S at mkS
      have c1 : ∀ w, S w → w.rangeAt b4 0 [.slice As D.secs.length cs, .slice Aa D.row.length ca, .slice Ar D.row.length cr] := by rw [← hS]; exact runS_1
      have c2 : ∀ w, S w → w.rangeAt bd (od + k * 4) [.int .i64 l[k].kind, .int .i64 l[k].at_, vb, vk] := by rw [← hS]; exact runS_2
      clear hS
      refine wp_region_tree S (.take 0 (.take 1 (.take 2 (.take 3 (.take 4 (.take 5 (.all [(6, .take 7 (.take 8 (.take 9 (.all [(10, .all [(11, .take 12 (DTree.done))])])))), (10, .all [(6, .take 7 (.take 8 (.take 9 (.all [(11, .take 12 (DTree.done))]))))])]))))))) (by kernel_rfl) (by kernel_rfl) (by kernel_rfl) (fun _ _ d _ _ h => by cases d <;> exact h) (mkS _ _ hs.drew m2 (by repeat (first | exact hold | apply List.mem_cons_of_mem))) ?_
      have hs' := hs.drew
      clear hs
      have hs := hs'
      clear hs'
      have hS0 := mkS _ _ hs m2 (by repeat (first | exact hold | apply List.mem_cons_of_mem))
      have hq := fun p : Prop => class_const hS0 p
      repeat (first
        | (with_reducible refine tree_load_agg (o := ⟨some 18, .load _ _, _, _, _, _⟩) [.slice As D.secs.length cs, .slice Aa D.row.length ca, .slice Ar D.row.length cr] rfl rfl rfl rfl ?_ ?_ c1 ?_; (kernel_rfl); (kernel_rfl))
        | (with_reducible refine tree_load_agg (o := ⟨some 22, .load _ _, _, _, _, _⟩) [.int .i64 l[k].kind, .int .i64 l[k].at_, vb, vk] rfl rfl rfl rfl ?_ ?_ c2 ?_; (kernel_rfl); (kernel_rfl))
        | (refine tree_take rfl (fun K hK => ?_); go_simp; with_reducible refine hK _ ?_; clear hK K))
      refine tree_two_yes (o := ⟨some 23, .call _, _, _, _, _⟩) (q := ⟨some 6, .alloc _, _, _, _, _⟩) rfl rfl rfl rfl hS0 (fun K hK => ?_) (fun K hK => ?_)
      · clear hS0
        go_simp
        go_at_call 32
        refine (do_spec W _ _ b1 _ _ _ vb vk D l[k] hs (has_w (by repeat (first | exact hold | apply List.mem_cons_of_mem)) hb) (has_w (by repeat (first | exact hold | apply List.mem_cons_of_mem)) hkp) (by omega)).mono ?_
        clear hs
        rintro e w5 ⟨vs', va', vr', rfl, hs⟩
        obtain ⟨As', cs', rfl, _, _⟩ := slice_form (hs.slice (ref_secs m1))
        obtain ⟨Aa', ca', rfl, _, _⟩ := slice_form (hs.slice (ref_ats m1))
        obtain ⟨Ar', cr', rfl, _, _⟩ := slice_form (hs.slice (ref_row m1))
        try go_simp
        refine hK _ _ (mkS _ _ hs (by first | exact m0 | exact m1 | exact m2 | exact m3 | exact m4 | exact m5 | exact m6) (by repeat (first | exact hold | apply List.mem_cons_of_mem))) ?_
        clear hK K
        repeat (refine tree_take rfl (fun K hK => ?_); go_simp; with_reducible refine hK _ ?_; clear hK K)
        refine tree_one_yes (o := _) rfl rfl (fun K hK => ?_) (mkS _ _ hs (by first | exact m0 | exact m1 | exact m2 | exact m3 | exact m4 | exact m5 | exact m6) (by repeat (first | exact hold | apply List.mem_cons_of_mem)))
        refine op_alloc hs rfl _ zref [.slice none 0 0, .slice none 0 0, .slice none 0 0] rfl fun b6 w6 h => hK _ _ (mkS _ _ h (by first | exact m0 | exact m1 | exact m2 | exact m3 | exact m4 | exact m5 | exact m6) (by repeat (first | exact hold | apply List.mem_cons_of_mem))) ?_
        clear hs hK K
        have hs := h
        clear h
        try dsimp only [List.set] at hs
        try go_simp
        refine tree_one_yes (o := _) rfl rfl (fun K hK => ?_) (mkS _ _ hs (by first | exact m0 | exact m1 | exact m2 | exact m3 | exact m4 | exact m5 | exact m6) (by repeat (first | exact hold | apply List.mem_cons_of_mem)))
        refine op_store_whole hs (b := b6) rfl rfl [_, _, _] rfl (slices_one rfl rfl rfl) (by kernel_rfl) (k := 0) rfl rfl fun w7 h => hK _ _ (mkS _ _ (by have h' := h; dsimp only [List.set] at h'; exact h') (by first | exact m0 | exact m1 | exact m2 | exact m3 | exact m4 | exact m5 | exact m6) (by repeat (first | exact hold | apply List.mem_cons_of_mem))) ?_
        clear hs hK K
        have hs := h
        clear h
        try dsimp only [List.set] at hs
        try go_simp
        repeat (refine tree_take rfl (fun K hK => ?_); go_simp; with_reducible refine hK _ ?_; clear hK K)
        refine tree_done ?_
        go_wp2_with (first
          | (refine wpl (o := ⟨some 26, .load _ _, _, _, _, _⟩) rfl fun K hK => op_load_agg rfl (b := b6) (i := 0) rfl [_, _, _] (range_whole hs (by first | exact m0 | exact m1 | exact m2 | exact m3 | exact m4 | exact m5 | exact m6)) (by kernel_rfl) (by kernel_rfl) (hK _ _ ?_); clear hK K)
          | (refine wpl (o := ⟨none, .store _ (.tmp 4) _, _, _, _, _⟩) rfl fun K hK => ?_; go_must (refine op_store_whole hs (b := b4) rfl rfl [_, _, _] rfl (slices_one rfl rfl rfl) (by kernel_rfl) (k := 3) rfl rfl fun w3 h => hK _ _ ?_); clear hs hK K; have hs := h; clear h; dsimp only [List.set] at hs))
        simp only [Dk.deed_size] at hs
        refine ⟨⟨k + 1, D.deed l[k], _, _, _, by omega, by go_num, Dk.deed_ok ok _, by rw [Dk.deed_size]; exact H8.out, by have := Dk.deed_row D l[k]; omega, hs.tail.keep (by repeat (first | exact List.Sublist.refl _ | with_reducible apply List.Sublist.cons_cons | apply List.Sublist.cons))⟩, by simp [intOf]; omega⟩
      · clear hS0
        refine op_alloc hs rfl _ zref [.slice none 0 0, .slice none 0 0, .slice none 0 0] rfl fun b6 w6 h => hK _ _ (mkS _ _ h (by first | exact m0 | exact m1 | exact m2 | exact m3 | exact m4 | exact m5 | exact m6) (by repeat (first | exact hold | apply List.mem_cons_of_mem))) ?_
        clear hs hK K
        have hs := h
        clear h
        try dsimp only [List.set] at hs
        try go_simp
        refine tree_one_yes (o := _) rfl rfl (fun K hK => ?_) (mkS _ _ hs (by first | exact m0 | exact m1 | exact m2 | exact m3 | exact m4 | exact m5 | exact m6) (by repeat (first | exact hold | apply List.mem_cons_of_mem)))
        go_simp
        go_at_call 32
        refine (do_spec W _ _ b1 _ _ _ vb vk D l[k] hs.rot3r (has_w (by repeat (first | exact hold | apply List.mem_cons_of_mem)) hb) (has_w (by repeat (first | exact hold | apply List.mem_cons_of_mem)) hkp) (by omega)).mono ?_
        clear hs
        rintro e w5 ⟨vs', va', vr', rfl, hs⟩
        obtain ⟨As', cs', rfl, _, _⟩ := slice_form (hs.slice (ref_secs m1))
        obtain ⟨Aa', ca', rfl, _, _⟩ := slice_form (hs.slice (ref_ats m1))
        obtain ⟨Ar', cr', rfl, _, _⟩ := slice_form (hs.slice (ref_row m1))
        try go_simp
        refine hK _ _ (mkS _ _ hs (by first | exact m0 | exact m1 | exact m2 | exact m3 | exact m4 | exact m5 | exact m6) (by repeat (first | exact hold | apply List.mem_cons_of_mem))) ?_
        clear hK K
        repeat (refine tree_take rfl (fun K hK => ?_); go_simp; with_reducible refine hK _ ?_; clear hK K)
        refine tree_one_yes (o := _) rfl rfl (fun K hK => ?_) (mkS _ _ hs (by first | exact m0 | exact m1 | exact m2 | exact m3 | exact m4 | exact m5 | exact m6) (by repeat (first | exact hold | apply List.mem_cons_of_mem)))
        refine op_store_whole hs (b := b6) rfl rfl [_, _, _] rfl (slices_one rfl rfl rfl) (by kernel_rfl) (k := 3) rfl rfl fun w7 h => hK _ _ (mkS _ _ (by have h' := h; dsimp only [List.set] at h'; exact h') (by first | exact m0 | exact m1 | exact m2 | exact m3 | exact m4 | exact m5 | exact m6) (by repeat (first | exact hold | apply List.mem_cons_of_mem))) ?_
        clear hs hK K
        have hs := h
        clear h
        try dsimp only [List.set] at hs
        try go_simp
        repeat (refine tree_take rfl (fun K hK => ?_); go_simp; with_reducible refine hK _ ?_; clear hK K)
        refine tree_done ?_
        go_wp2_with (first
          | (refine wpl (o := ⟨some 26, .load _ _, _, _, _, _⟩) rfl fun K hK => op_load_agg rfl (b := b6) (i := 0) rfl [_, _, _] (range_whole hs (by first | exact m0 | exact m1 | exact m2 | exact m3 | exact m4 | exact m5 | exact m6)) (by kernel_rfl) (by kernel_rfl) (hK _ _ ?_); clear hK K)
          | (refine wpl (o := ⟨none, .store _ (.tmp 4) _, _, _, _, _⟩) rfl fun K hK => ?_; go_must (refine op_store_whole hs (b := b4) rfl rfl [_, _, _] rfl (slices_one rfl rfl rfl) (by kernel_rfl) (k := 2) rfl rfl fun w3 h => hK _ _ ?_); clear hs hK K; have hs := h; clear h; dsimp only [List.set] at hs))
        simp only [Dk.deed_size] at hs
        refine ⟨⟨k + 1, D.deed l[k], _, _, _, by omega, by go_num, Dk.deed_ok ok _, by rw [Dk.deed_size]; exact H8.out, by have := Dk.deed_row D l[k]; omega, hs.keep (by repeat (first | exact List.Sublist.refl _ | with_reducible apply List.Sublist.cons_cons | apply List.Sublist.cons))⟩, by simp [intOf]; omega⟩
    · have hltI : ¬ (k : Int) < (l.length : Int) := by omega
      go_wp2_with fail
      go_ret
      exact ⟨b1, D, rfl, ok, H8.out, by omega, hs.keep (by repeat (first | exact List.Sublist.refl _ | with_reducible apply List.Sublist.cons_cons | apply List.Sublist.cons))⟩
end Go.Proofs.Ytclcajjcbdfaiaa
