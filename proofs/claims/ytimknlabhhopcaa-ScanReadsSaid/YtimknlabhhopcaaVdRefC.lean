/- The reference's Crash and Sync. -/
import Derived.Test.YtimknlabhhopcaaVdRefW
import Derived.Test.YtimknlabhhopcaaVdCrash
set_option linter.unusedVariables false
set_option linter.unusedSimpArgs false
namespace Go.Proofs.Ytimknlabhhopcaa
open Go.RowKit
/-- Cells that a class of worlds has. -/
def cellsS (l : List (Addr × Value)) (w : World) : Prop := ∀ x ∈ l, w.cell? x.1 = some x.2
theorem cellsS_nil {w : World} : cellsS [] w := fun x hx => by cases hx
theorem cellsS_cons {w : World} {a : Addr} {v : Value} {l : List (Addr × Value)} (h : w.cell? a = some v) (t : cellsS l w) : cellsS ((a, v) :: l) w := fun x hx => by
  rcases List.mem_cons.1 hx with rfl | hx
  · exact h
  · exact t x hx
theorem cellsS_get {l : List (Addr × Value)} (i : Nat) {a : Addr} {v : Value} (h : l[i]? = some (a, v)) : ∀ w, cellsS l w → w.cell? a = some v := fun w hw => hw _ (List.mem_of_getElem? h)
theorem strs_set (l : List (List UInt8)) (i : Nat) (x : List UInt8) : (strs l).set i (str x) = strs (l.set i x) := by simp [strs, List.map_set]
set_option maxRecDepth 100000 in
set_option maxHeartbeats 2000000 in
theorem rcrash_spec (W w : World) (L : List HP) (vs va vr : Value) (D : Dk) (hs : Sat W w (ref vs va vr D :: L)) (ok : D.Ok) (hr : D.row.length ≤ 1000000) (v : Value) (keep : List Bool) (hv : Has L (boolsAt v keep)) :
    Calls Try.prog 65 #[.agg #[vs, va, vr], v] w fun e w' => ∃ vs' va' vr', e = .returned (.agg #[vs', va', vr']) ∧ Sat W w' (ref vs' va' vr' (D.crash fun i => keep.getD i false) :: L) := by
  have hfew := ok.few
  obtain ⟨As, cs, rfl, _, _⟩ := slice_form (hs.slice (ref_secs m0))
  obtain ⟨Aa, ca, rfl, _, _⟩ := slice_form (hs.slice (ref_ats m0))
  obtain ⟨Ar, cr, rfl, _, _⟩ := slice_form (hs.slice (ref_row m0))
  obtain ⟨_, Ak, ck, rfl, hk1, hk2, _⟩ := hs.slice hv.tail
  go_enter Try.func65, Try.ntmps65
  go_wp2_with (first
    | (guard_target = wpList _ _ _ (⟨some 2, .box _ _, _, _, _, _⟩ :: _) _ _; refine wpl (o := ⟨some 2, .box _ _, _, _, _, _⟩) rfl fun K hK => ?_; go_must (refine op_box hs rfl _ rfl [.slice As D.secs.length cs, .slice Aa D.row.length ca, .slice Ar D.row.length cr] rfl fun b2 w1 h => hK _ _ ?_); clear hs hK K; have hs := h; clear h)
    | (guard_target = wpList _ _ _ (⟨some 4, .alloc _, _, _, _, _⟩ :: _) _ _; refine wpl (o := ⟨some 4, .alloc _, _, _, _, _⟩) rfl fun K hK => ?_; go_must (refine op_alloc hs rfl _ zref [.slice none 0 0, .slice none 0 0, .slice none 0 0] rfl fun b4 w1 h => hK _ _ ?_); clear hs hK K; have hs := h; clear h)
    | (guard_target = wpList _ _ _ (⟨some 7, .buildSlice _ _ _, _, _, _, _⟩ :: _) _ _; refine wpl (o := ⟨some 7, .buildSlice _ _ _, _, _, _, _⟩) rfl fun K hK => ?_; go_must (refine op_lit hs rfl Try.underlying29 info_str [] (by omega) (by simp [Instr.fill]) fun b7 w1 h => hK _ _ ?_); clear hs hK K; have hs := h; clear h)
    | (guard_target = wpList _ _ _ (⟨some 9, .load _ _, _, _, _, _⟩ :: _) _ _; refine wpl (o := ⟨some 9, .load _ _, _, _, _, _⟩) rfl fun K hK => op_load rfl (ad := ⟨b2, 0, none⟩) rfl (by kernel_rfl) (hs.cell m2 rfl) (hK _ _ ?_); clear hK K)
    | (guard_target = wpList _ _ _ (⟨some 10, .call _, _, _, _, _⟩ :: _) _ _; refine wpl (o := ⟨some 10, .call _, _, _, _, _⟩) rfl fun K hK => ?_; go_must (refine op_append_new hs rfl Try.underlying29 Try.underlying29 info_str rfl (by omega) rfl (slice_nil _ 1 (Has.head fun _ _ => trivial)) rfl (ref_secs m3) (.inr rfl) (by omega) (by omega) fun v10 w2 h => hK _ _ ?_); clear hs hK K; have hs := h; clear h
       obtain ⟨A10, c10, rfl, hc1, hc2⟩ := own_slice hs (i := 0) rfl
       simp only [Nat.zero_add, List.nil_append] at hs hc1)
    | (guard_target = wpList _ _ _ (⟨some 5, .alloc _, _, _, _, _⟩ :: _) _ _; refine wpl (o := ⟨some 5, .alloc _, _, _, _, _⟩) rfl fun K hK => ?_; go_must (refine op_alloc hs rfl _ zref [.slice none 0 0, .slice none 0 0, .slice none 0 0] rfl fun b5 w1 h => hK _ _ ?_); clear hs hK K; have hs := h; clear h)
    | (guard_target = wpList _ _ _ (⟨none, .store _ (.tmp 5) _, _, _, _, _⟩ :: _) _ _; refine wpl (o := ⟨none, .store _ (.tmp 5) _, _, _, _, _⟩) rfl fun K hK => ?_; go_must (refine op_store_whole hs (b := b5) rfl rfl [.slice A10 D.secs.length c10, .slice none 0 0, .slice none 0 0] rfl (slices_one rfl rfl rfl) (by kernel_rfl) (k := 0) rfl rfl fun w3 h => hK _ _ ?_); clear hs hK K; have hs := h; clear h; dsimp only [List.set] at hs))
  have hs' := hs.keep (L := row b5 [.slice A10 D.secs.length c10, .slice none 0 0, .slice none 0 0] 32 :: own (.slice A10 D.secs.length c10) 9 D.secs.length 1 (strs D.secs) :: row b4 [.slice none 0 0, .slice none 0 0, .slice none 0 0] 32 :: row b2 [.slice As D.secs.length cs, .slice Aa D.row.length ca, .slice Ar D.row.length cr] 32 :: ref (.slice As D.secs.length cs) (.slice Aa D.row.length ca) (.slice Ar D.row.length cr) D :: L) (by repeat (first | exact List.Sublist.refl _ | with_reducible apply List.Sublist.cons_cons | apply List.Sublist.cons))
  clear hs
  have hs := hs'
  clear hs'
  go_loopw [6] (fun v6 wr => ∃ k : Nat, k ≤ D.row.length ∧ v6 = .int .i64 k ∧ Sat W wr (row b5 [.slice A10 D.secs.length c10, .slice none 0 0, .slice none 0 0] 32 :: own (.slice A10 D.secs.length c10) 9 D.secs.length 1 (strs (D.upTo (fun i => keep.getD i false) k)) :: row b4 [.slice none 0 0, .slice none 0 0, .slice none 0 0] 32 :: row b2 [.slice As D.secs.length cs, .slice Aa D.row.length ca, .slice Ar D.row.length cr] 32 :: ref (.slice As D.secs.length cs) (.slice Aa D.row.length ca) (.slice Ar D.row.length cr) D :: L)) (fun v6 _ => D.row.length - (intOf v6).toNat)
  case atStart => exact ⟨0, by omega, rfl, hs⟩
  case round =>
    clear hs
    obtain ⟨k, hk, rfl, hs⟩ := hrel
    by_cases hlt : k < D.row.length
    · have hltI : (k : Int) < (D.row.length : Int) := by omega
      obtain ⟨ba, oa, ca', e⟩ := cells_at hs (ref_ats m4) (by omega)
      cases e
      obtain ⟨br, or', cr', e⟩ := cells_at hs (ref_row m4) (by omega)
      cases e
      have hwa := ok.wat D.row[k] (List.getElem_mem hlt)
      have hwaI : (D.row[k].1 : Int) < (D.secs.length : Int) := by omega
      obtain ⟨b10, c10', e⟩ := own_at hs 1 rfl (by omega)
      cases e
      have hsc := Dk.upTo_succ D (fun i => keep.getD i false) k hlt
      have hul := Dk.upTo_length D (fun i => keep.getD i false) k
      by_cases hkl : k < keep.length
      · have hklI : (k : Int) < (keep.length : Int) := by omega
        obtain ⟨bk, ok1, ck', e⟩ := bools_at hs hv.tail.tail.tail.tail.tail (by omega)
        cases e
        have hgd : keep.getD k false = keep[k] := by rw [List.getD_eq_getElem?_getD, List.getElem?_eq_getElem hkl]; rfl
        cases hkk : keep[k]
        · rw [hkk] at hgd
          go_wp2_with (first
            | (guard_target = wpList _ _ _ (⟨some 14, .load _ _, _, _, _, _⟩ :: _) _ _; refine wpl (o := ⟨some 14, .load _ _, _, _, _, _⟩) rfl fun K hK => op_load rfl (ad := ⟨b2, 2, none⟩) rfl (by kernel_rfl) (hs.cell m3 rfl) (hK _ _ ?_); clear hK K)
            | (guard_target = wpList _ _ _ (⟨some 27, .load _ _, _, _, _, _⟩ :: _) _ _; refine wpl (o := ⟨some 27, .load _ _, _, _, _, _⟩) rfl fun K hK => op_load rfl (ad := ⟨bk, ok1 + k, none⟩) rfl (by kernel_rfl) (by rw [bools_cell hs hv.tail.tail.tail.tail.tail k hkl, hkk]) (hK _ _ ?_); clear hK K))
          exact ⟨⟨k + 1, by omega, by go_num, by rw [hsc, if_neg (by rw [hgd]; decide)]; exact hs⟩, by simp [intOf]; omega⟩
        · rw [hkk] at hgd
          rw [hgd, if_pos rfl] at hsc
          go_wp2_with (first
            | (guard_target = wpList _ _ _ (⟨some 14, .load _ _, _, _, _, _⟩ :: _) _ _; refine wpl (o := ⟨some 14, .load _ _, _, _, _, _⟩) rfl fun K hK => op_load rfl (ad := ⟨b2, 2, none⟩) rfl (by kernel_rfl) (hs.cell m3 rfl) (hK _ _ ?_); clear hK K)
            | (guard_target = wpList _ _ _ (⟨some 27, .load _ _, _, _, _, _⟩ :: _) _ _; refine wpl (o := ⟨some 27, .load _ _, _, _, _, _⟩) rfl fun K hK => op_load rfl (ad := ⟨bk, ok1 + k, none⟩) rfl (by kernel_rfl) (by rw [bools_cell hs hv.tail.tail.tail.tail.tail k hkl, hkk]) (hK _ _ ?_); clear hK K))
          have mk : ∀ w vs', Sat W w (row b5 [.slice (some ⟨b10, 0, none⟩) D.secs.length c10, .slice none 0 0, .slice none 0 0] 32 :: own (.slice (some ⟨b10, 0, none⟩) D.secs.length c10) 9 D.secs.length 1 vs' :: row b4 [.slice none 0 0, .slice none 0 0, .slice none 0 0] 32 :: row b2 [.slice As D.secs.length cs, .slice (some ⟨ba, oa, none⟩) D.row.length ca, .slice (some ⟨br, or', none⟩) D.row.length cr] 32 :: ref (.slice As D.secs.length cs) (.slice (some ⟨ba, oa, none⟩) D.row.length ca) (.slice (some ⟨br, or', none⟩) D.row.length cr) D :: L) → cellsS [(⟨b5, 0, none⟩, .slice (some ⟨b10, 0, none⟩) D.secs.length c10), (⟨b2, 1, none⟩, .slice (some ⟨ba, oa, none⟩) D.row.length ca), (⟨b2, 2, none⟩, .slice (some ⟨br, or', none⟩) D.row.length cr), (⟨ba, oa + k, none⟩, .int .i64 D.row[k].1), (⟨br, or' + k, none⟩, str D.row[k].2)] w := fun w vs' h =>
            cellsS_cons (h.cell m0 rfl) (cellsS_cons (h.cell m3 rfl) (cellsS_cons (h.cell m3 rfl) (cellsS_cons (cell_at h (ref_ats m4) k (ats_get hlt)) (cellsS_cons (cell_at h (ref_row m4) k (row_get hlt)) cellsS_nil))))
          generalize hS : cellsS [(⟨b5, 0, none⟩, .slice (some ⟨b10, 0, none⟩) D.secs.length c10), (⟨b2, 1, none⟩, .slice (some ⟨ba, oa, none⟩) D.row.length ca), (⟨b2, 2, none⟩, .slice (some ⟨br, or', none⟩) D.row.length cr), (⟨ba, oa + k, none⟩, .int .i64 D.row[k].1), (⟨br, or' + k, none⟩, str D.row[k].2)] = S at mk
          have c0 : ∀ w, S w → w.cell? ⟨b5, 0, none⟩ = some (.slice (some ⟨b10, 0, none⟩) D.secs.length c10) := by rw [← hS]; exact cellsS_get 0 rfl
          have c1 : ∀ w, S w → w.cell? ⟨b2, 1, none⟩ = some (.slice (some ⟨ba, oa, none⟩) D.row.length ca) := by rw [← hS]; exact cellsS_get 1 rfl
          have c2 : ∀ w, S w → w.cell? ⟨b2, 2, none⟩ = some (.slice (some ⟨br, or', none⟩) D.row.length cr) := by rw [← hS]; exact cellsS_get 2 rfl
          have c3 : ∀ w, S w → w.cell? ⟨ba, oa + k, none⟩ = some (.int .i64 D.row[k].1) := by rw [← hS]; exact cellsS_get 3 rfl
          have c4 : ∀ w, S w → w.cell? ⟨br, or' + k, none⟩ = some (str D.row[k].2) := by rw [← hS]; exact cellsS_get 4 rfl
          clear hS
          refine wp_region_tree S (.take 0 (.take 1 (.take 2 (.take 3 (.take 4 (.take 5 (.take 6 (.take 7 (.take 8 (.take 9 (.take 10 (.take 11 (.take 12 (.all [(13, DTree.done)])))))))))))))) (by kernel_rfl) (by kernel_rfl) (by kernel_rfl) (fun _ _ d _ _ h => by cases d <;> exact h) (mk _ _ hs.drew) ?_
          have hs' := hs.drew
          clear hs
          have hs := hs'
          clear hs'
          have hS0 := mk _ _ hs
          have hq := fun p : Prop => class_const hS0 p
          repeat (first
            | (with_reducible refine tree_load (o := ⟨some 30, .load _ _, _, _, _, _⟩) rfl rfl rfl rfl rfl c0 ?_)
            | (with_reducible refine tree_load (o := ⟨some 32, .load _ _, _, _, _, _⟩) rfl rfl rfl rfl rfl c1 ?_)
            | (with_reducible refine tree_load (o := ⟨some 35, .load _ _, _, _, _, _⟩) rfl rfl rfl rfl rfl c3 ?_)
            | (with_reducible refine tree_load (o := ⟨some 37, .load _ _, _, _, _, _⟩) rfl rfl rfl rfl rfl c2 ?_)
            | (with_reducible refine tree_load (o := ⟨some 40, .load _ _, _, _, _, _⟩) rfl rfl rfl rfl rfl c4 ?_)
            | (refine tree_take rfl (fun K hK => ?_); go_simp; with_reducible refine hK _ ?_; clear hK K))
          refine tree_one_yes (o := ⟨none, .store _ _ _, _, _, _, _⟩) rfl rfl (fun K hK => ?_) hS0
          refine op_store_own1 hs rfl 1 rfl (by omega) (i := D.row[k].1) rfl (str D.row[k].2) rfl rfl (by kernel_rfl) (by rw [strs_length, hul]; exact hwa) fun w9 h => hK _ _ (by have h' := h; dsimp only [List.set] at h'; exact mk _ _ h') ?_
          clear hs hK K hS0
          have hs := h
          clear h
          dsimp only [List.set] at hs
          rw [strs_set, ← hsc] at hs
          try go_simp
          refine tree_done ?_
          go_wp2_with fail
          exact ⟨⟨k + 1, by omega, by go_num, hs⟩, by simp [intOf]; omega⟩
      · have hklI : ¬ (k : Int) < (keep.length : Int) := by omega
        have hgd : keep.getD k false = false := by rw [List.getD_eq_getElem?_getD, List.getElem?_eq_none (by omega)]; rfl
        go_wp2_with (first
          | (guard_target = wpList _ _ _ (⟨some 14, .load _ _, _, _, _, _⟩ :: _) _ _; refine wpl (o := ⟨some 14, .load _ _, _, _, _, _⟩) rfl fun K hK => op_load rfl (ad := ⟨b2, 2, none⟩) rfl (by kernel_rfl) (hs.cell m3 rfl) (hK _ _ ?_); clear hK K))
        exact ⟨⟨k + 1, by omega, by go_num, by rw [hsc, if_neg (by rw [hgd]; decide)]; exact hs⟩, by simp [intOf]; omega⟩
    · have hltI : ¬ (k : Int) < (D.row.length : Int) := by omega
      obtain rfl : k = D.row.length := by omega
      go_wp2_with (first
        | (guard_target = wpList _ _ _ (⟨some 14, .load _ _, _, _, _, _⟩ :: _) _ _; refine wpl (o := ⟨some 14, .load _ _, _, _, _, _⟩) rfl fun K hK => op_load rfl (ad := ⟨b2, 2, none⟩) rfl (by kernel_rfl) (hs.cell m3 rfl) (hK _ _ ?_); clear hK K)
        | (guard_target = wpList _ _ _ (⟨some 42, .load _ _, _, _, _, _⟩ :: _) _ _; refine wpl (o := ⟨some 42, .load _ _, _, _, _, _⟩) rfl fun K hK => op_load_agg rfl (b := b5) (i := 0) rfl [.slice A10 D.secs.length c10, .slice none 0 0, .slice none 0 0] (range_whole hs m0) (by kernel_rfl) (by kernel_rfl) (hK _ _ ?_); clear hK K)
        | (guard_target = wpList _ _ _ (⟨none, .store _ (.tmp 4) _, _, _, _, _⟩ :: _) _ _; refine wpl (o := ⟨none, .store _ (.tmp 4) _, _, _, _, _⟩) rfl fun K hK => ?_; go_must (refine op_store_whole hs (b := b4) rfl rfl [.slice A10 D.secs.length c10, .slice none 0 0, .slice none 0 0] rfl (slices_one rfl rfl rfl) (by kernel_rfl) (k := 2) rfl rfl fun w3 h => hK _ _ ?_); clear hs hK K; have hs := h; clear h; dsimp only [List.set] at hs))
      refine bodyPost_ret (run_results_cell rfl (b := b4) rfl [.slice A10 D.secs.length c10, .slice none 0 0, .slice none 0 0] (range_whole hs m2) (by kernel_rfl) (by kernel_rfl)) rfl ⟨_, _, _, rfl, ?_⟩
      have h1 : Sat W w3 (own (.slice A10 D.secs.length c10) 9 D.secs.length 1 (strs (D.upTo (fun i => keep.getD i false) D.row.length)) :: L) := hs.keep (by repeat (first | exact List.Sublist.refl _ | with_reducible apply List.Sublist.cons_cons | apply List.Sublist.cons))
      refine h1.sub (i := 0) rfl fun F hF => ⟨by rw [Dk.crash_size]; exact own_sliceAt F hF, ⟨rfl, none, 0, rfl, Nat.le_refl _, by omega, .inl rfl⟩, ⟨rfl, none, 0, rfl, Nat.le_refl _, by omega, .inl rfl⟩⟩
theorem Sat.pull3 {W w : World} {L : List HP} {A B C D : HP} (h : Sat W w (A :: B :: C :: D :: L)) : Sat W w (D :: A :: B :: C :: L) :=
  h.perm ((((List.Perm.swap D C _).cons B).cons A).trans (((List.Perm.swap D B _).cons A).trans (List.Perm.swap D A _)))
theorem info_bool : (Try.prog.info? 4).map (fun i => (i.zero, i.size, i.bytes)) = some (some (.bool false), 1, 1) := by kernel_rfl
theorem bools_one (l : List Bool) : ∀ v ∈ bools l, v.oneCell' = true := fun v hv => by
  simp only [bools, List.mem_map] at hv
  obtain ⟨_, _, rfl⟩ := hv; rfl
theorem all_true (D : Dk) : (D.crash fun i => (List.replicate D.row.length true).getD i false) = D.sync :=
  Dk.crash_congr D fun i hi => by simp [List.getElem?_replicate, hi]
set_option maxRecDepth 100000 in
set_option maxHeartbeats 1000000 in
theorem rsync_spec (W w : World) (L : List HP) (vs va vr : Value) (D : Dk) (hs : Sat W w (ref vs va vr D :: L)) (ok : D.Ok) (hr : D.row.length ≤ 1000000) :
    Calls Try.prog 64 #[.agg #[vs, va, vr]] w fun e w' => ∃ vs' va' vr', e = .returned (.agg #[vs', va', vr']) ∧ Sat W w' (ref vs' va' vr' D.sync :: L) := by
  obtain ⟨As, cs, rfl, _, _⟩ := slice_form (hs.slice (ref_secs m0))
  obtain ⟨Aa, ca, rfl, _, _⟩ := slice_form (hs.slice (ref_ats m0))
  obtain ⟨Ar, cr, rfl, _, _⟩ := slice_form (hs.slice (ref_row m0))
  have HA := Box.mk (all_true D)
  go_enter Try.func64, Try.ntmps64
  go_wp2_with (first
    | (guard_target = wpList _ _ _ (⟨some 1, .box _ _, _, _, _, _⟩ :: _) _ _; refine wpl (o := ⟨some 1, .box _ _, _, _, _, _⟩) rfl fun K hK => ?_; go_must (refine op_box hs rfl _ rfl [.slice As D.secs.length cs, .slice Aa D.row.length ca, .slice Ar D.row.length cr] rfl fun b1 w1 h => hK _ _ ?_); clear hs hK K; have hs := h; clear h)
    | (guard_target = wpList _ _ _ (⟨some 2, .alloc _, _, _, _, _⟩ :: _) _ _; refine wpl (o := ⟨some 2, .alloc _, _, _, _, _⟩) rfl fun K hK => ?_; go_must (refine op_alloc hs rfl _ zref [.slice none 0 0, .slice none 0 0, .slice none 0 0] rfl fun b2 w1 h => hK _ _ ?_); clear hs hK K; have hs := h; clear h))
  have hs' := hs.addNil none 4 1
  clear hs
  have hs := hs'
  clear hs'
  go_loopw [3, 4] (fun v3 v4 wr => ∃ k : Nat, k ≤ D.row.length ∧ v4 = .int .i64 k ∧ Sat W wr (own v3 4 k 1 (bools (List.replicate k true)) :: row b2 [.slice none 0 0, .slice none 0 0, .slice none 0 0] 32 :: row b1 [.slice As D.secs.length cs, .slice Aa D.row.length ca, .slice Ar D.row.length cr] 32 :: ref (.slice As D.secs.length cs) (.slice Aa D.row.length ca) (.slice Ar D.row.length cr) D :: L)) (fun _ v4 _ => D.row.length - (intOf v4).toNat)
  case atStart => exact ⟨0, by omega, rfl, hs⟩
  case round =>
    clear hs
    obtain ⟨k, hk, rfl, hs⟩ := hrel
    obtain ⟨A3, c3, rfl, hc1, hc2⟩ := own_slice hs (i := 0) rfl
    by_cases hlt : k < D.row.length
    · have hltI : (k : Int) < (D.row.length : Int) := by omega
      go_wp2_with (first
        | (guard_target = wpList _ _ _ (⟨some 7, .load _ _, _, _, _, _⟩ :: _) _ _; refine wpl (o := ⟨some 7, .load _ _, _, _, _, _⟩) rfl fun K hK => op_load rfl (ad := ⟨b1, 2, none⟩) rfl (by kernel_rfl) (hs.cell m2 rfl) (hK _ _ ?_); clear hK K)
        | (guard_target = wpList _ _ _ (⟨some 13, .buildSlice _ _ _, _, _, _, _⟩ :: _) _ _; refine wpl (o := ⟨some 13, .buildSlice _ _ _, _, _, _, _⟩) rfl fun K hK => ?_; go_must (refine op_lit1 hs rfl Try.underlying51 info_bool rfl (bools [true]) (by omega) rfl (bools_one _) (by simp [bools, Act.eval]) fun b13 w3 h => hK _ _ ?_); clear hs hK K; have hs := h; clear h)
        | (guard_target = wpList _ _ _ (⟨some 14, .call _, _, _, _, _⟩ :: _) _ _; refine wpl (o := ⟨some 14, .call _, _, _, _, _⟩) rfl fun K hK => ?_; go_must (refine op_append hs rfl Try.underlying51 Try.underlying51 info_bool rfl (by omega) (k := 1) rfl rfl rfl (lit_slice 0 rfl 1 1 rfl (by omega)) (bools_one _) (by omega) (by omega) fun v14 w4 h => hK _ _ ?_); clear hs hK K; have hs := h; clear h; dsimp only [List.set] at hs))
      have e : bools (List.replicate k true) ++ bools [true] = bools (List.replicate (k + 1) true) := by rw [List.replicate_succ', bools, bools, bools, List.map_append]
      rw [e] at hs
      exact ⟨⟨k + 1, by omega, by go_num, hs.tail⟩, by simp [intOf]; omega⟩
    · have hltI : ¬ (k : Int) < (D.row.length : Int) := by omega
      obtain rfl : k = D.row.length := by omega
      go_wp2_with (first
        | (guard_target = wpList _ _ _ (⟨some 7, .load _ _, _, _, _, _⟩ :: _) _ _; refine wpl (o := ⟨some 7, .load _ _, _, _, _, _⟩) rfl fun K hK => op_load rfl (ad := ⟨b1, 2, none⟩) rfl (by kernel_rfl) (hs.cell m2 rfl) (hK _ _ ?_); clear hK K)
        | (guard_target = wpList _ _ _ (⟨some 15, .load _ _, _, _, _, _⟩ :: _) _ _; refine wpl (o := ⟨some 15, .load _ _, _, _, _, _⟩) rfl fun K hK => op_load_agg rfl (b := b1) (i := 0) rfl [.slice As D.secs.length cs, .slice Aa D.row.length ca, .slice Ar D.row.length cr] (range_whole hs m2) (by kernel_rfl) (by kernel_rfl) (hK _ _ ?_); clear hK K)
        | (go_at_call 65; go_must (refine (rcrash_spec W _ _ _ _ _ D hs.pull3 ok hr _ (List.replicate D.row.length true) (Has.head fun F hF => by have := own_sliceAt F hF; simpa [boolsAt] using this)).mono ?_); clear hs; rintro e w1 ⟨vs', va', vr', rfl, hs⟩
           rw [HA.out] at hs
           obtain ⟨As', cs', rfl, _, _⟩ := slice_form (hs.slice (ref_secs m0))
           obtain ⟨Aa', ca', rfl, _, _⟩ := slice_form (hs.slice (ref_ats m0))
           obtain ⟨Ar', cr', rfl, _, _⟩ := slice_form (hs.slice (ref_row m0)))
        | (guard_target = wpList _ _ _ (⟨none, .store _ (.tmp 2) _, _, _, _, _⟩ :: _) _ _; refine wpl (o := ⟨none, .store _ (.tmp 2) _, _, _, _, _⟩) rfl fun K hK => ?_; go_must (refine op_store_whole hs (b := b2) rfl rfl [_, _, _] rfl (slices_one rfl rfl rfl) (by kernel_rfl) (k := 2) rfl rfl fun w3 h => hK _ _ ?_); clear hs hK K; have hs := h; clear h; dsimp only [List.set] at hs))
      simp only [Dk.sync_size, Dk.sync_row, List.length_nil] at hs
      exact bodyPost_ret (run_results_cell rfl (b := b2) rfl [_, _, _] (range_whole hs m2) (by kernel_rfl) (by kernel_rfl)) rfl ⟨_, _, _, rfl, hs.keep (by repeat (first | exact List.Sublist.refl _ | with_reducible apply List.Sublist.cons_cons | apply List.Sublist.cons))⟩
end Go.Proofs.Ytimknlabhhopcaa
