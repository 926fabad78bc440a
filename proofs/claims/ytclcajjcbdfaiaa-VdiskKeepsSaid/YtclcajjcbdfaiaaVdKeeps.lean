/- The walk of the law VdiskKeeps. -/
import Derived.Test.YtclcajjcbdfaiaaVdW
import Derived.Test.YtclcajjcbdfaiaaKinW
set_option linter.unusedVariables false
set_option linter.unusedSimpArgs false
namespace Go.Proofs.Ytclcajjcbdfaiaa
open Go.RowKit
theorem bytesH_mem {L : List HP} {v : Value} {l : List UInt8} (h : bytesH v l ∈ L) : Has L (bytesAt v l) := Has.mem h fun F h => h
theorem own_bools {L : List HP} {v : Value} {l : List Bool} {e : TypeId} {n : Nat} (hm : own v e n 1 (bools l) ∈ L) (hn : l.length = n) : Has L (boolsAt v l) := by
  subst hn
  exact Has.mem hm own_sliceAt
namespace Dk
theorem upTo_none (D : Dk) : ∀ k, D.upTo (fun _ => false) k = D.secs
  | 0 => rfl
  | k + 1 => by rw [upTo]; simp [upTo_none D k]
theorem crash_none (D : Dk) : (D.crash fun i => ([] : List Bool).getD i false).secs = D.secs := by
  show D.upTo _ _ = _
  simp [upTo_none]
theorem crash_all (D : Dk) : (D.crash fun i => (List.replicate D.row.length true).getD i false) = D.sync :=
  crash_congr D fun i hi => by simp [List.getD_eq_getElem?_getD, hi]
theorem read_plain {D : Dk} (h : D.row = []) (i : Nat) : D.read i = D.secs.getD i [] := by unfold read; rw [h]; rfl
end Dk
set_option maxRecDepth 100000 in
set_option maxHeartbeats 8000000 in
theorem vdiskKeeps_walk (W w : World) (L : List HP) (hs : Sat W w L) (hold : old W ∈ L) (v0 : Value) (l : List Deed) (h0 : deedsAt v0 l (hp W)) (v1 : Value) (more : List Deed) (h1 : deedsAt v1 more (hp W)) :
    Calls Try.prog 12 #[v0, v1] w fun e w' => e = .returned (.bool true) ∧ Sat W w' L := by
  obtain ⟨A0, c0, rfl, hl1, hl2, hl3⟩ := deeds_form h0
  obtain ⟨A1, c1, rfl, hm1, hm2, hm3⟩ := deeds_form h1
  go_enter Try.func12, Try.ntmps12
  go_wp2_with (first
    | (go_at_call 22; go_must (refine (vawake_spec W _ _ hs).mono ?_); clear hs; rintro e w1 ⟨rfl, hs⟩)
    | (go_at_call 23; with_reducible refine (few2_spec W _ _ hs (by repeat (first | exact hold | apply List.mem_cons_of_mem)) _ l h0).mono ?_; clear hs; rintro e w1 (⟨rfl, hs⟩ | ⟨rfl, hf0, hf0b, hs⟩))
    | (go_at_call 23; with_reducible refine (few2_spec W _ _ hs (by repeat (first | exact hold | apply List.mem_cons_of_mem)) _ more h1).mono ?_; clear hs; rintro e w1 (⟨rfl, hs⟩ | ⟨rfl, hf1, hf1b, hs⟩))
    | (go_at_call 24; go_must (refine (run_spec W _ _ hs (by repeat (first | exact hold | apply List.mem_cons_of_mem)) _ l h0 (by omega)).mono ?_); clear hs; rintro e w1 ⟨b1, D0, rfl, ok0, h80, hr0, hs⟩
       have H80 := Box.mk h80; clear h80)
    | (go_at_call 26; go_must (refine (sync_spec W _ _ b1 _ hs (by omega)).mono ?_); clear hs; rintro e w1 ⟨rfl, hs⟩)
    | (go_at_call 36; go_must (refine (copy_spec W _ _ b1 D0.sync hs (by have := H80.out; simp; omega) (by simp)).mono ?_); clear hs; rintro e w1 ⟨b7, rfl, hs⟩))
  · go_ret
    exact ⟨rfl, hs.pack (by repeat (first | with_reducible exact Pack.refl | with_reducible exact Pack.nil | with_reducible refine Pack.cons (by repeat (first | with_reducible exact Pick.here | with_reducible apply Pick.there)) ?_ | with_reducible apply Pack.drop))⟩
  · go_ret
    exact ⟨rfl, hs.pack (by repeat (first | with_reducible exact Pack.refl | with_reducible exact Pack.nil | with_reducible refine Pack.cons (by repeat (first | with_reducible exact Pick.here | with_reducible apply Pick.there)) ?_ | with_reducible apply Pack.drop))⟩
  have H1 : Box (D0.sync.secs.length = 8 ∧ D0.sync.row = []) := ⟨by simp [H80.out], by simp⟩
  generalize hD1 : D0.sync = D1 at hs H1
  go_loopw [8] (fun v8 wr => ∃ (k : Nat) (D : Dk), k ≤ more.length ∧ v8 = .int .i64 k ∧ Box (D.secs = D1.secs) ∧ D.row.length ≤ k ∧ Sat W wr (disk b7 D1 :: disk b1 D :: L)) (fun v8 _ => more.length - (intOf v8).toNat)
  case atStart => exact ⟨0, D1, by omega, rfl, ⟨rfl⟩, by simp [H1.out.2], hs⟩
  case round =>
    clear hs hD1
    obtain ⟨k, D, hk, rfl, hsec, hrow, hs⟩ := hrel
    have H8 : Box (D.secs.length = 8) := ⟨by rw [hsec.out]; exact H1.out.1⟩
    by_cases hlt : k < more.length
    · have hltI : (k : Int) < (more.length : Int) := by omega
      obtain ⟨bd, od, cd, vb, vk, e, hrg, hvb, hkp, _⟩ := deeds_old h1 k hlt
      cases e
      have hc1 : W.cell? ⟨bd, od + k * 4 + 1, none⟩ = _ := hrg 1 _ rfl
      have hc2 : W.cell? ⟨bd, od + k * 4 + 2, none⟩ = _ := hrg 2 _ rfl
      go_wp2_with fail
      have hS0 := (hs.drew.oldS (by repeat (first | exact hold | apply List.mem_cons_of_mem)))
      refine wp_region_tree (oldS W) (.take 0 (.take 1 (.take 2 (.take 3 (.take 4 (.take 5 (.take 6 (.take 7 (.take 8 (.take 9 (.take 10 (.all [(11, DTree.done)])))))))))))) (by kernel_rfl) (by kernel_rfl) (by kernel_rfl) (fun _ _ d _ _ h => by cases d <;> exact h) hS0 ?_
      have hs' := hs.drew
      clear hs
      have hs := hs'
      clear hs'
      have hq := fun p : Prop => class_const hS0 p
      clear hS0
      repeat (first
        | (with_reducible refine tree_load (o := ⟨some 51, .load _ _, _, _, _, _⟩) rfl rfl rfl rfl rfl (fun w h => h.cell hc1) ?_)
        | (with_reducible refine tree_load (o := ⟨some 56, .load _ _, _, _, _, _⟩) rfl rfl rfl rfl rfl (fun w h => h.cell hc2) ?_)
        | (refine tree_take rfl (fun K hK => ?_); go_simp; with_reducible refine hK _ ?_; clear hK K))
      refine tree_one_yes (o := _) rfl rfl (fun K hK => ?_) ((hs.oldS (by repeat (first | exact hold | apply List.mem_cons_of_mem))))
      try go_simp
      go_at_call 25
      refine (write_any W _ _ b1 D (hs.pick (by repeat (first | with_reducible exact Pick.here | with_reducible apply Pick.there))) _ vb more[k].b (has_w (by repeat (first | exact hold | apply List.mem_cons_of_mem)) hvb) (by omega)).mono ?_
      clear hs
      rintro e w5 ⟨rfl, hs⟩
      try go_simp
      refine hK _ _ ((hs.oldS (by repeat (first | exact hold | apply List.mem_cons_of_mem)))) ?_
      clear hK K
      refine tree_done ?_
      go_wp2_with fail
      have hwr := Dk.wnext_row D more[k].at_ more[k].b
      have hws : (D.wnext more[k].at_ more[k].b).secs = D.secs := by unfold Dk.wnext; split <;> rfl
      exact ⟨⟨k + 1, _, by omega, by go_num, ⟨by rw [hws]; exact hsec.out⟩, by omega, hs.pack (by repeat (first | with_reducible exact Pack.refl | with_reducible exact Pack.nil | with_reducible refine Pack.cons (by repeat (first | with_reducible exact Pick.here | with_reducible apply Pick.there)) ?_ | with_reducible apply Pack.drop))⟩, by simp [intOf]; omega⟩
    · have hltI : ¬ (k : Int) < (more.length : Int) := by omega
      go_wp2_with (first
        | (go_at_call 36; refine (copy_spec W _ _ b1 D ((show Sat W _ (disk b7 D1 :: disk b1 D :: L) from hs).pick (by repeat (first | with_reducible exact Pick.here | with_reducible apply Pick.there))) (by have := H8.out; omega) (by omega)).mono ?_; clear hs; rintro e w1 ⟨b9, rfl, hs⟩)
        | (go_at_call 36; go_must (refine (copy_spec W _ _ b1 D (hs.pick (by repeat (first | with_reducible exact Pick.here | with_reducible apply Pick.there))) (by have := H8.out; omega) (by omega)).mono ?_); clear hs; rintro e w1 ⟨b10, rfl, hs⟩))
      have hs' := hs.addNil none 4 1
      clear hs
      have hs := hs'
      clear hs'
      go_loopw [11, 12] (fun v11 v12 wr => ∃ (j : Nat), j ≤ D.row.length ∧ v12 = .int .i64 j ∧ Sat W wr (own v11 4 j 1 (bools (List.replicate j true)) :: disk b10 D :: disk b1 D :: disk b9 D :: disk b7 D1 :: L)) (fun _ v12 _ => D.row.length - (intOf v12).toNat)
      case atStart => exact ⟨0, by omega, rfl, hs⟩
      case round =>
        clear hs
        obtain ⟨j, hj, rfl, hs⟩ := hrel
        obtain ⟨A11, c11, rfl, _, _⟩ := own_slice hs (i := 0) rfl
        by_cases hlt2 : j < D.row.length
        · have hlt2I : (j : Int) < (D.row.length : Int) := by omega
          go_wp2_with (first
            | (go_at_call 33; go_must (refine (pending_spec W _ _ b1 D (hs.pick (by repeat (first | with_reducible exact Pick.here | with_reducible apply Pick.there)))).mono ?_); clear hs; rintro e w1 ⟨rfl, hs⟩)
            | (refine wpl (o := ⟨some 69, .buildSlice _ _ _, _, _, _, _⟩) rfl fun K hK => ?_; go_must (refine op_lit1 hs rfl Try.underlying45 info_bool rfl (bools [true]) (by omega) rfl (by simp [bools, Value.oneCell']) (by simp [bools, Act.eval]) fun b69 w1 h => hK _ _ ?_); clear hs hK K; have hs := h; clear h; try dsimp only [List.set] at hs)
            | (refine wpl (o := ⟨some 70, .call _, _, _, _, _⟩) rfl fun K hK => ?_; go_must (refine op_append hs rfl Try.underlying45 Try.underlying45 info_bool rfl (by omega) (k := 2) rfl rfl rfl (Has.mem m0 fun F hF => own_sliceAt F (own_exact (n := 1) (sz := 1) rfl (by omega) F hF)) (by simp [bools, Value.oneCell']) (by simp; omega) (by simp; omega) fun v70 w4 h => hK _ _ ?_); clear hs hK K; have hs := h; clear h; try dsimp only [List.set] at hs))
          have eb : bools (List.replicate j true) ++ bools [true] = bools (List.replicate (j + 1) true) := by rw [List.replicate_succ']; simp [bools]
          rw [eb] at hs
          exact ⟨⟨j + 1, by omega, by go_num, hs.pack (by repeat (first | with_reducible exact Pack.refl | with_reducible exact Pack.nil | with_reducible refine Pack.cons (by repeat (first | with_reducible exact Pick.here | with_reducible apply Pick.there)) ?_ | with_reducible apply Pack.drop))⟩, by simp [intOf]; omega⟩
        · have hlt2I : ¬ (j : Int) < (D.row.length : Int) := by omega
          obtain rfl : j = D.row.length := by omega
          have hall := Box.mk (Dk.crash_all D)
          have hnone := Box.mk (Dk.crash_none D)
          go_wp2_with (first
            | (go_at_call 33; go_must (refine (pending_spec W _ _ b1 D (hs.pick (by repeat (first | with_reducible exact Pick.here | with_reducible apply Pick.there)))).mono ?_); clear hs; rintro e w1 ⟨rfl, hs⟩)
            | (go_at_call 26; go_must (refine (sync_spec W _ _ b1 D (hs.pick (by repeat (first | with_reducible exact Pick.here | with_reducible apply Pick.there))) (by omega)).mono ?_); clear hs; rintro e w1 ⟨rfl, hs⟩)
            | (go_at_call 27; with_reducible refine (crash_spec W _ _ b9 D (hs.pick (by repeat (first | with_reducible exact Pick.here | with_reducible apply Pick.there))) (by omega) _ (List.replicate D.row.length true) (own_bools (by repeat (first | with_reducible exact List.mem_cons_self | with_reducible apply List.mem_cons_of_mem)) (by simp))).mono ?_; clear hs; rintro e w1 ⟨rfl, hs⟩; rw [hall.out] at hs)
            | (go_at_call 27; with_reducible refine (crash_spec W _ _ b10 D (hs.pick (by repeat (first | with_reducible exact Pick.here | with_reducible apply Pick.there))) (by omega) _ [] (Has.of (A := disk b1 D.sync) (by repeat (first | with_reducible exact List.mem_cons_self | with_reducible apply List.mem_cons_of_mem)) fun F _ => bools_nil F)).mono ?_; clear hs; rintro e w1 ⟨rfl, hs⟩))
          have hs' : Sat W _ (disk b1 D.sync :: disk b9 D.sync :: disk b10 (D.crash fun i => ([] : List Bool).getD i false) :: disk b7 D1 :: L) := hs.pack (by repeat (first | with_reducible exact Pack.refl | with_reducible exact Pack.nil | with_reducible refine Pack.cons (by repeat (first | with_reducible exact Pick.here | with_reducible apply Pick.there)) ?_ | with_reducible apply Pack.drop))
          clear hs
          have hs := hs'
          clear hs' hall
          have hz8 : Box ((D.crash fun i => ([] : List Bool).getD i false).secs.length = 8) := ⟨by rw [hnone.out]; exact H8.out⟩
          have hzr : Box (∀ i : Nat, (D.crash fun i => ([] : List Bool).getD i false).read i = D1.read i) := ⟨fun i => by rw [Dk.read_plain (by simp), Dk.read_plain H1.out.2, hnone.out, hsec.out]⟩
          have hz0 : (D.crash fun i => ([] : List Bool).getD i false).row.length = 0 := by simp
          have hS8 : Box (D.sync.secs.length = 8) := ⟨by simp [H8.out]⟩
          have hS0 : D.sync.row.length = 0 := by simp
          have h10 : D1.row.length = 0 := by simp [H1.out.2]
          generalize (D.crash fun i => ([] : List Bool).getD i false) = Dz at hs hz8 hzr hz0
          generalize D.sync = Ds at hs hS8 hS0
          clear hnone
          go_loopw [13] (fun v13 wr => ∃ (i : Nat), i ≤ 8 ∧ v13 = .int .i64 i ∧ Sat W wr (disk b1 Ds :: disk b9 Ds :: disk b10 Dz :: disk b7 D1 :: L)) (fun v13 _ => 8 - (intOf v13).toNat)
          case atStart => exact ⟨0, by omega, rfl, hs⟩
          case round =>
            clear hs
            obtain ⟨i, hi, rfl, hs⟩ := hrel
            by_cases hlt3 : i < 8
            · have hlt3I : (i : Int) < 8 := by omega
              have hb1 := Box.mk (rbytes_in (D := Ds) (i := i) (by have := hS8.out; omega))
              have hb2 := Box.mk (rbytes_in (D := Dz) (i := i) (by have := hz8.out; omega))
              have hb3 := Box.mk (rbytes_in (D := D1) (i := i) (by have := H1.out.1; omega))
              have hc3 := Box.mk (rcode_in (D := D1) (i := i) (by have := H1.out.1; omega))
              go_wp2_with (first
                | (go_at_call 28; with_reducible refine (read_any W _ _ b1 Ds (hs.pick (by repeat (first | with_reducible exact Pick.here | with_reducible apply Pick.there))) i (by omega)).mono ?_; clear hs; rintro e w1 ⟨vx, rfl, hs⟩; rw [hb1.out] at hs)
                | (go_at_call 28; with_reducible refine (read_any W _ _ b9 Ds (hs.pick (by repeat (first | with_reducible exact Pick.here | with_reducible apply Pick.there))) i (by omega)).mono ?_; clear hs; rintro e w1 ⟨vy, rfl, hs⟩; rw [hb1.out] at hs)
                | (go_at_call 28; with_reducible refine (read_any W _ _ b10 Dz (hs.pick (by repeat (first | with_reducible exact Pick.here | with_reducible apply Pick.there))) i (by omega)).mono ?_; clear hs; rintro e w1 ⟨vz, rfl, hs⟩; rw [hb2.out, hzr.out] at hs)
                | (go_at_call 28; with_reducible refine (read_any W _ _ b7 D1 (hs.pick (by repeat (first | with_reducible exact Pick.here | with_reducible apply Pick.there))) i (by omega)).mono ?_; clear hs; rintro e w1 ⟨vw, rfl, hs⟩; rw [hb3.out] at hs; rw [hc3.out])
                | (refine wpl (o := ⟨some 117, .convert _ _ _, _, _, _, _⟩) rfl fun K hK => ?_; go_must (refine op_to_string rfl Try.underlying22 Try.underlying5 Try.underlying9 rfl (hs.bytes (bytesH_mem (v := vx) (l := Ds.read i) (by repeat (first | with_reducible exact List.mem_cons_self | with_reducible apply List.mem_cons_of_mem)))) (hK _ _ ?_)); clear hK K)
                | (refine wpl (o := ⟨some 119, .convert _ _ _, _, _, _, _⟩) rfl fun K hK => ?_; go_must (refine op_to_string rfl Try.underlying22 Try.underlying5 Try.underlying9 rfl (hs.bytes (bytesH_mem (v := vy) (l := Ds.read i) (by repeat (first | with_reducible exact List.mem_cons_self | with_reducible apply List.mem_cons_of_mem)))) (hK _ _ ?_)); clear hK K)
                | (refine wpl (o := ⟨some 123, .convert _ _ _, _, _, _, _⟩) rfl fun K hK => ?_; go_must (refine op_to_string rfl Try.underlying22 Try.underlying5 Try.underlying9 rfl (hs.bytes (bytesH_mem (v := vz) (l := D1.read i) (by repeat (first | with_reducible exact List.mem_cons_self | with_reducible apply List.mem_cons_of_mem)))) (hK _ _ ?_)); clear hK K)
                | (refine wpl (o := ⟨some 125, .convert _ _ _, _, _, _, _⟩) rfl fun K hK => ?_; go_must (refine op_to_string rfl Try.underlying22 Try.underlying5 Try.underlying9 rfl (hs.bytes (bytesH_mem (v := vw) (l := D1.read i) (by repeat (first | with_reducible exact List.mem_cons_self | with_reducible apply List.mem_cons_of_mem)))) (hK _ _ ?_)); clear hK K))
              exact ⟨⟨i + 1, by omega, by go_num, hs.pack (by repeat (first | with_reducible exact Pack.refl | with_reducible exact Pack.nil | with_reducible refine Pack.cons (by repeat (first | with_reducible exact Pick.here | with_reducible apply Pick.there)) ?_ | with_reducible apply Pack.drop))⟩, by simp [intOf]; omega⟩
            · have hlt3I : ¬ (i : Int) < 8 := by omega
              go_wp2_with fail
              go_ret
              exact ⟨rfl, hs.pack (by repeat (first | with_reducible exact Pack.refl | with_reducible exact Pack.nil | with_reducible refine Pack.cons (by repeat (first | with_reducible exact Pick.here | with_reducible apply Pick.there)) ?_ | with_reducible apply Pack.drop))⟩
theorem vdiskKeeps_main (W : World) (l : List Deed) (v0 : Value) (h0 : (Kin.slice 64 deedKin).K (hp W) l [v0]) (more : List Deed) (v1 : Value) (h1 : (Kin.slice 64 deedKin).K (hp W) more [v1]) :
    Calls Try.prog 12 #[v0, v1] W fun e w' => e = .returned (.bool true) ∧ Below W.heap.size W w' :=
  (vdiskKeeps_walk W W _ (Sat.start W) m0 v0 l h0 v1 more h1).mono fun e w' ⟨he, hs⟩ => ⟨he, hs.end_ m0⟩
end Go.Proofs.Ytclcajjcbdfaiaa
