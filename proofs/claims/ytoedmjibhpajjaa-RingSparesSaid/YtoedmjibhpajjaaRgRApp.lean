/- The contract of ogiveref06.Append. -/
import Derived.Test.YtoedmjibhpajjaaRgRAppA
set_option linter.unusedVariables false
set_option linter.unusedSimpArgs false
namespace Go.Proofs.Ytoedmjibhpajjaa
open Go.RowKit
set_option maxRecDepth 100000 in
set_option maxHeartbeats 8000000 in
theorem rappend_spec (W w : World) (L : List HP) (vs va vr : Value) (R : Rg) (ok : R.Ok) (hs : Sat W w (ref vs va vr R.D :: L)) (rec : List UInt8) (hl : rec.length ≤ 100000) (hr : R.D.row.length ≤ 800000) :
    Calls Try.prog 54 #[.agg (rrCells vs va vr R).toArray, (.string ⟨(rec).toArray⟩)] w fun e w' => ∃ vs' va' vr', e = .returned (.tuple #[.agg (rrCells vs' va' vr' (R.append rec)).toArray, .int .u32 (R.told rec : Nat), .int .i64 (R.code rec : Nat)]) ∧ Sat W w' (ref vs' va' vr' (R.append rec).D :: L) := by
  obtain ⟨As, cs, rfl, _, _⟩ := slice_form (hs.slice (ref_secs m0))
  obtain ⟨Aa, ca, rfl, _, _⟩ := slice_form (hs.slice (ref_ats m0))
  obtain ⟨Ar, cr, rfl, _, _⟩ := slice_form (hs.slice (ref_row m0))
  obtain ⟨n, hn⟩ : ∃ n, (cuts rec).length = n := ⟨_, rfl⟩
  have hcl : Box ((cutF R.epoch R.next rec).length = n) := ⟨by rw [cutF_length, hn]⟩
  have hnb : 0 < n ∧ n ≤ 100001 := by
    have h1 := cuts_count rec
    have h2 := List.length_pos_iff.2 (cuts_ne rec)
    omega
  obtain ⟨hn0, hn1⟩ := hnb
  have hnext := ok.top
  have hnextb : R.next < 4294967296 := by omega
  have hw2 : IntKind.i64.wrap (R.next : Int) = (R.next : Int) := by rw [IntKind.wrap_i64]; omega
  have hw5 : IntKind.i64.wrap ((R.next : Int) + (n : Int)) = (R.next : Int) + (n : Int) := by rw [IntKind.wrap_i64]; omega
  by_cases hfree : R.free < n
  · exact rappend_not W w L _ _ _ R ok hs rec hl hr (.inl (by rw [hn]; exact hfree))
  have hfreeI : ¬ (R.free : Int) < (n : Int) := by omega
  by_cases hover : 1073741824 < R.next + n
  · exact rappend_not W w L _ _ _ R ok hs rec hl hr (.inr (by rw [hn]; exact hover))
  have hoverI : ¬ (1073741824 : Int) < (R.next : Int) + (n : Int) := by omega
  have hcode : R.code rec = 0 := by unfold Rg.code; rw [hn, if_neg hfree, if_neg hover]
  have htold : R.told rec = R.next + n := by unfold Rg.told; rw [hcode, hn]; rfl
  have happ : R.append rec = { R with D := R.lay R.D (R.frames rec), next := R.next + n } := by unfold Rg.append; rw [hcode, hn]; rfl
  rw [hcode, htold, happ]
  clear hcode htold happ
  have hplace := ok.place
  have hdfew := ok.disk.few
  have hmany1 := ok.many1
  go_enter Try.func54, Try.ntmps54
  go_wp2_with (first
    | (guard_target = wpList _ _ _ (⟨some 2, .box _ _, _, _, _, _⟩ :: _) _ _; refine wpl (o := ⟨some 2, .box _ _, _, _, _, _⟩) rfl fun K hK => ?_; go_must (refine op_box hs rfl _ rfl (rrCells (.slice As R.D.secs.length cs) (.slice Aa R.D.row.length ca) (.slice Ar R.D.row.length cr) R) rfl fun b2 w1 h => hK _ _ ?_); clear hs hK K; have hs := h; clear h; try dsimp only [List.set] at hs)
    | (guard_target = wpList _ _ _ (⟨some 4, .alloc _, _, _, _, _⟩ :: _) _ _; refine wpl (o := ⟨some 4, .alloc _, _, _, _, _⟩) rfl fun K hK => ?_; go_must (refine op_alloc hs rfl _ zrref zrCells rfl fun b4 w1 h => hK _ _ ?_); clear hs hK K; have hs := h; clear h; try dsimp only [List.set] at hs)
    | (guard_target = wpList _ _ _ (⟨some 14, .load _ _, _, _, _, _⟩ :: _) _ _; refine wpl (o := ⟨some 14, .load _ _, _, _, _, _⟩) rfl fun K hK => op_load rfl (ad := ⟨b2, 5, none⟩) rfl (by kernel_rfl) (hs.cell m1 rfl) (hK _ _ ?_); clear hK K)
    | (guard_target = wpList _ _ _ (⟨some 16, .load _ _, _, _, _, _⟩ :: _) _ _; refine wpl (o := ⟨some 16, .load _ _, _, _, _, _⟩) rfl fun K hK => op_load rfl (ad := ⟨b2, 7, none⟩) rfl (by kernel_rfl) (hs.cell m1 rfl) (hK _ _ ?_); clear hK K)
    | (go_at_call 22; go_must (refine (rcut_spec W _ _ hs R.epoch R.next ok.ep hnextb rec (by omega)).mono ?_); clear hs; rintro e w1 ⟨v7, rfl, hs⟩; rw [hn] at hs
       obtain ⟨b7, c7, sp7, rfl, _, _, _, _⟩ := hs.ownOpen (i := 0) rfl hn0)
    | (guard_target = wpList _ _ _ (⟨some 21, .load _ _, _, _, _, _⟩ :: _) _ _; refine wpl (o := ⟨some 21, .load _ _, _, _, _, _⟩) rfl fun K hK => op_load_agg rfl (b := b2) (i := 0) rfl (rrCells (.slice As R.D.secs.length cs) (.slice Aa R.D.row.length ca) (.slice Ar R.D.row.length cr) R) (range_whole hs (by (try dsimp only [List.set]); repeat (first | with_reducible exact List.mem_cons_self | with_reducible apply List.mem_cons_of_mem))) (by kernel_rfl) (by kernel_rfl) (hK _ _ ?_); clear hK K)
    | (go_at_call 38; go_must (refine (rrfree_spec W _ _ hs _ _ _ R ok).mono ?_); clear hs; rintro e w1 ⟨rfl, hs⟩)
    | (guard_target = wpList _ _ _ (⟨some 26, .load _ _, _, _, _, _⟩ :: _) _ _; refine wpl (o := ⟨some 26, .load _ _, _, _, _, _⟩) rfl fun K hK => op_load rfl (ad := ⟨b2, 7, none⟩) rfl (by kernel_rfl) (hs.cell m2 rfl) (hK _ _ ?_); clear hK K))
  have hlay0 := hs.pack (L := row b2 (rrCells (.slice As R.D.secs.length cs) (.slice Aa R.D.row.length ca) (.slice Ar R.D.row.length cr) R) 75 :: row b4 zrCells 75 :: ref (.slice As R.D.secs.length cs) (.slice Aa R.D.row.length ca) (.slice Ar R.D.row.length cr) (R.lay R.D ((R.frames rec).take 0)) :: own (.slice (some ⟨b7, 0, none⟩) n c7) 33 n 4 (rfs (cutF R.epoch R.next rec)) :: L) (by
    rw [show R.lay R.D ((R.frames rec).take 0) = R.D from rfl]
    exact (by repeat (first | with_reducible exact Pack.refl | with_reducible exact Pack.nil | with_reducible refine Pack.cons (by repeat (first | with_reducible exact Pick.here | with_reducible apply Pick.there)) ?_ | with_reducible apply Pack.drop)))
  clear hs
  have hs := hlay0
  clear hlay0
  go_loopw [8] (fun v8 wr => ∃ (i : Nat) (us ua ur : Value), i ≤ n ∧ v8 = .int .i64 (i : Nat) ∧ Sat W wr (row b2 (rrCells us ua ur R) 75 :: row b4 zrCells 75 :: ref us ua ur (R.lay R.D ((R.frames rec).take i)) :: own (.slice (some ⟨b7, 0, none⟩) n c7) 33 n 4 (rfs (cutF R.epoch R.next rec)) :: L)) (fun v8 _ => n - (intOf v8).toNat)
  case atStart => exact ⟨0, _, _, _, by omega, rfl, hs⟩
  case round =>
    clear hs
    obtain ⟨i, us, ua, ur, hi, rfl, hs⟩ := hrel
    obtain ⟨As1, cs1, rfl, _, _⟩ := slice_form (hs.slice (ref_secs (by (try dsimp only [List.set]); repeat (first | with_reducible exact List.mem_cons_self | with_reducible apply List.mem_cons_of_mem))))
    obtain ⟨Aa1, ca1, rfl, _, _⟩ := slice_form (hs.slice (ref_ats (by (try dsimp only [List.set]); repeat (first | with_reducible exact List.mem_cons_self | with_reducible apply List.mem_cons_of_mem))))
    obtain ⟨Ar1, cr1, rfl, _, _⟩ := slice_form (hs.slice (ref_row (by (try dsimp only [List.set]); repeat (first | with_reducible exact List.mem_cons_self | with_reducible apply List.mem_cons_of_mem))))
    by_cases hin : i < n
    · have hinI : (i : Int) < (n : Int) := by omega
      have hfl : i < (R.frames rec).length := by show i < (cutF R.epoch R.next rec).length; rw [hcl.out]; exact hin
      obtain ⟨f, hff⟩ : ∃ f, (R.frames rec)[i] = f := ⟨_, rfl⟩
      have hfb : f.body.length ≤ 50 := by rw [← hff]; exact Rg.frames_body R rec _ (List.getElem_mem hfl)
      have hfo : f.Ok := by rw [← hff]; exact frames_ok ok rec _ (List.getElem_mem hfl)
      have hfs := hfo.2
      have hstep : Box (R.lay R.D ((R.frames rec).take (i + 1)) = (R.lay R.D ((R.frames rec).take i)).write (R.at_ f.seq) f.pack) := ⟨by rw [List.take_succ_eq_append_getElem hfl, hff, Rg.lay_snoc]⟩
      have hrow : Box ((R.lay R.D ((R.frames rec).take i)).row.length ≤ 1000000) := ⟨by rw [Rg.lay_rows]; simp; omega⟩
      have hat : Box (R.at_ f.seq < (R.lay R.D ((R.frames rec).take i)).secs.length) := ⟨by rw [Rg.lay_size]; exact Rg.at_lt ok _⟩
      have hpl : Box (f.pack.length ≤ 64) := ⟨by rw [Fr.pack_length hfb]; omega⟩
      have q9 := rfs_prt (R.frames rec) i hfl
      rw [hff] at q9
      have q9' : ∀ j v, (rCells f)[j]? = some v → (rfs (cutF R.epoch R.next rec))[i * 4 + j]? = some v := q9
      clear q9 hff hfl
      generalize R.lay R.D ((R.frames rec).take i) = Di at hs hstep hrow hat
      generalize hus : Value.slice As1 Di.secs.length cs1 = us at hs
      generalize hua : Value.slice Aa1 Di.row.length ca1 = ua at hs
      generalize hur : Value.slice Ar1 Di.row.length cr1 = ur at hs
      have cS2 : ∀ w M, Sat W w M → row b2 (rrCells us ua ur R) 75 ∈ M → own (.slice (some ⟨b7, 0, none⟩) n c7) 33 n 4 (rfs (cutF R.epoch R.next rec)) ∈ M → cutS b2 (rrCells us ua ur R) b7 (i * 4) (rCells f) w := fun w M h hm hm2 => ⟨range_whole h hm, own_rng h hm2 q9'⟩
      have d49 : ∀ w, cutS b2 (rrCells us ua ur R) b7 (i * 4) (rCells f) w → w.rangeAt b2 0 [us, ua, ur] := fun w h j x hx => h.1 j x (by
        match j, hx with
        | 0, hx => exact hx
        | 1, hx => exact hx
        | 2, hx => exact hx)
      have d51 : ∀ w, cutS b2 (rrCells us ua ur R) b7 (i * 4) (rCells f) w → w.cell? ⟨b2, 3, none⟩ = some (.int .i64 (R.first : Nat)) := fun w h => h.1 3 _ rfl
      have d53 : ∀ w, cutS b2 (rrCells us ua ur R) b7 (i * 4) (rCells f) w → w.cell? ⟨b2, 4, none⟩ = some (.int .i64 (R.many : Nat)) := fun w h => h.1 4 _ rfl
      have d58 : ∀ w, cutS b2 (rrCells us ua ur R) b7 (i * 4) (rCells f) w → w.cell? ⟨b7, i * 4 + 1, none⟩ = some (.int .u32 (f.seq : Nat)) := fun w h => h.2 1 _ rfl
      have k43 := fun w (h : Sat W w (row b2 (rrCells us ua ur R) 75 :: row b4 zrCells 75 :: ref us ua ur Di :: own (.slice (some ⟨b7, 0, none⟩) n c7) 33 n 4 (rfs (cutF R.epoch R.next rec)) :: L)) => own_rng h (by (try dsimp only [List.set]); repeat (first | with_reducible exact List.mem_cons_self | with_reducible apply List.mem_cons_of_mem)) q9'
      go_wp2_with (first
        | (guard_target = wpList _ _ _ (⟨some 43, .load _ _, _, _, _, _⟩ :: _) _ _; refine wpl (o := ⟨some 43, .load _ _, _, _, _, _⟩) rfl fun K hK => op_load_agg rfl (b := b7) (i := i * 4) rfl (rCells f) (k43 _ hs) (by kernel_rfl) (by kernel_rfl) (hK _ _ ?_); clear hK K)
        | (go_at_call 17; go_must (refine (rpack_row W _ _ hs f hfo hfb).mono ?_); clear hs; rintro e w1 ⟨rfl, hs⟩))
      have hS0 := cS2 _ _ hs.drew (by (try dsimp only [List.set]); repeat (first | with_reducible exact List.mem_cons_self | with_reducible apply List.mem_cons_of_mem)) (by (try dsimp only [List.set]); repeat (first | with_reducible exact List.mem_cons_self | with_reducible apply List.mem_cons_of_mem))
      refine wp_region_tree (cutS b2 (rrCells us ua ur R) b7 (i * 4) (rCells f)) (.take 0 (.take 1 (.take 2 (.take 3 (.take 4 (.take 5 (.take 6 (.take 7 (.take 8 (.take 9 (.take 10 (.take 12 (.all [(11, .all [(13, .all [(14, .take 15 (.take 16 (.take 17 (.all [(18, .all [(19, .take 20 (DTree.done))])])))), (18, .all [(14, .take 15 (.take 16 (.take 17 (.all [(19, .take 20 (DTree.done))]))))])]), (18, .all [(13, .all [(14, .take 15 (.take 16 (.take 17 (.all [(19, .take 20 (DTree.done))]))))])])]), (13, .all [(11, .all [(14, .take 15 (.take 16 (.take 17 (.all [(18, .all [(19, .take 20 (DTree.done))])])))), (18, .all [(14, .take 15 (.take 16 (.take 17 (.all [(19, .take 20 (DTree.done))]))))])]), (18, .all [(11, .all [(14, .take 15 (.take 16 (.take 17 (.all [(19, .take 20 (DTree.done))]))))])])]), (18, .all [(11, .all [(13, .all [(14, .take 15 (.take 16 (.take 17 (.all [(19, .take 20 (DTree.done))]))))])]), (13, .all [(11, .all [(14, .take 15 (.take 16 (.take 17 (.all [(19, .take 20 (DTree.done))]))))])])])]))))))))))))) (by kernel_rfl) (by kernel_rfl) (by kernel_rfl) (fun _ _ d _ _ h => by cases d <;> exact h) hS0 ?_
      have hs' := hs.drew
      clear hs
      have hs := hs'
      clear hs'
      have hq := fun p : Prop => class_const hS0 p
      clear hS0
      repeat (first
        | (with_reducible refine tree_load_agg (o := ⟨some 49, .load _ _, _, _, _, _⟩) [us, ua, ur] rfl rfl rfl rfl ?_ ?_ d49 ?_; (kernel_rfl); (kernel_rfl))
        | (with_reducible refine tree_load (o := ⟨some 51, .load _ _, _, _, _, _⟩) rfl rfl rfl rfl rfl d51 ?_)
        | (with_reducible refine tree_load (o := ⟨some 53, .load _ _, _, _, _, _⟩) rfl rfl rfl rfl rfl d53 ?_)
        | (with_reducible refine tree_load (o := ⟨some 58, .load _ _, _, _, _, _⟩) rfl rfl rfl rfl rfl d58 ?_)
        | (refine tree_take rfl (fun K hK => ?_); go_simp; with_reducible refine hK _ ?_; clear hK K))
      refine tree_all (trees_cons_yes (o := _) rfl rfl (fun K hK => ?_) (cS2 _ _ hs (by (try dsimp only [List.set]); repeat (first | with_reducible exact List.mem_cons_self | with_reducible apply List.mem_cons_of_mem)) (by (try dsimp only [List.set]); repeat (first | with_reducible exact List.mem_cons_self | with_reducible apply List.mem_cons_of_mem))) (trees_cons_yes (o := _) rfl rfl (fun K hK => ?_) (cS2 _ _ hs (by (try dsimp only [List.set]); repeat (first | with_reducible exact List.mem_cons_self | with_reducible apply List.mem_cons_of_mem)) (by (try dsimp only [List.set]); repeat (first | with_reducible exact List.mem_cons_self | with_reducible apply List.mem_cons_of_mem))) (trees_cons_yes (o := _) rfl rfl (fun K hK => ?_) (cS2 _ _ hs (by (try dsimp only [List.set]); repeat (first | with_reducible exact List.mem_cons_self | with_reducible apply List.mem_cons_of_mem)) (by (try dsimp only [List.set]); repeat (first | with_reducible exact List.mem_cons_self | with_reducible apply List.mem_cons_of_mem))) trees_nil)))
      · try go_simp
        go_at_call 68
        refine (rat_spec W _ _ hs R.first R.many f.seq hmany1 (by omega) hfs).mono ?_
        clear hs
        rintro e w5 ⟨rfl, hs⟩
        try go_simp
        refine hK _ _ (cS2 _ _ hs (by (try dsimp only [List.set]); repeat (first | with_reducible exact List.mem_cons_self | with_reducible apply List.mem_cons_of_mem)) (by (try dsimp only [List.set]); repeat (first | with_reducible exact List.mem_cons_self | with_reducible apply List.mem_cons_of_mem))) ?_
        clear hK K
        refine tree_all (trees_cons_yes (o := _) rfl rfl (fun K hK => ?_) (cS2 _ _ hs (by (try dsimp only [List.set]); repeat (first | with_reducible exact List.mem_cons_self | with_reducible apply List.mem_cons_of_mem)) (by (try dsimp only [List.set]); repeat (first | with_reducible exact List.mem_cons_self | with_reducible apply List.mem_cons_of_mem))) (trees_cons_yes (o := _) rfl rfl (fun K hK => ?_) (cS2 _ _ hs (by (try dsimp only [List.set]); repeat (first | with_reducible exact List.mem_cons_self | with_reducible apply List.mem_cons_of_mem)) (by (try dsimp only [List.set]); repeat (first | with_reducible exact List.mem_cons_self | with_reducible apply List.mem_cons_of_mem))) trees_nil))
        · refine op_to_bytes hs rfl Try.underlying9 Try.underlying23 Try.underlying5 (l := f.pack) rfl (by have := hpl.out; omega) fun v61 w2 h => hK _ _ (cS2 _ _ h (by (try dsimp only [List.set]); repeat (first | with_reducible exact List.mem_cons_self | with_reducible apply List.mem_cons_of_mem)) (by (try dsimp only [List.set]); repeat (first | with_reducible exact List.mem_cons_self | with_reducible apply List.mem_cons_of_mem))) ?_
          clear hs hK K
          have hs := h
          clear h
          try dsimp only [List.set] at hs
          try go_simp
          refine tree_all (trees_cons_yes (o := _) rfl rfl (fun K hK => ?_) (cS2 _ _ hs (by (try dsimp only [List.set]); repeat (first | with_reducible exact List.mem_cons_self | with_reducible apply List.mem_cons_of_mem)) (by (try dsimp only [List.set]); repeat (first | with_reducible exact List.mem_cons_self | with_reducible apply List.mem_cons_of_mem))) (trees_cons_yes (o := _) rfl rfl (fun K hK => ?_) (cS2 _ _ hs (by (try dsimp only [List.set]); repeat (first | with_reducible exact List.mem_cons_self | with_reducible apply List.mem_cons_of_mem)) (by (try dsimp only [List.set]); repeat (first | with_reducible exact List.mem_cons_self | with_reducible apply List.mem_cons_of_mem))) trees_nil))
          · try go_simp
            go_at_call 67
            refine (rwrite_spec W _ _ us ua ur Di (hs.pick (A := ref us ua ur Di) (by repeat (first | with_reducible exact Pick.here | with_reducible apply Pick.there))) (R.at_ f.seq) hat.out v61 f.pack (Has.mem (A := own v61 5 f.pack.length 1 (u8s f.pack)) (by (try dsimp only [List.set]); repeat (first | with_reducible exact List.mem_cons_self | with_reducible apply List.mem_cons_of_mem)) own_sliceAt) hpl.out hrow.out).mono ?_
            clear hs
            rintro e w5 ⟨vs2, va2, vr2, rfl, hs⟩
            generalize hDn : Di.write (R.at_ f.seq) f.pack = Dn at hs
            obtain ⟨As2, cs2, rfl, _, _⟩ := slice_form (hs.slice (ref_secs m0))
            obtain ⟨Aa2, ca2, rfl, _, _⟩ := slice_form (hs.slice (ref_ats m0))
            obtain ⟨Ar2, cr2, rfl, _, _⟩ := slice_form (hs.slice (ref_row m0))
            try go_simp
            refine hK _ _ (cS2 _ _ hs (by (try dsimp only [List.set]); repeat (first | with_reducible exact List.mem_cons_self | with_reducible apply List.mem_cons_of_mem)) (by (try dsimp only [List.set]); repeat (first | with_reducible exact List.mem_cons_self | with_reducible apply List.mem_cons_of_mem))) ?_
            clear hK K
            repeat (first
              | (with_reducible refine tree_load_agg (o := ⟨some 49, .load _ _, _, _, _, _⟩) [us, ua, ur] rfl rfl rfl rfl ?_ ?_ d49 ?_; (kernel_rfl); (kernel_rfl))
              | (with_reducible refine tree_load (o := ⟨some 51, .load _ _, _, _, _, _⟩) rfl rfl rfl rfl rfl d51 ?_)
              | (with_reducible refine tree_load (o := ⟨some 53, .load _ _, _, _, _, _⟩) rfl rfl rfl rfl rfl d53 ?_)
              | (with_reducible refine tree_load (o := ⟨some 58, .load _ _, _, _, _, _⟩) rfl rfl rfl rfl rfl d58 ?_)
              | (refine tree_take rfl (fun K hK => ?_); go_simp; with_reducible refine hK _ ?_; clear hK K))
            refine tree_one_yes (o := _) rfl rfl (fun K hK => ?_) (cS2 _ _ hs (by (try dsimp only [List.set]); repeat (first | with_reducible exact List.mem_cons_self | with_reducible apply List.mem_cons_of_mem)) (by (try dsimp only [List.set]); repeat (first | with_reducible exact List.mem_cons_self | with_reducible apply List.mem_cons_of_mem)))
            refine op_alloc hs rfl _ zref [.slice none 0 0, .slice none 0 0, .slice none 0 0] rfl fun b11 w2 h => hK _ _ (cS2 _ _ h (by (try dsimp only [List.set]); repeat (first | with_reducible exact List.mem_cons_self | with_reducible apply List.mem_cons_of_mem)) (by (try dsimp only [List.set]); repeat (first | with_reducible exact List.mem_cons_self | with_reducible apply List.mem_cons_of_mem))) ?_
            clear hs hK K
            have hs := h
            clear h
            try dsimp only [List.set] at hs
            try go_simp
            refine tree_one_yes (o := _) rfl rfl (fun K hK => ?_) (cS2 _ _ hs (by (try dsimp only [List.set]); repeat (first | with_reducible exact List.mem_cons_self | with_reducible apply List.mem_cons_of_mem)) (by (try dsimp only [List.set]); repeat (first | with_reducible exact List.mem_cons_self | with_reducible apply List.mem_cons_of_mem)))
            refine op_store_whole (hs.pick (A := row b11 [.slice none 0 0, .slice none 0 0, .slice none 0 0] 72) (by repeat (first | with_reducible exact Pick.here | with_reducible apply Pick.there))) rfl (b := b11) rfl [_, _, _] rfl (slices_one rfl rfl rfl) (by kernel_rfl) (k := 0) rfl rfl fun w3 h => hK _ _ (cS2 _ _ h (by (try dsimp only [List.set]); repeat (first | with_reducible exact List.mem_cons_self | with_reducible apply List.mem_cons_of_mem)) (by (try dsimp only [List.set]); repeat (first | with_reducible exact List.mem_cons_self | with_reducible apply List.mem_cons_of_mem))) ?_
            clear hs hK K
            have hs := h
            clear h
            try dsimp only [List.set] at hs
            try go_simp
            repeat (first
              | (with_reducible refine tree_load_agg (o := ⟨some 49, .load _ _, _, _, _, _⟩) [us, ua, ur] rfl rfl rfl rfl ?_ ?_ d49 ?_; (kernel_rfl); (kernel_rfl))
              | (with_reducible refine tree_load (o := ⟨some 51, .load _ _, _, _, _, _⟩) rfl rfl rfl rfl rfl d51 ?_)
              | (with_reducible refine tree_load (o := ⟨some 53, .load _ _, _, _, _, _⟩) rfl rfl rfl rfl rfl d53 ?_)
              | (with_reducible refine tree_load (o := ⟨some 58, .load _ _, _, _, _, _⟩) rfl rfl rfl rfl rfl d58 ?_)
              | (refine tree_take rfl (fun K hK => ?_); go_simp; with_reducible refine hK _ ?_; clear hK K))
            refine tree_done ?_
            clear hq
            have hs1 := hs.pick (A := row b2 (rrCells us ua ur R) 75) (by repeat (first | with_reducible exact Pick.here | with_reducible apply Pick.there))
            clear hs
            have hs := hs1
            clear hs1
            go_wp2_with (first
              | (guard_target = wpList _ _ _ (⟨some 65, .load _ _, _, _, _, _⟩ :: _) _ _; refine wpl (o := ⟨some 65, .load _ _, _, _, _, _⟩) rfl fun K hK => op_load_agg rfl (b := b11) (i := 0) rfl [.slice As2 Dn.secs.length cs2, .slice Aa2 Dn.row.length ca2, .slice Ar2 Dn.row.length cr2] (range_whole hs (by (try dsimp only [List.set]); repeat (first | with_reducible exact List.mem_cons_self | with_reducible apply List.mem_cons_of_mem))) (by kernel_rfl) (by kernel_rfl) (hK _ _ ?_); clear hK K)
              | (guard_target = wpList _ _ _ (⟨none, .store _ (.tmp 66) _, _, _, _, _⟩ :: _) _ _; refine wpl (o := ⟨none, .store _ (.tmp 66) _, _, _, _, _⟩) rfl fun K hK => ?_; go_must (refine op_store_agg hs rfl (b := b2) (i := 0) rfl [.slice As2 Dn.secs.length cs2, .slice Aa2 Dn.row.length ca2, .slice Ar2 Dn.row.length cr2] rfl (slices_one rfl rfl rfl) (by kernel_rfl) (k := 0) rfl (by simp [rrCells, rriCells]) fun w5 h => hK _ _ ?_); clear hs hK K; have hs := h; clear h; try dsimp only [List.set] at hs))
            refine ⟨⟨i + 1, .slice As2 Dn.secs.length cs2, .slice Aa2 Dn.row.length ca2, .slice Ar2 Dn.row.length cr2, by omega, rfl, ?_⟩, by show n - ((i : Int) + 1).toNat < n - (i : Int).toNat; omega⟩
            rw [hstep.out, hDn]
            exact hs.pack (L := row b2 (rrCells (.slice As2 Dn.secs.length cs2) (.slice Aa2 Dn.row.length ca2) (.slice Ar2 Dn.row.length cr2) R) 75 :: _) (Pack.cons Pick.here (by repeat (first | with_reducible exact Pack.refl | with_reducible exact Pack.nil | with_reducible refine Pack.cons (by repeat (first | with_reducible exact Pick.here | with_reducible apply Pick.there)) ?_ | with_reducible apply Pack.drop)))
          · refine op_alloc hs rfl _ zref [.slice none 0 0, .slice none 0 0, .slice none 0 0] rfl fun b11 w2 h => hK _ _ (cS2 _ _ h (by (try dsimp only [List.set]); repeat (first | with_reducible exact List.mem_cons_self | with_reducible apply List.mem_cons_of_mem)) (by (try dsimp only [List.set]); repeat (first | with_reducible exact List.mem_cons_self | with_reducible apply List.mem_cons_of_mem))) ?_
            clear hs hK K
            have hs := h
            clear h
            try dsimp only [List.set] at hs
            try go_simp
            refine tree_one_yes (o := _) rfl rfl (fun K hK => ?_) (cS2 _ _ hs (by (try dsimp only [List.set]); repeat (first | with_reducible exact List.mem_cons_self | with_reducible apply List.mem_cons_of_mem)) (by (try dsimp only [List.set]); repeat (first | with_reducible exact List.mem_cons_self | with_reducible apply List.mem_cons_of_mem)))
            try go_simp
            go_at_call 67
            refine (rwrite_spec W _ _ us ua ur Di (hs.pick (A := ref us ua ur Di) (by repeat (first | with_reducible exact Pick.here | with_reducible apply Pick.there))) (R.at_ f.seq) hat.out v61 f.pack (Has.mem (A := own v61 5 f.pack.length 1 (u8s f.pack)) (by (try dsimp only [List.set]); repeat (first | with_reducible exact List.mem_cons_self | with_reducible apply List.mem_cons_of_mem)) own_sliceAt) hpl.out hrow.out).mono ?_
            clear hs
            rintro e w5 ⟨vs2, va2, vr2, rfl, hs⟩
            generalize hDn : Di.write (R.at_ f.seq) f.pack = Dn at hs
            obtain ⟨As2, cs2, rfl, _, _⟩ := slice_form (hs.slice (ref_secs m0))
            obtain ⟨Aa2, ca2, rfl, _, _⟩ := slice_form (hs.slice (ref_ats m0))
            obtain ⟨Ar2, cr2, rfl, _, _⟩ := slice_form (hs.slice (ref_row m0))
            try go_simp
            refine hK _ _ (cS2 _ _ hs (by (try dsimp only [List.set]); repeat (first | with_reducible exact List.mem_cons_self | with_reducible apply List.mem_cons_of_mem)) (by (try dsimp only [List.set]); repeat (first | with_reducible exact List.mem_cons_self | with_reducible apply List.mem_cons_of_mem))) ?_
            clear hK K
            repeat (first
              | (with_reducible refine tree_load_agg (o := ⟨some 49, .load _ _, _, _, _, _⟩) [us, ua, ur] rfl rfl rfl rfl ?_ ?_ d49 ?_; (kernel_rfl); (kernel_rfl))
              | (with_reducible refine tree_load (o := ⟨some 51, .load _ _, _, _, _, _⟩) rfl rfl rfl rfl rfl d51 ?_)
              | (with_reducible refine tree_load (o := ⟨some 53, .load _ _, _, _, _, _⟩) rfl rfl rfl rfl rfl d53 ?_)
              | (with_reducible refine tree_load (o := ⟨some 58, .load _ _, _, _, _, _⟩) rfl rfl rfl rfl rfl d58 ?_)
              | (refine tree_take rfl (fun K hK => ?_); go_simp; with_reducible refine hK _ ?_; clear hK K))
            refine tree_one_yes (o := _) rfl rfl (fun K hK => ?_) (cS2 _ _ hs (by (try dsimp only [List.set]); repeat (first | with_reducible exact List.mem_cons_self | with_reducible apply List.mem_cons_of_mem)) (by (try dsimp only [List.set]); repeat (first | with_reducible exact List.mem_cons_self | with_reducible apply List.mem_cons_of_mem)))
            refine op_store_whole (hs.pick (A := row b11 [.slice none 0 0, .slice none 0 0, .slice none 0 0] 72) (by repeat (first | with_reducible exact Pick.here | with_reducible apply Pick.there))) rfl (b := b11) rfl [_, _, _] rfl (slices_one rfl rfl rfl) (by kernel_rfl) (k := 0) rfl rfl fun w3 h => hK _ _ (cS2 _ _ h (by (try dsimp only [List.set]); repeat (first | with_reducible exact List.mem_cons_self | with_reducible apply List.mem_cons_of_mem)) (by (try dsimp only [List.set]); repeat (first | with_reducible exact List.mem_cons_self | with_reducible apply List.mem_cons_of_mem))) ?_
            clear hs hK K
            have hs := h
            clear h
            try dsimp only [List.set] at hs
            try go_simp
            repeat (first
              | (with_reducible refine tree_load_agg (o := ⟨some 49, .load _ _, _, _, _, _⟩) [us, ua, ur] rfl rfl rfl rfl ?_ ?_ d49 ?_; (kernel_rfl); (kernel_rfl))
              | (with_reducible refine tree_load (o := ⟨some 51, .load _ _, _, _, _, _⟩) rfl rfl rfl rfl rfl d51 ?_)
              | (with_reducible refine tree_load (o := ⟨some 53, .load _ _, _, _, _, _⟩) rfl rfl rfl rfl rfl d53 ?_)
              | (with_reducible refine tree_load (o := ⟨some 58, .load _ _, _, _, _, _⟩) rfl rfl rfl rfl rfl d58 ?_)
              | (refine tree_take rfl (fun K hK => ?_); go_simp; with_reducible refine hK _ ?_; clear hK K))
            refine tree_done ?_
            clear hq
            have hs1 := hs.pick (A := row b2 (rrCells us ua ur R) 75) (by repeat (first | with_reducible exact Pick.here | with_reducible apply Pick.there))
            clear hs
            have hs := hs1
            clear hs1
            go_wp2_with (first
              | (guard_target = wpList _ _ _ (⟨some 65, .load _ _, _, _, _, _⟩ :: _) _ _; refine wpl (o := ⟨some 65, .load _ _, _, _, _, _⟩) rfl fun K hK => op_load_agg rfl (b := b11) (i := 0) rfl [.slice As2 Dn.secs.length cs2, .slice Aa2 Dn.row.length ca2, .slice Ar2 Dn.row.length cr2] (range_whole hs (by (try dsimp only [List.set]); repeat (first | with_reducible exact List.mem_cons_self | with_reducible apply List.mem_cons_of_mem))) (by kernel_rfl) (by kernel_rfl) (hK _ _ ?_); clear hK K)
              | (guard_target = wpList _ _ _ (⟨none, .store _ (.tmp 66) _, _, _, _, _⟩ :: _) _ _; refine wpl (o := ⟨none, .store _ (.tmp 66) _, _, _, _, _⟩) rfl fun K hK => ?_; go_must (refine op_store_agg hs rfl (b := b2) (i := 0) rfl [.slice As2 Dn.secs.length cs2, .slice Aa2 Dn.row.length ca2, .slice Ar2 Dn.row.length cr2] rfl (slices_one rfl rfl rfl) (by kernel_rfl) (k := 0) rfl (by simp [rrCells, rriCells]) fun w5 h => hK _ _ ?_); clear hs hK K; have hs := h; clear h; try dsimp only [List.set] at hs))
            refine ⟨⟨i + 1, .slice As2 Dn.secs.length cs2, .slice Aa2 Dn.row.length ca2, .slice Ar2 Dn.row.length cr2, by omega, rfl, ?_⟩, by show n - ((i : Int) + 1).toNat < n - (i : Int).toNat; omega⟩
            rw [hstep.out, hDn]
            exact hs.pack (L := row b2 (rrCells (.slice As2 Dn.secs.length cs2) (.slice Aa2 Dn.row.length ca2) (.slice Ar2 Dn.row.length cr2) R) 75 :: _) (Pack.cons Pick.here (by repeat (first | with_reducible exact Pack.refl | with_reducible exact Pack.nil | with_reducible refine Pack.cons (by repeat (first | with_reducible exact Pick.here | with_reducible apply Pick.there)) ?_ | with_reducible apply Pack.drop)))
        · refine op_alloc hs rfl _ zref [.slice none 0 0, .slice none 0 0, .slice none 0 0] rfl fun b11 w2 h => hK _ _ (cS2 _ _ h (by (try dsimp only [List.set]); repeat (first | with_reducible exact List.mem_cons_self | with_reducible apply List.mem_cons_of_mem)) (by (try dsimp only [List.set]); repeat (first | with_reducible exact List.mem_cons_self | with_reducible apply List.mem_cons_of_mem))) ?_
          clear hs hK K
          have hs := h
          clear h
          try dsimp only [List.set] at hs
          try go_simp
          refine tree_one_yes (o := _) rfl rfl (fun K hK => ?_) (cS2 _ _ hs (by (try dsimp only [List.set]); repeat (first | with_reducible exact List.mem_cons_self | with_reducible apply List.mem_cons_of_mem)) (by (try dsimp only [List.set]); repeat (first | with_reducible exact List.mem_cons_self | with_reducible apply List.mem_cons_of_mem)))
          refine op_to_bytes hs rfl Try.underlying9 Try.underlying23 Try.underlying5 (l := f.pack) rfl (by have := hpl.out; omega) fun v61 w2 h => hK _ _ (cS2 _ _ h (by (try dsimp only [List.set]); repeat (first | with_reducible exact List.mem_cons_self | with_reducible apply List.mem_cons_of_mem)) (by (try dsimp only [List.set]); repeat (first | with_reducible exact List.mem_cons_self | with_reducible apply List.mem_cons_of_mem))) ?_
          clear hs hK K
          have hs := h
          clear h
          try dsimp only [List.set] at hs
          try go_simp
          refine tree_one_yes (o := _) rfl rfl (fun K hK => ?_) (cS2 _ _ hs (by (try dsimp only [List.set]); repeat (first | with_reducible exact List.mem_cons_self | with_reducible apply List.mem_cons_of_mem)) (by (try dsimp only [List.set]); repeat (first | with_reducible exact List.mem_cons_self | with_reducible apply List.mem_cons_of_mem)))
          try go_simp
          go_at_call 67
          refine (rwrite_spec W _ _ us ua ur Di (hs.pick (A := ref us ua ur Di) (by repeat (first | with_reducible exact Pick.here | with_reducible apply Pick.there))) (R.at_ f.seq) hat.out v61 f.pack (Has.mem (A := own v61 5 f.pack.length 1 (u8s f.pack)) (by (try dsimp only [List.set]); repeat (first | with_reducible exact List.mem_cons_self | with_reducible apply List.mem_cons_of_mem)) own_sliceAt) hpl.out hrow.out).mono ?_
          clear hs
          rintro e w5 ⟨vs2, va2, vr2, rfl, hs⟩
          generalize hDn : Di.write (R.at_ f.seq) f.pack = Dn at hs
          obtain ⟨As2, cs2, rfl, _, _⟩ := slice_form (hs.slice (ref_secs m0))
          obtain ⟨Aa2, ca2, rfl, _, _⟩ := slice_form (hs.slice (ref_ats m0))
          obtain ⟨Ar2, cr2, rfl, _, _⟩ := slice_form (hs.slice (ref_row m0))
          try go_simp
          refine hK _ _ (cS2 _ _ hs (by (try dsimp only [List.set]); repeat (first | with_reducible exact List.mem_cons_self | with_reducible apply List.mem_cons_of_mem)) (by (try dsimp only [List.set]); repeat (first | with_reducible exact List.mem_cons_self | with_reducible apply List.mem_cons_of_mem))) ?_
          clear hK K
          repeat (first
            | (with_reducible refine tree_load_agg (o := ⟨some 49, .load _ _, _, _, _, _⟩) [us, ua, ur] rfl rfl rfl rfl ?_ ?_ d49 ?_; (kernel_rfl); (kernel_rfl))
            | (with_reducible refine tree_load (o := ⟨some 51, .load _ _, _, _, _, _⟩) rfl rfl rfl rfl rfl d51 ?_)
            | (with_reducible refine tree_load (o := ⟨some 53, .load _ _, _, _, _, _⟩) rfl rfl rfl rfl rfl d53 ?_)
            | (with_reducible refine tree_load (o := ⟨some 58, .load _ _, _, _, _, _⟩) rfl rfl rfl rfl rfl d58 ?_)
            | (refine tree_take rfl (fun K hK => ?_); go_simp; with_reducible refine hK _ ?_; clear hK K))
          refine tree_one_yes (o := _) rfl rfl (fun K hK => ?_) (cS2 _ _ hs (by (try dsimp only [List.set]); repeat (first | with_reducible exact List.mem_cons_self | with_reducible apply List.mem_cons_of_mem)) (by (try dsimp only [List.set]); repeat (first | with_reducible exact List.mem_cons_self | with_reducible apply List.mem_cons_of_mem)))
          refine op_store_whole (hs.pick (A := row b11 [.slice none 0 0, .slice none 0 0, .slice none 0 0] 72) (by repeat (first | with_reducible exact Pick.here | with_reducible apply Pick.there))) rfl (b := b11) rfl [_, _, _] rfl (slices_one rfl rfl rfl) (by kernel_rfl) (k := 0) rfl rfl fun w3 h => hK _ _ (cS2 _ _ h (by (try dsimp only [List.set]); repeat (first | with_reducible exact List.mem_cons_self | with_reducible apply List.mem_cons_of_mem)) (by (try dsimp only [List.set]); repeat (first | with_reducible exact List.mem_cons_self | with_reducible apply List.mem_cons_of_mem))) ?_
          clear hs hK K
          have hs := h
          clear h
          try dsimp only [List.set] at hs
          try go_simp
          repeat (first
            | (with_reducible refine tree_load_agg (o := ⟨some 49, .load _ _, _, _, _, _⟩) [us, ua, ur] rfl rfl rfl rfl ?_ ?_ d49 ?_; (kernel_rfl); (kernel_rfl))
            | (with_reducible refine tree_load (o := ⟨some 51, .load _ _, _, _, _, _⟩) rfl rfl rfl rfl rfl d51 ?_)
            | (with_reducible refine tree_load (o := ⟨some 53, .load _ _, _, _, _, _⟩) rfl rfl rfl rfl rfl d53 ?_)
            | (with_reducible refine tree_load (o := ⟨some 58, .load _ _, _, _, _, _⟩) rfl rfl rfl rfl rfl d58 ?_)
            | (refine tree_take rfl (fun K hK => ?_); go_simp; with_reducible refine hK _ ?_; clear hK K))
          refine tree_done ?_
          clear hq
          have hs1 := hs.pick (A := row b2 (rrCells us ua ur R) 75) (by repeat (first | with_reducible exact Pick.here | with_reducible apply Pick.there))
          clear hs
          have hs := hs1
          clear hs1
          go_wp2_with (first
            | (guard_target = wpList _ _ _ (⟨some 65, .load _ _, _, _, _, _⟩ :: _) _ _; refine wpl (o := ⟨some 65, .load _ _, _, _, _, _⟩) rfl fun K hK => op_load_agg rfl (b := b11) (i := 0) rfl [.slice As2 Dn.secs.length cs2, .slice Aa2 Dn.row.length ca2, .slice Ar2 Dn.row.length cr2] (range_whole hs (by (try dsimp only [List.set]); repeat (first | with_reducible exact List.mem_cons_self | with_reducible apply List.mem_cons_of_mem))) (by kernel_rfl) (by kernel_rfl) (hK _ _ ?_); clear hK K)
            | (guard_target = wpList _ _ _ (⟨none, .store _ (.tmp 66) _, _, _, _, _⟩ :: _) _ _; refine wpl (o := ⟨none, .store _ (.tmp 66) _, _, _, _, _⟩) rfl fun K hK => ?_; go_must (refine op_store_agg hs rfl (b := b2) (i := 0) rfl [.slice As2 Dn.secs.length cs2, .slice Aa2 Dn.row.length ca2, .slice Ar2 Dn.row.length cr2] rfl (slices_one rfl rfl rfl) (by kernel_rfl) (k := 0) rfl (by simp [rrCells, rriCells]) fun w5 h => hK _ _ ?_); clear hs hK K; have hs := h; clear h; try dsimp only [List.set] at hs))
          refine ⟨⟨i + 1, .slice As2 Dn.secs.length cs2, .slice Aa2 Dn.row.length ca2, .slice Ar2 Dn.row.length cr2, by omega, rfl, ?_⟩, by show n - ((i : Int) + 1).toNat < n - (i : Int).toNat; omega⟩
          rw [hstep.out, hDn]
          exact hs.pack (L := row b2 (rrCells (.slice As2 Dn.secs.length cs2) (.slice Aa2 Dn.row.length ca2) (.slice Ar2 Dn.row.length cr2) R) 75 :: _) (Pack.cons Pick.here (by repeat (first | with_reducible exact Pack.refl | with_reducible exact Pack.nil | with_reducible refine Pack.cons (by repeat (first | with_reducible exact Pick.here | with_reducible apply Pick.there)) ?_ | with_reducible apply Pack.drop)))
      · refine op_to_bytes hs rfl Try.underlying9 Try.underlying23 Try.underlying5 (l := f.pack) rfl (by have := hpl.out; omega) fun v61 w2 h => hK _ _ (cS2 _ _ h (by (try dsimp only [List.set]); repeat (first | with_reducible exact List.mem_cons_self | with_reducible apply List.mem_cons_of_mem)) (by (try dsimp only [List.set]); repeat (first | with_reducible exact List.mem_cons_self | with_reducible apply List.mem_cons_of_mem))) ?_
        clear hs hK K
        have hs := h
        clear h
        try dsimp only [List.set] at hs
        try go_simp
        refine tree_all (trees_cons_yes (o := _) rfl rfl (fun K hK => ?_) (cS2 _ _ hs (by (try dsimp only [List.set]); repeat (first | with_reducible exact List.mem_cons_self | with_reducible apply List.mem_cons_of_mem)) (by (try dsimp only [List.set]); repeat (first | with_reducible exact List.mem_cons_self | with_reducible apply List.mem_cons_of_mem))) (trees_cons_yes (o := _) rfl rfl (fun K hK => ?_) (cS2 _ _ hs (by (try dsimp only [List.set]); repeat (first | with_reducible exact List.mem_cons_self | with_reducible apply List.mem_cons_of_mem)) (by (try dsimp only [List.set]); repeat (first | with_reducible exact List.mem_cons_self | with_reducible apply List.mem_cons_of_mem))) trees_nil))
        · try go_simp
          go_at_call 68
          refine (rat_spec W _ _ hs R.first R.many f.seq hmany1 (by omega) hfs).mono ?_
          clear hs
          rintro e w5 ⟨rfl, hs⟩
          try go_simp
          refine hK _ _ (cS2 _ _ hs (by (try dsimp only [List.set]); repeat (first | with_reducible exact List.mem_cons_self | with_reducible apply List.mem_cons_of_mem)) (by (try dsimp only [List.set]); repeat (first | with_reducible exact List.mem_cons_self | with_reducible apply List.mem_cons_of_mem))) ?_
          clear hK K
          refine tree_all (trees_cons_yes (o := _) rfl rfl (fun K hK => ?_) (cS2 _ _ hs (by (try dsimp only [List.set]); repeat (first | with_reducible exact List.mem_cons_self | with_reducible apply List.mem_cons_of_mem)) (by (try dsimp only [List.set]); repeat (first | with_reducible exact List.mem_cons_self | with_reducible apply List.mem_cons_of_mem))) (trees_cons_yes (o := _) rfl rfl (fun K hK => ?_) (cS2 _ _ hs (by (try dsimp only [List.set]); repeat (first | with_reducible exact List.mem_cons_self | with_reducible apply List.mem_cons_of_mem)) (by (try dsimp only [List.set]); repeat (first | with_reducible exact List.mem_cons_self | with_reducible apply List.mem_cons_of_mem))) trees_nil))
          · try go_simp
            go_at_call 67
            refine (rwrite_spec W _ _ us ua ur Di (hs.pick (A := ref us ua ur Di) (by repeat (first | with_reducible exact Pick.here | with_reducible apply Pick.there))) (R.at_ f.seq) hat.out v61 f.pack (Has.mem (A := own v61 5 f.pack.length 1 (u8s f.pack)) (by (try dsimp only [List.set]); repeat (first | with_reducible exact List.mem_cons_self | with_reducible apply List.mem_cons_of_mem)) own_sliceAt) hpl.out hrow.out).mono ?_
            clear hs
            rintro e w5 ⟨vs2, va2, vr2, rfl, hs⟩
            generalize hDn : Di.write (R.at_ f.seq) f.pack = Dn at hs
            obtain ⟨As2, cs2, rfl, _, _⟩ := slice_form (hs.slice (ref_secs m0))
            obtain ⟨Aa2, ca2, rfl, _, _⟩ := slice_form (hs.slice (ref_ats m0))
            obtain ⟨Ar2, cr2, rfl, _, _⟩ := slice_form (hs.slice (ref_row m0))
            try go_simp
            refine hK _ _ (cS2 _ _ hs (by (try dsimp only [List.set]); repeat (first | with_reducible exact List.mem_cons_self | with_reducible apply List.mem_cons_of_mem)) (by (try dsimp only [List.set]); repeat (first | with_reducible exact List.mem_cons_self | with_reducible apply List.mem_cons_of_mem))) ?_
            clear hK K
            repeat (first
              | (with_reducible refine tree_load_agg (o := ⟨some 49, .load _ _, _, _, _, _⟩) [us, ua, ur] rfl rfl rfl rfl ?_ ?_ d49 ?_; (kernel_rfl); (kernel_rfl))
              | (with_reducible refine tree_load (o := ⟨some 51, .load _ _, _, _, _, _⟩) rfl rfl rfl rfl rfl d51 ?_)
              | (with_reducible refine tree_load (o := ⟨some 53, .load _ _, _, _, _, _⟩) rfl rfl rfl rfl rfl d53 ?_)
              | (with_reducible refine tree_load (o := ⟨some 58, .load _ _, _, _, _, _⟩) rfl rfl rfl rfl rfl d58 ?_)
              | (refine tree_take rfl (fun K hK => ?_); go_simp; with_reducible refine hK _ ?_; clear hK K))
            refine tree_one_yes (o := _) rfl rfl (fun K hK => ?_) (cS2 _ _ hs (by (try dsimp only [List.set]); repeat (first | with_reducible exact List.mem_cons_self | with_reducible apply List.mem_cons_of_mem)) (by (try dsimp only [List.set]); repeat (first | with_reducible exact List.mem_cons_self | with_reducible apply List.mem_cons_of_mem)))
            refine op_alloc hs rfl _ zref [.slice none 0 0, .slice none 0 0, .slice none 0 0] rfl fun b11 w2 h => hK _ _ (cS2 _ _ h (by (try dsimp only [List.set]); repeat (first | with_reducible exact List.mem_cons_self | with_reducible apply List.mem_cons_of_mem)) (by (try dsimp only [List.set]); repeat (first | with_reducible exact List.mem_cons_self | with_reducible apply List.mem_cons_of_mem))) ?_
            clear hs hK K
            have hs := h
            clear h
            try dsimp only [List.set] at hs
            try go_simp
            refine tree_one_yes (o := _) rfl rfl (fun K hK => ?_) (cS2 _ _ hs (by (try dsimp only [List.set]); repeat (first | with_reducible exact List.mem_cons_self | with_reducible apply List.mem_cons_of_mem)) (by (try dsimp only [List.set]); repeat (first | with_reducible exact List.mem_cons_self | with_reducible apply List.mem_cons_of_mem)))
            refine op_store_whole (hs.pick (A := row b11 [.slice none 0 0, .slice none 0 0, .slice none 0 0] 72) (by repeat (first | with_reducible exact Pick.here | with_reducible apply Pick.there))) rfl (b := b11) rfl [_, _, _] rfl (slices_one rfl rfl rfl) (by kernel_rfl) (k := 0) rfl rfl fun w3 h => hK _ _ (cS2 _ _ h (by (try dsimp only [List.set]); repeat (first | with_reducible exact List.mem_cons_self | with_reducible apply List.mem_cons_of_mem)) (by (try dsimp only [List.set]); repeat (first | with_reducible exact List.mem_cons_self | with_reducible apply List.mem_cons_of_mem))) ?_
            clear hs hK K
            have hs := h
            clear h
            try dsimp only [List.set] at hs
            try go_simp
            repeat (first
              | (with_reducible refine tree_load_agg (o := ⟨some 49, .load _ _, _, _, _, _⟩) [us, ua, ur] rfl rfl rfl rfl ?_ ?_ d49 ?_; (kernel_rfl); (kernel_rfl))
              | (with_reducible refine tree_load (o := ⟨some 51, .load _ _, _, _, _, _⟩) rfl rfl rfl rfl rfl d51 ?_)
              | (with_reducible refine tree_load (o := ⟨some 53, .load _ _, _, _, _, _⟩) rfl rfl rfl rfl rfl d53 ?_)
              | (with_reducible refine tree_load (o := ⟨some 58, .load _ _, _, _, _, _⟩) rfl rfl rfl rfl rfl d58 ?_)
              | (refine tree_take rfl (fun K hK => ?_); go_simp; with_reducible refine hK _ ?_; clear hK K))
            refine tree_done ?_
            clear hq
            have hs1 := hs.pick (A := row b2 (rrCells us ua ur R) 75) (by repeat (first | with_reducible exact Pick.here | with_reducible apply Pick.there))
            clear hs
            have hs := hs1
            clear hs1
            go_wp2_with (first
              | (guard_target = wpList _ _ _ (⟨some 65, .load _ _, _, _, _, _⟩ :: _) _ _; refine wpl (o := ⟨some 65, .load _ _, _, _, _, _⟩) rfl fun K hK => op_load_agg rfl (b := b11) (i := 0) rfl [.slice As2 Dn.secs.length cs2, .slice Aa2 Dn.row.length ca2, .slice Ar2 Dn.row.length cr2] (range_whole hs (by (try dsimp only [List.set]); repeat (first | with_reducible exact List.mem_cons_self | with_reducible apply List.mem_cons_of_mem))) (by kernel_rfl) (by kernel_rfl) (hK _ _ ?_); clear hK K)
              | (guard_target = wpList _ _ _ (⟨none, .store _ (.tmp 66) _, _, _, _, _⟩ :: _) _ _; refine wpl (o := ⟨none, .store _ (.tmp 66) _, _, _, _, _⟩) rfl fun K hK => ?_; go_must (refine op_store_agg hs rfl (b := b2) (i := 0) rfl [.slice As2 Dn.secs.length cs2, .slice Aa2 Dn.row.length ca2, .slice Ar2 Dn.row.length cr2] rfl (slices_one rfl rfl rfl) (by kernel_rfl) (k := 0) rfl (by simp [rrCells, rriCells]) fun w5 h => hK _ _ ?_); clear hs hK K; have hs := h; clear h; try dsimp only [List.set] at hs))
            refine ⟨⟨i + 1, .slice As2 Dn.secs.length cs2, .slice Aa2 Dn.row.length ca2, .slice Ar2 Dn.row.length cr2, by omega, rfl, ?_⟩, by show n - ((i : Int) + 1).toNat < n - (i : Int).toNat; omega⟩
            rw [hstep.out, hDn]
            exact hs.pack (L := row b2 (rrCells (.slice As2 Dn.secs.length cs2) (.slice Aa2 Dn.row.length ca2) (.slice Ar2 Dn.row.length cr2) R) 75 :: _) (Pack.cons Pick.here (by repeat (first | with_reducible exact Pack.refl | with_reducible exact Pack.nil | with_reducible refine Pack.cons (by repeat (first | with_reducible exact Pick.here | with_reducible apply Pick.there)) ?_ | with_reducible apply Pack.drop)))
          · refine op_alloc hs rfl _ zref [.slice none 0 0, .slice none 0 0, .slice none 0 0] rfl fun b11 w2 h => hK _ _ (cS2 _ _ h (by (try dsimp only [List.set]); repeat (first | with_reducible exact List.mem_cons_self | with_reducible apply List.mem_cons_of_mem)) (by (try dsimp only [List.set]); repeat (first | with_reducible exact List.mem_cons_self | with_reducible apply List.mem_cons_of_mem))) ?_
            clear hs hK K
            have hs := h
            clear h
            try dsimp only [List.set] at hs
            try go_simp
            refine tree_one_yes (o := _) rfl rfl (fun K hK => ?_) (cS2 _ _ hs (by (try dsimp only [List.set]); repeat (first | with_reducible exact List.mem_cons_self | with_reducible apply List.mem_cons_of_mem)) (by (try dsimp only [List.set]); repeat (first | with_reducible exact List.mem_cons_self | with_reducible apply List.mem_cons_of_mem)))
            try go_simp
            go_at_call 67
            refine (rwrite_spec W _ _ us ua ur Di (hs.pick (A := ref us ua ur Di) (by repeat (first | with_reducible exact Pick.here | with_reducible apply Pick.there))) (R.at_ f.seq) hat.out v61 f.pack (Has.mem (A := own v61 5 f.pack.length 1 (u8s f.pack)) (by (try dsimp only [List.set]); repeat (first | with_reducible exact List.mem_cons_self | with_reducible apply List.mem_cons_of_mem)) own_sliceAt) hpl.out hrow.out).mono ?_
            clear hs
            rintro e w5 ⟨vs2, va2, vr2, rfl, hs⟩
            generalize hDn : Di.write (R.at_ f.seq) f.pack = Dn at hs
            obtain ⟨As2, cs2, rfl, _, _⟩ := slice_form (hs.slice (ref_secs m0))
            obtain ⟨Aa2, ca2, rfl, _, _⟩ := slice_form (hs.slice (ref_ats m0))
            obtain ⟨Ar2, cr2, rfl, _, _⟩ := slice_form (hs.slice (ref_row m0))
            try go_simp
            refine hK _ _ (cS2 _ _ hs (by (try dsimp only [List.set]); repeat (first | with_reducible exact List.mem_cons_self | with_reducible apply List.mem_cons_of_mem)) (by (try dsimp only [List.set]); repeat (first | with_reducible exact List.mem_cons_self | with_reducible apply List.mem_cons_of_mem))) ?_
            clear hK K
            repeat (first
              | (with_reducible refine tree_load_agg (o := ⟨some 49, .load _ _, _, _, _, _⟩) [us, ua, ur] rfl rfl rfl rfl ?_ ?_ d49 ?_; (kernel_rfl); (kernel_rfl))
              | (with_reducible refine tree_load (o := ⟨some 51, .load _ _, _, _, _, _⟩) rfl rfl rfl rfl rfl d51 ?_)
              | (with_reducible refine tree_load (o := ⟨some 53, .load _ _, _, _, _, _⟩) rfl rfl rfl rfl rfl d53 ?_)
              | (with_reducible refine tree_load (o := ⟨some 58, .load _ _, _, _, _, _⟩) rfl rfl rfl rfl rfl d58 ?_)
              | (refine tree_take rfl (fun K hK => ?_); go_simp; with_reducible refine hK _ ?_; clear hK K))
            refine tree_one_yes (o := _) rfl rfl (fun K hK => ?_) (cS2 _ _ hs (by (try dsimp only [List.set]); repeat (first | with_reducible exact List.mem_cons_self | with_reducible apply List.mem_cons_of_mem)) (by (try dsimp only [List.set]); repeat (first | with_reducible exact List.mem_cons_self | with_reducible apply List.mem_cons_of_mem)))
            refine op_store_whole (hs.pick (A := row b11 [.slice none 0 0, .slice none 0 0, .slice none 0 0] 72) (by repeat (first | with_reducible exact Pick.here | with_reducible apply Pick.there))) rfl (b := b11) rfl [_, _, _] rfl (slices_one rfl rfl rfl) (by kernel_rfl) (k := 0) rfl rfl fun w3 h => hK _ _ (cS2 _ _ h (by (try dsimp only [List.set]); repeat (first | with_reducible exact List.mem_cons_self | with_reducible apply List.mem_cons_of_mem)) (by (try dsimp only [List.set]); repeat (first | with_reducible exact List.mem_cons_self | with_reducible apply List.mem_cons_of_mem))) ?_
            clear hs hK K
            have hs := h
            clear h
            try dsimp only [List.set] at hs
            try go_simp
            repeat (first
              | (with_reducible refine tree_load_agg (o := ⟨some 49, .load _ _, _, _, _, _⟩) [us, ua, ur] rfl rfl rfl rfl ?_ ?_ d49 ?_; (kernel_rfl); (kernel_rfl))
              | (with_reducible refine tree_load (o := ⟨some 51, .load _ _, _, _, _, _⟩) rfl rfl rfl rfl rfl d51 ?_)
              | (with_reducible refine tree_load (o := ⟨some 53, .load _ _, _, _, _, _⟩) rfl rfl rfl rfl rfl d53 ?_)
              | (with_reducible refine tree_load (o := ⟨some 58, .load _ _, _, _, _, _⟩) rfl rfl rfl rfl rfl d58 ?_)
              | (refine tree_take rfl (fun K hK => ?_); go_simp; with_reducible refine hK _ ?_; clear hK K))
            refine tree_done ?_
            clear hq
            have hs1 := hs.pick (A := row b2 (rrCells us ua ur R) 75) (by repeat (first | with_reducible exact Pick.here | with_reducible apply Pick.there))
            clear hs
            have hs := hs1
            clear hs1
            go_wp2_with (first
              | (guard_target = wpList _ _ _ (⟨some 65, .load _ _, _, _, _, _⟩ :: _) _ _; refine wpl (o := ⟨some 65, .load _ _, _, _, _, _⟩) rfl fun K hK => op_load_agg rfl (b := b11) (i := 0) rfl [.slice As2 Dn.secs.length cs2, .slice Aa2 Dn.row.length ca2, .slice Ar2 Dn.row.length cr2] (range_whole hs (by (try dsimp only [List.set]); repeat (first | with_reducible exact List.mem_cons_self | with_reducible apply List.mem_cons_of_mem))) (by kernel_rfl) (by kernel_rfl) (hK _ _ ?_); clear hK K)
              | (guard_target = wpList _ _ _ (⟨none, .store _ (.tmp 66) _, _, _, _, _⟩ :: _) _ _; refine wpl (o := ⟨none, .store _ (.tmp 66) _, _, _, _, _⟩) rfl fun K hK => ?_; go_must (refine op_store_agg hs rfl (b := b2) (i := 0) rfl [.slice As2 Dn.secs.length cs2, .slice Aa2 Dn.row.length ca2, .slice Ar2 Dn.row.length cr2] rfl (slices_one rfl rfl rfl) (by kernel_rfl) (k := 0) rfl (by simp [rrCells, rriCells]) fun w5 h => hK _ _ ?_); clear hs hK K; have hs := h; clear h; try dsimp only [List.set] at hs))
            refine ⟨⟨i + 1, .slice As2 Dn.secs.length cs2, .slice Aa2 Dn.row.length ca2, .slice Ar2 Dn.row.length cr2, by omega, rfl, ?_⟩, by show n - ((i : Int) + 1).toNat < n - (i : Int).toNat; omega⟩
            rw [hstep.out, hDn]
            exact hs.pack (L := row b2 (rrCells (.slice As2 Dn.secs.length cs2) (.slice Aa2 Dn.row.length ca2) (.slice Ar2 Dn.row.length cr2) R) 75 :: _) (Pack.cons Pick.here (by repeat (first | with_reducible exact Pack.refl | with_reducible exact Pack.nil | with_reducible refine Pack.cons (by repeat (first | with_reducible exact Pick.here | with_reducible apply Pick.there)) ?_ | with_reducible apply Pack.drop)))
        · refine op_alloc hs rfl _ zref [.slice none 0 0, .slice none 0 0, .slice none 0 0] rfl fun b11 w2 h => hK _ _ (cS2 _ _ h (by (try dsimp only [List.set]); repeat (first | with_reducible exact List.mem_cons_self | with_reducible apply List.mem_cons_of_mem)) (by (try dsimp only [List.set]); repeat (first | with_reducible exact List.mem_cons_self | with_reducible apply List.mem_cons_of_mem))) ?_
          clear hs hK K
          have hs := h
          clear h
          try dsimp only [List.set] at hs
          try go_simp
          refine tree_one_yes (o := _) rfl rfl (fun K hK => ?_) (cS2 _ _ hs (by (try dsimp only [List.set]); repeat (first | with_reducible exact List.mem_cons_self | with_reducible apply List.mem_cons_of_mem)) (by (try dsimp only [List.set]); repeat (first | with_reducible exact List.mem_cons_self | with_reducible apply List.mem_cons_of_mem)))
          try go_simp
          go_at_call 68
          refine (rat_spec W _ _ hs R.first R.many f.seq hmany1 (by omega) hfs).mono ?_
          clear hs
          rintro e w5 ⟨rfl, hs⟩
          try go_simp
          refine hK _ _ (cS2 _ _ hs (by (try dsimp only [List.set]); repeat (first | with_reducible exact List.mem_cons_self | with_reducible apply List.mem_cons_of_mem)) (by (try dsimp only [List.set]); repeat (first | with_reducible exact List.mem_cons_self | with_reducible apply List.mem_cons_of_mem))) ?_
          clear hK K
          refine tree_one_yes (o := _) rfl rfl (fun K hK => ?_) (cS2 _ _ hs (by (try dsimp only [List.set]); repeat (first | with_reducible exact List.mem_cons_self | with_reducible apply List.mem_cons_of_mem)) (by (try dsimp only [List.set]); repeat (first | with_reducible exact List.mem_cons_self | with_reducible apply List.mem_cons_of_mem)))
          try go_simp
          go_at_call 67
          refine (rwrite_spec W _ _ us ua ur Di (hs.pick (A := ref us ua ur Di) (by repeat (first | with_reducible exact Pick.here | with_reducible apply Pick.there))) (R.at_ f.seq) hat.out v61 f.pack (Has.mem (A := own v61 5 f.pack.length 1 (u8s f.pack)) (by (try dsimp only [List.set]); repeat (first | with_reducible exact List.mem_cons_self | with_reducible apply List.mem_cons_of_mem)) own_sliceAt) hpl.out hrow.out).mono ?_
          clear hs
          rintro e w5 ⟨vs2, va2, vr2, rfl, hs⟩
          generalize hDn : Di.write (R.at_ f.seq) f.pack = Dn at hs
          obtain ⟨As2, cs2, rfl, _, _⟩ := slice_form (hs.slice (ref_secs m0))
          obtain ⟨Aa2, ca2, rfl, _, _⟩ := slice_form (hs.slice (ref_ats m0))
          obtain ⟨Ar2, cr2, rfl, _, _⟩ := slice_form (hs.slice (ref_row m0))
          try go_simp
          refine hK _ _ (cS2 _ _ hs (by (try dsimp only [List.set]); repeat (first | with_reducible exact List.mem_cons_self | with_reducible apply List.mem_cons_of_mem)) (by (try dsimp only [List.set]); repeat (first | with_reducible exact List.mem_cons_self | with_reducible apply List.mem_cons_of_mem))) ?_
          clear hK K
          repeat (first
            | (with_reducible refine tree_load_agg (o := ⟨some 49, .load _ _, _, _, _, _⟩) [us, ua, ur] rfl rfl rfl rfl ?_ ?_ d49 ?_; (kernel_rfl); (kernel_rfl))
            | (with_reducible refine tree_load (o := ⟨some 51, .load _ _, _, _, _, _⟩) rfl rfl rfl rfl rfl d51 ?_)
            | (with_reducible refine tree_load (o := ⟨some 53, .load _ _, _, _, _, _⟩) rfl rfl rfl rfl rfl d53 ?_)
            | (with_reducible refine tree_load (o := ⟨some 58, .load _ _, _, _, _, _⟩) rfl rfl rfl rfl rfl d58 ?_)
            | (refine tree_take rfl (fun K hK => ?_); go_simp; with_reducible refine hK _ ?_; clear hK K))
          refine tree_one_yes (o := _) rfl rfl (fun K hK => ?_) (cS2 _ _ hs (by (try dsimp only [List.set]); repeat (first | with_reducible exact List.mem_cons_self | with_reducible apply List.mem_cons_of_mem)) (by (try dsimp only [List.set]); repeat (first | with_reducible exact List.mem_cons_self | with_reducible apply List.mem_cons_of_mem)))
          refine op_store_whole (hs.pick (A := row b11 [.slice none 0 0, .slice none 0 0, .slice none 0 0] 72) (by repeat (first | with_reducible exact Pick.here | with_reducible apply Pick.there))) rfl (b := b11) rfl [_, _, _] rfl (slices_one rfl rfl rfl) (by kernel_rfl) (k := 0) rfl rfl fun w3 h => hK _ _ (cS2 _ _ h (by (try dsimp only [List.set]); repeat (first | with_reducible exact List.mem_cons_self | with_reducible apply List.mem_cons_of_mem)) (by (try dsimp only [List.set]); repeat (first | with_reducible exact List.mem_cons_self | with_reducible apply List.mem_cons_of_mem))) ?_
          clear hs hK K
          have hs := h
          clear h
          try dsimp only [List.set] at hs
          try go_simp
          repeat (first
            | (with_reducible refine tree_load_agg (o := ⟨some 49, .load _ _, _, _, _, _⟩) [us, ua, ur] rfl rfl rfl rfl ?_ ?_ d49 ?_; (kernel_rfl); (kernel_rfl))
            | (with_reducible refine tree_load (o := ⟨some 51, .load _ _, _, _, _, _⟩) rfl rfl rfl rfl rfl d51 ?_)
            | (with_reducible refine tree_load (o := ⟨some 53, .load _ _, _, _, _, _⟩) rfl rfl rfl rfl rfl d53 ?_)
            | (with_reducible refine tree_load (o := ⟨some 58, .load _ _, _, _, _, _⟩) rfl rfl rfl rfl rfl d58 ?_)
            | (refine tree_take rfl (fun K hK => ?_); go_simp; with_reducible refine hK _ ?_; clear hK K))
          refine tree_done ?_
          clear hq
          have hs1 := hs.pick (A := row b2 (rrCells us ua ur R) 75) (by repeat (first | with_reducible exact Pick.here | with_reducible apply Pick.there))
          clear hs
          have hs := hs1
          clear hs1
          go_wp2_with (first
            | (guard_target = wpList _ _ _ (⟨some 65, .load _ _, _, _, _, _⟩ :: _) _ _; refine wpl (o := ⟨some 65, .load _ _, _, _, _, _⟩) rfl fun K hK => op_load_agg rfl (b := b11) (i := 0) rfl [.slice As2 Dn.secs.length cs2, .slice Aa2 Dn.row.length ca2, .slice Ar2 Dn.row.length cr2] (range_whole hs (by (try dsimp only [List.set]); repeat (first | with_reducible exact List.mem_cons_self | with_reducible apply List.mem_cons_of_mem))) (by kernel_rfl) (by kernel_rfl) (hK _ _ ?_); clear hK K)
            | (guard_target = wpList _ _ _ (⟨none, .store _ (.tmp 66) _, _, _, _, _⟩ :: _) _ _; refine wpl (o := ⟨none, .store _ (.tmp 66) _, _, _, _, _⟩) rfl fun K hK => ?_; go_must (refine op_store_agg hs rfl (b := b2) (i := 0) rfl [.slice As2 Dn.secs.length cs2, .slice Aa2 Dn.row.length ca2, .slice Ar2 Dn.row.length cr2] rfl (slices_one rfl rfl rfl) (by kernel_rfl) (k := 0) rfl (by simp [rrCells, rriCells]) fun w5 h => hK _ _ ?_); clear hs hK K; have hs := h; clear h; try dsimp only [List.set] at hs))
          refine ⟨⟨i + 1, .slice As2 Dn.secs.length cs2, .slice Aa2 Dn.row.length ca2, .slice Ar2 Dn.row.length cr2, by omega, rfl, ?_⟩, by show n - ((i : Int) + 1).toNat < n - (i : Int).toNat; omega⟩
          rw [hstep.out, hDn]
          exact hs.pack (L := row b2 (rrCells (.slice As2 Dn.secs.length cs2) (.slice Aa2 Dn.row.length ca2) (.slice Ar2 Dn.row.length cr2) R) 75 :: _) (Pack.cons Pick.here (by repeat (first | with_reducible exact Pack.refl | with_reducible exact Pack.nil | with_reducible refine Pack.cons (by repeat (first | with_reducible exact Pick.here | with_reducible apply Pick.there)) ?_ | with_reducible apply Pack.drop)))
      · refine op_alloc hs rfl _ zref [.slice none 0 0, .slice none 0 0, .slice none 0 0] rfl fun b11 w2 h => hK _ _ (cS2 _ _ h (by (try dsimp only [List.set]); repeat (first | with_reducible exact List.mem_cons_self | with_reducible apply List.mem_cons_of_mem)) (by (try dsimp only [List.set]); repeat (first | with_reducible exact List.mem_cons_self | with_reducible apply List.mem_cons_of_mem))) ?_
        clear hs hK K
        have hs := h
        clear h
        try dsimp only [List.set] at hs
        try go_simp
        refine tree_all (trees_cons_yes (o := _) rfl rfl (fun K hK => ?_) (cS2 _ _ hs (by (try dsimp only [List.set]); repeat (first | with_reducible exact List.mem_cons_self | with_reducible apply List.mem_cons_of_mem)) (by (try dsimp only [List.set]); repeat (first | with_reducible exact List.mem_cons_self | with_reducible apply List.mem_cons_of_mem))) (trees_cons_yes (o := _) rfl rfl (fun K hK => ?_) (cS2 _ _ hs (by (try dsimp only [List.set]); repeat (first | with_reducible exact List.mem_cons_self | with_reducible apply List.mem_cons_of_mem)) (by (try dsimp only [List.set]); repeat (first | with_reducible exact List.mem_cons_self | with_reducible apply List.mem_cons_of_mem))) trees_nil))
        · try go_simp
          go_at_call 68
          refine (rat_spec W _ _ hs R.first R.many f.seq hmany1 (by omega) hfs).mono ?_
          clear hs
          rintro e w5 ⟨rfl, hs⟩
          try go_simp
          refine hK _ _ (cS2 _ _ hs (by (try dsimp only [List.set]); repeat (first | with_reducible exact List.mem_cons_self | with_reducible apply List.mem_cons_of_mem)) (by (try dsimp only [List.set]); repeat (first | with_reducible exact List.mem_cons_self | with_reducible apply List.mem_cons_of_mem))) ?_
          clear hK K
          refine tree_one_yes (o := _) rfl rfl (fun K hK => ?_) (cS2 _ _ hs (by (try dsimp only [List.set]); repeat (first | with_reducible exact List.mem_cons_self | with_reducible apply List.mem_cons_of_mem)) (by (try dsimp only [List.set]); repeat (first | with_reducible exact List.mem_cons_self | with_reducible apply List.mem_cons_of_mem)))
          refine op_to_bytes hs rfl Try.underlying9 Try.underlying23 Try.underlying5 (l := f.pack) rfl (by have := hpl.out; omega) fun v61 w2 h => hK _ _ (cS2 _ _ h (by (try dsimp only [List.set]); repeat (first | with_reducible exact List.mem_cons_self | with_reducible apply List.mem_cons_of_mem)) (by (try dsimp only [List.set]); repeat (first | with_reducible exact List.mem_cons_self | with_reducible apply List.mem_cons_of_mem))) ?_
          clear hs hK K
          have hs := h
          clear h
          try dsimp only [List.set] at hs
          try go_simp
          refine tree_one_yes (o := _) rfl rfl (fun K hK => ?_) (cS2 _ _ hs (by (try dsimp only [List.set]); repeat (first | with_reducible exact List.mem_cons_self | with_reducible apply List.mem_cons_of_mem)) (by (try dsimp only [List.set]); repeat (first | with_reducible exact List.mem_cons_self | with_reducible apply List.mem_cons_of_mem)))
          try go_simp
          go_at_call 67
          refine (rwrite_spec W _ _ us ua ur Di (hs.pick (A := ref us ua ur Di) (by repeat (first | with_reducible exact Pick.here | with_reducible apply Pick.there))) (R.at_ f.seq) hat.out v61 f.pack (Has.mem (A := own v61 5 f.pack.length 1 (u8s f.pack)) (by (try dsimp only [List.set]); repeat (first | with_reducible exact List.mem_cons_self | with_reducible apply List.mem_cons_of_mem)) own_sliceAt) hpl.out hrow.out).mono ?_
          clear hs
          rintro e w5 ⟨vs2, va2, vr2, rfl, hs⟩
          generalize hDn : Di.write (R.at_ f.seq) f.pack = Dn at hs
          obtain ⟨As2, cs2, rfl, _, _⟩ := slice_form (hs.slice (ref_secs m0))
          obtain ⟨Aa2, ca2, rfl, _, _⟩ := slice_form (hs.slice (ref_ats m0))
          obtain ⟨Ar2, cr2, rfl, _, _⟩ := slice_form (hs.slice (ref_row m0))
          try go_simp
          refine hK _ _ (cS2 _ _ hs (by (try dsimp only [List.set]); repeat (first | with_reducible exact List.mem_cons_self | with_reducible apply List.mem_cons_of_mem)) (by (try dsimp only [List.set]); repeat (first | with_reducible exact List.mem_cons_self | with_reducible apply List.mem_cons_of_mem))) ?_
          clear hK K
          repeat (first
            | (with_reducible refine tree_load_agg (o := ⟨some 49, .load _ _, _, _, _, _⟩) [us, ua, ur] rfl rfl rfl rfl ?_ ?_ d49 ?_; (kernel_rfl); (kernel_rfl))
            | (with_reducible refine tree_load (o := ⟨some 51, .load _ _, _, _, _, _⟩) rfl rfl rfl rfl rfl d51 ?_)
            | (with_reducible refine tree_load (o := ⟨some 53, .load _ _, _, _, _, _⟩) rfl rfl rfl rfl rfl d53 ?_)
            | (with_reducible refine tree_load (o := ⟨some 58, .load _ _, _, _, _, _⟩) rfl rfl rfl rfl rfl d58 ?_)
            | (refine tree_take rfl (fun K hK => ?_); go_simp; with_reducible refine hK _ ?_; clear hK K))
          refine tree_one_yes (o := _) rfl rfl (fun K hK => ?_) (cS2 _ _ hs (by (try dsimp only [List.set]); repeat (first | with_reducible exact List.mem_cons_self | with_reducible apply List.mem_cons_of_mem)) (by (try dsimp only [List.set]); repeat (first | with_reducible exact List.mem_cons_self | with_reducible apply List.mem_cons_of_mem)))
          refine op_store_whole (hs.pick (A := row b11 [.slice none 0 0, .slice none 0 0, .slice none 0 0] 72) (by repeat (first | with_reducible exact Pick.here | with_reducible apply Pick.there))) rfl (b := b11) rfl [_, _, _] rfl (slices_one rfl rfl rfl) (by kernel_rfl) (k := 0) rfl rfl fun w3 h => hK _ _ (cS2 _ _ h (by (try dsimp only [List.set]); repeat (first | with_reducible exact List.mem_cons_self | with_reducible apply List.mem_cons_of_mem)) (by (try dsimp only [List.set]); repeat (first | with_reducible exact List.mem_cons_self | with_reducible apply List.mem_cons_of_mem))) ?_
          clear hs hK K
          have hs := h
          clear h
          try dsimp only [List.set] at hs
          try go_simp
          repeat (first
            | (with_reducible refine tree_load_agg (o := ⟨some 49, .load _ _, _, _, _, _⟩) [us, ua, ur] rfl rfl rfl rfl ?_ ?_ d49 ?_; (kernel_rfl); (kernel_rfl))
            | (with_reducible refine tree_load (o := ⟨some 51, .load _ _, _, _, _, _⟩) rfl rfl rfl rfl rfl d51 ?_)
            | (with_reducible refine tree_load (o := ⟨some 53, .load _ _, _, _, _, _⟩) rfl rfl rfl rfl rfl d53 ?_)
            | (with_reducible refine tree_load (o := ⟨some 58, .load _ _, _, _, _, _⟩) rfl rfl rfl rfl rfl d58 ?_)
            | (refine tree_take rfl (fun K hK => ?_); go_simp; with_reducible refine hK _ ?_; clear hK K))
          refine tree_done ?_
          clear hq
          have hs1 := hs.pick (A := row b2 (rrCells us ua ur R) 75) (by repeat (first | with_reducible exact Pick.here | with_reducible apply Pick.there))
          clear hs
          have hs := hs1
          clear hs1
          go_wp2_with (first
            | (guard_target = wpList _ _ _ (⟨some 65, .load _ _, _, _, _, _⟩ :: _) _ _; refine wpl (o := ⟨some 65, .load _ _, _, _, _, _⟩) rfl fun K hK => op_load_agg rfl (b := b11) (i := 0) rfl [.slice As2 Dn.secs.length cs2, .slice Aa2 Dn.row.length ca2, .slice Ar2 Dn.row.length cr2] (range_whole hs (by (try dsimp only [List.set]); repeat (first | with_reducible exact List.mem_cons_self | with_reducible apply List.mem_cons_of_mem))) (by kernel_rfl) (by kernel_rfl) (hK _ _ ?_); clear hK K)
            | (guard_target = wpList _ _ _ (⟨none, .store _ (.tmp 66) _, _, _, _, _⟩ :: _) _ _; refine wpl (o := ⟨none, .store _ (.tmp 66) _, _, _, _, _⟩) rfl fun K hK => ?_; go_must (refine op_store_agg hs rfl (b := b2) (i := 0) rfl [.slice As2 Dn.secs.length cs2, .slice Aa2 Dn.row.length ca2, .slice Ar2 Dn.row.length cr2] rfl (slices_one rfl rfl rfl) (by kernel_rfl) (k := 0) rfl (by simp [rrCells, rriCells]) fun w5 h => hK _ _ ?_); clear hs hK K; have hs := h; clear h; try dsimp only [List.set] at hs))
          refine ⟨⟨i + 1, .slice As2 Dn.secs.length cs2, .slice Aa2 Dn.row.length ca2, .slice Ar2 Dn.row.length cr2, by omega, rfl, ?_⟩, by show n - ((i : Int) + 1).toNat < n - (i : Int).toNat; omega⟩
          rw [hstep.out, hDn]
          exact hs.pack (L := row b2 (rrCells (.slice As2 Dn.secs.length cs2) (.slice Aa2 Dn.row.length ca2) (.slice Ar2 Dn.row.length cr2) R) 75 :: _) (Pack.cons Pick.here (by repeat (first | with_reducible exact Pack.refl | with_reducible exact Pack.nil | with_reducible refine Pack.cons (by repeat (first | with_reducible exact Pick.here | with_reducible apply Pick.there)) ?_ | with_reducible apply Pack.drop)))
        · refine op_to_bytes hs rfl Try.underlying9 Try.underlying23 Try.underlying5 (l := f.pack) rfl (by have := hpl.out; omega) fun v61 w2 h => hK _ _ (cS2 _ _ h (by (try dsimp only [List.set]); repeat (first | with_reducible exact List.mem_cons_self | with_reducible apply List.mem_cons_of_mem)) (by (try dsimp only [List.set]); repeat (first | with_reducible exact List.mem_cons_self | with_reducible apply List.mem_cons_of_mem))) ?_
          clear hs hK K
          have hs := h
          clear h
          try dsimp only [List.set] at hs
          try go_simp
          refine tree_one_yes (o := _) rfl rfl (fun K hK => ?_) (cS2 _ _ hs (by (try dsimp only [List.set]); repeat (first | with_reducible exact List.mem_cons_self | with_reducible apply List.mem_cons_of_mem)) (by (try dsimp only [List.set]); repeat (first | with_reducible exact List.mem_cons_self | with_reducible apply List.mem_cons_of_mem)))
          try go_simp
          go_at_call 68
          refine (rat_spec W _ _ hs R.first R.many f.seq hmany1 (by omega) hfs).mono ?_
          clear hs
          rintro e w5 ⟨rfl, hs⟩
          try go_simp
          refine hK _ _ (cS2 _ _ hs (by (try dsimp only [List.set]); repeat (first | with_reducible exact List.mem_cons_self | with_reducible apply List.mem_cons_of_mem)) (by (try dsimp only [List.set]); repeat (first | with_reducible exact List.mem_cons_self | with_reducible apply List.mem_cons_of_mem))) ?_
          clear hK K
          refine tree_one_yes (o := _) rfl rfl (fun K hK => ?_) (cS2 _ _ hs (by (try dsimp only [List.set]); repeat (first | with_reducible exact List.mem_cons_self | with_reducible apply List.mem_cons_of_mem)) (by (try dsimp only [List.set]); repeat (first | with_reducible exact List.mem_cons_self | with_reducible apply List.mem_cons_of_mem)))
          try go_simp
          go_at_call 67
          refine (rwrite_spec W _ _ us ua ur Di (hs.pick (A := ref us ua ur Di) (by repeat (first | with_reducible exact Pick.here | with_reducible apply Pick.there))) (R.at_ f.seq) hat.out v61 f.pack (Has.mem (A := own v61 5 f.pack.length 1 (u8s f.pack)) (by (try dsimp only [List.set]); repeat (first | with_reducible exact List.mem_cons_self | with_reducible apply List.mem_cons_of_mem)) own_sliceAt) hpl.out hrow.out).mono ?_
          clear hs
          rintro e w5 ⟨vs2, va2, vr2, rfl, hs⟩
          generalize hDn : Di.write (R.at_ f.seq) f.pack = Dn at hs
          obtain ⟨As2, cs2, rfl, _, _⟩ := slice_form (hs.slice (ref_secs m0))
          obtain ⟨Aa2, ca2, rfl, _, _⟩ := slice_form (hs.slice (ref_ats m0))
          obtain ⟨Ar2, cr2, rfl, _, _⟩ := slice_form (hs.slice (ref_row m0))
          try go_simp
          refine hK _ _ (cS2 _ _ hs (by (try dsimp only [List.set]); repeat (first | with_reducible exact List.mem_cons_self | with_reducible apply List.mem_cons_of_mem)) (by (try dsimp only [List.set]); repeat (first | with_reducible exact List.mem_cons_self | with_reducible apply List.mem_cons_of_mem))) ?_
          clear hK K
          repeat (first
            | (with_reducible refine tree_load_agg (o := ⟨some 49, .load _ _, _, _, _, _⟩) [us, ua, ur] rfl rfl rfl rfl ?_ ?_ d49 ?_; (kernel_rfl); (kernel_rfl))
            | (with_reducible refine tree_load (o := ⟨some 51, .load _ _, _, _, _, _⟩) rfl rfl rfl rfl rfl d51 ?_)
            | (with_reducible refine tree_load (o := ⟨some 53, .load _ _, _, _, _, _⟩) rfl rfl rfl rfl rfl d53 ?_)
            | (with_reducible refine tree_load (o := ⟨some 58, .load _ _, _, _, _, _⟩) rfl rfl rfl rfl rfl d58 ?_)
            | (refine tree_take rfl (fun K hK => ?_); go_simp; with_reducible refine hK _ ?_; clear hK K))
          refine tree_one_yes (o := _) rfl rfl (fun K hK => ?_) (cS2 _ _ hs (by (try dsimp only [List.set]); repeat (first | with_reducible exact List.mem_cons_self | with_reducible apply List.mem_cons_of_mem)) (by (try dsimp only [List.set]); repeat (first | with_reducible exact List.mem_cons_self | with_reducible apply List.mem_cons_of_mem)))
          refine op_store_whole (hs.pick (A := row b11 [.slice none 0 0, .slice none 0 0, .slice none 0 0] 72) (by repeat (first | with_reducible exact Pick.here | with_reducible apply Pick.there))) rfl (b := b11) rfl [_, _, _] rfl (slices_one rfl rfl rfl) (by kernel_rfl) (k := 0) rfl rfl fun w3 h => hK _ _ (cS2 _ _ h (by (try dsimp only [List.set]); repeat (first | with_reducible exact List.mem_cons_self | with_reducible apply List.mem_cons_of_mem)) (by (try dsimp only [List.set]); repeat (first | with_reducible exact List.mem_cons_self | with_reducible apply List.mem_cons_of_mem))) ?_
          clear hs hK K
          have hs := h
          clear h
          try dsimp only [List.set] at hs
          try go_simp
          repeat (first
            | (with_reducible refine tree_load_agg (o := ⟨some 49, .load _ _, _, _, _, _⟩) [us, ua, ur] rfl rfl rfl rfl ?_ ?_ d49 ?_; (kernel_rfl); (kernel_rfl))
            | (with_reducible refine tree_load (o := ⟨some 51, .load _ _, _, _, _, _⟩) rfl rfl rfl rfl rfl d51 ?_)
            | (with_reducible refine tree_load (o := ⟨some 53, .load _ _, _, _, _, _⟩) rfl rfl rfl rfl rfl d53 ?_)
            | (with_reducible refine tree_load (o := ⟨some 58, .load _ _, _, _, _, _⟩) rfl rfl rfl rfl rfl d58 ?_)
            | (refine tree_take rfl (fun K hK => ?_); go_simp; with_reducible refine hK _ ?_; clear hK K))
          refine tree_done ?_
          clear hq
          have hs1 := hs.pick (A := row b2 (rrCells us ua ur R) 75) (by repeat (first | with_reducible exact Pick.here | with_reducible apply Pick.there))
          clear hs
          have hs := hs1
          clear hs1
          go_wp2_with (first
            | (guard_target = wpList _ _ _ (⟨some 65, .load _ _, _, _, _, _⟩ :: _) _ _; refine wpl (o := ⟨some 65, .load _ _, _, _, _, _⟩) rfl fun K hK => op_load_agg rfl (b := b11) (i := 0) rfl [.slice As2 Dn.secs.length cs2, .slice Aa2 Dn.row.length ca2, .slice Ar2 Dn.row.length cr2] (range_whole hs (by (try dsimp only [List.set]); repeat (first | with_reducible exact List.mem_cons_self | with_reducible apply List.mem_cons_of_mem))) (by kernel_rfl) (by kernel_rfl) (hK _ _ ?_); clear hK K)
            | (guard_target = wpList _ _ _ (⟨none, .store _ (.tmp 66) _, _, _, _, _⟩ :: _) _ _; refine wpl (o := ⟨none, .store _ (.tmp 66) _, _, _, _, _⟩) rfl fun K hK => ?_; go_must (refine op_store_agg hs rfl (b := b2) (i := 0) rfl [.slice As2 Dn.secs.length cs2, .slice Aa2 Dn.row.length ca2, .slice Ar2 Dn.row.length cr2] rfl (slices_one rfl rfl rfl) (by kernel_rfl) (k := 0) rfl (by simp [rrCells, rriCells]) fun w5 h => hK _ _ ?_); clear hs hK K; have hs := h; clear h; try dsimp only [List.set] at hs))
          refine ⟨⟨i + 1, .slice As2 Dn.secs.length cs2, .slice Aa2 Dn.row.length ca2, .slice Ar2 Dn.row.length cr2, by omega, rfl, ?_⟩, by show n - ((i : Int) + 1).toNat < n - (i : Int).toNat; omega⟩
          rw [hstep.out, hDn]
          exact hs.pack (L := row b2 (rrCells (.slice As2 Dn.secs.length cs2) (.slice Aa2 Dn.row.length ca2) (.slice Ar2 Dn.row.length cr2) R) 75 :: _) (Pack.cons Pick.here (by repeat (first | with_reducible exact Pack.refl | with_reducible exact Pack.nil | with_reducible refine Pack.cons (by repeat (first | with_reducible exact Pick.here | with_reducible apply Pick.there)) ?_ | with_reducible apply Pack.drop)))
    · have hinI : ¬ (i : Int) < (n : Int) := by omega
      have hall : (R.frames rec).take i = R.frames rec := List.take_of_length_le (by show (cutF R.epoch R.next rec).length ≤ i; rw [hcl.out]; omega)
      rw [hall] at hs
      have hw3 : IntKind.u32.wrap (n : Int) = (n : Int) := by rw [IntKind.wrap_u32]; omega
      have hw4 : IntKind.u32.wrap ((R.next : Int) + (n : Int)) = ((R.next + n : Nat) : Int) := by rw [IntKind.wrap_u32]; omega
      generalize hDn2 : R.lay R.D (R.frames rec) = Dn at hs
      generalize hn1 : Dn.secs.length = n1 at hs
      generalize hn2 : Dn.row.length = n2 at hs
      go_wp2_with (first
        | (guard_target = wpList _ _ _ (⟨some 68, .load _ _, _, _, _, _⟩ :: _) _ _; refine wpl (o := ⟨some 68, .load _ _, _, _, _, _⟩) rfl fun K hK => op_load rfl (ad := ⟨b2, 7, none⟩) rfl (by kernel_rfl) (hs.cell m0 rfl) (hK _ _ ?_); clear hK K)
        | (guard_target = wpList _ _ _ (⟨none, .store _ (.tmp 73) _, _, _, _, _⟩ :: _) _ _; refine wpl (o := ⟨none, .store _ (.tmp 73) _, _, _, _, _⟩) rfl fun K hK => ?_; go_must (refine op_store hs (b := b2) (i := 7) (v := .int .u32 ((R.next + n : Nat) : Int)) rfl rfl rfl rfl (by kernel_rfl) (k := 0) rfl (by simp [rrCells, rriCells]) fun w5 h => hK _ _ ?_); clear hs hK K; have hs := h; clear h; change Sat W _ (row b2 (rrCells (.slice As1 n1 cs1) (.slice Aa1 n2 ca1) (.slice Ar1 n2 cr1) ⟨Dn, R.first, R.many, R.epoch, R.low, R.next + n⟩) 75 :: _) at hs))
      have cS3 : ∀ w M, Sat W w M → row b2 (rrCells (.slice As1 n1 cs1) (.slice Aa1 n2 ca1) (.slice Ar1 n2 cr1) ⟨Dn, R.first, R.many, R.epoch, R.low, R.next + n⟩) 75 ∈ M → rngS b2 (rrCells (.slice As1 n1 cs1) (.slice Aa1 n2 ca1) (.slice Ar1 n2 cr1) ⟨Dn, R.first, R.many, R.epoch, R.low, R.next + n⟩) w := fun w M h hm => range_whole h hm
      have e74 : ∀ w, rngS b2 (rrCells (.slice As1 n1 cs1) (.slice Aa1 n2 ca1) (.slice Ar1 n2 cr1) ⟨Dn, R.first, R.many, R.epoch, R.low, R.next + n⟩) w → w.rangeAt b2 0 (rrCells (.slice As1 n1 cs1) (.slice Aa1 n2 ca1) (.slice Ar1 n2 cr1) ⟨Dn, R.first, R.many, R.epoch, R.low, R.next + n⟩) := fun w h => h
      have e76 : ∀ w, rngS b2 (rrCells (.slice As1 n1 cs1) (.slice Aa1 n2 ca1) (.slice Ar1 n2 cr1) ⟨Dn, R.first, R.many, R.epoch, R.low, R.next + n⟩) w → w.cell? ⟨b2, 7, none⟩ = some (.int .u32 ((R.next + n : Nat) : Int)) := fun w h => h 7 _ rfl
      have hS0 := cS3 _ _ hs.drew (by (try dsimp only [List.set]); repeat (first | with_reducible exact List.mem_cons_self | with_reducible apply List.mem_cons_of_mem))
      refine wp_region_tree (rngS b2 (rrCells (.slice As1 n1 cs1) (.slice Aa1 n2 ca1) (.slice Ar1 n2 cr1) ⟨Dn, R.first, R.many, R.epoch, R.low, R.next + n⟩)) (.take 0 (.take 1 (.take 2 (.all [(3, .take 4 (.take 5 (DTree.done)))])))) (by kernel_rfl) (by kernel_rfl) (by kernel_rfl) (fun _ _ d _ _ h => by cases d <;> exact h) hS0 ?_
      have hs' := hs.drew
      clear hs
      have hs := hs'
      clear hs'
      have hq := fun p : Prop => class_const hS0 p
      clear hS0
      repeat (first
        | (with_reducible refine tree_load_agg (o := ⟨some 74, .load _ _, _, _, _, _⟩) (rrCells (.slice As1 n1 cs1) (.slice Aa1 n2 ca1) (.slice Ar1 n2 cr1) ⟨Dn, R.first, R.many, R.epoch, R.low, R.next + n⟩) rfl rfl rfl rfl ?_ ?_ e74 ?_; (kernel_rfl); (kernel_rfl))
        | (with_reducible refine tree_load (o := ⟨some 76, .load _ _, _, _, _, _⟩) rfl rfl rfl rfl rfl e76 ?_)
        | (refine tree_take rfl (fun K hK => ?_); go_simp; with_reducible refine hK _ ?_; clear hK K))
      refine tree_one_yes (o := _) rfl rfl (fun K hK => ?_) (cS3 _ _ hs (by (try dsimp only [List.set]); repeat (first | with_reducible exact List.mem_cons_self | with_reducible apply List.mem_cons_of_mem)))
      refine op_store_whole (hs.pick (A := row b4 zrCells 75) (by repeat (first | with_reducible exact Pick.here | with_reducible apply Pick.there))) rfl (b := b4) rfl (rrCells (.slice As1 n1 cs1) (.slice Aa1 n2 ca1) (.slice Ar1 n2 cr1) ⟨Dn, R.first, R.many, R.epoch, R.low, R.next + n⟩) rfl (rri_one rfl rfl rfl _ _ _ _ _) (by kernel_rfl) (k := 0) rfl rfl fun w3 h => hK _ _ (cS3 _ _ h (by (try dsimp only [List.set]); repeat (first | with_reducible exact List.mem_cons_self | with_reducible apply List.mem_cons_of_mem))) ?_
      clear hs hK K
      have hs := h
      clear h
      try dsimp only [List.set] at hs
      try go_simp
      repeat (first
        | (with_reducible refine tree_load_agg (o := ⟨some 74, .load _ _, _, _, _, _⟩) (rrCells (.slice As1 n1 cs1) (.slice Aa1 n2 ca1) (.slice Ar1 n2 cr1) ⟨Dn, R.first, R.many, R.epoch, R.low, R.next + n⟩) rfl rfl rfl rfl ?_ ?_ e74 ?_; (kernel_rfl); (kernel_rfl))
        | (with_reducible refine tree_load (o := ⟨some 76, .load _ _, _, _, _, _⟩) rfl rfl rfl rfl rfl e76 ?_)
        | (refine tree_take rfl (fun K hK => ?_); go_simp; with_reducible refine hK _ ?_; clear hK K))
      refine tree_done ?_
      clear hq
      go_wp2_with fail
      refine bodyPost_ret (run_results_cell_tmp2 rfl (b := b4) rfl _ (range_whole hs m0) (by kernel_rfl) (by kernel_rfl)) rfl ⟨_, _, _, rfl, ?_⟩
      subst hn1
      subst hn2
      rw [hDn2]
      exact hs.pack (by repeat (first | with_reducible exact Pack.refl | with_reducible exact Pack.nil | with_reducible refine Pack.cons (by repeat (first | with_reducible exact Pick.here | with_reducible apply Pick.there)) ?_ | with_reducible apply Pack.drop))
end Go.Proofs.Ytoedmjibhpajjaa
