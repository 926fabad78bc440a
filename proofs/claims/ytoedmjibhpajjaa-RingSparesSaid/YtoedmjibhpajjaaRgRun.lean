/- A ring of eight sectors behind deeds; the records that were appended. -/
import Derived.Test.YtoedmjibhpajjaaRgRunP
import Derived.Test.YtoedmjibhpajjaaRgNew
set_option linter.unusedVariables false
set_option linter.unusedSimpArgs false
namespace Go.Proofs.Ytoedmjibhpajjaa
open Go.RowKit
theorem res_tmp4 {fn : Func} {t u v x : Tmp} (h : fn.results = #[.tmp t, .tmp u, .tmp v, .tmp x]) (tmps : Array Value) (P : Program) (w : World) :
    (results fn tmps).run P w = .ok (.tuple #[tmps.getD t undef, tmps.getD u undef, tmps.getD v undef, tmps.getD x undef]) w := by
  simp [results, h]
def u32s (l : List Nat) : List Value := l.map fun (n : Nat) => Value.int .u32 n
theorem u32s_one (l : List Nat) : ∀ v ∈ u32s l, v.oneCell' = true := fun v hv => by
  obtain ⟨x, _, rfl⟩ := List.mem_map.1 hv; rfl
theorem info_u32 : (Try.prog.info? 22).map (fun i => (i.zero, i.size, i.bytes)) = some (some (.int .u32 0), 1, 4) := by kernel_rfl
def runS6 (b8 : Nat) (cs : List Value) (bd o : Nat) (ds : List Value) (w : World) : Prop := w.rangeAt b8 0 cs ∧ w.rangeAt bd o ds
def runPost (l : List RDeed) (W : World) (L : List HP) (e : Ending) (w' : World) : Prop := ∃ b br v9 v10, e = .returned (.tuple #[.pointer (some ⟨b, 0, none⟩), .pointer (some ⟨br, 0, none⟩), v9, v10]) ∧ Sat W w' (disk b (rgRun l).1.D :: rg br b (rgRun l).1 :: own v9 9 (rgRun l).2.length 1 (strs ((rgRun l).2.map (·.1))) :: own v10 22 (rgRun l).2.length 1 (u32s ((rgRun l).2.map (·.2))) :: L)
set_option maxRecDepth 100000 in
set_option maxHeartbeats 8000000 in
theorem rgrun_spec (W w : World) (L : List HP) (hs : Sat W w L) (hold : old W ∈ L) (v : Value) (l : List RDeed) (h : rdeedsAt v l (hp W)) (hsm : Small l) :
    Calls Try.prog 33 #[v] w (runPost l W L) := by
  obtain ⟨A, cap, rfl, hl1, hl2, hl3⟩ := rdeeds_form h
  have hinv := Box.mk (rgRun_inv l hsm)
  have hsmall := Box.mk hsm.2
  have hlen := hsm.1
  clear hsm
  have hR0 : Box ((⟨Dk.new 12, 2, 8, 3, 0, 0⟩ : Rg) = rg0) := ⟨rfl⟩
  have hD0 : Box (Dk.new 12 = rg0.D) := ⟨rfl⟩
  go_enter Try.func33, Try.ntmps33
  go_wp2_with (first
    | (go_at_call 26; go_must (refine (new_spec W _ _ hs 12 (by omega) (by omega)).mono ?_); clear hs; rintro e w1 ⟨b1, rfl, hs⟩)
    | (go_at_call 27; go_must (refine (rgnew_some W _ _ b1 (Dk.new 12) hs 2 8 3 0 0 (by decide) (by simp [Dk.new, RgMay])).mono ?_); clear hs; rintro e w1 ⟨br, rfl, hs⟩; rw [hR0.out] at hs)
    | (go_at_call 35; go_must (refine (rnew_spec W _ _ hs 12 (by omega)).mono ?_); clear hs; rintro e w1 ⟨vs, va, vr, rfl, hs⟩; rw [hD0.out] at hs
       obtain ⟨As, cs, rfl, _, _⟩ := slice_form (hs.slice (ref_secs m0))
       obtain ⟨Aa, ca, rfl, _, _⟩ := slice_form (hs.slice (ref_ats m0))
       obtain ⟨Ar, cr, rfl, _, _⟩ := slice_form (hs.slice (ref_row m0))
       generalize hus : Value.slice As rg0.D.secs.length cs = us at hs ⊢
       generalize hua : Value.slice Aa rg0.D.row.length ca = ua at hs ⊢
       generalize hur : Value.slice Ar rg0.D.row.length cr = ur at hs ⊢
       have o1 : us.oneCell' = true := by rw [← hus]; rfl
       have o2 : ua.oneCell' = true := by rw [← hua]; rfl
       have o3 : ur.oneCell' = true := by rw [← hur]; rfl
       have c1 : us.cells = #[us] := cells_one o1
       have c2 : ua.cells = #[ua] := cells_one o2
       have c3 : ur.cells = #[ur] := cells_one o3
       clear hus hua hur)
    | (guard_target = wpList _ _ _ (⟨some 8, .alloc _, _, _, _, _⟩ :: _) _ _; refine wpl (o := ⟨some 8, .alloc _, _, _, _, _⟩) rfl fun K hK => ?_; go_must (refine op_alloc hs rfl _ zrref zrCells rfl fun b8 w1 h => hK _ _ ?_); clear hs hK K; have hs := h; clear h; try dsimp only [List.set] at hs)
    | (guard_target = wpList _ _ _ (⟨none, .store _ (.tmp 8) _, _, _, _, _⟩ :: _) _ _; refine wpl (o := ⟨none, .store _ (.tmp 8) _, _, _, _, _⟩) rfl fun K hK => ?_; go_must (refine op_store_whole hs (b := b8) rfl rfl (rrCells us ua ur rg0) rfl (rri_one o1 o2 o3 _ _ _ _ _) (by kernel_rfl) (k := 0) rfl rfl fun w3 h => hK _ _ ?_); clear hs hK K; have hs := h; clear h; try dsimp only [List.set] at hs))
  have hs1 := ((hs.addNil none 9 1).addNil none 22 1).pack (L := row b8 (rrCells us ua ur (rgRun (l.take 0)).1) 75 :: disk b1 (rgRun (l.take 0)).1.D :: rg br b1 (rgRun (l.take 0)).1 :: ref us ua ur (rgRun (l.take 0)).1.D :: own (.slice none 0 0) 9 0 1 [] :: own (.slice none 0 0) 22 0 1 [] :: L) (by
    rw [show (rgRun (l.take 0)).1 = rg0 from rfl]
    exact (by repeat (first | with_reducible exact Pack.refl | with_reducible exact Pack.nil | with_reducible refine Pack.cons (by repeat (first | with_reducible exact Pick.here | with_reducible apply Pick.there)) ?_ | with_reducible apply Pack.drop)))
  clear hs
  have hs := hs1
  clear hs1
  go_loopw [9, 10, 11] (fun v9 v10 v11 wr => ∃ (k : Nat) (us ua ur : Value), k ≤ l.length ∧ v11 = .int .i64 (k : Nat) ∧ Sat W wr (row b8 (rrCells us ua ur (rgRun (l.take k)).1) 75 :: disk b1 (rgRun (l.take k)).1.D :: rg br b1 (rgRun (l.take k)).1 :: ref us ua ur (rgRun (l.take k)).1.D :: own v9 9 (rgRun (l.take k)).2.length 1 (strs ((rgRun (l.take k)).2.map (·.1))) :: own v10 22 (rgRun (l.take k)).2.length 1 (u32s ((rgRun (l.take k)).2.map (·.2))) :: L)) (fun _ _ v11 _ => l.length - (intOf v11).toNat)
  case atStart => exact ⟨0, us, ua, ur, by omega, rfl, hs⟩
  case round =>
    clear hs
    obtain ⟨k, us, ua, ur, hk, rfl, hs⟩ := hrel
    have hfin : k = l.length → rgRun (l.take k) = rgRun l := fun e => by rw [e, List.take_length]
    have hsn := fun h => rgRun_snoc l k h
    obtain ⟨ok, hf1, hf2, hf3, hf4, hrow, hcnt, hnxt⟩ := hinv.out k hk
    generalize hst : rgRun (l.take k) = st at *
    obtain ⟨R, rl⟩ := st
    have HF := Box.mk hfin
    have HS := Box.mk hsn
    clear hfin hsn
    simp only at ok hrow hcnt hnxt hs hf1 hf2 hf3 hf4
    have HI := Box.mk (And.intro hf1 (And.intro hf2 (And.intro hf3 hf4)))
    clear hf1 hf2 hf3 hf4
    obtain ⟨A9, c9, rfl, _, _⟩ := own_slice hs (i := 4) rfl
    obtain ⟨A10, c10, rfl, _, _⟩ := own_slice hs (i := 5) rfl
    by_cases hlt : k < l.length
    · have hltI : (k : Int) < (l.length : Int) := by omega
      obtain ⟨bd, od, cd, vb, e, hrg, hb⟩ := rdeeds_old h k hlt
      cases e
      have hS := HS.out hlt
      have hc4 := hsmall.out l[k] (List.getElem_mem hlt)
      have ok' := Rg.deed_ok ok l[k]
      generalize l[k] = c at hrg hb hS hc4 ok'
      obtain ⟨Ab, cb, rfl, _, _⟩ := slice_form (hs.slice (has_w (by (try dsimp only [List.set]); repeat (first | exact hold | apply List.mem_cons_of_mem)) hb))
      have hSt := Box.mk hS
      clear hS
      have cS : ∀ w M, Sat W w M → row b8 (rrCells us ua ur R) 75 ∈ M → old W ∈ M → runS6 b8 (rrCells us ua ur R) bd (od + k * 3) (rdCells c (.slice Ab c.rec_.length cb)) w := fun w M h hm ho => ⟨range_whole h hm, rold_range h ho hrg (by simp [rdCells])⟩
      have r32 : ∀ w, runS6 b8 (rrCells us ua ur R) bd (od + k * 3) (rdCells c (.slice Ab c.rec_.length cb)) w → w.rangeAt b8 0 (rrCells us ua ur R) := fun w h => h.1
      have r36 : ∀ w, runS6 b8 (rrCells us ua ur R) bd (od + k * 3) (rdCells c (.slice Ab c.rec_.length cb)) w → w.rangeAt bd (od + k * 3) (rdCells c (.slice Ab c.rec_.length cb)) := fun w h => h.2
      have hrow7 : R.D.row.length ≤ 700000 := by omega
      go_wp2_with (first
        | (guard_target = wpList _ _ _ (⟨some 28, .load _ _, _, _, _, _⟩ :: _) _ _; refine wpl (o := ⟨some 28, .load _ _, _, _, _, _⟩) rfl fun K hK => op_load rfl (ad := ⟨b8, 7, none⟩) rfl (by kernel_rfl) (hs.cell m0 rfl) (hK _ _ ?_); clear hK K))
      have hS0 := cS _ _ hs.drew (by (try dsimp only [List.set]); repeat (first | with_reducible exact List.mem_cons_self | with_reducible apply List.mem_cons_of_mem)) (by (try dsimp only [List.set]); repeat (first | exact hold | apply List.mem_cons_of_mem))
      refine wp_region_tree (runS6 b8 (rrCells us ua ur R) bd (od + k * 3) (rdCells c (.slice Ab c.rec_.length cb))) (.take 0 (.take 1 (.take 2 (.take 3 (.take 4 (.take 5 (.take 6 (.all [(7, .take 8 (.take 9 (.take 10 (.all [(11, .all [(12, .take 13 (DTree.done))])])))), (11, .all [(7, .take 8 (.take 9 (.take 10 (.all [(12, .take 13 (DTree.done))]))))])])))))))) (by kernel_rfl) (by kernel_rfl) (by kernel_rfl) (fun _ _ d _ _ h => by cases d <;> exact h) hS0 ?_
      have hs' := hs.drew
      clear hs
      have hs := hs'
      clear hs'
      have hq := fun p : Prop => class_const hS0 p
      clear hS0
      repeat (first
        | (with_reducible refine tree_load_agg (o := ⟨some 32, .load _ _, _, _, _, _⟩) (rrCells us ua ur R) rfl rfl rfl rfl ?_ ?_ r32 ?_; (kernel_rfl); (kernel_rfl))
        | (with_reducible refine tree_load_agg (o := ⟨some 36, .load _ _, _, _, _, _⟩) (rdCells c (.slice Ab c.rec_.length cb)) rfl rfl rfl rfl ?_ ?_ r36 ?_; (kernel_rfl); (kernel_rfl))
        | (refine tree_take rfl (fun K hK => ?_); go_simp; with_reducible refine hK _ ?_; clear hK K))
      refine tree_all (trees_cons_yes (o := _) rfl rfl (fun K hK => ?_) (cS _ _ hs (by (try dsimp only [List.set]); repeat (first | with_reducible exact List.mem_cons_self | with_reducible apply List.mem_cons_of_mem)) (by (try dsimp only [List.set]); repeat (first | exact hold | apply List.mem_cons_of_mem))) (trees_cons_yes (o := _) rfl rfl (fun K hK => ?_) (cS _ _ hs (by (try dsimp only [List.set]); repeat (first | with_reducible exact List.mem_cons_self | with_reducible apply List.mem_cons_of_mem)) (by (try dsimp only [List.set]); repeat (first | exact hold | apply List.mem_cons_of_mem))) trees_nil))
      · try go_simp
        go_at_call 37
        refine (rgdo_spec W _ _ b1 br us ua ur (.slice Ab c.rec_.length cb) R ok c (((hs.pick (A := ref us ua ur R.D) (by repeat (first | with_reducible exact Pick.here | with_reducible apply Pick.there))).pick (A := rg br b1 R) (by repeat (first | with_reducible exact Pick.here | with_reducible apply Pick.there))).pick (A := disk b1 R.D) (by repeat (first | with_reducible exact Pick.here | with_reducible apply Pick.there))) (has_w (by (try dsimp only [List.set]); repeat (first | exact hold | apply List.mem_cons_of_mem)) hb) hc4 hrow7).mono ?_
        clear hs
        rintro e w5 ⟨vs2, va2, vr2, rfl, hs⟩
        generalize hR' : R.deed c = R' at hs
        obtain ⟨As2, cs2, rfl, _, _⟩ := slice_form (hs.slice (ref_secs (by (try dsimp only [List.set]); repeat (first | with_reducible exact List.mem_cons_self | with_reducible apply List.mem_cons_of_mem))))
        obtain ⟨Aa2, ca2, rfl, _, _⟩ := slice_form (hs.slice (ref_ats (by (try dsimp only [List.set]); repeat (first | with_reducible exact List.mem_cons_self | with_reducible apply List.mem_cons_of_mem))))
        obtain ⟨Ar2, cr2, rfl, _, _⟩ := slice_form (hs.slice (ref_row (by (try dsimp only [List.set]); repeat (first | with_reducible exact List.mem_cons_self | with_reducible apply List.mem_cons_of_mem))))
        try go_simp
        refine hK _ _ (cS _ _ hs (by (try dsimp only [List.set]); repeat (first | with_reducible exact List.mem_cons_self | with_reducible apply List.mem_cons_of_mem)) (by (try dsimp only [List.set]); repeat (first | exact hold | apply List.mem_cons_of_mem))) ?_
        clear hK K
        repeat (first
          | (with_reducible refine tree_load_agg (o := ⟨some 32, .load _ _, _, _, _, _⟩) (rrCells us ua ur R) rfl rfl rfl rfl ?_ ?_ r32 ?_; (kernel_rfl); (kernel_rfl))
          | (with_reducible refine tree_load_agg (o := ⟨some 36, .load _ _, _, _, _, _⟩) (rdCells c (.slice Ab c.rec_.length cb)) rfl rfl rfl rfl ?_ ?_ r36 ?_; (kernel_rfl); (kernel_rfl))
          | (refine tree_take rfl (fun K hK => ?_); go_simp; with_reducible refine hK _ ?_; clear hK K))
        refine tree_one_yes (o := _) rfl rfl (fun K hK => ?_) (cS _ _ hs (by (try dsimp only [List.set]); repeat (first | with_reducible exact List.mem_cons_self | with_reducible apply List.mem_cons_of_mem)) (by (try dsimp only [List.set]); repeat (first | exact hold | apply List.mem_cons_of_mem)))
        refine op_alloc hs rfl _ zrref zrCells rfl fun b13 w2 h => hK _ _ (cS _ _ h (by (try dsimp only [List.set]); repeat (first | with_reducible exact List.mem_cons_self | with_reducible apply List.mem_cons_of_mem)) (by (try dsimp only [List.set]); repeat (first | exact hold | apply List.mem_cons_of_mem))) ?_
        clear hs hK K
        have hs := h
        clear h
        try dsimp only [List.set] at hs
        try go_simp
        refine tree_one_yes (o := _) rfl rfl (fun K hK => ?_) (cS _ _ hs (by (try dsimp only [List.set]); repeat (first | with_reducible exact List.mem_cons_self | with_reducible apply List.mem_cons_of_mem)) (by (try dsimp only [List.set]); repeat (first | exact hold | apply List.mem_cons_of_mem)))
        refine op_store_whole (hs.pick (A := row b13 zrCells 75) (by repeat (first | with_reducible exact Pick.here | with_reducible apply Pick.there))) rfl (b := b13) rfl (rrCells (.slice As2 R'.D.secs.length cs2) (.slice Aa2 R'.D.row.length ca2) (.slice Ar2 R'.D.row.length cr2) R') rfl (rri_one rfl rfl rfl _ _ _ _ _) (by kernel_rfl) (k := 0) rfl rfl fun w3 h => hK _ _ (cS _ _ h (by (try dsimp only [List.set]); repeat (first | with_reducible exact List.mem_cons_self | with_reducible apply List.mem_cons_of_mem)) (by (try dsimp only [List.set]); repeat (first | exact hold | apply List.mem_cons_of_mem))) ?_
        clear hs hK K
        have hs := h
        clear h
        try dsimp only [List.set] at hs
        try go_simp
        repeat (first
          | (with_reducible refine tree_load_agg (o := ⟨some 32, .load _ _, _, _, _, _⟩) (rrCells us ua ur R) rfl rfl rfl rfl ?_ ?_ r32 ?_; (kernel_rfl); (kernel_rfl))
          | (with_reducible refine tree_load_agg (o := ⟨some 36, .load _ _, _, _, _, _⟩) (rdCells c (.slice Ab c.rec_.length cb)) rfl rfl rfl rfl ?_ ?_ r36 ?_; (kernel_rfl); (kernel_rfl))
          | (refine tree_take rfl (fun K hK => ?_); go_simp; with_reducible refine hK _ ?_; clear hK K))
        refine tree_done ?_
        clear hq
        have k45 : w3.cell? ⟨bd, od + k * 3, none⟩ = some (.int .i64 c.kind) := rold_range hs (by (try dsimp only [List.set]); repeat (first | exact hold | apply List.mem_cons_of_mem)) hrg (by simp [rdCells]) 0 _ rfl
        have hb58 := rold_range hs (by (try dsimp only [List.set]); repeat (first | exact hold | apply List.mem_cons_of_mem)) hrg (by simp [rdCells]) 1 _ rfl
        have ok2 := ok'
        rw [hR'] at ok2
        have hnb := ok2.top
        have hnb1 := ok.top
        by_cases hk1 : c.kind = 1
        · have hk1I : (c.kind == 1) = true := by simp [hk1]
          by_cases hnx : R'.next = R.next
          · have hnxI : ((R'.next : Int) != (R.next : Int)) = false := by simp [hnx]
            have hnew : Box (rgRun (l.take (k + 1)) = (R', rl)) := ⟨by rw [hSt.out]; simp [rgStep, hR', hnx]⟩
            go_wp2_with (first
              | (guard_target = wpList _ _ _ (⟨some 40, .load _ _, _, _, _, _⟩ :: _) _ _; refine wpl (o := ⟨some 40, .load _ _, _, _, _, _⟩) rfl fun K hK => op_load_agg rfl (b := b13) (i := 0) rfl (rrCells (.slice As2 R'.D.secs.length cs2) (.slice Aa2 R'.D.row.length ca2) (.slice Ar2 R'.D.row.length cr2) R') (range_whole hs m0) (by kernel_rfl) (by kernel_rfl) (hK _ _ ?_); clear hK K)
              | (guard_target = wpList _ _ _ (⟨none, .store _ (.tmp 8) _, _, _, _, _⟩ :: _) _ _; refine wpl (o := ⟨none, .store _ (.tmp 8) _, _, _, _, _⟩) rfl fun K hK => ?_; go_must (refine op_store_whole (hs.pick (A := row b8 (rrCells us ua ur R) 75) (by repeat (first | with_reducible exact Pick.here | with_reducible apply Pick.there))) (b := b8) rfl rfl (rrCells (.slice As2 R'.D.secs.length cs2) (.slice Aa2 R'.D.row.length ca2) (.slice Ar2 R'.D.row.length cr2) R') rfl (rri_one rfl rfl rfl _ _ _ _ _) (by kernel_rfl) (k := 0) rfl rfl fun w4 h => hK _ _ ?_); clear hs hK K; have hs := h; clear h; dsimp only [List.set] at hs
                 have k45' : w4.cell? ⟨bd, od + k * 3, none⟩ = some (.int .i64 c.kind) := rold_range hs (by (try dsimp only [List.set]); repeat (first | exact hold | apply List.mem_cons_of_mem)) hrg (by simp [rdCells]) 0 _ rfl)
              | (guard_target = wpList _ _ _ (⟨some 45, .load _ _, _, _, _, _⟩ :: _) _ _; refine wpl (o := ⟨some 45, .load _ _, _, _, _, _⟩) rfl fun K hK => op_load rfl (ad := ⟨bd, od + k * 3, none⟩) rfl (by kernel_rfl) k45' (hK _ _ ?_); clear hK K)
              | (guard_target = wpList _ _ _ (⟨some 49, .load _ _, _, _, _, _⟩ :: _) _ _; refine wpl (o := ⟨some 49, .load _ _, _, _, _, _⟩) rfl fun K hK => op_load rfl (ad := ⟨b8, 7, none⟩) rfl (by kernel_rfl) (hs.cell m0 rfl) (hK _ _ ?_); clear hK K))
            refine ⟨⟨k + 1, .slice As2 R'.D.secs.length cs2, .slice Aa2 R'.D.row.length ca2, .slice Ar2 R'.D.row.length cr2, by omega, by go_num, ?_⟩, by simp only [intOf]; omega⟩
            rw [hnew.out]
            exact hs.pack (by repeat (first | with_reducible exact Pack.refl | with_reducible exact Pack.nil | with_reducible refine Pack.cons (by repeat (first | with_reducible exact Pick.here | with_reducible apply Pick.there)) ?_ | with_reducible apply Pack.drop))
          · have hnxI : ((R'.next : Int) != (R.next : Int)) = true := by simp; omega
            have hnew : Box (rgRun (l.take (k + 1)) = (R', rl ++ [(c.rec_, R'.next)])) := ⟨by rw [hSt.out]; simp [rgStep, hR', hnx, hk1]⟩
            go_wp2_with (first
              | (guard_target = wpList _ _ _ (⟨some 40, .load _ _, _, _, _, _⟩ :: _) _ _; refine wpl (o := ⟨some 40, .load _ _, _, _, _, _⟩) rfl fun K hK => op_load_agg rfl (b := b13) (i := 0) rfl (rrCells (.slice As2 R'.D.secs.length cs2) (.slice Aa2 R'.D.row.length ca2) (.slice Ar2 R'.D.row.length cr2) R') (range_whole hs m0) (by kernel_rfl) (by kernel_rfl) (hK _ _ ?_); clear hK K)
              | (guard_target = wpList _ _ _ (⟨none, .store _ (.tmp 8) _, _, _, _, _⟩ :: _) _ _; refine wpl (o := ⟨none, .store _ (.tmp 8) _, _, _, _, _⟩) rfl fun K hK => ?_; go_must (refine op_store_whole (hs.pick (A := row b8 (rrCells us ua ur R) 75) (by repeat (first | with_reducible exact Pick.here | with_reducible apply Pick.there))) (b := b8) rfl rfl (rrCells (.slice As2 R'.D.secs.length cs2) (.slice Aa2 R'.D.row.length ca2) (.slice Ar2 R'.D.row.length cr2) R') rfl (rri_one rfl rfl rfl _ _ _ _ _) (by kernel_rfl) (k := 0) rfl rfl fun w4 h => hK _ _ ?_); clear hs hK K; have hs := h; clear h; dsimp only [List.set] at hs
                 have k45' : w4.cell? ⟨bd, od + k * 3, none⟩ = some (.int .i64 c.kind) := rold_range hs (by (try dsimp only [List.set]); repeat (first | exact hold | apply List.mem_cons_of_mem)) hrg (by simp [rdCells]) 0 _ rfl
                 have k58' : w4.cell? ⟨bd, od + k * 3 + 1, none⟩ = some (.slice Ab c.rec_.length cb) := rold_range hs (by (try dsimp only [List.set]); repeat (first | exact hold | apply List.mem_cons_of_mem)) hrg (by simp [rdCells]) 1 _ rfl)
              | (guard_target = wpList _ _ _ (⟨some 45, .load _ _, _, _, _, _⟩ :: _) _ _; refine wpl (o := ⟨some 45, .load _ _, _, _, _, _⟩) rfl fun K hK => op_load rfl (ad := ⟨bd, od + k * 3, none⟩) rfl (by kernel_rfl) k45' (hK _ _ ?_); clear hK K)
              | (guard_target = wpList _ _ _ (⟨some 49, .load _ _, _, _, _, _⟩ :: _) _ _; refine wpl (o := ⟨some 49, .load _ _, _, _, _, _⟩) rfl fun K hK => op_load rfl (ad := ⟨b8, 7, none⟩) rfl (by kernel_rfl) (hs.cell m0 rfl) (hK _ _ ?_); clear hK K)
              | (guard_target = wpList _ _ _ (⟨some 58, .load _ _, _, _, _, _⟩ :: _) _ _; refine wpl (o := ⟨some 58, .load _ _, _, _, _, _⟩) rfl fun K hK => op_load rfl (ad := ⟨bd, od + k * 3 + 1, none⟩) rfl (by kernel_rfl) k58' (hK _ _ ?_); clear hK K)
              | (guard_target = wpList _ _ _ (⟨some 59, .convert _ _ _, _, _, _, _⟩ :: _) _ _; refine wpl (o := ⟨some 59, .convert _ _ _, _, _, _, _⟩) rfl fun K hK => ?_; go_must (refine op_to_string rfl Try.underlying23 Try.underlying5 Try.underlying9 rfl (hs.bytes (has_w (by (try dsimp only [List.set]); repeat (first | exact hold | apply List.mem_cons_of_mem)) hb)) (hK _ _ ?_)); clear hK K)
              | (guard_target = wpList _ _ _ (⟨some 60, .buildSlice _ _ _, _, _, _, _⟩ :: _) _ _; refine wpl (o := ⟨some 60, .buildSlice _ _ _, _, _, _, _⟩) rfl fun K hK => ?_; go_must (refine op_lit1 hs rfl Try.underlying64 info_str rfl (strs [c.rec_]) (by omega) rfl (strs_one _) (by first | rfl | (simp [strs, str, Act.eval, Act.put]; done) | (simp [strs, str, Act.eval, Act.put]; rfl)) fun b60 w5 h => hK _ _ ?_); clear hs hK K; have hs := h; clear h; try dsimp only [List.set] at hs)
              | (guard_target = wpList _ _ _ (⟨some 61, .call _, _, _, _, _⟩ :: _) _ _; refine wpl (o := ⟨some 61, .call _, _, _, _, _⟩) rfl fun K hK => ?_; go_must (refine op_append (hs.pick (A := own (.slice A9 rl.length c9) 9 rl.length 1 (strs (rl.map (·.1)))) (by repeat (first | with_reducible exact Pick.here | with_reducible apply Pick.there))) rfl Try.underlying64 Try.underlying64 info_str rfl (by omega) (k := 0) rfl rfl rfl (lit_slice 1 rfl 1 1 rfl (by omega)) (strs_one _) (by omega) (by omega) fun v61 w6 h => hK _ _ ?_); clear hs hK K; have hs := h; clear h; dsimp only [List.set] at hs
                 obtain ⟨A61, c61, rfl, _, _⟩ := own_slice hs (i := 0) rfl)
              | (guard_target = wpList _ _ _ (⟨some 64, .load _ _, _, _, _, _⟩ :: _) _ _; refine wpl (o := ⟨some 64, .load _ _, _, _, _, _⟩) rfl fun K hK => op_load rfl (ad := ⟨b8, 7, none⟩) rfl (by kernel_rfl) (hs.cell (l := rrCells (.slice As2 R'.D.secs.length cs2) (.slice Aa2 R'.D.row.length ca2) (.slice Ar2 R'.D.row.length cr2) R') (t := 75) (by (try dsimp only [List.set]); repeat (first | with_reducible exact List.mem_cons_self | with_reducible apply List.mem_cons_of_mem)) rfl) (hK _ _ ?_); clear hK K)
              | (guard_target = wpList _ _ _ (⟨some 65, .buildSlice _ _ _, _, _, _, _⟩ :: _) _ _; refine wpl (o := ⟨some 65, .buildSlice _ _ _, _, _, _, _⟩) rfl fun K hK => ?_; go_must (refine op_lit1 hs rfl Try.underlying65 info_u32 rfl (u32s [R'.next]) (by omega) rfl (u32s_one _) (by first | rfl | (simp [u32s, Act.eval, Act.put]; done) | (simp [u32s, Act.eval, Act.put]; rfl)) fun b65 w5 h => hK _ _ ?_); clear hs hK K; have hs := h; clear h; try dsimp only [List.set] at hs)
              | (guard_target = wpList _ _ _ (⟨some 66, .call _, _, _, _, _⟩ :: _) _ _; refine wpl (o := ⟨some 66, .call _, _, _, _, _⟩) rfl fun K hK => ?_; go_must (refine op_append (hs.pick (A := own (.slice A10 rl.length c10) 22 rl.length 1 (u32s (rl.map (·.2)))) (by repeat (first | with_reducible exact Pick.here | with_reducible apply Pick.there))) rfl Try.underlying65 Try.underlying65 info_u32 rfl (by omega) (k := 0) rfl rfl rfl (lit_slice 1 rfl 1 1 rfl (by omega)) (u32s_one _) (by omega) (by omega) fun v66 w6 h => hK _ _ ?_); clear hs hK K; have hs := h; clear h; dsimp only [List.set] at hs
                 obtain ⟨A66, c66, rfl, _, _⟩ := own_slice hs (i := 0) rfl))
            refine ⟨⟨k + 1, .slice As2 R'.D.secs.length cs2, .slice Aa2 R'.D.row.length ca2, .slice Ar2 R'.D.row.length cr2, by omega, by go_num, ?_⟩, by simp only [intOf]; omega⟩
            rw [hnew.out]
            have e1 : strs (rl.map (·.1)) ++ strs [c.rec_] = strs ((rl ++ [(c.rec_, R'.next)]).map (·.1)) := by simp [strs]
            have e2 : u32s (rl.map (·.2)) ++ u32s [R'.next] = u32s ((rl ++ [(c.rec_, R'.next)]).map (·.2)) := by simp [u32s]
            have e3 : rl.length + 1 = (rl ++ [(c.rec_, R'.next)]).length := by simp
            rw [e1, e2, e3] at hs
            rw [← e3] at hs ⊢
            exact hs.pack (by repeat (first | with_reducible exact Pack.refl | with_reducible exact Pack.nil | with_reducible refine Pack.cons (by repeat (first | with_reducible exact Pick.here | with_reducible apply Pick.there)) ?_ | with_reducible apply Pack.drop))
        · have hk1I : (c.kind == 1) = false := by simp [hk1]
          have hnew : Box (rgRun (l.take (k + 1)) = (R', rl)) := ⟨by rw [hSt.out]; simp [rgStep, hR', hk1]⟩
          go_wp2_with (first
            | (guard_target = wpList _ _ _ (⟨some 40, .load _ _, _, _, _, _⟩ :: _) _ _; refine wpl (o := ⟨some 40, .load _ _, _, _, _, _⟩) rfl fun K hK => op_load_agg rfl (b := b13) (i := 0) rfl (rrCells (.slice As2 R'.D.secs.length cs2) (.slice Aa2 R'.D.row.length ca2) (.slice Ar2 R'.D.row.length cr2) R') (range_whole hs m0) (by kernel_rfl) (by kernel_rfl) (hK _ _ ?_); clear hK K)
            | (guard_target = wpList _ _ _ (⟨none, .store _ (.tmp 8) _, _, _, _, _⟩ :: _) _ _; refine wpl (o := ⟨none, .store _ (.tmp 8) _, _, _, _, _⟩) rfl fun K hK => ?_; go_must (refine op_store_whole (hs.pick (A := row b8 (rrCells us ua ur R) 75) (by repeat (first | with_reducible exact Pick.here | with_reducible apply Pick.there))) (b := b8) rfl rfl (rrCells (.slice As2 R'.D.secs.length cs2) (.slice Aa2 R'.D.row.length ca2) (.slice Ar2 R'.D.row.length cr2) R') rfl (rri_one rfl rfl rfl _ _ _ _ _) (by kernel_rfl) (k := 0) rfl rfl fun w4 h => hK _ _ ?_); clear hs hK K; have hs := h; clear h; dsimp only [List.set] at hs
               have k45' : w4.cell? ⟨bd, od + k * 3, none⟩ = some (.int .i64 c.kind) := rold_range hs (by (try dsimp only [List.set]); repeat (first | exact hold | apply List.mem_cons_of_mem)) hrg (by simp [rdCells]) 0 _ rfl)
            | (guard_target = wpList _ _ _ (⟨some 45, .load _ _, _, _, _, _⟩ :: _) _ _; refine wpl (o := ⟨some 45, .load _ _, _, _, _, _⟩) rfl fun K hK => op_load rfl (ad := ⟨bd, od + k * 3, none⟩) rfl (by kernel_rfl) k45' (hK _ _ ?_); clear hK K))
          refine ⟨⟨k + 1, .slice As2 R'.D.secs.length cs2, .slice Aa2 R'.D.row.length ca2, .slice Ar2 R'.D.row.length cr2, by omega, by go_num, ?_⟩, by simp only [intOf]; omega⟩
          rw [hnew.out]
          exact hs.pack (by repeat (first | with_reducible exact Pack.refl | with_reducible exact Pack.nil | with_reducible refine Pack.cons (by repeat (first | with_reducible exact Pick.here | with_reducible apply Pick.there)) ?_ | with_reducible apply Pack.drop))
      · refine op_alloc hs rfl _ zrref zrCells rfl fun b13 w2 h => hK _ _ (cS _ _ h (by (try dsimp only [List.set]); repeat (first | with_reducible exact List.mem_cons_self | with_reducible apply List.mem_cons_of_mem)) (by (try dsimp only [List.set]); repeat (first | exact hold | apply List.mem_cons_of_mem))) ?_
        clear hs hK K
        have hs := h
        clear h
        try dsimp only [List.set] at hs
        try go_simp
        refine tree_one_yes (o := _) rfl rfl (fun K hK => ?_) (cS _ _ hs (by (try dsimp only [List.set]); repeat (first | with_reducible exact List.mem_cons_self | with_reducible apply List.mem_cons_of_mem)) (by (try dsimp only [List.set]); repeat (first | exact hold | apply List.mem_cons_of_mem)))
        try go_simp
        go_at_call 37
        refine (rgdo_spec W _ _ b1 br us ua ur (.slice Ab c.rec_.length cb) R ok c (((hs.pick (A := ref us ua ur R.D) (by repeat (first | with_reducible exact Pick.here | with_reducible apply Pick.there))).pick (A := rg br b1 R) (by repeat (first | with_reducible exact Pick.here | with_reducible apply Pick.there))).pick (A := disk b1 R.D) (by repeat (first | with_reducible exact Pick.here | with_reducible apply Pick.there))) (has_w (by (try dsimp only [List.set]); repeat (first | exact hold | apply List.mem_cons_of_mem)) hb) hc4 hrow7).mono ?_
        clear hs
        rintro e w5 ⟨vs2, va2, vr2, rfl, hs⟩
        generalize hR' : R.deed c = R' at hs
        obtain ⟨As2, cs2, rfl, _, _⟩ := slice_form (hs.slice (ref_secs (by (try dsimp only [List.set]); repeat (first | with_reducible exact List.mem_cons_self | with_reducible apply List.mem_cons_of_mem))))
        obtain ⟨Aa2, ca2, rfl, _, _⟩ := slice_form (hs.slice (ref_ats (by (try dsimp only [List.set]); repeat (first | with_reducible exact List.mem_cons_self | with_reducible apply List.mem_cons_of_mem))))
        obtain ⟨Ar2, cr2, rfl, _, _⟩ := slice_form (hs.slice (ref_row (by (try dsimp only [List.set]); repeat (first | with_reducible exact List.mem_cons_self | with_reducible apply List.mem_cons_of_mem))))
        try go_simp
        refine hK _ _ (cS _ _ hs (by (try dsimp only [List.set]); repeat (first | with_reducible exact List.mem_cons_self | with_reducible apply List.mem_cons_of_mem)) (by (try dsimp only [List.set]); repeat (first | exact hold | apply List.mem_cons_of_mem))) ?_
        clear hK K
        repeat (first
          | (with_reducible refine tree_load_agg (o := ⟨some 32, .load _ _, _, _, _, _⟩) (rrCells us ua ur R) rfl rfl rfl rfl ?_ ?_ r32 ?_; (kernel_rfl); (kernel_rfl))
          | (with_reducible refine tree_load_agg (o := ⟨some 36, .load _ _, _, _, _, _⟩) (rdCells c (.slice Ab c.rec_.length cb)) rfl rfl rfl rfl ?_ ?_ r36 ?_; (kernel_rfl); (kernel_rfl))
          | (refine tree_take rfl (fun K hK => ?_); go_simp; with_reducible refine hK _ ?_; clear hK K))
        refine tree_one_yes (o := _) rfl rfl (fun K hK => ?_) (cS _ _ hs (by (try dsimp only [List.set]); repeat (first | with_reducible exact List.mem_cons_self | with_reducible apply List.mem_cons_of_mem)) (by (try dsimp only [List.set]); repeat (first | exact hold | apply List.mem_cons_of_mem)))
        refine op_store_whole (hs.pick (A := row b13 zrCells 75) (by repeat (first | with_reducible exact Pick.here | with_reducible apply Pick.there))) rfl (b := b13) rfl (rrCells (.slice As2 R'.D.secs.length cs2) (.slice Aa2 R'.D.row.length ca2) (.slice Ar2 R'.D.row.length cr2) R') rfl (rri_one rfl rfl rfl _ _ _ _ _) (by kernel_rfl) (k := 0) rfl rfl fun w3 h => hK _ _ (cS _ _ h (by (try dsimp only [List.set]); repeat (first | with_reducible exact List.mem_cons_self | with_reducible apply List.mem_cons_of_mem)) (by (try dsimp only [List.set]); repeat (first | exact hold | apply List.mem_cons_of_mem))) ?_
        clear hs hK K
        have hs := h
        clear h
        try dsimp only [List.set] at hs
        try go_simp
        repeat (first
          | (with_reducible refine tree_load_agg (o := ⟨some 32, .load _ _, _, _, _, _⟩) (rrCells us ua ur R) rfl rfl rfl rfl ?_ ?_ r32 ?_; (kernel_rfl); (kernel_rfl))
          | (with_reducible refine tree_load_agg (o := ⟨some 36, .load _ _, _, _, _, _⟩) (rdCells c (.slice Ab c.rec_.length cb)) rfl rfl rfl rfl ?_ ?_ r36 ?_; (kernel_rfl); (kernel_rfl))
          | (refine tree_take rfl (fun K hK => ?_); go_simp; with_reducible refine hK _ ?_; clear hK K))
        refine tree_done ?_
        clear hq
        have k45 : w3.cell? ⟨bd, od + k * 3, none⟩ = some (.int .i64 c.kind) := rold_range hs (by (try dsimp only [List.set]); repeat (first | exact hold | apply List.mem_cons_of_mem)) hrg (by simp [rdCells]) 0 _ rfl
        have hb58 := rold_range hs (by (try dsimp only [List.set]); repeat (first | exact hold | apply List.mem_cons_of_mem)) hrg (by simp [rdCells]) 1 _ rfl
        have ok2 := ok'
        rw [hR'] at ok2
        have hnb := ok2.top
        have hnb1 := ok.top
        by_cases hk1 : c.kind = 1
        · have hk1I : (c.kind == 1) = true := by simp [hk1]
          by_cases hnx : R'.next = R.next
          · have hnxI : ((R'.next : Int) != (R.next : Int)) = false := by simp [hnx]
            have hnew : Box (rgRun (l.take (k + 1)) = (R', rl)) := ⟨by rw [hSt.out]; simp [rgStep, hR', hnx]⟩
            go_wp2_with (first
              | (guard_target = wpList _ _ _ (⟨some 40, .load _ _, _, _, _, _⟩ :: _) _ _; refine wpl (o := ⟨some 40, .load _ _, _, _, _, _⟩) rfl fun K hK => op_load_agg rfl (b := b13) (i := 0) rfl (rrCells (.slice As2 R'.D.secs.length cs2) (.slice Aa2 R'.D.row.length ca2) (.slice Ar2 R'.D.row.length cr2) R') (range_whole hs m0) (by kernel_rfl) (by kernel_rfl) (hK _ _ ?_); clear hK K)
              | (guard_target = wpList _ _ _ (⟨none, .store _ (.tmp 8) _, _, _, _, _⟩ :: _) _ _; refine wpl (o := ⟨none, .store _ (.tmp 8) _, _, _, _, _⟩) rfl fun K hK => ?_; go_must (refine op_store_whole (hs.pick (A := row b8 (rrCells us ua ur R) 75) (by repeat (first | with_reducible exact Pick.here | with_reducible apply Pick.there))) (b := b8) rfl rfl (rrCells (.slice As2 R'.D.secs.length cs2) (.slice Aa2 R'.D.row.length ca2) (.slice Ar2 R'.D.row.length cr2) R') rfl (rri_one rfl rfl rfl _ _ _ _ _) (by kernel_rfl) (k := 0) rfl rfl fun w4 h => hK _ _ ?_); clear hs hK K; have hs := h; clear h; dsimp only [List.set] at hs
                 have k45' : w4.cell? ⟨bd, od + k * 3, none⟩ = some (.int .i64 c.kind) := rold_range hs (by (try dsimp only [List.set]); repeat (first | exact hold | apply List.mem_cons_of_mem)) hrg (by simp [rdCells]) 0 _ rfl)
              | (guard_target = wpList _ _ _ (⟨some 45, .load _ _, _, _, _, _⟩ :: _) _ _; refine wpl (o := ⟨some 45, .load _ _, _, _, _, _⟩) rfl fun K hK => op_load rfl (ad := ⟨bd, od + k * 3, none⟩) rfl (by kernel_rfl) k45' (hK _ _ ?_); clear hK K)
              | (guard_target = wpList _ _ _ (⟨some 49, .load _ _, _, _, _, _⟩ :: _) _ _; refine wpl (o := ⟨some 49, .load _ _, _, _, _, _⟩) rfl fun K hK => op_load rfl (ad := ⟨b8, 7, none⟩) rfl (by kernel_rfl) (hs.cell m0 rfl) (hK _ _ ?_); clear hK K))
            refine ⟨⟨k + 1, .slice As2 R'.D.secs.length cs2, .slice Aa2 R'.D.row.length ca2, .slice Ar2 R'.D.row.length cr2, by omega, by go_num, ?_⟩, by simp only [intOf]; omega⟩
            rw [hnew.out]
            exact hs.pack (by repeat (first | with_reducible exact Pack.refl | with_reducible exact Pack.nil | with_reducible refine Pack.cons (by repeat (first | with_reducible exact Pick.here | with_reducible apply Pick.there)) ?_ | with_reducible apply Pack.drop))
          · have hnxI : ((R'.next : Int) != (R.next : Int)) = true := by simp; omega
            have hnew : Box (rgRun (l.take (k + 1)) = (R', rl ++ [(c.rec_, R'.next)])) := ⟨by rw [hSt.out]; simp [rgStep, hR', hnx, hk1]⟩
            go_wp2_with (first
              | (guard_target = wpList _ _ _ (⟨some 40, .load _ _, _, _, _, _⟩ :: _) _ _; refine wpl (o := ⟨some 40, .load _ _, _, _, _, _⟩) rfl fun K hK => op_load_agg rfl (b := b13) (i := 0) rfl (rrCells (.slice As2 R'.D.secs.length cs2) (.slice Aa2 R'.D.row.length ca2) (.slice Ar2 R'.D.row.length cr2) R') (range_whole hs m0) (by kernel_rfl) (by kernel_rfl) (hK _ _ ?_); clear hK K)
              | (guard_target = wpList _ _ _ (⟨none, .store _ (.tmp 8) _, _, _, _, _⟩ :: _) _ _; refine wpl (o := ⟨none, .store _ (.tmp 8) _, _, _, _, _⟩) rfl fun K hK => ?_; go_must (refine op_store_whole (hs.pick (A := row b8 (rrCells us ua ur R) 75) (by repeat (first | with_reducible exact Pick.here | with_reducible apply Pick.there))) (b := b8) rfl rfl (rrCells (.slice As2 R'.D.secs.length cs2) (.slice Aa2 R'.D.row.length ca2) (.slice Ar2 R'.D.row.length cr2) R') rfl (rri_one rfl rfl rfl _ _ _ _ _) (by kernel_rfl) (k := 0) rfl rfl fun w4 h => hK _ _ ?_); clear hs hK K; have hs := h; clear h; dsimp only [List.set] at hs
                 have k45' : w4.cell? ⟨bd, od + k * 3, none⟩ = some (.int .i64 c.kind) := rold_range hs (by (try dsimp only [List.set]); repeat (first | exact hold | apply List.mem_cons_of_mem)) hrg (by simp [rdCells]) 0 _ rfl
                 have k58' : w4.cell? ⟨bd, od + k * 3 + 1, none⟩ = some (.slice Ab c.rec_.length cb) := rold_range hs (by (try dsimp only [List.set]); repeat (first | exact hold | apply List.mem_cons_of_mem)) hrg (by simp [rdCells]) 1 _ rfl)
              | (guard_target = wpList _ _ _ (⟨some 45, .load _ _, _, _, _, _⟩ :: _) _ _; refine wpl (o := ⟨some 45, .load _ _, _, _, _, _⟩) rfl fun K hK => op_load rfl (ad := ⟨bd, od + k * 3, none⟩) rfl (by kernel_rfl) k45' (hK _ _ ?_); clear hK K)
              | (guard_target = wpList _ _ _ (⟨some 49, .load _ _, _, _, _, _⟩ :: _) _ _; refine wpl (o := ⟨some 49, .load _ _, _, _, _, _⟩) rfl fun K hK => op_load rfl (ad := ⟨b8, 7, none⟩) rfl (by kernel_rfl) (hs.cell m0 rfl) (hK _ _ ?_); clear hK K)
              | (guard_target = wpList _ _ _ (⟨some 58, .load _ _, _, _, _, _⟩ :: _) _ _; refine wpl (o := ⟨some 58, .load _ _, _, _, _, _⟩) rfl fun K hK => op_load rfl (ad := ⟨bd, od + k * 3 + 1, none⟩) rfl (by kernel_rfl) k58' (hK _ _ ?_); clear hK K)
              | (guard_target = wpList _ _ _ (⟨some 59, .convert _ _ _, _, _, _, _⟩ :: _) _ _; refine wpl (o := ⟨some 59, .convert _ _ _, _, _, _, _⟩) rfl fun K hK => ?_; go_must (refine op_to_string rfl Try.underlying23 Try.underlying5 Try.underlying9 rfl (hs.bytes (has_w (by (try dsimp only [List.set]); repeat (first | exact hold | apply List.mem_cons_of_mem)) hb)) (hK _ _ ?_)); clear hK K)
              | (guard_target = wpList _ _ _ (⟨some 60, .buildSlice _ _ _, _, _, _, _⟩ :: _) _ _; refine wpl (o := ⟨some 60, .buildSlice _ _ _, _, _, _, _⟩) rfl fun K hK => ?_; go_must (refine op_lit1 hs rfl Try.underlying64 info_str rfl (strs [c.rec_]) (by omega) rfl (strs_one _) (by first | rfl | (simp [strs, str, Act.eval, Act.put]; done) | (simp [strs, str, Act.eval, Act.put]; rfl)) fun b60 w5 h => hK _ _ ?_); clear hs hK K; have hs := h; clear h; try dsimp only [List.set] at hs)
              | (guard_target = wpList _ _ _ (⟨some 61, .call _, _, _, _, _⟩ :: _) _ _; refine wpl (o := ⟨some 61, .call _, _, _, _, _⟩) rfl fun K hK => ?_; go_must (refine op_append (hs.pick (A := own (.slice A9 rl.length c9) 9 rl.length 1 (strs (rl.map (·.1)))) (by repeat (first | with_reducible exact Pick.here | with_reducible apply Pick.there))) rfl Try.underlying64 Try.underlying64 info_str rfl (by omega) (k := 0) rfl rfl rfl (lit_slice 1 rfl 1 1 rfl (by omega)) (strs_one _) (by omega) (by omega) fun v61 w6 h => hK _ _ ?_); clear hs hK K; have hs := h; clear h; dsimp only [List.set] at hs
                 obtain ⟨A61, c61, rfl, _, _⟩ := own_slice hs (i := 0) rfl)
              | (guard_target = wpList _ _ _ (⟨some 64, .load _ _, _, _, _, _⟩ :: _) _ _; refine wpl (o := ⟨some 64, .load _ _, _, _, _, _⟩) rfl fun K hK => op_load rfl (ad := ⟨b8, 7, none⟩) rfl (by kernel_rfl) (hs.cell (l := rrCells (.slice As2 R'.D.secs.length cs2) (.slice Aa2 R'.D.row.length ca2) (.slice Ar2 R'.D.row.length cr2) R') (t := 75) (by (try dsimp only [List.set]); repeat (first | with_reducible exact List.mem_cons_self | with_reducible apply List.mem_cons_of_mem)) rfl) (hK _ _ ?_); clear hK K)
              | (guard_target = wpList _ _ _ (⟨some 65, .buildSlice _ _ _, _, _, _, _⟩ :: _) _ _; refine wpl (o := ⟨some 65, .buildSlice _ _ _, _, _, _, _⟩) rfl fun K hK => ?_; go_must (refine op_lit1 hs rfl Try.underlying65 info_u32 rfl (u32s [R'.next]) (by omega) rfl (u32s_one _) (by first | rfl | (simp [u32s, Act.eval, Act.put]; done) | (simp [u32s, Act.eval, Act.put]; rfl)) fun b65 w5 h => hK _ _ ?_); clear hs hK K; have hs := h; clear h; try dsimp only [List.set] at hs)
              | (guard_target = wpList _ _ _ (⟨some 66, .call _, _, _, _, _⟩ :: _) _ _; refine wpl (o := ⟨some 66, .call _, _, _, _, _⟩) rfl fun K hK => ?_; go_must (refine op_append (hs.pick (A := own (.slice A10 rl.length c10) 22 rl.length 1 (u32s (rl.map (·.2)))) (by repeat (first | with_reducible exact Pick.here | with_reducible apply Pick.there))) rfl Try.underlying65 Try.underlying65 info_u32 rfl (by omega) (k := 0) rfl rfl rfl (lit_slice 1 rfl 1 1 rfl (by omega)) (u32s_one _) (by omega) (by omega) fun v66 w6 h => hK _ _ ?_); clear hs hK K; have hs := h; clear h; dsimp only [List.set] at hs
                 obtain ⟨A66, c66, rfl, _, _⟩ := own_slice hs (i := 0) rfl))
            refine ⟨⟨k + 1, .slice As2 R'.D.secs.length cs2, .slice Aa2 R'.D.row.length ca2, .slice Ar2 R'.D.row.length cr2, by omega, by go_num, ?_⟩, by simp only [intOf]; omega⟩
            rw [hnew.out]
            have e1 : strs (rl.map (·.1)) ++ strs [c.rec_] = strs ((rl ++ [(c.rec_, R'.next)]).map (·.1)) := by simp [strs]
            have e2 : u32s (rl.map (·.2)) ++ u32s [R'.next] = u32s ((rl ++ [(c.rec_, R'.next)]).map (·.2)) := by simp [u32s]
            have e3 : rl.length + 1 = (rl ++ [(c.rec_, R'.next)]).length := by simp
            rw [e1, e2, e3] at hs
            rw [← e3] at hs ⊢
            exact hs.pack (by repeat (first | with_reducible exact Pack.refl | with_reducible exact Pack.nil | with_reducible refine Pack.cons (by repeat (first | with_reducible exact Pick.here | with_reducible apply Pick.there)) ?_ | with_reducible apply Pack.drop))
        · have hk1I : (c.kind == 1) = false := by simp [hk1]
          have hnew : Box (rgRun (l.take (k + 1)) = (R', rl)) := ⟨by rw [hSt.out]; simp [rgStep, hR', hk1]⟩
          go_wp2_with (first
            | (guard_target = wpList _ _ _ (⟨some 40, .load _ _, _, _, _, _⟩ :: _) _ _; refine wpl (o := ⟨some 40, .load _ _, _, _, _, _⟩) rfl fun K hK => op_load_agg rfl (b := b13) (i := 0) rfl (rrCells (.slice As2 R'.D.secs.length cs2) (.slice Aa2 R'.D.row.length ca2) (.slice Ar2 R'.D.row.length cr2) R') (range_whole hs m0) (by kernel_rfl) (by kernel_rfl) (hK _ _ ?_); clear hK K)
            | (guard_target = wpList _ _ _ (⟨none, .store _ (.tmp 8) _, _, _, _, _⟩ :: _) _ _; refine wpl (o := ⟨none, .store _ (.tmp 8) _, _, _, _, _⟩) rfl fun K hK => ?_; go_must (refine op_store_whole (hs.pick (A := row b8 (rrCells us ua ur R) 75) (by repeat (first | with_reducible exact Pick.here | with_reducible apply Pick.there))) (b := b8) rfl rfl (rrCells (.slice As2 R'.D.secs.length cs2) (.slice Aa2 R'.D.row.length ca2) (.slice Ar2 R'.D.row.length cr2) R') rfl (rri_one rfl rfl rfl _ _ _ _ _) (by kernel_rfl) (k := 0) rfl rfl fun w4 h => hK _ _ ?_); clear hs hK K; have hs := h; clear h; dsimp only [List.set] at hs
               have k45' : w4.cell? ⟨bd, od + k * 3, none⟩ = some (.int .i64 c.kind) := rold_range hs (by (try dsimp only [List.set]); repeat (first | exact hold | apply List.mem_cons_of_mem)) hrg (by simp [rdCells]) 0 _ rfl)
            | (guard_target = wpList _ _ _ (⟨some 45, .load _ _, _, _, _, _⟩ :: _) _ _; refine wpl (o := ⟨some 45, .load _ _, _, _, _, _⟩) rfl fun K hK => op_load rfl (ad := ⟨bd, od + k * 3, none⟩) rfl (by kernel_rfl) k45' (hK _ _ ?_); clear hK K))
          refine ⟨⟨k + 1, .slice As2 R'.D.secs.length cs2, .slice Aa2 R'.D.row.length ca2, .slice Ar2 R'.D.row.length cr2, by omega, by go_num, ?_⟩, by simp only [intOf]; omega⟩
          rw [hnew.out]
          exact hs.pack (by repeat (first | with_reducible exact Pack.refl | with_reducible exact Pack.nil | with_reducible refine Pack.cons (by repeat (first | with_reducible exact Pick.here | with_reducible apply Pick.there)) ?_ | with_reducible apply Pack.drop))
    · have hltI : ¬ (k : Int) < (l.length : Int) := by omega
      have hE := Box.mk (HF.out (by omega))
      go_wp2_with fail
      (try simp only [Exit.inBlock, Exit.then])
      refine bodyPost_ret (res_tmp4 rfl _ _ _) rfl ?_
      refine ⟨b1, br, .slice A9 rl.length c9, .slice A10 rl.length c10, rfl, ?_⟩
      rw [← hE.out]
      dsimp only
      exact hs.pack (by repeat (first | with_reducible exact Pack.refl | with_reducible exact Pack.nil | with_reducible refine Pack.cons (by repeat (first | with_reducible exact Pick.here | with_reducible apply Pick.there)) ?_ | with_reducible apply Pack.drop))
end Go.Proofs.Ytoedmjibhpajjaa
