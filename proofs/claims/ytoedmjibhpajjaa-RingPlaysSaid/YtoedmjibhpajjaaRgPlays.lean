/- The walk of the law RingPlays. -/
import Derived.Test.YtoedmjibhpajjaaRgPlaysA
set_option linter.unusedVariables false
set_option linter.unusedSimpArgs false
namespace Go.Proofs.Ytoedmjibhpajjaa
open Go.RowKit
set_option maxRecDepth 100000 in
set_option maxHeartbeats 8000000 in
theorem ringPlays_all (W w : World) (L : List HP) (hs : Sat W w L) (hold : old W ∈ L) (f m epoch low next : Nat) (hep : epoch < 4294967296) (hlow : low < 4294967296) (hnext : next < 4294967296) (hyes : RgMay 12 (f : Nat) (m : Nat) low next) (v : Value) (l : List RDeed) (h : rdeedsAt v l (hp W)) (hsm : Small l) :
    Calls Try.prog 12 #[.agg (startCells (f : Nat) (m : Nat) epoch low next).toArray, v] w fun e w' => e = .returned (.bool true) ∧ Sat W w' L := by
  obtain ⟨D0, hD0⟩ : ∃ D0, Dk.new 12 = D0 := ⟨_, rfl⟩
  have h12 : D0.secs.length = 12 := by rw [← hD0]; simp [Dk.new]
  have hr0 : D0.row.length = 0 := by rw [← hD0]; rfl
  have hD12 : D0.secs.length ≤ 1024 := by omega
  have HD0 := Box.mk (And.intro hD0 (And.intro h12 hr0))
  obtain ⟨A, cap, rfl, _, _, _⟩ := rdeeds_form h
  have hyD : RgMay D0.secs.length (f : Nat) (m : Nat) low next := by rw [h12]; exact hyes
  have hB := Box.mk ((rmayB_iff D0.secs.length hD12 _ _ _ _).2 hyD)
  have hYES := Box.mk hyD
  have hF := Box.mk ((fewB_iff l).2 hsm)
  have okR : (⟨D0, f, m, epoch, low, next⟩ : Rg).Ok := by
    obtain ⟨g1, g2, g3, g4, g5, g6⟩ := hyes
    exact ⟨by rw [← hD0]; exact Dk.new_ok (by omega), by show 1 ≤ m; omega, by show f + m ≤ D0.secs.length; omega, hep, g4, by show next - low ≤ m; omega, g6⟩
  have hINV := Box.mk (rgPlay_inv ⟨D0, f, m, epoch, low, next⟩ okR h12 hr0 l hsm)
  clear hyes hyD h12 hr0 hD0 okR
  have cS : ∀ w b2 M, Sat W w M → row b2 (startCells (f : Nat) (m : Nat) epoch low next) 50 ∈ M → rngS b2 (startCells (f : Nat) (m : Nat) epoch low next) w := fun w b2 M h hm => range_whole h hm
  have d0 : ∀ b2 w, rngS b2 (startCells (f : Nat) (m : Nat) epoch low next) w → w.cell? ⟨b2, 0, none⟩ = some (.int .i64 (f : Nat)) := fun b2 w h => h 0 _ rfl
  have d1 : ∀ b2 w, rngS b2 (startCells (f : Nat) (m : Nat) epoch low next) w → w.cell? ⟨b2, 1, none⟩ = some (.int .i64 (m : Nat)) := fun b2 w h => h 1 _ rfl
  have d2 : ∀ b2 w, rngS b2 (startCells (f : Nat) (m : Nat) epoch low next) w → w.cell? ⟨b2, 2, none⟩ = some (.int .u32 (epoch : Nat)) := fun b2 w h => h 2 _ rfl
  have d3 : ∀ b2 w, rngS b2 (startCells (f : Nat) (m : Nat) epoch low next) w → w.cell? ⟨b2, 3, none⟩ = some (.int .u32 (low : Nat)) := fun b2 w h => h 3 _ rfl
  have d4 : ∀ b2 w, rngS b2 (startCells (f : Nat) (m : Nat) epoch low next) w → w.cell? ⟨b2, 4, none⟩ = some (.int .u32 (next : Nat)) := fun b2 w h => h 4 _ rfl
  go_enter Try.func12, Try.ntmps12
  go_wp2_with (first
    | (guard_target = wpList _ _ _ (⟨some 2, .box _ _, _, _, _, _⟩ :: _) _ _; refine wpl (o := ⟨some 2, .box _ _, _, _, _, _⟩) rfl fun K hK => ?_; go_must (refine op_box hs rfl _ rfl (startCells (f : Nat) (m : Nat) epoch low next) rfl fun b2 w1 h => hK _ _ ?_); clear hs hK K; have hs := h; clear h; try dsimp only [List.set] at hs)
    | (go_at_call 23; go_must (refine (awake6_spec W _ _ hs).mono ?_); clear hs; rintro e w1 ⟨rfl, hs⟩)
    | (go_at_call 26; go_must (refine (new_spec W _ _ hs 12 (by omega) (by omega)).mono ?_); clear hs; rintro e w1 ⟨b1, rfl, hs⟩; rw [HD0.out.1] at hs)
    | (guard_target = wpList _ _ _ (⟨some 21, .load _ _, _, _, _, _⟩ :: _) _ _; refine wpl (o := ⟨some 21, .load _ _, _, _, _, _⟩) rfl fun K hK => op_load_agg rfl (b := b2) (i := 0) rfl (place (f : Nat) (m : Nat) epoch) (range_prefix (l := (startCells (f : Nat) (m : Nat) epoch low next)) (t := 50) hs (place (f : Nat) (m : Nat) epoch) _ (show (startCells (f : Nat) (m : Nat) epoch low next) = place (f : Nat) (m : Nat) epoch ++ _ from rfl) (by (try dsimp only [List.set]); repeat (first | with_reducible exact List.mem_cons_self | with_reducible apply List.mem_cons_of_mem))) (by kernel_rfl) (by kernel_rfl) (hK _ _ ?_); clear hK K)
    | (guard_target = wpList _ _ _ (⟨some 23, .load _ _, _, _, _, _⟩ :: _) _ _; refine wpl (o := ⟨some 23, .load _ _, _, _, _, _⟩) rfl fun K hK => op_load rfl (ad := ⟨b2, 3, none⟩) rfl (by kernel_rfl) (hs.cell (l := (startCells (f : Nat) (m : Nat) epoch low next)) (t := 50) (by (try dsimp only [List.set]); repeat (first | with_reducible exact List.mem_cons_self | with_reducible apply List.mem_cons_of_mem)) rfl) (hK _ _ ?_); clear hK K)
    | (guard_target = wpList _ _ _ (⟨some 25, .load _ _, _, _, _, _⟩ :: _) _ _; refine wpl (o := ⟨some 25, .load _ _, _, _, _, _⟩) rfl fun K hK => op_load rfl (ad := ⟨b2, 4, none⟩) rfl (by kernel_rfl) (hs.cell (l := (startCells (f : Nat) (m : Nat) epoch low next)) (t := 50) (by (try dsimp only [List.set]); repeat (first | with_reducible exact List.mem_cons_self | with_reducible apply List.mem_cons_of_mem)) rfl) (hK _ _ ?_); clear hK K)
    | (go_at_call 27; go_must (refine (rgnew_some W _ _ b1 D0 hs f m epoch low next hep hYES.out).mono ?_); clear hs; rintro e w1 ⟨br, rfl, hs⟩))
  have hS0 := cS _ _ _ hs.drew (by (try dsimp only [List.set]); repeat (first | with_reducible exact List.mem_cons_self | with_reducible apply List.mem_cons_of_mem))
  refine wp_region_tree (rngS b2 (startCells (f : Nat) (m : Nat) epoch low next)) (.take 1 (.take 2 (.take 3 (.take 4 (.take 5 (.take 6 (.take 7 (.take 8 (.take 9 (.take 10 (.take 11 (.take 12 (.take 13 (.all [(0, .take 14 (.all [(15, .all [(16, DTree.done)])])), (15, .all [(0, .take 14 (.all [(16, DTree.done)]))])])))))))))))))) (by kernel_rfl) (by kernel_rfl) (by kernel_rfl) (fun _ _ d _ _ h => by cases d <;> exact h) hS0 ?_
  have hs' := hs.drew
  clear hs
  have hs := hs'
  clear hs'
  have hq := fun p : Prop => class_const hS0 p
  clear hS0
  repeat (first
    | (with_reducible refine tree_load (o := ⟨some 30, .load _ _, _, _, _, _⟩) rfl rfl rfl rfl rfl (d0 b2) ?_)
    | (with_reducible refine tree_load (o := ⟨some 33, .load _ _, _, _, _, _⟩) rfl rfl rfl rfl rfl (d1 b2) ?_)
    | (with_reducible refine tree_load (o := ⟨some 36, .load _ _, _, _, _, _⟩) rfl rfl rfl rfl rfl (d2 b2) ?_)
    | (with_reducible refine tree_load (o := ⟨some 38, .load _ _, _, _, _, _⟩) rfl rfl rfl rfl rfl (d3 b2) ?_)
    | (with_reducible refine tree_load (o := ⟨some 40, .load _ _, _, _, _, _⟩) rfl rfl rfl rfl rfl (d4 b2) ?_)
    | (refine tree_take rfl (fun K hK => ?_); go_simp; with_reducible refine hK _ ?_; clear hK K))
  refine tree_all (trees_cons_yes (o := _) rfl rfl (fun K hK => ?_) (cS _ _ _ hs (by (try dsimp only [List.set]); repeat (first | with_reducible exact List.mem_cons_self | with_reducible apply List.mem_cons_of_mem))) (trees_cons_yes (o := _) rfl rfl (fun K hK => ?_) (cS _ _ _ hs (by (try dsimp only [List.set]); repeat (first | with_reducible exact List.mem_cons_self | with_reducible apply List.mem_cons_of_mem))) trees_nil))
  · try go_simp
    go_at_call 35
    refine (rnew_spec W _ _ hs 12 (by omega)).mono ?_
    clear hs
    rintro e w5 ⟨vs, va, vr, rfl, hs⟩
    rw [HD0.out.1] at hs
    obtain ⟨As, cs, rfl, _, _⟩ := slice_form (hs.slice (ref_secs m0))
    obtain ⟨Aa, ca, rfl, _, _⟩ := slice_form (hs.slice (ref_ats m0))
    obtain ⟨Ar, cr, rfl, _, _⟩ := slice_form (hs.slice (ref_row m0))
    try go_simp
    refine hK _ _ (cS _ _ _ hs (by (try dsimp only [List.set]); repeat (first | with_reducible exact List.mem_cons_self | with_reducible apply List.mem_cons_of_mem))) ?_
    clear hK K
    repeat (first
      | (with_reducible refine tree_load (o := ⟨some 30, .load _ _, _, _, _, _⟩) rfl rfl rfl rfl rfl (d0 b2) ?_)
      | (with_reducible refine tree_load (o := ⟨some 33, .load _ _, _, _, _, _⟩) rfl rfl rfl rfl rfl (d1 b2) ?_)
      | (with_reducible refine tree_load (o := ⟨some 36, .load _ _, _, _, _, _⟩) rfl rfl rfl rfl rfl (d2 b2) ?_)
      | (with_reducible refine tree_load (o := ⟨some 38, .load _ _, _, _, _, _⟩) rfl rfl rfl rfl rfl (d3 b2) ?_)
      | (with_reducible refine tree_load (o := ⟨some 40, .load _ _, _, _, _, _⟩) rfl rfl rfl rfl rfl (d4 b2) ?_)
      | (refine tree_take rfl (fun K hK => ?_); go_simp; with_reducible refine hK _ ?_; clear hK K))
    refine tree_one_yes (o := _) rfl rfl (fun K hK => ?_) (cS _ _ _ hs (by (try dsimp only [List.set]); repeat (first | with_reducible exact List.mem_cons_self | with_reducible apply List.mem_cons_of_mem)))
    refine op_alloc hs rfl _ zrref zrCells rfl fun b8 w2 h => hK _ _ (cS _ _ _ h (by (try dsimp only [List.set]); repeat (first | with_reducible exact List.mem_cons_self | with_reducible apply List.mem_cons_of_mem))) ?_
    clear hs hK K
    have hs := h
    clear h
    try dsimp only [List.set] at hs
    try go_simp
    refine tree_one_yes (o := _) rfl rfl (fun K hK => ?_) (cS _ _ _ hs (by (try dsimp only [List.set]); repeat (first | with_reducible exact List.mem_cons_self | with_reducible apply List.mem_cons_of_mem)))
    refine op_store_whole (hs.pick (A := row b8 zrCells 75) (by repeat (first | with_reducible exact Pick.here | with_reducible apply Pick.there))) rfl (b := b8) rfl (rriCells (.slice As D0.secs.length cs) (.slice Aa D0.row.length ca) (.slice Ar D0.row.length cr) (f : Nat) (m : Nat) epoch low next) rfl (rri_one rfl rfl rfl _ _ _ _ _) (by kernel_rfl) (k := 0) rfl rfl fun w3 h => hK _ _ (cS _ _ _ h (by (try dsimp only [List.set]); repeat (first | with_reducible exact List.mem_cons_self | with_reducible apply List.mem_cons_of_mem))) ?_
    clear hs hK K
    have hs := h
    clear h
    try dsimp only [List.set] at hs
    try go_simp
    refine tree_done ?_
    clear hq
    go_wp2_with (first
      | (guard_target = wpList _ _ _ (⟨some 47, .load _ _, _, _, _, _⟩ :: _) _ _; refine wpl (o := ⟨some 47, .load _ _, _, _, _, _⟩) rfl fun K hK => op_load_agg rfl (b := b8) (i := 0) rfl (rriCells (.slice As D0.secs.length cs) (.slice Aa D0.row.length ca) (.slice Ar D0.row.length cr) (f : Nat) (m : Nat) epoch low next) (range_whole hs (by (try dsimp only [List.set]); repeat (first | with_reducible exact List.mem_cons_self | with_reducible apply List.mem_cons_of_mem))) (by kernel_rfl) (by kernel_rfl) (hK _ _ ?_); clear hK K)
      | (go_at_call 36; go_must (refine (rmay_spec W _ _ hs As D0.secs.length cs _ _ (f : Nat) (m : Nat) epoch low next hlow hnext hD12).mono ?_); clear hs; rintro e w1 ⟨rfl, hs⟩; rw [hB.out])
      | (go_at_call 32; go_must (refine (rfew_spec W _ _ hs (by (try dsimp only [List.set]); repeat (first | exact hold | apply List.mem_cons_of_mem)) _ l h).mono ?_); clear hs; rintro e w1 ⟨rfl, hs⟩; rw [hF.out]))
    have hs1 := hs.pack (L := row b8 (rrCells (.slice As D0.secs.length cs) (.slice Aa D0.row.length ca) (.slice Ar D0.row.length cr) (rgPlay ⟨D0, f, m, epoch, low, next⟩ (l.take 0))) 75 :: disk b1 (rgPlay ⟨D0, f, m, epoch, low, next⟩ (l.take 0)).D :: rg br b1 (rgPlay ⟨D0, f, m, epoch, low, next⟩ (l.take 0)) :: ref (.slice As D0.secs.length cs) (.slice Aa D0.row.length ca) (.slice Ar D0.row.length cr) (rgPlay ⟨D0, f, m, epoch, low, next⟩ (l.take 0)).D :: L) (by
      rw [show rgPlay ⟨D0, f, m, epoch, low, next⟩ (l.take 0) = ⟨D0, f, m, epoch, low, next⟩ from rfl]
      unfold rrCells
      exact (by repeat (first | with_reducible exact Pack.refl | with_reducible exact Pack.nil | with_reducible refine Pack.cons (by repeat (first | with_reducible exact Pick.here | with_reducible apply Pick.there)) ?_ | with_reducible apply Pack.drop)))
    clear hs
    have hs := hs1
    clear hs1
    go_loopw [9] (fun v9 wr => ∃ (k : Nat) (us ua ur : Value), k ≤ l.length ∧ v9 = .int .i64 (k : Nat) ∧ Sat W wr (row b8 (rrCells us ua ur (rgPlay ⟨D0, f, m, epoch, low, next⟩ (l.take k))) 75 :: disk b1 (rgPlay ⟨D0, f, m, epoch, low, next⟩ (l.take k)).D :: rg br b1 (rgPlay ⟨D0, f, m, epoch, low, next⟩ (l.take k)) :: ref us ua ur (rgPlay ⟨D0, f, m, epoch, low, next⟩ (l.take k)).D :: L)) (fun v9 _ => l.length - (intOf v9).toNat)
    case atStart => exact ⟨0, _, _, _, by omega, rfl, hs⟩
    case round =>
      clear hs
      obtain ⟨k, us, ua, ur, hk, rfl, hs⟩ := hrel
      have hsn := fun h => rgPlay_snoc ⟨D0, f, m, epoch, low, next⟩ l k h
      obtain ⟨ok, hsz, hrow⟩ := hINV.out k hk
      have HSZ := Box.mk hsz
      clear hsz
      generalize hst : rgPlay ⟨D0, f, m, epoch, low, next⟩ (l.take k) = R at *
      have HS := Box.mk hsn
      clear hsn hst
      obtain ⟨As1, cs1, rfl, _, _⟩ := slice_form (hs.slice (ref_secs (by (try dsimp only [List.set]); repeat (first | with_reducible exact List.mem_cons_self | with_reducible apply List.mem_cons_of_mem))))
      obtain ⟨Aa1, ca1, rfl, _, _⟩ := slice_form (hs.slice (ref_ats (by (try dsimp only [List.set]); repeat (first | with_reducible exact List.mem_cons_self | with_reducible apply List.mem_cons_of_mem))))
      obtain ⟨Ar1, cr1, rfl, _, _⟩ := slice_form (hs.slice (ref_row (by (try dsimp only [List.set]); repeat (first | with_reducible exact List.mem_cons_self | with_reducible apply List.mem_cons_of_mem))))
      by_cases hlt : k < l.length
      · have hltI : (k : Int) < (l.length : Int) := by omega
        have hk30 : k < 30 := by have := hsm.1; omega
        generalize Value.slice As1 R.D.secs.length cs1 = us at hs
        generalize Value.slice Aa1 R.D.row.length ca1 = ua at hs
        generalize Value.slice Ar1 R.D.row.length cr1 = ur at hs
        obtain ⟨bd, od, cd, vb, e, hrg, hb⟩ := rdeeds_old h k hlt
        cases e
        have hS := HS.out hlt
        have hc4 := hsm.2 l[k] (List.getElem_mem hlt)
        have ok' := Rg.deed_ok ok l[k]
        generalize l[k] = c at hrg hb hS hc4 ok'
        obtain ⟨Ab, cb, rfl, _, _⟩ := slice_form (hs.slice (has_w (by (try dsimp only [List.set]); repeat (first | exact hold | apply List.mem_cons_of_mem)) hb))
        have hSt := Box.mk hS
        clear hS
        have cS : ∀ w M, Sat W w M → row b8 (rrCells us ua ur R) 75 ∈ M → old W ∈ M → runS7 b8 (rrCells us ua ur R) bd (od + k * 3) (rdCells c (.slice Ab c.rec_.length cb)) w := fun w M h hm ho => ⟨range_whole h hm, rold_range h ho hrg (by simp [rdCells])⟩
        have r32 : ∀ w, runS7 b8 (rrCells us ua ur R) bd (od + k * 3) (rdCells c (.slice Ab c.rec_.length cb)) w → w.rangeAt b8 0 (rrCells us ua ur R) := fun w h => h.1
        have r36 : ∀ w, runS7 b8 (rrCells us ua ur R) bd (od + k * 3) (rdCells c (.slice Ab c.rec_.length cb)) w → w.rangeAt bd (od + k * 3) (rdCells c (.slice Ab c.rec_.length cb)) := fun w h => h.2
        have hrow7 : R.D.row.length ≤ 700000 := by omega
        go_wp2_with fail
        have hS0 := cS _ _ hs.drew (by (try dsimp only [List.set]); repeat (first | with_reducible exact List.mem_cons_self | with_reducible apply List.mem_cons_of_mem)) (by (try dsimp only [List.set]); repeat (first | exact hold | apply List.mem_cons_of_mem))
        refine wp_region_tree (runS7 b8 (rrCells us ua ur R) bd (od + k * 3) (rdCells c (.slice Ab c.rec_.length cb))) (.take 0 (.take 1 (.take 2 (.take 3 (.take 4 (.take 5 (.take 6 (.all [(7, .take 8 (.take 9 (.take 10 (.all [(11, .all [(12, .take 13 (DTree.done))])])))), (11, .all [(7, .take 8 (.take 9 (.take 10 (.all [(12, .take 13 (DTree.done))]))))])])))))))) (by kernel_rfl) (by kernel_rfl) (by kernel_rfl) (fun _ _ d _ _ h => by cases d <;> exact h) hS0 ?_
        have hs' := hs.drew
        clear hs
        have hs := hs'
        clear hs'
        have hq := fun p : Prop => class_const hS0 p
        clear hS0
        repeat (first
          | (with_reducible refine tree_load_agg (o := ⟨some 69, .load _ _, _, _, _, _⟩) (rrCells us ua ur R) rfl rfl rfl rfl ?_ ?_ r32 ?_; (kernel_rfl); (kernel_rfl))
          | (with_reducible refine tree_load_agg (o := ⟨some 73, .load _ _, _, _, _, _⟩) (rdCells c (.slice Ab c.rec_.length cb)) rfl rfl rfl rfl ?_ ?_ r36 ?_; (kernel_rfl); (kernel_rfl))
          | (refine tree_take rfl (fun K hK => ?_); go_simp; with_reducible refine hK _ ?_; clear hK K))
        refine tree_all (trees_cons_yes (o := _) rfl rfl (fun K hK => ?_) (cS _ _ hs (by (try dsimp only [List.set]); repeat (first | with_reducible exact List.mem_cons_self | with_reducible apply List.mem_cons_of_mem)) (by (try dsimp only [List.set]); repeat (first | exact hold | apply List.mem_cons_of_mem))) (trees_cons_yes (o := _) rfl rfl (fun K hK => ?_) (cS _ _ hs (by (try dsimp only [List.set]); repeat (first | with_reducible exact List.mem_cons_self | with_reducible apply List.mem_cons_of_mem)) (by (try dsimp only [List.set]); repeat (first | exact hold | apply List.mem_cons_of_mem))) trees_nil))
        · try go_simp
          go_at_call 37
          refine (rgdo_spec W _ _ b1 br us ua ur (.slice Ab c.rec_.length cb) R ok c (((hs.pick (A := ref us ua ur R.D) (by repeat (first | with_reducible exact Pick.here | with_reducible apply Pick.there))).pick (A := rg br b1 R) (by repeat (first | with_reducible exact Pick.here | with_reducible apply Pick.there))).pick (A := disk b1 R.D) (by repeat (first | with_reducible exact Pick.here | with_reducible apply Pick.there))) (has_w (by (try dsimp only [List.set]); repeat (first | exact hold | apply List.mem_cons_of_mem)) hb) hc4 hrow7).mono ?_
          clear hs
          rintro e w5 ⟨vs2, va2, vr2, rfl, hs⟩
          generalize hR' : R.deed c = R' at hs
          obtain ⟨As2, cs2, rfl, _, _⟩ := slice_form (hs.slice (ref_secs (by (try dsimp only [List.set]); repeat (first | with_reducible exact List.mem_cons_self | with_reducible apply List.mem_cons_of_mem))))
          obtain ⟨Aa2, ca2, rfl, _, _⟩ := slice_form (hs.slice (ref_ats (by (try dsimp only [List.set]); repeat (first | with_reducible exact List.mem_cons_self | with_reducible apply List.mem_cons_of_mem))))
          obtain ⟨Ar2, cr2, rfl, _, _⟩ := slice_form (hs.slice (ref_row (by (try dsimp only [List.set]); repeat (first | with_reducible exact List.mem_cons_self | with_reducible apply List.mem_cons_of_mem))))
          try go_simp
          refine hK _ _ (cS _ _ hs (by (try dsimp only [List.set]); repeat (first | with_reducible exact List.mem_cons_self | with_reducible apply List.mem_cons_of_mem)) (by (try dsimp only [List.set]); repeat (first | exact hold | apply List.mem_cons_of_mem))) ?_
          clear hK K
          repeat (first
            | (with_reducible refine tree_load_agg (o := ⟨some 69, .load _ _, _, _, _, _⟩) (rrCells us ua ur R) rfl rfl rfl rfl ?_ ?_ r32 ?_; (kernel_rfl); (kernel_rfl))
            | (with_reducible refine tree_load_agg (o := ⟨some 73, .load _ _, _, _, _, _⟩) (rdCells c (.slice Ab c.rec_.length cb)) rfl rfl rfl rfl ?_ ?_ r36 ?_; (kernel_rfl); (kernel_rfl))
            | (refine tree_take rfl (fun K hK => ?_); go_simp; with_reducible refine hK _ ?_; clear hK K))
          refine tree_one_yes (o := _) rfl rfl (fun K hK => ?_) (cS _ _ hs (by (try dsimp only [List.set]); repeat (first | with_reducible exact List.mem_cons_self | with_reducible apply List.mem_cons_of_mem)) (by (try dsimp only [List.set]); repeat (first | exact hold | apply List.mem_cons_of_mem)))
          refine op_alloc hs rfl _ zrref zrCells rfl fun b13 w2 h => hK _ _ (cS _ _ h (by (try dsimp only [List.set]); repeat (first | with_reducible exact List.mem_cons_self | with_reducible apply List.mem_cons_of_mem)) (by (try dsimp only [List.set]); repeat (first | exact hold | apply List.mem_cons_of_mem))) ?_
          clear hs hK K
          have hs := h
          clear h
          try dsimp only [List.set] at hs
          try go_simp
          refine tree_one_yes (o := _) rfl rfl (fun K hK => ?_) (cS _ _ hs (by (try dsimp only [List.set]); repeat (first | with_reducible exact List.mem_cons_self | with_reducible apply List.mem_cons_of_mem)) (by (try dsimp only [List.set]); repeat (first | exact hold | apply List.mem_cons_of_mem)))
          refine op_store_whole (hs.pick (A := row b13 zrCells 75) (by repeat (first | with_reducible exact Pick.here | with_reducible apply Pick.there))) rfl (b := b13) rfl (rrCells (.slice As2 R'.D.secs.length cs2) (.slice Aa2 R'.D.row.length ca2) (.slice Ar2 R'.D.row.length cr2) R') rfl (rri_one rfl rfl rfl _ _ _ _ _) (by kernel_rfl) (k := 0) rfl rfl fun w3 h => hK _ _ (cS _ _ h (by (try dsimp only [List.set]); repeat (first | with_reducible exact List.mem_cons_self | with_reducible apply List.mem_cons_of_mem)) (by (try dsimp only [List.set]); repeat (first | exact hold | apply List.mem_cons_of_mem))) ?_
          clear hs hK K
          have hs := h
          clear h
          try dsimp only [List.set] at hs
          try go_simp
          repeat (first
            | (with_reducible refine tree_load_agg (o := ⟨some 69, .load _ _, _, _, _, _⟩) (rrCells us ua ur R) rfl rfl rfl rfl ?_ ?_ r32 ?_; (kernel_rfl); (kernel_rfl))
            | (with_reducible refine tree_load_agg (o := ⟨some 73, .load _ _, _, _, _, _⟩) (rdCells c (.slice Ab c.rec_.length cb)) rfl rfl rfl rfl ?_ ?_ r36 ?_; (kernel_rfl); (kernel_rfl))
            | (refine tree_take rfl (fun K hK => ?_); go_simp; with_reducible refine hK _ ?_; clear hK K))
          refine tree_done ?_
          clear hq
          have ok2 := ok'
          rw [hR'] at ok2
          have hnew : Box (rgPlay ⟨D0, f, m, epoch, low, next⟩ (l.take (k + 1)) = R') := ⟨by rw [hSt.out, hR']⟩
          clear cS r32 r36
          have cS : ∀ w M, Sat W w M → row b8 (rrCells (.slice As2 R'.D.secs.length cs2) (.slice Aa2 R'.D.row.length ca2) (.slice Ar2 R'.D.row.length cr2) R') 75 ∈ M → rngS b8 (rrCells (.slice As2 R'.D.secs.length cs2) (.slice Aa2 R'.D.row.length ca2) (.slice Ar2 R'.D.row.length cr2) R') w := fun w M h hm => range_whole h hm
          have d84 : ∀ w, rngS b8 (rrCells (.slice As2 R'.D.secs.length cs2) (.slice Aa2 R'.D.row.length ca2) (.slice Ar2 R'.D.row.length cr2) R') w → w.cell? ⟨b8, 6, none⟩ = some (.int .u32 (R'.low : Nat)) := fun w h => h 6 _ rfl
          have d91 : ∀ w, rngS b8 (rrCells (.slice As2 R'.D.secs.length cs2) (.slice Aa2 R'.D.row.length ca2) (.slice Ar2 R'.D.row.length cr2) R') w → w.cell? ⟨b8, 7, none⟩ = some (.int .u32 (R'.next : Nat)) := fun w h => h 7 _ rfl
          have d97 : ∀ w, rngS b8 (rrCells (.slice As2 R'.D.secs.length cs2) (.slice Aa2 R'.D.row.length ca2) (.slice Ar2 R'.D.row.length cr2) R') w → w.rangeAt b8 0 (rrCells (.slice As2 R'.D.secs.length cs2) (.slice Aa2 R'.D.row.length ca2) (.slice Ar2 R'.D.row.length cr2) R') := fun w h => h
          go_wp2_with (first
            | (guard_target = wpList _ _ _ (⟨some 77, .load _ _, _, _, _, _⟩ :: _) _ _; refine wpl (o := ⟨some 77, .load _ _, _, _, _, _⟩) rfl fun K hK => op_load_agg rfl (b := b13) (i := 0) rfl (rrCells (.slice As2 R'.D.secs.length cs2) (.slice Aa2 R'.D.row.length ca2) (.slice Ar2 R'.D.row.length cr2) R') (range_whole hs m0) (by kernel_rfl) (by kernel_rfl) (hK _ _ ?_); clear hK K)
            | (guard_target = wpList _ _ _ (⟨none, .store _ (.tmp 8) _, _, _, _, _⟩ :: _) _ _; refine wpl (o := ⟨none, .store _ (.tmp 8) _, _, _, _, _⟩) rfl fun K hK => ?_; go_must (refine op_store_whole (hs.pick (A := row b8 (rrCells us ua ur R) 75) (by repeat (first | with_reducible exact Pick.here | with_reducible apply Pick.there))) (b := b8) rfl rfl (rrCells (.slice As2 R'.D.secs.length cs2) (.slice Aa2 R'.D.row.length ca2) (.slice Ar2 R'.D.row.length cr2) R') rfl (rri_one rfl rfl rfl _ _ _ _ _) (by kernel_rfl) (k := 0) rfl rfl fun w4 h => hK _ _ ?_); clear hs hK K; have hs := h; clear h; try dsimp only [List.set] at hs))
          have hS0 := cS _ _ hs.drew (by (try dsimp only [List.set]); repeat (first | with_reducible exact List.mem_cons_self | with_reducible apply List.mem_cons_of_mem))
          refine wp_region_tree (rngS b8 (rrCells (.slice As2 R'.D.secs.length cs2) (.slice Aa2 R'.D.row.length ca2) (.slice Ar2 R'.D.row.length cr2) R')) (.take 0 (.take 1 (.take 2 (.take 3 (.take 5 (.take 6 (.all [(4, .take 7 (.take 8 (.take 9 (.take 10 (.take 12 (.take 13 (.all [(11, .take 14 (.take 15 (.take 16 (.take 17 (.take 19 (.all [(18, .all [(20, .take 21 (.take 22 (DTree.done)))])]))))))])))))))]))))))) (by kernel_rfl) (by kernel_rfl) (by kernel_rfl) (fun _ _ d _ _ h => by cases d <;> exact h) hS0 ?_
          have hs' := hs.drew
          clear hs
          have hs := hs'
          clear hs'
          have hq := fun p : Prop => class_const hS0 p
          clear hS0
          repeat (first
            | (with_reducible refine tree_load (o := ⟨some 84, .load _ _, _, _, _, _⟩) rfl rfl rfl rfl rfl d84 ?_)
            | (with_reducible refine tree_load (o := ⟨some 91, .load _ _, _, _, _, _⟩) rfl rfl rfl rfl rfl d91 ?_)
            | (with_reducible refine tree_load_agg (o := ⟨some 97, .load _ _, _, _, _, _⟩) (rrCells (.slice As2 R'.D.secs.length cs2) (.slice Aa2 R'.D.row.length ca2) (.slice Ar2 R'.D.row.length cr2) R') rfl rfl rfl rfl ?_ ?_ d97 ?_; (kernel_rfl); (kernel_rfl))
            | (refine tree_take rfl (fun K hK => ?_); go_simp; with_reducible refine hK _ ?_; clear hK K))
          refine tree_one_yes (o := _) rfl rfl (fun K hK => ?_) (cS _ _ hs (by (try dsimp only [List.set]); repeat (first | with_reducible exact List.mem_cons_self | with_reducible apply List.mem_cons_of_mem)))
          try go_simp
          go_at_call 28
          refine (rlow_spec W _ _ hs br b1 R' (by (try dsimp only [List.set]); repeat (first | with_reducible exact List.mem_cons_self | with_reducible apply List.mem_cons_of_mem))).mono ?_
          clear hs
          rintro e w5 ⟨rfl, hs⟩
          try go_simp
          refine hK _ _ (cS _ _ hs (by (try dsimp only [List.set]); repeat (first | with_reducible exact List.mem_cons_self | with_reducible apply List.mem_cons_of_mem))) ?_
          clear hK K
          repeat (first
            | (with_reducible refine tree_load (o := ⟨some 84, .load _ _, _, _, _, _⟩) rfl rfl rfl rfl rfl d84 ?_)
            | (with_reducible refine tree_load (o := ⟨some 91, .load _ _, _, _, _, _⟩) rfl rfl rfl rfl rfl d91 ?_)
            | (with_reducible refine tree_load_agg (o := ⟨some 97, .load _ _, _, _, _, _⟩) (rrCells (.slice As2 R'.D.secs.length cs2) (.slice Aa2 R'.D.row.length ca2) (.slice Ar2 R'.D.row.length cr2) R') rfl rfl rfl rfl ?_ ?_ d97 ?_; (kernel_rfl); (kernel_rfl))
            | (refine tree_take rfl (fun K hK => ?_); go_simp; with_reducible refine hK _ ?_; clear hK K))
          refine tree_one_yes (o := _) rfl rfl (fun K hK => ?_) (cS _ _ hs (by (try dsimp only [List.set]); repeat (first | with_reducible exact List.mem_cons_self | with_reducible apply List.mem_cons_of_mem)))
          try go_simp
          go_at_call 29
          refine (rnext_spec W _ _ hs br b1 R' (by (try dsimp only [List.set]); repeat (first | with_reducible exact List.mem_cons_self | with_reducible apply List.mem_cons_of_mem))).mono ?_
          clear hs
          rintro e w5 ⟨rfl, hs⟩
          try go_simp
          refine hK _ _ (cS _ _ hs (by (try dsimp only [List.set]); repeat (first | with_reducible exact List.mem_cons_self | with_reducible apply List.mem_cons_of_mem))) ?_
          clear hK K
          repeat (first
            | (with_reducible refine tree_load (o := ⟨some 84, .load _ _, _, _, _, _⟩) rfl rfl rfl rfl rfl d84 ?_)
            | (with_reducible refine tree_load (o := ⟨some 91, .load _ _, _, _, _, _⟩) rfl rfl rfl rfl rfl d91 ?_)
            | (with_reducible refine tree_load_agg (o := ⟨some 97, .load _ _, _, _, _, _⟩) (rrCells (.slice As2 R'.D.secs.length cs2) (.slice Aa2 R'.D.row.length ca2) (.slice Ar2 R'.D.row.length cr2) R') rfl rfl rfl rfl ?_ ?_ d97 ?_; (kernel_rfl); (kernel_rfl))
            | (refine tree_take rfl (fun K hK => ?_); go_simp; with_reducible refine hK _ ?_; clear hK K))
          refine tree_one_yes (o := _) rfl rfl (fun K hK => ?_) (cS _ _ hs (by (try dsimp only [List.set]); repeat (first | with_reducible exact List.mem_cons_self | with_reducible apply List.mem_cons_of_mem)))
          try go_simp
          go_at_call 30
          refine (rfree_spec W _ _ hs br b1 R' ok2 (by (try dsimp only [List.set]); repeat (first | with_reducible exact List.mem_cons_self | with_reducible apply List.mem_cons_of_mem))).mono ?_
          clear hs
          rintro e w5 ⟨rfl, hs⟩
          try go_simp
          refine hK _ _ (cS _ _ hs (by (try dsimp only [List.set]); repeat (first | with_reducible exact List.mem_cons_self | with_reducible apply List.mem_cons_of_mem))) ?_
          clear hK K
          refine tree_one_yes (o := _) rfl rfl (fun K hK => ?_) (cS _ _ hs (by (try dsimp only [List.set]); repeat (first | with_reducible exact List.mem_cons_self | with_reducible apply List.mem_cons_of_mem)))
          try go_simp
          go_at_call 38
          refine (rrfree_spec W _ _ hs _ _ _ R' ok2).mono ?_
          clear hs
          rintro e w5 ⟨rfl, hs⟩
          try go_simp
          refine hK _ _ (cS _ _ hs (by (try dsimp only [List.set]); repeat (first | with_reducible exact List.mem_cons_self | with_reducible apply List.mem_cons_of_mem))) ?_
          clear hK K
          repeat (first
            | (with_reducible refine tree_load (o := ⟨some 84, .load _ _, _, _, _, _⟩) rfl rfl rfl rfl rfl d84 ?_)
            | (with_reducible refine tree_load (o := ⟨some 91, .load _ _, _, _, _, _⟩) rfl rfl rfl rfl rfl d91 ?_)
            | (with_reducible refine tree_load_agg (o := ⟨some 97, .load _ _, _, _, _, _⟩) (rrCells (.slice As2 R'.D.secs.length cs2) (.slice Aa2 R'.D.row.length ca2) (.slice Ar2 R'.D.row.length cr2) R') rfl rfl rfl rfl ?_ ?_ d97 ?_; (kernel_rfl); (kernel_rfl))
            | (refine tree_take rfl (fun K hK => ?_); go_simp; with_reducible refine hK _ ?_; clear hK K))
          refine tree_done ?_
          clear hq
          go_wp2_with fail
          refine ⟨⟨k + 1, .slice As2 R'.D.secs.length cs2, .slice Aa2 R'.D.row.length ca2, .slice Ar2 R'.D.row.length cr2, by omega, by go_num, ?_⟩, by simp only [intOf]; omega⟩
          rw [hnew.out]
          exact hs.pack (by repeat (first | with_reducible exact Pack.refl | with_reducible exact Pack.nil | with_reducible refine Pack.cons (by repeat (first | with_reducible exact Pick.here | with_reducible apply Pick.there)) ?_ | with_reducible apply Pack.drop))
        · refine op_alloc hs rfl _ zrref zrCells rfl fun b13 w2 h => hK _ _ (cS _ _ h (by (try dsimp only [List.set]); repeat (first | with_reducible exact List.mem_cons_self | with_reducible apply List.mem_cons_of_mem)) (by (try dsimp only [List.set]); repeat (first | exact hold | apply List.mem_cons_of_mem))) ?_
          clear hs hK K
          have hs := h
          clear h
          try dsimp only [List.set] at hs
          try go_simp
          refine tree_one_yes (o := _) rfl rfl (fun K hK => ?_) (cS _ _ hs (by (try dsimp only [List.set]); repeat (first | with_reducible exact List.mem_cons_self | with_reducible apply List.mem_cons_of_mem)) (by (try dsimp only [List.set]); repeat (first | exact hold | apply List.mem_cons_of_mem)))
          try go_simp
          go_at_call 37
          refine (rgdo_spec W _ _ b1 br us ua ur (.slice Ab c.rec_.length cb) R ok c (((hs.pick (A := ref us ua ur R.D) (by repeat (first | with_reducible exact Pick.here | with_reducible apply Pick.there))).pick (A := rg br b1 R) (by repeat (first | with_reducible exact Pick.here | with_reducible apply Pick.there))).pick (A := disk b1 R.D) (by repeat (first | with_reducible exact Pick.here | with_reducible apply Pick.there))) (has_w (by (try dsimp only [List.set]); repeat (first | exact hold | apply List.mem_cons_of_mem)) hb) hc4 hrow7).mono ?_
          clear hs
          rintro e w5 ⟨vs2, va2, vr2, rfl, hs⟩
          generalize hR' : R.deed c = R' at hs
          obtain ⟨As2, cs2, rfl, _, _⟩ := slice_form (hs.slice (ref_secs (by (try dsimp only [List.set]); repeat (first | with_reducible exact List.mem_cons_self | with_reducible apply List.mem_cons_of_mem))))
          obtain ⟨Aa2, ca2, rfl, _, _⟩ := slice_form (hs.slice (ref_ats (by (try dsimp only [List.set]); repeat (first | with_reducible exact List.mem_cons_self | with_reducible apply List.mem_cons_of_mem))))
          obtain ⟨Ar2, cr2, rfl, _, _⟩ := slice_form (hs.slice (ref_row (by (try dsimp only [List.set]); repeat (first | with_reducible exact List.mem_cons_self | with_reducible apply List.mem_cons_of_mem))))
          try go_simp
          refine hK _ _ (cS _ _ hs (by (try dsimp only [List.set]); repeat (first | with_reducible exact List.mem_cons_self | with_reducible apply List.mem_cons_of_mem)) (by (try dsimp only [List.set]); repeat (first | exact hold | apply List.mem_cons_of_mem))) ?_
          clear hK K
          repeat (first
            | (with_reducible refine tree_load_agg (o := ⟨some 69, .load _ _, _, _, _, _⟩) (rrCells us ua ur R) rfl rfl rfl rfl ?_ ?_ r32 ?_; (kernel_rfl); (kernel_rfl))
            | (with_reducible refine tree_load_agg (o := ⟨some 73, .load _ _, _, _, _, _⟩) (rdCells c (.slice Ab c.rec_.length cb)) rfl rfl rfl rfl ?_ ?_ r36 ?_; (kernel_rfl); (kernel_rfl))
            | (refine tree_take rfl (fun K hK => ?_); go_simp; with_reducible refine hK _ ?_; clear hK K))
          refine tree_one_yes (o := _) rfl rfl (fun K hK => ?_) (cS _ _ hs (by (try dsimp only [List.set]); repeat (first | with_reducible exact List.mem_cons_self | with_reducible apply List.mem_cons_of_mem)) (by (try dsimp only [List.set]); repeat (first | exact hold | apply List.mem_cons_of_mem)))
          refine op_store_whole (hs.pick (A := row b13 zrCells 75) (by repeat (first | with_reducible exact Pick.here | with_reducible apply Pick.there))) rfl (b := b13) rfl (rrCells (.slice As2 R'.D.secs.length cs2) (.slice Aa2 R'.D.row.length ca2) (.slice Ar2 R'.D.row.length cr2) R') rfl (rri_one rfl rfl rfl _ _ _ _ _) (by kernel_rfl) (k := 0) rfl rfl fun w3 h => hK _ _ (cS _ _ h (by (try dsimp only [List.set]); repeat (first | with_reducible exact List.mem_cons_self | with_reducible apply List.mem_cons_of_mem)) (by (try dsimp only [List.set]); repeat (first | exact hold | apply List.mem_cons_of_mem))) ?_
          clear hs hK K
          have hs := h
          clear h
          try dsimp only [List.set] at hs
          try go_simp
          repeat (first
            | (with_reducible refine tree_load_agg (o := ⟨some 69, .load _ _, _, _, _, _⟩) (rrCells us ua ur R) rfl rfl rfl rfl ?_ ?_ r32 ?_; (kernel_rfl); (kernel_rfl))
            | (with_reducible refine tree_load_agg (o := ⟨some 73, .load _ _, _, _, _, _⟩) (rdCells c (.slice Ab c.rec_.length cb)) rfl rfl rfl rfl ?_ ?_ r36 ?_; (kernel_rfl); (kernel_rfl))
            | (refine tree_take rfl (fun K hK => ?_); go_simp; with_reducible refine hK _ ?_; clear hK K))
          refine tree_done ?_
          clear hq
          have ok2 := ok'
          rw [hR'] at ok2
          have hnew : Box (rgPlay ⟨D0, f, m, epoch, low, next⟩ (l.take (k + 1)) = R') := ⟨by rw [hSt.out, hR']⟩
          clear cS r32 r36
          have cS : ∀ w M, Sat W w M → row b8 (rrCells (.slice As2 R'.D.secs.length cs2) (.slice Aa2 R'.D.row.length ca2) (.slice Ar2 R'.D.row.length cr2) R') 75 ∈ M → rngS b8 (rrCells (.slice As2 R'.D.secs.length cs2) (.slice Aa2 R'.D.row.length ca2) (.slice Ar2 R'.D.row.length cr2) R') w := fun w M h hm => range_whole h hm
          have d84 : ∀ w, rngS b8 (rrCells (.slice As2 R'.D.secs.length cs2) (.slice Aa2 R'.D.row.length ca2) (.slice Ar2 R'.D.row.length cr2) R') w → w.cell? ⟨b8, 6, none⟩ = some (.int .u32 (R'.low : Nat)) := fun w h => h 6 _ rfl
          have d91 : ∀ w, rngS b8 (rrCells (.slice As2 R'.D.secs.length cs2) (.slice Aa2 R'.D.row.length ca2) (.slice Ar2 R'.D.row.length cr2) R') w → w.cell? ⟨b8, 7, none⟩ = some (.int .u32 (R'.next : Nat)) := fun w h => h 7 _ rfl
          have d97 : ∀ w, rngS b8 (rrCells (.slice As2 R'.D.secs.length cs2) (.slice Aa2 R'.D.row.length ca2) (.slice Ar2 R'.D.row.length cr2) R') w → w.rangeAt b8 0 (rrCells (.slice As2 R'.D.secs.length cs2) (.slice Aa2 R'.D.row.length ca2) (.slice Ar2 R'.D.row.length cr2) R') := fun w h => h
          go_wp2_with (first
            | (guard_target = wpList _ _ _ (⟨some 77, .load _ _, _, _, _, _⟩ :: _) _ _; refine wpl (o := ⟨some 77, .load _ _, _, _, _, _⟩) rfl fun K hK => op_load_agg rfl (b := b13) (i := 0) rfl (rrCells (.slice As2 R'.D.secs.length cs2) (.slice Aa2 R'.D.row.length ca2) (.slice Ar2 R'.D.row.length cr2) R') (range_whole hs m0) (by kernel_rfl) (by kernel_rfl) (hK _ _ ?_); clear hK K)
            | (guard_target = wpList _ _ _ (⟨none, .store _ (.tmp 8) _, _, _, _, _⟩ :: _) _ _; refine wpl (o := ⟨none, .store _ (.tmp 8) _, _, _, _, _⟩) rfl fun K hK => ?_; go_must (refine op_store_whole (hs.pick (A := row b8 (rrCells us ua ur R) 75) (by repeat (first | with_reducible exact Pick.here | with_reducible apply Pick.there))) (b := b8) rfl rfl (rrCells (.slice As2 R'.D.secs.length cs2) (.slice Aa2 R'.D.row.length ca2) (.slice Ar2 R'.D.row.length cr2) R') rfl (rri_one rfl rfl rfl _ _ _ _ _) (by kernel_rfl) (k := 0) rfl rfl fun w4 h => hK _ _ ?_); clear hs hK K; have hs := h; clear h; try dsimp only [List.set] at hs))
          have hS0 := cS _ _ hs.drew (by (try dsimp only [List.set]); repeat (first | with_reducible exact List.mem_cons_self | with_reducible apply List.mem_cons_of_mem))
          refine wp_region_tree (rngS b8 (rrCells (.slice As2 R'.D.secs.length cs2) (.slice Aa2 R'.D.row.length ca2) (.slice Ar2 R'.D.row.length cr2) R')) (.take 0 (.take 1 (.take 2 (.take 3 (.take 5 (.take 6 (.all [(4, .take 7 (.take 8 (.take 9 (.take 10 (.take 12 (.take 13 (.all [(11, .take 14 (.take 15 (.take 16 (.take 17 (.take 19 (.all [(18, .all [(20, .take 21 (.take 22 (DTree.done)))])]))))))])))))))]))))))) (by kernel_rfl) (by kernel_rfl) (by kernel_rfl) (fun _ _ d _ _ h => by cases d <;> exact h) hS0 ?_
          have hs' := hs.drew
          clear hs
          have hs := hs'
          clear hs'
          have hq := fun p : Prop => class_const hS0 p
          clear hS0
          repeat (first
            | (with_reducible refine tree_load (o := ⟨some 84, .load _ _, _, _, _, _⟩) rfl rfl rfl rfl rfl d84 ?_)
            | (with_reducible refine tree_load (o := ⟨some 91, .load _ _, _, _, _, _⟩) rfl rfl rfl rfl rfl d91 ?_)
            | (with_reducible refine tree_load_agg (o := ⟨some 97, .load _ _, _, _, _, _⟩) (rrCells (.slice As2 R'.D.secs.length cs2) (.slice Aa2 R'.D.row.length ca2) (.slice Ar2 R'.D.row.length cr2) R') rfl rfl rfl rfl ?_ ?_ d97 ?_; (kernel_rfl); (kernel_rfl))
            | (refine tree_take rfl (fun K hK => ?_); go_simp; with_reducible refine hK _ ?_; clear hK K))
          refine tree_one_yes (o := _) rfl rfl (fun K hK => ?_) (cS _ _ hs (by (try dsimp only [List.set]); repeat (first | with_reducible exact List.mem_cons_self | with_reducible apply List.mem_cons_of_mem)))
          try go_simp
          go_at_call 28
          refine (rlow_spec W _ _ hs br b1 R' (by (try dsimp only [List.set]); repeat (first | with_reducible exact List.mem_cons_self | with_reducible apply List.mem_cons_of_mem))).mono ?_
          clear hs
          rintro e w5 ⟨rfl, hs⟩
          try go_simp
          refine hK _ _ (cS _ _ hs (by (try dsimp only [List.set]); repeat (first | with_reducible exact List.mem_cons_self | with_reducible apply List.mem_cons_of_mem))) ?_
          clear hK K
          repeat (first
            | (with_reducible refine tree_load (o := ⟨some 84, .load _ _, _, _, _, _⟩) rfl rfl rfl rfl rfl d84 ?_)
            | (with_reducible refine tree_load (o := ⟨some 91, .load _ _, _, _, _, _⟩) rfl rfl rfl rfl rfl d91 ?_)
            | (with_reducible refine tree_load_agg (o := ⟨some 97, .load _ _, _, _, _, _⟩) (rrCells (.slice As2 R'.D.secs.length cs2) (.slice Aa2 R'.D.row.length ca2) (.slice Ar2 R'.D.row.length cr2) R') rfl rfl rfl rfl ?_ ?_ d97 ?_; (kernel_rfl); (kernel_rfl))
            | (refine tree_take rfl (fun K hK => ?_); go_simp; with_reducible refine hK _ ?_; clear hK K))
          refine tree_one_yes (o := _) rfl rfl (fun K hK => ?_) (cS _ _ hs (by (try dsimp only [List.set]); repeat (first | with_reducible exact List.mem_cons_self | with_reducible apply List.mem_cons_of_mem)))
          try go_simp
          go_at_call 29
          refine (rnext_spec W _ _ hs br b1 R' (by (try dsimp only [List.set]); repeat (first | with_reducible exact List.mem_cons_self | with_reducible apply List.mem_cons_of_mem))).mono ?_
          clear hs
          rintro e w5 ⟨rfl, hs⟩
          try go_simp
          refine hK _ _ (cS _ _ hs (by (try dsimp only [List.set]); repeat (first | with_reducible exact List.mem_cons_self | with_reducible apply List.mem_cons_of_mem))) ?_
          clear hK K
          repeat (first
            | (with_reducible refine tree_load (o := ⟨some 84, .load _ _, _, _, _, _⟩) rfl rfl rfl rfl rfl d84 ?_)
            | (with_reducible refine tree_load (o := ⟨some 91, .load _ _, _, _, _, _⟩) rfl rfl rfl rfl rfl d91 ?_)
            | (with_reducible refine tree_load_agg (o := ⟨some 97, .load _ _, _, _, _, _⟩) (rrCells (.slice As2 R'.D.secs.length cs2) (.slice Aa2 R'.D.row.length ca2) (.slice Ar2 R'.D.row.length cr2) R') rfl rfl rfl rfl ?_ ?_ d97 ?_; (kernel_rfl); (kernel_rfl))
            | (refine tree_take rfl (fun K hK => ?_); go_simp; with_reducible refine hK _ ?_; clear hK K))
          refine tree_one_yes (o := _) rfl rfl (fun K hK => ?_) (cS _ _ hs (by (try dsimp only [List.set]); repeat (first | with_reducible exact List.mem_cons_self | with_reducible apply List.mem_cons_of_mem)))
          try go_simp
          go_at_call 30
          refine (rfree_spec W _ _ hs br b1 R' ok2 (by (try dsimp only [List.set]); repeat (first | with_reducible exact List.mem_cons_self | with_reducible apply List.mem_cons_of_mem))).mono ?_
          clear hs
          rintro e w5 ⟨rfl, hs⟩
          try go_simp
          refine hK _ _ (cS _ _ hs (by (try dsimp only [List.set]); repeat (first | with_reducible exact List.mem_cons_self | with_reducible apply List.mem_cons_of_mem))) ?_
          clear hK K
          refine tree_one_yes (o := _) rfl rfl (fun K hK => ?_) (cS _ _ hs (by (try dsimp only [List.set]); repeat (first | with_reducible exact List.mem_cons_self | with_reducible apply List.mem_cons_of_mem)))
          try go_simp
          go_at_call 38
          refine (rrfree_spec W _ _ hs _ _ _ R' ok2).mono ?_
          clear hs
          rintro e w5 ⟨rfl, hs⟩
          try go_simp
          refine hK _ _ (cS _ _ hs (by (try dsimp only [List.set]); repeat (first | with_reducible exact List.mem_cons_self | with_reducible apply List.mem_cons_of_mem))) ?_
          clear hK K
          repeat (first
            | (with_reducible refine tree_load (o := ⟨some 84, .load _ _, _, _, _, _⟩) rfl rfl rfl rfl rfl d84 ?_)
            | (with_reducible refine tree_load (o := ⟨some 91, .load _ _, _, _, _, _⟩) rfl rfl rfl rfl rfl d91 ?_)
            | (with_reducible refine tree_load_agg (o := ⟨some 97, .load _ _, _, _, _, _⟩) (rrCells (.slice As2 R'.D.secs.length cs2) (.slice Aa2 R'.D.row.length ca2) (.slice Ar2 R'.D.row.length cr2) R') rfl rfl rfl rfl ?_ ?_ d97 ?_; (kernel_rfl); (kernel_rfl))
            | (refine tree_take rfl (fun K hK => ?_); go_simp; with_reducible refine hK _ ?_; clear hK K))
          refine tree_done ?_
          clear hq
          go_wp2_with fail
          refine ⟨⟨k + 1, .slice As2 R'.D.secs.length cs2, .slice Aa2 R'.D.row.length ca2, .slice Ar2 R'.D.row.length cr2, by omega, by go_num, ?_⟩, by simp only [intOf]; omega⟩
          rw [hnew.out]
          exact hs.pack (by repeat (first | with_reducible exact Pack.refl | with_reducible exact Pack.nil | with_reducible refine Pack.cons (by repeat (first | with_reducible exact Pick.here | with_reducible apply Pick.there)) ?_ | with_reducible apply Pack.drop))
      · have hltI : ¬ (k : Int) < (l.length : Int) := by omega
        go_wp2_with fail
        go_loopw [12] (fun v12 wr => ∃ i : Nat, i ≤ 12 ∧ v12 = .int .i64 (i : Nat) ∧ Sat W wr (row b8 (rrCells (.slice As1 R.D.secs.length cs1) (.slice Aa1 R.D.row.length ca1) (.slice Ar1 R.D.row.length cr1) R) 75 :: disk b1 R.D :: rg br b1 R :: ref (.slice As1 R.D.secs.length cs1) (.slice Aa1 R.D.row.length ca1) (.slice Ar1 R.D.row.length cr1) R.D :: L)) (fun v12 _ => 12 - (intOf v12).toNat)
        case atStart => exact ⟨0, by omega, rfl, hs⟩
        case round =>
          clear hs
          obtain ⟨i, hi, rfl, hs⟩ := hrel
          have hk30 : k ≤ 30 := by have := hsm.1; omega
          by_cases hi12 : i < 12
          · have hi12I : (i : Int) < 12 := by omega
            have hiD : i < R.D.secs.length := by rw [HSZ.out]; exact hi12
            have hread := Dk.read_len ok.disk hiD
            have hBL : (u8s (R.D.read i)).length = 64 := by simp [hread]
            go_wp2_with (first
              | (go_at_call 39; go_must (refine (read_spec W _ _ b1 R.D (hs.pick (A := disk b1 R.D) (by repeat (first | with_reducible exact Pick.here | with_reducible apply Pick.there))) i hiD (by omega)).mono ?_); clear hs; rintro e w1 ⟨bb, rfl, hs⟩)
              | (guard_target = wpList _ _ _ (⟨some 113, .load _ _, _, _, _, _⟩ :: _) _ _; refine wpl (o := ⟨some 113, .load _ _, _, _, _, _⟩) rfl fun K hK => op_load_agg rfl (b := b8) (i := 0) rfl [.slice As1 R.D.secs.length cs1, .slice Aa1 R.D.row.length ca1, .slice Ar1 R.D.row.length cr1] (range_prefix (l := rrCells (.slice As1 R.D.secs.length cs1) (.slice Aa1 R.D.row.length ca1) (.slice Ar1 R.D.row.length cr1) R) (t := 75) hs [.slice As1 R.D.secs.length cs1, .slice Aa1 R.D.row.length ca1, .slice Ar1 R.D.row.length cr1] _ (show rrCells (.slice As1 R.D.secs.length cs1) (.slice Aa1 R.D.row.length ca1) (.slice Ar1 R.D.row.length cr1) R = [.slice As1 R.D.secs.length cs1, .slice Aa1 R.D.row.length ca1, .slice Ar1 R.D.row.length cr1] ++ _ from rfl) (by (try dsimp only [List.set]); repeat (first | with_reducible exact List.mem_cons_self | with_reducible apply List.mem_cons_of_mem))) (by kernel_rfl) (by kernel_rfl) (hK _ _ ?_); clear hK K)
              | (go_at_call 40; go_must (refine (rread_spec W _ _ _ _ _ R.D (hs.pick (A := ref (.slice As1 R.D.secs.length cs1) (.slice Aa1 R.D.row.length ca1) (.slice Ar1 R.D.row.length cr1) R.D) (by repeat (first | with_reducible exact Pick.here | with_reducible apply Pick.there))) i hiD (by omega) (by rw [HSZ.out]; omega)).mono ?_); clear hs; rintro e w1 ⟨rfl, hs⟩; simp only [str])
              | (guard_target = wpList _ _ _ (⟨some 122, .convert _ _ _, _, _, _, _⟩ :: _) _ _; refine wpl (o := ⟨some 122, .convert _ _ _, _, _, _, _⟩) rfl fun K hK => ?_; go_must (refine op_to_string rfl Try.underlying23 Try.underlying5 Try.underlying9 rfl (hs.bytes (lit_bytes (b := bb) (l := R.D.read i) (t := 111) 1 rfl 64 hread (by omega))) (hK _ _ ?_)); clear hK K))
            refine ⟨⟨i + 1, by omega, by go_num, hs.pack (by repeat (first | with_reducible exact Pack.refl | with_reducible exact Pack.nil | with_reducible refine Pack.cons (by repeat (first | with_reducible exact Pick.here | with_reducible apply Pick.there)) ?_ | with_reducible apply Pack.drop))⟩, by simp only [intOf]; omega⟩
          · have hi12I : ¬ (i : Int) < 12 := by omega
            have cS : ∀ w M, Sat W w M → row b8 (rrCells (.slice As1 R.D.secs.length cs1) (.slice Aa1 R.D.row.length ca1) (.slice Ar1 R.D.row.length cr1) R) 75 ∈ M → rngS b8 (rrCells (.slice As1 R.D.secs.length cs1) (.slice Aa1 R.D.row.length ca1) (.slice Ar1 R.D.row.length cr1) R) w := fun w M h hm => range_whole h hm
            have d132 : ∀ w, rngS b8 (rrCells (.slice As1 R.D.secs.length cs1) (.slice Aa1 R.D.row.length ca1) (.slice Ar1 R.D.row.length cr1) R) w → w.cell? ⟨b8, 2, none⟩ = some (.slice Ar1 R.D.row.length cr1) := fun w h => h 2 _ rfl
            go_wp2_with fail
            have hS0 := cS _ _ hs.drew (by (try dsimp only [List.set]); repeat (first | with_reducible exact List.mem_cons_self | with_reducible apply List.mem_cons_of_mem))
            refine wp_region_tree (rngS b8 (rrCells (.slice As1 R.D.secs.length cs1) (.slice Aa1 R.D.row.length ca1) (.slice Ar1 R.D.row.length cr1) R)) (.take 0 (.take 1 (.take 2 (.take 4 (.take 5 (.take 6 (.take 7 (.all [(3, .take 8 (.take 9 (.take 10 (DTree.done))))])))))))) (by kernel_rfl) (by kernel_rfl) (by kernel_rfl) (fun _ _ d _ _ h => by cases d <;> exact h) hS0 ?_
            have hs' := hs.drew
            clear hs
            have hs := hs'
            clear hs'
            have hq := fun p : Prop => class_const hS0 p
            clear hS0
            repeat (first
              | (with_reducible refine tree_load (o := ⟨some 132, .load _ _, _, _, _, _⟩) rfl rfl rfl rfl rfl d132 ?_)
              | (refine tree_take rfl (fun K hK => ?_); go_simp; with_reducible refine hK _ ?_; clear hK K))
            refine tree_one_yes (o := _) rfl rfl (fun K hK => ?_) (cS _ _ hs (by (try dsimp only [List.set]); repeat (first | with_reducible exact List.mem_cons_self | with_reducible apply List.mem_cons_of_mem)))
            try go_simp
            go_at_call 34
            refine (pending_spec W _ _ b1 R.D (hs.pick (A := disk b1 R.D) (by repeat (first | with_reducible exact Pick.here | with_reducible apply Pick.there)))).mono ?_
            clear hs
            rintro e w5 ⟨rfl, hs⟩
            try go_simp
            refine hK _ _ (cS _ _ hs (by (try dsimp only [List.set]); repeat (first | with_reducible exact List.mem_cons_self | with_reducible apply List.mem_cons_of_mem))) ?_
            clear hK K
            repeat (first
              | (with_reducible refine tree_load (o := ⟨some 132, .load _ _, _, _, _, _⟩) rfl rfl rfl rfl rfl d132 ?_)
              | (refine tree_take rfl (fun K hK => ?_); go_simp; with_reducible refine hK _ ?_; clear hK K))
            refine tree_done ?_
            clear hq
            go_wp2_with fail
            go_ret
            exact ⟨by simp, hs.pack (by repeat (first | with_reducible exact Pack.refl | with_reducible exact Pack.nil | with_reducible refine Pack.cons (by repeat (first | with_reducible exact Pick.here | with_reducible apply Pick.there)) ?_ | with_reducible apply Pack.drop))⟩
  · refine op_alloc hs rfl _ zrref zrCells rfl fun b8 w2 h => hK _ _ (cS _ _ _ h (by (try dsimp only [List.set]); repeat (first | with_reducible exact List.mem_cons_self | with_reducible apply List.mem_cons_of_mem))) ?_
    clear hs hK K
    have hs := h
    clear h
    try dsimp only [List.set] at hs
    try go_simp
    refine tree_one_yes (o := _) rfl rfl (fun K hK => ?_) (cS _ _ _ hs (by (try dsimp only [List.set]); repeat (first | with_reducible exact List.mem_cons_self | with_reducible apply List.mem_cons_of_mem)))
    try go_simp
    go_at_call 35
    refine (rnew_spec W _ _ hs 12 (by omega)).mono ?_
    clear hs
    rintro e w5 ⟨vs, va, vr, rfl, hs⟩
    rw [HD0.out.1] at hs
    obtain ⟨As, cs, rfl, _, _⟩ := slice_form (hs.slice (ref_secs m0))
    obtain ⟨Aa, ca, rfl, _, _⟩ := slice_form (hs.slice (ref_ats m0))
    obtain ⟨Ar, cr, rfl, _, _⟩ := slice_form (hs.slice (ref_row m0))
    try go_simp
    refine hK _ _ (cS _ _ _ hs (by (try dsimp only [List.set]); repeat (first | with_reducible exact List.mem_cons_self | with_reducible apply List.mem_cons_of_mem))) ?_
    clear hK K
    repeat (first
      | (with_reducible refine tree_load (o := ⟨some 30, .load _ _, _, _, _, _⟩) rfl rfl rfl rfl rfl (d0 b2) ?_)
      | (with_reducible refine tree_load (o := ⟨some 33, .load _ _, _, _, _, _⟩) rfl rfl rfl rfl rfl (d1 b2) ?_)
      | (with_reducible refine tree_load (o := ⟨some 36, .load _ _, _, _, _, _⟩) rfl rfl rfl rfl rfl (d2 b2) ?_)
      | (with_reducible refine tree_load (o := ⟨some 38, .load _ _, _, _, _, _⟩) rfl rfl rfl rfl rfl (d3 b2) ?_)
      | (with_reducible refine tree_load (o := ⟨some 40, .load _ _, _, _, _, _⟩) rfl rfl rfl rfl rfl (d4 b2) ?_)
      | (refine tree_take rfl (fun K hK => ?_); go_simp; with_reducible refine hK _ ?_; clear hK K))
    refine tree_one_yes (o := _) rfl rfl (fun K hK => ?_) (cS _ _ _ hs (by (try dsimp only [List.set]); repeat (first | with_reducible exact List.mem_cons_self | with_reducible apply List.mem_cons_of_mem)))
    refine op_store_whole (hs.pick (A := row b8 zrCells 75) (by repeat (first | with_reducible exact Pick.here | with_reducible apply Pick.there))) rfl (b := b8) rfl (rriCells (.slice As D0.secs.length cs) (.slice Aa D0.row.length ca) (.slice Ar D0.row.length cr) (f : Nat) (m : Nat) epoch low next) rfl (rri_one rfl rfl rfl _ _ _ _ _) (by kernel_rfl) (k := 0) rfl rfl fun w3 h => hK _ _ (cS _ _ _ h (by (try dsimp only [List.set]); repeat (first | with_reducible exact List.mem_cons_self | with_reducible apply List.mem_cons_of_mem))) ?_
    clear hs hK K
    have hs := h
    clear h
    try dsimp only [List.set] at hs
    try go_simp
    refine tree_done ?_
    clear hq
    go_wp2_with (first
      | (guard_target = wpList _ _ _ (⟨some 47, .load _ _, _, _, _, _⟩ :: _) _ _; refine wpl (o := ⟨some 47, .load _ _, _, _, _, _⟩) rfl fun K hK => op_load_agg rfl (b := b8) (i := 0) rfl (rriCells (.slice As D0.secs.length cs) (.slice Aa D0.row.length ca) (.slice Ar D0.row.length cr) (f : Nat) (m : Nat) epoch low next) (range_whole hs (by (try dsimp only [List.set]); repeat (first | with_reducible exact List.mem_cons_self | with_reducible apply List.mem_cons_of_mem))) (by kernel_rfl) (by kernel_rfl) (hK _ _ ?_); clear hK K)
      | (go_at_call 36; go_must (refine (rmay_spec W _ _ hs As D0.secs.length cs _ _ (f : Nat) (m : Nat) epoch low next hlow hnext hD12).mono ?_); clear hs; rintro e w1 ⟨rfl, hs⟩; rw [hB.out])
      | (go_at_call 32; go_must (refine (rfew_spec W _ _ hs (by (try dsimp only [List.set]); repeat (first | exact hold | apply List.mem_cons_of_mem)) _ l h).mono ?_); clear hs; rintro e w1 ⟨rfl, hs⟩; rw [hF.out]))
    have hs1 := hs.pack (L := row b8 (rrCells (.slice As D0.secs.length cs) (.slice Aa D0.row.length ca) (.slice Ar D0.row.length cr) (rgPlay ⟨D0, f, m, epoch, low, next⟩ (l.take 0))) 75 :: disk b1 (rgPlay ⟨D0, f, m, epoch, low, next⟩ (l.take 0)).D :: rg br b1 (rgPlay ⟨D0, f, m, epoch, low, next⟩ (l.take 0)) :: ref (.slice As D0.secs.length cs) (.slice Aa D0.row.length ca) (.slice Ar D0.row.length cr) (rgPlay ⟨D0, f, m, epoch, low, next⟩ (l.take 0)).D :: L) (by
      rw [show rgPlay ⟨D0, f, m, epoch, low, next⟩ (l.take 0) = ⟨D0, f, m, epoch, low, next⟩ from rfl]
      unfold rrCells
      exact (by repeat (first | with_reducible exact Pack.refl | with_reducible exact Pack.nil | with_reducible refine Pack.cons (by repeat (first | with_reducible exact Pick.here | with_reducible apply Pick.there)) ?_ | with_reducible apply Pack.drop)))
    clear hs
    have hs := hs1
    clear hs1
    go_loopw [9] (fun v9 wr => ∃ (k : Nat) (us ua ur : Value), k ≤ l.length ∧ v9 = .int .i64 (k : Nat) ∧ Sat W wr (row b8 (rrCells us ua ur (rgPlay ⟨D0, f, m, epoch, low, next⟩ (l.take k))) 75 :: disk b1 (rgPlay ⟨D0, f, m, epoch, low, next⟩ (l.take k)).D :: rg br b1 (rgPlay ⟨D0, f, m, epoch, low, next⟩ (l.take k)) :: ref us ua ur (rgPlay ⟨D0, f, m, epoch, low, next⟩ (l.take k)).D :: L)) (fun v9 _ => l.length - (intOf v9).toNat)
    case atStart => exact ⟨0, _, _, _, by omega, rfl, hs⟩
    case round =>
      clear hs
      obtain ⟨k, us, ua, ur, hk, rfl, hs⟩ := hrel
      have hsn := fun h => rgPlay_snoc ⟨D0, f, m, epoch, low, next⟩ l k h
      obtain ⟨ok, hsz, hrow⟩ := hINV.out k hk
      have HSZ := Box.mk hsz
      clear hsz
      generalize hst : rgPlay ⟨D0, f, m, epoch, low, next⟩ (l.take k) = R at *
      have HS := Box.mk hsn
      clear hsn hst
      obtain ⟨As1, cs1, rfl, _, _⟩ := slice_form (hs.slice (ref_secs (by (try dsimp only [List.set]); repeat (first | with_reducible exact List.mem_cons_self | with_reducible apply List.mem_cons_of_mem))))
      obtain ⟨Aa1, ca1, rfl, _, _⟩ := slice_form (hs.slice (ref_ats (by (try dsimp only [List.set]); repeat (first | with_reducible exact List.mem_cons_self | with_reducible apply List.mem_cons_of_mem))))
      obtain ⟨Ar1, cr1, rfl, _, _⟩ := slice_form (hs.slice (ref_row (by (try dsimp only [List.set]); repeat (first | with_reducible exact List.mem_cons_self | with_reducible apply List.mem_cons_of_mem))))
      by_cases hlt : k < l.length
      · have hltI : (k : Int) < (l.length : Int) := by omega
        have hk30 : k < 30 := by have := hsm.1; omega
        generalize Value.slice As1 R.D.secs.length cs1 = us at hs
        generalize Value.slice Aa1 R.D.row.length ca1 = ua at hs
        generalize Value.slice Ar1 R.D.row.length cr1 = ur at hs
        obtain ⟨bd, od, cd, vb, e, hrg, hb⟩ := rdeeds_old h k hlt
        cases e
        have hS := HS.out hlt
        have hc4 := hsm.2 l[k] (List.getElem_mem hlt)
        have ok' := Rg.deed_ok ok l[k]
        generalize l[k] = c at hrg hb hS hc4 ok'
        obtain ⟨Ab, cb, rfl, _, _⟩ := slice_form (hs.slice (has_w (by (try dsimp only [List.set]); repeat (first | exact hold | apply List.mem_cons_of_mem)) hb))
        have hSt := Box.mk hS
        clear hS
        have cS : ∀ w M, Sat W w M → row b8 (rrCells us ua ur R) 75 ∈ M → old W ∈ M → runS7 b8 (rrCells us ua ur R) bd (od + k * 3) (rdCells c (.slice Ab c.rec_.length cb)) w := fun w M h hm ho => ⟨range_whole h hm, rold_range h ho hrg (by simp [rdCells])⟩
        have r32 : ∀ w, runS7 b8 (rrCells us ua ur R) bd (od + k * 3) (rdCells c (.slice Ab c.rec_.length cb)) w → w.rangeAt b8 0 (rrCells us ua ur R) := fun w h => h.1
        have r36 : ∀ w, runS7 b8 (rrCells us ua ur R) bd (od + k * 3) (rdCells c (.slice Ab c.rec_.length cb)) w → w.rangeAt bd (od + k * 3) (rdCells c (.slice Ab c.rec_.length cb)) := fun w h => h.2
        have hrow7 : R.D.row.length ≤ 700000 := by omega
        go_wp2_with fail
        have hS0 := cS _ _ hs.drew (by (try dsimp only [List.set]); repeat (first | with_reducible exact List.mem_cons_self | with_reducible apply List.mem_cons_of_mem)) (by (try dsimp only [List.set]); repeat (first | exact hold | apply List.mem_cons_of_mem))
        refine wp_region_tree (runS7 b8 (rrCells us ua ur R) bd (od + k * 3) (rdCells c (.slice Ab c.rec_.length cb))) (.take 0 (.take 1 (.take 2 (.take 3 (.take 4 (.take 5 (.take 6 (.all [(7, .take 8 (.take 9 (.take 10 (.all [(11, .all [(12, .take 13 (DTree.done))])])))), (11, .all [(7, .take 8 (.take 9 (.take 10 (.all [(12, .take 13 (DTree.done))]))))])])))))))) (by kernel_rfl) (by kernel_rfl) (by kernel_rfl) (fun _ _ d _ _ h => by cases d <;> exact h) hS0 ?_
        have hs' := hs.drew
        clear hs
        have hs := hs'
        clear hs'
        have hq := fun p : Prop => class_const hS0 p
        clear hS0
        repeat (first
          | (with_reducible refine tree_load_agg (o := ⟨some 69, .load _ _, _, _, _, _⟩) (rrCells us ua ur R) rfl rfl rfl rfl ?_ ?_ r32 ?_; (kernel_rfl); (kernel_rfl))
          | (with_reducible refine tree_load_agg (o := ⟨some 73, .load _ _, _, _, _, _⟩) (rdCells c (.slice Ab c.rec_.length cb)) rfl rfl rfl rfl ?_ ?_ r36 ?_; (kernel_rfl); (kernel_rfl))
          | (refine tree_take rfl (fun K hK => ?_); go_simp; with_reducible refine hK _ ?_; clear hK K))
        refine tree_all (trees_cons_yes (o := _) rfl rfl (fun K hK => ?_) (cS _ _ hs (by (try dsimp only [List.set]); repeat (first | with_reducible exact List.mem_cons_self | with_reducible apply List.mem_cons_of_mem)) (by (try dsimp only [List.set]); repeat (first | exact hold | apply List.mem_cons_of_mem))) (trees_cons_yes (o := _) rfl rfl (fun K hK => ?_) (cS _ _ hs (by (try dsimp only [List.set]); repeat (first | with_reducible exact List.mem_cons_self | with_reducible apply List.mem_cons_of_mem)) (by (try dsimp only [List.set]); repeat (first | exact hold | apply List.mem_cons_of_mem))) trees_nil))
        · try go_simp
          go_at_call 37
          refine (rgdo_spec W _ _ b1 br us ua ur (.slice Ab c.rec_.length cb) R ok c (((hs.pick (A := ref us ua ur R.D) (by repeat (first | with_reducible exact Pick.here | with_reducible apply Pick.there))).pick (A := rg br b1 R) (by repeat (first | with_reducible exact Pick.here | with_reducible apply Pick.there))).pick (A := disk b1 R.D) (by repeat (first | with_reducible exact Pick.here | with_reducible apply Pick.there))) (has_w (by (try dsimp only [List.set]); repeat (first | exact hold | apply List.mem_cons_of_mem)) hb) hc4 hrow7).mono ?_
          clear hs
          rintro e w5 ⟨vs2, va2, vr2, rfl, hs⟩
          generalize hR' : R.deed c = R' at hs
          obtain ⟨As2, cs2, rfl, _, _⟩ := slice_form (hs.slice (ref_secs (by (try dsimp only [List.set]); repeat (first | with_reducible exact List.mem_cons_self | with_reducible apply List.mem_cons_of_mem))))
          obtain ⟨Aa2, ca2, rfl, _, _⟩ := slice_form (hs.slice (ref_ats (by (try dsimp only [List.set]); repeat (first | with_reducible exact List.mem_cons_self | with_reducible apply List.mem_cons_of_mem))))
          obtain ⟨Ar2, cr2, rfl, _, _⟩ := slice_form (hs.slice (ref_row (by (try dsimp only [List.set]); repeat (first | with_reducible exact List.mem_cons_self | with_reducible apply List.mem_cons_of_mem))))
          try go_simp
          refine hK _ _ (cS _ _ hs (by (try dsimp only [List.set]); repeat (first | with_reducible exact List.mem_cons_self | with_reducible apply List.mem_cons_of_mem)) (by (try dsimp only [List.set]); repeat (first | exact hold | apply List.mem_cons_of_mem))) ?_
          clear hK K
          repeat (first
            | (with_reducible refine tree_load_agg (o := ⟨some 69, .load _ _, _, _, _, _⟩) (rrCells us ua ur R) rfl rfl rfl rfl ?_ ?_ r32 ?_; (kernel_rfl); (kernel_rfl))
            | (with_reducible refine tree_load_agg (o := ⟨some 73, .load _ _, _, _, _, _⟩) (rdCells c (.slice Ab c.rec_.length cb)) rfl rfl rfl rfl ?_ ?_ r36 ?_; (kernel_rfl); (kernel_rfl))
            | (refine tree_take rfl (fun K hK => ?_); go_simp; with_reducible refine hK _ ?_; clear hK K))
          refine tree_one_yes (o := _) rfl rfl (fun K hK => ?_) (cS _ _ hs (by (try dsimp only [List.set]); repeat (first | with_reducible exact List.mem_cons_self | with_reducible apply List.mem_cons_of_mem)) (by (try dsimp only [List.set]); repeat (first | exact hold | apply List.mem_cons_of_mem)))
          refine op_alloc hs rfl _ zrref zrCells rfl fun b13 w2 h => hK _ _ (cS _ _ h (by (try dsimp only [List.set]); repeat (first | with_reducible exact List.mem_cons_self | with_reducible apply List.mem_cons_of_mem)) (by (try dsimp only [List.set]); repeat (first | exact hold | apply List.mem_cons_of_mem))) ?_
          clear hs hK K
          have hs := h
          clear h
          try dsimp only [List.set] at hs
          try go_simp
          refine tree_one_yes (o := _) rfl rfl (fun K hK => ?_) (cS _ _ hs (by (try dsimp only [List.set]); repeat (first | with_reducible exact List.mem_cons_self | with_reducible apply List.mem_cons_of_mem)) (by (try dsimp only [List.set]); repeat (first | exact hold | apply List.mem_cons_of_mem)))
          refine op_store_whole (hs.pick (A := row b13 zrCells 75) (by repeat (first | with_reducible exact Pick.here | with_reducible apply Pick.there))) rfl (b := b13) rfl (rrCells (.slice As2 R'.D.secs.length cs2) (.slice Aa2 R'.D.row.length ca2) (.slice Ar2 R'.D.row.length cr2) R') rfl (rri_one rfl rfl rfl _ _ _ _ _) (by kernel_rfl) (k := 0) rfl rfl fun w3 h => hK _ _ (cS _ _ h (by (try dsimp only [List.set]); repeat (first | with_reducible exact List.mem_cons_self | with_reducible apply List.mem_cons_of_mem)) (by (try dsimp only [List.set]); repeat (first | exact hold | apply List.mem_cons_of_mem))) ?_
          clear hs hK K
          have hs := h
          clear h
          try dsimp only [List.set] at hs
          try go_simp
          repeat (first
            | (with_reducible refine tree_load_agg (o := ⟨some 69, .load _ _, _, _, _, _⟩) (rrCells us ua ur R) rfl rfl rfl rfl ?_ ?_ r32 ?_; (kernel_rfl); (kernel_rfl))
            | (with_reducible refine tree_load_agg (o := ⟨some 73, .load _ _, _, _, _, _⟩) (rdCells c (.slice Ab c.rec_.length cb)) rfl rfl rfl rfl ?_ ?_ r36 ?_; (kernel_rfl); (kernel_rfl))
            | (refine tree_take rfl (fun K hK => ?_); go_simp; with_reducible refine hK _ ?_; clear hK K))
          refine tree_done ?_
          clear hq
          have ok2 := ok'
          rw [hR'] at ok2
          have hnew : Box (rgPlay ⟨D0, f, m, epoch, low, next⟩ (l.take (k + 1)) = R') := ⟨by rw [hSt.out, hR']⟩
          clear cS r32 r36
          have cS : ∀ w M, Sat W w M → row b8 (rrCells (.slice As2 R'.D.secs.length cs2) (.slice Aa2 R'.D.row.length ca2) (.slice Ar2 R'.D.row.length cr2) R') 75 ∈ M → rngS b8 (rrCells (.slice As2 R'.D.secs.length cs2) (.slice Aa2 R'.D.row.length ca2) (.slice Ar2 R'.D.row.length cr2) R') w := fun w M h hm => range_whole h hm
          have d84 : ∀ w, rngS b8 (rrCells (.slice As2 R'.D.secs.length cs2) (.slice Aa2 R'.D.row.length ca2) (.slice Ar2 R'.D.row.length cr2) R') w → w.cell? ⟨b8, 6, none⟩ = some (.int .u32 (R'.low : Nat)) := fun w h => h 6 _ rfl
          have d91 : ∀ w, rngS b8 (rrCells (.slice As2 R'.D.secs.length cs2) (.slice Aa2 R'.D.row.length ca2) (.slice Ar2 R'.D.row.length cr2) R') w → w.cell? ⟨b8, 7, none⟩ = some (.int .u32 (R'.next : Nat)) := fun w h => h 7 _ rfl
          have d97 : ∀ w, rngS b8 (rrCells (.slice As2 R'.D.secs.length cs2) (.slice Aa2 R'.D.row.length ca2) (.slice Ar2 R'.D.row.length cr2) R') w → w.rangeAt b8 0 (rrCells (.slice As2 R'.D.secs.length cs2) (.slice Aa2 R'.D.row.length ca2) (.slice Ar2 R'.D.row.length cr2) R') := fun w h => h
          go_wp2_with (first
            | (guard_target = wpList _ _ _ (⟨some 77, .load _ _, _, _, _, _⟩ :: _) _ _; refine wpl (o := ⟨some 77, .load _ _, _, _, _, _⟩) rfl fun K hK => op_load_agg rfl (b := b13) (i := 0) rfl (rrCells (.slice As2 R'.D.secs.length cs2) (.slice Aa2 R'.D.row.length ca2) (.slice Ar2 R'.D.row.length cr2) R') (range_whole hs m0) (by kernel_rfl) (by kernel_rfl) (hK _ _ ?_); clear hK K)
            | (guard_target = wpList _ _ _ (⟨none, .store _ (.tmp 8) _, _, _, _, _⟩ :: _) _ _; refine wpl (o := ⟨none, .store _ (.tmp 8) _, _, _, _, _⟩) rfl fun K hK => ?_; go_must (refine op_store_whole (hs.pick (A := row b8 (rrCells us ua ur R) 75) (by repeat (first | with_reducible exact Pick.here | with_reducible apply Pick.there))) (b := b8) rfl rfl (rrCells (.slice As2 R'.D.secs.length cs2) (.slice Aa2 R'.D.row.length ca2) (.slice Ar2 R'.D.row.length cr2) R') rfl (rri_one rfl rfl rfl _ _ _ _ _) (by kernel_rfl) (k := 0) rfl rfl fun w4 h => hK _ _ ?_); clear hs hK K; have hs := h; clear h; try dsimp only [List.set] at hs))
          have hS0 := cS _ _ hs.drew (by (try dsimp only [List.set]); repeat (first | with_reducible exact List.mem_cons_self | with_reducible apply List.mem_cons_of_mem))
          refine wp_region_tree (rngS b8 (rrCells (.slice As2 R'.D.secs.length cs2) (.slice Aa2 R'.D.row.length ca2) (.slice Ar2 R'.D.row.length cr2) R')) (.take 0 (.take 1 (.take 2 (.take 3 (.take 5 (.take 6 (.all [(4, .take 7 (.take 8 (.take 9 (.take 10 (.take 12 (.take 13 (.all [(11, .take 14 (.take 15 (.take 16 (.take 17 (.take 19 (.all [(18, .all [(20, .take 21 (.take 22 (DTree.done)))])]))))))])))))))]))))))) (by kernel_rfl) (by kernel_rfl) (by kernel_rfl) (fun _ _ d _ _ h => by cases d <;> exact h) hS0 ?_
          have hs' := hs.drew
          clear hs
          have hs := hs'
          clear hs'
          have hq := fun p : Prop => class_const hS0 p
          clear hS0
          repeat (first
            | (with_reducible refine tree_load (o := ⟨some 84, .load _ _, _, _, _, _⟩) rfl rfl rfl rfl rfl d84 ?_)
            | (with_reducible refine tree_load (o := ⟨some 91, .load _ _, _, _, _, _⟩) rfl rfl rfl rfl rfl d91 ?_)
            | (with_reducible refine tree_load_agg (o := ⟨some 97, .load _ _, _, _, _, _⟩) (rrCells (.slice As2 R'.D.secs.length cs2) (.slice Aa2 R'.D.row.length ca2) (.slice Ar2 R'.D.row.length cr2) R') rfl rfl rfl rfl ?_ ?_ d97 ?_; (kernel_rfl); (kernel_rfl))
            | (refine tree_take rfl (fun K hK => ?_); go_simp; with_reducible refine hK _ ?_; clear hK K))
          refine tree_one_yes (o := _) rfl rfl (fun K hK => ?_) (cS _ _ hs (by (try dsimp only [List.set]); repeat (first | with_reducible exact List.mem_cons_self | with_reducible apply List.mem_cons_of_mem)))
          try go_simp
          go_at_call 28
          refine (rlow_spec W _ _ hs br b1 R' (by (try dsimp only [List.set]); repeat (first | with_reducible exact List.mem_cons_self | with_reducible apply List.mem_cons_of_mem))).mono ?_
          clear hs
          rintro e w5 ⟨rfl, hs⟩
          try go_simp
          refine hK _ _ (cS _ _ hs (by (try dsimp only [List.set]); repeat (first | with_reducible exact List.mem_cons_self | with_reducible apply List.mem_cons_of_mem))) ?_
          clear hK K
          repeat (first
            | (with_reducible refine tree_load (o := ⟨some 84, .load _ _, _, _, _, _⟩) rfl rfl rfl rfl rfl d84 ?_)
            | (with_reducible refine tree_load (o := ⟨some 91, .load _ _, _, _, _, _⟩) rfl rfl rfl rfl rfl d91 ?_)
            | (with_reducible refine tree_load_agg (o := ⟨some 97, .load _ _, _, _, _, _⟩) (rrCells (.slice As2 R'.D.secs.length cs2) (.slice Aa2 R'.D.row.length ca2) (.slice Ar2 R'.D.row.length cr2) R') rfl rfl rfl rfl ?_ ?_ d97 ?_; (kernel_rfl); (kernel_rfl))
            | (refine tree_take rfl (fun K hK => ?_); go_simp; with_reducible refine hK _ ?_; clear hK K))
          refine tree_one_yes (o := _) rfl rfl (fun K hK => ?_) (cS _ _ hs (by (try dsimp only [List.set]); repeat (first | with_reducible exact List.mem_cons_self | with_reducible apply List.mem_cons_of_mem)))
          try go_simp
          go_at_call 29
          refine (rnext_spec W _ _ hs br b1 R' (by (try dsimp only [List.set]); repeat (first | with_reducible exact List.mem_cons_self | with_reducible apply List.mem_cons_of_mem))).mono ?_
          clear hs
          rintro e w5 ⟨rfl, hs⟩
          try go_simp
          refine hK _ _ (cS _ _ hs (by (try dsimp only [List.set]); repeat (first | with_reducible exact List.mem_cons_self | with_reducible apply List.mem_cons_of_mem))) ?_
          clear hK K
          repeat (first
            | (with_reducible refine tree_load (o := ⟨some 84, .load _ _, _, _, _, _⟩) rfl rfl rfl rfl rfl d84 ?_)
            | (with_reducible refine tree_load (o := ⟨some 91, .load _ _, _, _, _, _⟩) rfl rfl rfl rfl rfl d91 ?_)
            | (with_reducible refine tree_load_agg (o := ⟨some 97, .load _ _, _, _, _, _⟩) (rrCells (.slice As2 R'.D.secs.length cs2) (.slice Aa2 R'.D.row.length ca2) (.slice Ar2 R'.D.row.length cr2) R') rfl rfl rfl rfl ?_ ?_ d97 ?_; (kernel_rfl); (kernel_rfl))
            | (refine tree_take rfl (fun K hK => ?_); go_simp; with_reducible refine hK _ ?_; clear hK K))
          refine tree_one_yes (o := _) rfl rfl (fun K hK => ?_) (cS _ _ hs (by (try dsimp only [List.set]); repeat (first | with_reducible exact List.mem_cons_self | with_reducible apply List.mem_cons_of_mem)))
          try go_simp
          go_at_call 30
          refine (rfree_spec W _ _ hs br b1 R' ok2 (by (try dsimp only [List.set]); repeat (first | with_reducible exact List.mem_cons_self | with_reducible apply List.mem_cons_of_mem))).mono ?_
          clear hs
          rintro e w5 ⟨rfl, hs⟩
          try go_simp
          refine hK _ _ (cS _ _ hs (by (try dsimp only [List.set]); repeat (first | with_reducible exact List.mem_cons_self | with_reducible apply List.mem_cons_of_mem))) ?_
          clear hK K
          refine tree_one_yes (o := _) rfl rfl (fun K hK => ?_) (cS _ _ hs (by (try dsimp only [List.set]); repeat (first | with_reducible exact List.mem_cons_self | with_reducible apply List.mem_cons_of_mem)))
          try go_simp
          go_at_call 38
          refine (rrfree_spec W _ _ hs _ _ _ R' ok2).mono ?_
          clear hs
          rintro e w5 ⟨rfl, hs⟩
          try go_simp
          refine hK _ _ (cS _ _ hs (by (try dsimp only [List.set]); repeat (first | with_reducible exact List.mem_cons_self | with_reducible apply List.mem_cons_of_mem))) ?_
          clear hK K
          repeat (first
            | (with_reducible refine tree_load (o := ⟨some 84, .load _ _, _, _, _, _⟩) rfl rfl rfl rfl rfl d84 ?_)
            | (with_reducible refine tree_load (o := ⟨some 91, .load _ _, _, _, _, _⟩) rfl rfl rfl rfl rfl d91 ?_)
            | (with_reducible refine tree_load_agg (o := ⟨some 97, .load _ _, _, _, _, _⟩) (rrCells (.slice As2 R'.D.secs.length cs2) (.slice Aa2 R'.D.row.length ca2) (.slice Ar2 R'.D.row.length cr2) R') rfl rfl rfl rfl ?_ ?_ d97 ?_; (kernel_rfl); (kernel_rfl))
            | (refine tree_take rfl (fun K hK => ?_); go_simp; with_reducible refine hK _ ?_; clear hK K))
          refine tree_done ?_
          clear hq
          go_wp2_with fail
          refine ⟨⟨k + 1, .slice As2 R'.D.secs.length cs2, .slice Aa2 R'.D.row.length ca2, .slice Ar2 R'.D.row.length cr2, by omega, by go_num, ?_⟩, by simp only [intOf]; omega⟩
          rw [hnew.out]
          exact hs.pack (by repeat (first | with_reducible exact Pack.refl | with_reducible exact Pack.nil | with_reducible refine Pack.cons (by repeat (first | with_reducible exact Pick.here | with_reducible apply Pick.there)) ?_ | with_reducible apply Pack.drop))
        · refine op_alloc hs rfl _ zrref zrCells rfl fun b13 w2 h => hK _ _ (cS _ _ h (by (try dsimp only [List.set]); repeat (first | with_reducible exact List.mem_cons_self | with_reducible apply List.mem_cons_of_mem)) (by (try dsimp only [List.set]); repeat (first | exact hold | apply List.mem_cons_of_mem))) ?_
          clear hs hK K
          have hs := h
          clear h
          try dsimp only [List.set] at hs
          try go_simp
          refine tree_one_yes (o := _) rfl rfl (fun K hK => ?_) (cS _ _ hs (by (try dsimp only [List.set]); repeat (first | with_reducible exact List.mem_cons_self | with_reducible apply List.mem_cons_of_mem)) (by (try dsimp only [List.set]); repeat (first | exact hold | apply List.mem_cons_of_mem)))
          try go_simp
          go_at_call 37
          refine (rgdo_spec W _ _ b1 br us ua ur (.slice Ab c.rec_.length cb) R ok c (((hs.pick (A := ref us ua ur R.D) (by repeat (first | with_reducible exact Pick.here | with_reducible apply Pick.there))).pick (A := rg br b1 R) (by repeat (first | with_reducible exact Pick.here | with_reducible apply Pick.there))).pick (A := disk b1 R.D) (by repeat (first | with_reducible exact Pick.here | with_reducible apply Pick.there))) (has_w (by (try dsimp only [List.set]); repeat (first | exact hold | apply List.mem_cons_of_mem)) hb) hc4 hrow7).mono ?_
          clear hs
          rintro e w5 ⟨vs2, va2, vr2, rfl, hs⟩
          generalize hR' : R.deed c = R' at hs
          obtain ⟨As2, cs2, rfl, _, _⟩ := slice_form (hs.slice (ref_secs (by (try dsimp only [List.set]); repeat (first | with_reducible exact List.mem_cons_self | with_reducible apply List.mem_cons_of_mem))))
          obtain ⟨Aa2, ca2, rfl, _, _⟩ := slice_form (hs.slice (ref_ats (by (try dsimp only [List.set]); repeat (first | with_reducible exact List.mem_cons_self | with_reducible apply List.mem_cons_of_mem))))
          obtain ⟨Ar2, cr2, rfl, _, _⟩ := slice_form (hs.slice (ref_row (by (try dsimp only [List.set]); repeat (first | with_reducible exact List.mem_cons_self | with_reducible apply List.mem_cons_of_mem))))
          try go_simp
          refine hK _ _ (cS _ _ hs (by (try dsimp only [List.set]); repeat (first | with_reducible exact List.mem_cons_self | with_reducible apply List.mem_cons_of_mem)) (by (try dsimp only [List.set]); repeat (first | exact hold | apply List.mem_cons_of_mem))) ?_
          clear hK K
          repeat (first
            | (with_reducible refine tree_load_agg (o := ⟨some 69, .load _ _, _, _, _, _⟩) (rrCells us ua ur R) rfl rfl rfl rfl ?_ ?_ r32 ?_; (kernel_rfl); (kernel_rfl))
            | (with_reducible refine tree_load_agg (o := ⟨some 73, .load _ _, _, _, _, _⟩) (rdCells c (.slice Ab c.rec_.length cb)) rfl rfl rfl rfl ?_ ?_ r36 ?_; (kernel_rfl); (kernel_rfl))
            | (refine tree_take rfl (fun K hK => ?_); go_simp; with_reducible refine hK _ ?_; clear hK K))
          refine tree_one_yes (o := _) rfl rfl (fun K hK => ?_) (cS _ _ hs (by (try dsimp only [List.set]); repeat (first | with_reducible exact List.mem_cons_self | with_reducible apply List.mem_cons_of_mem)) (by (try dsimp only [List.set]); repeat (first | exact hold | apply List.mem_cons_of_mem)))
          refine op_store_whole (hs.pick (A := row b13 zrCells 75) (by repeat (first | with_reducible exact Pick.here | with_reducible apply Pick.there))) rfl (b := b13) rfl (rrCells (.slice As2 R'.D.secs.length cs2) (.slice Aa2 R'.D.row.length ca2) (.slice Ar2 R'.D.row.length cr2) R') rfl (rri_one rfl rfl rfl _ _ _ _ _) (by kernel_rfl) (k := 0) rfl rfl fun w3 h => hK _ _ (cS _ _ h (by (try dsimp only [List.set]); repeat (first | with_reducible exact List.mem_cons_self | with_reducible apply List.mem_cons_of_mem)) (by (try dsimp only [List.set]); repeat (first | exact hold | apply List.mem_cons_of_mem))) ?_
          clear hs hK K
          have hs := h
          clear h
          try dsimp only [List.set] at hs
          try go_simp
          repeat (first
            | (with_reducible refine tree_load_agg (o := ⟨some 69, .load _ _, _, _, _, _⟩) (rrCells us ua ur R) rfl rfl rfl rfl ?_ ?_ r32 ?_; (kernel_rfl); (kernel_rfl))
            | (with_reducible refine tree_load_agg (o := ⟨some 73, .load _ _, _, _, _, _⟩) (rdCells c (.slice Ab c.rec_.length cb)) rfl rfl rfl rfl ?_ ?_ r36 ?_; (kernel_rfl); (kernel_rfl))
            | (refine tree_take rfl (fun K hK => ?_); go_simp; with_reducible refine hK _ ?_; clear hK K))
          refine tree_done ?_
          clear hq
          have ok2 := ok'
          rw [hR'] at ok2
          have hnew : Box (rgPlay ⟨D0, f, m, epoch, low, next⟩ (l.take (k + 1)) = R') := ⟨by rw [hSt.out, hR']⟩
          clear cS r32 r36
          have cS : ∀ w M, Sat W w M → row b8 (rrCells (.slice As2 R'.D.secs.length cs2) (.slice Aa2 R'.D.row.length ca2) (.slice Ar2 R'.D.row.length cr2) R') 75 ∈ M → rngS b8 (rrCells (.slice As2 R'.D.secs.length cs2) (.slice Aa2 R'.D.row.length ca2) (.slice Ar2 R'.D.row.length cr2) R') w := fun w M h hm => range_whole h hm
          have d84 : ∀ w, rngS b8 (rrCells (.slice As2 R'.D.secs.length cs2) (.slice Aa2 R'.D.row.length ca2) (.slice Ar2 R'.D.row.length cr2) R') w → w.cell? ⟨b8, 6, none⟩ = some (.int .u32 (R'.low : Nat)) := fun w h => h 6 _ rfl
          have d91 : ∀ w, rngS b8 (rrCells (.slice As2 R'.D.secs.length cs2) (.slice Aa2 R'.D.row.length ca2) (.slice Ar2 R'.D.row.length cr2) R') w → w.cell? ⟨b8, 7, none⟩ = some (.int .u32 (R'.next : Nat)) := fun w h => h 7 _ rfl
          have d97 : ∀ w, rngS b8 (rrCells (.slice As2 R'.D.secs.length cs2) (.slice Aa2 R'.D.row.length ca2) (.slice Ar2 R'.D.row.length cr2) R') w → w.rangeAt b8 0 (rrCells (.slice As2 R'.D.secs.length cs2) (.slice Aa2 R'.D.row.length ca2) (.slice Ar2 R'.D.row.length cr2) R') := fun w h => h
          go_wp2_with (first
            | (guard_target = wpList _ _ _ (⟨some 77, .load _ _, _, _, _, _⟩ :: _) _ _; refine wpl (o := ⟨some 77, .load _ _, _, _, _, _⟩) rfl fun K hK => op_load_agg rfl (b := b13) (i := 0) rfl (rrCells (.slice As2 R'.D.secs.length cs2) (.slice Aa2 R'.D.row.length ca2) (.slice Ar2 R'.D.row.length cr2) R') (range_whole hs m0) (by kernel_rfl) (by kernel_rfl) (hK _ _ ?_); clear hK K)
            | (guard_target = wpList _ _ _ (⟨none, .store _ (.tmp 8) _, _, _, _, _⟩ :: _) _ _; refine wpl (o := ⟨none, .store _ (.tmp 8) _, _, _, _, _⟩) rfl fun K hK => ?_; go_must (refine op_store_whole (hs.pick (A := row b8 (rrCells us ua ur R) 75) (by repeat (first | with_reducible exact Pick.here | with_reducible apply Pick.there))) (b := b8) rfl rfl (rrCells (.slice As2 R'.D.secs.length cs2) (.slice Aa2 R'.D.row.length ca2) (.slice Ar2 R'.D.row.length cr2) R') rfl (rri_one rfl rfl rfl _ _ _ _ _) (by kernel_rfl) (k := 0) rfl rfl fun w4 h => hK _ _ ?_); clear hs hK K; have hs := h; clear h; try dsimp only [List.set] at hs))
          have hS0 := cS _ _ hs.drew (by (try dsimp only [List.set]); repeat (first | with_reducible exact List.mem_cons_self | with_reducible apply List.mem_cons_of_mem))
          refine wp_region_tree (rngS b8 (rrCells (.slice As2 R'.D.secs.length cs2) (.slice Aa2 R'.D.row.length ca2) (.slice Ar2 R'.D.row.length cr2) R')) (.take 0 (.take 1 (.take 2 (.take 3 (.take 5 (.take 6 (.all [(4, .take 7 (.take 8 (.take 9 (.take 10 (.take 12 (.take 13 (.all [(11, .take 14 (.take 15 (.take 16 (.take 17 (.take 19 (.all [(18, .all [(20, .take 21 (.take 22 (DTree.done)))])]))))))])))))))]))))))) (by kernel_rfl) (by kernel_rfl) (by kernel_rfl) (fun _ _ d _ _ h => by cases d <;> exact h) hS0 ?_
          have hs' := hs.drew
          clear hs
          have hs := hs'
          clear hs'
          have hq := fun p : Prop => class_const hS0 p
          clear hS0
          repeat (first
            | (with_reducible refine tree_load (o := ⟨some 84, .load _ _, _, _, _, _⟩) rfl rfl rfl rfl rfl d84 ?_)
            | (with_reducible refine tree_load (o := ⟨some 91, .load _ _, _, _, _, _⟩) rfl rfl rfl rfl rfl d91 ?_)
            | (with_reducible refine tree_load_agg (o := ⟨some 97, .load _ _, _, _, _, _⟩) (rrCells (.slice As2 R'.D.secs.length cs2) (.slice Aa2 R'.D.row.length ca2) (.slice Ar2 R'.D.row.length cr2) R') rfl rfl rfl rfl ?_ ?_ d97 ?_; (kernel_rfl); (kernel_rfl))
            | (refine tree_take rfl (fun K hK => ?_); go_simp; with_reducible refine hK _ ?_; clear hK K))
          refine tree_one_yes (o := _) rfl rfl (fun K hK => ?_) (cS _ _ hs (by (try dsimp only [List.set]); repeat (first | with_reducible exact List.mem_cons_self | with_reducible apply List.mem_cons_of_mem)))
          try go_simp
          go_at_call 28
          refine (rlow_spec W _ _ hs br b1 R' (by (try dsimp only [List.set]); repeat (first | with_reducible exact List.mem_cons_self | with_reducible apply List.mem_cons_of_mem))).mono ?_
          clear hs
          rintro e w5 ⟨rfl, hs⟩
          try go_simp
          refine hK _ _ (cS _ _ hs (by (try dsimp only [List.set]); repeat (first | with_reducible exact List.mem_cons_self | with_reducible apply List.mem_cons_of_mem))) ?_
          clear hK K
          repeat (first
            | (with_reducible refine tree_load (o := ⟨some 84, .load _ _, _, _, _, _⟩) rfl rfl rfl rfl rfl d84 ?_)
            | (with_reducible refine tree_load (o := ⟨some 91, .load _ _, _, _, _, _⟩) rfl rfl rfl rfl rfl d91 ?_)
            | (with_reducible refine tree_load_agg (o := ⟨some 97, .load _ _, _, _, _, _⟩) (rrCells (.slice As2 R'.D.secs.length cs2) (.slice Aa2 R'.D.row.length ca2) (.slice Ar2 R'.D.row.length cr2) R') rfl rfl rfl rfl ?_ ?_ d97 ?_; (kernel_rfl); (kernel_rfl))
            | (refine tree_take rfl (fun K hK => ?_); go_simp; with_reducible refine hK _ ?_; clear hK K))
          refine tree_one_yes (o := _) rfl rfl (fun K hK => ?_) (cS _ _ hs (by (try dsimp only [List.set]); repeat (first | with_reducible exact List.mem_cons_self | with_reducible apply List.mem_cons_of_mem)))
          try go_simp
          go_at_call 29
          refine (rnext_spec W _ _ hs br b1 R' (by (try dsimp only [List.set]); repeat (first | with_reducible exact List.mem_cons_self | with_reducible apply List.mem_cons_of_mem))).mono ?_
          clear hs
          rintro e w5 ⟨rfl, hs⟩
          try go_simp
          refine hK _ _ (cS _ _ hs (by (try dsimp only [List.set]); repeat (first | with_reducible exact List.mem_cons_self | with_reducible apply List.mem_cons_of_mem))) ?_
          clear hK K
          repeat (first
            | (with_reducible refine tree_load (o := ⟨some 84, .load _ _, _, _, _, _⟩) rfl rfl rfl rfl rfl d84 ?_)
            | (with_reducible refine tree_load (o := ⟨some 91, .load _ _, _, _, _, _⟩) rfl rfl rfl rfl rfl d91 ?_)
            | (with_reducible refine tree_load_agg (o := ⟨some 97, .load _ _, _, _, _, _⟩) (rrCells (.slice As2 R'.D.secs.length cs2) (.slice Aa2 R'.D.row.length ca2) (.slice Ar2 R'.D.row.length cr2) R') rfl rfl rfl rfl ?_ ?_ d97 ?_; (kernel_rfl); (kernel_rfl))
            | (refine tree_take rfl (fun K hK => ?_); go_simp; with_reducible refine hK _ ?_; clear hK K))
          refine tree_one_yes (o := _) rfl rfl (fun K hK => ?_) (cS _ _ hs (by (try dsimp only [List.set]); repeat (first | with_reducible exact List.mem_cons_self | with_reducible apply List.mem_cons_of_mem)))
          try go_simp
          go_at_call 30
          refine (rfree_spec W _ _ hs br b1 R' ok2 (by (try dsimp only [List.set]); repeat (first | with_reducible exact List.mem_cons_self | with_reducible apply List.mem_cons_of_mem))).mono ?_
          clear hs
          rintro e w5 ⟨rfl, hs⟩
          try go_simp
          refine hK _ _ (cS _ _ hs (by (try dsimp only [List.set]); repeat (first | with_reducible exact List.mem_cons_self | with_reducible apply List.mem_cons_of_mem))) ?_
          clear hK K
          refine tree_one_yes (o := _) rfl rfl (fun K hK => ?_) (cS _ _ hs (by (try dsimp only [List.set]); repeat (first | with_reducible exact List.mem_cons_self | with_reducible apply List.mem_cons_of_mem)))
          try go_simp
          go_at_call 38
          refine (rrfree_spec W _ _ hs _ _ _ R' ok2).mono ?_
          clear hs
          rintro e w5 ⟨rfl, hs⟩
          try go_simp
          refine hK _ _ (cS _ _ hs (by (try dsimp only [List.set]); repeat (first | with_reducible exact List.mem_cons_self | with_reducible apply List.mem_cons_of_mem))) ?_
          clear hK K
          repeat (first
            | (with_reducible refine tree_load (o := ⟨some 84, .load _ _, _, _, _, _⟩) rfl rfl rfl rfl rfl d84 ?_)
            | (with_reducible refine tree_load (o := ⟨some 91, .load _ _, _, _, _, _⟩) rfl rfl rfl rfl rfl d91 ?_)
            | (with_reducible refine tree_load_agg (o := ⟨some 97, .load _ _, _, _, _, _⟩) (rrCells (.slice As2 R'.D.secs.length cs2) (.slice Aa2 R'.D.row.length ca2) (.slice Ar2 R'.D.row.length cr2) R') rfl rfl rfl rfl ?_ ?_ d97 ?_; (kernel_rfl); (kernel_rfl))
            | (refine tree_take rfl (fun K hK => ?_); go_simp; with_reducible refine hK _ ?_; clear hK K))
          refine tree_done ?_
          clear hq
          go_wp2_with fail
          refine ⟨⟨k + 1, .slice As2 R'.D.secs.length cs2, .slice Aa2 R'.D.row.length ca2, .slice Ar2 R'.D.row.length cr2, by omega, by go_num, ?_⟩, by simp only [intOf]; omega⟩
          rw [hnew.out]
          exact hs.pack (by repeat (first | with_reducible exact Pack.refl | with_reducible exact Pack.nil | with_reducible refine Pack.cons (by repeat (first | with_reducible exact Pick.here | with_reducible apply Pick.there)) ?_ | with_reducible apply Pack.drop))
      · have hltI : ¬ (k : Int) < (l.length : Int) := by omega
        go_wp2_with fail
        go_loopw [12] (fun v12 wr => ∃ i : Nat, i ≤ 12 ∧ v12 = .int .i64 (i : Nat) ∧ Sat W wr (row b8 (rrCells (.slice As1 R.D.secs.length cs1) (.slice Aa1 R.D.row.length ca1) (.slice Ar1 R.D.row.length cr1) R) 75 :: disk b1 R.D :: rg br b1 R :: ref (.slice As1 R.D.secs.length cs1) (.slice Aa1 R.D.row.length ca1) (.slice Ar1 R.D.row.length cr1) R.D :: L)) (fun v12 _ => 12 - (intOf v12).toNat)
        case atStart => exact ⟨0, by omega, rfl, hs⟩
        case round =>
          clear hs
          obtain ⟨i, hi, rfl, hs⟩ := hrel
          have hk30 : k ≤ 30 := by have := hsm.1; omega
          by_cases hi12 : i < 12
          · have hi12I : (i : Int) < 12 := by omega
            have hiD : i < R.D.secs.length := by rw [HSZ.out]; exact hi12
            have hread := Dk.read_len ok.disk hiD
            have hBL : (u8s (R.D.read i)).length = 64 := by simp [hread]
            go_wp2_with (first
              | (go_at_call 39; go_must (refine (read_spec W _ _ b1 R.D (hs.pick (A := disk b1 R.D) (by repeat (first | with_reducible exact Pick.here | with_reducible apply Pick.there))) i hiD (by omega)).mono ?_); clear hs; rintro e w1 ⟨bb, rfl, hs⟩)
              | (guard_target = wpList _ _ _ (⟨some 113, .load _ _, _, _, _, _⟩ :: _) _ _; refine wpl (o := ⟨some 113, .load _ _, _, _, _, _⟩) rfl fun K hK => op_load_agg rfl (b := b8) (i := 0) rfl [.slice As1 R.D.secs.length cs1, .slice Aa1 R.D.row.length ca1, .slice Ar1 R.D.row.length cr1] (range_prefix (l := rrCells (.slice As1 R.D.secs.length cs1) (.slice Aa1 R.D.row.length ca1) (.slice Ar1 R.D.row.length cr1) R) (t := 75) hs [.slice As1 R.D.secs.length cs1, .slice Aa1 R.D.row.length ca1, .slice Ar1 R.D.row.length cr1] _ (show rrCells (.slice As1 R.D.secs.length cs1) (.slice Aa1 R.D.row.length ca1) (.slice Ar1 R.D.row.length cr1) R = [.slice As1 R.D.secs.length cs1, .slice Aa1 R.D.row.length ca1, .slice Ar1 R.D.row.length cr1] ++ _ from rfl) (by (try dsimp only [List.set]); repeat (first | with_reducible exact List.mem_cons_self | with_reducible apply List.mem_cons_of_mem))) (by kernel_rfl) (by kernel_rfl) (hK _ _ ?_); clear hK K)
              | (go_at_call 40; go_must (refine (rread_spec W _ _ _ _ _ R.D (hs.pick (A := ref (.slice As1 R.D.secs.length cs1) (.slice Aa1 R.D.row.length ca1) (.slice Ar1 R.D.row.length cr1) R.D) (by repeat (first | with_reducible exact Pick.here | with_reducible apply Pick.there))) i hiD (by omega) (by rw [HSZ.out]; omega)).mono ?_); clear hs; rintro e w1 ⟨rfl, hs⟩; simp only [str])
              | (guard_target = wpList _ _ _ (⟨some 122, .convert _ _ _, _, _, _, _⟩ :: _) _ _; refine wpl (o := ⟨some 122, .convert _ _ _, _, _, _, _⟩) rfl fun K hK => ?_; go_must (refine op_to_string rfl Try.underlying23 Try.underlying5 Try.underlying9 rfl (hs.bytes (lit_bytes (b := bb) (l := R.D.read i) (t := 111) 1 rfl 64 hread (by omega))) (hK _ _ ?_)); clear hK K))
            refine ⟨⟨i + 1, by omega, by go_num, hs.pack (by repeat (first | with_reducible exact Pack.refl | with_reducible exact Pack.nil | with_reducible refine Pack.cons (by repeat (first | with_reducible exact Pick.here | with_reducible apply Pick.there)) ?_ | with_reducible apply Pack.drop))⟩, by simp only [intOf]; omega⟩
          · have hi12I : ¬ (i : Int) < 12 := by omega
            have cS : ∀ w M, Sat W w M → row b8 (rrCells (.slice As1 R.D.secs.length cs1) (.slice Aa1 R.D.row.length ca1) (.slice Ar1 R.D.row.length cr1) R) 75 ∈ M → rngS b8 (rrCells (.slice As1 R.D.secs.length cs1) (.slice Aa1 R.D.row.length ca1) (.slice Ar1 R.D.row.length cr1) R) w := fun w M h hm => range_whole h hm
            have d132 : ∀ w, rngS b8 (rrCells (.slice As1 R.D.secs.length cs1) (.slice Aa1 R.D.row.length ca1) (.slice Ar1 R.D.row.length cr1) R) w → w.cell? ⟨b8, 2, none⟩ = some (.slice Ar1 R.D.row.length cr1) := fun w h => h 2 _ rfl
            go_wp2_with fail
            have hS0 := cS _ _ hs.drew (by (try dsimp only [List.set]); repeat (first | with_reducible exact List.mem_cons_self | with_reducible apply List.mem_cons_of_mem))
            refine wp_region_tree (rngS b8 (rrCells (.slice As1 R.D.secs.length cs1) (.slice Aa1 R.D.row.length ca1) (.slice Ar1 R.D.row.length cr1) R)) (.take 0 (.take 1 (.take 2 (.take 4 (.take 5 (.take 6 (.take 7 (.all [(3, .take 8 (.take 9 (.take 10 (DTree.done))))])))))))) (by kernel_rfl) (by kernel_rfl) (by kernel_rfl) (fun _ _ d _ _ h => by cases d <;> exact h) hS0 ?_
            have hs' := hs.drew
            clear hs
            have hs := hs'
            clear hs'
            have hq := fun p : Prop => class_const hS0 p
            clear hS0
            repeat (first
              | (with_reducible refine tree_load (o := ⟨some 132, .load _ _, _, _, _, _⟩) rfl rfl rfl rfl rfl d132 ?_)
              | (refine tree_take rfl (fun K hK => ?_); go_simp; with_reducible refine hK _ ?_; clear hK K))
            refine tree_one_yes (o := _) rfl rfl (fun K hK => ?_) (cS _ _ hs (by (try dsimp only [List.set]); repeat (first | with_reducible exact List.mem_cons_self | with_reducible apply List.mem_cons_of_mem)))
            try go_simp
            go_at_call 34
            refine (pending_spec W _ _ b1 R.D (hs.pick (A := disk b1 R.D) (by repeat (first | with_reducible exact Pick.here | with_reducible apply Pick.there)))).mono ?_
            clear hs
            rintro e w5 ⟨rfl, hs⟩
            try go_simp
            refine hK _ _ (cS _ _ hs (by (try dsimp only [List.set]); repeat (first | with_reducible exact List.mem_cons_self | with_reducible apply List.mem_cons_of_mem))) ?_
            clear hK K
            repeat (first
              | (with_reducible refine tree_load (o := ⟨some 132, .load _ _, _, _, _, _⟩) rfl rfl rfl rfl rfl d132 ?_)
              | (refine tree_take rfl (fun K hK => ?_); go_simp; with_reducible refine hK _ ?_; clear hK K))
            refine tree_done ?_
            clear hq
            go_wp2_with fail
            go_ret
            exact ⟨by simp, hs.pack (by repeat (first | with_reducible exact Pack.refl | with_reducible exact Pack.nil | with_reducible refine Pack.cons (by repeat (first | with_reducible exact Pick.here | with_reducible apply Pick.there)) ?_ | with_reducible apply Pack.drop))⟩
theorem ringPlays_main (W : World) (x0 : StartTup) (c0 : List Value) (h0 : startKin.K (hp W) x0 c0) (l : List RDeed) (v : Value) (h1 : (Kin.slice 40 rdeedKin).K (hp W) l [v]) :
    Calls Try.prog 12 #[.agg c0.toArray, v] W fun e w' => e = .returned (.bool true) ∧ Below W.heap.size W w' := by
  obtain ⟨first, many, epoch, low, next, hf, hm, he, hlo, hnx, rfl⟩ := start_cells h0
  have fin : Calls Try.prog 12 #[.agg (startCells first many epoch low next).toArray, v] W fun e w' => e = .returned (.bool true) ∧ Sat W w' [old W] := by
    by_cases hmay : RgMay 12 first many low next
    · have g := hmay
      obtain ⟨f, rfl⟩ := Int.eq_ofNat_of_zero_le g.1
      obtain ⟨m, rfl⟩ := Int.eq_ofNat_of_zero_le (show (0 : Int) ≤ many by have := g.2.1; omega)
      by_cases hsm : Small l
      · exact ringPlays_all W W _ (Sat.start W) m0 f m epoch low next he hlo hnx hmay v l h1 hsm
      · exact ringPlays_many W W _ (Sat.start W) m0 f m epoch low next he hlo hnx hmay v l h1 hsm
    · exact ringPlays_none W W _ (Sat.start W) m0 first many epoch low next hf hlo hnx hmay v l h1
  exact fin.mono fun e w' ⟨he, hs⟩ => ⟨he, hs.end_ m0⟩
end Go.Proofs.Ytoedmjibhpajjaa
