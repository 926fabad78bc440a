/- A deed of a ring, of both. -/
import Derived.Test.YtoedmjibhpajjaaRgRApp
import Derived.Test.YtoedmjibhpajjaaRgDeeds
import Derived.Test.YtoedmjibhpajjaaVdRefC
set_option linter.unusedVariables false
set_option linter.unusedSimpArgs false
namespace Go.Proofs.Ytoedmjibhpajjaa
open Go.RowKit
def Rg.deed (R : Rg) (c : RDeed) : Rg := if c.kind = 1 then R.append c.rec_ else if c.kind = 2 then R.cut (R.low + c.n.toNat) else R.sync
theorem Rg.deed_ok {R : Rg} (ok : R.Ok) (c : RDeed) : (R.deed c).Ok := by
  unfold Rg.deed
  split
  · exact Rg.append_ok ok _
  · split
    · exact Rg.cut_ok ok _
    · exact Rg.sync_ok ok
theorem Rg.deed_row (R : Rg) (c : RDeed) : (R.deed c).D.row.length ≤ R.D.row.length + (cuts c.rec_).length := by
  unfold Rg.deed
  split
  · exact Rg.append_row _ _
  · split
    · simp
    · simp [Rg.sync]
@[simp] theorem Rg.deed_first (R : Rg) (c : RDeed) : (R.deed c).first = R.first := by unfold Rg.deed; split <;> (try split) <;> simp [Rg.sync]
@[simp] theorem Rg.deed_many (R : Rg) (c : RDeed) : (R.deed c).many = R.many := by unfold Rg.deed; split <;> (try split) <;> simp [Rg.sync]
@[simp] theorem Rg.deed_epoch (R : Rg) (c : RDeed) : (R.deed c).epoch = R.epoch := by unfold Rg.deed; split <;> (try split) <;> simp [Rg.sync]
@[simp] theorem Rg.deed_size (R : Rg) (c : RDeed) : (R.deed c).D.secs.length = R.D.secs.length := by unfold Rg.deed; split <;> (try split) <;> simp [Rg.sync]
theorem cuts_400 {l : List UInt8} (h : l.length ≤ 400) : (cuts l).length ≤ 8 := by rw [cuts_number _ l (Nat.le_refl _)]; omega
def doPost (b br : Nat) (R' : Rg) (W : World) (L : List HP) (e : Ending) (w' : World) : Prop := ∃ vs' va' vr', e = .returned (.tuple #[.agg (rrCells vs' va' vr' R').toArray, .bool true]) ∧ Sat W w' (disk b R'.D :: rg br b R' :: ref vs' va' vr' R'.D :: L)
def deedS (b6 : Nat) (cs : List Value) (br : Nat) (ds : List Value) (w : World) : Prop := w.rangeAt b6 0 cs ∧ w.rangeAt br 0 ds
set_option maxRecDepth 100000 in
set_option maxHeartbeats 4000000 in
theorem rgdo_spec (W w : World) (L : List HP) (b br : Nat) (vs va vr vb : Value) (R : Rg) (ok : R.Ok) (c : RDeed) (hs : Sat W w (disk b R.D :: rg br b R :: ref vs va vr R.D :: L)) (hb : Has L (bytesAt vb c.rec_)) (hl : c.rec_.length ≤ 400) (hr : R.D.row.length ≤ 700000) :
    Calls Try.prog 37 #[.pointer (some ⟨b, 0, none⟩), .pointer (some ⟨br, 0, none⟩), .agg (rrCells vs va vr R).toArray, .agg (rdCells c vb).toArray] w (doPost b br (R.deed c) W L) := by
  obtain ⟨As, cs, rfl, _, _⟩ := slice_form (hs.slice (ref_secs (by (try dsimp only [List.set]); repeat (first | with_reducible exact List.mem_cons_self | with_reducible apply List.mem_cons_of_mem))))
  obtain ⟨Aa, ca, rfl, _, _⟩ := slice_form (hs.slice (ref_ats (by (try dsimp only [List.set]); repeat (first | with_reducible exact List.mem_cons_self | with_reducible apply List.mem_cons_of_mem))))
  obtain ⟨Ar, cr, rfl, _, _⟩ := slice_form (hs.slice (ref_row (by (try dsimp only [List.set]); repeat (first | with_reducible exact List.mem_cons_self | with_reducible apply List.mem_cons_of_mem))))
  obtain ⟨Ab, cb, rfl, _, _⟩ := slice_form (hs.slice hb.tail.tail.tail)
  obtain ⟨kind, rec, n⟩ := c
  simp only at hb hl
  generalize hus : Value.slice As R.D.secs.length cs = us at hs
  generalize hua : Value.slice Aa R.D.row.length ca = ua at hs
  generalize hur : Value.slice Ar R.D.row.length cr = ur at hs
  have o1 : us.oneCell' = true := by rw [← hus]; rfl
  have o2 : ua.oneCell' = true := by rw [← hua]; rfl
  have o3 : ur.oneCell' = true := by rw [← hur]; rfl
  have hr8 : R.D.row.length ≤ 800000 := by omega
  have hl5 : rec.length ≤ 100000 := by omega
  by_cases h1 : kind = 1
  · subst h1
    have hD : R.deed ⟨1, rec, n⟩ = R.append rec := by simp [Rg.deed]
    rw [hD]
    clear hD
    generalize hR' : R.append rec = R'
    go_enter Try.func37, Try.ntmps37
    go_wp2_with (first
      | (guard_target = wpList _ _ _ (⟨some 6, .box _ _, _, _, _, _⟩ :: _) _ _; refine wpl (o := ⟨some 6, .box _ _, _, _, _, _⟩) rfl fun K hK => ?_; go_must (refine op_box hs rfl _ rfl (rrCells us ua ur R) rfl fun b6 w1 h => hK _ _ ?_); clear hs hK K; have hs := h; clear h; try dsimp only [List.set] at hs)
      | (guard_target = wpList _ _ _ (⟨some 7, .box _ _, _, _, _, _⟩ :: _) _ _; refine wpl (o := ⟨some 7, .box _ _, _, _, _, _⟩) rfl fun K hK => ?_; go_must (refine op_box hs rfl _ rfl (rdCells ⟨1, rec, n⟩ (.slice Ab rec.length cb)) rfl fun b7 w1 h => hK _ _ ?_); clear hs hK K; have hs := h; clear h; try dsimp only [List.set] at hs)
      | (guard_target = wpList _ _ _ (⟨some 8, .alloc _, _, _, _, _⟩ :: _) _ _; refine wpl (o := ⟨some 8, .alloc _, _, _, _, _⟩) rfl fun K hK => ?_; go_must (refine op_alloc hs rfl _ zrref zrCells rfl fun b8 w1 h => hK _ _ ?_); clear hs hK K; have hs := h; clear h; try dsimp only [List.set] at hs)
      | (guard_target = wpList _ _ _ (⟨some 16, .load _ _, _, _, _, _⟩ :: _) _ _; refine wpl (o := ⟨some 16, .load _ _, _, _, _, _⟩) rfl fun K hK => op_load rfl (ad := ⟨b7, 0, none⟩) rfl (by kernel_rfl) (hs.cell m1 rfl) (hK _ _ ?_); clear hK K)
      | (guard_target = wpList _ _ _ (⟨some 22, .load _ _, _, _, _, _⟩ :: _) _ _; refine wpl (o := ⟨some 22, .load _ _, _, _, _, _⟩) rfl fun K hK => op_load rfl (ad := ⟨b7, 1, none⟩) rfl (by kernel_rfl) (hs.cell m1 rfl) (hK _ _ ?_); clear hK K)
      | (go_at_call 24; go_must (refine (append_spec W _ _ br b R ok ((hs.pick (A := rg br b R) (by repeat (first | with_reducible exact Pick.here | with_reducible apply Pick.there))).pick (A := disk b R.D) (by repeat (first | with_reducible exact Pick.here | with_reducible apply Pick.there))) _ rec (by (try dsimp only [List.set]); repeat (first | exact hb | apply Has.tail)) hl5 hr8).mono ?_); clear hs; rintro e w1 ⟨rfl, hs⟩; rw [hR'] at hs)
      | (guard_target = wpList _ _ _ (⟨some 27, .load _ _, _, _, _, _⟩ :: _) _ _; refine wpl (o := ⟨some 27, .load _ _, _, _, _, _⟩) rfl fun K hK => op_load_agg rfl (b := b6) (i := 0) rfl (rrCells us ua ur R) (range_whole hs (by (try dsimp only [List.set]); repeat (first | with_reducible exact List.mem_cons_self | with_reducible apply List.mem_cons_of_mem))) (by kernel_rfl) (by kernel_rfl) (hK _ _ ?_); clear hK K)
      | (guard_target = wpList _ _ _ (⟨some 29, .load _ _, _, _, _, _⟩ :: _) _ _; refine wpl (o := ⟨some 29, .load _ _, _, _, _, _⟩) rfl fun K hK => op_load rfl (ad := ⟨b7, 1, none⟩) rfl (by kernel_rfl) (hs.cell m3 rfl) (hK _ _ ?_); clear hK K)
      | (guard_target = wpList _ _ _ (⟨some 30, .convert _ _ _, _, _, _, _⟩ :: _) _ _; refine wpl (o := ⟨some 30, .convert _ _ _, _, _, _, _⟩) rfl fun K hK => ?_; go_must (refine op_to_string rfl Try.underlying23 Try.underlying5 Try.underlying9 rfl (hs.bytes ((by (try dsimp only [List.set]); repeat (first | exact hb | apply Has.tail)))) (hK _ _ ?_)); clear hK K)
      | (go_at_call 54; go_must (refine (rappend_spec W _ _ us ua ur R ok (hs.pick (A := ref us ua ur R.D) (by repeat (first | with_reducible exact Pick.here | with_reducible apply Pick.there))) rec hl5 hr8).mono ?_); clear hs; rintro e w1 ⟨vs2, va2, vr2, rfl, hs⟩; rw [hR'] at hs ⊢
         obtain ⟨As2, cs2, rfl, _, _⟩ := slice_form (hs.slice (ref_secs m0))
         obtain ⟨Aa2, ca2, rfl, _, _⟩ := slice_form (hs.slice (ref_ats m0))
         obtain ⟨Ar2, cr2, rfl, _, _⟩ := slice_form (hs.slice (ref_row m0)))
      | (guard_target = wpList _ _ _ (⟨some 12, .alloc _, _, _, _, _⟩ :: _) _ _; refine wpl (o := ⟨some 12, .alloc _, _, _, _, _⟩) rfl fun K hK => ?_; go_must (refine op_alloc hs rfl _ zrref zrCells rfl fun b12 w1 h => hK _ _ ?_); clear hs hK K; have hs := h; clear h; try dsimp only [List.set] at hs)
      | (guard_target = wpList _ _ _ (⟨none, .store _ (.tmp 12) _, _, _, _, _⟩ :: _) _ _; refine wpl (o := ⟨none, .store _ (.tmp 12) _, _, _, _, _⟩) rfl fun K hK => ?_; go_must (refine op_store_whole hs (b := b12) rfl rfl (rrCells (.slice As2 R'.D.secs.length cs2) (.slice Aa2 R'.D.row.length ca2) (.slice Ar2 R'.D.row.length cr2) R') rfl (rri_one rfl rfl rfl _ _ _ _ _) (by kernel_rfl) (k := 0) rfl rfl fun w3 h => hK _ _ ?_); clear hs hK K; have hs := h; clear h; try dsimp only [List.set] at hs)
      | (guard_target = wpList _ _ _ (⟨some 35, .load _ _, _, _, _, _⟩ :: _) _ _; refine wpl (o := ⟨some 35, .load _ _, _, _, _, _⟩) rfl fun K hK => op_load_agg rfl (b := b12) (i := 0) rfl (rrCells (.slice As2 R'.D.secs.length cs2) (.slice Aa2 R'.D.row.length ca2) (.slice Ar2 R'.D.row.length cr2) R') (range_whole hs m0) (by kernel_rfl) (by kernel_rfl) (hK _ _ ?_); clear hK K)
      | (guard_target = wpList _ _ _ (⟨none, .store _ (.tmp 8) _, _, _, _, _⟩ :: _) _ _; refine wpl (o := ⟨none, .store _ (.tmp 8) _, _, _, _, _⟩) rfl fun K hK => ?_; go_must (refine op_store_whole (hs.pick (A := row b8 zrCells 75) (by repeat (first | with_reducible exact Pick.here | with_reducible apply Pick.there))) (b := b8) rfl rfl (rrCells (.slice As2 R'.D.secs.length cs2) (.slice Aa2 R'.D.row.length ca2) (.slice Ar2 R'.D.row.length cr2) R') rfl (rri_one rfl rfl rfl _ _ _ _ _) (by kernel_rfl) (k := 0) rfl rfl fun w3 h => hK _ _ ?_); clear hs hK K; have hs := h; clear h; try dsimp only [List.set] at hs))
    refine bodyPost_ret (run_results_cell_tmp rfl (b := b8) rfl _ (range_whole hs m0) (by kernel_rfl) (by kernel_rfl)) rfl ?_
    exact ⟨.slice As2 R'.D.secs.length cs2, .slice Aa2 R'.D.row.length ca2, .slice Ar2 R'.D.row.length cr2, by simp, hs.pack (by repeat (first | with_reducible exact Pack.refl | with_reducible exact Pack.nil | with_reducible refine Pack.cons (by repeat (first | with_reducible exact Pick.here | with_reducible apply Pick.there)) ?_ | with_reducible apply Pack.drop))⟩
  by_cases h2 : kind = 2
  · subst h2
    have hD : R.deed ⟨2, rec, n⟩ = R.cut (R.low + n.toNat) := by simp [Rg.deed]
    rw [hD]
    clear hD
    have hn8 := n.toNat_lt
    have hlo := ok.lo
    have htop := ok.top
    have hw1 : IntKind.u32.wrap (n.toNat : Int) = (n.toNat : Int) := by rw [IntKind.wrap_u32]; omega
    have hw2 : IntKind.u32.wrap ((R.low : Int) + (n.toNat : Int)) = ((R.low + n.toNat : Nat) : Int) := by rw [IntKind.wrap_u32]; omega
    generalize R.low + n.toNat = lo at hw2 ⊢
    have hDD : (R.cut lo).D = R.D := by simp
    generalize hR' : R.cut lo = R' at hDD
    have cS : ∀ w b7 M, Sat W w M → row b7 (rdCells ⟨2, rec, n⟩ (.slice Ab rec.length cb)) 80 ∈ M → rngS b7 (rdCells ⟨2, rec, n⟩ (.slice Ab rec.length cb)) w := fun w b7 M h hm => range_whole h hm
    have c50 : ∀ b7 w, rngS b7 (rdCells ⟨2, rec, n⟩ (.slice Ab rec.length cb)) w → w.cell? ⟨b7, 2, none⟩ = some (.int .u8 (n.toNat : Int)) := fun b7 w h => h 2 _ rfl
    go_enter Try.func37, Try.ntmps37
    go_wp2_with (first
      | (guard_target = wpList _ _ _ (⟨some 6, .box _ _, _, _, _, _⟩ :: _) _ _; refine wpl (o := ⟨some 6, .box _ _, _, _, _, _⟩) rfl fun K hK => ?_; go_must (refine op_box hs rfl _ rfl (rrCells us ua ur R) rfl fun b6 w1 h => hK _ _ ?_); clear hs hK K; have hs := h; clear h; try dsimp only [List.set] at hs)
      | (guard_target = wpList _ _ _ (⟨some 7, .box _ _, _, _, _, _⟩ :: _) _ _; refine wpl (o := ⟨some 7, .box _ _, _, _, _, _⟩) rfl fun K hK => ?_; go_must (refine op_box hs rfl _ rfl (rdCells ⟨2, rec, n⟩ (.slice Ab rec.length cb)) rfl fun b7 w1 h => hK _ _ ?_); clear hs hK K; have hs := h; clear h; try dsimp only [List.set] at hs)
      | (guard_target = wpList _ _ _ (⟨some 8, .alloc _, _, _, _, _⟩ :: _) _ _; refine wpl (o := ⟨some 8, .alloc _, _, _, _, _⟩) rfl fun K hK => ?_; go_must (refine op_alloc hs rfl _ zrref zrCells rfl fun b8 w1 h => hK _ _ ?_); clear hs hK K; have hs := h; clear h; try dsimp only [List.set] at hs)
      | (guard_target = wpList _ _ _ (⟨some 16, .load _ _, _, _, _, _⟩ :: _) _ _; refine wpl (o := ⟨some 16, .load _ _, _, _, _, _⟩) rfl fun K hK => op_load rfl (ad := ⟨b7, 0, none⟩) rfl (by kernel_rfl) (hs.cell m1 rfl) (hK _ _ ?_); clear hK K))
    have hS0 := cS _ _ _ hs.drew (by (try dsimp only [List.set]); repeat (first | with_reducible exact List.mem_cons_self | with_reducible apply List.mem_cons_of_mem))
    refine wp_region_tree (rngS b7 (rdCells ⟨2, rec, n⟩ (.slice Ab rec.length cb))) (.take 0 (.take 1 (.take 3 (.take 4 (.take 5 (.all [(2, .take 6 (.all [(7, DTree.done)]))])))))) (by kernel_rfl) (by kernel_rfl) (by kernel_rfl) (fun _ _ d _ _ h => by cases d <;> exact h) hS0 ?_
    have hs' := hs.drew
    clear hs
    have hs := hs'
    clear hs'
    have hq := fun p : Prop => class_const hS0 p
    clear hS0
    repeat (first
      | (with_reducible refine tree_load (o := ⟨some 50, .load _ _, _, _, _, _⟩) rfl rfl rfl rfl rfl (c50 b7) ?_)
      | (refine tree_take rfl (fun K hK => ?_); go_simp; with_reducible refine hK _ ?_; clear hK K))
    refine tree_one_yes (o := _) rfl rfl (fun K hK => ?_) (cS _ _ _ hs (by (try dsimp only [List.set]); repeat (first | with_reducible exact List.mem_cons_self | with_reducible apply List.mem_cons_of_mem)))
    try go_simp
    go_at_call 28
    refine (rlow_spec W _ _ hs br b R (by (try dsimp only [List.set]); repeat (first | with_reducible exact List.mem_cons_self | with_reducible apply List.mem_cons_of_mem))).mono ?_
    clear hs
    rintro e w5 ⟨rfl, hs⟩
    try go_simp
    refine hK _ _ (cS _ _ _ hs (by (try dsimp only [List.set]); repeat (first | with_reducible exact List.mem_cons_self | with_reducible apply List.mem_cons_of_mem))) ?_
    clear hK K
    repeat (first
      | (with_reducible refine tree_load (o := ⟨some 50, .load _ _, _, _, _, _⟩) rfl rfl rfl rfl rfl (c50 b7) ?_)
      | (refine tree_take rfl (fun K hK => ?_); go_simp; with_reducible refine hK _ ?_; clear hK K))
    refine tree_one_yes (o := _) rfl rfl (fun K hK => ?_) (cS _ _ _ hs (by (try dsimp only [List.set]); repeat (first | with_reducible exact List.mem_cons_self | with_reducible apply List.mem_cons_of_mem)))
    try go_simp
    go_at_call 25
    refine (truncate_spec W _ _ br b R (hs.pick (A := rg br b R) (by repeat (first | with_reducible exact Pick.here | with_reducible apply Pick.there))) lo).mono ?_
    clear hs
    rintro e w5 ⟨⟨_, rfl⟩, hs⟩
    rw [hR'] at hs
    try go_simp
    refine hK _ _ (cS _ _ _ hs (by (try dsimp only [List.set]); repeat (first | with_reducible exact List.mem_cons_self | with_reducible apply List.mem_cons_of_mem))) ?_
    clear hK K
    refine tree_done ?_
    clear hq
    go_wp2_with (first
      | (guard_target = wpList _ _ _ (⟨some 54, .load _ _, _, _, _, _⟩ :: _) _ _; refine wpl (o := ⟨some 54, .load _ _, _, _, _, _⟩) rfl fun K hK => op_load_agg rfl (b := b6) (i := 0) rfl (rrCells us ua ur R) (range_whole hs (by (try dsimp only [List.set]); repeat (first | with_reducible exact List.mem_cons_self | with_reducible apply List.mem_cons_of_mem))) (by kernel_rfl) (by kernel_rfl) (hK _ _ ?_); clear hK K)
      | (guard_target = wpList _ _ _ (⟨some 56, .load _ _, _, _, _, _⟩ :: _) _ _; refine wpl (o := ⟨some 56, .load _ _, _, _, _, _⟩) rfl fun K hK => op_load rfl (ad := ⟨b6, 6, none⟩) rfl (by kernel_rfl) (hs.cell (l := rrCells us ua ur R) (t := 75) (by (try dsimp only [List.set]); repeat (first | with_reducible exact List.mem_cons_self | with_reducible apply List.mem_cons_of_mem)) rfl) (hK _ _ ?_); clear hK K)
      | (guard_target = wpList _ _ _ (⟨some 58, .load _ _, _, _, _, _⟩ :: _) _ _; refine wpl (o := ⟨some 58, .load _ _, _, _, _, _⟩) rfl fun K hK => op_load rfl (ad := ⟨b7, 2, none⟩) rfl (by kernel_rfl) (hs.cell (l := rdCells ⟨2, rec, n⟩ (.slice Ab rec.length cb)) (t := 80) (by (try dsimp only [List.set]); repeat (first | with_reducible exact List.mem_cons_self | with_reducible apply List.mem_cons_of_mem)) rfl) (hK _ _ ?_); clear hK K)
      | (go_at_call 55; subst hus hua hur; go_must (refine (rtruncate_spec W _ _ hs As Aa Ar _ _ _ cs ca cr R lo).mono ?_); clear hs; rintro e w1 ⟨rfl, hs⟩; rw [hR'])
      | (guard_target = wpList _ _ _ (⟨none, .store _ (.tmp 8) _, _, _, _, _⟩ :: _) _ _; refine wpl (o := ⟨none, .store _ (.tmp 8) _, _, _, _, _⟩) rfl fun K hK => ?_; go_must (refine op_store_whole (hs.pick (A := row b8 zrCells 75) (by repeat (first | with_reducible exact Pick.here | with_reducible apply Pick.there))) (b := b8) rfl rfl (rrCells (.slice As R.D.secs.length cs) (.slice Aa R.D.row.length ca) (.slice Ar R.D.row.length cr) R') rfl (rri_one rfl rfl rfl _ _ _ _ _) (by kernel_rfl) (k := 0) rfl rfl fun w3 h => hK _ _ ?_); clear hs hK K; have hs := h; clear h; try dsimp only [List.set] at hs))
    refine bodyPost_ret (run_results_cell_tmp rfl (b := b8) rfl _ (range_whole hs m0) (by kernel_rfl) (by kernel_rfl)) rfl ?_
    exact ⟨.slice As R.D.secs.length cs, .slice Aa R.D.row.length ca, .slice Ar R.D.row.length cr, by simp, by rw [hDD]; exact hs.pack (by repeat (first | with_reducible exact Pack.refl | with_reducible exact Pack.nil | with_reducible refine Pack.cons (by repeat (first | with_reducible exact Pick.here | with_reducible apply Pick.there)) ?_ | with_reducible apply Pack.drop))⟩
  have hD : R.deed ⟨kind, rec, n⟩ = R.sync := by simp [Rg.deed, h1, h2]
  rw [hD]
  clear hD
  generalize hDn : R.D.sync = Dn
  have hR' : R.sync = ⟨Dn, R.first, R.many, R.epoch, R.low, R.next⟩ := by rw [← hDn]; rfl
  rw [hR']
  go_enter Try.func37, Try.ntmps37
  go_wp2_with (first
    | (guard_target = wpList _ _ _ (⟨some 6, .box _ _, _, _, _, _⟩ :: _) _ _; refine wpl (o := ⟨some 6, .box _ _, _, _, _, _⟩) rfl fun K hK => ?_; go_must (refine op_box hs rfl _ rfl (rrCells us ua ur R) rfl fun b6 w1 h => hK _ _ ?_); clear hs hK K; have hs := h; clear h; try dsimp only [List.set] at hs)
    | (guard_target = wpList _ _ _ (⟨some 7, .box _ _, _, _, _, _⟩ :: _) _ _; refine wpl (o := ⟨some 7, .box _ _, _, _, _, _⟩) rfl fun K hK => ?_; go_must (refine op_box hs rfl _ rfl (rdCells ⟨kind, rec, n⟩ (.slice Ab rec.length cb)) rfl fun b7 w1 h => hK _ _ ?_); clear hs hK K; have hs := h; clear h; try dsimp only [List.set] at hs)
    | (guard_target = wpList _ _ _ (⟨some 8, .alloc _, _, _, _, _⟩ :: _) _ _; refine wpl (o := ⟨some 8, .alloc _, _, _, _, _⟩) rfl fun K hK => ?_; go_must (refine op_alloc hs rfl _ zrref zrCells rfl fun b8 w1 h => hK _ _ ?_); clear hs hK K; have hs := h; clear h; try dsimp only [List.set] at hs)
    | (guard_target = wpList _ _ _ (⟨some 16, .load _ _, _, _, _, _⟩ :: _) _ _; refine wpl (o := ⟨some 16, .load _ _, _, _, _, _⟩) rfl fun K hK => op_load rfl (ad := ⟨b7, 0, none⟩) rfl (by kernel_rfl) (hs.cell m1 rfl) (hK _ _ ?_); clear hK K)
    | (go_at_call 56; go_must (refine (sync_spec W _ _ b R.D (hs.pick (A := disk b R.D) (by repeat (first | with_reducible exact Pick.here | with_reducible apply Pick.there))) (by omega)).mono ?_); clear hs; rintro e w1 ⟨rfl, hs⟩; rw [hDn] at hs)
    | (guard_target = wpList _ _ _ (⟨some 65, .load _ _, _, _, _, _⟩ :: _) _ _; refine wpl (o := ⟨some 65, .load _ _, _, _, _, _⟩) rfl fun K hK => op_load_agg rfl (b := b6) (i := 0) rfl [us, ua, ur] (range_prefix hs [us, ua, ur] _ (show rrCells us ua ur R = [us, ua, ur] ++ _ from rfl) (t := 75) (l := rrCells us ua ur R) (by (try dsimp only [List.set]); repeat (first | with_reducible exact List.mem_cons_self | with_reducible apply List.mem_cons_of_mem))) (by kernel_rfl) (by kernel_rfl) (hK _ _ ?_); clear hK K)
    | (go_at_call 57; go_must (refine (rsync_spec W _ _ us ua ur R.D (hs.pick (A := ref us ua ur R.D) (by repeat (first | with_reducible exact Pick.here | with_reducible apply Pick.there))) ok.disk (by omega)).mono ?_); clear hs; rintro e w1 ⟨vs2, va2, vr2, rfl, hs⟩; rw [hDn] at hs
       obtain ⟨As2, cs2, rfl, _, _⟩ := slice_form (hs.slice (ref_secs m0))
       obtain ⟨Aa2, ca2, rfl, _, _⟩ := slice_form (hs.slice (ref_ats m0))
       obtain ⟨Ar2, cr2, rfl, _, _⟩ := slice_form (hs.slice (ref_row m0)))
    | (guard_target = wpList _ _ _ (⟨none, .store _ (.tmp 67) _, _, _, _, _⟩ :: _) _ _; refine wpl (o := ⟨none, .store _ (.tmp 67) _, _, _, _, _⟩) rfl fun K hK => ?_; go_must (refine op_store_agg (hs.pick (A := row b6 (rrCells us ua ur R) 75) (by repeat (first | with_reducible exact Pick.here | with_reducible apply Pick.there))) rfl (b := b6) (i := 0) rfl [.slice As2 Dn.secs.length cs2, .slice Aa2 Dn.row.length ca2, .slice Ar2 Dn.row.length cr2] rfl (slices_one rfl rfl rfl) (by kernel_rfl) (k := 0) rfl (by simp [rrCells, rriCells]) fun w5 h => hK _ _ ?_); clear hs hK K; have hs := h; clear h; change Sat W _ (row b6 (rrCells (.slice As2 Dn.secs.length cs2) (.slice Aa2 Dn.row.length ca2) (.slice Ar2 Dn.row.length cr2) R) 75 :: _) at hs)
    | (guard_target = wpList _ _ _ (⟨some 68, .load _ _, _, _, _, _⟩ :: _) _ _; refine wpl (o := ⟨some 68, .load _ _, _, _, _, _⟩) rfl fun K hK => op_load_agg rfl (b := b6) (i := 0) rfl (rrCells (.slice As2 Dn.secs.length cs2) (.slice Aa2 Dn.row.length ca2) (.slice Ar2 Dn.row.length cr2) R) (range_whole hs (by (try dsimp only [List.set]); repeat (first | with_reducible exact List.mem_cons_self | with_reducible apply List.mem_cons_of_mem))) (by kernel_rfl) (by kernel_rfl) (hK _ _ ?_); clear hK K)
    | (guard_target = wpList _ _ _ (⟨none, .store _ (.tmp 8) _, _, _, _, _⟩ :: _) _ _; refine wpl (o := ⟨none, .store _ (.tmp 8) _, _, _, _, _⟩) rfl fun K hK => ?_; go_must (refine op_store_whole (hs.pick (A := row b8 zrCells 75) (by repeat (first | with_reducible exact Pick.here | with_reducible apply Pick.there))) (b := b8) rfl rfl (rrCells (.slice As2 Dn.secs.length cs2) (.slice Aa2 Dn.row.length ca2) (.slice Ar2 Dn.row.length cr2) R) rfl (rri_one rfl rfl rfl _ _ _ _ _) (by kernel_rfl) (k := 0) rfl rfl fun w3 h => hK _ _ ?_); clear hs hK K; have hs := h; clear h; try dsimp only [List.set] at hs))
  refine bodyPost_ret (run_results_cell_tmp rfl (b := b8) rfl _ (range_whole hs m0) (by kernel_rfl) (by kernel_rfl)) rfl ?_
  exact ⟨_, _, _, rfl, (hs.pack (L := disk b Dn :: rg br b R :: ref (.slice As2 Dn.secs.length cs2) (.slice Aa2 Dn.row.length ca2) (.slice Ar2 Dn.row.length cr2) Dn :: L) (by repeat (first | with_reducible exact Pack.refl | with_reducible exact Pack.nil | with_reducible refine Pack.cons (by repeat (first | with_reducible exact Pick.here | with_reducible apply Pick.there)) ?_ | with_reducible apply Pack.drop)))⟩
end Go.Proofs.Ytoedmjibhpajjaa
