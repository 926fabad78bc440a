/- The walk of the law RingPlays. -/
import Derived.Test.YtoedmjibhpajjaaRgDo
import Derived.Test.YtoedmjibhpajjaaRgAwake
import Derived.Test.YtoedmjibhpajjaaRgStart
set_option linter.unusedVariables false
set_option linter.unusedSimpArgs false
namespace Go.Proofs.Ytoedmjibhpajjaa
open Go.RowKit
theorem rmayB_iff (n : Nat) (hn : n ≤ 1024) (first many : Int) (low next : Nat) : rmayB n first many low next = true ↔ RgMay n first many low next := by
  unfold rmayB RgMay
  repeat (split; · (constructor <;> intro h <;> (try (cases h; done)) <;> (try (exfalso; omega))))
  simp
  omega
theorem rmayB_no {n : Nat} (hn : n ≤ 1024) {first many : Int} {low next : Nat} (h : ¬ RgMay n first many low next) : rmayB n first many low next = false := by
  cases hb : rmayB n first many low next with
  | false => rfl
  | true => exact absurd ((rmayB_iff n hn _ _ _ _).1 hb) h
def rgPlay (R : Rg) (l : List RDeed) : Rg := l.foldl Rg.deed R
theorem rgPlay_snoc (R : Rg) (l : List RDeed) (k : Nat) (h : k < l.length) : rgPlay R (l.take (k + 1)) = (rgPlay R (l.take k)).deed l[k] := by
  rw [List.take_succ_eq_append_getElem h]; unfold rgPlay; rw [List.foldl_append]; rfl
theorem rgPlay_inv (R : Rg) (ok : R.Ok) (hD : R.D.secs.length = 12) (hr : R.D.row.length = 0) (l : List RDeed) (hs : Small l) : ∀ k, k ≤ l.length → (rgPlay R (l.take k)).Ok ∧ (rgPlay R (l.take k)).D.secs.length = 12 ∧ (rgPlay R (l.take k)).D.row.length ≤ 8 * k
  | 0, _ => ⟨ok, hD, by show R.D.row.length ≤ 0; omega⟩
  | k + 1, hk => by
    obtain ⟨h1, h2, h3⟩ := rgPlay_inv R ok hD hr l hs k (by omega)
    rw [rgPlay_snoc R l k (by omega)]
    have hb := cuts_400 (hs.2 l[k] (List.getElem_mem (by omega)))
    have hr := Rg.deed_row (rgPlay R (l.take k)) l[k]
    exact ⟨Rg.deed_ok h1 _, by simp [h2], by omega⟩
def runS7 (b8 : Nat) (cs : List Value) (bd o : Nat) (ds : List Value) (w : World) : Prop := w.rangeAt b8 0 cs ∧ w.rangeAt bd o ds
set_option maxRecDepth 100000 in
set_option maxHeartbeats 4000000 in
theorem ringPlays_none (W w : World) (L : List HP) (hs : Sat W w L) (hold : old W ∈ L) (first many : Int) (epoch low next : Nat) (hfi : first < 9223372036854775808) (hlow : low < 4294967296) (hnext : next < 4294967296) (hno : ¬ RgMay 12 first many low next) (v : Value) (l : List RDeed) (h : rdeedsAt v l (hp W)) :
    Calls Try.prog 12 #[.agg (startCells first many epoch low next).toArray, v] w fun e w' => e = .returned (.bool true) ∧ Sat W w' L := by
  obtain ⟨D0, hD0⟩ : ∃ D0, Dk.new 12 = D0 := ⟨_, rfl⟩
  have h12 : D0.secs.length = 12 := by rw [← hD0]; simp [Dk.new]
  have hr0 : D0.row.length = 0 := by rw [← hD0]; rfl
  have hD12 : D0.secs.length ≤ 1024 := by omega
  have HD0 := Box.mk (And.intro hD0 (And.intro h12 hr0))
  obtain ⟨A, cap, rfl, _, _, _⟩ := rdeeds_form h
  have hno' := Box.mk hno
  have hnoD : ¬ RgMay D0.secs.length first many low next := by rw [h12]; exact hno
  have hB := Box.mk (rmayB_no hD12 hnoD)
  have hNO := Box.mk hnoD
  clear hno hnoD h12 hr0 hD0
  have cS : ∀ w b2 M, Sat W w M → row b2 (startCells first many epoch low next) 50 ∈ M → rngS b2 (startCells first many epoch low next) w := fun w b2 M h hm => range_whole h hm
  have d0 : ∀ b2 w, rngS b2 (startCells first many epoch low next) w → w.cell? ⟨b2, 0, none⟩ = some (.int .i64 first) := fun b2 w h => h 0 _ rfl
  have d1 : ∀ b2 w, rngS b2 (startCells first many epoch low next) w → w.cell? ⟨b2, 1, none⟩ = some (.int .i64 many) := fun b2 w h => h 1 _ rfl
  have d2 : ∀ b2 w, rngS b2 (startCells first many epoch low next) w → w.cell? ⟨b2, 2, none⟩ = some (.int .u32 (epoch : Nat)) := fun b2 w h => h 2 _ rfl
  have d3 : ∀ b2 w, rngS b2 (startCells first many epoch low next) w → w.cell? ⟨b2, 3, none⟩ = some (.int .u32 (low : Nat)) := fun b2 w h => h 3 _ rfl
  have d4 : ∀ b2 w, rngS b2 (startCells first many epoch low next) w → w.cell? ⟨b2, 4, none⟩ = some (.int .u32 (next : Nat)) := fun b2 w h => h 4 _ rfl
  go_enter Try.func12, Try.ntmps12
  go_wp2_with (first
    | (guard_target = wpList _ _ _ (⟨some 2, .box _ _, _, _, _, _⟩ :: _) _ _; refine wpl (o := ⟨some 2, .box _ _, _, _, _, _⟩) rfl fun K hK => ?_; go_must (refine op_box hs rfl _ rfl (startCells first many epoch low next) rfl fun b2 w1 h => hK _ _ ?_); clear hs hK K; have hs := h; clear h; try dsimp only [List.set] at hs)
    | (go_at_call 23; go_must (refine (awake6_spec W _ _ hs).mono ?_); clear hs; rintro e w1 ⟨rfl, hs⟩)
    | (go_at_call 26; go_must (refine (new_spec W _ _ hs 12 (by omega) (by omega)).mono ?_); clear hs; rintro e w1 ⟨b1, rfl, hs⟩; rw [HD0.out.1] at hs)
    | (guard_target = wpList _ _ _ (⟨some 21, .load _ _, _, _, _, _⟩ :: _) _ _; refine wpl (o := ⟨some 21, .load _ _, _, _, _, _⟩) rfl fun K hK => op_load_agg rfl (b := b2) (i := 0) rfl (place first many epoch) (range_prefix (l := (startCells first many epoch low next)) (t := 50) hs (place first many epoch) _ (show (startCells first many epoch low next) = place first many epoch ++ _ from rfl) (by (try dsimp only [List.set]); repeat (first | with_reducible exact List.mem_cons_self | with_reducible apply List.mem_cons_of_mem))) (by kernel_rfl) (by kernel_rfl) (hK _ _ ?_); clear hK K)
    | (guard_target = wpList _ _ _ (⟨some 23, .load _ _, _, _, _, _⟩ :: _) _ _; refine wpl (o := ⟨some 23, .load _ _, _, _, _, _⟩) rfl fun K hK => op_load rfl (ad := ⟨b2, 3, none⟩) rfl (by kernel_rfl) (hs.cell (l := (startCells first many epoch low next)) (t := 50) (by (try dsimp only [List.set]); repeat (first | with_reducible exact List.mem_cons_self | with_reducible apply List.mem_cons_of_mem)) rfl) (hK _ _ ?_); clear hK K)
    | (guard_target = wpList _ _ _ (⟨some 25, .load _ _, _, _, _, _⟩ :: _) _ _; refine wpl (o := ⟨some 25, .load _ _, _, _, _, _⟩) rfl fun K hK => op_load rfl (ad := ⟨b2, 4, none⟩) rfl (by kernel_rfl) (hs.cell (l := (startCells first many epoch low next)) (t := 50) (by (try dsimp only [List.set]); repeat (first | with_reducible exact List.mem_cons_self | with_reducible apply List.mem_cons_of_mem)) rfl) (hK _ _ ?_); clear hK K)
    | (go_at_call 27; go_must (refine (rgnew_none W _ _ b1 D0 hs first many epoch low next hlow hnext hfi hNO.out).mono ?_); clear hs; rintro e w1 ⟨rfl, hs⟩))
  have hS0 := cS _ _ _ hs.drew (by (try dsimp only [List.set]); repeat (first | with_reducible exact List.mem_cons_self | with_reducible apply List.mem_cons_of_mem))
  refine wp_region_tree (rngS b2 (startCells first many epoch low next)) (.take 1 (.take 2 (.take 3 (.take 4 (.take 5 (.take 6 (.take 7 (.take 8 (.take 9 (.take 10 (.take 11 (.take 12 (.take 13 (.all [(0, .take 14 (.all [(15, .all [(16, DTree.done)])])), (15, .all [(0, .take 14 (.all [(16, DTree.done)]))])])))))))))))))) (by kernel_rfl) (by kernel_rfl) (by kernel_rfl) (fun _ _ d _ _ h => by cases d <;> exact h) hS0 ?_
  have hs' := hs.drew
  clear hs
  have hs := hs'
  clear hs'
  have hq := fun p : Prop => class_const hS0 p
  clear hS0
  repeat (first
    | (with_reducible refine tree_load (o := ⟨some 30, .load _ _, _, _, _, _⟩) rfl rfl rfl rfl rfl (d0 b2) ?_)
    | (with_reducible refine tree_load (o := ⟨some 33, .load _ _, _, _, _, _⟩) rfl rfl rfl rfl rfl (d1 b2) ?_)
    | (with_reducible refine tree_load (o := ⟨some 36, .load _ _, _, _, _, _⟩) rfl rfl rfl rfl rfl (d2 b2) ?_)
    | (with_reducible refine tree_load (o := ⟨some 38, .load _ _, _, _, _, _⟩) rfl rfl rfl rfl rfl (d3 b2) ?_)
    | (with_reducible refine tree_load (o := ⟨some 40, .load _ _, _, _, _, _⟩) rfl rfl rfl rfl rfl (d4 b2) ?_)
    | (refine tree_take rfl (fun K hK => ?_); go_simp; with_reducible refine hK _ ?_; clear hK K))
  refine tree_all (trees_cons_yes (o := _) rfl rfl (fun K hK => ?_) (cS _ _ _ hs (by (try dsimp only [List.set]); repeat (first | with_reducible exact List.mem_cons_self | with_reducible apply List.mem_cons_of_mem))) (trees_cons_yes (o := _) rfl rfl (fun K hK => ?_) (cS _ _ _ hs (by (try dsimp only [List.set]); repeat (first | with_reducible exact List.mem_cons_self | with_reducible apply List.mem_cons_of_mem))) trees_nil))
  · try go_simp
    go_at_call 35
    refine (rnew_spec W _ _ hs 12 (by omega)).mono ?_
    clear hs
    rintro e w5 ⟨vs, va, vr, rfl, hs⟩
    rw [HD0.out.1] at hs
    obtain ⟨As, cs, rfl, _, _⟩ := slice_form (hs.slice (ref_secs m0))
    obtain ⟨Aa, ca, rfl, _, _⟩ := slice_form (hs.slice (ref_ats m0))
    obtain ⟨Ar, cr, rfl, _, _⟩ := slice_form (hs.slice (ref_row m0))
    try go_simp
    refine hK _ _ (cS _ _ _ hs (by (try dsimp only [List.set]); repeat (first | with_reducible exact List.mem_cons_self | with_reducible apply List.mem_cons_of_mem))) ?_
    clear hK K
    repeat (first
      | (with_reducible refine tree_load (o := ⟨some 30, .load _ _, _, _, _, _⟩) rfl rfl rfl rfl rfl (d0 b2) ?_)
      | (with_reducible refine tree_load (o := ⟨some 33, .load _ _, _, _, _, _⟩) rfl rfl rfl rfl rfl (d1 b2) ?_)
      | (with_reducible refine tree_load (o := ⟨some 36, .load _ _, _, _, _, _⟩) rfl rfl rfl rfl rfl (d2 b2) ?_)
      | (with_reducible refine tree_load (o := ⟨some 38, .load _ _, _, _, _, _⟩) rfl rfl rfl rfl rfl (d3 b2) ?_)
      | (with_reducible refine tree_load (o := ⟨some 40, .load _ _, _, _, _, _⟩) rfl rfl rfl rfl rfl (d4 b2) ?_)
      | (refine tree_take rfl (fun K hK => ?_); go_simp; with_reducible refine hK _ ?_; clear hK K))
    refine tree_one_yes (o := _) rfl rfl (fun K hK => ?_) (cS _ _ _ hs (by (try dsimp only [List.set]); repeat (first | with_reducible exact List.mem_cons_self | with_reducible apply List.mem_cons_of_mem)))
    refine op_alloc hs rfl _ zrref zrCells rfl fun b8 w2 h => hK _ _ (cS _ _ _ h (by (try dsimp only [List.set]); repeat (first | with_reducible exact List.mem_cons_self | with_reducible apply List.mem_cons_of_mem))) ?_
    clear hs hK K
    have hs := h
    clear h
    try dsimp only [List.set] at hs
    try go_simp
    refine tree_one_yes (o := _) rfl rfl (fun K hK => ?_) (cS _ _ _ hs (by (try dsimp only [List.set]); repeat (first | with_reducible exact List.mem_cons_self | with_reducible apply List.mem_cons_of_mem)))
    refine op_store_whole (hs.pick (A := row b8 zrCells 75) (by repeat (first | with_reducible exact Pick.here | with_reducible apply Pick.there))) rfl (b := b8) rfl (rriCells (.slice As D0.secs.length cs) (.slice Aa D0.row.length ca) (.slice Ar D0.row.length cr) first many epoch low next) rfl (rri_one rfl rfl rfl _ _ _ _ _) (by kernel_rfl) (k := 0) rfl rfl fun w3 h => hK _ _ (cS _ _ _ h (by (try dsimp only [List.set]); repeat (first | with_reducible exact List.mem_cons_self | with_reducible apply List.mem_cons_of_mem))) ?_
    clear hs hK K
    have hs := h
    clear h
    try dsimp only [List.set] at hs
    try go_simp
    refine tree_done ?_
    clear hq
    go_wp2_with (first
      | (guard_target = wpList _ _ _ (⟨some 47, .load _ _, _, _, _, _⟩ :: _) _ _; refine wpl (o := ⟨some 47, .load _ _, _, _, _, _⟩) rfl fun K hK => op_load_agg rfl (b := b8) (i := 0) rfl (rriCells (.slice As D0.secs.length cs) (.slice Aa D0.row.length ca) (.slice Ar D0.row.length cr) first many epoch low next) (range_whole hs (by (try dsimp only [List.set]); repeat (first | with_reducible exact List.mem_cons_self | with_reducible apply List.mem_cons_of_mem))) (by kernel_rfl) (by kernel_rfl) (hK _ _ ?_); clear hK K)
      | (go_at_call 36; go_must (refine (rmay_spec W _ _ hs As D0.secs.length cs _ _ first many epoch low next hlow hnext hD12).mono ?_); clear hs; rintro e w1 ⟨rfl, hs⟩; rw [hB.out]))
    go_ret
    exact ⟨rfl, hs.pack (by repeat (first | with_reducible exact Pack.refl | with_reducible exact Pack.nil | with_reducible refine Pack.cons (by repeat (first | with_reducible exact Pick.here | with_reducible apply Pick.there)) ?_ | with_reducible apply Pack.drop))⟩
  · refine op_alloc hs rfl _ zrref zrCells rfl fun b8 w2 h => hK _ _ (cS _ _ _ h (by (try dsimp only [List.set]); repeat (first | with_reducible exact List.mem_cons_self | with_reducible apply List.mem_cons_of_mem))) ?_
    clear hs hK K
    have hs := h
    clear h
    try dsimp only [List.set] at hs
    try go_simp
    refine tree_one_yes (o := _) rfl rfl (fun K hK => ?_) (cS _ _ _ hs (by (try dsimp only [List.set]); repeat (first | with_reducible exact List.mem_cons_self | with_reducible apply List.mem_cons_of_mem)))
    try go_simp
    go_at_call 35
    refine (rnew_spec W _ _ hs 12 (by omega)).mono ?_
    clear hs
    rintro e w5 ⟨vs, va, vr, rfl, hs⟩
    rw [HD0.out.1] at hs
    obtain ⟨As, cs, rfl, _, _⟩ := slice_form (hs.slice (ref_secs m0))
    obtain ⟨Aa, ca, rfl, _, _⟩ := slice_form (hs.slice (ref_ats m0))
    obtain ⟨Ar, cr, rfl, _, _⟩ := slice_form (hs.slice (ref_row m0))
    try go_simp
    refine hK _ _ (cS _ _ _ hs (by (try dsimp only [List.set]); repeat (first | with_reducible exact List.mem_cons_self | with_reducible apply List.mem_cons_of_mem))) ?_
    clear hK K
    repeat (first
      | (with_reducible refine tree_load (o := ⟨some 30, .load _ _, _, _, _, _⟩) rfl rfl rfl rfl rfl (d0 b2) ?_)
      | (with_reducible refine tree_load (o := ⟨some 33, .load _ _, _, _, _, _⟩) rfl rfl rfl rfl rfl (d1 b2) ?_)
      | (with_reducible refine tree_load (o := ⟨some 36, .load _ _, _, _, _, _⟩) rfl rfl rfl rfl rfl (d2 b2) ?_)
      | (with_reducible refine tree_load (o := ⟨some 38, .load _ _, _, _, _, _⟩) rfl rfl rfl rfl rfl (d3 b2) ?_)
      | (with_reducible refine tree_load (o := ⟨some 40, .load _ _, _, _, _, _⟩) rfl rfl rfl rfl rfl (d4 b2) ?_)
      | (refine tree_take rfl (fun K hK => ?_); go_simp; with_reducible refine hK _ ?_; clear hK K))
    refine tree_one_yes (o := _) rfl rfl (fun K hK => ?_) (cS _ _ _ hs (by (try dsimp only [List.set]); repeat (first | with_reducible exact List.mem_cons_self | with_reducible apply List.mem_cons_of_mem)))
    refine op_store_whole (hs.pick (A := row b8 zrCells 75) (by repeat (first | with_reducible exact Pick.here | with_reducible apply Pick.there))) rfl (b := b8) rfl (rriCells (.slice As D0.secs.length cs) (.slice Aa D0.row.length ca) (.slice Ar D0.row.length cr) first many epoch low next) rfl (rri_one rfl rfl rfl _ _ _ _ _) (by kernel_rfl) (k := 0) rfl rfl fun w3 h => hK _ _ (cS _ _ _ h (by (try dsimp only [List.set]); repeat (first | with_reducible exact List.mem_cons_self | with_reducible apply List.mem_cons_of_mem))) ?_
    clear hs hK K
    have hs := h
    clear h
    try dsimp only [List.set] at hs
    try go_simp
    refine tree_done ?_
    clear hq
    go_wp2_with (first
      | (guard_target = wpList _ _ _ (⟨some 47, .load _ _, _, _, _, _⟩ :: _) _ _; refine wpl (o := ⟨some 47, .load _ _, _, _, _, _⟩) rfl fun K hK => op_load_agg rfl (b := b8) (i := 0) rfl (rriCells (.slice As D0.secs.length cs) (.slice Aa D0.row.length ca) (.slice Ar D0.row.length cr) first many epoch low next) (range_whole hs (by (try dsimp only [List.set]); repeat (first | with_reducible exact List.mem_cons_self | with_reducible apply List.mem_cons_of_mem))) (by kernel_rfl) (by kernel_rfl) (hK _ _ ?_); clear hK K)
      | (go_at_call 36; go_must (refine (rmay_spec W _ _ hs As D0.secs.length cs _ _ first many epoch low next hlow hnext hD12).mono ?_); clear hs; rintro e w1 ⟨rfl, hs⟩; rw [hB.out]))
    go_ret
    exact ⟨rfl, hs.pack (by repeat (first | with_reducible exact Pack.refl | with_reducible exact Pack.nil | with_reducible refine Pack.cons (by repeat (first | with_reducible exact Pick.here | with_reducible apply Pick.there)) ?_ | with_reducible apply Pack.drop))⟩
set_option maxRecDepth 100000 in
set_option maxHeartbeats 4000000 in
theorem ringPlays_many (W w : World) (L : List HP) (hs : Sat W w L) (hold : old W ∈ L) (f m epoch low next : Nat) (hep : epoch < 4294967296) (hlow : low < 4294967296) (hnext : next < 4294967296) (hyes : RgMay 12 (f : Nat) (m : Nat) low next) (v : Value) (l : List RDeed) (h : rdeedsAt v l (hp W)) (hsm : ¬ Small l) :
    Calls Try.prog 12 #[.agg (startCells (f : Nat) (m : Nat) epoch low next).toArray, v] w fun e w' => e = .returned (.bool true) ∧ Sat W w' L := by
  obtain ⟨D0, hD0⟩ : ∃ D0, Dk.new 12 = D0 := ⟨_, rfl⟩
  have h12 : D0.secs.length = 12 := by rw [← hD0]; simp [Dk.new]
  have hr0 : D0.row.length = 0 := by rw [← hD0]; rfl
  have hD12 : D0.secs.length ≤ 1024 := by omega
  have HD0 := Box.mk (And.intro hD0 (And.intro h12 hr0))
  obtain ⟨A, cap, rfl, _, _, _⟩ := rdeeds_form h
  have hyD : RgMay D0.secs.length (f : Nat) (m : Nat) low next := by rw [h12]; exact hyes
  have hB := Box.mk ((rmayB_iff D0.secs.length hD12 _ _ _ _).2 hyD)
  have hYES := Box.mk hyD
  have hF := Box.mk (fewB_no hsm)
  clear hyes hyD h12 hr0 hD0
  have cS : ∀ w b2 M, Sat W w M → row b2 (startCells (f : Nat) (m : Nat) epoch low next) 50 ∈ M → rngS b2 (startCells (f : Nat) (m : Nat) epoch low next) w := fun w b2 M h hm => range_whole h hm
  have d0 : ∀ b2 w, rngS b2 (startCells (f : Nat) (m : Nat) epoch low next) w → w.cell? ⟨b2, 0, none⟩ = some (.int .i64 (f : Nat)) := fun b2 w h => h 0 _ rfl
  have d1 : ∀ b2 w, rngS b2 (startCells (f : Nat) (m : Nat) epoch low next) w → w.cell? ⟨b2, 1, none⟩ = some (.int .i64 (m : Nat)) := fun b2 w h => h 1 _ rfl
  have d2 : ∀ b2 w, rngS b2 (startCells (f : Nat) (m : Nat) epoch low next) w → w.cell? ⟨b2, 2, none⟩ = some (.int .u32 (epoch : Nat)) := fun b2 w h => h 2 _ rfl
  have d3 : ∀ b2 w, rngS b2 (startCells (f : Nat) (m : Nat) epoch low next) w → w.cell? ⟨b2, 3, none⟩ = some (.int .u32 (low : Nat)) := fun b2 w h => h 3 _ rfl
  have d4 : ∀ b2 w, rngS b2 (startCells (f : Nat) (m : Nat) epoch low next) w → w.cell? ⟨b2, 4, none⟩ = some (.int .u32 (next : Nat)) := fun b2 w h => h 4 _ rfl
  go_enter Try.func12, Try.ntmps12
  go_wp2_with (first
    | (guard_target = wpList _ _ _ (⟨some 2, .box _ _, _, _, _, _⟩ :: _) _ _; refine wpl (o := ⟨some 2, .box _ _, _, _, _, _⟩) rfl fun K hK => ?_; go_must (refine op_box hs rfl _ rfl (startCells (f : Nat) (m : Nat) epoch low next) rfl fun b2 w1 h => hK _ _ ?_); clear hs hK K; have hs := h; clear h; try dsimp only [List.set] at hs)
    | (go_at_call 23; go_must (refine (awake6_spec W _ _ hs).mono ?_); clear hs; rintro e w1 ⟨rfl, hs⟩)
    | (go_at_call 26; go_must (refine (new_spec W _ _ hs 12 (by omega) (by omega)).mono ?_); clear hs; rintro e w1 ⟨b1, rfl, hs⟩; rw [HD0.out.1] at hs)
    | (guard_target = wpList _ _ _ (⟨some 21, .load _ _, _, _, _, _⟩ :: _) _ _; refine wpl (o := ⟨some 21, .load _ _, _, _, _, _⟩) rfl fun K hK => op_load_agg rfl (b := b2) (i := 0) rfl (place (f : Nat) (m : Nat) epoch) (range_prefix (l := (startCells (f : Nat) (m : Nat) epoch low next)) (t := 50) hs (place (f : Nat) (m : Nat) epoch) _ (show (startCells (f : Nat) (m : Nat) epoch low next) = place (f : Nat) (m : Nat) epoch ++ _ from rfl) (by (try dsimp only [List.set]); repeat (first | with_reducible exact List.mem_cons_self | with_reducible apply List.mem_cons_of_mem))) (by kernel_rfl) (by kernel_rfl) (hK _ _ ?_); clear hK K)
    | (guard_target = wpList _ _ _ (⟨some 23, .load _ _, _, _, _, _⟩ :: _) _ _; refine wpl (o := ⟨some 23, .load _ _, _, _, _, _⟩) rfl fun K hK => op_load rfl (ad := ⟨b2, 3, none⟩) rfl (by kernel_rfl) (hs.cell (l := (startCells (f : Nat) (m : Nat) epoch low next)) (t := 50) (by (try dsimp only [List.set]); repeat (first | with_reducible exact List.mem_cons_self | with_reducible apply List.mem_cons_of_mem)) rfl) (hK _ _ ?_); clear hK K)
    | (guard_target = wpList _ _ _ (⟨some 25, .load _ _, _, _, _, _⟩ :: _) _ _; refine wpl (o := ⟨some 25, .load _ _, _, _, _, _⟩) rfl fun K hK => op_load rfl (ad := ⟨b2, 4, none⟩) rfl (by kernel_rfl) (hs.cell (l := (startCells (f : Nat) (m : Nat) epoch low next)) (t := 50) (by (try dsimp only [List.set]); repeat (first | with_reducible exact List.mem_cons_self | with_reducible apply List.mem_cons_of_mem)) rfl) (hK _ _ ?_); clear hK K)
    | (go_at_call 27; go_must (refine (rgnew_some W _ _ b1 D0 hs f m epoch low next hep hYES.out).mono ?_); clear hs; rintro e w1 ⟨br, rfl, hs⟩))
  have hS0 := cS _ _ _ hs.drew (by (try dsimp only [List.set]); repeat (first | with_reducible exact List.mem_cons_self | with_reducible apply List.mem_cons_of_mem))
  refine wp_region_tree (rngS b2 (startCells (f : Nat) (m : Nat) epoch low next)) (.take 1 (.take 2 (.take 3 (.take 4 (.take 5 (.take 6 (.take 7 (.take 8 (.take 9 (.take 10 (.take 11 (.take 12 (.take 13 (.all [(0, .take 14 (.all [(15, .all [(16, DTree.done)])])), (15, .all [(0, .take 14 (.all [(16, DTree.done)]))])])))))))))))))) (by kernel_rfl) (by kernel_rfl) (by kernel_rfl) (fun _ _ d _ _ h => by cases d <;> exact h) hS0 ?_
  have hs' := hs.drew
  clear hs
  have hs := hs'
  clear hs'
  have hq := fun p : Prop => class_const hS0 p
  clear hS0
  repeat (first
    | (with_reducible refine tree_load (o := ⟨some 30, .load _ _, _, _, _, _⟩) rfl rfl rfl rfl rfl (d0 b2) ?_)
    | (with_reducible refine tree_load (o := ⟨some 33, .load _ _, _, _, _, _⟩) rfl rfl rfl rfl rfl (d1 b2) ?_)
    | (with_reducible refine tree_load (o := ⟨some 36, .load _ _, _, _, _, _⟩) rfl rfl rfl rfl rfl (d2 b2) ?_)
    | (with_reducible refine tree_load (o := ⟨some 38, .load _ _, _, _, _, _⟩) rfl rfl rfl rfl rfl (d3 b2) ?_)
    | (with_reducible refine tree_load (o := ⟨some 40, .load _ _, _, _, _, _⟩) rfl rfl rfl rfl rfl (d4 b2) ?_)
    | (refine tree_take rfl (fun K hK => ?_); go_simp; with_reducible refine hK _ ?_; clear hK K))
  refine tree_all (trees_cons_yes (o := _) rfl rfl (fun K hK => ?_) (cS _ _ _ hs (by (try dsimp only [List.set]); repeat (first | with_reducible exact List.mem_cons_self | with_reducible apply List.mem_cons_of_mem))) (trees_cons_yes (o := _) rfl rfl (fun K hK => ?_) (cS _ _ _ hs (by (try dsimp only [List.set]); repeat (first | with_reducible exact List.mem_cons_self | with_reducible apply List.mem_cons_of_mem))) trees_nil))
  · try go_simp
    go_at_call 35
    refine (rnew_spec W _ _ hs 12 (by omega)).mono ?_
    clear hs
    rintro e w5 ⟨vs, va, vr, rfl, hs⟩
    rw [HD0.out.1] at hs
    obtain ⟨As, cs, rfl, _, _⟩ := slice_form (hs.slice (ref_secs m0))
    obtain ⟨Aa, ca, rfl, _, _⟩ := slice_form (hs.slice (ref_ats m0))
    obtain ⟨Ar, cr, rfl, _, _⟩ := slice_form (hs.slice (ref_row m0))
    try go_simp
    refine hK _ _ (cS _ _ _ hs (by (try dsimp only [List.set]); repeat (first | with_reducible exact List.mem_cons_self | with_reducible apply List.mem_cons_of_mem))) ?_
    clear hK K
    repeat (first
      | (with_reducible refine tree_load (o := ⟨some 30, .load _ _, _, _, _, _⟩) rfl rfl rfl rfl rfl (d0 b2) ?_)
      | (with_reducible refine tree_load (o := ⟨some 33, .load _ _, _, _, _, _⟩) rfl rfl rfl rfl rfl (d1 b2) ?_)
      | (with_reducible refine tree_load (o := ⟨some 36, .load _ _, _, _, _, _⟩) rfl rfl rfl rfl rfl (d2 b2) ?_)
      | (with_reducible refine tree_load (o := ⟨some 38, .load _ _, _, _, _, _⟩) rfl rfl rfl rfl rfl (d3 b2) ?_)
      | (with_reducible refine tree_load (o := ⟨some 40, .load _ _, _, _, _, _⟩) rfl rfl rfl rfl rfl (d4 b2) ?_)
      | (refine tree_take rfl (fun K hK => ?_); go_simp; with_reducible refine hK _ ?_; clear hK K))
    refine tree_one_yes (o := _) rfl rfl (fun K hK => ?_) (cS _ _ _ hs (by (try dsimp only [List.set]); repeat (first | with_reducible exact List.mem_cons_self | with_reducible apply List.mem_cons_of_mem)))
    refine op_alloc hs rfl _ zrref zrCells rfl fun b8 w2 h => hK _ _ (cS _ _ _ h (by (try dsimp only [List.set]); repeat (first | with_reducible exact List.mem_cons_self | with_reducible apply List.mem_cons_of_mem))) ?_
    clear hs hK K
    have hs := h
    clear h
    try dsimp only [List.set] at hs
    try go_simp
    refine tree_one_yes (o := _) rfl rfl (fun K hK => ?_) (cS _ _ _ hs (by (try dsimp only [List.set]); repeat (first | with_reducible exact List.mem_cons_self | with_reducible apply List.mem_cons_of_mem)))
    refine op_store_whole (hs.pick (A := row b8 zrCells 75) (by repeat (first | with_reducible exact Pick.here | with_reducible apply Pick.there))) rfl (b := b8) rfl (rriCells (.slice As D0.secs.length cs) (.slice Aa D0.row.length ca) (.slice Ar D0.row.length cr) (f : Nat) (m : Nat) epoch low next) rfl (rri_one rfl rfl rfl _ _ _ _ _) (by kernel_rfl) (k := 0) rfl rfl fun w3 h => hK _ _ (cS _ _ _ h (by (try dsimp only [List.set]); repeat (first | with_reducible exact List.mem_cons_self | with_reducible apply List.mem_cons_of_mem))) ?_
    clear hs hK K
    have hs := h
    clear h
    try dsimp only [List.set] at hs
    try go_simp
    refine tree_done ?_
    clear hq
    go_wp2_with (first
      | (guard_target = wpList _ _ _ (⟨some 47, .load _ _, _, _, _, _⟩ :: _) _ _; refine wpl (o := ⟨some 47, .load _ _, _, _, _, _⟩) rfl fun K hK => op_load_agg rfl (b := b8) (i := 0) rfl (rriCells (.slice As D0.secs.length cs) (.slice Aa D0.row.length ca) (.slice Ar D0.row.length cr) (f : Nat) (m : Nat) epoch low next) (range_whole hs (by (try dsimp only [List.set]); repeat (first | with_reducible exact List.mem_cons_self | with_reducible apply List.mem_cons_of_mem))) (by kernel_rfl) (by kernel_rfl) (hK _ _ ?_); clear hK K)
      | (go_at_call 36; go_must (refine (rmay_spec W _ _ hs As D0.secs.length cs _ _ (f : Nat) (m : Nat) epoch low next hlow hnext hD12).mono ?_); clear hs; rintro e w1 ⟨rfl, hs⟩; rw [hB.out])
      | (go_at_call 32; go_must (refine (rfew_spec W _ _ hs (by (try dsimp only [List.set]); repeat (first | exact hold | apply List.mem_cons_of_mem)) _ l h).mono ?_); clear hs; rintro e w1 ⟨rfl, hs⟩; rw [hF.out]))
    go_ret
    exact ⟨rfl, hs.pack (by repeat (first | with_reducible exact Pack.refl | with_reducible exact Pack.nil | with_reducible refine Pack.cons (by repeat (first | with_reducible exact Pick.here | with_reducible apply Pick.there)) ?_ | with_reducible apply Pack.drop))⟩
  · refine op_alloc hs rfl _ zrref zrCells rfl fun b8 w2 h => hK _ _ (cS _ _ _ h (by (try dsimp only [List.set]); repeat (first | with_reducible exact List.mem_cons_self | with_reducible apply List.mem_cons_of_mem))) ?_
    clear hs hK K
    have hs := h
    clear h
    try dsimp only [List.set] at hs
    try go_simp
    refine tree_one_yes (o := _) rfl rfl (fun K hK => ?_) (cS _ _ _ hs (by (try dsimp only [List.set]); repeat (first | with_reducible exact List.mem_cons_self | with_reducible apply List.mem_cons_of_mem)))
    try go_simp
    go_at_call 35
    refine (rnew_spec W _ _ hs 12 (by omega)).mono ?_
    clear hs
    rintro e w5 ⟨vs, va, vr, rfl, hs⟩
    rw [HD0.out.1] at hs
    obtain ⟨As, cs, rfl, _, _⟩ := slice_form (hs.slice (ref_secs m0))
    obtain ⟨Aa, ca, rfl, _, _⟩ := slice_form (hs.slice (ref_ats m0))
    obtain ⟨Ar, cr, rfl, _, _⟩ := slice_form (hs.slice (ref_row m0))
    try go_simp
    refine hK _ _ (cS _ _ _ hs (by (try dsimp only [List.set]); repeat (first | with_reducible exact List.mem_cons_self | with_reducible apply List.mem_cons_of_mem))) ?_
    clear hK K
    repeat (first
      | (with_reducible refine tree_load (o := ⟨some 30, .load _ _, _, _, _, _⟩) rfl rfl rfl rfl rfl (d0 b2) ?_)
      | (with_reducible refine tree_load (o := ⟨some 33, .load _ _, _, _, _, _⟩) rfl rfl rfl rfl rfl (d1 b2) ?_)
      | (with_reducible refine tree_load (o := ⟨some 36, .load _ _, _, _, _, _⟩) rfl rfl rfl rfl rfl (d2 b2) ?_)
      | (with_reducible refine tree_load (o := ⟨some 38, .load _ _, _, _, _, _⟩) rfl rfl rfl rfl rfl (d3 b2) ?_)
      | (with_reducible refine tree_load (o := ⟨some 40, .load _ _, _, _, _, _⟩) rfl rfl rfl rfl rfl (d4 b2) ?_)
      | (refine tree_take rfl (fun K hK => ?_); go_simp; with_reducible refine hK _ ?_; clear hK K))
    refine tree_one_yes (o := _) rfl rfl (fun K hK => ?_) (cS _ _ _ hs (by (try dsimp only [List.set]); repeat (first | with_reducible exact List.mem_cons_self | with_reducible apply List.mem_cons_of_mem)))
    refine op_store_whole (hs.pick (A := row b8 zrCells 75) (by repeat (first | with_reducible exact Pick.here | with_reducible apply Pick.there))) rfl (b := b8) rfl (rriCells (.slice As D0.secs.length cs) (.slice Aa D0.row.length ca) (.slice Ar D0.row.length cr) (f : Nat) (m : Nat) epoch low next) rfl (rri_one rfl rfl rfl _ _ _ _ _) (by kernel_rfl) (k := 0) rfl rfl fun w3 h => hK _ _ (cS _ _ _ h (by (try dsimp only [List.set]); repeat (first | with_reducible exact List.mem_cons_self | with_reducible apply List.mem_cons_of_mem))) ?_
    clear hs hK K
    have hs := h
    clear h
    try dsimp only [List.set] at hs
    try go_simp
    refine tree_done ?_
    clear hq
    go_wp2_with (first
      | (guard_target = wpList _ _ _ (⟨some 47, .load _ _, _, _, _, _⟩ :: _) _ _; refine wpl (o := ⟨some 47, .load _ _, _, _, _, _⟩) rfl fun K hK => op_load_agg rfl (b := b8) (i := 0) rfl (rriCells (.slice As D0.secs.length cs) (.slice Aa D0.row.length ca) (.slice Ar D0.row.length cr) (f : Nat) (m : Nat) epoch low next) (range_whole hs (by (try dsimp only [List.set]); repeat (first | with_reducible exact List.mem_cons_self | with_reducible apply List.mem_cons_of_mem))) (by kernel_rfl) (by kernel_rfl) (hK _ _ ?_); clear hK K)
      | (go_at_call 36; go_must (refine (rmay_spec W _ _ hs As D0.secs.length cs _ _ (f : Nat) (m : Nat) epoch low next hlow hnext hD12).mono ?_); clear hs; rintro e w1 ⟨rfl, hs⟩; rw [hB.out])
      | (go_at_call 32; go_must (refine (rfew_spec W _ _ hs (by (try dsimp only [List.set]); repeat (first | exact hold | apply List.mem_cons_of_mem)) _ l h).mono ?_); clear hs; rintro e w1 ⟨rfl, hs⟩; rw [hF.out]))
    go_ret
    exact ⟨rfl, hs.pack (by repeat (first | with_reducible exact Pack.refl | with_reducible exact Pack.nil | with_reducible refine Pack.cons (by repeat (first | with_reducible exact Pick.here | with_reducible apply Pick.there)) ?_ | with_reducible apply Pack.drop))⟩
end Go.Proofs.Ytoedmjibhpajjaa
