/- The deeds of the laws of layer 4: of both disks at once. -/
import Derived.Test.YtclcajjcbdfaiaaVdAny
import Derived.Test.YtclcajjcbdfaiaaLift
set_option linter.unusedVariables false
set_option linter.unusedSimpArgs false
namespace Go.Proofs.Ytclcajjcbdfaiaa
open Go.RowKit
structure Deed where
  kind : Int
  at_ : Int
  b : List UInt8
  keep : List Bool
/-- A deed's cells. -/
def deedAt (cs : List Value) (c : Deed) (F : PH) : Prop := ∃ vb vk, cs = [.int .i64 c.kind, .int .i64 c.at_, vb, vk] ∧ bytesAt vb c.b F ∧ boolsAt vk c.keep F
def Dk.deed (D : Dk) (c : Deed) : Dk :=
  if c.kind = 1 then D.wnext c.at_ c.b else if c.kind = 2 then D.sync else if c.kind = 3 then D.crash (fun i => c.keep.getD i false) else D
theorem Dk.deed_ok {D : Dk} (ok : D.Ok) (c : Deed) : (D.deed c).Ok := by
  unfold Dk.deed
  split
  · exact Dk.wnext_ok ok _ _
  · split
    · exact Dk.crash_ok ok _
    · split
      · exact Dk.crash_ok ok _
      · exact ok
theorem Dk.deed_row (D : Dk) (c : Deed) : (D.deed c).row.length ≤ D.row.length + 1 := by
  unfold Dk.deed
  split
  · exact Dk.wnext_row _ _ _
  · split
    · simp
    · split
      · simp
      · omega
@[simp] theorem Dk.deed_size (D : Dk) (c : Deed) : (D.deed c).secs.length = D.secs.length := by
  unfold Dk.deed
  split
  · simp
  · split
    · simp
    · split <;> simp
theorem zdeed_one {k a : Int} {vb vk : Value} (h1 : vb.oneCell' = true) (h2 : vk.oneCell' = true) : ∀ v ∈ [Value.int .i64 k, .int .i64 a, vb, vk], v.oneCell' = true := fun v hv => by
  simp only [List.mem_cons, List.not_mem_nil, or_false] at hv
  rcases hv with rfl | rfl | rfl | rfl <;> first | rfl | assumption
set_option maxRecDepth 100000 in
set_option maxHeartbeats 2000000 in
theorem do_spec (W w : World) (L : List HP) (b : Nat) (vs va vr vb vk : Value) (D : Dk) (c : Deed) (hs : Sat W w (disk b D :: ref vs va vr D :: L)) (hb : Has L (bytesAt vb c.b)) (hk : Has L (boolsAt vk c.keep)) (hr : D.row.length ≤ 1000000) :
    Calls Try.prog 32 #[.pointer (some ⟨b, 0, none⟩), .agg #[vs, va, vr], .agg #[.int .i64 c.kind, .int .i64 c.at_, vb, vk]] w fun e w' => ∃ vs' va' vr', e = .returned (.tuple #[.agg #[vs', va', vr'], .bool true]) ∧ Sat W w' (disk b (D.deed c) :: ref vs' va' vr' (D.deed c) :: L) := by
  have ok := hs.disk_open.1
  have hfew := ok.few
  obtain ⟨As, cs, rfl, _, _⟩ := slice_form (hs.slice (ref_secs m1))
  obtain ⟨Aa, ca, rfl, _, _⟩ := slice_form (hs.slice (ref_ats m1))
  obtain ⟨Ar, cr, rfl, _, _⟩ := slice_form (hs.slice (ref_row m1))
  obtain ⟨Ab, cb, rfl, _, _⟩ := slice_form (hs.slice hb.tail.tail)
  obtain ⟨Ak, ck, rfl, _, _⟩ := slice_form (hs.slice hk.tail.tail)
  obtain ⟨kind, at_, bb, keep⟩ := c
  simp only at hb hk hs ⊢
  go_enter Try.func32, Try.ntmps32
  by_cases h1 : kind = 1
  · subst h1
    have hD : D.deed ⟨1, at_, bb, keep⟩ = D.wnext at_ bb := by simp [Dk.deed]
    rw [hD]
    go_wp2_with (first
      | (refine wpl (o := ⟨some 4, .box _ _, _, _, _, _⟩) rfl fun K hK => ?_; go_must (refine op_box hs rfl _ rfl [.slice As D.secs.length cs, .slice Aa D.row.length ca, .slice Ar D.row.length cr] rfl fun b4 w1 h => hK _ _ ?_); clear hs hK K; have hs := h; clear h)
      | (refine wpl (o := ⟨some 5, .box _ _, _, _, _, _⟩) rfl fun K hK => ?_; go_must (refine op_box hs rfl _ rfl [_, _, _, _] rfl fun b5 w1 h => hK _ _ ?_); clear hs hK K; have hs := h; clear h)
      | (refine wpl (o := ⟨some 6, .alloc _, _, _, _, _⟩) rfl fun K hK => ?_; go_must (refine op_alloc hs rfl _ zref [.slice none 0 0, .slice none 0 0, .slice none 0 0] rfl fun b6 w1 h => hK _ _ ?_); clear hs hK K; have hs := h; clear h)
      | (refine wpl (o := ⟨some 16, .load _ _, _, _, _, _⟩) rfl fun K hK => op_load rfl (ad := ⟨b5, 0, none⟩) rfl (by kernel_rfl) (hs.cell (by first | exact m0 | exact m1 | exact m2 | exact m3 | exact m4 | exact m5 | exact m6) rfl) (hK _ _ ?_); clear hK K)
      | (refine wpl (o := ⟨some 21, .load _ _, _, _, _, _⟩) rfl fun K hK => op_load rfl (ad := ⟨b5, 1, none⟩) rfl (by kernel_rfl) (hs.cell (by first | exact m0 | exact m1 | exact m2 | exact m3 | exact m4 | exact m5 | exact m6) rfl) (hK _ _ ?_); clear hK K)
      | (refine wpl (o := ⟨some 23, .load _ _, _, _, _, _⟩) rfl fun K hK => op_load rfl (ad := ⟨b5, 2, none⟩) rfl (by kernel_rfl) (hs.cell (by first | exact m0 | exact m1 | exact m2 | exact m3 | exact m4 | exact m5 | exact m6) rfl) (hK _ _ ?_); clear hK K)
      | (go_at_call 25; go_must (refine (write_any W _ _ b D (hs.pull 3 rfl) _ _ bb (by dsimp only [List.eraseIdx]; repeat (first | exact hb | apply Has.tail)) hr).mono ?_); clear hs; rintro e w1 ⟨rfl, hs⟩; dsimp only [List.eraseIdx] at hs)
      | (refine wpl (o := ⟨some 26, .load _ _, _, _, _, _⟩) rfl fun K hK => op_load_agg rfl (b := b4) (i := 0) rfl [.slice As D.secs.length cs, .slice Aa D.row.length ca, .slice Ar D.row.length cr] (range_whole hs (by first | exact m0 | exact m1 | exact m2 | exact m3 | exact m4 | exact m5 | exact m6)) (by kernel_rfl) (by kernel_rfl) (hK _ _ ?_); clear hK K)
      | (refine wpl (o := ⟨some 28, .load _ _, _, _, _, _⟩) rfl fun K hK => op_load rfl (ad := ⟨b5, 1, none⟩) rfl (by kernel_rfl) (hs.cell (by first | exact m0 | exact m1 | exact m2 | exact m3 | exact m4 | exact m5 | exact m6) rfl) (hK _ _ ?_); clear hK K)
      | (refine wpl (o := ⟨some 30, .load _ _, _, _, _, _⟩) rfl fun K hK => op_load rfl (ad := ⟨b5, 2, none⟩) rfl (by kernel_rfl) (hs.cell (by first | exact m0 | exact m1 | exact m2 | exact m3 | exact m4 | exact m5 | exact m6) rfl) (hK _ _ ?_); clear hK K)
      | (go_at_call 38; go_must (refine (rwrite_any W _ _ _ _ _ D (hs.pull 4 rfl) _ _ bb (by dsimp only [List.eraseIdx]; repeat (first | exact hb | apply Has.tail)) hr).mono ?_); clear hs; rintro e w1 ⟨vs', va', vr', rfl, hs⟩; dsimp only [List.eraseIdx] at hs
         obtain ⟨As', cs', rfl, _, _⟩ := slice_form (hs.slice (ref_secs m0))
         obtain ⟨Aa', ca', rfl, _, _⟩ := slice_form (hs.slice (ref_ats m0))
         obtain ⟨Ar', cr', rfl, _, _⟩ := slice_form (hs.slice (ref_row m0)))
      | (refine wpl (o := ⟨some 9, .alloc _, _, _, _, _⟩) rfl fun K hK => ?_; go_must (refine op_alloc hs rfl _ zref [.slice none 0 0, .slice none 0 0, .slice none 0 0] rfl fun b9 w1 h => hK _ _ ?_); clear hs hK K; have hs := h; clear h)
      | (refine wpl (o := ⟨none, .store _ (.tmp 9) _, _, _, _, _⟩) rfl fun K hK => ?_; go_must (refine op_store_whole hs (b := b9) rfl rfl [_, _, _] rfl (slices_one rfl rfl rfl) (by kernel_rfl) (k := 0) rfl rfl fun w3 h => hK _ _ ?_); clear hs hK K; have hs := h; clear h; dsimp only [List.set] at hs)
      | (refine wpl (o := ⟨some 34, .load _ _, _, _, _, _⟩) rfl fun K hK => op_load_agg rfl (b := b9) (i := 0) rfl [_, _, _] (range_whole hs (by first | exact m0 | exact m1 | exact m2 | exact m3 | exact m4 | exact m5 | exact m6)) (by kernel_rfl) (by kernel_rfl) (hK _ _ ?_); clear hK K)
      | (refine wpl (o := ⟨none, .store _ (.tmp 6) _, _, _, _, _⟩) rfl fun K hK => ?_; go_must (refine op_store_whole hs (b := b6) rfl rfl [_, _, _] rfl (slices_one rfl rfl rfl) (by kernel_rfl) (k := 3) rfl rfl fun w3 h => hK _ _ ?_); clear hs hK K; have hs := h; clear h; dsimp only [List.set] at hs))
    simp only [Dk.wnext_size] at hs
    refine bodyPost_ret (run_results_cell_tmp rfl (b := b6) rfl [_, _, _] (range_whole hs m3) (by kernel_rfl) (by kernel_rfl)) rfl ⟨_, _, _, rfl, ?_⟩
    have h1 := hs.pull 2 rfl
    dsimp only [List.eraseIdx] at h1
    exact h1.keep (by repeat (first | exact List.Sublist.refl _ | with_reducible apply List.Sublist.cons_cons | apply List.Sublist.cons))
  by_cases h2 : kind = 2
  · subst h2
    have hD : D.deed ⟨2, at_, bb, keep⟩ = D.sync := by simp [Dk.deed]
    rw [hD]
    go_wp2_with (first
      | (refine wpl (o := ⟨some 4, .box _ _, _, _, _, _⟩) rfl fun K hK => ?_; go_must (refine op_box hs rfl _ rfl [.slice As D.secs.length cs, .slice Aa D.row.length ca, .slice Ar D.row.length cr] rfl fun b4 w1 h => hK _ _ ?_); clear hs hK K; have hs := h; clear h)
      | (refine wpl (o := ⟨some 5, .box _ _, _, _, _, _⟩) rfl fun K hK => ?_; go_must (refine op_box hs rfl _ rfl [_, _, _, _] rfl fun b5 w1 h => hK _ _ ?_); clear hs hK K; have hs := h; clear h)
      | (refine wpl (o := ⟨some 6, .alloc _, _, _, _, _⟩) rfl fun K hK => ?_; go_must (refine op_alloc hs rfl _ zref [.slice none 0 0, .slice none 0 0, .slice none 0 0] rfl fun b6 w1 h => hK _ _ ?_); clear hs hK K; have hs := h; clear h)
      | (refine wpl (o := ⟨some 16, .load _ _, _, _, _, _⟩) rfl fun K hK => op_load rfl (ad := ⟨b5, 0, none⟩) rfl (by kernel_rfl) (hs.cell (by first | exact m0 | exact m1 | exact m2 | exact m3 | exact m4 | exact m5 | exact m6) rfl) (hK _ _ ?_); clear hK K)
      | (go_at_call 26; go_must (refine (sync_spec W _ _ b D (hs.pull 3 rfl) hr).mono ?_); clear hs; rintro e w1 ⟨rfl, hs⟩; dsimp only [List.eraseIdx] at hs)
      | (refine wpl (o := ⟨some 42, .load _ _, _, _, _, _⟩) rfl fun K hK => op_load_agg rfl (b := b4) (i := 0) rfl [.slice As D.secs.length cs, .slice Aa D.row.length ca, .slice Ar D.row.length cr] (range_whole hs (by first | exact m0 | exact m1 | exact m2 | exact m3 | exact m4 | exact m5 | exact m6)) (by kernel_rfl) (by kernel_rfl) (hK _ _ ?_); clear hK K)
      | (go_at_call 39; go_must (refine (rsync_spec W _ _ _ _ _ D (hs.pull 4 rfl) ok hr).mono ?_); clear hs; rintro e w1 ⟨vs', va', vr', rfl, hs⟩; dsimp only [List.eraseIdx] at hs
         obtain ⟨As', cs', rfl, _, _⟩ := slice_form (hs.slice (ref_secs m0))
         obtain ⟨Aa', ca', rfl, _, _⟩ := slice_form (hs.slice (ref_ats m0))
         obtain ⟨Ar', cr', rfl, _, _⟩ := slice_form (hs.slice (ref_row m0)))
      | (refine wpl (o := ⟨none, .store _ (.tmp 6) _, _, _, _, _⟩) rfl fun K hK => ?_; go_must (refine op_store_whole hs (b := b6) rfl rfl [_, _, _] rfl (slices_one rfl rfl rfl) (by kernel_rfl) (k := 2) rfl rfl fun w3 h => hK _ _ ?_); clear hs hK K; have hs := h; clear h; dsimp only [List.set] at hs))
    simp only [Dk.sync_size, Dk.sync_row, List.length_nil] at hs
    refine bodyPost_ret (run_results_cell_tmp rfl (b := b6) rfl [_, _, _] (range_whole hs m2) (by kernel_rfl) (by kernel_rfl)) rfl ⟨_, _, _, rfl, ?_⟩
    have h1 := hs.pull 1 rfl
    dsimp only [List.eraseIdx] at h1
    exact h1.keep (by repeat (first | exact List.Sublist.refl _ | with_reducible apply List.Sublist.cons_cons | apply List.Sublist.cons))
  by_cases h3 : kind = 3
  · subst h3
    have hD : D.deed ⟨3, at_, bb, keep⟩ = D.crash (fun i => keep.getD i false) := by simp [Dk.deed]
    rw [hD]
    go_wp2_with (first
      | (refine wpl (o := ⟨some 4, .box _ _, _, _, _, _⟩) rfl fun K hK => ?_; go_must (refine op_box hs rfl _ rfl [.slice As D.secs.length cs, .slice Aa D.row.length ca, .slice Ar D.row.length cr] rfl fun b4 w1 h => hK _ _ ?_); clear hs hK K; have hs := h; clear h)
      | (refine wpl (o := ⟨some 5, .box _ _, _, _, _, _⟩) rfl fun K hK => ?_; go_must (refine op_box hs rfl _ rfl [_, _, _, _] rfl fun b5 w1 h => hK _ _ ?_); clear hs hK K; have hs := h; clear h)
      | (refine wpl (o := ⟨some 6, .alloc _, _, _, _, _⟩) rfl fun K hK => ?_; go_must (refine op_alloc hs rfl _ zref [.slice none 0 0, .slice none 0 0, .slice none 0 0] rfl fun b6 w1 h => hK _ _ ?_); clear hs hK K; have hs := h; clear h)
      | (refine wpl (o := ⟨some 16, .load _ _, _, _, _, _⟩) rfl fun K hK => op_load rfl (ad := ⟨b5, 0, none⟩) rfl (by kernel_rfl) (hs.cell (by first | exact m0 | exact m1 | exact m2 | exact m3 | exact m4 | exact m5 | exact m6) rfl) (hK _ _ ?_); clear hK K)
      | (refine wpl (o := ⟨some 48, .load _ _, _, _, _, _⟩) rfl fun K hK => op_load rfl (ad := ⟨b5, 3, none⟩) rfl (by kernel_rfl) (hs.cell (by first | exact m0 | exact m1 | exact m2 | exact m3 | exact m4 | exact m5 | exact m6) rfl) (hK _ _ ?_); clear hK K)
      | (go_at_call 27; go_must (refine (crash_spec W _ _ b D (hs.pull 3 rfl) hr _ keep (by dsimp only [List.eraseIdx]; repeat (first | exact hk | apply Has.tail))).mono ?_); clear hs; rintro e w1 ⟨rfl, hs⟩; dsimp only [List.eraseIdx] at hs)
      | (refine wpl (o := ⟨some 50, .load _ _, _, _, _, _⟩) rfl fun K hK => op_load_agg rfl (b := b4) (i := 0) rfl [.slice As D.secs.length cs, .slice Aa D.row.length ca, .slice Ar D.row.length cr] (range_whole hs (by first | exact m0 | exact m1 | exact m2 | exact m3 | exact m4 | exact m5 | exact m6)) (by kernel_rfl) (by kernel_rfl) (hK _ _ ?_); clear hK K)
      | (refine wpl (o := ⟨some 52, .load _ _, _, _, _, _⟩) rfl fun K hK => op_load rfl (ad := ⟨b5, 3, none⟩) rfl (by kernel_rfl) (hs.cell (by first | exact m0 | exact m1 | exact m2 | exact m3 | exact m4 | exact m5 | exact m6) rfl) (hK _ _ ?_); clear hK K)
      | (go_at_call 40; go_must (refine (rcrash_spec W _ _ _ _ _ D (hs.pull 4 rfl) ok hr _ keep (by dsimp only [List.eraseIdx]; repeat (first | exact hk | apply Has.tail))).mono ?_); clear hs; rintro e w1 ⟨vs', va', vr', rfl, hs⟩; dsimp only [List.eraseIdx] at hs
         obtain ⟨As', cs', rfl, _, _⟩ := slice_form (hs.slice (ref_secs m0))
         obtain ⟨Aa', ca', rfl, _, _⟩ := slice_form (hs.slice (ref_ats m0))
         obtain ⟨Ar', cr', rfl, _, _⟩ := slice_form (hs.slice (ref_row m0)))
      | (refine wpl (o := ⟨none, .store _ (.tmp 6) _, _, _, _, _⟩) rfl fun K hK => ?_; go_must (refine op_store_whole hs (b := b6) rfl rfl [_, _, _] rfl (slices_one rfl rfl rfl) (by kernel_rfl) (k := 2) rfl rfl fun w3 h => hK _ _ ?_); clear hs hK K; have hs := h; clear h; dsimp only [List.set] at hs))
    simp only [Dk.crash_size, Dk.crash_row, List.length_nil] at hs
    refine bodyPost_ret (run_results_cell_tmp rfl (b := b6) rfl [_, _, _] (range_whole hs m2) (by kernel_rfl) (by kernel_rfl)) rfl ⟨_, _, _, rfl, ?_⟩
    have h1 := hs.pull 1 rfl
    dsimp only [List.eraseIdx] at h1
    exact h1.keep (by repeat (first | exact List.Sublist.refl _ | with_reducible apply List.Sublist.cons_cons | apply List.Sublist.cons))
  have hD : D.deed ⟨kind, at_, bb, keep⟩ = D := by simp [Dk.deed, h1, h2, h3]
  rw [hD]
  go_wp2_with (first
    | (refine wpl (o := ⟨some 4, .box _ _, _, _, _, _⟩) rfl fun K hK => ?_; go_must (refine op_box hs rfl _ rfl [.slice As D.secs.length cs, .slice Aa D.row.length ca, .slice Ar D.row.length cr] rfl fun b4 w1 h => hK _ _ ?_); clear hs hK K; have hs := h; clear h)
    | (refine wpl (o := ⟨some 5, .box _ _, _, _, _, _⟩) rfl fun K hK => ?_; go_must (refine op_box hs rfl _ rfl [_, _, _, _] rfl fun b5 w1 h => hK _ _ ?_); clear hs hK K; have hs := h; clear h)
    | (refine wpl (o := ⟨some 6, .alloc _, _, _, _, _⟩) rfl fun K hK => ?_; go_must (refine op_alloc hs rfl _ zref [.slice none 0 0, .slice none 0 0, .slice none 0 0] rfl fun b6 w1 h => hK _ _ ?_); clear hs hK K; have hs := h; clear h)
    | (refine wpl (o := ⟨some 16, .load _ _, _, _, _, _⟩) rfl fun K hK => op_load rfl (ad := ⟨b5, 0, none⟩) rfl (by kernel_rfl) (hs.cell (by first | exact m0 | exact m1 | exact m2 | exact m3 | exact m4 | exact m5 | exact m6) rfl) (hK _ _ ?_); clear hK K)
    | (refine wpl (o := ⟨some 57, .load _ _, _, _, _, _⟩) rfl fun K hK => op_load rfl (ad := ⟨b5, 1, none⟩) rfl (by kernel_rfl) (hs.cell (by first | exact m0 | exact m1 | exact m2 | exact m3 | exact m4 | exact m5 | exact m6) rfl) (hK _ _ ?_); clear hK K)
    | (go_at_call 28; go_must (refine (read_any W _ _ b D (hs.pull 3 rfl) _ hr).mono ?_); clear hs; rintro e w1 ⟨v, rfl, hs⟩; dsimp only [List.eraseIdx] at hs
       obtain ⟨Av, cv, rfl, _, _⟩ := slice_form (hs.slice (Has.mem m0 fun F h => h)))
    | (refine wpl (o := ⟨some 62, .load _ _, _, _, _, _⟩) rfl fun K hK => op_load_agg rfl (b := b4) (i := 0) rfl [.slice As D.secs.length cs, .slice Aa D.row.length ca, .slice Ar D.row.length cr] (range_whole hs (by first | exact m0 | exact m1 | exact m2 | exact m3 | exact m4 | exact m5 | exact m6)) (by kernel_rfl) (by kernel_rfl) (hK _ _ ?_); clear hK K)
    | (refine wpl (o := ⟨some 64, .load _ _, _, _, _, _⟩) rfl fun K hK => op_load rfl (ad := ⟨b5, 1, none⟩) rfl (by kernel_rfl) (hs.cell (by first | exact m0 | exact m1 | exact m2 | exact m3 | exact m4 | exact m5 | exact m6) rfl) (hK _ _ ?_); clear hK K)
    | (go_at_call 34; go_must (refine (rread_any W _ _ _ _ _ D (hs.pull 5 rfl) _ hr hfew).mono ?_); clear hs; rintro e w1 ⟨rfl, hs⟩; dsimp only [List.eraseIdx] at hs; simp only [str])
    | (refine wpl (o := ⟨some 68, .load _ _, _, _, _, _⟩) rfl fun K hK => op_load_agg rfl (b := b4) (i := 0) rfl [.slice As D.secs.length cs, .slice Aa D.row.length ca, .slice Ar D.row.length cr] (range_whole hs (by first | exact m0 | exact m1 | exact m2 | exact m3 | exact m4 | exact m5 | exact m6)) (by kernel_rfl) (by kernel_rfl) (hK _ _ ?_); clear hK K)
    | (refine wpl (o := ⟨some 70, .convert _ _ _, _, _, _, _⟩) rfl fun K hK => ?_; go_must (refine op_to_string rfl Try.underlying22 Try.underlying5 Try.underlying9 rfl (hs.bytes (l := D.rbytes at_) (Has.mem m1 fun F h => h)) (hK _ _ ?_)); clear hK K)
    | (refine wpl (o := ⟨none, .store _ (.tmp 6) _, _, _, _, _⟩) rfl fun K hK => ?_; go_must (refine op_store_whole hs (b := b6) rfl rfl [_, _, _] rfl (slices_one rfl rfl rfl) (by kernel_rfl) (k := 3) rfl rfl fun w3 h => hK _ _ ?_); clear hs hK K; have hs := h; clear h; dsimp only [List.set] at hs))
  refine bodyPost_ret (run_results_cell_tmp rfl (b := b6) rfl [_, _, _] (range_whole hs m3) (by kernel_rfl) (by kernel_rfl)) rfl ⟨_, _, _, rfl, ?_⟩
  have h1 := hs.pull 2 rfl
  dsimp only [List.eraseIdx] at h1
  exact h1.keep (by repeat (first | exact List.Sublist.refl _ | with_reducible apply List.Sublist.cons_cons | apply List.Sublist.cons))
end Go.Proofs.Ytclcajjcbdfaiaa
