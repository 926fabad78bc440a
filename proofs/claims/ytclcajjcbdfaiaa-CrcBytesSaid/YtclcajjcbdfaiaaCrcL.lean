/- The laws' own example of layer 2 is true; no conditions. -/
import Derived.Test.YtclcajjcbdfaiaaCrc
import Derived.Test.YtclcajjcbdfaiaaCrcR
set_option linter.unusedVariables false
set_option linter.unusedSimpArgs false
namespace Go.Proofs.Ytclcajjcbdfaiaa
open Go.RowKit
theorem info5 : (Try.prog.info? 5).map (fun i => (i.zero, i.size, i.bytes)) = some (some (.int .u8 0), 1, 1) := by kernel_rfl
theorem awake_sum : crcOf [49, 50, 51, 52, 53, 54, 55, 56, 57] = 3808858755#32 := by decide +kernel
theorem awake_tab : ctab 1 = 4067132163#32 := by decide +kernel
theorem tab_index (i : Int) (k : IntKind) (h0 : 0 ≤ i) (h1 : i < 256) (w : World) : (Instr.index 27 (.agg (tabCells 256).toArray) (.int k i)).run Try.prog w = .ok (.int .u32 (ctab i.toNat).toNat) w :=
  run_index_array Try.underlying27 (by kernel_rfl) (by kernel_rfl) _ i h0 h1 (tabCells_get 256 _ (by omega)) w
set_option maxRecDepth 100000 in
set_option maxHeartbeats 400000 in
theorem awake_spec (W w : World) (L : List HP) (hs : Sat W w L) : Calls Try.prog 15 #[] w fun e w' => e = .returned (.bool true) ∧ Sat W w' L := by
  have hix := fun w => tab_index 1 .i64 (by omega) (by omega) w
  have e1 : ctab (1 : Int).toNat = 4067132163#32 := awake_tab
  simp only [e1] at hix
  clear e1
  go_enter Try.func15, Try.ntmps15
  go_wp2_with (first
    | (refine wpl (o := ⟨some 1, .buildSlice _ _ _, _, _, _, _⟩) rfl fun K hK => ?_; go_must (refine op_lit1 hs rfl Try.underlying22 info5 rfl (u8s [49, 50, 51, 52, 53, 54, 55, 56, 57]) (by omega) rfl (by simp [u8s, Value.oneCell']) (by simp [u8s, Act.eval]) fun b1 w1 h => hK _ _ ?_); clear hs hK K; have hs := h; clear h)
    | (refine wpl (o := ⟨some 2, .convert _ _ _, _, _, _, _⟩) rfl fun K hK => ?_; go_must (refine op_mark hs rfl Try.underlying22 Try.underlying5 rfl (k := 0) rfl fun w2 h => hK _ _ ?_); clear hs hK K; have hs := h; clear h)
    | (go_at_call 16; go_must (refine (of_spec W _ _ hs _ [49, 50, 51, 52, 53, 54, 55, 56, 57] (Has.head (fun F hF => own_sliceAt F (own_row (e := 5) (n := 9) (cap := 9) (sz := 1) (sp := []) rfl (by omega) (by omega) rfl F hF))) (by simp)).mono ?_); clear hs; rintro e w3 ⟨rfl, hs⟩; rw [awake_sum])
    | (go_at_call 20; go_must (refine (table_spec W _ _ hs).mono ?_); clear hs; rintro e w4 ⟨rfl, hs⟩))
  go_ret
  exact ⟨rfl, hs.tail⟩
end Go.Proofs.Ytclcajjcbdfaiaa
