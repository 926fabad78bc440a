/- The example of the laws of layer 8 is true. -/
import Derived.Test.YtfpgmnnecnaheaaSlLoad
import Derived.Test.YtfpgmnnecnaheaaSlSave
import Derived.Test.YtfpgmnnecnaheaaSlAwakeP
import Derived.Test.YtfpgmnnecnaheaaVdCrash
import Derived.Test.YtfpgmnnecnaheaaVdRefC
set_option linter.unusedVariables false
set_option linter.unusedSimpArgs false
namespace Go.Proofs.Ytfpgmnnecnaheaa
open Go.RowKit
def anyW (w : World) : Prop := True
theorem anyW_of {W w : World} {L : List HP} (h : Sat W w L) : anyW w := trivial
theorem info_bool' : (Try.prog.info? 4).map (fun i => (i.zero, i.size, i.bytes)) = some (some (.bool false), 1, 1) := by kernel_rfl
set_option maxRecDepth 100000 in
set_option maxHeartbeats 4000000 in
theorem awake8_spec (W w : World) (L : List HP) (hs : Sat W w L) :
    Calls Try.prog 15 #[] w fun e w' => e = .returned (.bool true) ∧ Sat W w' L := by
  have n12 := Box.mk new12
  have F1 : Box (slCode (Dk.new 12).secs.length ((1 : Nat) : Int) ((4 : Nat) : Int) 1 one3 = 0) := ⟨by rw [new12]; exact aCode1⟩
  have F2 : Box (slCode aD1.sync.secs.length ((1 : Nat) : Int) ((4 : Nat) : Int) 2 z60 = 0) := ⟨by rw [aS2]; exact aCode2⟩
  have M1 : Box (slMayB (Dk.new 12).secs.length ((1 : Nat) : Int) ((4 : Nat) : Int) = true) := ⟨by rw [new12]; exact may14⟩
  have M2 : Box (slMayB aD1.sync.secs.length ((1 : Nat) : Int) ((4 : Nat) : Int) = true) := ⟨by rw [aS2]; exact may14⟩
  have hS2 : aD2.secs.length = 12 := by unfold aD2; rw [save_secs]; exact aS2
  have hS3 : aD3.secs.length = 12 := by unfold aD3; simp [hS2]
  have M3 : Box (slMayB aD2.secs.length ((1 : Nat) : Int) ((4 : Nat) : Int) = true) := ⟨by rw [hS2]; exact may14⟩
  have M4 : Box (slMayB aD3.secs.length ((1 : Nat) : Int) ((4 : Nat) : Int) = true) := ⟨by rw [hS3]; exact may14⟩
  have hrow2 : aD2.row.length ≤ 1000000 := by obtain ⟨f0, f1, _, e⟩ := aD2_eq; rw [e]; simp [Dk.write]
  have LD2 := Box.mk aLoad2
  have LD3 := Box.mk aLoad3
  have E1 : Box (slSave (Dk.new 12) ((1 : Nat) : Int) ((4 : Nat) : Int) 1 one3 = aD1) := ⟨rfl⟩
  have E2 : Box (slSave aD1.sync ((1 : Nat) : Int) ((4 : Nat) : Int) 2 z60 = aD2) := ⟨rfl⟩
  have E3 : Box (aD2.crash (fun i => ([true, false] : List Bool).getD i false) = aD3) := ⟨rfl⟩
  have R0 : (Dk.new 12).row.length ≤ 800000 := by decide
  have R1 : aD1.row.length ≤ 1000000 := by unfold aD1 slSave; split <;> simp [slLay_rows, cuts_one3, Dk.new]
  have R1s : aD1.sync.row.length ≤ 800000 := by simp
  have R3 : aD3.row.length ≤ 1000000 := by unfold aD3; simp
  have e60 : Box (List.replicate 60 (Value.int .u8 0) = u8s z60) := ⟨by simp [u8s, z60]⟩
  have hz : z60.length ≤ 140737488351232 := by simp [z60]
  have ho : one3.length ≤ 140737488351232 := by simp [one3]
  have hz60 : Box (z60.length = 60) := ⟨by simp [z60]⟩
  generalize aD1 = D1 at *
  generalize aD2 = D2 at *
  generalize aD3 = D3 at *
  go_enter Try.func15, Try.ntmps15
  go_wp2_with (first
    | (go_at_call 16; go_must (refine (new_spec W _ _ hs 12 (by omega) (by omega)).mono ?_); clear hs; rintro e w1 ⟨b1, rfl, hs⟩)
    | (go_at_call 18; go_must (refine (area_spec W _ _ hs).mono ?_); clear hs; rintro e w1 ⟨rfl, hs⟩)
    | (guard_target = wpList _ _ _ (⟨some 13, .buildSlice _ _ _, _, _, _, _⟩ :: _) _ _; refine wpl (o := ⟨some 13, .buildSlice _ _ _, _, _, _, _⟩) rfl fun K hK => ?_; go_must (refine op_lit1 hs rfl Try.underlying23 info_u8 rfl (u8s one3) (by omega) rfl (u8s_one _) (by simp [u8s, one3, Act.eval]) fun b13 w1 h => hK _ _ ?_); clear hs hK K; have hs := h; clear h)
    | (guard_target = wpList _ _ _ (⟨some 14, .convert _ _ _, _, _, _, _⟩ :: _) _ _; refine wpl (o := ⟨some 14, .convert _ _ _, _, _, _, _⟩) rfl fun K hK => ?_; go_must (refine op_mark hs rfl Try.underlying23 Try.underlying5 rfl (k := 0) rfl fun w2 h => hK _ _ ?_); clear hs hK K; have hs := h; clear h)
    | (go_at_call 17; go_must (refine (slsave_spec W _ _ b1 (Dk.new 12) (hs.pick (A := disk b1 (Dk.new 12)) (by repeat (first | with_reducible exact Pick.here | with_reducible apply Pick.there))) 1 4 1 (by omega) (by omega) M1.out _ one3 (lit_bytes 0 rfl 3 rfl (by omega)) ho R0).mono ?_); clear hs; rintro e w1 ⟨rfl, hs⟩; rw [F1.out]; rw [E1.out] at hs)
    | (go_at_call 20; go_must (refine (sync_spec W _ _ b1 D1 (hs.pick (A := disk b1 D1) (by repeat (first | with_reducible exact Pick.here | with_reducible apply Pick.there))) R1).mono ?_); clear hs; rintro e w1 ⟨rfl, hs⟩))
  have hS0 := anyW_of hs.drew
  refine wp_region_tree (anyW) (.take 0 (.all [(1, .all [(2, .all [(3, .take 4 (DTree.done))])]), (2, .all [(1, .all [(3, .take 4 (DTree.done))])])])) (by kernel_rfl) (by kernel_rfl) (by kernel_rfl) (fun _ _ d _ _ h => by cases d <;> exact h) hS0 ?_
  have hs' := hs.drew
  clear hs
  have hs := hs'
  clear hs'
  have hq := fun p : Prop => class_const hS0 p
  clear hS0
  repeat (first
    | (refine tree_take rfl (fun K hK => ?_); go_simp; with_reducible refine hK _ ?_; clear hK K))
  refine tree_all (trees_cons_yes (o := _) rfl rfl (fun K hK => ?_) (anyW_of hs) (trees_cons_yes (o := _) rfl rfl (fun K hK => ?_) (anyW_of hs) trees_nil))
  · try go_simp
    go_at_call 18
    refine (area_spec W _ _ hs).mono ?_
    clear hs
    rintro e w5 ⟨rfl, hs⟩
    try go_simp
    refine hK _ _ (anyW_of hs) ?_
    clear hK K
    refine tree_one_yes (o := _) rfl rfl (fun K hK => ?_) (anyW_of hs)
    refine op_make hs rfl Try.underlying23 rfl rfl info_u8 rfl (n := 60) (c := 60) (by omega) (by omega) (by omega) fun b22 w2 h => hK _ _ (anyW_of h) ?_
    clear hs hK K
    have hs := h
    clear h
    try dsimp only [List.set] at hs
    rw [e60.out] at hs
    try go_simp
    refine tree_one_yes (o := _) rfl rfl (fun K hK => ?_) (anyW_of hs)
    try go_simp
    go_at_call 17
    refine (slsave_spec W _ _ b1 D1.sync (hs.pick (A := disk b1 D1.sync) (by repeat (first | with_reducible exact Pick.here | with_reducible apply Pick.there))) 1 4 2 (by omega) (by omega) M2.out _ z60 (lit_bytes 0 rfl 60 hz60.out (by omega)) hz R1s).mono ?_
    clear hs
    rintro e w5 ⟨rfl, hs⟩
    rw [F2.out]
    rw [E2.out] at hs
    try go_simp
    refine hK _ _ (anyW_of hs) ?_
    clear hK K
    repeat (first
      | (refine tree_take rfl (fun K hK => ?_); go_simp; with_reducible refine hK _ ?_; clear hK K))
    refine tree_done ?_
    clear hq
    go_wp2_with (first
      | (go_at_call 18; go_must (refine (area_spec W _ _ hs).mono ?_); clear hs; rintro e w1 ⟨rfl, hs⟩)
      | (have hh := mark1; clear hh; go_at_call 19; go_must (refine (slload_spec W _ _ b1 D3 (hs.pick (A := disk b1 D3) (by repeat (first | with_reducible exact Pick.here | with_reducible apply Pick.there))) 1 4 M4.out R3).mono ?_); clear hs; rintro e w1 ⟨v9, rfl, hs⟩; rw [LD3.out] at hs ⊢
         obtain ⟨A9, c9, rfl, _, _⟩ := slice_form (hs.bytes (bytesH_has (l := one3) 0 rfl)))
      | (go_at_call 19; go_must (refine (slload_spec W _ _ b1 D2 (hs.pick (A := disk b1 D2) (by repeat (first | with_reducible exact Pick.here | with_reducible apply Pick.there))) 1 4 M3.out hrow2).mono ?_); clear hs; rintro e w1 ⟨v8, rfl, hs⟩; rw [LD2.out] at hs ⊢
         obtain ⟨A8, c8, rfl, _, _⟩ := slice_form (hs.bytes (bytesH_has (l := z60) 0 rfl)))
      | (guard_target = wpList _ _ _ (⟨some 32, .buildSlice _ _ _, _, _, _, _⟩ :: _) _ _; refine wpl (o := ⟨some 32, .buildSlice _ _ _, _, _, _, _⟩) rfl fun K hK => ?_; go_must (refine op_lit1 hs rfl Try.underlying36 info_bool' rfl (bools [true, false]) (by omega) rfl (fun v hv => by obtain ⟨x, _, rfl⟩ := List.mem_map.1 hv; rfl) (by simp [bools, Act.eval]) fun b32 w5 h => hK _ _ ?_); clear hs hK K; have hs := h; clear h; try dsimp only [List.set] at hs)
      | (go_at_call 21; go_must (refine (crash_spec W _ _ b1 D2 (hs.pick (A := disk b1 D2) (by repeat (first | with_reducible exact Pick.here | with_reducible apply Pick.there))) hrow2 _ [true, false] (Has.mem (A := row b32 (bools [true, false]) 4) (by (try dsimp only [List.set]); repeat (first | with_reducible exact List.mem_cons_self | with_reducible apply List.mem_cons_of_mem)) fun F hF => own_sliceAt F (own_exact (n := 2) (sz := 1) rfl (by omega) F hF))).mono ?_); clear hs; rintro e w1 ⟨rfl, hs⟩; rw [E3.out] at hs; have mark1 := trivial)
      | (guard_target = wpList _ _ _ (⟨some 65, .convert _ _ _, _, _, _, _⟩ :: _) _ _; refine wpl (o := ⟨some 65, .convert _ _ _, _, _, _, _⟩) rfl fun K hK => ?_; go_must (refine op_to_string rfl Try.underlying23 Try.underlying5 Try.underlying9 rfl (hs.bytes ((show Has _ (bytesAt (.slice A9 one3.length c9) one3) from Has.mem (A := bytesH (.slice A9 one3.length c9) (slBody (some (1, one3)))) (by (try dsimp only [List.set]); repeat (first | with_reducible exact List.mem_cons_self | with_reducible apply List.mem_cons_of_mem)) fun F hF => hF))) (hK _ _ ?_)); clear hK K))
    go_ret
    refine ⟨?_, hs.pack (by repeat (first | with_reducible exact Pack.refl | with_reducible exact Pack.nil | with_reducible refine Pack.cons (by repeat (first | with_reducible exact Pick.here | with_reducible apply Pick.there)) ?_ | with_reducible apply Pack.drop))⟩
    rfl
  · refine op_make hs rfl Try.underlying23 rfl rfl info_u8 rfl (n := 60) (c := 60) (by omega) (by omega) (by omega) fun b22 w2 h => hK _ _ (anyW_of h) ?_
    clear hs hK K
    have hs := h
    clear h
    try dsimp only [List.set] at hs
    rw [e60.out] at hs
    try go_simp
    refine tree_one_yes (o := _) rfl rfl (fun K hK => ?_) (anyW_of hs)
    try go_simp
    go_at_call 18
    refine (area_spec W _ _ hs).mono ?_
    clear hs
    rintro e w5 ⟨rfl, hs⟩
    try go_simp
    refine hK _ _ (anyW_of hs) ?_
    clear hK K
    refine tree_one_yes (o := _) rfl rfl (fun K hK => ?_) (anyW_of hs)
    try go_simp
    go_at_call 17
    refine (slsave_spec W _ _ b1 D1.sync (hs.pick (A := disk b1 D1.sync) (by repeat (first | with_reducible exact Pick.here | with_reducible apply Pick.there))) 1 4 2 (by omega) (by omega) M2.out _ z60 (lit_bytes 0 rfl 60 hz60.out (by omega)) hz R1s).mono ?_
    clear hs
    rintro e w5 ⟨rfl, hs⟩
    rw [F2.out]
    rw [E2.out] at hs
    try go_simp
    refine hK _ _ (anyW_of hs) ?_
    clear hK K
    repeat (first
      | (refine tree_take rfl (fun K hK => ?_); go_simp; with_reducible refine hK _ ?_; clear hK K))
    refine tree_done ?_
    clear hq
    go_wp2_with (first
      | (go_at_call 18; go_must (refine (area_spec W _ _ hs).mono ?_); clear hs; rintro e w1 ⟨rfl, hs⟩)
      | (have hh := mark1; clear hh; go_at_call 19; go_must (refine (slload_spec W _ _ b1 D3 (hs.pick (A := disk b1 D3) (by repeat (first | with_reducible exact Pick.here | with_reducible apply Pick.there))) 1 4 M4.out R3).mono ?_); clear hs; rintro e w1 ⟨v9, rfl, hs⟩; rw [LD3.out] at hs ⊢
         obtain ⟨A9, c9, rfl, _, _⟩ := slice_form (hs.bytes (bytesH_has (l := one3) 0 rfl)))
      | (go_at_call 19; go_must (refine (slload_spec W _ _ b1 D2 (hs.pick (A := disk b1 D2) (by repeat (first | with_reducible exact Pick.here | with_reducible apply Pick.there))) 1 4 M3.out hrow2).mono ?_); clear hs; rintro e w1 ⟨v8, rfl, hs⟩; rw [LD2.out] at hs ⊢
         obtain ⟨A8, c8, rfl, _, _⟩ := slice_form (hs.bytes (bytesH_has (l := z60) 0 rfl)))
      | (guard_target = wpList _ _ _ (⟨some 32, .buildSlice _ _ _, _, _, _, _⟩ :: _) _ _; refine wpl (o := ⟨some 32, .buildSlice _ _ _, _, _, _, _⟩) rfl fun K hK => ?_; go_must (refine op_lit1 hs rfl Try.underlying36 info_bool' rfl (bools [true, false]) (by omega) rfl (fun v hv => by obtain ⟨x, _, rfl⟩ := List.mem_map.1 hv; rfl) (by simp [bools, Act.eval]) fun b32 w5 h => hK _ _ ?_); clear hs hK K; have hs := h; clear h; try dsimp only [List.set] at hs)
      | (go_at_call 21; go_must (refine (crash_spec W _ _ b1 D2 (hs.pick (A := disk b1 D2) (by repeat (first | with_reducible exact Pick.here | with_reducible apply Pick.there))) hrow2 _ [true, false] (Has.mem (A := row b32 (bools [true, false]) 4) (by (try dsimp only [List.set]); repeat (first | with_reducible exact List.mem_cons_self | with_reducible apply List.mem_cons_of_mem)) fun F hF => own_sliceAt F (own_exact (n := 2) (sz := 1) rfl (by omega) F hF))).mono ?_); clear hs; rintro e w1 ⟨rfl, hs⟩; rw [E3.out] at hs; have mark1 := trivial)
      | (guard_target = wpList _ _ _ (⟨some 65, .convert _ _ _, _, _, _, _⟩ :: _) _ _; refine wpl (o := ⟨some 65, .convert _ _ _, _, _, _, _⟩) rfl fun K hK => ?_; go_must (refine op_to_string rfl Try.underlying23 Try.underlying5 Try.underlying9 rfl (hs.bytes ((show Has _ (bytesAt (.slice A9 one3.length c9) one3) from Has.mem (A := bytesH (.slice A9 one3.length c9) (slBody (some (1, one3)))) (by (try dsimp only [List.set]); repeat (first | with_reducible exact List.mem_cons_self | with_reducible apply List.mem_cons_of_mem)) fun F hF => hF))) (hK _ _ ?_)); clear hK K))
    go_ret
    refine ⟨?_, hs.pack (by repeat (first | with_reducible exact Pack.refl | with_reducible exact Pack.nil | with_reducible refine Pack.cons (by repeat (first | with_reducible exact Pick.here | with_reducible apply Pick.there)) ?_ | with_reducible apply Pack.drop))⟩
    rfl
end Go.Proofs.Ytfpgmnnecnaheaa
