/- The example of the laws of layer 5 is true. -/
import Derived.Test.YtoedmjibhpajjaaCut
import Derived.Test.YtoedmjibhpajjaaFrParse
import Derived.Test.YtoedmjibhpajjaaFrP2
set_option linter.unusedVariables false
set_option linter.unusedSimpArgs false
namespace Go.Proofs.Ytoedmjibhpajjaa
open Go.RowKit
def exF : Fr := ⟨1, 2, 3, [97, 98]⟩
theorem exF_ok : exF.Ok := ⟨by decide, by decide⟩
theorem parse_ex : Fr.parse exF.pack = exF := Fr.parse_pack exF_ok (by decide)
theorem code_ex : Fr.code exF.pack = 0 := Fr.code_pack exF_ok (by decide)
set_option maxRecDepth 100000 in
set_option maxHeartbeats 4000000 in
theorem awake5_spec (W w : World) (L : List HP) (hs : Sat W w L) :
    Calls Try.prog 15 #[] w fun e w' => e = .returned (.bool true) ∧ Sat W w' L := by
  have hp64 : Box (64 = exF.pack.length) := ⟨(Fr.pack_length (by decide)).symm⟩
  have e51 : Box (List.replicate 51 (Value.int .u8 0) = u8s (List.replicate 51 0)) := ⟨by simp [u8s]⟩
  have hce := Box.mk code_ex
  have hpe := Box.mk parse_ex
  have hcx := Box.mk cutF_ex
  go_enter Try.func15, Try.ntmps15
  go_wp2_with (first
    | (refine wpl (o := ⟨some 7, .buildSlice _ _ _, _, _, _, _⟩) rfl fun K hK => ?_; go_must (refine op_lit1 hs rfl Try.underlying23 info_u8 rfl (u8s [97, 98]) (by omega) rfl (u8s_one _) (by simp [u8s, Act.eval]) fun b7 w1 h => hK _ _ ?_); clear hs hK K; have hs := h; clear h; try dsimp only [List.set] at hs)
    | (refine wpl (o := ⟨some 8, .convert _ _ _, _, _, _, _⟩) rfl fun K hK => ?_; go_must (refine op_mark hs rfl Try.underlying23 Try.underlying5 rfl (k := 0) rfl fun w2 h => hK _ _ ?_); clear hs hK K; have hs := h; clear h; try dsimp only [List.set] at hs)
    | (go_at_call 16; go_must (refine (fpack_spec W _ _ hs exF exF_ok _ (lit_bytes 0 rfl 2 rfl (by omega)) (by decide)).mono ?_); clear hs; rintro e w1 ⟨v1, rfl, hs⟩
       obtain ⟨A1, c1, rfl, _, _⟩ := own_slice hs (i := 0) rfl)
    | (go_at_call 19; go_must (refine (fparse_spec W _ _ hs _ exF.pack (own_bytes 0 rfl hp64.out rfl) (by rw [← hp64.out]; omega)).mono ?_); clear hs; rintro e w1 ⟨vb, rfl, hs⟩; rw [hce.out]; rw [hpe.out] at hs
       obtain ⟨Ab, cb, rfl, _, _⟩ := slice_form (hs.bytes (bytesH_has 0 rfl)))
    | (refine wpl (o := ⟨some 3, .alloc _, _, _, _, _⟩) rfl fun K hK => ?_; go_must (refine op_alloc hs rfl _ zframe [.int .u32 0, .int .u32 0, .int .u8 0, .slice none 0 0] rfl fun b3 w1 h => hK _ _ ?_); clear hs hK K; have hs := h; clear h; try dsimp only [List.set] at hs)
    | (refine wpl (o := ⟨none, .store _ (.tmp 3) _, _, _, _, _⟩) rfl fun K hK => ?_; go_must (refine op_store_whole hs (b := b3) rfl rfl (frCells (Fr.parse exF.pack) (.slice Ab 2 cb)) rfl (by simp [frCells, Value.oneCell']) (by kernel_rfl) (k := 0) rfl rfl fun w3 h => hK _ _ ?_); clear hs hK K; have hs := h; clear h; try dsimp only [List.set] at hs)
    | (refine wpl (o := ⟨some 18, .makeSlice _ _ _, _, _, _, _⟩) rfl fun K hK => ?_; go_must (refine op_make hs rfl Try.underlying23 rfl rfl info_u8 rfl (n := 51) (c := 51) (by omega) (by omega) (by omega) fun b18 w1 h => hK _ _ ?_); clear hs hK K; have hs := h; clear h; try dsimp only [List.set] at hs)
    | (go_at_call 21; rw [e51.out] at hs; go_must (refine (cut_spec W _ _ hs 1 5 (by omega) (by omega) _ (List.replicate 51 0) (lit_bytes 0 rfl 51 (by simp) (by omega)) (by simp)).mono ?_); clear hs; rintro e w1 ⟨v, l, rfl, hl, hs0⟩; rw [hcx.out] at hl hs0
       have hs : Sat W w1 (own v 25 2 4 (frsCells l) :: bods l :: _) := hs0
       clear hs0
       obtain ⟨⟨f0, v0⟩, ⟨f1, v1⟩, rfl⟩ : ∃ a b, l = [a, b] := by
         rcases l with _ | ⟨a, _ | ⟨b, _ | ⟨c, l⟩⟩⟩ <;> simp at hl ⊢
       have hl1 : f0 = ⟨1, 5, 1, List.replicate 50 0⟩ := by have := congrArg (·[0]?) hl; simpa using this
       have hl2 : f1 = ⟨1, 6, 2, [0]⟩ := by have := congrArg (·[1]?) hl; simpa using this
       obtain ⟨bo, co, sp, rfl, _, _, _, _⟩ := hs.ownOpen (i := 0) rfl (by decide)
       have k2 : w1.cell? ⟨bo, 2, none⟩ = some (.int .u8 1) := by have := own_cell (j := 2) hs m0 rfl; rw [hl1] at this; exact this
       have k6 : w1.cell? ⟨bo, 6, none⟩ = some (.int .u8 2) := by have := own_cell (j := 6) hs m0 rfl; rw [hl2] at this; exact this
       have k5 : w1.cell? ⟨bo, 5, none⟩ = some (.int .u32 6) := by have := own_cell (j := 5) hs m0 rfl; rw [hl2] at this; exact this
       have k1 : w1.cell? ⟨b3, 1, none⟩ = some (.int .u32 2) := by have := hs.cell (b := b3) (i := 1) m3 rfl; rw [hpe.out] at this; exact this
       have k3 : w1.cell? ⟨b3, 3, none⟩ = some (.slice Ab 2 cb) := hs.cell (b := b3) (i := 3) m3 rfl
       clear hl hl1 hl2)
    | (refine wpl (o := ⟨some 33, .load _ _, _, _, _, _⟩) rfl fun K hK => op_load rfl (ad := ⟨b3, 1, none⟩) rfl (by kernel_rfl) k1 (hK _ _ ?_); clear hK K)
    | (refine wpl (o := ⟨some 38, .load _ _, _, _, _, _⟩) rfl fun K hK => op_load rfl (ad := ⟨b3, 3, none⟩) rfl (by kernel_rfl) k3 (hK _ _ ?_); clear hK K)
    | (refine wpl (o := ⟨some 39, .convert _ _ _, _, _, _, _⟩) rfl fun K hK => ?_; go_must (refine op_to_string rfl Try.underlying23 Try.underlying5 Try.underlying9 rfl (hs.bytes (bytesH_has 4 rfl)) (hK _ _ ?_)); clear hK K)
    | (refine wpl (o := ⟨some 51, .load _ _, _, _, _, _⟩) rfl fun K hK => op_load rfl (ad := ⟨bo, 2, none⟩) rfl (by kernel_rfl) k2 (hK _ _ ?_); clear hK K)
    | (refine wpl (o := ⟨some 58, .load _ _, _, _, _, _⟩) rfl fun K hK => op_load rfl (ad := ⟨bo, 6, none⟩) rfl (by kernel_rfl) k6 (hK _ _ ?_); clear hK K)
    | (refine wpl (o := ⟨some 65, .load _ _, _, _, _, _⟩) rfl fun K hK => op_load rfl (ad := ⟨bo, 5, none⟩) rfl (by kernel_rfl) k5 (hK _ _ ?_); clear hK K))
  go_ret
  exact ⟨rfl, hs.pack (by repeat (first | with_reducible exact Pack.refl | with_reducible exact Pack.nil | with_reducible refine Pack.cons (by repeat (first | with_reducible exact Pick.here | with_reducible apply Pick.there)) ?_ | with_reducible apply Pack.drop))⟩
end Go.Proofs.Ytoedmjibhpajjaa
