/- The walk of the law ValueTakes. -/
import Derived.Test.YtgmfgdioaeheoaaDoorValA
set_option linter.unusedVariables false
set_option linter.unusedSimpArgs false
namespace Go.Proofs.YtgmfgdioaeheoaaDoor
open Go.RowKit
set_option maxRecDepth 100000 in
set_option maxHeartbeats 8000000 in
theorem valueTakes_walk (W w : World) (L : List HP) (hs : Sat W w L) (hold : old W ∈ L) (hm : maxLenIs W) (l : List UInt8) (hl : l.length ≤ 1073741824) :
    Calls Tryd.prog 10 #[(.string ⟨(l).toArray⟩)] w fun e w' => e = .returned (.bool true) ∧ Sat W w' L := by
  have HM := Box.mk hm
  clear hm
  obtain ⟨t, n, s, x, c, hT⟩ := tvV_form l
  have HT := Box.mk hT
  clear hT
  have he := run_eql_val t n t n s s
  rw [(Vl.same_iff _ _).2 rfl] at he
  go_enter Tryd.func10, Tryd.ntmps10
  go_wp2_with (first
    | (go_at_call 28; go_must (refine (awake3_spec W _ _ hs hold HM.out).mono ?_); clear hs; rintro e w1 ⟨rfl, hs⟩)
    | (go_at_call 35; go_must (refine (take_spec W _ _ hs hold HM.out l hl).mono ?_); clear hs; rintro e w1 ⟨rfl, hs⟩; rw [HT.out])
    | (guard_target = wpList _ _ _ (⟨some 4, .alloc _, _, _, _, _⟩ :: _) _ _; refine wpl (o := ⟨some 4, .alloc _, _, _, _, _⟩) rfl fun K hK => ?_; go_must (refine op_alloc hs rfl _ zval [.int .i64 (0), .int .i64 (0), .string ⟨([]).toArray⟩] rfl fun b4 w1 h => hK _ _ ?_); clear hs hK K; have hs := h; clear h; try dsimp only [List.set] at hs)
    | (guard_target = wpList _ _ _ (⟨none, .store _ (.tmp 4) _, _, _, _, _⟩ :: _) _ _; refine wpl (o := ⟨none, .store _ (.tmp 4) _, _, _, _, _⟩) rfl fun K hK => ?_; go_must (refine op_store_whole (hs.pick (A := row b4 [.int .i64 (0), .int .i64 (0), .string ⟨([]).toArray⟩] 48) (by repeat (first | with_reducible exact Pick.here | with_reducible apply Pick.there))) (b := b4) rfl rfl [.int .i64 (t), .int .i64 (n), .string ⟨(s).toArray⟩] rfl (val_one _ _ _) (by kernel_rfl) (k := 0) rfl rfl fun w3 h => hK _ _ ?_); clear hs hK K; have hs := h; clear h; try dsimp only [List.set] at hs)
    | (go_at_call 36; go_must (refine (rtake_spec W _ _ hs l hl).mono ?_); clear hs; rintro e w1 ⟨rfl, hs⟩; rw [HT.out])
    | (guard_target = wpList _ _ _ (⟨some 7, .alloc _, _, _, _, _⟩ :: _) _ _; refine wpl (o := ⟨some 7, .alloc _, _, _, _, _⟩) rfl fun K hK => ?_; go_must (refine op_alloc hs rfl _ zval [.int .i64 (0), .int .i64 (0), .string ⟨([]).toArray⟩] rfl fun b7 w1 h => hK _ _ ?_); clear hs hK K; have hs := h; clear h; try dsimp only [List.set] at hs)
    | (guard_target = wpList _ _ _ (⟨none, .store _ (.tmp 7) _, _, _, _, _⟩ :: _) _ _; refine wpl (o := ⟨none, .store _ (.tmp 7) _, _, _, _, _⟩) rfl fun K hK => ?_; go_must (refine op_store_whole (hs.pick (A := row b7 [.int .i64 (0), .int .i64 (0), .string ⟨([]).toArray⟩] 48) (by repeat (first | with_reducible exact Pick.here | with_reducible apply Pick.there))) (b := b7) rfl rfl [.int .i64 (t), .int .i64 (n), .string ⟨(s).toArray⟩] rfl (val_one _ _ _) (by kernel_rfl) (k := 0) rfl rfl fun w3 h => hK _ _ ?_); clear hs hK K; have hs := h; clear h; try dsimp only [List.set] at hs)
    | (guard_target = wpList _ _ _ (⟨some 25, .load _ _, _, _, _, _⟩ :: _) _ _; refine wpl (o := ⟨some 25, .load _ _, _, _, _, _⟩) rfl fun K hK => op_load_agg rfl (b := b4) (i := 0) rfl ([.int .i64 (t), .int .i64 (n), .string ⟨(s).toArray⟩]) (range_whole hs (by (try dsimp only [List.set]); repeat (first | with_reducible exact List.mem_cons_self | with_reducible apply List.mem_cons_of_mem))) (by kernel_rfl) (by kernel_rfl) (hK _ _ ?_); clear hK K)
    | (guard_target = wpList _ _ _ (⟨some 26, .load _ _, _, _, _, _⟩ :: _) _ _; refine wpl (o := ⟨some 26, .load _ _, _, _, _, _⟩) rfl fun K hK => op_load_agg rfl (b := b7) (i := 0) rfl ([.int .i64 (t), .int .i64 (n), .string ⟨(s).toArray⟩]) (range_whole hs (by (try dsimp only [List.set]); repeat (first | with_reducible exact List.mem_cons_self | with_reducible apply List.mem_cons_of_mem))) (by kernel_rfl) (by kernel_rfl) (hK _ _ ?_); clear hK K))
  go_ret
  exact ⟨rfl, hs.pack (by repeat (first | with_reducible exact Pack.refl | with_reducible exact Pack.nil | with_reducible refine Pack.cons (by repeat (first | with_reducible exact Pick.here | with_reducible apply Pick.there)) ?_ | with_reducible apply Pack.drop))⟩
theorem valueTakes_main (W : World) (hm : maxLenIs W) (l : List UInt8) (v0 : Value) (h0 : strU.K (hp W) l [v0]) :
    Calls Tryd.prog 10 #[v0] W fun e w' => e = .returned (.bool true) ∧ Below W.heap.size W w' := by
  obtain ⟨hl, rfl⟩ := str_val h0
  exact (valueTakes_walk W W _ (Sat.start W) m0 hm l (by omega)).mono fun e w' ⟨he, hs⟩ => ⟨he, hs.end_ m0⟩
end Go.Proofs.YtgmfgdioaeheoaaDoor
