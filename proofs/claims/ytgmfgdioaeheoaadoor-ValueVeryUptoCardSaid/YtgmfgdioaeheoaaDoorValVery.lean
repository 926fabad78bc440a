/- The walk of the law ValueVery. -/
import Derived.Test.YtgmfgdioaeheoaaDoorValBack
set_option linter.unusedVariables false
set_option linter.unusedSimpArgs false
namespace Go.Proofs.YtgmfgdioaeheoaaDoor
open Go.RowKit
set_option maxRecDepth 100000 in
set_option maxHeartbeats 8000000 in
theorem valueVery_walk (W w : World) (L : List HP) (hs : Sat W w L) (hold : old W ∈ L) (hm : maxLenIs W) (l : List UInt8) (hl : l.length ≤ 1048576) :
    Calls Tryd.prog 14 #[(.string ⟨(l).toArray⟩)] w fun e w' => e = .returned (.bool true) ∧ Sat W w' L := by
  have HM := Box.mk hm
  clear hm
  cases hk : takeV l with
  | none =>
    have HT : Box (tvV (takeV l) = .tuple #[(.agg #[.int .i64 (0), .int .i64 (0), .string ⟨([]).toArray⟩]), (.string ⟨(([] : List UInt8)).toArray⟩), .int .i64 2]) := ⟨by rw [hk]; rfl⟩
    have he := run_eql_val 0 0 0 0 [] []
    rw [(Vl.same_iff _ _).2 rfl] at he
    have hz := run_zero zval
    clear hk
    go_enter Tryd.func14, Tryd.ntmps14
    go_wp2_with (first
      | (go_at_call 28; go_must (refine (awake3_spec W _ _ hs (by repeat (first | exact hold | apply List.mem_cons_of_mem)) HM.out).mono ?_); clear hs; rintro e w1 ⟨rfl, hs⟩)
      | (go_at_call 35; go_must (refine (take_spec W _ _ hs (by repeat (first | exact hold | apply List.mem_cons_of_mem)) HM.out l (by omega)).mono ?_); clear hs; rintro e w1 ⟨rfl, hs⟩; rw [HT.out])
      | (guard_target = wpList _ _ _ (⟨some 4, .alloc _, _, _, _, _⟩ :: _) _ _; refine wpl (o := ⟨some 4, .alloc _, _, _, _, _⟩) rfl fun K hK => ?_; go_must (refine op_alloc hs rfl _ zval [.int .i64 (0), .int .i64 (0), .string ⟨([]).toArray⟩] rfl fun b4 w1 h => hK _ _ ?_); clear hs hK K; have hs := h; clear h; try dsimp only [List.set] at hs)
      | (guard_target = wpList _ _ _ (⟨none, .store _ (.tmp 4) _, _, _, _, _⟩ :: _) _ _; refine wpl (o := ⟨none, .store _ (.tmp 4) _, _, _, _, _⟩) rfl fun K hK => ?_; go_must (refine op_store_whole (hs.pick (A := row b4 [.int .i64 (0), .int .i64 (0), .string ⟨([]).toArray⟩] 48) (by repeat (first | with_reducible exact Pick.here | with_reducible apply Pick.there))) (b := b4) rfl rfl [.int .i64 (0), .int .i64 (0), .string ⟨([]).toArray⟩] rfl (val_one _ _ _) (by kernel_rfl) (k := 0) rfl rfl fun w3 h => hK _ _ ?_); clear hs hK K; have hs := h; clear h; try dsimp only [List.set] at hs)
      | (guard_target = wpList _ _ _ (⟨some 22, .load _ _, _, _, _, _⟩ :: _) _ _; refine wpl (o := ⟨some 22, .load _ _, _, _, _, _⟩) rfl fun K hK => op_load_agg rfl (b := b4) (i := 0) rfl ([.int .i64 (0), .int .i64 (0), .string ⟨([]).toArray⟩]) (range_whole hs (by (try dsimp only [List.set]); repeat (first | with_reducible exact List.mem_cons_self | with_reducible apply List.mem_cons_of_mem))) (by kernel_rfl) (by kernel_rfl) (hK _ _ ?_); clear hK K))
    go_ret
    exact ⟨rfl, hs.pack (by repeat (first | with_reducible exact Pack.refl | with_reducible exact Pack.nil | with_reducible refine Pack.cons (by repeat (first | with_reducible exact Pick.here | with_reducible apply Pick.there)) ?_ | with_reducible apply Pack.drop))⟩
  | some z =>
    obtain ⟨⟨t, n, s⟩, x⟩ := z
    have HT : Box (tvV (takeV l) = .tuple #[(.agg #[.int .i64 (t), .int .i64 (n), .string ⟨(s).toArray⟩]), (.string ⟨(x).toArray⟩), .int .i64 0]) := ⟨by rw [hk]; rfl⟩
    obtain ⟨hmay, hcat⟩ := takeV_very hk
    obtain ⟨⟨ht, hn, _⟩, hsl, hxl⟩ := takeV_len hk
    dsimp only at ht hn hsl
    have hpl := putB_len ⟨t, n, s⟩
    dsimp only at hpl
    obtain ⟨p, hpB⟩ : ∃ p, putB ⟨t, n, s⟩ = p := ⟨_, rfl⟩
    rw [hpB] at hpl hcat
    have happ := str_app' p x l hcat.symm
    have hcat2 : ¬ 9223372036854775807 < p.length + x.length := by omega
    have HB := Box.mk hpB
    have HMAY := Box.mk hmay
    clear hpB hcat hmay hk
    go_enter Tryd.func14, Tryd.ntmps14
    go_wp2_with (first
      | (go_at_call 28; go_must (refine (awake3_spec W _ _ hs (by repeat (first | exact hold | apply List.mem_cons_of_mem)) HM.out).mono ?_); clear hs; rintro e w1 ⟨rfl, hs⟩)
      | (go_at_call 35; go_must (refine (take_spec W _ _ hs (by repeat (first | exact hold | apply List.mem_cons_of_mem)) HM.out l (by omega)).mono ?_); clear hs; rintro e w1 ⟨rfl, hs⟩; rw [HT.out])
      | (guard_target = wpList _ _ _ (⟨some 4, .alloc _, _, _, _, _⟩ :: _) _ _; refine wpl (o := ⟨some 4, .alloc _, _, _, _, _⟩) rfl fun K hK => ?_; go_must (refine op_alloc hs rfl _ zval [.int .i64 (0), .int .i64 (0), .string ⟨([]).toArray⟩] rfl fun b4 w1 h => hK _ _ ?_); clear hs hK K; have hs := h; clear h; try dsimp only [List.set] at hs)
      | (guard_target = wpList _ _ _ (⟨none, .store _ (.tmp 4) _, _, _, _, _⟩ :: _) _ _; refine wpl (o := ⟨none, .store _ (.tmp 4) _, _, _, _, _⟩) rfl fun K hK => ?_; go_must (refine op_store_whole (hs.pick (A := row b4 [.int .i64 (0), .int .i64 (0), .string ⟨([]).toArray⟩] 48) (by repeat (first | with_reducible exact Pick.here | with_reducible apply Pick.there))) (b := b4) rfl rfl [.int .i64 (t), .int .i64 (n), .string ⟨(s).toArray⟩] rfl (val_one _ _ _) (by kernel_rfl) (k := 0) rfl rfl fun w3 h => hK _ _ ?_); clear hs hK K; have hs := h; clear h; try dsimp only [List.set] at hs)
      | (guard_target = wpList _ _ _ (⟨some 32, .load _ _, _, _, _, _⟩ :: _) _ _; refine wpl (o := ⟨some 32, .load _ _, _, _, _, _⟩) rfl fun K hK => op_load_agg rfl (b := b4) (i := 0) rfl ([.int .i64 (t), .int .i64 (n), .string ⟨(s).toArray⟩]) (range_whole hs (by (try dsimp only [List.set]); repeat (first | with_reducible exact List.mem_cons_self | with_reducible apply List.mem_cons_of_mem))) (by kernel_rfl) (by kernel_rfl) (hK _ _ ?_); clear hK K)
      | (go_at_call 29; go_must (refine (may_spec W _ _ hs t n s (by omega) hn).mono ?_); clear hs; rintro e w1 ⟨rfl, hs⟩; rw [HMAY.out])
      | (guard_target = wpList _ _ _ (⟨some 36, .load _ _, _, _, _, _⟩ :: _) _ _; refine wpl (o := ⟨some 36, .load _ _, _, _, _, _⟩) rfl fun K hK => op_load_agg rfl (b := b4) (i := 0) rfl ([.int .i64 (t), .int .i64 (n), .string ⟨(s).toArray⟩]) (range_whole hs (by (try dsimp only [List.set]); repeat (first | with_reducible exact List.mem_cons_self | with_reducible apply List.mem_cons_of_mem))) (by kernel_rfl) (by kernel_rfl) (hK _ _ ?_); clear hK K)
      | (go_at_call 31; go_must (refine (put_spec W _ _ hs (by repeat (first | exact hold | apply List.mem_cons_of_mem)) HM.out t n s (by omega) ht hn).mono ?_); clear hs; rintro e w1 ⟨rfl, hs⟩; rw [HB.out]))
    go_ret
    exact ⟨rfl, hs.pack (by repeat (first | with_reducible exact Pack.refl | with_reducible exact Pack.nil | with_reducible refine Pack.cons (by repeat (first | with_reducible exact Pick.here | with_reducible apply Pick.there)) ?_ | with_reducible apply Pack.drop))⟩
theorem valueVery_main (W : World) (hm : maxLenIs W) (l : List UInt8) (v0 : Value) (h0 : strU.K (hp W) l [v0]) :
    Calls Tryd.prog 14 #[v0] W fun e w' => e = .returned (.bool true) ∧ Below W.heap.size W w' := by
  obtain ⟨hl, rfl⟩ := str_val h0
  exact (valueVery_walk W W _ (Sat.start W) m0 hm l hl).mono fun e w' ⟨he, hs⟩ => ⟨he, hs.end_ m0⟩
end Go.Proofs.YtgmfgdioaeheoaaDoor
