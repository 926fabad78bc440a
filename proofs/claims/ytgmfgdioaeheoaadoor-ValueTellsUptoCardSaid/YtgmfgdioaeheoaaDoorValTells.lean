/- The walk of the law ValueTells. -/
import Derived.Test.YtgmfgdioaeheoaaDoorValA
set_option linter.unusedVariables false
set_option linter.unusedSimpArgs false
namespace Go.Proofs.YtgmfgdioaeheoaaDoor
open Go.RowKit
set_option maxRecDepth 100000 in
set_option maxHeartbeats 8000000 in
theorem valueTells_walk (W w : World) (L : List HP) (hs : Sat W w L) (hold : old W ∈ L) (hm : maxLenIs W) (t n : Int) (s : List UInt8) (t' n' : Int) (s' : List UInt8) (ht : -9223372036854775808 ≤ t ∧ t < 9223372036854775808) (hn : -9223372036854775808 ≤ n ∧ n < 9223372036854775808) (hl : s.length ≤ 1073741824) :
    Calls Tryd.prog 9 #[(.agg #[.int .i64 (t), .int .i64 (n), .string ⟨(s).toArray⟩]), (.agg #[.int .i64 (t'), .int .i64 (n'), .string ⟨(s').toArray⟩])] w fun e w' => e = .returned (.bool true) ∧ Sat W w' L := by
  have HM := Box.mk hm
  clear hm
  obtain ⟨m, hmB⟩ : ∃ m, mayB ⟨t, n, s⟩ = m := ⟨_, rfl⟩
  obtain ⟨p, hpB⟩ : ∃ p, putB ⟨t, n, s⟩ = p := ⟨_, rfl⟩
  obtain ⟨c, hcB⟩ : ∃ c, cmpV ⟨t, n, s⟩ ⟨t', n', s'⟩ = c := ⟨_, rfl⟩
  have HB1 := Box.mk hmB
  have HB2 := Box.mk hpB
  have HB3 := Box.mk hcB
  clear hmB hpB hcB
  go_enter Tryd.func9, Tryd.ntmps9
  go_wp2_with (first
    | (guard_target = wpList _ _ _ (⟨some 2, .box _ _, _, _, _, _⟩ :: _) _ _; refine wpl (o := ⟨some 2, .box _ _, _, _, _, _⟩) rfl fun K hK => ?_; go_must (refine op_box hs rfl _ rfl [.int .i64 (t), .int .i64 (n), .string ⟨(s).toArray⟩] rfl fun b2 w1 h => hK _ _ ?_); clear hs hK K; have hs := h; clear h; try dsimp only [List.set] at hs)
    | (guard_target = wpList _ _ _ (⟨some 3, .box _ _, _, _, _, _⟩ :: _) _ _; refine wpl (o := ⟨some 3, .box _ _, _, _, _, _⟩) rfl fun K hK => ?_; go_must (refine op_box hs rfl _ rfl [.int .i64 (t'), .int .i64 (n'), .string ⟨(s').toArray⟩] rfl fun b3 w1 h => hK _ _ ?_); clear hs hK K; have hs := h; clear h; try dsimp only [List.set] at hs)
    | (go_at_call 28; go_must (refine (awake3_spec W _ _ hs (List.mem_cons_of_mem _ (List.mem_cons_of_mem _ hold)) HM.out).mono ?_); clear hs; rintro e w1 ⟨rfl, hs⟩))
  obtain ⟨M, hM, hs⟩ : ∃ M, M = _ ∧ Sat W _ M := ⟨_, rfl, hs⟩
  have d2 : ∀ w, Sat W w M → w.rangeAt b2 0 [.int .i64 (t), .int .i64 (n), .string ⟨(s).toArray⟩] := fun w h => by rw [hM] at h; exact range_whole h m1
  have d3 : ∀ w, Sat W w M → w.rangeAt b3 0 [.int .i64 (t'), .int .i64 (n'), .string ⟨(s').toArray⟩] := fun w h => by rw [hM] at h; exact range_whole h m0
  have hold' : old W ∈ M := by rw [hM]; exact List.mem_cons_of_mem _ (List.mem_cons_of_mem _ hold)
  have o1 : ∀ w, Sat W w M → Calls Tryd.prog 29 #[(.agg #[.int .i64 (t), .int .i64 (n), .string ⟨(s).toArray⟩])] w fun e w' => e = .returned (.bool m) ∧ Sat W w' M := by rw [← HB1.out]; exact fun w h => may_spec W w _ h t n s hl hn
  have o2 : ∀ w, Sat W w M → Calls Tryd.prog 30 #[(.agg #[.int .i64 (t), .int .i64 (n), .string ⟨(s).toArray⟩])] w fun e w' => e = .returned (.bool m) ∧ Sat W w' M := by rw [← HB1.out]; exact fun w h => rmay_spec W w _ h t n s hl
  have o3 : ∀ w, Sat W w M → Calls Tryd.prog 31 #[(.agg #[.int .i64 (t), .int .i64 (n), .string ⟨(s).toArray⟩])] w fun e w' => e = .returned (.string ⟨(p).toArray⟩) ∧ Sat W w' M := by rw [← HB2.out]; exact fun w h => put_spec W w _ h hold' HM.out t n s hl ht hn
  have o4 : ∀ w, Sat W w M → Calls Tryd.prog 32 #[(.agg #[.int .i64 (t), .int .i64 (n), .string ⟨(s).toArray⟩])] w fun e w' => e = .returned (.string ⟨(p).toArray⟩) ∧ Sat W w' M := by rw [← HB2.out]; exact fun w h => rput_spec W w _ h t n s hl ht hn
  have o5 : ∀ w, Sat W w M → Calls Tryd.prog 33 #[(.agg #[.int .i64 (t), .int .i64 (n), .string ⟨(s).toArray⟩]), (.agg #[.int .i64 (t'), .int .i64 (n'), .string ⟨(s').toArray⟩])] w fun e w' => e = .returned (.int .i64 c) ∧ Sat W w' M := by rw [← HB3.out]; exact fun w h => compare_spec W w _ h t n s t' n' s'
  have o6 : ∀ w, Sat W w M → Calls Tryd.prog 34 #[(.agg #[.int .i64 (t), .int .i64 (n), .string ⟨(s).toArray⟩]), (.agg #[.int .i64 (t'), .int .i64 (n'), .string ⟨(s').toArray⟩])] w fun e w' => e = .returned (.int .i64 c) ∧ Sat W w' M := by rw [← HB3.out]; exact fun w h => rcompare_spec W w _ h t n s t' n' s'
  have o1_ := Box.mk o1
  clear o1
  have o1 := o1_
  clear o1_
  have o2_ := Box.mk o2
  clear o2
  have o2 := o2_
  clear o2_
  have o3_ := Box.mk o3
  clear o3
  have o3 := o3_
  clear o3_
  have o4_ := Box.mk o4
  clear o4
  have o4 := o4_
  clear o4_
  have o5_ := Box.mk o5
  clear o5
  have o5 := o5_
  clear o5_
  have o6_ := Box.mk o6
  clear o6
  have o6 := o6_
  clear o6_
  have hM_ := Box.mk hM
  clear hM
  have hM := hM_
  clear hM_
  refine wp_region_quiet (C := fun w' => Sat W w' M) (by kernel_rfl) (by kernel_rfl) hs.drew ?_
  have hq := sat_const hs
  repeat (first
    | ((with_reducible refine quiet_load_agg (o := ⟨some 9, .load _ _, _, _, _, _⟩) ([.int .i64 (t), .int .i64 (n), .string ⟨(s).toArray⟩]) rfl rfl rfl ?_ ?_ d2 ?_); (kernel_rfl); (kernel_rfl))
    | ((with_reducible refine quiet_load_agg (o := ⟨some 11, .load _ _, _, _, _, _⟩) ([.int .i64 (t), .int .i64 (n), .string ⟨(s).toArray⟩]) rfl rfl rfl ?_ ?_ d2 ?_); (kernel_rfl); (kernel_rfl))
    | ((with_reducible refine quiet_load_agg (o := ⟨some 16, .load _ _, _, _, _, _⟩) ([.int .i64 (t), .int .i64 (n), .string ⟨(s).toArray⟩]) rfl rfl rfl ?_ ?_ d2 ?_); (kernel_rfl); (kernel_rfl))
    | ((with_reducible refine quiet_load_agg (o := ⟨some 18, .load _ _, _, _, _, _⟩) ([.int .i64 (t), .int .i64 (n), .string ⟨(s).toArray⟩]) rfl rfl rfl ?_ ?_ d2 ?_); (kernel_rfl); (kernel_rfl))
    | ((with_reducible refine quiet_load_agg (o := ⟨some 23, .load _ _, _, _, _, _⟩) ([.int .i64 (t), .int .i64 (n), .string ⟨(s).toArray⟩]) rfl rfl rfl ?_ ?_ d2 ?_); (kernel_rfl); (kernel_rfl))
    | ((with_reducible refine quiet_load_agg (o := ⟨some 26, .load _ _, _, _, _, _⟩) ([.int .i64 (t), .int .i64 (n), .string ⟨(s).toArray⟩]) rfl rfl rfl ?_ ?_ d2 ?_); (kernel_rfl); (kernel_rfl))
    | ((with_reducible refine quiet_load_agg (o := ⟨some 24, .load _ _, _, _, _, _⟩) ([.int .i64 (t'), .int .i64 (n'), .string ⟨(s').toArray⟩]) rfl rfl rfl ?_ ?_ d3 ?_); (kernel_rfl); (kernel_rfl))
    | ((with_reducible refine quiet_load_agg (o := ⟨some 27, .load _ _, _, _, _, _⟩) ([.int .i64 (t'), .int .i64 (n'), .string ⟨(s').toArray⟩]) rfl rfl rfl ?_ ?_ d3 ?_); (kernel_rfl); (kernel_rfl))
    | (refine wpQuiet_step (fun K hK => ?_); go_simp; first
        | (with_reducible refine hK _ ?_; clear hK K)
        | (apply Exists.intro; refine ⟨fun w5 h5 => ?_, hK _ ?_⟩; (first | with_reducible exact o1.out w5 h5 | with_reducible exact o2.out w5 h5 | with_reducible exact o3.out w5 h5 | with_reducible exact o4.out w5 h5 | with_reducible exact o5.out w5 h5 | with_reducible exact o6.out w5 h5); clear hK K)))
  refine wpQuiet_nil ?_
  intro w8 hs8
  clear hs
  rw [hM.out] at hs8
  have hs := hs8
  clear hs8
  go_wp2_with fail
  go_ret
  exact ⟨rfl, hs.pack (by repeat (first | with_reducible exact Pack.refl | with_reducible exact Pack.nil | with_reducible refine Pack.cons (by repeat (first | with_reducible exact Pick.here | with_reducible apply Pick.there)) ?_ | with_reducible apply Pack.drop))⟩
theorem valueTells_main (W : World) (hm : maxLenIs W) (v : Vl) (cs : List Value) (h0 : valKin.K (hp W) v cs) (v' : Vl) (ds : List Value) (h1 : valKin.K (hp W) v' ds) :
    Calls Tryd.prog 9 #[.agg cs.toArray, .agg ds.toArray] W fun e w' => e = .returned (.bool true) ∧ Below W.heap.size W w' := by
  obtain ⟨ht, hn, hl, rfl⟩ := val_val h0
  obtain ⟨_, _, _, rfl⟩ := val_val h1
  exact (valueTells_walk W W _ (Sat.start W) m0 hm v.t v.n v.s v'.t v'.n v'.s ht hn (by omega)).mono fun e w' ⟨he, hs⟩ => ⟨he, hs.end_ m0⟩
end Go.Proofs.YtgmfgdioaeheoaaDoor
