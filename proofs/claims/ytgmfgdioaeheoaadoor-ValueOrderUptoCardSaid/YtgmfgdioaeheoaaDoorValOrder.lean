/- The walk of the law ValueOrder. -/
import Derived.Test.YtgmfgdioaeheoaaDoorValBack
set_option linter.unusedVariables false
set_option linter.unusedSimpArgs false
namespace Go.Proofs.YtgmfgdioaeheoaaDoor
open Go.RowKit
set_option maxRecDepth 100000 in
set_option maxHeartbeats 16000000 in
theorem valueOrder_no (W w : World) (L : List HP) (hs : Sat W w L) (hold : old W ∈ L) (HM : Box (maxLenIs W)) (t n : Int) (s : List UInt8) (t' n' : Int) (s' x y : List UInt8) (hn : -9223372036854775808 ≤ n ∧ n < 9223372036854775808) (hl : s.length ≤ 1073741824) (hn' : -9223372036854775808 ≤ n' ∧ n' < 9223372036854775808) (hl' : s'.length ≤ 1073741824)
    (HA : Box (mayB ⟨t, n, s⟩ = false)) :
    Calls Tryd.prog 12 #[(.agg #[.int .i64 (t), .int .i64 (n), .string ⟨(s).toArray⟩]), (.agg #[.int .i64 (t'), .int .i64 (n'), .string ⟨(s').toArray⟩]), .agg #[(.string ⟨(x).toArray⟩), (.string ⟨(y).toArray⟩)]] w fun e w' => e = .returned (.bool true) ∧ Sat W w' L := by
  go_enter Tryd.func12, Tryd.ntmps12
  go_wp2_with (first
    | (guard_target = wpList _ _ _ (⟨some 3, .box _ _, _, _, _, _⟩ :: _) _ _; refine wpl (o := ⟨some 3, .box _ _, _, _, _, _⟩) rfl fun K hK => ?_; go_must (refine op_box hs rfl _ rfl [.int .i64 (t), .int .i64 (n), .string ⟨(s).toArray⟩] rfl fun b3 w1 h => hK _ _ ?_); clear hs hK K; have hs := h; clear h; try dsimp only [List.set] at hs)
    | (guard_target = wpList _ _ _ (⟨some 4, .box _ _, _, _, _, _⟩ :: _) _ _; refine wpl (o := ⟨some 4, .box _ _, _, _, _, _⟩) rfl fun K hK => ?_; go_must (refine op_box hs rfl _ rfl [.int .i64 (t'), .int .i64 (n'), .string ⟨(s').toArray⟩] rfl fun b4 w1 h => hK _ _ ?_); clear hs hK K; have hs := h; clear h; try dsimp only [List.set] at hs)
    | (guard_target = wpList _ _ _ (⟨some 5, .box _ _, _, _, _, _⟩ :: _) _ _; refine wpl (o := ⟨some 5, .box _ _, _, _, _, _⟩) rfl fun K hK => ?_; go_must (refine op_box hs rfl _ rfl [(.string ⟨(x).toArray⟩), (.string ⟨(y).toArray⟩)] rfl fun b5 w1 h => hK _ _ ?_); clear hs hK K; have hs := h; clear h; try dsimp only [List.set] at hs)
    | (go_at_call 28; go_must (refine (awake3_spec W _ _ hs (by repeat (first | exact hold | apply List.mem_cons_of_mem)) HM.out).mono ?_); clear hs; rintro e w1 ⟨rfl, hs⟩)
    | (guard_target = wpList _ _ _ (⟨some 10, .load _ _, _, _, _, _⟩ :: _) _ _; refine wpl (o := ⟨some 10, .load _ _, _, _, _, _⟩) rfl fun K hK => op_load_agg rfl (b := b3) (i := 0) rfl ([.int .i64 (t), .int .i64 (n), .string ⟨(s).toArray⟩]) (range_whole hs (by (try dsimp only [List.set]); repeat (first | with_reducible exact List.mem_cons_self | with_reducible apply List.mem_cons_of_mem))) (by kernel_rfl) (by kernel_rfl) (hK _ _ ?_); clear hK K)
    | (go_at_call 29; go_must (refine (may_spec W _ _ hs t n s (by omega) hn).mono ?_); clear hs; rintro e w1 ⟨rfl, hs⟩; rw [HA.out]))
  go_ret
  exact ⟨rfl, hs.pack (by repeat (first | with_reducible exact Pack.refl | with_reducible exact Pack.nil | with_reducible refine Pack.cons (by repeat (first | with_reducible exact Pick.here | with_reducible apply Pick.there)) ?_ | with_reducible apply Pack.drop))⟩
set_option maxRecDepth 100000 in
set_option maxHeartbeats 16000000 in
theorem valueOrder_no2 (W w : World) (L : List HP) (hs : Sat W w L) (hold : old W ∈ L) (HM : Box (maxLenIs W)) (t n : Int) (s : List UInt8) (t' n' : Int) (s' x y : List UInt8) (hn : -9223372036854775808 ≤ n ∧ n < 9223372036854775808) (hl : s.length ≤ 1073741824) (hn' : -9223372036854775808 ≤ n' ∧ n' < 9223372036854775808) (hl' : s'.length ≤ 1073741824)
    (HA : Box (mayB ⟨t, n, s⟩ = true)) (HB : Box (mayB ⟨t', n', s'⟩ = false)) :
    Calls Tryd.prog 12 #[(.agg #[.int .i64 (t), .int .i64 (n), .string ⟨(s).toArray⟩]), (.agg #[.int .i64 (t'), .int .i64 (n'), .string ⟨(s').toArray⟩]), .agg #[(.string ⟨(x).toArray⟩), (.string ⟨(y).toArray⟩)]] w fun e w' => e = .returned (.bool true) ∧ Sat W w' L := by
  go_enter Tryd.func12, Tryd.ntmps12
  go_wp2_with (first
    | (guard_target = wpList _ _ _ (⟨some 3, .box _ _, _, _, _, _⟩ :: _) _ _; refine wpl (o := ⟨some 3, .box _ _, _, _, _, _⟩) rfl fun K hK => ?_; go_must (refine op_box hs rfl _ rfl [.int .i64 (t), .int .i64 (n), .string ⟨(s).toArray⟩] rfl fun b3 w1 h => hK _ _ ?_); clear hs hK K; have hs := h; clear h; try dsimp only [List.set] at hs)
    | (guard_target = wpList _ _ _ (⟨some 4, .box _ _, _, _, _, _⟩ :: _) _ _; refine wpl (o := ⟨some 4, .box _ _, _, _, _, _⟩) rfl fun K hK => ?_; go_must (refine op_box hs rfl _ rfl [.int .i64 (t'), .int .i64 (n'), .string ⟨(s').toArray⟩] rfl fun b4 w1 h => hK _ _ ?_); clear hs hK K; have hs := h; clear h; try dsimp only [List.set] at hs)
    | (guard_target = wpList _ _ _ (⟨some 5, .box _ _, _, _, _, _⟩ :: _) _ _; refine wpl (o := ⟨some 5, .box _ _, _, _, _, _⟩) rfl fun K hK => ?_; go_must (refine op_box hs rfl _ rfl [(.string ⟨(x).toArray⟩), (.string ⟨(y).toArray⟩)] rfl fun b5 w1 h => hK _ _ ?_); clear hs hK K; have hs := h; clear h; try dsimp only [List.set] at hs)
    | (go_at_call 28; go_must (refine (awake3_spec W _ _ hs (by repeat (first | exact hold | apply List.mem_cons_of_mem)) HM.out).mono ?_); clear hs; rintro e w1 ⟨rfl, hs⟩)
    | (guard_target = wpList _ _ _ (⟨some 10, .load _ _, _, _, _, _⟩ :: _) _ _; refine wpl (o := ⟨some 10, .load _ _, _, _, _, _⟩) rfl fun K hK => op_load_agg rfl (b := b3) (i := 0) rfl ([.int .i64 (t), .int .i64 (n), .string ⟨(s).toArray⟩]) (range_whole hs (by (try dsimp only [List.set]); repeat (first | with_reducible exact List.mem_cons_self | with_reducible apply List.mem_cons_of_mem))) (by kernel_rfl) (by kernel_rfl) (hK _ _ ?_); clear hK K)
    | (guard_target = wpList _ _ _ (⟨some 14, .load _ _, _, _, _, _⟩ :: _) _ _; refine wpl (o := ⟨some 14, .load _ _, _, _, _, _⟩) rfl fun K hK => op_load_agg rfl (b := b4) (i := 0) rfl ([.int .i64 (t'), .int .i64 (n'), .string ⟨(s').toArray⟩]) (range_whole hs (by (try dsimp only [List.set]); repeat (first | with_reducible exact List.mem_cons_self | with_reducible apply List.mem_cons_of_mem))) (by kernel_rfl) (by kernel_rfl) (hK _ _ ?_); clear hK K)
    | (go_at_call 29; go_must (refine (may_spec W _ _ hs _ _ _ (by omega) (by omega)).mono ?_); clear hs; rintro e w1 ⟨rfl, hs⟩; first | rw [HA.out] | rw [HB.out]))
  go_ret
  exact ⟨rfl, hs.pack (by repeat (first | with_reducible exact Pack.refl | with_reducible exact Pack.nil | with_reducible refine Pack.cons (by repeat (first | with_reducible exact Pick.here | with_reducible apply Pick.there)) ?_ | with_reducible apply Pack.drop))⟩
set_option maxRecDepth 100000 in
set_option maxHeartbeats 16000000 in
theorem valueOrder_same (W w : World) (L : List HP) (hs : Sat W w L) (hold : old W ∈ L) (HM : Box (maxLenIs W)) (t n : Int) (s x y p : List UInt8) (ht : -9223372036854775808 ≤ t ∧ t < 9223372036854775808) (hn : -9223372036854775808 ≤ n ∧ n < 9223372036854775808) (hl : s.length ≤ 1073741824)
    (HA : Box (mayB ⟨t, n, s⟩ = true)) (HC : Box (cmpV ⟨t, n, s⟩ ⟨t, n, s⟩ = 0)) (HPP : Box (putB ⟨t, n, s⟩ = p)) :
    Calls Tryd.prog 12 #[(.agg #[.int .i64 (t), .int .i64 (n), .string ⟨(s).toArray⟩]), (.agg #[.int .i64 (t), .int .i64 (n), .string ⟨(s).toArray⟩]), .agg #[(.string ⟨(x).toArray⟩), (.string ⟨(y).toArray⟩)]] w fun e w' => e = .returned (.bool true) ∧ Sat W w' L := by
  have he := run_eql_val t n t n s s
  rw [(Vl.same_iff _ _).2 rfl] at he
  go_enter Tryd.func12, Tryd.ntmps12
  go_wp2_with (first
    | (guard_target = wpList _ _ _ (⟨some 3, .box _ _, _, _, _, _⟩ :: _) _ _; refine wpl (o := ⟨some 3, .box _ _, _, _, _, _⟩) rfl fun K hK => ?_; go_must (refine op_box hs rfl _ rfl [.int .i64 (t), .int .i64 (n), .string ⟨(s).toArray⟩] rfl fun b3 w1 h => hK _ _ ?_); clear hs hK K; have hs := h; clear h; try dsimp only [List.set] at hs)
    | (guard_target = wpList _ _ _ (⟨some 4, .box _ _, _, _, _, _⟩ :: _) _ _; refine wpl (o := ⟨some 4, .box _ _, _, _, _, _⟩) rfl fun K hK => ?_; go_must (refine op_box hs rfl _ rfl [.int .i64 (t), .int .i64 (n), .string ⟨(s).toArray⟩] rfl fun b4 w1 h => hK _ _ ?_); clear hs hK K; have hs := h; clear h; try dsimp only [List.set] at hs)
    | (guard_target = wpList _ _ _ (⟨some 5, .box _ _, _, _, _, _⟩ :: _) _ _; refine wpl (o := ⟨some 5, .box _ _, _, _, _, _⟩) rfl fun K hK => ?_; go_must (refine op_box hs rfl _ rfl [(.string ⟨(x).toArray⟩), (.string ⟨(y).toArray⟩)] rfl fun b5 w1 h => hK _ _ ?_); clear hs hK K; have hs := h; clear h; try dsimp only [List.set] at hs)
    | (go_at_call 28; go_must (refine (awake3_spec W _ _ hs (by repeat (first | exact hold | apply List.mem_cons_of_mem)) HM.out).mono ?_); clear hs; rintro e w1 ⟨rfl, hs⟩)
    | (guard_target = wpList _ _ _ (⟨some 10, .load _ _, _, _, _, _⟩ :: _) _ _; refine wpl (o := ⟨some 10, .load _ _, _, _, _, _⟩) rfl fun K hK => op_load_agg rfl (b := b3) (i := 0) rfl ([.int .i64 (t), .int .i64 (n), .string ⟨(s).toArray⟩]) (range_whole hs (by (try dsimp only [List.set]); repeat (first | with_reducible exact List.mem_cons_self | with_reducible apply List.mem_cons_of_mem))) (by kernel_rfl) (by kernel_rfl) (hK _ _ ?_); clear hK K)
    | (guard_target = wpList _ _ _ (⟨some 14, .load _ _, _, _, _, _⟩ :: _) _ _; refine wpl (o := ⟨some 14, .load _ _, _, _, _, _⟩) rfl fun K hK => op_load_agg rfl (b := b4) (i := 0) rfl ([.int .i64 (t), .int .i64 (n), .string ⟨(s).toArray⟩]) (range_whole hs (by (try dsimp only [List.set]); repeat (first | with_reducible exact List.mem_cons_self | with_reducible apply List.mem_cons_of_mem))) (by kernel_rfl) (by kernel_rfl) (hK _ _ ?_); clear hK K)
    | (guard_target = wpList _ _ _ (⟨some 19, .load _ _, _, _, _, _⟩ :: _) _ _; refine wpl (o := ⟨some 19, .load _ _, _, _, _, _⟩) rfl fun K hK => op_load_agg rfl (b := b3) (i := 0) rfl ([.int .i64 (t), .int .i64 (n), .string ⟨(s).toArray⟩]) (range_whole hs (by (try dsimp only [List.set]); repeat (first | with_reducible exact List.mem_cons_self | with_reducible apply List.mem_cons_of_mem))) (by kernel_rfl) (by kernel_rfl) (hK _ _ ?_); clear hK K)
    | (guard_target = wpList _ _ _ (⟨some 20, .load _ _, _, _, _, _⟩ :: _) _ _; refine wpl (o := ⟨some 20, .load _ _, _, _, _, _⟩) rfl fun K hK => op_load_agg rfl (b := b4) (i := 0) rfl ([.int .i64 (t), .int .i64 (n), .string ⟨(s).toArray⟩]) (range_whole hs (by (try dsimp only [List.set]); repeat (first | with_reducible exact List.mem_cons_self | with_reducible apply List.mem_cons_of_mem))) (by kernel_rfl) (by kernel_rfl) (hK _ _ ?_); clear hK K)
    | (go_at_call 29; go_must (refine (may_spec W _ _ hs _ _ _ (by omega) (by omega)).mono ?_); clear hs; rintro e w1 ⟨rfl, hs⟩; rw [HA.out])
    | (go_at_call 33; go_must (refine (compare_spec W _ _ hs _ _ _ _ _ _).mono ?_); clear hs; rintro e w1 ⟨rfl, hs⟩; rw [HC.out]))
  obtain ⟨M, hM, hs⟩ : ∃ M, M = _ ∧ Sat W _ M := ⟨_, rfl, hs⟩
  have d3 : ∀ w, Sat W w M → w.rangeAt b3 0 [.int .i64 (t), .int .i64 (n), .string ⟨(s).toArray⟩] := fun w h => by rw [hM] at h; exact range_whole h (List.mem_cons_of_mem _ (List.mem_cons_of_mem _ List.mem_cons_self))
  have d4 : ∀ w, Sat W w M → w.rangeAt b4 0 [.int .i64 (t), .int .i64 (n), .string ⟨(s).toArray⟩] := fun w h => by rw [hM] at h; exact range_whole h m1
  have hold' : old W ∈ M := by rw [hM]; exact List.mem_cons_of_mem _ (List.mem_cons_of_mem _ (List.mem_cons_of_mem _ hold))
  have o1 : ∀ w, Sat W w M → Calls Tryd.prog 31 #[(.agg #[.int .i64 (t), .int .i64 (n), .string ⟨(s).toArray⟩])] w fun e w' => e = .returned (.string ⟨(p).toArray⟩) ∧ Sat W w' M := by rw [← HPP.out]; exact fun w h => put_spec W w _ h hold' HM.out t n s hl ht hn
  have o1_ := Box.mk o1
  clear o1
  have o1 := o1_
  clear o1_
  have hM_ := Box.mk hM
  clear hM
  have hM := hM_
  clear hM_
  refine wp_region_quiet (C := fun w' => Sat W w' M) (by kernel_rfl) (by kernel_rfl) hs.drew ?_
  have hq := sat_const hs
  repeat (first
    | ((with_reducible refine quiet_load_agg (o := ⟨some 26, .load _ _, _, _, _, _⟩) ([.int .i64 (t), .int .i64 (n), .string ⟨(s).toArray⟩]) rfl rfl rfl ?_ ?_ d3 ?_); (kernel_rfl); (kernel_rfl))
    | ((with_reducible refine quiet_load_agg (o := ⟨some 27, .load _ _, _, _, _, _⟩) ([.int .i64 (t), .int .i64 (n), .string ⟨(s).toArray⟩]) rfl rfl rfl ?_ ?_ d4 ?_); (kernel_rfl); (kernel_rfl))
    | ((with_reducible refine quiet_load_agg (o := ⟨some 31, .load _ _, _, _, _, _⟩) ([.int .i64 (t), .int .i64 (n), .string ⟨(s).toArray⟩]) rfl rfl rfl ?_ ?_ d3 ?_); (kernel_rfl); (kernel_rfl))
    | ((with_reducible refine quiet_load_agg (o := ⟨some 33, .load _ _, _, _, _, _⟩) ([.int .i64 (t), .int .i64 (n), .string ⟨(s).toArray⟩]) rfl rfl rfl ?_ ?_ d4 ?_); (kernel_rfl); (kernel_rfl))
    | (refine wpQuiet_step (fun K hK => ?_); go_simp; first
        | (with_reducible refine hK _ ?_; clear hK K)
        | (apply Exists.intro; refine ⟨fun w5 h5 => ?_, hK _ ?_⟩; (first | with_reducible exact o1.out w5 h5); clear hK K)))
  refine wpQuiet_nil ?_
  intro w8 hs8
  clear hs
  rw [hM.out] at hs8
  have hs := hs8
  clear hs8
  go_wp2_with fail
  go_ret
  exact ⟨rfl, hs.pack (by repeat (first | with_reducible exact Pack.refl | with_reducible exact Pack.nil | with_reducible refine Pack.cons (by repeat (first | with_reducible exact Pick.here | with_reducible apply Pick.there)) ?_ | with_reducible apply Pack.drop))⟩
set_option maxRecDepth 100000 in
set_option maxHeartbeats 16000000 in
theorem valueOrder_ne (W w : World) (L : List HP) (hs : Sat W w L) (hold : old W ∈ L) (HM : Box (maxLenIs W)) (t n : Int) (s : List UInt8) (t' n' : Int) (s' x y p q P Q : List UInt8) (ht : -9223372036854775808 ≤ t ∧ t < 9223372036854775808) (hn : -9223372036854775808 ≤ n ∧ n < 9223372036854775808) (hl : s.length ≤ 1073741824)
    (ht' : -9223372036854775808 ≤ t' ∧ t' < 9223372036854775808) (hn' : -9223372036854775808 ≤ n' ∧ n' < 9223372036854775808) (hl' : s'.length ≤ 1073741824) (hpx : ¬ 9223372036854775807 < p.length + x.length) (hqy : ¬ 9223372036854775807 < q.length + y.length)
    (HA : Box (mayB ⟨t, n, s⟩ = true)) (HB : Box (mayB ⟨t', n', s'⟩ = true)) (c : Int) (lt : Bool) (hc : (c = -1 ∧ lt = true) ∨ (c = 1 ∧ lt = false)) (HC : Box (cmpV ⟨t, n, s⟩ ⟨t', n', s'⟩ = c)) (HPP : Box (putB ⟨t, n, s⟩ = p)) (HQ : Box (putB ⟨t', n', s'⟩ = q))
    (hP : p ++ x = P) (hQ : q ++ y = Q) (hlt : Op.bytesLess P Q = lt) (hS : Vl.same ⟨t, n, s⟩ ⟨t', n', s'⟩ = false) :
    Calls Tryd.prog 12 #[(.agg #[.int .i64 (t), .int .i64 (n), .string ⟨(s).toArray⟩]), (.agg #[.int .i64 (t'), .int .i64 (n'), .string ⟨(s').toArray⟩]), .agg #[(.string ⟨(x).toArray⟩), (.string ⟨(y).toArray⟩)]] w fun e w' => e = .returned (.bool true) ∧ Sat W w' L := by
  have he := run_eql_val t n t' n' s s'
  rw [hS] at he
  have a1 := str_app' p x P hP
  have a2 := str_app' q y Q hQ
  clear hP hQ hS
  rcases hc with ⟨rfl, rfl⟩ | ⟨rfl, rfl⟩
  all_goals
    go_enter Tryd.func12, Tryd.ntmps12
    go_wp2_with (first
      | (guard_target = wpList _ _ _ (⟨some 3, .box _ _, _, _, _, _⟩ :: _) _ _; refine wpl (o := ⟨some 3, .box _ _, _, _, _, _⟩) rfl fun K hK => ?_; go_must (refine op_box hs rfl _ rfl [.int .i64 (t), .int .i64 (n), .string ⟨(s).toArray⟩] rfl fun b3 w1 h => hK _ _ ?_); clear hs hK K; have hs := h; clear h; try dsimp only [List.set] at hs)
      | (guard_target = wpList _ _ _ (⟨some 4, .box _ _, _, _, _, _⟩ :: _) _ _; refine wpl (o := ⟨some 4, .box _ _, _, _, _, _⟩) rfl fun K hK => ?_; go_must (refine op_box hs rfl _ rfl [.int .i64 (t'), .int .i64 (n'), .string ⟨(s').toArray⟩] rfl fun b4 w1 h => hK _ _ ?_); clear hs hK K; have hs := h; clear h; try dsimp only [List.set] at hs)
      | (guard_target = wpList _ _ _ (⟨some 5, .box _ _, _, _, _, _⟩ :: _) _ _; refine wpl (o := ⟨some 5, .box _ _, _, _, _, _⟩) rfl fun K hK => ?_; go_must (refine op_box hs rfl _ rfl [(.string ⟨(x).toArray⟩), (.string ⟨(y).toArray⟩)] rfl fun b5 w1 h => hK _ _ ?_); clear hs hK K; have hs := h; clear h; try dsimp only [List.set] at hs)
      | (go_at_call 28; go_must (refine (awake3_spec W _ _ hs (by repeat (first | exact hold | apply List.mem_cons_of_mem)) HM.out).mono ?_); clear hs; rintro e w1 ⟨rfl, hs⟩)
      | (guard_target = wpList _ _ _ (⟨some 10, .load _ _, _, _, _, _⟩ :: _) _ _; refine wpl (o := ⟨some 10, .load _ _, _, _, _, _⟩) rfl fun K hK => op_load_agg rfl (b := b3) (i := 0) rfl ([.int .i64 (t), .int .i64 (n), .string ⟨(s).toArray⟩]) (range_whole hs (by (try dsimp only [List.set]); repeat (first | with_reducible exact List.mem_cons_self | with_reducible apply List.mem_cons_of_mem))) (by kernel_rfl) (by kernel_rfl) (hK _ _ ?_); clear hK K)
      | (guard_target = wpList _ _ _ (⟨some 14, .load _ _, _, _, _, _⟩ :: _) _ _; refine wpl (o := ⟨some 14, .load _ _, _, _, _, _⟩) rfl fun K hK => op_load_agg rfl (b := b4) (i := 0) rfl ([.int .i64 (t'), .int .i64 (n'), .string ⟨(s').toArray⟩]) (range_whole hs (by (try dsimp only [List.set]); repeat (first | with_reducible exact List.mem_cons_self | with_reducible apply List.mem_cons_of_mem))) (by kernel_rfl) (by kernel_rfl) (hK _ _ ?_); clear hK K)
      | (guard_target = wpList _ _ _ (⟨some 19, .load _ _, _, _, _, _⟩ :: _) _ _; refine wpl (o := ⟨some 19, .load _ _, _, _, _, _⟩) rfl fun K hK => op_load_agg rfl (b := b3) (i := 0) rfl ([.int .i64 (t), .int .i64 (n), .string ⟨(s).toArray⟩]) (range_whole hs (by (try dsimp only [List.set]); repeat (first | with_reducible exact List.mem_cons_self | with_reducible apply List.mem_cons_of_mem))) (by kernel_rfl) (by kernel_rfl) (hK _ _ ?_); clear hK K)
      | (guard_target = wpList _ _ _ (⟨some 20, .load _ _, _, _, _, _⟩ :: _) _ _; refine wpl (o := ⟨some 20, .load _ _, _, _, _, _⟩) rfl fun K hK => op_load_agg rfl (b := b4) (i := 0) rfl ([.int .i64 (t'), .int .i64 (n'), .string ⟨(s').toArray⟩]) (range_whole hs (by (try dsimp only [List.set]); repeat (first | with_reducible exact List.mem_cons_self | with_reducible apply List.mem_cons_of_mem))) (by kernel_rfl) (by kernel_rfl) (hK _ _ ?_); clear hK K)
      | (go_at_call 29; go_must (refine (may_spec W _ _ hs _ _ _ (by omega) (by omega)).mono ?_); clear hs; rintro e w1 ⟨rfl, hs⟩; first | rw [HA.out] | rw [HB.out])
      | (go_at_call 33; go_must (refine (compare_spec W _ _ hs _ _ _ _ _ _).mono ?_); clear hs; rintro e w1 ⟨rfl, hs⟩; rw [HC.out]))
    obtain ⟨M, hM, hs⟩ : ∃ M, M = _ ∧ Sat W _ M := ⟨_, rfl, hs⟩
    have d3 : ∀ w, Sat W w M → w.rangeAt b3 0 [.int .i64 (t), .int .i64 (n), .string ⟨(s).toArray⟩] := fun w h => by rw [hM] at h; exact range_whole h (List.mem_cons_of_mem _ (List.mem_cons_of_mem _ List.mem_cons_self))
    have d4 : ∀ w, Sat W w M → w.rangeAt b4 0 [.int .i64 (t'), .int .i64 (n'), .string ⟨(s').toArray⟩] := fun w h => by rw [hM] at h; exact range_whole h m1
    have d0 : ∀ w, Sat W w M → w.cell? ⟨b5, 0, none⟩ = some (.string ⟨(x).toArray⟩) := fun w h => by rw [hM] at h; exact h.cell m0 rfl
    have d1 : ∀ w, Sat W w M → w.cell? ⟨b5, 1, none⟩ = some (.string ⟨(y).toArray⟩) := fun w h => by rw [hM] at h; exact h.cell m0 rfl
    have hold' : old W ∈ M := by rw [hM]; exact List.mem_cons_of_mem _ (List.mem_cons_of_mem _ (List.mem_cons_of_mem _ hold))
    have o1 : ∀ w, Sat W w M → Calls Tryd.prog 31 #[(.agg #[.int .i64 (t), .int .i64 (n), .string ⟨(s).toArray⟩])] w fun e w' => e = .returned (.string ⟨(p).toArray⟩) ∧ Sat W w' M := by rw [← HPP.out]; exact fun w h => put_spec W w _ h hold' HM.out t n s hl ht hn
    have o2 : ∀ w, Sat W w M → Calls Tryd.prog 31 #[(.agg #[.int .i64 (t'), .int .i64 (n'), .string ⟨(s').toArray⟩])] w fun e w' => e = .returned (.string ⟨(q).toArray⟩) ∧ Sat W w' M := by rw [← HQ.out]; exact fun w h => put_spec W w _ h hold' HM.out t' n' s' hl' ht' hn'
    have o1_ := Box.mk o1
    clear o1
    have o1 := o1_
    clear o1_
    have o2_ := Box.mk o2
    clear o2
    have o2 := o2_
    clear o2_
    have hM_ := Box.mk hM
    clear hM
    have hM := hM_
    clear hM_
    refine wp_region_quiet (C := fun w' => Sat W w' M) (by kernel_rfl) (by kernel_rfl) hs.drew ?_
    have hq := sat_const hs
    repeat (first
      | ((with_reducible refine quiet_load_agg (o := ⟨some 39, .load _ _, _, _, _, _⟩) ([.int .i64 (t), .int .i64 (n), .string ⟨(s).toArray⟩]) rfl rfl rfl ?_ ?_ d3 ?_); (kernel_rfl); (kernel_rfl))
      | (with_reducible refine quiet_load (o := ⟨some 42, .load _ _, _, _, _, _⟩) rfl rfl rfl rfl d0 ?_)
      | ((with_reducible refine quiet_load_agg (o := ⟨some 44, .load _ _, _, _, _, _⟩) ([.int .i64 (t'), .int .i64 (n'), .string ⟨(s').toArray⟩]) rfl rfl rfl ?_ ?_ d4 ?_); (kernel_rfl); (kernel_rfl))
      | (with_reducible refine quiet_load (o := ⟨some 47, .load _ _, _, _, _, _⟩) rfl rfl rfl rfl d1 ?_)
      | ((with_reducible refine quiet_load_agg (o := ⟨some 55, .load _ _, _, _, _, _⟩) ([.int .i64 (t), .int .i64 (n), .string ⟨(s).toArray⟩]) rfl rfl rfl ?_ ?_ d3 ?_); (kernel_rfl); (kernel_rfl))
      | ((with_reducible refine quiet_load_agg (o := ⟨some 56, .load _ _, _, _, _, _⟩) ([.int .i64 (t'), .int .i64 (n'), .string ⟨(s').toArray⟩]) rfl rfl rfl ?_ ?_ d4 ?_); (kernel_rfl); (kernel_rfl))
      | (refine wpQuiet_step (fun K hK => ?_); go_simp; first
          | (with_reducible refine hK _ ?_; clear hK K)
          | (apply Exists.intro; refine ⟨fun w5 h5 => ?_, hK _ ?_⟩; (first | with_reducible exact o1.out w5 h5 | with_reducible exact o2.out w5 h5); clear hK K)))
    refine wpQuiet_nil ?_
    intro w8 hs8
    clear hs
    rw [hM.out] at hs8
    have hs := hs8
    clear hs8
    go_wp2_with fail
    go_ret
    exact ⟨rfl, hs.pack (by repeat (first | with_reducible exact Pack.refl | with_reducible exact Pack.nil | with_reducible refine Pack.cons (by repeat (first | with_reducible exact Pick.here | with_reducible apply Pick.there)) ?_ | with_reducible apply Pack.drop))⟩
theorem valueOrder_walk (W w : World) (L : List HP) (hs : Sat W w L) (hold : old W ∈ L) (hm : maxLenIs W) (a b : Vl) (ha : a.Ok) (hb : b.Ok) (hla : a.s.length ≤ 1048576) (hlb : b.s.length ≤ 1048576) (x y : List UInt8) (hx : x.length ≤ 1048576) (hy : y.length ≤ 1048576) :
    Calls Tryd.prog 12 #[(.agg #[.int .i64 (a.t), .int .i64 (a.n), .string ⟨(a.s).toArray⟩]), (.agg #[.int .i64 (b.t), .int .i64 (b.n), .string ⟨(b.s).toArray⟩]), .agg #[(.string ⟨(x).toArray⟩), (.string ⟨(y).toArray⟩)]] w fun e w' => e = .returned (.bool true) ∧ Sat W w' L := by
  obtain ⟨ht, hn, hl⟩ := ha
  obtain ⟨ht', hn', hl'⟩ := hb
  cases hma : mayB a with
  | false => exact valueOrder_no W w L hs hold ⟨hm⟩ _ _ _ _ _ _ _ _ hn hl hn' hl' ⟨hma⟩
  | true =>
    cases hmb : mayB b with
    | false => exact valueOrder_no2 W w L hs hold ⟨hm⟩ _ _ _ _ _ _ _ _ hn hl hn' hl' ⟨hma⟩ ⟨hmb⟩
    | true =>
      have hpa := putB_len a
      have hpb := putB_len b
      have hpx : ¬ 9223372036854775807 < (putB a).length + x.length := by omega
      have hqy : ¬ 9223372036854775807 < (putB b).length + y.length := by omega
      by_cases h0 : cmpV a b = 0
      · have e := (cmp_zero a b).1 h0
        subst e
        exact valueOrder_same W w L hs hold ⟨hm⟩ _ _ _ _ _ _ ht hn hl ⟨hma⟩ ⟨h0⟩ ⟨rfl⟩
      · have hne : a ≠ b := fun e => h0 ((cmp_zero a b).2 e)
        have hq := order_put a b ⟨ht, hn, hl⟩ ⟨ht', hn', hl'⟩ hma hmb hne x y
        have hb3 := (three a b a).2.2.2
        have hcc : (cmpV a b = -1 ∧ aheadB a b = true) ∨ (cmpV a b = 1 ∧ aheadB a b = false) := by
          rcases (by omega : cmpV a b = -1 ∨ cmpV a b = 1) with h | h
          · exact .inl ⟨h, (cmp_neg a b).1 (by omega)⟩
          · refine .inr ⟨h, ?_⟩
            cases hh : aheadB a b with
            | false => rfl
            | true => have := (cmp_neg a b).2 hh; omega
        exact valueOrder_ne W w L hs hold ⟨hm⟩ _ _ _ _ _ _ _ _ _ _ _ _ ht hn hl ht' hn' hl' hpx hqy ⟨hma⟩ ⟨hmb⟩ _ _ hcc ⟨rfl⟩ ⟨rfl⟩ ⟨rfl⟩ rfl rfl hq (same_no hne)
theorem valueOrder_main (W : World) (hm : maxLenIs W) (a : Vl) (av : List Value) (h0 : valKin.K (hp W) a av) (b : Vl) (bs : List Value) (h1 : valKin.K (hp W) b bs) (ls : List (List UInt8)) (cs : List Value) (h2 : (Kin.arr 2 strU).K (hp W) ls cs) :
    Calls Tryd.prog 12 #[.agg av.toArray, .agg bs.toArray, .agg cs.toArray] W fun e w' => e = .returned (.bool true) ∧ Below W.heap.size W w' := by
  obtain ⟨a1, a2, a3, rfl⟩ := val_val h0
  obtain ⟨b1, b2, b3, rfl⟩ := val_val h1
  obtain ⟨x, y, hx, hy, rfl⟩ := two_val h2
  exact (valueOrder_walk W W _ (Sat.start W) m0 hm a b ⟨a1, a2, by omega⟩ ⟨b1, b2, by omega⟩ a3 b3 x y hx hy).mono fun e w' ⟨he, hs⟩ => ⟨he, hs.end_ m0⟩
end Go.Proofs.YtgmfgdioaeheoaaDoor
