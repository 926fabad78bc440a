/- The walk of the law PackBack. -/
import Derived.Test.YtgmfgdioaeheoaaDoorPackOrder
set_option linter.unusedVariables false
set_option linter.unusedSimpArgs false
namespace Go.Proofs.YtgmfgdioaeheoaaDoor
open Go.RowKit
theorem tn_back (n : Nat) (hn : n < 4294967296) (x : List UInt8) : tnV (be 4 n ++ x) = .tuple #[.int .u32 (n : Nat), (.string ⟨(x).toArray⟩), .int .i64 0] := by
  have hl : ¬ (be 4 n ++ x).length < 4 := by simp
  have e : (256 : Nat) ^ 4 = 4294967296 := by decide
  unfold tnV tnA tnB tnC
  rw [if_neg hl, if_neg hl, if_neg hl, List.take_append_of_le_length (by simp), List.drop_append_of_le_length (by simp), List.take_of_length_le (by simp), List.drop_of_length_le (by simp), num_be, e, Nat.mod_eq_of_lt hn]
  rfl
theorem ti_back (m : Int) (h0 : -9223372036854775808 ≤ m) (h1 : m < 9223372036854775808) (x : List UInt8) : takeIV (be 8 (i63 m) ++ x) = .tuple #[.int .i64 m, (.string ⟨(x).toArray⟩), .int .i64 0] := by
  have hl : ¬ (be 8 (i63 m) ++ x).length < 8 := by simp
  have e : (256 : Nat) ^ 8 = 18446744073709551616 := by decide
  unfold takeIV takeI
  rw [if_neg hl, List.take_append_of_le_length (by simp), List.drop_append_of_le_length (by simp), List.take_of_length_le (by simp), List.drop_of_length_le (by simp), num_be, e]
  have : ((i63 m % 18446744073709551616 : Nat) : Int) - 9223372036854775808 = m := by unfold i63; omega
  rw [this]
  rfl
theorem tt_back (s x : List UInt8) : takeTV (takeT (text s ++ x)) = .tuple #[(.string ⟨(s).toArray⟩), (.string ⟨(x).toArray⟩), .int .i64 0] := by rw [takeT_text]; rfl
set_option maxRecDepth 100000 in
set_option maxHeartbeats 8000000 in
theorem packBack_walk (W w : World) (L : List HP) (hs : Sat W w L) (hold : old W ∈ L) (hm : maxLenIs W) (n : Nat) (hn : n < 4294967296) (m : Int) (h0 : -9223372036854775808 ≤ m) (h1 : m < 9223372036854775808) (x y : List UInt8) (hx : x.length ≤ 1048576) (hy : y.length ≤ 1048576) :
    Calls Tryd.prog 7 #[.int .u32 (n : Nat), .int .i64 m, .agg #[(.string ⟨(x).toArray⟩), (.string ⟨(y).toArray⟩)]] w fun e w' => e = .returned (.bool true) ∧ Sat W w' L := by
  have HM := Box.mk hm
  clear hm
  have hlx : (text x).length ≤ 2097154 := by have := esc_len x; unfold text; rw [List.length_append, List.length_cons, List.length_cons, List.length_nil]; omega
  have t1 := tn_back n hn y
  have t2 := ti_back m h0 h1 y
  have t3 := tt_back x y
  obtain ⟨N1, hN1⟩ : ∃ z, be 4 n = z := ⟨_, rfl⟩
  obtain ⟨N2, hN2⟩ : ∃ z, be 8 (i63 m) = z := ⟨_, rfl⟩
  obtain ⟨T1, hT1⟩ : ∃ z, text x = z := ⟨_, rfl⟩
  have l1 : N1.length = 4 := by rw [← hN1]; simp
  have l2 : N2.length = 8 := by rw [← hN2]; simp
  rw [hN1] at t1
  rw [hN2] at t2
  rw [hT1] at t3 hlx
  obtain ⟨K1, hK1⟩ : ∃ z, N1 ++ y = z := ⟨_, rfl⟩
  obtain ⟨K2, hK2⟩ : ∃ z, N2 ++ y = z := ⟨_, rfl⟩
  obtain ⟨K3, hK3⟩ : ∃ z, T1 ++ y = z := ⟨_, rfl⟩
  have k1 : K1.length ≤ 1073741824 := by rw [← hK1, List.length_append]; omega
  have k2 : K2.length ≤ 1073741824 := by rw [← hK2, List.length_append]; omega
  have k3 : K3.length ≤ 1073741824 := by rw [← hK3, List.length_append]; omega
  rw [hK1] at t1
  rw [hK2] at t2
  rw [hK3] at t3
  have c1 := str_app' N1 y K1 hK1
  have c2 := str_app' N2 y K2 hK2
  have c3 := str_app' T1 y K3 hK3
  have b1 : ¬ 9223372036854775807 < N1.length + y.length := by omega
  have b2 : ¬ 9223372036854775807 < N2.length + y.length := by omega
  have b3 : ¬ 9223372036854775807 < T1.length + y.length := by omega
  have HN1 := Box.mk hN1
  have HN2 := Box.mk hN2
  have HT1 := Box.mk hT1
  have T1B := Box.mk t1
  have T2B := Box.mk t2
  have T3B := Box.mk t3
  clear hN1 hN2 hT1 hK1 hK2 hK3 t1 t2 t3 l1 l2
  go_enter Tryd.func7, Tryd.ntmps7
  go_wp2_with (first
    | (guard_target = wpList _ _ _ (⟨some 5, .box _ _, _, _, _, _⟩ :: _) _ _; refine wpl (o := ⟨some 5, .box _ _, _, _, _, _⟩) rfl fun K hK => ?_; go_must (refine op_box hs rfl _ rfl [(.string ⟨(x).toArray⟩), (.string ⟨(y).toArray⟩)] rfl fun b5 w1 h => hK _ _ ?_); clear hs hK K; have hs := h; clear h; try dsimp only [List.set] at hs)
    | (go_at_call 15; go_must (refine (awake1_spec W _ _ hs (List.mem_cons_of_mem _ hold) HM.out).mono ?_); clear hs; rintro e w1 ⟨rfl, hs⟩))
  obtain ⟨M, hM, hs⟩ : ∃ M, M = _ ∧ Sat W _ M := ⟨_, rfl, hs⟩
  have d1 : ∀ w, Sat W w M → w.cell? ⟨b5, 1, none⟩ = some (.string ⟨(y).toArray⟩) := fun w h => by rw [hM] at h; exact h.cell m0 rfl
  have o1 : ∀ w, Sat W w M → Calls Tryd.prog 16 #[.int .u32 (n : Nat)] w fun e w' => e = .returned (.string ⟨(N1).toArray⟩) ∧ Sat W w' M := by rw [← HN1.out]; exact fun w h => num_spec W w _ h n hn
  have o2 : ∀ w, Sat W w M → Calls Tryd.prog 22 #[(.string ⟨(K1).toArray⟩)] w fun e w' => e = .returned (.tuple #[.int .u32 (n : Nat), (.string ⟨(y).toArray⟩), .int .i64 0]) ∧ Sat W w' M := by rw [← T1B.out]; exact fun w h => takeNumL_spec W w _ h K1 k1
  have o1_ := Box.mk o1
  clear o1
  have o1 := o1_
  clear o1_
  have o2_ := Box.mk o2
  clear o2
  have o2 := o2_
  clear o2_
  have hM_ := Box.mk hM
  clear hM
  have hM := hM_
  clear hM_
  refine wp_region_quiet (C := fun w' => Sat W w' M) (by kernel_rfl) (by kernel_rfl) hs.drew ?_
  have hq := sat_const hs
  repeat (first
    | (with_reducible refine quiet_load (o := ⟨some 22, .load _ _, _, _, _, _⟩) rfl rfl rfl rfl d1 ?_)
    | (refine wpQuiet_step (fun K hK => ?_); go_simp; first
        | (with_reducible refine hK _ ?_; clear hK K)
        | (apply Exists.intro; refine ⟨fun w5 h5 => ?_, hK _ ?_⟩; (first | with_reducible exact o1.out w5 h5 | with_reducible exact o2.out w5 h5); clear hK K)))
  refine wpQuiet_nil ?_
  intro w8 hs8
  clear hs
  rw [hM.out] at hs8
  have hs := hs8
  clear hs8
  go_wp2_with fail
  clear d1 o1 o2 hM hq
  clear M
  obtain ⟨M, hM, hs⟩ : ∃ M, M = _ ∧ Sat W _ M := ⟨_, rfl, hs⟩
  have d1 : ∀ w, Sat W w M → w.cell? ⟨b5, 1, none⟩ = some (.string ⟨(y).toArray⟩) := fun w h => by rw [hM] at h; exact h.cell m0 rfl
  have o1 : ∀ w, Sat W w M → Calls Tryd.prog 18 #[.int .i64 m] w fun e w' => e = .returned (.string ⟨(N2).toArray⟩) ∧ Sat W w' M := by rw [← HN2.out]; exact fun w h => int_spec W w _ h m h0 h1
  have o2 : ∀ w, Sat W w M → Calls Tryd.prog 24 #[(.string ⟨(K2).toArray⟩)] w fun e w' => e = .returned (.tuple #[.int .i64 m, (.string ⟨(y).toArray⟩), .int .i64 0]) ∧ Sat W w' M := by rw [← T2B.out]; exact fun w h => takeInt_spec W w _ h K2 k2
  have o1_ := Box.mk o1
  clear o1
  have o1 := o1_
  clear o1_
  have o2_ := Box.mk o2
  clear o2
  have o2 := o2_
  clear o2_
  have hM_ := Box.mk hM
  clear hM
  have hM := hM_
  clear hM_
  refine wp_region_quiet (C := fun w' => Sat W w' M) (by kernel_rfl) (by kernel_rfl) hs.drew ?_
  have hq := sat_const hs
  repeat (first
    | (with_reducible refine quiet_load (o := ⟨some 32, .load _ _, _, _, _, _⟩) rfl rfl rfl rfl d1 ?_)
    | (refine wpQuiet_step (fun K hK => ?_); go_simp; first
        | (with_reducible refine hK _ ?_; clear hK K)
        | (apply Exists.intro; refine ⟨fun w5 h5 => ?_, hK _ ?_⟩; (first | with_reducible exact o1.out w5 h5 | with_reducible exact o2.out w5 h5); clear hK K)))
  refine wpQuiet_nil ?_
  intro w8 hs8
  clear hs
  rw [hM.out] at hs8
  have hs := hs8
  clear hs8
  go_wp2_with fail
  clear d1 o1 o2 hM hq
  clear M
  obtain ⟨M, hM, hs⟩ : ∃ M, M = _ ∧ Sat W _ M := ⟨_, rfl, hs⟩
  have d0 : ∀ w, Sat W w M → w.cell? ⟨b5, 0, none⟩ = some (.string ⟨(x).toArray⟩) := fun w h => by rw [hM] at h; exact h.cell m0 rfl
  have d1 : ∀ w, Sat W w M → w.cell? ⟨b5, 1, none⟩ = some (.string ⟨(y).toArray⟩) := fun w h => by rw [hM] at h; exact h.cell m0 rfl
  have hold' : old W ∈ M := by rw [hM]; exact List.mem_cons_of_mem _ hold
  have o1 : ∀ w, Sat W w M → Calls Tryd.prog 20 #[(.string ⟨(x).toArray⟩)] w fun e w' => e = .returned (.string ⟨(T1).toArray⟩) ∧ Sat W w' M := by rw [← HT1.out]; exact fun w h => text_spec W w _ h hold' HM.out x (by omega)
  have o2 : ∀ w, Sat W w M → Calls Tryd.prog 26 #[(.string ⟨(K3).toArray⟩)] w fun e w' => e = .returned (.tuple #[(.string ⟨(x).toArray⟩), (.string ⟨(y).toArray⟩), .int .i64 0]) ∧ Sat W w' M := by rw [← T3B.out]; exact fun w h => takeText_spec W w _ h hold' HM.out K3 k3
  have o1_ := Box.mk o1
  clear o1
  have o1 := o1_
  clear o1_
  have o2_ := Box.mk o2
  clear o2
  have o2 := o2_
  clear o2_
  have hM_ := Box.mk hM
  clear hM
  have hM := hM_
  clear hM_
  refine wp_region_quiet (C := fun w' => Sat W w' M) (by kernel_rfl) (by kernel_rfl) hs.drew ?_
  have hq := sat_const hs
  repeat (first
    | (with_reducible refine quiet_load (o := ⟨some 40, .load _ _, _, _, _, _⟩) rfl rfl rfl rfl d0 ?_)
    | (with_reducible refine quiet_load (o := ⟨some 43, .load _ _, _, _, _, _⟩) rfl rfl rfl rfl d1 ?_)
    | (refine wpQuiet_step (fun K hK => ?_); go_simp; first
        | (with_reducible refine hK _ ?_; clear hK K)
        | (apply Exists.intro; refine ⟨fun w5 h5 => ?_, hK _ ?_⟩; (first | with_reducible exact o1.out w5 h5 | with_reducible exact o2.out w5 h5); clear hK K)))
  refine wpQuiet_nil ?_
  intro w8 hs8
  clear hs
  rw [hM.out] at hs8
  have hs := hs8
  clear hs8
  clear d0 d1 o1 o2 hold' hM hq
  clear M
  have f0 := hs.cell (l := [(.string ⟨(x).toArray⟩), (.string ⟨(y).toArray⟩)]) (t := 28) (b := b5) (i := 0) m0 rfl
  have f1 := hs.cell (l := [(.string ⟨(x).toArray⟩), (.string ⟨(y).toArray⟩)]) (t := 28) (b := b5) (i := 1) m0 rfl
  go_wp2_with fail
  go_ret
  exact ⟨rfl, hs.tail⟩
theorem packBack_main (W : World) (hm : maxLenIs W) (n : Int) (v0 : Value) (h0 : (Kin.int .u32).K (hp W) n [v0]) (m : Int) (v1 : Value) (h1 : (Kin.int .i64).K (hp W) m [v1]) (ls : List (List UInt8)) (cs : List Value) (h2 : (Kin.arr 2 strU).K (hp W) ls cs) :
    Calls Tryd.prog 7 #[v0, v1, .agg cs.toArray] W fun e w' => e = .returned (.bool true) ∧ Below W.heap.size W w' := by
  obtain ⟨k, hk, rfl⟩ := u32_nat h0
  obtain ⟨ha, hb, rfl⟩ := i64_int h1
  obtain ⟨x, y, hx, hy, rfl⟩ := two_val h2
  exact (packBack_walk W W _ (Sat.start W) m0 hm k hk m ha hb x y hx hy).mono fun e w' ⟨he, hs⟩ => ⟨he, hs.end_ m0⟩
end Go.Proofs.YtgmfgdioaeheoaaDoor
