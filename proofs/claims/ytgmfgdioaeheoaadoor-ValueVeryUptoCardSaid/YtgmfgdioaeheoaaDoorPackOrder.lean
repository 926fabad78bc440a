/- The walk of the law PackOrder. -/
import Derived.Test.YtgmfgdioaeheoaaDoorPackTells
set_option linter.unusedVariables false
set_option linter.unusedSimpArgs false
namespace Go.Proofs.YtgmfgdioaeheoaaDoor
open Go.RowKit
theorem less_i63 (n m : Int) (h0 : -9223372036854775808 ≤ n) (h1 : n < 9223372036854775808) (h2 : -9223372036854775808 ≤ m) (h3 : m < 9223372036854775808) : Op.bytesLess (be 8 (i63 n)) (be 8 (i63 m)) = decide (n < m) := by
  have e : (256 : Nat) ^ 8 = 18446744073709551616 := by decide
  rw [less_be, e]
  unfold i63
  apply decide_eq_decide.2
  omega
theorem less_u32 (a b : Nat) (ha : a < 4294967296) (hb : b < 4294967296) : Op.bytesLess (be 4 a) (be 4 b) = decide (a < b) := by
  have e : (256 : Nat) ^ 4 = 4294967296 := by decide
  rw [less_be, e, Nat.mod_eq_of_lt ha, Nat.mod_eq_of_lt hb]
theorem less_texts (a b : List UInt8) : Op.bytesLess (text a) (text b) = Op.bytesLess a b := by
  by_cases h : a = b
  · rw [h, less_self, less_self]
  · have := less_text [] [] a b h
    rw [List.append_nil, List.append_nil] at this
    exact this
theorem wrap_u32 (n : Int) : ∃ a : Nat, IntKind.u32.wrap n = (a : Int) ∧ a < 4294967296 := by
  have e : IntKind.u32.wrap n = n % 4294967296 := by simp [IntKind.wrap, IntKind.bits, IntKind.signed]
  exact ⟨(n % 4294967296).toNat, by rw [e]; omega, by omega⟩
set_option maxRecDepth 100000 in
set_option maxHeartbeats 8000000 in
theorem packOrder_walk (W w : World) (L : List HP) (hs : Sat W w L) (hold : old W ∈ L) (hm : maxLenIs W) (n : Int) (h0 : -9223372036854775808 ≤ n) (h1 : n < 9223372036854775808) (m : Int) (h2 : -9223372036854775808 ≤ m) (h3 : m < 9223372036854775808)
    (x y : List UInt8) (hx : x.length ≤ 1073741824) (hy : y.length ≤ 1073741824) :
    Calls Tryd.prog 4 #[.int .i64 n, .int .i64 m, .agg #[(.string ⟨(x).toArray⟩), (.string ⟨(y).toArray⟩)]] w fun e w' => e = .returned (.bool true) ∧ Sat W w' L := by
  have HM := Box.mk hm
  clear hm
  obtain ⟨a, ha, ha2⟩ := wrap_u32 n
  obtain ⟨b, hb, hb2⟩ := wrap_u32 m
  have e1 := less_i63 n m h0 h1 h2 h3
  have e2 := less_u32 a b ha2 hb2
  have e3 := less_texts x y
  obtain ⟨N1, hN1⟩ : ∃ z, be 8 (i63 n) = z := ⟨_, rfl⟩
  obtain ⟨N2, hN2⟩ : ∃ z, be 8 (i63 m) = z := ⟨_, rfl⟩
  obtain ⟨A1, hA1⟩ : ∃ z, be 4 a = z := ⟨_, rfl⟩
  obtain ⟨A2, hA2⟩ : ∃ z, be 4 b = z := ⟨_, rfl⟩
  obtain ⟨T1, hT1⟩ : ∃ z, text x = z := ⟨_, rfl⟩
  obtain ⟨T2, hT2⟩ : ∃ z, text y = z := ⟨_, rfl⟩
  rw [hN1, hN2] at e1
  rw [hA1, hA2] at e2
  rw [hT1, hT2] at e3
  have HN1 := Box.mk hN1
  have HN2 := Box.mk hN2
  have HA1 := Box.mk hA1
  have HA2 := Box.mk hA2
  have HT1 := Box.mk hT1
  have HT2 := Box.mk hT2
  clear hN1 hN2 hA1 hA2 hT1 hT2
  go_enter Tryd.func4, Tryd.ntmps4
  go_wp2_with (first
    | (guard_target = wpList _ _ _ (⟨some 5, .box _ _, _, _, _, _⟩ :: _) _ _; refine wpl (o := ⟨some 5, .box _ _, _, _, _, _⟩) rfl fun K hK => ?_; go_must (refine op_box hs rfl _ rfl [(.string ⟨(x).toArray⟩), (.string ⟨(y).toArray⟩)] rfl fun b5 w1 h => hK _ _ ?_); clear hs hK K; have hs := h; clear h; try dsimp only [List.set] at hs)
    | (go_at_call 15; go_must (refine (awake1_spec W _ _ hs (List.mem_cons_of_mem _ hold) HM.out).mono ?_); clear hs; rintro e w1 ⟨rfl, hs⟩))
  obtain ⟨M, hM, hs⟩ : ∃ M, M = _ ∧ Sat W _ M := ⟨_, rfl, hs⟩
  have d0 : ∀ w, Sat W w M → w.cell? ⟨b5, 0, none⟩ = some (.string ⟨(x).toArray⟩) := fun w h => by rw [hM] at h; exact h.cell m0 rfl
  have d1 : ∀ w, Sat W w M → w.cell? ⟨b5, 1, none⟩ = some (.string ⟨(y).toArray⟩) := fun w h => by rw [hM] at h; exact h.cell m0 rfl
  have hold' : old W ∈ M := by rw [hM]; exact List.mem_cons_of_mem _ hold
  have o1 : ∀ w, Sat W w M → Calls Tryd.prog 18 #[.int .i64 n] w fun e w' => e = .returned (.string ⟨(N1).toArray⟩) ∧ Sat W w' M := by rw [← HN1.out]; exact fun w h => int_spec W w _ h n h0 h1
  have o2 : ∀ w, Sat W w M → Calls Tryd.prog 18 #[.int .i64 m] w fun e w' => e = .returned (.string ⟨(N2).toArray⟩) ∧ Sat W w' M := by rw [← HN2.out]; exact fun w h => int_spec W w _ h m h2 h3
  have o3 : ∀ w, Sat W w M → Calls Tryd.prog 16 #[.int .u32 (a : Nat)] w fun e w' => e = .returned (.string ⟨(A1).toArray⟩) ∧ Sat W w' M := by rw [← HA1.out]; exact fun w h => num_spec W w _ h a ha2
  have o4 : ∀ w, Sat W w M → Calls Tryd.prog 16 #[.int .u32 (b : Nat)] w fun e w' => e = .returned (.string ⟨(A2).toArray⟩) ∧ Sat W w' M := by rw [← HA2.out]; exact fun w h => num_spec W w _ h b hb2
  have o5 : ∀ w, Sat W w M → Calls Tryd.prog 20 #[(.string ⟨(x).toArray⟩)] w fun e w' => e = .returned (.string ⟨(T1).toArray⟩) ∧ Sat W w' M := by rw [← HT1.out]; exact fun w h => text_spec W w _ h hold' HM.out x hx
  have o6 : ∀ w, Sat W w M → Calls Tryd.prog 20 #[(.string ⟨(y).toArray⟩)] w fun e w' => e = .returned (.string ⟨(T2).toArray⟩) ∧ Sat W w' M := by rw [← HT2.out]; exact fun w h => text_spec W w _ h hold' HM.out y hy
  have o1_ := Box.mk o1
  clear o1
  have o1 := o1_
  clear o1_
  have o2_ := Box.mk o2
  clear o2
  have o2 := o2_
  clear o2_
  have o3_ := Box.mk o3
  clear o3
  have o3 := o3_
  clear o3_
  have o4_ := Box.mk o4
  clear o4
  have o4 := o4_
  clear o4_
  have o5_ := Box.mk o5
  clear o5
  have o5 := o5_
  clear o5_
  have o6_ := Box.mk o6
  clear o6
  have o6 := o6_
  clear o6_
  have hM_ := Box.mk hM
  clear hM
  have hM := hM_
  clear hM_
  refine wp_region_quiet (C := fun w' => Sat W w' M) (by kernel_rfl) (by kernel_rfl) hs.drew ?_
  have hq := sat_const hs
  repeat (first
    | (with_reducible refine quiet_load (o := ⟨some 40, .load _ _, _, _, _, _⟩) rfl rfl rfl rfl d0 ?_)
    | (with_reducible refine quiet_load (o := ⟨some 42, .load _ _, _, _, _, _⟩) rfl rfl rfl rfl d1 ?_)
    | (with_reducible refine quiet_load (o := ⟨some 45, .load _ _, _, _, _, _⟩) rfl rfl rfl rfl d0 ?_)
    | (with_reducible refine quiet_load (o := ⟨some 48, .load _ _, _, _, _, _⟩) rfl rfl rfl rfl d1 ?_)
    | (refine wpQuiet_step (fun K hK => ?_); go_simp; first
        | (with_reducible refine hK _ ?_; clear hK K)
        | (apply Exists.intro; refine ⟨fun w5 h5 => ?_, hK _ ?_⟩; (first | with_reducible exact o1.out w5 h5 | with_reducible exact o2.out w5 h5 | with_reducible exact o3.out w5 h5 | with_reducible exact o4.out w5 h5 | with_reducible exact o5.out w5 h5 | with_reducible exact o6.out w5 h5); clear hK K)))
  refine wpQuiet_nil ?_
  intro w8 hs8
  clear hs
  rw [hM.out] at hs8
  have hs := hs8
  clear hs8
  go_wp2_with fail
  go_ret
  exact ⟨rfl, hs.tail⟩
theorem packOrder_main (W : World) (hm : maxLenIs W) (n : Int) (v0 : Value) (h0 : (Kin.int .i64).K (hp W) n [v0]) (m : Int) (v1 : Value) (h1 : (Kin.int .i64).K (hp W) m [v1]) (ls : List (List UInt8)) (cs : List Value) (h2 : (Kin.arr 2 strU).K (hp W) ls cs) :
    Calls Tryd.prog 4 #[v0, v1, .agg cs.toArray] W fun e w' => e = .returned (.bool true) ∧ Below W.heap.size W w' := by
  obtain ⟨ha, hb, rfl⟩ := i64_int h0
  obtain ⟨hc, hd, rfl⟩ := i64_int h1
  obtain ⟨x, y, hx, hy, rfl⟩ := two_val h2
  exact (packOrder_walk W W _ (Sat.start W) m0 hm n ha hb m hc hd x y (by omega) (by omega)).mono fun e w' ⟨he, hs⟩ => ⟨he, hs.end_ m0⟩
end Go.Proofs.YtgmfgdioaeheoaaDoor
