/- Numbers as strings: high, low, Num, TakeNum; and the reference's. -/
import Derived.Test.YtimknlabhhopcaaStr
import Derived.Test.YtimknlabhhopcaaNum
import Derived.Test.YtimknlabhhopcaaOp4
import Derived.Test.YtimknlabhhopcaaPk
import Derived.WalkKit
import Derived.ProofKit
set_option linter.unusedVariables false
set_option linter.unusedSimpArgs false
namespace Go.Proofs.Ytimknlabhhopcaa
open Go.RowKit
set_option maxRecDepth 100000 in
set_option maxHeartbeats 1000000 in
theorem low_spec (W w : World) (L : List HP) (hs : Sat W w L) (l : List UInt8) (hl : l.length ≤ 8) :
    Calls Try.prog 83 #[(.string ⟨(l).toArray⟩)] w fun e w' => e = .returned (.int .u64 (num l : Nat)) ∧ Sat W w' L := by
  go_enter Try.func83, Try.ntmps83
  go_wp2_with fail
  go_loopw [3, 4, 7] (fun v3 v4 v7 wr => ∃ k : Nat, k ≤ l.length ∧ v7 = .int .i64 k ∧ v3 = .int .u64 (num (l.take k) : Nat) ∧ Sat W wr L) (fun _ _ v7 _ => l.length - (intOf v7).toNat)
  case atStart => exact ⟨0, by omega, rfl, rfl, hs⟩
  case round =>
    clear hs
    obtain ⟨k, hk, rfl, rfl, hs⟩ := hrel
    by_cases hlt : k < l.length
    · have hltI : (k : Int) < (l.length : Int) := by omega
      go_wp2_with fail
      have hn := num_take_8 l k hlt hl
      have hx := l[k].toNat_lt
      have HN := num_take_succ l k hlt
      refine ⟨⟨k + 1, by omega, by go_num, ?_, hs⟩, by simp [intOf]; omega⟩
      rw [HN, str_get l k hlt, w64 (by omega) (by omega), w64 (by omega) (by omega), or_low _ _ hn (by omega)]
    · have hltI : ¬ (k : Int) < (l.length : Int) := by omega
      go_wp2_with fail
      go_ret
      obtain rfl : k = l.length := by omega
      rw [List.take_length]
      exact ⟨rfl, hs⟩
set_option maxRecDepth 100000 in
set_option maxHeartbeats 1000000 in
theorem rnumber_spec (W w : World) (L : List HP) (hs : Sat W w L) (l : List UInt8) (hl : l.length ≤ 8) :
    Calls Try.prog 77 #[(.string ⟨(l).toArray⟩)] w fun e w' => e = .returned (.int .u64 (num l : Nat)) ∧ Sat W w' L := by
  go_enter Try.func77, Try.ntmps77
  go_wp2_with fail
  go_loopw [3, 4] (fun v3 v4 wr => ∃ k : Nat, k ≤ l.length ∧ v4 = .int .i64 k ∧ v3 = .int .u64 (num (l.take k) : Nat) ∧ Sat W wr L) (fun _ v4 _ => l.length - (intOf v4).toNat)
  case atStart => exact ⟨0, by omega, rfl, rfl, hs⟩
  case round =>
    clear hs
    obtain ⟨k, hk, rfl, rfl, hs⟩ := hrel
    by_cases hlt : k < l.length
    · have hltI : (k : Int) < (l.length : Int) := by omega
      go_wp2_with fail
      have hn := num_take_8 l k hlt hl
      have hx := l[k].toNat_lt
      have HN := num_take_succ l k hlt
      refine ⟨⟨k + 1, by omega, by go_num, ?_, hs⟩, by simp [intOf]; omega⟩
      rw [HN, str_get l k hlt, w64 (n := (l[k].toNat : Int)) (by omega) (by omega), w64 (n := 256 * _) (by omega) (by omega), w64 (by omega) (by omega)]
      simp
    · have hltI : ¬ (k : Int) < (l.length : Int) := by omega
      go_wp2_with fail
      go_ret
      obtain rfl : k = l.length := by omega
      rw [List.take_length]
      exact ⟨rfl, hs⟩
set_option maxRecDepth 100000 in
set_option maxHeartbeats 1000000 in
theorem high_spec (W w : World) (L : List HP) (hs : Sat W w L) (n m : Nat) (hn : n < 18446744073709551616) (hm : m ≤ 8) :
    Calls Try.prog 81 #[.int .u64 n, .int .i64 m] w fun e w' => e = .returned (.string ⟨(be m n).toArray⟩) ∧ Sat W w' L := by
  go_enter Try.func81, Try.ntmps81
  go_wp2_with (first
    | (guard_target = wpList _ _ _ (⟨some 8, .makeSlice _ _ _, _, _, _, _⟩ :: _) _ _; refine wpl (o := ⟨some 8, .makeSlice _ _ _, _, _, _, _⟩) rfl fun K hK => ?_; go_must (refine op_make hs rfl Try.underlying36 rfl rfl info_u8 rfl (Nat.le_refl m) (by omega) (by omega) fun b5 w1 h => hK _ _ ?_); clear hs hK K; have hs := h; clear h; try dsimp only [List.set] at hs))
  go_loopw [6, 10] (fun v6 v10 wr => ∃ k : Nat, k ≤ m ∧ v10 = .int .i64 k ∧ Sat W wr (row b5 (List.replicate (m - k) (.int .u8 0) ++ u8s (be k n)) 5 :: L)) (fun _ v10 _ => m - (intOf v10).toNat)
  case atStart => exact ⟨0, by omega, rfl, by simpa [be, u8s] using hs⟩
  case round =>
    clear hs
    obtain ⟨k, hk, rfl, hs⟩ := hrel
    by_cases hlt : k < m
    · have hltI : (k : Int) < (m : Int) := by omega
      go_wp2_with (first
        | (guard_target = wpList _ _ _ (⟨none, .store _ _ _, _, _, _, _⟩ :: _) _ _; refine wpl (o := ⟨none, .store _ _ _, _, _, _, _⟩) rfl fun K hK => ?_; go_must (refine op_store hs rfl (b := b5) (i := m - 1 - k) (v := .int .u8 ((n : Int) / 2 ^ (8 * k) % 256)) rfl rfl rfl (by kernel_rfl) (k := 0) rfl (by simp; omega) fun w3 h => hK _ _ ?_); clear hs hK K; have hs := h; clear h; try dsimp only [List.set] at hs))
      refine ⟨⟨k + 1, by omega, by go_num, ?_⟩, by simp [intOf]; omega⟩
      have hv : ((n : Int) / 2 ^ (8 * k) % 256) = (((UInt8.ofNat (n / 256 ^ k)).toNat : Nat) : Int) := by
        have e1 : (2 : Int) ^ (8 * k) = ((256 ^ k : Nat) : Int) := by rw [Int.pow_mul]; simp
        rw [e1, ← Int.natCast_ediv, UInt8.toNat_ofNat']
        exact (Int.natCast_emod (n / 256 ^ k) 256).symm
      have e : (List.replicate (m - k) (Value.int .u8 0) ++ u8s (be k n)).set (m - 1 - k) (.int .u8 ((n : Int) / 2 ^ (8 * k) % 256)) = List.replicate (m - (k + 1)) (.int .u8 0) ++ u8s (be (k + 1) n) := by
        rw [hv, be_front, show m - k = (m - (k + 1)) + 1 by omega, List.replicate_succ', List.append_assoc, List.set_append_right _ _ (by simp; omega)]
        have e2 : m - 1 - k - (List.replicate (m - (k + 1)) (Value.int .u8 0)).length = 0 := by simp; omega
        rw [e2]
        simp [u8s]
      rw [e] at hs
      exact hs
    · have hltI : ¬ (k : Int) < (m : Int) := by omega
      obtain rfl : k = m := by omega
      have e0 : List.replicate (k - k) (Value.int .u8 0) ++ u8s (be k n) = u8s (be k n) := by simp
      rw [e0] at hs
      go_wp2_with (first
        | (guard_target = wpList _ _ _ (⟨some 27, .convert _ _ _, _, _, _, _⟩ :: _) _ _; refine wpl (o := ⟨some 27, .convert _ _ _, _, _, _, _⟩) rfl fun K hK => ?_; go_must (refine op_to_string rfl Try.underlying36 Try.underlying5 Try.underlying9 rfl (hs.bytes (lit_bytes (l := be k n) 0 rfl k (be_length k n) (by omega))) (hK _ _ ?_)); clear hK K))
      go_ret
      exact ⟨rfl, hs.tail⟩
set_option maxRecDepth 100000 in
set_option maxHeartbeats 400000 in
theorem num_spec (W w : World) (L : List HP) (hs : Sat W w L) (n : Nat) (hn : n < 4294967296) :
    Calls Try.prog 72 #[.int .u32 n] w fun e w' => e = .returned (.string ⟨(be 4 n).toArray⟩) ∧ Sat W w' L := by
  have h1 : (n : Int) < 4294967296 := by omega
  go_enter Try.func72, Try.ntmps72
  go_wp2_with (first
    | (go_at_call 81; go_must (refine (high_spec W _ _ hs n 4 (by omega) (by omega)).mono ?_); clear hs; rintro e w1 ⟨rfl, hs⟩))
  go_ret
  exact ⟨rfl, hs⟩
set_option maxRecDepth 100000 in
set_option maxHeartbeats 400000 in
theorem takeNum_spec (W w : World) (L : List HP) (hs : Sat W w L) (l : List UInt8) (hl : l.length ≤ 1000000) :
    Calls Try.prog 75 #[(.string ⟨(l).toArray⟩)] w fun e w' => e = .returned (if l.length < 4 then .tuple #[.int .u32 0, (.string ⟨(([] : List UInt8)).toArray⟩), .int .i64 2] else .tuple #[.int .u32 (num (l.take 4) : Nat), (.string ⟨(l.drop 4).toArray⟩), .int .i64 0]) ∧ Sat W w' L := by
  by_cases h4 : l.length < 4
  · have h4I : (l.length : Int) < 4 := by omega
    rw [if_pos h4]
    go_enter Try.func75, Try.ntmps75
    go_wp2_with fail
    (try simp only [Exit.inBlock, Exit.then])
    refine bodyPost_ret (res_tmp3 rfl _ _ _) rfl ?_
    exact ⟨rfl, hs⟩
  · have h4I : ¬ (l.length : Int) < 4 := by omega
    rw [if_neg h4]
    go_enter Try.func75, Try.ntmps75
    go_wp2_with fail
    obtain ⟨M, hM, hs⟩ : ∃ M, M = _ ∧ Sat W _ M := ⟨_, rfl, hs⟩
    have oL : ∀ w, Sat W w M → Calls Try.prog 83 #[.string (ByteArray.extract ⟨l.toArray⟩ 0 4)] w fun e w' => e = .returned (.int .u64 (num (l.take 4) : Nat)) ∧ Sat W w' M := by rw [str_extract]; exact fun w h => low_spec W w _ h (l.take 4) (by simp; omega)
    have oL_ := Box.mk oL
    clear oL
    have oL := oL_
    clear oL_
    have hM_ := Box.mk hM
    clear hM
    have hM := hM_
    clear hM_
    refine wp_region_quiet (C := fun w' => Sat W w' M) (by kernel_rfl) (by kernel_rfl) hs.drew ?_
    have hq := sat_const hs
    repeat (first
      | (refine wpQuiet_step (fun K hK => ?_); go_simp; first
          | (with_reducible refine hK _ ?_; clear hK K)
          | (apply Exists.intro; refine ⟨fun w5 h5 => ?_, hK _ ?_⟩; (first | with_reducible exact oL.out w5 h5); clear hK K)))
    refine wpQuiet_nil ?_
    intro w8 hs8
    clear hs
    rw [hM.out] at hs8
    have hs := hs8
    clear hs8
    go_wp2_with fail
    (try simp only [Exit.inBlock, Exit.then])
    refine bodyPost_ret (res_tmp3 rfl _ _ _) rfl ?_
    have hn : num (l.take 4) < 256 ^ 4 := num_take_lt l 4 (by omega)
    have e1 := w32 (n := (num (l.take 4) : Nat)) (by omega) (by omega)
    have e2 := str_extract l 4 l.length
    rw [List.take_length] at e2
    refine ⟨?_, hM.out ▸ hs⟩
    show Ending.returned (.tuple #[.int .u32 (IntKind.u32.wrap (num (l.take 4) : Nat)), .string (ByteArray.extract ⟨l.toArray⟩ 4 l.length), .int .i64 0]) = _
    rw [e1, e2]
set_option maxRecDepth 100000 in
set_option maxHeartbeats 400000 in
theorem rtakeNum_spec (W w : World) (L : List HP) (hs : Sat W w L) (l : List UInt8) (hl : l.length ≤ 1000000) :
    Calls Try.prog 68 #[(.string ⟨(l).toArray⟩)] w fun e w' => e = .returned (if l.length < 4 then .tuple #[.int .u32 0, (.string ⟨(([] : List UInt8)).toArray⟩), .int .i64 2] else .tuple #[.int .u32 (num (l.take 4) : Nat), (.string ⟨(l.drop 4).toArray⟩), .int .i64 0]) ∧ Sat W w' L := by
  by_cases h4 : l.length < 4
  · have h4I : (l.length : Int) < 4 := by omega
    rw [if_pos h4]
    go_enter Try.func68, Try.ntmps68
    go_wp2_with fail
    (try simp only [Exit.inBlock, Exit.then])
    refine bodyPost_ret (res_tmp3 rfl _ _ _) rfl ?_
    exact ⟨rfl, hs⟩
  · have h4I : ¬ (l.length : Int) < 4 := by omega
    rw [if_neg h4]
    go_enter Try.func68, Try.ntmps68
    go_wp2_with fail
    obtain ⟨M, hM, hs⟩ : ∃ M, M = _ ∧ Sat W _ M := ⟨_, rfl, hs⟩
    have oL : ∀ w, Sat W w M → Calls Try.prog 77 #[.string (ByteArray.extract ⟨l.toArray⟩ 0 4)] w fun e w' => e = .returned (.int .u64 (num (l.take 4) : Nat)) ∧ Sat W w' M := by rw [str_extract]; exact fun w h => rnumber_spec W w _ h (l.take 4) (by simp; omega)
    have oL_ := Box.mk oL
    clear oL
    have oL := oL_
    clear oL_
    have hM_ := Box.mk hM
    clear hM
    have hM := hM_
    clear hM_
    refine wp_region_quiet (C := fun w' => Sat W w' M) (by kernel_rfl) (by kernel_rfl) hs.drew ?_
    have hq := sat_const hs
    repeat (first
      | (refine wpQuiet_step (fun K hK => ?_); go_simp; first
          | (with_reducible refine hK _ ?_; clear hK K)
          | (apply Exists.intro; refine ⟨fun w5 h5 => ?_, hK _ ?_⟩; (first | with_reducible exact oL.out w5 h5); clear hK K)))
    refine wpQuiet_nil ?_
    intro w8 hs8
    clear hs
    rw [hM.out] at hs8
    have hs := hs8
    clear hs8
    go_wp2_with fail
    (try simp only [Exit.inBlock, Exit.then])
    refine bodyPost_ret (res_tmp3 rfl _ _ _) rfl ?_
    have hn : num (l.take 4) < 256 ^ 4 := num_take_lt l 4 (by omega)
    have e1 := w32 (n := (num (l.take 4) : Nat)) (by omega) (by omega)
    have e2 := str_extract l 4 l.length
    rw [List.take_length] at e2
    refine ⟨?_, hM.out ▸ hs⟩
    show Ending.returned (.tuple #[.int .u32 (IntKind.u32.wrap (num (l.take 4) : Nat)), .string (ByteArray.extract ⟨l.toArray⟩ 4 l.length), .int .i64 0]) = _
    rw [e1, e2]
theorem nat_div256 (n : Nat) : (n : Int).tdiv 256 = ((n / 256 : Nat) : Int) := rfl
set_option maxRecDepth 100000 in
set_option maxHeartbeats 1000000 in
theorem rbytes_spec (W : World) : ∀ (m n : Nat) (L : List HP) (w : World) (hs : Sat W w L) (hn : n < 18446744073709551616) (hm : m ≤ 8),
    Calls Try.prog 84 #[.int .u64 n, .int .i64 m] w fun e w' => e = .returned (.string ⟨(be m n).toArray⟩) ∧ Sat W w' L
  | 0, n, L, w, hs, hn, hm => by
    go_enter Try.func84, Try.ntmps84
    go_wp2_with fail
    go_ret
    exact ⟨rfl, hs⟩
  | m + 1, n, L, w, hs, hn, hm => by
    have ih : ∀ L w, Sat W w L → Calls Try.prog 84 #[.int .u64 (IntKind.u64.wrap ((n : Int) / 256)), .int .i64 (IntKind.i64.wrap (m : Int))] w fun e w' => e = .returned (.string ⟨(be m (n / 256)).toArray⟩) ∧ Sat W w' L := by
      have e1 : IntKind.u64.wrap ((n : Int) / 256) = ((n / 256 : Nat) : Int) := by rw [w64 (by omega) (by omega)]; exact (Int.natCast_ediv n 256).symm
      have e2 : IntKind.i64.wrap (m : Int) = m := wi64 (by omega) (by omega)
      rw [e1, e2]
      exact fun L w hs => rbytes_spec W m (n / 256) L w hs (by omega) (by omega)
    have h0 : ¬ ((m : Int) + 1 = 0) := by omega
    have hx : IntKind.u8.wrap ((n : Int).tmod 256) = (((UInt8.ofNat n).toNat : Nat) : Int) := by
      have h1 : (UInt8.ofNat n).toNat = n % 256 := UInt8.toNat_ofNat'
      rw [h1, Int.tmod_eq_emod_of_nonneg (by omega), w8 (by omega) (by omega)]
      exact (Int.natCast_emod n 256).symm
    have HX := Box.mk hx
    have hcat : ¬ 9223372036854775807 < m + 1 := by omega
    clear hx
    go_enter Try.func84, Try.ntmps84
    go_wp2_with fail
    have hS0 := hs.drew.trueS
    refine wp_region_tree (trueS) (.take 0 (.take 1 (.take 2 (.take 3 (.take 5 (.take 6 (.take 7 (.all [(4, .all [(8, .all [(9, .take 10 (.take 11 (DTree.done)))])]), (8, .all [(4, .all [(9, .take 10 (.take 11 (DTree.done)))]), (9, .all [(4, .take 10 (.take 11 (DTree.done)))])])])))))))) (by kernel_rfl) (by kernel_rfl) (by kernel_rfl) (fun _ _ d _ _ h => by cases d <;> exact h) hS0 ?_
    have hs' := hs.drew
    clear hs
    have hs := hs'
    clear hs'
    have hq := fun p : Prop => class_const hS0 p
    clear hS0
    repeat (first
      | (refine tree_take rfl (fun K hK => ?_); go_simp; (first | with_reducible refine hK _ ?_ | (rw [if_neg (by decide)]; with_reducible refine hK _ ?_)); clear hK K))
    refine tree_all (trees_cons_yes (o := _) rfl rfl (fun K hK => ?_) (hs.trueS) (trees_cons_yes (o := _) rfl rfl (fun K hK => ?_) (hs.trueS) trees_nil))
    · try go_simp
      go_at_call 84
      refine (ih _ _ hs).mono ?_
      clear hs
      rintro e w5 ⟨rfl, hs⟩
      try go_simp
      refine hK _ _ (hs.trueS) ?_
      clear hK K
      refine tree_one_yes (o := _) rfl rfl (fun K hK => ?_) (hs.trueS)
      refine op_lit1 hs rfl Try.underlying36 info_u8 rfl (u8s [UInt8.ofNat n]) (by omega) rfl (u8s_one _) (by simp [u8s, Act.eval, HX.out]) fun b12 w1 h => hK _ _ (h.trueS) ?_
      clear hs hK K
      have hs := h
      clear h
      try dsimp only [List.set] at hs
      try go_simp
      refine tree_one_yes (o := _) rfl rfl (fun K hK => ?_) (hs.trueS)
      refine op_to_string rfl Try.underlying36 Try.underlying5 Try.underlying9 rfl (hs.bytes (lit_bytes (l := [UInt8.ofNat n]) 0 rfl 1 rfl (by omega))) (hK _ _ (hs.trueS) ?_)
      clear hK K
      try go_simp
      repeat (first
        | (refine tree_take rfl (fun K hK => ?_); go_simp; (first | with_reducible refine hK _ ?_ | (rw [if_neg (by decide)]; with_reducible refine hK _ ?_)); clear hK K))
      refine tree_done ?_
      go_wp2_with fail
      go_ret
      exact ⟨congrArg (fun s => Ending.returned (.string s)) (str_app (be m (n / 256)) [UInt8.ofNat n]), hs.pack (by repeat (first | with_reducible exact Pack.refl | with_reducible exact Pack.nil | with_reducible refine Pack.cons (by repeat (first | with_reducible exact Pick.here | with_reducible apply Pick.there)) ?_ | with_reducible apply Pack.drop))⟩
    · refine op_lit1 hs rfl Try.underlying36 info_u8 rfl (u8s [UInt8.ofNat n]) (by omega) rfl (u8s_one _) (by simp [u8s, Act.eval, HX.out]) fun b12 w1 h => hK _ _ (h.trueS) ?_
      clear hs hK K
      have hs := h
      clear h
      try dsimp only [List.set] at hs
      try go_simp
      refine tree_all (trees_cons_yes (o := _) rfl rfl (fun K hK => ?_) (hs.trueS) (trees_cons_yes (o := _) rfl rfl (fun K hK => ?_) (hs.trueS) trees_nil))
      · try go_simp
        go_at_call 84
        refine (ih _ _ hs).mono ?_
        clear hs
        rintro e w5 ⟨rfl, hs⟩
        try go_simp
        refine hK _ _ (hs.trueS) ?_
        clear hK K
        refine tree_one_yes (o := _) rfl rfl (fun K hK => ?_) (hs.trueS)
        refine op_to_string rfl Try.underlying36 Try.underlying5 Try.underlying9 rfl (hs.bytes (lit_bytes (l := [UInt8.ofNat n]) 0 rfl 1 rfl (by omega))) (hK _ _ (hs.trueS) ?_)
        clear hK K
        try go_simp
        repeat (first
          | (refine tree_take rfl (fun K hK => ?_); go_simp; (first | with_reducible refine hK _ ?_ | (rw [if_neg (by decide)]; with_reducible refine hK _ ?_)); clear hK K))
        refine tree_done ?_
        go_wp2_with fail
        go_ret
        exact ⟨congrArg (fun s => Ending.returned (.string s)) (str_app (be m (n / 256)) [UInt8.ofNat n]), hs.pack (by repeat (first | with_reducible exact Pack.refl | with_reducible exact Pack.nil | with_reducible refine Pack.cons (by repeat (first | with_reducible exact Pick.here | with_reducible apply Pick.there)) ?_ | with_reducible apply Pack.drop))⟩
      · refine op_to_string rfl Try.underlying36 Try.underlying5 Try.underlying9 rfl (hs.bytes (lit_bytes (l := [UInt8.ofNat n]) 0 rfl 1 rfl (by omega))) (hK _ _ (hs.trueS) ?_)
        clear hK K
        try go_simp
        refine tree_one_yes (o := _) rfl rfl (fun K hK => ?_) (hs.trueS)
        try go_simp
        go_at_call 84
        refine (ih _ _ hs).mono ?_
        clear hs
        rintro e w5 ⟨rfl, hs⟩
        try go_simp
        refine hK _ _ (hs.trueS) ?_
        clear hK K
        repeat (first
          | (refine tree_take rfl (fun K hK => ?_); go_simp; (first | with_reducible refine hK _ ?_ | (rw [if_neg (by decide)]; with_reducible refine hK _ ?_)); clear hK K))
        refine tree_done ?_
        go_wp2_with fail
        go_ret
        exact ⟨congrArg (fun s => Ending.returned (.string s)) (str_app (be m (n / 256)) [UInt8.ofNat n]), hs.pack (by repeat (first | with_reducible exact Pack.refl | with_reducible exact Pack.nil | with_reducible refine Pack.cons (by repeat (first | with_reducible exact Pick.here | with_reducible apply Pick.there)) ?_ | with_reducible apply Pack.drop))⟩
set_option maxRecDepth 100000 in
set_option maxHeartbeats 400000 in
theorem rnum_spec (W w : World) (L : List HP) (hs : Sat W w L) (n : Nat) (hn : n < 4294967296) :
    Calls Try.prog 78 #[.int .u32 n] w fun e w' => e = .returned (.string ⟨(be 4 n).toArray⟩) ∧ Sat W w' L := by
  have h1 : (n : Int) < 4294967296 := by omega
  go_enter Try.func78, Try.ntmps78
  go_wp2_with (first
    | (go_at_call 84; go_must (refine (rbytes_spec W 4 n _ _ hs (by omega) (by omega)).mono ?_); clear hs; rintro e w1 ⟨rfl, hs⟩))
  go_ret
  exact ⟨rfl, hs⟩
end Go.Proofs.Ytimknlabhhopcaa
