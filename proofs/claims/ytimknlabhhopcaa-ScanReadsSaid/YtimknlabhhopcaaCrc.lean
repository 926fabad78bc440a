/- The contracts of the given package crc, over lists of assertions; no conditions but the lengths that are named. -/
import Derived.Test.YtimknlabhhopcaaOp2
import Derived.Test.YtimknlabhhopcaaCrcP
set_option linter.unusedVariables false
set_option linter.unusedSimpArgs false
namespace Go.Proofs.Ytimknlabhhopcaa
open Go.RowKit
theorem zero27 : (Try.prog.info? 160).bind (·.zero) = some (.agg (List.replicate 256 (Value.int .u32 0)).toArray) := by kernel_rfl
def zc (n : Nat) : List Value := List.replicate n (.int .u32 0)
theorem zc_256 : List.replicate 256 (Value.int .u32 0) = zc 256 := rfl


set_option maxRecDepth 100000 in
set_option maxHeartbeats 400000 in
theorem table_spec (W w : World) (L : List HP) (hs : Sat W w L) : Calls Try.prog 86 #[] w fun e w' => e = .returned (.agg (tabCells 256).toArray) ∧ Sat W w' L := by
  go_enter Try.func86, Try.ntmps86
  go_wp2_with (first
    | (guard_target = wpList _ _ _ (⟨some 0, _, _, _, _, _⟩ :: _) _ _; refine wpl (o := ⟨some 0, _, _, _, _, _⟩) rfl fun K hK => op_alloc hs rfl _ zero27 (zc 256) rfl fun b0 w0 h => hK _ _ ?_; clear hs hK K; have hs := h; clear h)
    | (guard_target = wpList _ _ _ (⟨some 1, _, _, _, _, _⟩ :: _) _ _; refine wpl (o := ⟨some 1, _, _, _, _, _⟩) rfl fun K hK => op_alloc hs rfl _ zero27 (zc 256) rfl fun b1 w1 h => hK _ _ ?_; clear hs hK K; have hs := h; clear h))
  go_loopw [5] (fun v5 wr => ∃ k : Nat, k ≤ 256 ∧ v5 = .int .i64 k ∧ Sat W wr (row b1 (tabCells k ++ zc (256 - k)) 160 :: row b0 (zc 256) 160 :: L)) (fun v5 _ => 256 - (intOf v5).toNat)
  case atStart => exact ⟨0, by omega, rfl, hs⟩
  case round =>
    clear hs
    obtain ⟨k, hk, rfl, hs⟩ := hrel
    by_cases hlt : k < 256
    · go_wp2_with fail
      go_loopw [3, 10] (fun v3 v10 wi => ∃ j : Nat, j ≤ 8 ∧ v10 = .int .i64 j ∧ v3 = .int .u32 (csteps j (BitVec.ofNat 32 k)).toNat ∧ wi = wr) (fun _ v10 _ => 8 - (intOf v10).toNat)
      case atStart => exact ⟨0, by omega, rfl, by simp [csteps]; omega, rfl⟩
      case round =>
        obtain ⟨j, hj, rfl, rfl, rfl⟩ := hrel
        by_cases hlt2 : j < 8
        · go_wp2_with fail
          go_roundw
          case measure => simp [intOf]; omega
          case rel => exact ⟨j + 1, by omega, by go_num, by rw [cstep_int]; rfl, trivial⟩
        · obtain rfl : j = 8 := by omega
          go_wp2_with (first
            | (guard_target = wpList _ _ _ (⟨none, .store _ _ _, _, _, _, _⟩ :: _) _ _; refine wpl (o := ⟨none, .store _ _ _, _, _, _, _⟩) rfl fun K hK => op_store hs (b := b1) (i := k) (v := .int .u32 (csteps 8 (BitVec.ofNat 32 k)).toNat) rfl rfl rfl rfl (by kernel_rfl) (k := 0) rfl (by simp [zc]; omega) fun w' h => hK _ _ ?_; clear hs hK K; have hs := h; clear h; dsimp only [List.set] at hs))
          go_roundw
          case measure => simp [intOf]; omega
          case rel =>
            refine ⟨k + 1, by omega, by go_num, ?_⟩
            have e : (tabCells k ++ zc (256 - k)).set k (.int .u32 (csteps 8 (BitVec.ofNat 32 k)).toNat) = tabCells (k + 1) ++ zc (256 - (k + 1)) := by
              rw [tabCells_succ, show 256 - k = (256 - (k + 1)) + 1 by omega, zc, List.replicate_succ, List.set_append]
              simp [zc, ctab]
            rw [e] at hs; exact hs
    · obtain rfl : k = 256 := by omega
      go_wp2_with (first
        | (guard_target = wpList _ _ _ (⟨some 25, _, _, _, _, _⟩ :: _) _ _; refine wpl (o := ⟨some 25, _, _, _, _, _⟩) rfl fun K hK => op_load_agg rfl rfl (tabCells 256) (range_prefix hs _ _ rfl List.mem_cons_self) (by kernel_rfl) (by kernel_rfl) (hK _ _ ?_); clear hK K)
        | (guard_target = wpList _ _ _ (⟨none, .store _ _ _, _, _, _, _⟩ :: _) _ _; refine wpl (o := ⟨none, .store _ _ _, _, _, _, _⟩) rfl fun K hK => op_store_whole hs rfl rfl (tabCells 256) rfl (tabCells_one 256) (by kernel_rfl) (k := 1) rfl (by simp [zc]) fun w' h => hK _ _ ?_; clear hs hK K; have hs := h; clear h; dsimp only [List.set] at hs))
      exact bodyPost_ret (run_results_cell rfl (b := b0) rfl (tabCells 256) (range_whole hs m1) (by kernel_rfl) (by kernel_rfl)) rfl ⟨rfl, hs.tail.tail⟩

set_option maxRecDepth 100000 in
set_option maxHeartbeats 400000 in
theorem more_spec (W w : World) (L : List HP) (hs : Sat W w L) (c : BitVec 32) (v : Value) (l : List UInt8) (hv : Has L (bytesAt v l)) (hl : l.length ≤ 140737488355328) :
    Calls Try.prog 82 #[.int .u32 c.toNat, v] w fun e w' => e = .returned (.int .u32 (crcMore c l).toNat) ∧ Sat W w' L := by
  obtain ⟨_, A, cap, rfl, _⟩ := hs.bytes hv
  go_enter Try.func82, Try.ntmps82
  go_wp2_with (first
    | (go_at_call 86; refine (table_spec W _ _ hs).mono ?_; clear hs; rintro e w1 ⟨rfl, hs⟩)
    | (guard_target = wpList _ _ _ (⟨some 5, .alloc _, _, _, _, _⟩ :: _) _ _; refine wpl (o := ⟨some 5, .alloc _, _, _, _, _⟩) rfl fun K hK => op_alloc hs rfl _ zero27 (zc 256) rfl fun b1 w2 h => hK _ _ ?_; clear hs hK K; have hs := h; clear h)
    | (guard_target = wpList _ _ _ (⟨none, .store _ _ _, _, _, _, _⟩ :: _) _ _; refine wpl (o := ⟨none, .store _ _ _, _, _, _, _⟩) rfl fun K hK => ?_; go_must (refine op_store_whole hs (b := b1) rfl rfl (tabCells 256) rfl (tabCells_one 256) (by kernel_rfl) (k := 0) rfl (by simp [zc]) fun w3 h => hK _ _ ?_); clear hs hK K; have hs := h; clear h; dsimp only [List.set] at hs))
  go_loopw [0, 13] (fun v0 v13 wr => ∃ k : Nat, k ≤ l.length ∧ v13 = .int .i64 k ∧ v0 = .int .u32 ((l.take k).foldl cbyte (~~~ c)).toNat ∧ Sat W wr (row b1 (tabCells 256) 160 :: L)) (fun _ v13 _ => l.length - (intOf v13).toNat)
  case atStart => exact ⟨0, by omega, rfl, by rw [not_int]; rfl, hs⟩
  case round =>
    clear hs
    obtain ⟨k, hk, rfl, rfl, hs⟩ := hrel
    by_cases hlt : k < l.length
    · obtain ⟨_, A', cap', e1, _, _, h0 | ⟨b, o, rfl, hc⟩⟩ := hs.bytes hv.tail
      · cases e1; exact absurd (by simpa [u8s] using h0) (show l ≠ [] by intro e; simp [e] at hlt)
      cases e1
      have hc1 : wr.cell? ⟨b, o + k, none⟩ = some (.int .u8 l[k].toNat) := cellsAt_world hc k _ (by simp [u8s, hlt])
      clear hc
      have HF := Box.mk (foldl_take cbyte (~~~ c) l k hlt)
      generalize (l.take k).foldl cbyte (~~~ c) = s at *
      have hi := idx_int s l[k]
      have hlt8 := (s.setWidth 8 ^^^ l[k].toBitVec).isLt
      have hc2 := hs.cell m0 (tabCells_get 256 _ hlt8)
      have HB := Box.mk (cbyte_int s l[k])
      generalize (s.setWidth 8 ^^^ l[k].toBitVec).toNat = ix at *
      simp only [Nat.reducePow] at hlt8
      go_wp2_with fail
      go_roundw
      case measure => simp [intOf]; omega
      case rel => exact ⟨k + 1, by omega, by go_num, by rw [HF.out, HB.out], hs⟩
    · obtain rfl : k = l.length := by omega
      go_wp2_with fail
      go_ret
      exact ⟨by rw [not_int, List.take_length]; rfl, hs.tail⟩
theorem of_spec (W w : World) (L : List HP) (hs : Sat W w L) (v : Value) (l : List UInt8) (hv : Has L (bytesAt v l)) (hl : l.length ≤ 140737488355328) :
    Calls Try.prog 73 #[v] w fun e w' => e = .returned (.int .u32 (crcOf l).toNat) ∧ Sat W w' L := by
  go_enter Try.func73, Try.ntmps73
  go_wp2_with (first
    | (go_at_call 82; refine (more_spec W _ _ hs 0 v l hv hl).mono ?_; clear hs; rintro e w1 ⟨rfl, hs⟩))
  go_ret
  exact ⟨rfl, hs⟩
end Go.Proofs.Ytimknlabhhopcaa
