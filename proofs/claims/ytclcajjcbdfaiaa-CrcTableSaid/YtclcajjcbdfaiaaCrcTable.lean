/- The walk of the law CrcTable: it returns true; no conditions. -/
import Derived.Test.YtclcajjcbdfaiaaCrcL
import Derived.Test.YtclcajjcbdfaiaaLift
set_option linter.unusedVariables false
set_option linter.unusedSimpArgs false
namespace Go.Proofs.Ytclcajjcbdfaiaa
open Go.RowKit
/-- What is summed over the bits below a place. -/
def bitsum (n : Nat) : Nat → BitVec 32
  | 0 => 0
  | i + 1 => if n / 2 ^ i % 2 = 1 then bitsum n i ^^^ ctab (2 ^ i) else bitsum n i
theorem bitsum_all : ∀ n : Fin 256, bitsum n.val 8 = ctab n.val := by decide +kernel
theorem ctab_zero : ctab 0 = 0 := by decide +kernel
set_option maxRecDepth 100000 in
set_option maxHeartbeats 1000000 in
theorem crcTable_walk (W w : World) (L : List HP) (hs : Sat W w L) (n m : Nat) (hn : n < 256) (hm : m < 256) :
    Calls Try.prog 7 #[.int .u8 n, .int .u8 m] w fun e w' => e = .returned (.bool true) ∧ Sat W w' L := by
  go_enter Try.func7, Try.ntmps7
  go_wp2_with (first
    | (go_at_call 15; go_must (refine (awake_spec W _ _ hs).mono ?_); clear hs; rintro e w3 ⟨rfl, hs⟩)
    | (go_at_call 20; go_must (refine (table_spec W _ _ hs).mono ?_); clear hs; rintro e w1 ⟨rfl, hs⟩)
    | (refine wpl (o := ⟨some 6, .alloc _, _, _, _, _⟩) rfl fun K hK => op_alloc hs rfl _ zero27 (zc 256) rfl fun b1 w2 h => hK _ _ ?_; clear hs hK K; have hs := h; clear h)
    | (refine wpl (o := ⟨none, .store _ _ _, _, _, _, _⟩) rfl fun K hK => ?_; go_must (refine op_store_whole hs (b := b1) rfl rfl (tabCells 256) rfl (tabCells_one 256) (by kernel_rfl) (k := 0) rfl (by simp [zc]) fun w3 h => hK _ _ ?_); clear hs hK K; have hs := h; clear h; dsimp only [List.set] at hs))
  rename_i w9
  go_loop [7, 8] (fun v7 v8 => ∃ i : Nat, i ≤ 8 ∧ v8 = .int .i64 i ∧ v7 = .int .u32 (bitsum n i).toNat) (fun _ v8 => 8 - (intOf v8).toNat)
  case atStart => exact ⟨0, by omega, rfl, rfl⟩
  case round =>
    obtain ⟨i, hi, rfl, rfl⟩ := hrel
    by_cases hlt : i < 8
    · have hp : 2 ^ i < 256 := Nat.lt_of_lt_of_le (Nat.pow_lt_pow_right (by omega) hlt) (by decide)
      have hw2 : wrap64 (2 ^ i) = ((2 ^ i : Nat) : Int) := by
        have e : (2 : Int) ^ i = ((2 ^ i : Nat) : Int) := by push_cast; rfl
        rw [e]; generalize (2 ^ i : Nat) = p at hp ⊢; unfold wrap64; omega
      have hd : ((n : Int) / 2 ^ i) = ((n / 2 ^ i : Nat) : Int) := by push_cast; rfl
      have hc := hs.cell m0 (tabCells_get 256 _ hp)
      have B := Box.mk (show bitsum n (i + 1) = if n / 2 ^ i % 2 = 1 then bitsum n i ^^^ ctab (2 ^ i) else bitsum n i from rfl)
      have hx := bits_xor32 (bitsum n i) (ctab (2 ^ i))
      generalize bitsum n i ^^^ ctab (2 ^ i) = y at hx B
      generalize n / 2 ^ i = q at hd B
      by_cases hq : q % 2 = 1
      · have ht : ((((q : Nat) : Int).tmod 2) == 1) = true := by
          rw [Int.tmod_eq_emod_of_nonneg (by omega)]; simp; omega
        have ht' : ((((q : Nat) : Int) % 2) == 1) = true := by simp; omega
        rw [if_pos hq] at B
        clear hq
        generalize (2 : Nat) ^ i = p at *
        go_wp2_with fail
        go_round
        case measure => simp [intOf]; omega
        case rel => exact ⟨i + 1, by omega, by go_num, by rw [B.out]⟩
      · have ht : ((((q : Nat) : Int).tmod 2) == 1) = false := by
          rw [Int.tmod_eq_emod_of_nonneg (by omega)]; simp; omega
        have ht' : ((((q : Nat) : Int) % 2) == 1) = false := by simp; omega
        rw [if_neg hq] at B
        clear hq
        generalize (2 : Nat) ^ i = p at *
        go_wp2_with fail
        go_round
        case measure => simp [intOf]; omega
        case rel => exact ⟨i + 1, by omega, by go_num, by rw [B.out]⟩
    · obtain rfl : i = 8 := by omega
      rw [show bitsum n 8 = ctab n from bitsum_all ⟨n, hn⟩]
      go_wp2_with fail
      have h0 := fun (w0 : World) (h : Sat W w0 (row b1 (tabCells 256) 27 :: L)) => h.cell m0 (tabCells_get 256 0 (by omega))
      have hcn := fun (w0 : World) (h : Sat W w0 (row b1 (tabCells 256) 27 :: L)) => h.cell m0 (tabCells_get 256 n hn)
      have hcm := fun (w0 : World) (h : Sat W w0 (row b1 (tabCells 256) 27 :: L)) => h.cell m0 (tabCells_get 256 m hm)
      have hz : (ctab 0).toNat = 0 := by rw [ctab_zero]; rfl
      rw [hz] at h0
      have hB : ((((ctab n).toNat : Int) == ((ctab m).toNat : Int)) == ((n : Int) == (m : Int))) = true := by
        by_cases e : n = m
        · subst e; simp
        · have : ¬ (ctab n).toNat = (ctab m).toNat := fun h => e (ctab_inj hn hm (BitVec.eq_of_toNat_eq h))
          have h1 : (((ctab n).toNat : Int) == ((ctab m).toNat : Int)) = false := by simp; omega
          have h2 : ((n : Int) == (m : Int)) = false := by simp; omega
          rw [h1, h2]; rfl
      refine wp_region_quiet (C := fun w' => Sat W w' (row b1 (tabCells 256) 27 :: L)) (by kernel_rfl) (by kernel_rfl) hs.drew ?_
      have hq := sat_const hs
      have hn' : (n : Int) < 256 := by omega
      have hm' : (m : Int) < 256 := by omega
      repeat (first
        | (with_reducible refine quiet_load (o := ⟨some 31, .load _ _, _, _, _, _⟩) rfl rfl rfl rfl h0 ?_)
        | (with_reducible refine quiet_load (o := ⟨some 37, .load _ _, _, _, _, _⟩) rfl rfl rfl rfl hcn ?_)
        | (with_reducible refine quiet_load (o := ⟨some 44, .load _ _, _, _, _, _⟩) rfl rfl rfl rfl hcn ?_)
        | (with_reducible refine quiet_load (o := ⟨some 47, .load _ _, _, _, _, _⟩) rfl rfl rfl rfl hcm ?_)
        | (refine wpQuiet_step (fun K hK => ?_); go_simp; refine hK _ ?_; clear hK K))
      refine wpQuiet_nil ?_
      intro w6 hs6
      go_wp2
      go_show
      go_ret
      exact ⟨rfl, hs6.tail⟩
theorem crcTable_main (W : World) (n : UInt8) (v0 : Value) (h0 : Kin.u8.K (hp W) n [v0]) (m : UInt8) (v1 : Value) (h1 : Kin.u8.K (hp W) m [v1]) :
    Calls Try.prog 7 #[v0, v1] W fun e w' => e = .returned (.bool true) ∧ Below W.heap.size W w' := by
  cases h0
  cases h1
  exact (crcTable_walk W W _ (Sat.start W) n.toNat m.toNat n.toNat_lt m.toNat_lt).mono fun e w' ⟨he, hs⟩ => ⟨he, hs.end_ m0⟩
end Go.Proofs.Ytclcajjcbdfaiaa
