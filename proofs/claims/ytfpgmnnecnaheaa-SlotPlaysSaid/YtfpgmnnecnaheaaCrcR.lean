/- The contracts of the reference of layer 2; no conditions but the lengths that are named. -/
import Derived.Test.YtfpgmnnecnaheaaOp2
import Derived.Test.YtfpgmnnecnaheaaCrcP
set_option linter.unusedVariables false
set_option linter.unusedSimpArgs false
namespace Go.Proofs.Ytfpgmnnecnaheaa
open Go.RowKit
set_option maxRecDepth 100000 in
set_option maxHeartbeats 400000 in
theorem rsteps_spec (w : World) (c : BitVec 32) (n : Nat) (hn : n ≤ 1000) :
    Calls Try.prog 87 #[.int .u32 c.toNat, .int .i64 n] w fun e w' => e = .returned (.int .u32 (csteps n c).toNat) ∧ w' = w := by
  go_enter Try.func87, Try.ntmps87
  go_wp2_with fail
  go_loop [0, 5] (fun v0 v5 => ∃ k : Nat, k ≤ n ∧ v5 = .int .i64 k ∧ v0 = .int .u32 (csteps k c).toNat) (fun _ v5 => n - (intOf v5).toNat)
  case atStart => exact ⟨0, by omega, rfl, rfl⟩
  case round =>
    obtain ⟨k, hk, rfl, rfl⟩ := hrel
    by_cases hlt : k < n
    · by_cases hodd : (csteps k c).toNat % 2 = 1
      · have hb : (((csteps k c).toNat : Int) % 2 == 1) = true := by simp; omega
        have HE := Box.mk (cstep_odd _ hodd)
        clear hodd
        go_wp2_with fail
        go_round
        case measure => simp [intOf]; omega
        case rel => exact ⟨k + 1, by omega, by go_num, by rw [HE.out]; rfl⟩
      · have hb : (((csteps k c).toNat : Int) % 2 == 1) = false := by simp; omega
        have HE := Box.mk (cstep_even _ hodd)
        clear hodd
        go_wp2_with fail
        go_round
        case measure => simp [intOf]; omega
        case rel => exact ⟨k + 1, by omega, by go_num, by rw [HE.out]; rfl⟩
    · obtain rfl : k = n := by omega
      go_wp2_with fail
      go_ret
      exact ⟨rfl, rfl⟩
theorem rsteps8 (w : World) (c : BitVec 32) :
    Calls Try.prog 87 #[.int .u32 c.toNat, .int .i64 8] w fun e w' => e = .returned (.int .u32 (csteps 8 c).toNat) ∧ w' = w := rsteps_spec w c 8 (by omega)
theorem sub_not' (c : BitVec 32) : (4294967295 - (c.toNat : Int)) = ((~~~ c).toNat : Int) := by
  have := c.isLt
  rw [BitVec.toNat_not]; omega
set_option maxRecDepth 100000 in
set_option maxHeartbeats 400000 in
theorem rmore_spec (W w : World) (L : List HP) (hs : Sat W w L) (c : BitVec 32) (v : Value) (l : List UInt8) (hv : Has L (bytesAt v l)) (hl : l.length ≤ 140737488355328) :
    Calls Try.prog 86 #[.int .u32 c.toNat, v] w fun e w' => e = .returned (.int .u32 (crcMore c l).toNat) ∧ Sat W w' L := by
  rw [← crcMoreR_eq]
  obtain ⟨_, A, cap, rfl, _⟩ := hs.bytes hv
  go_enter Try.func86, Try.ntmps86
  go_wp2_with fail
  go_loop [0, 5] (fun v0 v5 => ∃ k : Nat, k ≤ l.length ∧ v5 = .int .i64 k ∧ v0 = .int .u32 ((l.take k).foldl (fun c x => csteps 8 (c ^^^ x.toBitVec.setWidth 32)) (~~~ c)).toNat) (fun _ v5 => l.length - (intOf v5).toNat)
  case atStart => exact ⟨0, by omega, rfl, by rw [sub_not']; rfl⟩
  case round =>
    obtain ⟨k, hk, rfl, rfl⟩ := hrel
    by_cases hlt : k < l.length
    · obtain ⟨_, A', cap', e1, _, _, h0 | ⟨b, o, rfl, hc⟩⟩ := hs.bytes hv
      · cases e1; exact absurd (by simpa [u8s] using h0) (show l ≠ [] by intro e; simp [e] at hlt)
      cases e1
      have hc1 : w.cell? ⟨b, o + k, none⟩ = some (.int .u8 l[k].toNat) := cellsAt_world hc k _ (by simp [u8s, hlt])
      clear hc
      have HF := Box.mk (foldl_take (fun c (x : UInt8) => csteps 8 (c ^^^ x.toBitVec.setWidth 32)) (~~~ c) l k hlt)
      generalize (l.take k).foldl (fun c (x : UInt8) => csteps 8 (c ^^^ x.toBitVec.setWidth 32)) (~~~ c) = s at *
      have hx : bits .xor .u32 (s.toNat : Int) ((l[k].toNat : Int) % 4294967296) = ((s ^^^ l[k].toBitVec.setWidth 32).toNat : Int) := by
        have := l[k].toNat_lt
        rw [← xor_byte]; congr 1; omega
      generalize s ^^^ l[k].toBitVec.setWidth 32 = s' at *
      go_wp2_with (first
        | (go_at_call 87; go_must ((with_reducible refine (rsteps8 _ s').mono ?_)); rintro e w1 ⟨rfl, rfl⟩))
      go_round
      case measure => simp [intOf]; omega
      case rel => exact ⟨k + 1, by omega, by go_num, by rw [HF.out]⟩
    · obtain rfl : k = l.length := by omega
      rw [List.take_length]
      have HC := Box.mk (sub_not' (l.foldl (fun c (x : UInt8) => csteps 8 (c ^^^ x.toBitVec.setWidth 32)) (~~~ c)))
      have HD : Box (crcMoreR c l = ~~~ (l.foldl (fun c (x : UInt8) => csteps 8 (c ^^^ x.toBitVec.setWidth 32)) (~~~ c))) := ⟨rfl⟩
      generalize l.foldl (fun c (x : UInt8) => csteps 8 (c ^^^ x.toBitVec.setWidth 32)) (~~~ c) = s at *
      go_wp2_with fail
      go_ret
      exact ⟨by rw [HD.out, ← HC.out]; rfl, hs⟩
theorem rof_spec (W w : World) (L : List HP) (hs : Sat W w L) (v : Value) (l : List UInt8) (hv : Has L (bytesAt v l)) (hl : l.length ≤ 140737488355328) :
    Calls Try.prog 82 #[v] w fun e w' => e = .returned (.int .u32 (crcOf l).toNat) ∧ Sat W w' L := by
  go_enter Try.func82, Try.ntmps82
  go_wp2_with (first
    | (go_at_call 86; refine (rmore_spec W _ _ hs 0 v l hv hl).mono ?_; clear hs; rintro e w1 ⟨rfl, hs⟩))
  go_ret
  exact ⟨rfl, hs⟩
end Go.Proofs.Ytfpgmnnecnaheaa
