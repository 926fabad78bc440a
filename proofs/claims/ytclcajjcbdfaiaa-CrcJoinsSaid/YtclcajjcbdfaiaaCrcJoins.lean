/- The walk of the law CrcJoins: it returns true, for slices of at most 2^47 bytes. -/
import Derived.Test.YtclcajjcbdfaiaaCrcL
import Derived.Test.YtclcajjcbdfaiaaLift
set_option linter.unusedVariables false
set_option linter.unusedSimpArgs false
namespace Go.Proofs.Ytclcajjcbdfaiaa
open Go.RowKit
theorem more_cut (l : List UInt8) (k : Nat) : crcMore (crcOf (l.take k)) (l.drop k) = crcOf l := by
  unfold crcOf crcMore
  rw [BitVec.not_not, ← List.foldl_append, List.take_append_drop]
theorem more_nil (l : List UInt8) : crcMore (crcOf l) [] = crcOf l := by
  unfold crcOf crcMore
  rw [BitVec.not_not]; rfl
set_option maxRecDepth 100000 in
set_option maxHeartbeats 1000000 in
theorem crcJoins_walk (W w : World) (L : List HP) (hs : Sat W w L) (v : Value) (l : List UInt8) (hv : Has L (bytesAt v l)) (hl : l.length ≤ 140737488351232) (n : Nat) (hn : n < 65536) :
    Calls Try.prog 4 #[v, .int .u16 n] w fun e w' => e = .returned (.bool true) ∧ Sat W w' L := by
  obtain ⟨_, A, cap, rfl, hlc, hcm, _⟩ := hs.bytes hv
  by_cases hbig : 20000 < l.length
  · go_enter Try.func4, Try.ntmps4
    go_wp2_with (first
      | (go_at_call 15; go_must (refine (awake_spec W _ _ hs).mono ?_); clear hs; rintro e w3 ⟨rfl, hs⟩))
    go_ret
    exact ⟨rfl, hs⟩
  · have hk : n % (l.length + 1) ≤ l.length := by have := Nat.mod_lt n (show 0 < l.length + 1 by omega); omega
    have hmod : ((n : Int) % ((l.length : Int) + 1)) = ((n % (l.length + 1) : Nat) : Int) := by push_cast; rfl
    generalize n % (l.length + 1) = k at hk hmod
    have h1 := hv.imp fun F h => bytes_take h k hk
    have h2 := hv.imp fun F h => bytes_drop h k hk
    have h3 : Has L (bytesAt (.slice none 0 0) []) := hv.imp fun F _ => bytes_nil F
    have hl1 : (l.take k).length ≤ 140737488355328 := by simp; omega
    have hl2 : (l.drop k).length ≤ 140737488355328 := by simp; omega
    have hl3 : l.length ≤ 140737488355328 := by omega
    have B1 := Box.mk (more_cut l k)
    have B2 := Box.mk (more_nil l)
    have hkc : k ≤ cap := by omega
    go_enter Try.func4, Try.ntmps4
    go_wp2_with (first
      | (go_at_call 15; go_must (refine (awake_spec W _ _ hs).mono ?_); clear hs; rintro e w3 ⟨rfl, hs⟩))
    refine wp_region_quiet (C := fun w' => Sat W w' L) (by kernel_rfl) (by kernel_rfl) hs.drew ?_
    have hq := sat_const hs
    repeat (refine wpQuiet_step (fun K hK => ?_); go_simp; first
      | (refine hK _ ?_; clear hK K)
      | (apply Exists.intro; refine ⟨fun w5 h5 => ?_, hK _ ?_⟩
         (first
          | (go_at_call 16; with_reducible exact of_spec W w5 L h5 _ (l.take k) h1 hl1)
          | (go_at_call 18; with_reducible exact (more_spec W w5 L h5 _ _ (l.drop k) h2 hl2).mono fun e w6 ⟨he, hw⟩ => ⟨by rw [he, B1.out], hw⟩)
          | (go_at_call 16; with_reducible exact of_spec W w5 L h5 _ l hv hl3)
          | (go_at_call 18; with_reducible exact (more_spec W w5 L h5 _ _ [] h3 (by simp)).mono fun e w6 ⟨he, hw⟩ => ⟨by rw [he, B2.out], hw⟩))
         clear hK K))
    refine wpQuiet_nil ?_
    intro w6 hs6
    go_wp2
    all_goals
      go_ret
      exact ⟨rfl, hs6⟩
theorem crcJoins_main (W : World) (l : List UInt8) (v : Value) (h0 : (Kin.slice 1 Kin.u8).K (hp W) l [v]) (n : Int) (v1 : Value) (h1 : (Kin.int .u16).K (hp W) n [v1]) :
    Calls Try.prog 4 #[v, v1] W fun e w' => e = .returned (.bool true) ∧ Below W.heap.size W w' := by
  obtain ⟨e1, hn⟩ := h1
  cases e1
  have hn' : 0 ≤ n ∧ n ≤ 65535 := by simpa [Lit.wf, IntKind.min, IntKind.max, IntKind.signed, IntKind.bits] using hn
  obtain ⟨m, rfl⟩ := Int.eq_ofNat_of_zero_le hn'.1
  obtain ⟨hb, hl⟩ := kin_bytes h0
  exact (crcJoins_walk W W _ (Sat.start W) v l ((has_old h0).imp fun F hF => (kin_bytes hF).1) hl m (by omega)).mono fun e w' ⟨he, hs⟩ => ⟨he, hs.end_ m0⟩
end Go.Proofs.Ytclcajjcbdfaiaa
