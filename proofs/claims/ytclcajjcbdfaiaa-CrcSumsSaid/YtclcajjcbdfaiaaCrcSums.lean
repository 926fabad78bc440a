/- The walk of the law CrcSums: it returns true, for slices of at most 2^47 bytes. -/
import Derived.Test.YtclcajjcbdfaiaaCrcL
import Derived.Test.YtclcajjcbdfaiaaLift
set_option linter.unusedVariables false
set_option linter.unusedSimpArgs false
namespace Go.Proofs.Ytclcajjcbdfaiaa
open Go.RowKit
set_option maxRecDepth 100000 in
set_option maxHeartbeats 1000000 in
theorem crcSums_walk (W w : World) (L : List HP) (hs : Sat W w L) (v : Value) (l : List UInt8) (hv : Has L (bytesAt v l)) (hl : l.length ≤ 140737488355328) (c : BitVec 32) (n : Nat) (hn : n < 256) :
    Calls Try.prog 3 #[v, .int .u32 c.toNat, .int .u8 n] w fun e w' => e = .returned (.bool true) ∧ Sat W w' L := by
  obtain ⟨_, A, cap, rfl, _⟩ := hs.bytes hv
  have hix := fun w => tab_index n .u8 (by omega) (by omega) w
  simp only [Int.toNat_natCast] at hix
  by_cases hbig : 20000 < l.length
  · go_enter Try.func3, Try.ntmps3
    go_wp2_with (first
      | (go_at_call 15; go_must (refine (awake_spec W _ _ hs).mono ?_); clear hs; rintro e w3 ⟨rfl, hs⟩))
    go_ret
    exact ⟨rfl, hs⟩
  · go_enter Try.func3, Try.ntmps3
    go_wp2_with (first
      | (go_at_call 15; go_must (refine (awake_spec W _ _ hs).mono ?_); clear hs; rintro e w3 ⟨rfl, hs⟩))
    refine wp_region_quiet (C := fun w' => Sat W w' L) (by kernel_rfl) (by kernel_rfl) hs.drew ?_
    have hq := sat_const hs
    have hwn : IntKind.i64.wrap (n : Int) = n := by rw [IntKind.wrap_i64]; omega
    repeat (refine wpQuiet_step (fun K hK => ?_); go_simp; first
      | (refine hK _ ?_; clear hK K)
      | (apply Exists.intro; refine ⟨fun w5 h5 => ?_, hK _ ?_⟩
         (first
          | (go_at_call 16; exact of_spec W w5 L h5 _ l hv hl)
          | (go_at_call 17; exact rof_spec W w5 L h5 _ l hv hl)
          | (go_at_call 18; exact more_spec W w5 L h5 c _ l hv hl)
          | (go_at_call 19; exact rmore_spec W w5 L h5 c _ l hv hl)
          | (go_at_call 20; exact table_spec W w5 L h5)
          | (go_at_call 21; exact (rentry_spec w5 n hn).mono fun e w6 ⟨he, hw⟩ => ⟨he, hw ▸ h5⟩))
         clear hK K))
    refine wpQuiet_nil ?_
    intro w6 hs6
    go_wp2
    go_ret
    exact ⟨rfl, hs6⟩
theorem kin_bytes {F : PH} {l : List UInt8} {v : Value} (h : (Kin.slice 1 Kin.u8).K F l [v]) : bytesAt v l F ∧ l.length ≤ 140737488351232 := by
  obtain ⟨v', vs, e, h1, h2, h3⟩ := h
  cases e
  have : vs = u8s l := by
    apply List.ext_getElem?
    intro i
    have hl : vs.length = l.length := by simpa [Kin.u8] using h2.1
    by_cases hi : i < l.length
    · have := h2.2 i l[i] (by simp [hi])
      simp only [Kin.u8, Nat.mul_one] at this
      have h' : ((vs.drop i).take 1)[0]? = some (Value.int .u8 l[i].toNat) := by rw [this]; rfl
      simpa [u8s, hi] using h'
    · rw [List.getElem?_eq_none (by omega), List.getElem?_eq_none (by simp; omega)]
  subst this
  exact ⟨h1, by omega⟩
theorem u32_of {n : Int} (h : (Lit.int .u32 n).wf = true) : ∃ c : BitVec 32, n = (c.toNat : Int) := by
  have : 0 ≤ n ∧ n ≤ 4294967295 := by simpa [Lit.wf, IntKind.min, IntKind.max, IntKind.signed, IntKind.bits] using h
  exact ⟨BitVec.ofNat 32 n.toNat, by simp; omega⟩
theorem crcSums_main (W : World) (l : List UInt8) (v : Value) (h0 : (Kin.slice 1 Kin.u8).K (hp W) l [v]) (c : Int) (v1 : Value) (h1 : (Kin.int .u32).K (hp W) c [v1]) (n : UInt8) (v2 : Value) (h2 : Kin.u8.K (hp W) n [v2]) :
    Calls Try.prog 3 #[v, v1, v2] W fun e w' => e = .returned (.bool true) ∧ Below W.heap.size W w' := by
  obtain ⟨e1, hc⟩ := h1
  cases e1
  cases h2
  obtain ⟨c, rfl⟩ := u32_of hc
  obtain ⟨hb, hl⟩ := kin_bytes h0
  exact (crcSums_walk W W _ (Sat.start W) v l ((has_old h0).imp fun F hF => (kin_bytes hF).1) (by omega) c n.toNat n.toNat_lt).mono fun e w' ⟨he, hs⟩ => ⟨he, hs.end_ m0⟩
end Go.Proofs.Ytclcajjcbdfaiaa
