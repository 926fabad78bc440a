/- The walk of the law RingCuts. -/
import Derived.Test.YtoedmjibhpajjaaRgRun
import Derived.Test.YtoedmjibhpajjaaRgAwake
set_option linter.unusedVariables false
set_option linter.unusedSimpArgs false
namespace Go.Proofs.Ytoedmjibhpajjaa
open Go.RowKit
theorem cut_told {R : Rg} (ok : R.Ok) (lo : Nat) : ∃ wl, (R.low < lo ∧ lo ≤ R.next ∧ wl = lo ∨ ¬ (R.low < lo ∧ lo ≤ R.next) ∧ wl = R.low) ∧ (R.cut lo).low = wl ∧ (R.cut lo).next = R.next ∧ R.low ≤ wl ∧ wl ≤ 1073741824 ∧ (R.cut lo).free = R.free + (wl - R.low) ∧ (R.cut lo).free ≤ R.many := by
  have h1 := ok.lo
  have h2 := ok.few
  have h3 := ok.top
  by_cases h : R.low < lo ∧ lo ≤ R.next
  · refine ⟨lo, .inl ⟨h.1, h.2, rfl⟩, ?_, by simp, by omega, by omega, ?_, ?_⟩ <;> unfold Rg.cut <;> rw [if_pos h]
    · show R.many - (R.next - lo) = R.many - (R.next - R.low) + (lo - R.low)
      omega
    · show R.many - (R.next - lo) ≤ R.many
      omega
  · refine ⟨R.low, .inr ⟨h, rfl⟩, ?_, by simp, by omega, by omega, ?_, ?_⟩ <;> unfold Rg.cut <;> rw [if_neg h]
    · omega
    · unfold Rg.free; omega
set_option maxRecDepth 100000 in
set_option maxHeartbeats 4000000 in
theorem ringCuts_walk (W w : World) (L : List HP) (hs : Sat W w L) (hold : old W ∈ L) (v : Value) (l : List RDeed) (h : rdeedsAt v l (hp W)) (to : UInt8) :
    Calls Try.prog 11 #[v, .int .u8 to.toNat] w fun e w' => e = .returned (.bool true) ∧ Sat W w' L := by
  by_cases hsm : Small l
  · have hF := Box.mk ((fewB_iff l).2 hsm)
    have hI := rgRun_inv l hsm l.length (Nat.le_refl _)
    rw [List.take_length] at hI
    obtain ⟨A, cap, rfl, _, _, _⟩ := rdeeds_form h
    have hto := to.toNat_lt
    obtain ⟨⟨R, rl⟩, hst⟩ : ∃ st, rgRun l = st := ⟨_, rfl⟩
    rw [hst] at hI
    obtain ⟨ok, hf1, hf2, hf3, hf4, hrow, hcnt, hnxt⟩ := hI
    simp only at ok hf2
    have hst := Box.mk hst
    obtain ⟨wl, hwl, c1, c2, c3, c4, c5, c6⟩ := cut_told ok to.toNat
    have htop := ok.top
    have hlo := ok.lo
    have hC := Box.mk (And.intro c1 c2)
    have okc := Rg.cut_ok ok to.toNat
    have hw1 : IntKind.u32.wrap (to.toNat : Int) = (to.toNat : Int) := by rw [IntKind.wrap_u32]; omega
    have hw2 : IntKind.u32.wrap ((wl : Int) - (R.low : Int)) = ((wl - R.low : Nat) : Int) := by rw [IntKind.wrap_u32]; omega
    have hw3 : IntKind.i64.wrap ((wl - R.low : Nat) : Int) = ((wl - R.low : Nat) : Int) := by rw [IntKind.wrap_i64]; omega
    have hw4 : IntKind.i64.wrap ((R.free : Int) + ((wl - R.low : Nat) : Int)) = (((R.cut to.toNat).free : Nat) : Int) := by rw [c5, IntKind.wrap_i64]; omega
    generalize hRc0 : R.cut to.toNat = R' at hC okc hw4 c1 c2 c5 c6
    have hRc := Box.mk hRc0
    clear hRc0 c1 c2
    have hfI : ∀ x : Nat, x = R'.free → ((x : Int) == (x : Int)) = true := fun x _ => by simp
    clear hfI
    rcases hwl with ⟨g1, g2, rfl⟩ | ⟨g, rfl⟩
    · have g1I : (R.low : Int) < (to.toNat : Int) := by omega
      have g2I : (to.toNat : Int) ≤ (R.next : Int) := by omega
      go_enter Try.func11, Try.ntmps11
      go_wp2_with (first
        | (go_at_call 23; go_must (refine (awake6_spec W _ _ hs).mono ?_); clear hs; rintro e w1 ⟨rfl, hs⟩)
        | (go_at_call 32; go_must (refine (rfew_spec W _ _ hs hold _ l h).mono ?_); clear hs; rintro e w1 ⟨rfl, hs⟩; rw [hF.out])
        | (go_at_call 33; go_must (refine (rgrun_spec W _ _ hs hold _ l h hsm).mono ?_); clear hs; rintro e w1 ⟨b, br, v9, v10, rfl, hs⟩; rw [hst.out] at hs; dsimp only at hs
           obtain ⟨A9, c9, rfl, _, _⟩ := own_slice hs (i := 2) rfl
           obtain ⟨A10, c10, rfl, _, _⟩ := own_slice hs (i := 3) rfl)
        | (have hh := mark1; clear hh; go_at_call 28; go_must (refine (rlow_spec W _ _ hs br b R' (by (try dsimp only [List.set]); repeat (first | with_reducible exact List.mem_cons_self | with_reducible apply List.mem_cons_of_mem))).mono ?_); clear hs; rintro e w1 ⟨rfl, hs⟩; rw [hC.out.1])
        | (have hh := mark1; clear hh; go_at_call 29; go_must (refine (rnext_spec W _ _ hs br b R' (by (try dsimp only [List.set]); repeat (first | with_reducible exact List.mem_cons_self | with_reducible apply List.mem_cons_of_mem))).mono ?_); clear hs; rintro e w1 ⟨rfl, hs⟩; rw [hC.out.2])
        | (have hh := mark1; clear hh; go_at_call 30; go_must (refine (rfree_spec W _ _ hs br b R' okc (by (try dsimp only [List.set]); repeat (first | with_reducible exact List.mem_cons_self | with_reducible apply List.mem_cons_of_mem))).mono ?_); clear hs; rintro e w1 ⟨rfl, hs⟩)
        | (go_at_call 28; go_must (refine (rlow_spec W _ _ hs br b R (by (try dsimp only [List.set]); repeat (first | with_reducible exact List.mem_cons_self | with_reducible apply List.mem_cons_of_mem))).mono ?_); clear hs; rintro e w1 ⟨rfl, hs⟩)
        | (go_at_call 29; go_must (refine (rnext_spec W _ _ hs br b R (by (try dsimp only [List.set]); repeat (first | with_reducible exact List.mem_cons_self | with_reducible apply List.mem_cons_of_mem))).mono ?_); clear hs; rintro e w1 ⟨rfl, hs⟩)
        | (go_at_call 30; go_must (refine (rfree_spec W _ _ hs br b R ok (by (try dsimp only [List.set]); repeat (first | with_reducible exact List.mem_cons_self | with_reducible apply List.mem_cons_of_mem))).mono ?_); clear hs; rintro e w1 ⟨rfl, hs⟩)
        | (go_at_call 25; go_must (refine (truncate_spec W _ _ br b R (hs.pick (A := rg br b R) (by repeat (first | with_reducible exact Pick.here | with_reducible apply Pick.there))) to.toNat).mono ?_); clear hs; rintro e w1 ⟨⟨_, rfl⟩, hs⟩; rw [hRc.out] at hs; have mark1 := trivial))
      go_ret
      exact ⟨rfl, hs.pack (by repeat (first | with_reducible exact Pack.refl | with_reducible exact Pack.nil | with_reducible refine Pack.cons (by repeat (first | with_reducible exact Pick.here | with_reducible apply Pick.there)) ?_ | with_reducible apply Pack.drop))⟩
    · by_cases g1 : R.low < to.toNat
      · have g1I : (R.low : Int) < (to.toNat : Int) := by omega
        have g2I : ¬ (to.toNat : Int) ≤ (R.next : Int) := by omega
        go_enter Try.func11, Try.ntmps11
        go_wp2_with (first
          | (go_at_call 23; go_must (refine (awake6_spec W _ _ hs).mono ?_); clear hs; rintro e w1 ⟨rfl, hs⟩)
          | (go_at_call 32; go_must (refine (rfew_spec W _ _ hs hold _ l h).mono ?_); clear hs; rintro e w1 ⟨rfl, hs⟩; rw [hF.out])
          | (go_at_call 33; go_must (refine (rgrun_spec W _ _ hs hold _ l h hsm).mono ?_); clear hs; rintro e w1 ⟨b, br, v9, v10, rfl, hs⟩; rw [hst.out] at hs; dsimp only at hs
             obtain ⟨A9, c9, rfl, _, _⟩ := own_slice hs (i := 2) rfl
             obtain ⟨A10, c10, rfl, _, _⟩ := own_slice hs (i := 3) rfl)
          | (have hh := mark1; clear hh; go_at_call 28; go_must (refine (rlow_spec W _ _ hs br b R' (by (try dsimp only [List.set]); repeat (first | with_reducible exact List.mem_cons_self | with_reducible apply List.mem_cons_of_mem))).mono ?_); clear hs; rintro e w1 ⟨rfl, hs⟩; rw [hC.out.1])
          | (have hh := mark1; clear hh; go_at_call 29; go_must (refine (rnext_spec W _ _ hs br b R' (by (try dsimp only [List.set]); repeat (first | with_reducible exact List.mem_cons_self | with_reducible apply List.mem_cons_of_mem))).mono ?_); clear hs; rintro e w1 ⟨rfl, hs⟩; rw [hC.out.2])
          | (have hh := mark1; clear hh; go_at_call 30; go_must (refine (rfree_spec W _ _ hs br b R' okc (by (try dsimp only [List.set]); repeat (first | with_reducible exact List.mem_cons_self | with_reducible apply List.mem_cons_of_mem))).mono ?_); clear hs; rintro e w1 ⟨rfl, hs⟩)
          | (go_at_call 28; go_must (refine (rlow_spec W _ _ hs br b R (by (try dsimp only [List.set]); repeat (first | with_reducible exact List.mem_cons_self | with_reducible apply List.mem_cons_of_mem))).mono ?_); clear hs; rintro e w1 ⟨rfl, hs⟩)
          | (go_at_call 29; go_must (refine (rnext_spec W _ _ hs br b R (by (try dsimp only [List.set]); repeat (first | with_reducible exact List.mem_cons_self | with_reducible apply List.mem_cons_of_mem))).mono ?_); clear hs; rintro e w1 ⟨rfl, hs⟩)
          | (go_at_call 30; go_must (refine (rfree_spec W _ _ hs br b R ok (by (try dsimp only [List.set]); repeat (first | with_reducible exact List.mem_cons_self | with_reducible apply List.mem_cons_of_mem))).mono ?_); clear hs; rintro e w1 ⟨rfl, hs⟩)
          | (go_at_call 25; go_must (refine (truncate_spec W _ _ br b R (hs.pick (A := rg br b R) (by repeat (first | with_reducible exact Pick.here | with_reducible apply Pick.there))) to.toNat).mono ?_); clear hs; rintro e w1 ⟨⟨_, rfl⟩, hs⟩; rw [hRc.out] at hs; have mark1 := trivial))
        go_ret
        exact ⟨rfl, hs.pack (by repeat (first | with_reducible exact Pack.refl | with_reducible exact Pack.nil | with_reducible refine Pack.cons (by repeat (first | with_reducible exact Pick.here | with_reducible apply Pick.there)) ?_ | with_reducible apply Pack.drop))⟩
      · have g1I : ¬ (R.low : Int) < (to.toNat : Int) := by omega
        go_enter Try.func11, Try.ntmps11
        go_wp2_with (first
          | (go_at_call 23; go_must (refine (awake6_spec W _ _ hs).mono ?_); clear hs; rintro e w1 ⟨rfl, hs⟩)
          | (go_at_call 32; go_must (refine (rfew_spec W _ _ hs hold _ l h).mono ?_); clear hs; rintro e w1 ⟨rfl, hs⟩; rw [hF.out])
          | (go_at_call 33; go_must (refine (rgrun_spec W _ _ hs hold _ l h hsm).mono ?_); clear hs; rintro e w1 ⟨b, br, v9, v10, rfl, hs⟩; rw [hst.out] at hs; dsimp only at hs
             obtain ⟨A9, c9, rfl, _, _⟩ := own_slice hs (i := 2) rfl
             obtain ⟨A10, c10, rfl, _, _⟩ := own_slice hs (i := 3) rfl)
          | (have hh := mark1; clear hh; go_at_call 28; go_must (refine (rlow_spec W _ _ hs br b R' (by (try dsimp only [List.set]); repeat (first | with_reducible exact List.mem_cons_self | with_reducible apply List.mem_cons_of_mem))).mono ?_); clear hs; rintro e w1 ⟨rfl, hs⟩; rw [hC.out.1])
          | (have hh := mark1; clear hh; go_at_call 29; go_must (refine (rnext_spec W _ _ hs br b R' (by (try dsimp only [List.set]); repeat (first | with_reducible exact List.mem_cons_self | with_reducible apply List.mem_cons_of_mem))).mono ?_); clear hs; rintro e w1 ⟨rfl, hs⟩; rw [hC.out.2])
          | (have hh := mark1; clear hh; go_at_call 30; go_must (refine (rfree_spec W _ _ hs br b R' okc (by (try dsimp only [List.set]); repeat (first | with_reducible exact List.mem_cons_self | with_reducible apply List.mem_cons_of_mem))).mono ?_); clear hs; rintro e w1 ⟨rfl, hs⟩)
          | (go_at_call 28; go_must (refine (rlow_spec W _ _ hs br b R (by (try dsimp only [List.set]); repeat (first | with_reducible exact List.mem_cons_self | with_reducible apply List.mem_cons_of_mem))).mono ?_); clear hs; rintro e w1 ⟨rfl, hs⟩)
          | (go_at_call 29; go_must (refine (rnext_spec W _ _ hs br b R (by (try dsimp only [List.set]); repeat (first | with_reducible exact List.mem_cons_self | with_reducible apply List.mem_cons_of_mem))).mono ?_); clear hs; rintro e w1 ⟨rfl, hs⟩)
          | (go_at_call 30; go_must (refine (rfree_spec W _ _ hs br b R ok (by (try dsimp only [List.set]); repeat (first | with_reducible exact List.mem_cons_self | with_reducible apply List.mem_cons_of_mem))).mono ?_); clear hs; rintro e w1 ⟨rfl, hs⟩)
          | (go_at_call 25; go_must (refine (truncate_spec W _ _ br b R (hs.pick (A := rg br b R) (by repeat (first | with_reducible exact Pick.here | with_reducible apply Pick.there))) to.toNat).mono ?_); clear hs; rintro e w1 ⟨⟨_, rfl⟩, hs⟩; rw [hRc.out] at hs; have mark1 := trivial))
        go_ret
        exact ⟨rfl, hs.pack (by repeat (first | with_reducible exact Pack.refl | with_reducible exact Pack.nil | with_reducible refine Pack.cons (by repeat (first | with_reducible exact Pick.here | with_reducible apply Pick.there)) ?_ | with_reducible apply Pack.drop))⟩
  · have hF := Box.mk (fewB_no hsm)
    obtain ⟨A, cap, rfl, _, _, _⟩ := rdeeds_form h
    go_enter Try.func11, Try.ntmps11
    go_wp2_with (first
      | (go_at_call 23; go_must (refine (awake6_spec W _ _ hs).mono ?_); clear hs; rintro e w1 ⟨rfl, hs⟩)
      | (go_at_call 32; go_must (refine (rfew_spec W _ _ hs hold _ l h).mono ?_); clear hs; rintro e w1 ⟨rfl, hs⟩; rw [hF.out]))
    go_ret
    exact ⟨rfl, hs⟩
theorem ringCuts_main (W : World) (l : List RDeed) (v : Value) (h0 : (Kin.slice 40 rdeedKin).K (hp W) l [v]) (to : UInt8) (v1 : Value) (h1 : Kin.u8.K (hp W) to [v1]) :
    Calls Try.prog 11 #[v, v1] W fun e w' => e = .returned (.bool true) ∧ Below W.heap.size W w' := by
  cases h1
  exact (ringCuts_walk W W _ (Sat.start W) m0 v l h0 to).mono fun e w' ⟨he, hs⟩ => ⟨he, hs.end_ m0⟩
end Go.Proofs.Ytoedmjibhpajjaa
