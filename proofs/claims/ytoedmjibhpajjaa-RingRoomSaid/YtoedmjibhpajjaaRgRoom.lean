/- The walk of the law RingRoom. -/
import Derived.Test.YtoedmjibhpajjaaRgRun
import Derived.Test.YtoedmjibhpajjaaRgAwake
set_option linter.unusedVariables false
set_option linter.unusedSimpArgs false
namespace Go.Proofs.Ytoedmjibhpajjaa
open Go.RowKit
set_option maxRecDepth 100000 in
set_option maxHeartbeats 4000000 in
theorem ringRoom_walk (W w : World) (L : List HP) (hs : Sat W w L) (hold : old W ∈ L) (v : Value) (l : List RDeed) (h : rdeedsAt v l (hp W)) (vb : Value) (rec : List UInt8) (hv : Has L (bytesAt vb rec)) :
    Calls Try.prog 10 #[v, vb] w fun e w' => e = .returned (.bool true) ∧ Sat W w' L := by
  obtain ⟨A, cap, rfl, _, _, _⟩ := rdeeds_form h
  obtain ⟨Ab, cb, rfl, _, _⟩ := slice_form (hs.bytes hv)
  by_cases hsm : Small l
  · have hF := Box.mk ((fewB_iff l).2 hsm)
    by_cases hbig : 400 < rec.length
    · have hbigI : (400 : Int) < (rec.length : Int) := by omega
      go_enter Try.func10, Try.ntmps10
      go_wp2_with (first
        | (go_at_call 23; go_must (refine (awake6_spec W _ _ hs).mono ?_); clear hs; rintro e w1 ⟨rfl, hs⟩)
        | (go_at_call 32; go_must (refine (rfew_spec W _ _ hs hold _ l h).mono ?_); clear hs; rintro e w1 ⟨rfl, hs⟩; rw [hF.out]))
      go_ret
      exact ⟨rfl, hs⟩
    have hbigI : ¬ (400 : Int) < (rec.length : Int) := by omega
    have hI := rgRun_inv l hsm l.length (Nat.le_refl _)
    have hlen30 := hsm.1
    rw [List.take_length] at hI
    obtain ⟨⟨R, rl⟩, hst⟩ : ∃ st, rgRun l = st := ⟨_, rfl⟩
    rw [hst] at hI
    obtain ⟨ok, hf1, hf2, hf3, hf4, hrow, hcnt, hnxt⟩ := hI
    simp only at ok hf2 hrow hcnt hnxt
    have hst := Box.mk hst
    have htop := ok.top
    have hlo := ok.lo
    have hfew := ok.few
    have hl5 : rec.length ≤ 100000 := by omega
    have hr8 : R.D.row.length ≤ 800000 := by omega
    have hfree8 : R.free ≤ 8 := by unfold Rg.free; omega
    have hfA : ¬ (R.free : Int) < 0 := by omega
    have hfB : ¬ (8 : Int) < (R.free : Int) := by omega
    obtain ⟨n, hn⟩ : ∃ n, (cuts rec).length = n := ⟨_, rfl⟩
    have hnn : n = max 1 ((rec.length + 49) / 50) := by rw [← hn]; exact cuts_number _ rec (Nat.le_refl _)
    have hdiv : ((rec.length : Int) + 49).tdiv 50 = (((rec.length + 49) / 50 : Nat) : Int) := by
      rw [Int.tdiv_eq_ediv_of_nonneg (by omega)]; push_cast; rfl
    have hn8 : n ≤ 8 := by omega
    have hq : (rec.length + 49) / 50 = n ∨ ((rec.length + 49) / 50 = 0 ∧ n = 1) := by omega
    have okc := Rg.append_ok ok rec
    have hw1 : IntKind.u32.wrap (n : Int) = (n : Int) := by rw [IntKind.wrap_u32]; omega
    have hw2 : IntKind.u32.wrap ((R.next : Int) + (n : Int)) = ((R.next + n : Nat) : Int) := by rw [IntKind.wrap_u32]; omega
    have hnn2 := Box.mk hnn
    clear hnn
    have hmax : (if (1 : Int) < (((rec.length + 49) / 50 : Nat) : Int) then (((rec.length + 49) / 50 : Nat) : Int) else 1) = (n : Int) := by have := hnn2.out; split <;> omega
    generalize (rec.length + 49) / 50 = q at hdiv hmax hq hnn2
    clear hnn2
    by_cases hroom : n ≤ R.free
    · obtain ⟨e1, e2, D', e3, e4, _⟩ := append_room hn hroom (by omega)
      have hroomI : (n : Int) ≤ (R.free : Int) := by omega
      have hN : Box ((R.append rec).next = R.next + n ∧ (R.append rec).free = R.free - n ∧ (R.append rec).D.row.length = R.D.row.length + n) := ⟨by
        rw [e3]
        refine ⟨rfl, ?_, e4⟩
        unfold Rg.free at hroom ⊢
        show R.many - (R.next + n - R.low) = R.many - (R.next - R.low) - n
        omega⟩
      have hCT := Box.mk (And.intro e2 e1)
      generalize hRa0 : R.append rec = R' at hN okc
      have hRa := Box.mk hRa0
      clear hRa0 e1 e2 e3 e4
      have hw3 : IntKind.i64.wrap ((R.free : Int) - (n : Int)) = ((R.free - n : Nat) : Int) := by rw [IntKind.wrap_i64]; omega
      have hw4 : IntKind.i64.wrap ((R.D.row.length : Int) + (n : Int)) = ((R.D.row.length + n : Nat) : Int) := by rw [IntKind.wrap_i64]; omega
      go_enter Try.func10, Try.ntmps10
      go_wp2_with (first
        | (go_at_call 23; go_must (refine (awake6_spec W _ _ hs).mono ?_); clear hs; rintro e w1 ⟨rfl, hs⟩)
        | (go_at_call 32; go_must (refine (rfew_spec W _ _ hs hold _ l h).mono ?_); clear hs; rintro e w1 ⟨rfl, hs⟩; rw [hF.out])
        | (go_at_call 33; go_must (refine (rgrun_spec W _ _ hs hold _ l h hsm).mono ?_); clear hs; rintro e w1 ⟨b, br, v9, v10, rfl, hs⟩; rw [hst.out] at hs; dsimp only at hs
           obtain ⟨A9, c9, rfl, _, _⟩ := own_slice hs (i := 2) rfl
           obtain ⟨A10, c10, rfl, _, _⟩ := own_slice hs (i := 3) rfl)
        | (have hh := mark1; clear hh; go_at_call 29; go_must (refine (rnext_spec W _ _ hs br b R' (by (try dsimp only [List.set]); repeat (first | with_reducible exact List.mem_cons_self | with_reducible apply List.mem_cons_of_mem))).mono ?_); clear hs; rintro e w1 ⟨rfl, hs⟩; rw [hN.out.1])
        | (have hh := mark1; clear hh; go_at_call 30; go_must (refine (rfree_spec W _ _ hs br b R' okc (by (try dsimp only [List.set]); repeat (first | with_reducible exact List.mem_cons_self | with_reducible apply List.mem_cons_of_mem))).mono ?_); clear hs; rintro e w1 ⟨rfl, hs⟩; rw [hN.out.2.1])
        | (have hh := mark1; clear hh; go_at_call 34; go_must (refine (pending_spec W _ _ b R'.D (hs.pick (A := disk b R'.D) (by repeat (first | with_reducible exact Pick.here | with_reducible apply Pick.there)))).mono ?_); clear hs; rintro e w1 ⟨rfl, hs⟩; rw [hN.out.2.2])
        | (go_at_call 29; go_must (refine (rnext_spec W _ _ hs br b R (by (try dsimp only [List.set]); repeat (first | with_reducible exact List.mem_cons_self | with_reducible apply List.mem_cons_of_mem))).mono ?_); clear hs; rintro e w1 ⟨rfl, hs⟩)
        | (go_at_call 30; go_must (refine (rfree_spec W _ _ hs br b R ok (by (try dsimp only [List.set]); repeat (first | with_reducible exact List.mem_cons_self | with_reducible apply List.mem_cons_of_mem))).mono ?_); clear hs; rintro e w1 ⟨rfl, hs⟩)
        | (go_at_call 34; go_must (refine (pending_spec W _ _ b R.D (hs.pick (A := disk b R.D) (by repeat (first | with_reducible exact Pick.here | with_reducible apply Pick.there)))).mono ?_); clear hs; rintro e w1 ⟨rfl, hs⟩)
        | (go_at_call 24; go_must (refine (append_spec W _ _ br b R ok ((hs.pick (A := rg br b R) (by repeat (first | with_reducible exact Pick.here | with_reducible apply Pick.there))).pick (A := disk b R.D) (by repeat (first | with_reducible exact Pick.here | with_reducible apply Pick.there))) _ rec (by (try dsimp only [List.set]); repeat (first | exact hv | apply Has.tail)) hl5 hr8).mono ?_); clear hs; rintro e w1 ⟨rfl, hs⟩; rw [hRa.out] at hs; rw [hCT.out.1, hCT.out.2]; have mark1 := trivial))
      go_ret
      exact ⟨rfl, hs.pack (by repeat (first | with_reducible exact Pack.refl | with_reducible exact Pack.nil | with_reducible refine Pack.cons (by repeat (first | with_reducible exact Pick.here | with_reducible apply Pick.there)) ?_ | with_reducible apply Pack.drop))⟩
    · obtain ⟨e1, e2, e3⟩ := append_full hn (R := R) (by omega)
      have hroomI : ¬ (n : Int) ≤ (R.free : Int) := by omega
      have hN : Box ((R.append rec).next = R.next ∧ (R.append rec).free = R.free ∧ (R.append rec).D.row.length = R.D.row.length) := ⟨by rw [e3]; exact ⟨rfl, rfl, rfl⟩⟩
      have hCT := Box.mk (And.intro e2 e1)
      generalize hRa0 : R.append rec = R' at hN okc
      have hRa := Box.mk hRa0
      clear hRa0 e1 e2 e3
      go_enter Try.func10, Try.ntmps10
      go_wp2_with (first
        | (go_at_call 23; go_must (refine (awake6_spec W _ _ hs).mono ?_); clear hs; rintro e w1 ⟨rfl, hs⟩)
        | (go_at_call 32; go_must (refine (rfew_spec W _ _ hs hold _ l h).mono ?_); clear hs; rintro e w1 ⟨rfl, hs⟩; rw [hF.out])
        | (go_at_call 33; go_must (refine (rgrun_spec W _ _ hs hold _ l h hsm).mono ?_); clear hs; rintro e w1 ⟨b, br, v9, v10, rfl, hs⟩; rw [hst.out] at hs; dsimp only at hs
           obtain ⟨A9, c9, rfl, _, _⟩ := own_slice hs (i := 2) rfl
           obtain ⟨A10, c10, rfl, _, _⟩ := own_slice hs (i := 3) rfl)
        | (have hh := mark1; clear hh; go_at_call 29; go_must (refine (rnext_spec W _ _ hs br b R' (by (try dsimp only [List.set]); repeat (first | with_reducible exact List.mem_cons_self | with_reducible apply List.mem_cons_of_mem))).mono ?_); clear hs; rintro e w1 ⟨rfl, hs⟩; rw [hN.out.1])
        | (have hh := mark1; clear hh; go_at_call 30; go_must (refine (rfree_spec W _ _ hs br b R' okc (by (try dsimp only [List.set]); repeat (first | with_reducible exact List.mem_cons_self | with_reducible apply List.mem_cons_of_mem))).mono ?_); clear hs; rintro e w1 ⟨rfl, hs⟩; rw [hN.out.2.1])
        | (have hh := mark1; clear hh; go_at_call 34; go_must (refine (pending_spec W _ _ b R'.D (hs.pick (A := disk b R'.D) (by repeat (first | with_reducible exact Pick.here | with_reducible apply Pick.there)))).mono ?_); clear hs; rintro e w1 ⟨rfl, hs⟩; rw [hN.out.2.2])
        | (go_at_call 29; go_must (refine (rnext_spec W _ _ hs br b R (by (try dsimp only [List.set]); repeat (first | with_reducible exact List.mem_cons_self | with_reducible apply List.mem_cons_of_mem))).mono ?_); clear hs; rintro e w1 ⟨rfl, hs⟩)
        | (go_at_call 30; go_must (refine (rfree_spec W _ _ hs br b R ok (by (try dsimp only [List.set]); repeat (first | with_reducible exact List.mem_cons_self | with_reducible apply List.mem_cons_of_mem))).mono ?_); clear hs; rintro e w1 ⟨rfl, hs⟩)
        | (go_at_call 34; go_must (refine (pending_spec W _ _ b R.D (hs.pick (A := disk b R.D) (by repeat (first | with_reducible exact Pick.here | with_reducible apply Pick.there)))).mono ?_); clear hs; rintro e w1 ⟨rfl, hs⟩)
        | (go_at_call 24; go_must (refine (append_spec W _ _ br b R ok ((hs.pick (A := rg br b R) (by repeat (first | with_reducible exact Pick.here | with_reducible apply Pick.there))).pick (A := disk b R.D) (by repeat (first | with_reducible exact Pick.here | with_reducible apply Pick.there))) _ rec (by (try dsimp only [List.set]); repeat (first | exact hv | apply Has.tail)) hl5 hr8).mono ?_); clear hs; rintro e w1 ⟨rfl, hs⟩; rw [hRa.out] at hs; rw [hCT.out.1, hCT.out.2]; have mark1 := trivial))
      go_ret
      exact ⟨rfl, hs.pack (by repeat (first | with_reducible exact Pack.refl | with_reducible exact Pack.nil | with_reducible refine Pack.cons (by repeat (first | with_reducible exact Pick.here | with_reducible apply Pick.there)) ?_ | with_reducible apply Pack.drop))⟩
  · have hF := Box.mk (fewB_no hsm)
    go_enter Try.func10, Try.ntmps10
    go_wp2_with (first
      | (go_at_call 23; go_must (refine (awake6_spec W _ _ hs).mono ?_); clear hs; rintro e w1 ⟨rfl, hs⟩)
      | (go_at_call 32; go_must (refine (rfew_spec W _ _ hs hold _ l h).mono ?_); clear hs; rintro e w1 ⟨rfl, hs⟩; rw [hF.out]))
    go_ret
    exact ⟨rfl, hs⟩
theorem ringRoom_main (W : World) (l : List RDeed) (v : Value) (h0 : (Kin.slice 40 rdeedKin).K (hp W) l [v]) (rec : List UInt8) (v1 : Value) (h1 : (Kin.slice 1 Kin.u8).K (hp W) rec [v1]) :
    Calls Try.prog 10 #[v, v1] W fun e w' => e = .returned (.bool true) ∧ Below W.heap.size W w' := by
  exact (ringRoom_walk W W _ (Sat.start W) m0 v l h0 v1 rec ((has_old h1).imp fun F hF => (kin_bytes hF).1)).mono fun e w' ⟨he, hs⟩ => ⟨he, hs.end_ m0⟩
end Go.Proofs.Ytoedmjibhpajjaa
