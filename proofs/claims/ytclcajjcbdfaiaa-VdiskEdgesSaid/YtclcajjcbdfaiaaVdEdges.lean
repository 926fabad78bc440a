/- The walk of the law VdiskEdges. -/
import Derived.Test.YtclcajjcbdfaiaaVdW
set_option linter.unusedVariables false
set_option linter.unusedSimpArgs false
namespace Go.Proofs.Ytclcajjcbdfaiaa
open Go.RowKit
theorem read_write (D : Dk) (i : Nat) (l : List UInt8) : (D.write i l).read i = pad l := by simp [Dk.read, Dk.write, List.foldl_append]
theorem pad_full {l : List UInt8} (h : l.length = 64) : pad l = l := by simp [pad, h]
set_option maxRecDepth 100000 in
set_option maxHeartbeats 4000000 in
theorem vdiskEdges_walk (W w : World) (L : List HP) (hs : Sat W w L) (n : Nat) (hn : n < 256) (bs : List UInt8) (hb : bs.length = 65) :
    Calls Try.prog 14 #[.int .u8 n, .agg (u8s bs).toArray] w fun e w' => e = .returned (.bool true) ∧ Sat W w' L := by
  have HB := Box.mk hb
  clear hb
  have h8 : Box ((Dk.new 8).secs.length = 8 ∧ (Dk.new 8).row.length = 0) := ⟨by simp [Dk.new], rfl⟩
  have hn1 : (0 : Int) ≤ n := by omega
  have hn2 : (n : Int) ≤ 255 := by omega
  have hpad : Box (((Dk.new 8).write 0 (bs.take 64)).rbytes 0 = bs.take 64) := ⟨by rw [show (0 : Int) = ((0 : Nat) : Int) from rfl, rbytes_in (by simp [Dk.new]), read_write, pad_full (by have := HB.out; simp; omega)]⟩
  obtain ⟨D, hD⟩ : ∃ D, Dk.new 8 = D := ⟨_, rfl⟩
  rw [hD] at h8 hpad
  have hc1 : Box (D.wcode 0 bs = 1) := ⟨by rw [← hD]; have := HB.out; simp [Dk.wcode, Dk.out, Dk.new]; omega⟩
  have hn1' : Box (D.wnext 0 bs = D) := ⟨by simp [Dk.wnext, hc1.out]⟩
  have hc2 : Box (D.wcode 0 (bs.take 64) = 0) := ⟨by rw [← hD]; simp [Dk.wcode, Dk.out, Dk.new]; omega⟩
  have hn2' : Box (D.wnext 0 (bs.take 64) = D.write 0 (bs.take 64)) := ⟨by simp [Dk.wnext, hc2.out]⟩
  have hc3 : Box ((D.write 0 (bs.take 64)).rcode 0 = 0) := ⟨by rw [← hD]; simp [Dk.rcode, Dk.out, Dk.new]⟩
  go_enter Try.func14, Try.ntmps14
  go_wp2_with (first
    | (refine wpl (o := ⟨some 3, .box _ _, _, _, _, _⟩) rfl fun K hK => ?_; go_must (refine op_box hs rfl _ rfl (u8s bs) rfl fun b3 w1 h => hK _ _ ?_); clear hs hK K; have hs := h; clear h; try dsimp only [List.set] at hs)
    | (go_at_call 22; go_must (refine (vawake_spec W _ _ hs).mono ?_); clear hs; rintro e w1 ⟨rfl, hs⟩)
    | (go_at_call 30; go_must (refine (new_spec W _ _ hs 8 (by omega) (by omega)).mono ?_); clear hs; rintro e w1 ⟨b1, rfl, hs⟩
       rw [hD] at hs)
    | (go_at_call 25; with_reducible refine (write_bound W _ _ b1 D hs _ (.inr (by have := h8.out.1; omega)) _).mono ?_; clear hs; rintro e w1 ⟨rfl, hs⟩)
    | (go_at_call 28; with_reducible refine (read_bound W _ _ b1 D hs _ (.inl (by omega))).mono ?_; clear hs; rintro e w1 ⟨rfl, hs⟩)
    | (go_at_call 25; with_reducible refine (write_any W _ _ b1 D hs 0 (.slice (some ⟨b3, 0, none⟩) 65 65) bs (lit_bytes 0 rfl 65 HB.out (by omega)) (by have := h8.out.2; omega)).mono ?_; clear hs; rintro e w1 ⟨rfl, hs⟩; rw [hc1.out]; rw [hn1'.out] at hs)
    | (go_at_call 25; with_reducible refine (write_any W _ _ b1 D hs 0 (.slice (some ⟨b3, 0, none⟩) 64 65) (bs.take 64) ((lit_bytes 0 rfl 65 HB.out (by omega)).imp fun F h => bytes_take h 64 (by have := HB.out; omega)) (by have := h8.out.2; omega)).mono ?_; clear hs; rintro e w1 ⟨rfl, hs⟩; rw [hc2.out]; rw [hn2'.out] at hs)
    | (go_at_call 28; with_reducible refine (read_any W _ _ b1 (D.write 0 (bs.take 64)) hs 0 (by have := h8.out.2; simp [Dk.write]; omega)).mono ?_; clear hs; rintro e w1 ⟨v2, rfl, hs⟩; rw [hc3.out]; rw [hpad.out] at hs
       obtain ⟨b2, o2, c2, rfl, _, _⟩ := bytesH_form hs 0 rfl (n := 64) (by have := HB.out; simp; omega) (by omega))
    | (go_at_call 28; with_reducible refine (read_nil W _ _ hs _).mono ?_; clear hs; rintro e w1 ⟨rfl, hs⟩)
    | (go_at_call 26; with_reducible refine (sync_nil W _ _ hs).mono ?_; clear hs; rintro e w1 ⟨rfl, hs⟩)
    | (go_at_call 27; with_reducible refine (crash_nil W _ _ hs _).mono ?_; clear hs; rintro e w1 ⟨rfl, hs⟩))
  obtain ⟨M, hM, hs⟩ : ∃ M, M = _ ∧ Sat W _ M := ⟨_, rfl, hs⟩
  have oW : ∀ w, Sat W w M → Calls Try.prog 25 #[.pointer none, .int .i64 0, .slice none 0 0] w fun e w' => e = .returned (.int .i64 11) ∧ Sat W w' M := fun w h => write_nil W w _ h 0 _
  have oL : ∀ w, Sat W w M → Calls Try.prog 35 #[.pointer none] w fun e w' => e = .returned (.int .i64 0) ∧ Sat W w' M := fun w h => len_nil W w _ h
  have oP : ∀ w, Sat W w M → Calls Try.prog 33 #[.pointer none] w fun e w' => e = .returned (.int .i64 0) ∧ Sat W w' M := fun w h => pending_nil W w _ h
  have oC : ∀ w, Sat W w M → Calls Try.prog 36 #[.pointer none] w fun e w' => e = .returned (.pointer none) ∧ Sat W w' M := fun w h => copy_nil W w _ h
  have c79 : ∀ w, Sat W w M → bytesAt (.slice (some ⟨b2, o2, none⟩) 64 c2) (bs.take 64) (hp w) := by rw [hM]; exact fun w h => h.bytes (bytesH_has 0 rfl)
  have c81 : ∀ w, Sat W w M → bytesAt (.slice (some ⟨b3, 0, none⟩) 64 65) (bs.take 64) (hp w) := by rw [hM]; exact fun w h => h.bytes ((lit_bytes 2 rfl 65 HB.out (by omega)).imp fun F h => bytes_take h 64 (by have := HB.out; omega))
  have oW_ := Box.mk oW
  clear oW
  have oW := oW_
  clear oW_
  have oL_ := Box.mk oL
  clear oL
  have oL := oL_
  clear oL_
  have oP_ := Box.mk oP
  clear oP
  have oP := oP_
  clear oP_
  have oC_ := Box.mk oC
  clear oC
  have oC := oC_
  clear oC_
  have hM_ := Box.mk hM
  clear hM
  have hM := hM_
  clear hM_
  refine wp_region_quiet (C := fun w' => Sat W w' M) (by kernel_rfl) (by kernel_rfl) hs.drew ?_
  have hq := sat_const hs
  repeat (first
    | ((with_reducible refine quiet_str (o := ⟨some 79, .convert _ _ _, _, _, _, _⟩) (bs.take 64) ?_ rfl Try.underlying22 Try.underlying5 Try.underlying9 ?_ c79 ?_); (rfl); (rfl))
    | ((with_reducible refine quiet_str (o := ⟨some 81, .convert _ _ _, _, _, _, _⟩) (bs.take 64) ?_ rfl Try.underlying22 Try.underlying5 Try.underlying9 ?_ c81 ?_); (rfl); (rfl))
    | (refine wpQuiet_step (fun K hK => ?_); go_simp; first
        | (with_reducible refine hK _ ?_; clear hK K)
        | (apply Exists.intro; refine ⟨fun w5 h5 => ?_, hK _ ?_⟩; (first | with_reducible exact oW.out w5 h5 | with_reducible exact oL.out w5 h5 | with_reducible exact oP.out w5 h5 | with_reducible exact oC.out w5 h5); clear hK K)))
  refine wpQuiet_nil ?_
  intro w8 hs8
  clear hs
  rw [hM.out] at hs8
  have hs := hs8
  clear hs8
  go_wp2_with fail
  go_ret
  exact ⟨rfl, hs.pack (by repeat (first | with_reducible exact Pack.refl | with_reducible exact Pack.nil | with_reducible refine Pack.cons (by repeat (first | with_reducible exact Pick.here | with_reducible apply Pick.there)) ?_ | with_reducible apply Pack.drop))⟩
theorem vdiskEdges_main (W : World) (x : UInt8) (v0 : Value) (h0 : Kin.u8.K (hp W) x [v0]) (bs : List UInt8) (c1 : List Value) (h1 : (Kin.arr 65 Kin.u8).K (hp W) bs c1) :
    Calls Try.prog 14 #[v0, .agg c1.toArray] W fun e w' => e = .returned (.bool true) ∧ Below W.heap.size W w' := by
  have e1 := rows_u8 h1.2
  subst e1
  cases h0
  exact (vdiskEdges_walk W W _ (Sat.start W) x.toNat x.toNat_lt bs h1.1).mono fun e w' ⟨he, hs⟩ => ⟨he, hs.end_ m0⟩
end Go.Proofs.Ytclcajjcbdfaiaa
