/- The walk of the law VdiskStays. -/
import Derived.Test.YtclcajjcbdfaiaaVdW
set_option linter.unusedVariables false
set_option linter.unusedSimpArgs false
namespace Go.Proofs.Ytclcajjcbdfaiaa
open Go.RowKit
def staysInv (n b1 b5 : Nat) (bs : List UInt8) (W : World) (L : List HP) (v10 : Value) (wr : World) : Prop := ∃ (k : Nat) (D : Dk), k ≤ n ∧ v10 = .int .i64 k ∧ D.row.length ≤ k ∧ Box (D.Pin 3 (pad bs) ∧ D.secs.length = 8) ∧ Sat W wr (disk b1 D :: row b5 (u8s bs) 34 :: L)
set_option maxRecDepth 100000 in
set_option maxHeartbeats 4000000 in
theorem vdiskStays_walk (W w : World) (L : List HP) (hs : Sat W w L) (hold : old W ∈ L) (v0 : Value) (l : List Deed) (h0 : deedsAt v0 l (hp W)) (v1 : Value) (more : List Deed) (h1 : deedsAt v1 more (hp W)) (bs : List UInt8) (hb : bs.length = 9) :
    Calls Try.prog 9 #[v0, v1, .agg (u8s bs).toArray] w fun e w' => e = .returned (.bool true) ∧ Sat W w' L := by
  obtain ⟨A0, c0, rfl, hl1, hl2, hl3⟩ := deeds_form h0
  obtain ⟨A1, c1, rfl, hm1, hm2, hm3⟩ := deeds_form h1
  have HB := Box.mk hb
  clear hb
  go_enter Try.func9, Try.ntmps9
  go_wp2_with (first
    | (refine wpl (o := ⟨some 5, .box _ _, _, _, _, _⟩) rfl fun K hK => ?_; go_must (refine op_box hs rfl _ rfl (u8s bs) rfl fun b5 w1 h => hK _ _ ?_); clear hs hK K; have hs := h; clear h; try dsimp only [List.set] at hs)
    | (go_at_call 22; go_must (refine (vawake_spec W _ _ hs).mono ?_); clear hs; rintro e w1 ⟨rfl, hs⟩)
    | (go_at_call 23; with_reducible refine (few2_spec W _ _ hs (by repeat (first | exact hold | apply List.mem_cons_of_mem)) _ l h0).mono ?_; clear hs; rintro e w1 (⟨rfl, hs⟩ | ⟨rfl, hf0, hf0b, hs⟩))
    | (go_at_call 23; with_reducible refine (few2_spec W _ _ hs (by repeat (first | exact hold | apply List.mem_cons_of_mem)) _ more h1).mono ?_; clear hs; rintro e w1 (⟨rfl, hs⟩ | ⟨rfl, hf1, hf1b, hs⟩))
    | (go_at_call 24; go_must (refine (run_spec W _ _ hs (by repeat (first | exact hold | apply List.mem_cons_of_mem)) _ l h0 (by omega)).mono ?_); clear hs; rintro e w1 ⟨b1, D0, rfl, ok0, h80, hr0, hs⟩
       have H80 := Box.mk h80; clear h80
       have hwc := wcode_in (D := D0) (i := 3) (l := bs) (by have := H80.out; omega) (by have := HB.out; omega)
       have hpin : Box ((D0.wnext (3 : Nat) bs).sync.Pin 3 (pad bs) ∧ (D0.wnext (3 : Nat) bs).sync.secs.length = 8) := ⟨by rw [wnext_in (by have := H80.out; omega) (by have := HB.out; omega)]; exact Dk.pin_sync (by have := H80.out; omega) bs, by simp [H80.out]⟩
       have hwr := Dk.wnext_row D0 (3 : Nat) bs)
    | (go_at_call 25; go_must (refine (write_any W _ _ b1 D0 hs (3 : Nat) _ bs (lit_bytes 0 rfl 9 HB.out (by omega)) (by omega)).mono ?_); clear hs; rintro e w1 ⟨rfl, hs⟩
       rw [hwc])
    | (go_at_call 26; go_must (refine (sync_spec W _ _ b1 _ hs (by omega)).mono ?_); clear hs; rintro e w1 ⟨rfl, hs⟩))
  · go_ret
    exact ⟨rfl, hs.pack (by repeat (first | with_reducible exact Pack.refl | with_reducible exact Pack.nil | with_reducible refine Pack.cons (by repeat (first | with_reducible exact Pick.here | with_reducible apply Pick.there)) ?_ | with_reducible apply Pack.drop))⟩
  · go_ret
    exact ⟨rfl, hs.pack (by repeat (first | with_reducible exact Pack.refl | with_reducible exact Pack.nil | with_reducible refine Pack.cons (by repeat (first | with_reducible exact Pick.here | with_reducible apply Pick.there)) ?_ | with_reducible apply Pack.drop))⟩
  generalize hD1 : (D0.wnext (3 : Nat) bs).sync = D1 at hs hpin
  go_loopw [10] (fun v10 wr => staysInv more.length b1 b5 bs W L v10 wr) (fun v10 _ => more.length - (intOf v10).toNat)
  case atStart => exact ⟨0, D1, by omega, rfl, by rw [← hD1]; simp, hpin, hs⟩
  case round =>
    clear hs hpin hD1 hwr hwc
    obtain ⟨k, D, hk, rfl, hrow, hpin, hs⟩ := hrel
    by_cases hlt : k < more.length
    · have hltI : (k : Int) < (more.length : Int) := by omega
      obtain ⟨bd, od, cd, vb, vk, e, hrg, hvb, hkp, _⟩ := deeds_old h1 k hlt
      cases e
      have hc0 : W.cell? ⟨bd, od + k * 4, none⟩ = _ := hrg 0 _ rfl
      have hc1 : W.cell? ⟨bd, od + k * 4 + 1, none⟩ = _ := hrg 1 _ rfl
      have hc2 : W.cell? ⟨bd, od + k * 4 + 2, none⟩ = _ := hrg 2 _ rfl
      have hc3 : W.cell? ⟨bd, od + k * 4 + 3, none⟩ = _ := hrg 3 _ rfl
      by_cases hk1 : more[k].kind = 1
      · by_cases hk3 : more[k].at_ = 3
        · go_wp2_with (first
            | (refine wpl (o := ⟨some 42, .load _ _, _, _, _, _⟩) rfl fun K hK => op_load rfl (ad := ⟨bd, od + k * 4, none⟩) rfl (by kernel_rfl) ((hs.oldS (by repeat (first | exact hold | apply List.mem_cons_of_mem))).cell hc0) (hK _ _ ?_); clear hK K)
            | (refine wpl (o := ⟨some 49, .load _ _, _, _, _, _⟩) rfl fun K hK => op_load rfl (ad := ⟨bd, od + k * 4 + 1, none⟩) rfl (by kernel_rfl) ((hs.oldS (by repeat (first | exact hold | apply List.mem_cons_of_mem))).cell hc1) (hK _ _ ?_); clear hK K)
            | (refine wpl (o := ⟨some 68, .load _ _, _, _, _, _⟩) rfl fun K hK => op_load rfl (ad := ⟨bd, od + k * 4, none⟩) rfl (by kernel_rfl) ((hs.oldS (by repeat (first | exact hold | apply List.mem_cons_of_mem))).cell hc0) (hK _ _ ?_); clear hK K))
          exact ⟨⟨k + 1, D, by omega, by go_num, by omega, hpin, hs⟩, by simp [intOf]; omega⟩
        · go_wp2_with (first
            | (refine wpl (o := ⟨some 42, .load _ _, _, _, _, _⟩) rfl fun K hK => op_load rfl (ad := ⟨bd, od + k * 4, none⟩) rfl (by kernel_rfl) ((hs.oldS (by repeat (first | exact hold | apply List.mem_cons_of_mem))).cell hc0) (hK _ _ ?_); clear hK K)
            | (refine wpl (o := ⟨some 49, .load _ _, _, _, _, _⟩) rfl fun K hK => op_load rfl (ad := ⟨bd, od + k * 4 + 1, none⟩) rfl (by kernel_rfl) ((hs.oldS (by repeat (first | exact hold | apply List.mem_cons_of_mem))).cell hc1) (hK _ _ ?_); clear hK K))
          have hS0 := hs.drew.oldS (by repeat (first | exact hold | apply List.mem_cons_of_mem))
          refine wp_region_tree (oldS W) (.take 0 (.take 1 (.take 2 (.take 3 (.take 4 (.take 5 (.take 6 (.take 7 (.take 8 (.take 9 (.take 10 (.all [(11, DTree.done)])))))))))))) (by kernel_rfl) (by kernel_rfl) (by kernel_rfl) (fun _ _ d _ _ h => by cases d <;> exact h) hS0 ?_
          have hs' := hs.drew
          clear hs
          have hs := hs'
          clear hs'
          have hq := fun p : Prop => class_const hS0 p
          repeat (first
            | (with_reducible refine tree_load (o := ⟨some 57, .load _ _, _, _, _, _⟩) rfl rfl rfl rfl rfl (fun w h => h.cell hc1) ?_)
            | (with_reducible refine tree_load (o := ⟨some 62, .load _ _, _, _, _, _⟩) rfl rfl rfl rfl rfl (fun w h => h.cell hc2) ?_)
            | (refine tree_take rfl (fun K hK => ?_); go_simp; with_reducible refine hK _ ?_; clear hK K))
          refine tree_one_yes (o := _) rfl rfl (fun K hK => ?_) (hs.oldS (by repeat (first | exact hold | apply List.mem_cons_of_mem)))
          go_simp
          go_at_call 25
          refine (write_any W _ _ b1 D hs _ vb more[k].b (has_w (by repeat (first | exact hold | apply List.mem_cons_of_mem)) hvb) (by omega)).mono ?_
          clear hs
          rintro e w5 ⟨rfl, hs⟩
          try go_simp
          refine hK _ _ (hs.oldS (by repeat (first | exact hold | apply List.mem_cons_of_mem))) ?_
          clear hK K
          refine tree_done ?_
          go_wp2_with (first
            | (refine wpl (o := ⟨some 68, .load _ _, _, _, _, _⟩) rfl fun K hK => op_load rfl (ad := ⟨bd, od + k * 4, none⟩) rfl (by kernel_rfl) ((hs.oldS (by repeat (first | exact hold | apply List.mem_cons_of_mem))).cell hc0) (hK _ _ ?_); clear hK K))
          have hwr := Dk.wnext_row D more[k].at_ more[k].b
          exact ⟨⟨k + 1, _, by omega, by go_num, by omega, ⟨hpin.out.1.wnext hk3 _, by simp [hpin.out.2]⟩, hs⟩, by simp [intOf]; omega⟩
      · by_cases hk3 : more[k].kind = 3
        · go_wp2_with (first
            | (refine wpl (o := ⟨some 42, .load _ _, _, _, _, _⟩) rfl fun K hK => op_load rfl (ad := ⟨bd, od + k * 4, none⟩) rfl (by kernel_rfl) ((hs.oldS (by repeat (first | exact hold | apply List.mem_cons_of_mem))).cell hc0) (hK _ _ ?_); clear hK K)
            | (refine wpl (o := ⟨some 68, .load _ _, _, _, _, _⟩) rfl fun K hK => op_load rfl (ad := ⟨bd, od + k * 4, none⟩) rfl (by kernel_rfl) ((hs.oldS (by repeat (first | exact hold | apply List.mem_cons_of_mem))).cell hc0) (hK _ _ ?_); clear hK K)
            | (refine wpl (o := ⟨some 75, .load _ _, _, _, _, _⟩) rfl fun K hK => op_load rfl (ad := ⟨bd, od + k * 4 + 3, none⟩) rfl (by kernel_rfl) ((hs.oldS (by repeat (first | exact hold | apply List.mem_cons_of_mem))).cell hc3) (hK _ _ ?_); clear hK K)
            | (go_at_call 27; go_must (refine (crash_spec W _ _ b1 D hs (by omega) _ more[k].keep (has_w (by repeat (first | exact hold | apply List.mem_cons_of_mem)) hkp)).mono ?_); clear hs; rintro e w1 ⟨rfl, hs⟩))
          exact ⟨⟨k + 1, _, by omega, by go_num, by simp, ⟨hpin.out.1.crash _, by simp [hpin.out.2]⟩, hs⟩, by simp [intOf]; omega⟩
        · go_wp2_with (first
            | (refine wpl (o := ⟨some 42, .load _ _, _, _, _, _⟩) rfl fun K hK => op_load rfl (ad := ⟨bd, od + k * 4, none⟩) rfl (by kernel_rfl) ((hs.oldS (by repeat (first | exact hold | apply List.mem_cons_of_mem))).cell hc0) (hK _ _ ?_); clear hK K)
            | (refine wpl (o := ⟨some 68, .load _ _, _, _, _, _⟩) rfl fun K hK => op_load rfl (ad := ⟨bd, od + k * 4, none⟩) rfl (by kernel_rfl) ((hs.oldS (by repeat (first | exact hold | apply List.mem_cons_of_mem))).cell hc0) (hK _ _ ?_); clear hK K))
          exact ⟨⟨k + 1, D, by omega, by go_num, by omega, hpin, hs⟩, by simp [intOf]; omega⟩
    · have hltI : ¬ (k : Int) < (more.length : Int) := by omega
      have hrc := rcode_in (D := D) (i := 3) (by have := hpin.out.2; omega)
      have hrb := rbytes_in (D := D) (i := 3) (by have := hpin.out.2; omega)
      go_wp2_with (first
        | (go_at_call 28; go_must (refine (read_any W _ _ b1 D hs (3 : Nat) (by omega)).mono ?_); clear hs; rintro e w1 ⟨v3, rfl, hs⟩
           rw [hrc]; rw [hrb, hpin.out.1.read] at hs))
      obtain ⟨Ab, cb, rfl, _, _⟩ := slice_form (hs.bytes (bytesH_has 0 rfl))
      obtain ⟨M, hM, hs⟩ : ∃ M, M = _ ∧ Sat W _ M := ⟨_, rfl, hs⟩
      have oF : ∀ w, Sat W w M → Calls Try.prog 29 #[.slice (some ⟨b5, 0, none⟩) 9 9] w fun e w' => e = .returned (.string ⟨(pad bs).toArray⟩) ∧ Sat W w' M := by rw [hM]; exact fun w h => full_spec W w _ h _ bs (lit_bytes 2 rfl 9 HB.out (by omega)) (by have := HB.out; omega)
      have cS : ∀ w, Sat W w M → bytesAt (.slice Ab (pad bs).length cb) (pad bs) (hp w) := by rw [hM]; exact fun w h => h.bytes (bytesH_has 0 rfl)
      have oF_ := Box.mk oF
      clear oF
      have oF := oF_
      clear oF_
      have hM_ := Box.mk hM
      clear hM
      have hM := hM_
      clear hM_
      refine wp_region_quiet (C := fun w' => Sat W w' M) (by kernel_rfl) (by kernel_rfl) hs.drew ?_
      have hq := sat_const hs
      repeat (first
        | ((with_reducible refine quiet_str (o := ⟨some 93, .convert _ _ _, _, _, _, _⟩) (pad bs) ?_ rfl Try.underlying22 Try.underlying5 Try.underlying9 ?_ cS ?_); (rfl); (rfl))
        | (refine wpQuiet_step (fun K hK => ?_); go_simp; first
            | (with_reducible refine hK _ ?_; clear hK K)
            | (apply Exists.intro; refine ⟨fun w5 h5 => ?_, hK _ ?_⟩; (first | with_reducible exact oF.out w5 h5); clear hK K)))
      refine wpQuiet_nil ?_
      intro w8 hs8
      clear hs
      rw [hM.out] at hs8
      have hs := hs8
      clear hs8
      go_wp2_with fail
      go_ret
      exact ⟨rfl, hs.pack (by repeat (first | with_reducible exact Pack.refl | with_reducible exact Pack.nil | with_reducible refine Pack.cons (by repeat (first | with_reducible exact Pick.here | with_reducible apply Pick.there)) ?_ | with_reducible apply Pack.drop))⟩
theorem vdiskStays_main (W : World) (l : List Deed) (v0 : Value) (h0 : (Kin.slice 64 deedKin).K (hp W) l [v0]) (more : List Deed) (v1 : Value) (h1 : (Kin.slice 64 deedKin).K (hp W) more [v1]) (bs : List UInt8) (c2 : List Value) (h2 : (Kin.arr 9 Kin.u8).K (hp W) bs c2) :
    Calls Try.prog 9 #[v0, v1, .agg c2.toArray] W fun e w' => e = .returned (.bool true) ∧ Below W.heap.size W w' := by
  have e2 := rows_u8 h2.2
  subst e2
  exact (vdiskStays_walk W W _ (Sat.start W) m0 v0 l h0 v1 more h1 bs h2.1).mono fun e w' ⟨he, hs⟩ => ⟨he, hs.end_ m0⟩
end Go.Proofs.Ytclcajjcbdfaiaa
