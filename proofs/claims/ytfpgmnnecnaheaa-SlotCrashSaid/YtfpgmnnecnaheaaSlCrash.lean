/- The walk of the law SlotCrash. -/
import Derived.Test.YtfpgmnnecnaheaaSlBackP
import Derived.Test.YtfpgmnnecnaheaaKinB
set_option linter.unusedVariables false
set_option linter.unusedSimpArgs false
namespace Go.Proofs.Ytfpgmnnecnaheaa
open Go.RowKit
def oneC (b i : Nat) (v : Value) (w : World) : Prop := w.cell? ⟨b, i, none⟩ = some v
set_option maxRecDepth 100000 in
set_option maxHeartbeats 8000000 in
theorem slotCrash_walk (W w : World) (L : List HP) (hs : Sat W w L) (hold : old W ∈ L) (v : Value) (l : List (List UInt8)) (h : oldsAt v l (hp W)) (vb : Value) (rec : List UInt8) (hv : Has L (bytesAt vb rec)) (vk : Value) (keep : List Bool) (hkp : Has L (boolsAt vk keep)) :
    Calls Try.prog 4 #[v, vb, vk] w fun e w' => e = .returned (.bool true) ∧ Sat W w' L := by
  obtain ⟨A, cap, rfl, _, _, _⟩ := olds_form h
  obtain ⟨Ab, cb, rfl, _, _⟩ := slice_form (hs.bytes hv)
  obtain ⟨Ae, ce, rfl, _, _⟩ := slice_form (hs.slice hkp)
  by_cases h20 : 20 < l.length
  · have h20I : (20 : Int) < (l.length : Int) := by omega
    go_enter Try.func4, Try.ntmps4
    go_wp2_with (first
      | (go_at_call 15; go_must (refine (awake8_spec W _ _ hs).mono ?_); clear hs; rintro e w1 ⟨rfl, hs⟩)
      | (go_at_call 16; go_must (refine (new_spec W _ _ hs 12 (by omega) (by omega)).mono ?_); clear hs; rintro e w1 ⟨b1, rfl, hs⟩))
    go_ret
    exact ⟨rfl, hs.pack (by repeat (first | with_reducible exact Pack.refl | with_reducible exact Pack.nil | with_reducible refine Pack.cons (by repeat (first | with_reducible exact Pick.here | with_reducible apply Pick.there)) ?_ | with_reducible apply Pack.drop))⟩
  have h20I : ¬ (20 : Int) < (l.length : Int) := by omega
  by_cases hbig : 200 < rec.length
  · have hbigI : (200 : Int) < (rec.length : Int) := by omega
    go_enter Try.func4, Try.ntmps4
    go_wp2_with (first
      | (go_at_call 15; go_must (refine (awake8_spec W _ _ hs).mono ?_); clear hs; rintro e w1 ⟨rfl, hs⟩)
      | (go_at_call 16; go_must (refine (new_spec W _ _ hs 12 (by omega) (by omega)).mono ?_); clear hs; rintro e w1 ⟨b1, rfl, hs⟩))
    go_ret
    exact ⟨rfl, hs.pack (by repeat (first | with_reducible exact Pack.refl | with_reducible exact Pack.nil | with_reducible refine Pack.cons (by repeat (first | with_reducible exact Pick.here | with_reducible apply Pick.there)) ?_ | with_reducible apply Pack.drop))⟩
  have hbigI : ¬ (200 : Int) < (rec.length : Int) := by omega
  have hrec5 : rec.length ≤ 140737488351232 := by omega
  have hcn : Box ((cuts rec).length ≤ 4) := ⟨by rw [cuts_number _ rec (Nat.le_refl _)]; omega⟩
  have B0 : Box (Bk (Dk.new 12) 0 0 []) := ⟨bk_new⟩
  go_enter Try.func4, Try.ntmps4
  go_wp2_with (first
    | (go_at_call 15; go_must (refine (awake8_spec W _ _ hs).mono ?_); clear hs; rintro e w1 ⟨rfl, hs⟩)
    | (go_at_call 16; go_must (refine (new_spec W _ _ hs 12 (by omega) (by omega)).mono ?_); clear hs; rintro e w1 ⟨b1, rfl, hs⟩))
  go_loopw [9, 10, 11] (fun v9 v10 v11 wr => ∃ (k last : Nat) (D : Dk) (od : List UInt8), k ≤ l.length ∧ v11 = .int .i64 (k : Nat) ∧ v9 = .int .u32 (last : Nat) ∧ v10 = (.string ⟨(od).toArray⟩) ∧ Box (Bk D k last od) ∧ Sat W wr (disk b1 D :: L)) (fun _ _ v11 _ => l.length - (intOf v11).toNat)
  case atStart => exact ⟨0, 0, Dk.new 12, [], by omega, rfl, rfl, rfl, B0, hs⟩
  case round =>
    clear hs
    obtain ⟨k, last, D, od, hk, rfl, rfl, rfl, HB, hs⟩ := hrel
    have hlast : last ≤ 20 := by have := HB.out.le; omega
    obtain ⟨kk, hkk⟩ : ∃ kk, last + 1 = kk := ⟨_, rfl⟩
    have hw1 : IntKind.u32.wrap ((last : Int) + 1) = (kk : Int) := by rw [IntKind.wrap_u32]; omega
    have hkk2 : kk < 4294967296 := by omega
    have hne : ¬ (kk : Int) = (last : Int) := by omega
    have hne2 : ¬ (last : Int) = (kk : Int) := by omega
    have HKK := Box.mk hkk
    clear hkk
    by_cases hlt : k < l.length
    · have hm : Box (slMayB D.secs.length ((1 : Nat) : Int) ((4 : Nat) : Int) = true) := ⟨by rw [HB.out.size]; exact may14⟩
      have hrow8 : D.row.length ≤ 800000 := by have := HB.out.row; omega
      have hltI : (k : Int) < (l.length : Int) := by omega
      have hk20 : k < 20 := by omega
      obtain ⟨bd, od', cd, vk2, e, hrg, hbk, hlk⟩ := olds_get (Sat.start W) m0 h k hlt
      cases e
      generalize l[k] = bk at hbk hlk
      obtain ⟨Ak, ck, rfl, _, _⟩ := slice_form (hs.slice (has_w (by (try dsimp only [List.set]); repeat (first | exact hold | apply List.mem_cons_of_mem)) hbk))
      have cS : ∀ w M, Sat W w M → old W ∈ M → oneC bd (od' + k) (.slice Ak bk.length ck) w := fun w M h ho => by
        have := oold_range h ho hrg (by simp) 0 _ rfl
        exact this
      have d50 : ∀ w, oneC bd (od' + k) (.slice Ak bk.length ck) w → w.cell? ⟨bd, od' + k, none⟩ = some (.slice Ak bk.length ck) := fun w h => h
      have hw0 : IntKind.i64.wrap ((k : Int) + 1) = (k : Int) + 1 := by rw [IntKind.wrap_i64]; omega
      by_cases hfit : (cuts bk).length ≤ 4
      · have hcode : Box (slCode D.secs.length ((1 : Nat) : Int) ((4 : Nat) : Int) kk bk = 0) := ⟨by rw [HB.out.size, slCode_cases _ (by have := HKK.out; omega), if_neg (by omega)]⟩
        have hB2 : Box (Bk (slSave D ((1 : Nat) : Int) ((4 : Nat) : Int) kk bk) (k + 1) kk bk) := ⟨by rw [← HKK.out]; exact HB.out.yes hk20 hfit⟩
        go_wp2_with fail
        have hS0 := cS _ _ hs.drew (by (try dsimp only [List.set]); repeat (first | exact hold | apply List.mem_cons_of_mem))
        refine wp_region_tree (oneC bd (od' + k) (.slice Ak bk.length ck)) (.take 0 (.take 2 (.take 3 (.take 4 (.take 5 (.take 6 (.take 7 (.all [(1, .all [(8, .take 9 (DTree.done))])])))))))) (by kernel_rfl) (by kernel_rfl) (by kernel_rfl) (fun _ _ d _ _ h => by cases d <;> exact h) hS0 ?_
        have hs' := hs.drew
        clear hs
        have hs := hs'
        clear hs'
        have hq := fun p : Prop => class_const hS0 p
        clear hS0
        repeat (first
          | (with_reducible refine tree_load (o := ⟨some 50, .load _ _, _, _, _, _⟩) rfl rfl rfl rfl rfl d50 ?_)
          | (refine tree_take rfl (fun K hK => ?_); go_simp; with_reducible refine hK _ ?_; clear hK K))
        refine tree_one_yes (o := _) rfl rfl (fun K hK => ?_) (cS _ _ hs (by (try dsimp only [List.set]); repeat (first | exact hold | apply List.mem_cons_of_mem)))
        try go_simp
        go_at_call 18
        refine (area_spec W _ _ hs).mono ?_
        clear hs
        rintro e w5 ⟨rfl, hs⟩
        try go_simp
        refine hK _ _ (cS _ _ hs (by (try dsimp only [List.set]); repeat (first | exact hold | apply List.mem_cons_of_mem))) ?_
        clear hK K
        refine tree_one_yes (o := _) rfl rfl (fun K hK => ?_) (cS _ _ hs (by (try dsimp only [List.set]); repeat (first | exact hold | apply List.mem_cons_of_mem)))
        try go_simp
        go_at_call 17
        refine (slsave_any W _ _ b1 D (hs.pick (A := disk b1 D) (by repeat (first | with_reducible exact Pick.here | with_reducible apply Pick.there))) 1 4 (by omega) kk hkk2 hm.out _ bk (has_w (by (try dsimp only [List.set]); repeat (first | exact hold | apply List.mem_cons_of_mem)) hbk) hlk hrow8).mono ?_
        clear hs
        rintro e w5 ⟨rfl, hs⟩
        rw [hcode.out]
        try go_simp
        refine hK _ _ (cS _ _ hs (by (try dsimp only [List.set]); repeat (first | exact hold | apply List.mem_cons_of_mem))) ?_
        clear hK K
        repeat (first
          | (with_reducible refine tree_load (o := ⟨some 50, .load _ _, _, _, _, _⟩) rfl rfl rfl rfl rfl d50 ?_)
          | (refine tree_take rfl (fun K hK => ?_); go_simp; with_reducible refine hK _ ?_; clear hK K))
        refine tree_done ?_
        clear hq
        have k58 := d50 _ (cS _ _ hs (by (try dsimp only [List.set]); repeat (first | exact hold | apply List.mem_cons_of_mem)))
        go_wp2_with (first
          | (guard_target = wpList _ _ _ (⟨some 58, .load _ _, _, _, _, _⟩ :: _) _ _; refine wpl (o := ⟨some 58, .load _ _, _, _, _, _⟩) rfl fun K hK => op_load rfl (ad := ⟨bd, od' + k, none⟩) rfl (by kernel_rfl) k58 (hK _ _ ?_); clear hK K)
          | (guard_target = wpList _ _ _ (⟨some 59, .convert _ _ _, _, _, _, _⟩ :: _) _ _; refine wpl (o := ⟨some 59, .convert _ _ _, _, _, _, _⟩) rfl fun K hK => ?_; go_must (refine op_to_string rfl Try.underlying23 Try.underlying5 Try.underlying9 rfl (hs.bytes ((show Has _ (bytesAt _ bk) from has_w (by (try dsimp only [List.set]); repeat (first | exact hold | apply List.mem_cons_of_mem)) hbk))) (hK _ _ ?_)); clear hK K))
        exact ⟨⟨k + 1, kk, _, bk, by omega, by go_num, rfl, rfl, hB2, hs.pack (by repeat (first | with_reducible exact Pack.refl | with_reducible exact Pack.nil | with_reducible refine Pack.cons (by repeat (first | with_reducible exact Pick.here | with_reducible apply Pick.there)) ?_ | with_reducible apply Pack.drop))⟩, by simp only [intOf]; omega⟩
      · have hcode : Box (slCode D.secs.length ((1 : Nat) : Int) ((4 : Nat) : Int) kk bk = 3) := ⟨by rw [HB.out.size, slCode_cases _ (by have := HKK.out; omega), if_pos (by omega)]⟩
        have hB2 : Box (Bk (slSave D ((1 : Nat) : Int) ((4 : Nat) : Int) kk bk) (k + 1) last od) := ⟨by rw [← HKK.out]; exact HB.out.no (by omega)⟩
        go_wp2_with fail
        have hS0 := cS _ _ hs.drew (by (try dsimp only [List.set]); repeat (first | exact hold | apply List.mem_cons_of_mem))
        refine wp_region_tree (oneC bd (od' + k) (.slice Ak bk.length ck)) (.take 0 (.take 2 (.take 3 (.take 4 (.take 5 (.take 6 (.take 7 (.all [(1, .all [(8, .take 9 (DTree.done))])])))))))) (by kernel_rfl) (by kernel_rfl) (by kernel_rfl) (fun _ _ d _ _ h => by cases d <;> exact h) hS0 ?_
        have hs' := hs.drew
        clear hs
        have hs := hs'
        clear hs'
        have hq := fun p : Prop => class_const hS0 p
        clear hS0
        repeat (first
          | (with_reducible refine tree_load (o := ⟨some 50, .load _ _, _, _, _, _⟩) rfl rfl rfl rfl rfl d50 ?_)
          | (refine tree_take rfl (fun K hK => ?_); go_simp; with_reducible refine hK _ ?_; clear hK K))
        refine tree_one_yes (o := _) rfl rfl (fun K hK => ?_) (cS _ _ hs (by (try dsimp only [List.set]); repeat (first | exact hold | apply List.mem_cons_of_mem)))
        try go_simp
        go_at_call 18
        refine (area_spec W _ _ hs).mono ?_
        clear hs
        rintro e w5 ⟨rfl, hs⟩
        try go_simp
        refine hK _ _ (cS _ _ hs (by (try dsimp only [List.set]); repeat (first | exact hold | apply List.mem_cons_of_mem))) ?_
        clear hK K
        refine tree_one_yes (o := _) rfl rfl (fun K hK => ?_) (cS _ _ hs (by (try dsimp only [List.set]); repeat (first | exact hold | apply List.mem_cons_of_mem)))
        try go_simp
        go_at_call 17
        refine (slsave_any W _ _ b1 D (hs.pick (A := disk b1 D) (by repeat (first | with_reducible exact Pick.here | with_reducible apply Pick.there))) 1 4 (by omega) kk hkk2 hm.out _ bk (has_w (by (try dsimp only [List.set]); repeat (first | exact hold | apply List.mem_cons_of_mem)) hbk) hlk hrow8).mono ?_
        clear hs
        rintro e w5 ⟨rfl, hs⟩
        rw [hcode.out]
        try go_simp
        refine hK _ _ (cS _ _ hs (by (try dsimp only [List.set]); repeat (first | exact hold | apply List.mem_cons_of_mem))) ?_
        clear hK K
        repeat (first
          | (with_reducible refine tree_load (o := ⟨some 50, .load _ _, _, _, _, _⟩) rfl rfl rfl rfl rfl d50 ?_)
          | (refine tree_take rfl (fun K hK => ?_); go_simp; with_reducible refine hK _ ?_; clear hK K))
        refine tree_done ?_
        clear hq
        go_wp2_with fail
        exact ⟨⟨k + 1, last, _, od, by omega, by go_num, rfl, rfl, hB2, hs.pack (by repeat (first | with_reducible exact Pack.refl | with_reducible exact Pack.nil | with_reducible refine Pack.cons (by repeat (first | with_reducible exact Pick.here | with_reducible apply Pick.there)) ?_ | with_reducible apply Pack.drop))⟩, by simp only [intOf]; omega⟩
    · have hltI : ¬ (k : Int) < (l.length : Int) := by omega
      have hk20 : k ≤ 20 := by omega
      have hrowD : D.row.length ≤ 1000000 := by have := HB.out.row; omega
      have hzero := Box.mk HB.out.zero
      have HS := Box.mk HB.out.sync
      have hrS0 : D.sync.row = [] := by simp
      generalize hS : D.sync = S at *
      have HSD := Box.mk hS
      clear hS
      have hm : Box (slMayB S.secs.length ((1 : Nat) : Int) ((4 : Nat) : Int) = true) := ⟨by rw [HS.out.size]; exact may14⟩
      have hrow8 : S.row.length ≤ 800000 := by rw [hrS0]; simp
      have hcode : Box (slCode S.secs.length ((1 : Nat) : Int) ((4 : Nat) : Int) kk rec = 0) := ⟨by rw [HS.out.size, slCode_cases _ (by have := HKK.out; omega), if_neg (by have := hcn.out; omega)]⟩
      have hrowE : (slSave S ((1 : Nat) : Int) ((4 : Nat) : Int) kk rec).row.length ≤ 1000000 := by have := save_row4 S kk rec; omega
      have hCr := HS.out.crash hk20 hrS0 hcn.out fun i => keep.getD i false
      rw [HKK.out] at hCr
      have hszE : ((slSave S ((1 : Nat) : Int) ((4 : Nat) : Int) kk rec).crash fun i => keep.getD i false).secs.length = 12 := by simp [save_secs, HS.out.size]
      have hrowR : ((slSave S ((1 : Nat) : Int) ((4 : Nat) : Int) kk rec).crash fun i => keep.getD i false).row.length ≤ 1000000 := by simp
      clear hrS0
      generalize hR : (slSave S ((1 : Nat) : Int) ((4 : Nat) : Int) kk rec).crash (fun i => keep.getD i false) = R at *
      have HR := Box.mk hR
      clear hR
      generalize hE : slSave S ((1 : Nat) : Int) ((4 : Nat) : Int) kk rec = E at *
      have HE := Box.mk hE
      clear hE
      have hmR : Box (slMayB R.secs.length ((1 : Nat) : Int) ((4 : Nat) : Int) = true) := ⟨by rw [hszE]; exact may14⟩
      clear hszE
      dsimp only at hCr
      have hL : (slLoadO (slHas R 1 4 0) (slHas R 1 4 1) = some (kk, rec)) ∨ (last = 0 ∧ slLoadO (slHas R 1 4 0) (slHas R 1 4 1) = none ∧ od = []) ∨ (0 < last ∧ slLoadO (slHas R 1 4 0) (slHas R 1 4 1) = some (last, od)) := by
        rcases hCr with h1 | h1
        · exact .inl h1
        · by_cases h0 : last = 0
          · rw [if_pos h0] at h1; exact .inr (.inl ⟨h0, h1, hzero.out h0⟩)
          · rw [if_neg h0] at h1; exact .inr (.inr ⟨by omega, h1⟩)
      clear hCr
      rcases hL with hL | ⟨h0, hL, rfl⟩ | ⟨h0, hL⟩
      · have HL := Box.mk hL
        clear hL
        go_wp2_with (first
          | (go_at_call 20; go_must (refine (sync_spec W _ _ b1 D (hs.pick (A := disk b1 D) (by repeat (first | with_reducible exact Pick.here | with_reducible apply Pick.there))) hrowD).mono ?_); clear hs; rintro e w1 ⟨rfl, hs⟩; rw [HSD.out] at hs)
          | (go_at_call 18; go_must (refine (area_spec W _ _ hs).mono ?_); clear hs; rintro e w1 ⟨rfl, hs⟩)
          | (go_at_call 17; go_must (refine (slsave_any W _ _ b1 S (hs.pick (A := disk b1 S) (by repeat (first | with_reducible exact Pick.here | with_reducible apply Pick.there))) 1 4 (by omega) kk hkk2 hm.out _ rec (show Has _ (bytesAt _ rec) from (by (try dsimp only [List.set]); repeat (first | exact hv | apply Has.tail))) hrec5 hrow8).mono ?_); clear hs; rintro e w1 ⟨rfl, hs⟩; rw [hcode.out]; rw [HE.out] at hs)
          | (go_at_call 21; go_must (refine (crash_spec W _ _ b1 E (hs.pick (A := disk b1 E) (by repeat (first | with_reducible exact Pick.here | with_reducible apply Pick.there))) hrowE _ keep (show Has _ (boolsAt _ keep) from (by (try dsimp only [List.set]); repeat (first | exact hkp | apply Has.tail)))).mono ?_); clear hs; rintro e w1 ⟨rfl, hs⟩; rw [HR.out] at hs)
          | (go_at_call 19; go_must (refine (slload_spec W _ _ b1 R (hs.pick (A := disk b1 R) (by repeat (first | with_reducible exact Pick.here | with_reducible apply Pick.there))) 1 4 hmR.out hrowR).mono ?_); clear hs; rintro e w1 ⟨v9, rfl, hs⟩; rw [HL.out] at hs ⊢; rw [show slGen (some (kk, rec)) = kk from rfl]
             obtain ⟨A9, c9, rfl, _, _⟩ := slice_form (hs.bytes (bytesH_has (l := rec) 0 rfl)))
          | (guard_target = wpList _ _ _ (⟨some 87, .convert _ _ _, _, _, _, _⟩ :: _) _ _; refine wpl (o := ⟨some 87, .convert _ _ _, _, _, _, _⟩) rfl fun K hK => ?_; go_must (refine op_to_string rfl Try.underlying23 Try.underlying5 Try.underlying9 rfl (hs.bytes ((show Has _ (bytesAt (.slice A9 rec.length c9) rec) from Has.mem (A := bytesH (.slice A9 rec.length c9) (slBody (some (kk, rec)))) (by (try dsimp only [List.set]); repeat (first | with_reducible exact List.mem_cons_self | with_reducible apply List.mem_cons_of_mem)) fun F hF => hF))) (hK _ _ ?_)); clear hK K)
          | (guard_target = wpList _ _ _ (⟨some 89, .convert _ _ _, _, _, _, _⟩ :: _) _ _; refine wpl (o := ⟨some 89, .convert _ _ _, _, _, _, _⟩) rfl fun K hK => ?_; go_must (refine op_to_string rfl Try.underlying23 Try.underlying5 Try.underlying9 rfl (hs.bytes ((show Has _ (bytesAt _ rec) from (by (try dsimp only [List.set]); repeat (first | exact hv | apply Has.tail))))) (hK _ _ ?_)); clear hK K))
        go_ret
        exact ⟨rfl, hs.pack (by repeat (first | with_reducible exact Pack.refl | with_reducible exact Pack.nil | with_reducible refine Pack.cons (by repeat (first | with_reducible exact Pick.here | with_reducible apply Pick.there)) ?_ | with_reducible apply Pack.drop))⟩
      · have HL : Box (∃ p, slLoadO (slHas R 1 4 0) (slHas R 1 4 1) = p ∧ slGen p = last ∧ slBody p = [] ∧ p.isSome = false) := ⟨_, hL, h0.symm, rfl, rfl⟩
        clear hL
        have hkz : ¬ (0 : Int) < (last : Int) := by omega
        clear h0
        obtain ⟨p, hp, hg, hb, hi⟩ := HL.out
        clear HL
        have HL := Box.mk hp
        have HG := Box.mk hg
        have HB2 := Box.mk hb
        have HI := Box.mk hi
        clear hp hg hb hi
        go_wp2_with (first
          | (go_at_call 20; go_must (refine (sync_spec W _ _ b1 D (hs.pick (A := disk b1 D) (by repeat (first | with_reducible exact Pick.here | with_reducible apply Pick.there))) hrowD).mono ?_); clear hs; rintro e w1 ⟨rfl, hs⟩; rw [HSD.out] at hs)
          | (go_at_call 18; go_must (refine (area_spec W _ _ hs).mono ?_); clear hs; rintro e w1 ⟨rfl, hs⟩)
          | (go_at_call 17; go_must (refine (slsave_any W _ _ b1 S (hs.pick (A := disk b1 S) (by repeat (first | with_reducible exact Pick.here | with_reducible apply Pick.there))) 1 4 (by omega) kk hkk2 hm.out _ rec (show Has _ (bytesAt _ rec) from (by (try dsimp only [List.set]); repeat (first | exact hv | apply Has.tail))) hrec5 hrow8).mono ?_); clear hs; rintro e w1 ⟨rfl, hs⟩; rw [hcode.out]; rw [HE.out] at hs)
          | (go_at_call 21; go_must (refine (crash_spec W _ _ b1 E (hs.pick (A := disk b1 E) (by repeat (first | with_reducible exact Pick.here | with_reducible apply Pick.there))) hrowE _ keep (show Has _ (boolsAt _ keep) from (by (try dsimp only [List.set]); repeat (first | exact hkp | apply Has.tail)))).mono ?_); clear hs; rintro e w1 ⟨rfl, hs⟩; rw [HR.out] at hs)
          | (go_at_call 19; go_must (refine (slload_spec W _ _ b1 R (hs.pick (A := disk b1 R) (by repeat (first | with_reducible exact Pick.here | with_reducible apply Pick.there))) 1 4 hmR.out hrowR).mono ?_); clear hs; rintro e w1 ⟨v9, rfl, hs⟩; rw [HL.out] at hs ⊢; rw [HG.out, HI.out]; rw [HB2.out] at hs
             obtain ⟨A9, c9, rfl, _, _⟩ := slice_form (hs.bytes (bytesH_has (l := []) 0 rfl)))
          | (guard_target = wpList _ _ _ (⟨some 97, .convert _ _ _, _, _, _, _⟩ :: _) _ _; refine wpl (o := ⟨some 97, .convert _ _ _, _, _, _, _⟩) rfl fun K hK => ?_; go_must (refine op_to_string rfl Try.underlying23 Try.underlying5 Try.underlying9 rfl (hs.bytes ((show Has _ (bytesAt (.slice A9 ([] : List UInt8).length c9) []) from Has.mem (A := bytesH (.slice A9 ([] : List UInt8).length c9) []) (by (try dsimp only [List.set]); repeat (first | with_reducible exact List.mem_cons_self | with_reducible apply List.mem_cons_of_mem)) fun F hF => hF))) (hK _ _ ?_)); clear hK K))
        go_ret
        refine ⟨?_, hs.pack (by repeat (first | with_reducible exact Pack.refl | with_reducible exact Pack.nil | with_reducible refine Pack.cons (by repeat (first | with_reducible exact Pick.here | with_reducible apply Pick.there)) ?_ | with_reducible apply Pack.drop))⟩
        show Ending.returned (Value.bool (!decide (0 < last))) = Ending.returned (Value.bool true)
        rw [decide_eq_false (by omega)]
        rfl
      · have HL : Box (∃ p, slLoadO (slHas R 1 4 0) (slHas R 1 4 1) = p ∧ slGen p = last ∧ slBody p = od ∧ p.isSome = true) := ⟨_, hL, rfl, rfl, rfl⟩
        clear hL
        have hkz : (0 : Int) < (last : Int) := by omega
        clear h0
        obtain ⟨p, hp, hg, hb, hi⟩ := HL.out
        clear HL
        have HL := Box.mk hp
        have HG := Box.mk hg
        have HB2 := Box.mk hb
        have HI := Box.mk hi
        clear hp hg hb hi
        go_wp2_with (first
          | (go_at_call 20; go_must (refine (sync_spec W _ _ b1 D (hs.pick (A := disk b1 D) (by repeat (first | with_reducible exact Pick.here | with_reducible apply Pick.there))) hrowD).mono ?_); clear hs; rintro e w1 ⟨rfl, hs⟩; rw [HSD.out] at hs)
          | (go_at_call 18; go_must (refine (area_spec W _ _ hs).mono ?_); clear hs; rintro e w1 ⟨rfl, hs⟩)
          | (go_at_call 17; go_must (refine (slsave_any W _ _ b1 S (hs.pick (A := disk b1 S) (by repeat (first | with_reducible exact Pick.here | with_reducible apply Pick.there))) 1 4 (by omega) kk hkk2 hm.out _ rec (show Has _ (bytesAt _ rec) from (by (try dsimp only [List.set]); repeat (first | exact hv | apply Has.tail))) hrec5 hrow8).mono ?_); clear hs; rintro e w1 ⟨rfl, hs⟩; rw [hcode.out]; rw [HE.out] at hs)
          | (go_at_call 21; go_must (refine (crash_spec W _ _ b1 E (hs.pick (A := disk b1 E) (by repeat (first | with_reducible exact Pick.here | with_reducible apply Pick.there))) hrowE _ keep (show Has _ (boolsAt _ keep) from (by (try dsimp only [List.set]); repeat (first | exact hkp | apply Has.tail)))).mono ?_); clear hs; rintro e w1 ⟨rfl, hs⟩; rw [HR.out] at hs)
          | (go_at_call 19; go_must (refine (slload_spec W _ _ b1 R (hs.pick (A := disk b1 R) (by repeat (first | with_reducible exact Pick.here | with_reducible apply Pick.there))) 1 4 hmR.out hrowR).mono ?_); clear hs; rintro e w1 ⟨v9, rfl, hs⟩; rw [HL.out] at hs ⊢; rw [HG.out, HI.out]; rw [HB2.out] at hs
             obtain ⟨A9, c9, rfl, _, _⟩ := slice_form (hs.bytes (bytesH_has (l := od) 0 rfl)))
          | (guard_target = wpList _ _ _ (⟨some 97, .convert _ _ _, _, _, _, _⟩ :: _) _ _; refine wpl (o := ⟨some 97, .convert _ _ _, _, _, _, _⟩) rfl fun K hK => ?_; go_must (refine op_to_string rfl Try.underlying23 Try.underlying5 Try.underlying9 rfl (hs.bytes ((show Has _ (bytesAt (.slice A9 od.length c9) od) from Has.mem (A := bytesH (.slice A9 od.length c9) od) (by (try dsimp only [List.set]); repeat (first | with_reducible exact List.mem_cons_self | with_reducible apply List.mem_cons_of_mem)) fun F hF => hF))) (hK _ _ ?_)); clear hK K))
        go_ret
        refine ⟨?_, hs.pack (by repeat (first | with_reducible exact Pack.refl | with_reducible exact Pack.nil | with_reducible refine Pack.cons (by repeat (first | with_reducible exact Pick.here | with_reducible apply Pick.there)) ?_ | with_reducible apply Pack.drop))⟩
        show Ending.returned (Value.bool (decide (0 < last))) = Ending.returned (Value.bool true)
        rw [decide_eq_true (by omega)]
theorem slotCrash_main (W : World) (l : List (List UInt8)) (v : Value) (h0 : (Kin.slice 24 (Kin.slice 1 Kin.u8)).K (hp W) l [v]) (l2 : List UInt8) (v2 : Value) (h2 : (Kin.slice 1 Kin.u8).K (hp W) l2 [v2]) (l3 : List Bool) (v3 : Value) (h3 : (Kin.slice 1 Kin.bool).K (hp W) l3 [v3]) :
    Calls Try.prog 4 #[v, v2, v3] W fun e w' => e = .returned (.bool true) ∧ Below W.heap.size W w' :=
  (slotCrash_walk W W _ (Sat.start W) m0 v l h0 v2 l2 ((has_old h2).imp fun F hF => (kin_bytes hF).1) v3 l3 ((has_old h3).imp fun F hF => (kin_bools hF).1)).mono fun e w' ⟨he, hs⟩ => ⟨he, hs.end_ m0⟩
end Go.Proofs.Ytfpgmnnecnaheaa
