/- The walk of the law SlotBack. -/
import Derived.Test.YtfpgmnnecnaheaaSlBackP
set_option linter.unusedVariables false
set_option linter.unusedSimpArgs false
namespace Go.Proofs.Ytfpgmnnecnaheaa
open Go.RowKit
def oneB (b i : Nat) (v : Value) (w : World) : Prop := w.cell? ⟨b, i, none⟩ = some v
set_option maxRecDepth 100000 in
set_option maxHeartbeats 8000000 in
theorem slotBack_walk (W w : World) (L : List HP) (hs : Sat W w L) (hold : old W ∈ L) (v : Value) (l : List (List UInt8)) (h : oldsAt v l (hp W)) (vb : Value) (rec : List UInt8) (hv : Has L (bytesAt vb rec)) :
    Calls Try.prog 3 #[v, vb] w fun e w' => e = .returned (.bool true) ∧ Sat W w' L := by
  obtain ⟨A, cap, rfl, _, _, _⟩ := olds_form h
  obtain ⟨Ab, cb, rfl, _, _⟩ := slice_form (hs.bytes hv)
  by_cases h20 : 20 < l.length
  · have h20I : (20 : Int) < (l.length : Int) := by omega
    go_enter Try.func3, Try.ntmps3
    go_wp2_with (first
      | (go_at_call 15; go_must (refine (awake8_spec W _ _ hs).mono ?_); clear hs; rintro e w1 ⟨rfl, hs⟩)
      | (go_at_call 16; go_must (refine (new_spec W _ _ hs 12 (by omega) (by omega)).mono ?_); clear hs; rintro e w1 ⟨b1, rfl, hs⟩))
    go_ret
    exact ⟨rfl, hs.pack (by repeat (first | with_reducible exact Pack.refl | with_reducible exact Pack.nil | with_reducible refine Pack.cons (by repeat (first | with_reducible exact Pick.here | with_reducible apply Pick.there)) ?_ | with_reducible apply Pack.drop))⟩
  have h20I : ¬ (20 : Int) < (l.length : Int) := by omega
  by_cases hbig : 300 < rec.length
  · have hbigI : (300 : Int) < (rec.length : Int) := by omega
    go_enter Try.func3, Try.ntmps3
    go_wp2_with (first
      | (go_at_call 15; go_must (refine (awake8_spec W _ _ hs).mono ?_); clear hs; rintro e w1 ⟨rfl, hs⟩)
      | (go_at_call 16; go_must (refine (new_spec W _ _ hs 12 (by omega) (by omega)).mono ?_); clear hs; rintro e w1 ⟨b1, rfl, hs⟩))
    go_ret
    exact ⟨rfl, hs.pack (by repeat (first | with_reducible exact Pack.refl | with_reducible exact Pack.nil | with_reducible refine Pack.cons (by repeat (first | with_reducible exact Pick.here | with_reducible apply Pick.there)) ?_ | with_reducible apply Pack.drop))⟩
  have hbigI : ¬ (300 : Int) < (rec.length : Int) := by omega
  have hrec5 : rec.length ≤ 140737488351232 := by omega
  have B0 : Box (Bk (Dk.new 12) 0 0 []) := ⟨bk_new⟩
  go_enter Try.func3, Try.ntmps3
  go_wp2_with (first
    | (go_at_call 15; go_must (refine (awake8_spec W _ _ hs).mono ?_); clear hs; rintro e w1 ⟨rfl, hs⟩)
    | (go_at_call 16; go_must (refine (new_spec W _ _ hs 12 (by omega) (by omega)).mono ?_); clear hs; rintro e w1 ⟨b1, rfl, hs⟩))
  go_loopw [7, 8] (fun v7 v8 wr => ∃ (k last : Nat) (D : Dk) (od : List UInt8), k ≤ l.length ∧ v8 = .int .i64 (k : Nat) ∧ v7 = .int .u32 (last : Nat) ∧ Box (Bk D k last od) ∧ Sat W wr (disk b1 D :: L)) (fun _ v8 _ => l.length - (intOf v8).toNat)
  case atStart => exact ⟨0, 0, Dk.new 12, [], by omega, rfl, rfl, B0, hs⟩
  case round =>
    clear hs
    obtain ⟨k, last, D, od, hk, rfl, rfl, HB, hs⟩ := hrel
    have hm : Box (slMayB D.secs.length ((1 : Nat) : Int) ((4 : Nat) : Int) = true) := ⟨by rw [HB.out.size]; exact may14⟩
    have hrow8 : D.row.length ≤ 800000 := by have := HB.out.row; omega
    have hlast : last ≤ 20 := by have := HB.out.le; omega
    obtain ⟨kk, hkk⟩ : ∃ kk, last + 1 = kk := ⟨_, rfl⟩
    have hw1 : IntKind.u32.wrap ((last : Int) + 1) = (kk : Int) := by rw [IntKind.wrap_u32]; omega
    have hkk2 : kk < 4294967296 := by omega
    have HKK := Box.mk hkk
    clear hkk
    by_cases hlt : k < l.length
    · have hltI : (k : Int) < (l.length : Int) := by omega
      have hk20 : k < 20 := by omega
      obtain ⟨bd, od', cd, vk, e, hrg, hbk, hlk⟩ := olds_get (Sat.start W) m0 h k hlt
      cases e
      generalize l[k] = bk at hbk hlk
      obtain ⟨Ak, ck, rfl, _, _⟩ := slice_form (hs.slice (has_w (by (try dsimp only [List.set]); repeat (first | exact hold | apply List.mem_cons_of_mem)) hbk))
      have cS : ∀ w M, Sat W w M → old W ∈ M → oneB bd (od' + k) (.slice Ak bk.length ck) w := fun w M h ho => by
        have := oold_range h ho hrg (by simp) 0 _ rfl
        exact this
      have d45 : ∀ w, oneB bd (od' + k) (.slice Ak bk.length ck) w → w.cell? ⟨bd, od' + k, none⟩ = some (.slice Ak bk.length ck) := fun w h => h
      have hw0 : IntKind.i64.wrap ((k : Int) + 1) = (k : Int) + 1 := by rw [IntKind.wrap_i64]; omega
      by_cases hfit : (cuts bk).length ≤ 4
      · have hcode : Box (slCode D.secs.length ((1 : Nat) : Int) ((4 : Nat) : Int) kk bk = 0) := ⟨by rw [HB.out.size, slCode_cases _ (by have := HKK.out; omega), if_neg (by omega)]⟩
        have hB2 : Box (Bk (slSave D ((1 : Nat) : Int) ((4 : Nat) : Int) kk bk) (k + 1) kk bk) := ⟨by rw [← HKK.out]; exact HB.out.yes hk20 hfit⟩
        go_wp2_with fail
        have hS0 := cS _ _ hs.drew (by (try dsimp only [List.set]); repeat (first | exact hold | apply List.mem_cons_of_mem))
        refine wp_region_tree (oneB bd (od' + k) (.slice Ak bk.length ck)) (.take 0 (.take 2 (.take 3 (.take 4 (.take 5 (.take 6 (.take 7 (.all [(1, .all [(8, .take 9 (DTree.done))])])))))))) (by kernel_rfl) (by kernel_rfl) (by kernel_rfl) (fun _ _ d _ _ h => by cases d <;> exact h) hS0 ?_
        have hs' := hs.drew
        clear hs
        have hs := hs'
        clear hs'
        have hq := fun p : Prop => class_const hS0 p
        clear hS0
        repeat (first
          | (with_reducible refine tree_load (o := ⟨some 45, .load _ _, _, _, _, _⟩) rfl rfl rfl rfl rfl d45 ?_)
          | (refine tree_take rfl (fun K hK => ?_); go_simp; with_reducible refine hK _ ?_; clear hK K))
        refine tree_one_yes (o := _) rfl rfl (fun K hK => ?_) (cS _ _ hs (by (try dsimp only [List.set]); repeat (first | exact hold | apply List.mem_cons_of_mem)))
        try go_simp
        go_at_call 18
        refine (area_spec W _ _ hs).mono ?_
        clear hs
        rintro e w5 ⟨rfl, hs⟩
        try go_simp
        refine hK _ _ (cS _ _ hs (by (try dsimp only [List.set]); repeat (first | exact hold | apply List.mem_cons_of_mem))) ?_
        clear hK K
        refine tree_one_yes (o := _) rfl rfl (fun K hK => ?_) (cS _ _ hs (by (try dsimp only [List.set]); repeat (first | exact hold | apply List.mem_cons_of_mem)))
        try go_simp
        go_at_call 17
        refine (slsave_any W _ _ b1 D (hs.pick (A := disk b1 D) (by repeat (first | with_reducible exact Pick.here | with_reducible apply Pick.there))) 1 4 (by omega) kk hkk2 hm.out _ bk (has_w (by (try dsimp only [List.set]); repeat (first | exact hold | apply List.mem_cons_of_mem)) hbk) hlk hrow8).mono ?_
        clear hs
        rintro e w5 ⟨rfl, hs⟩
        rw [hcode.out]
        try go_simp
        refine hK _ _ (cS _ _ hs (by (try dsimp only [List.set]); repeat (first | exact hold | apply List.mem_cons_of_mem))) ?_
        clear hK K
        repeat (first
          | (with_reducible refine tree_load (o := ⟨some 45, .load _ _, _, _, _, _⟩) rfl rfl rfl rfl rfl d45 ?_)
          | (refine tree_take rfl (fun K hK => ?_); go_simp; with_reducible refine hK _ ?_; clear hK K))
        refine tree_done ?_
        clear hq
        go_wp2_with fail
        exact ⟨⟨k + 1, kk, _, bk, by omega, by go_num, rfl, hB2, hs.pack (by repeat (first | with_reducible exact Pack.refl | with_reducible exact Pack.nil | with_reducible refine Pack.cons (by repeat (first | with_reducible exact Pick.here | with_reducible apply Pick.there)) ?_ | with_reducible apply Pack.drop))⟩, by simp only [intOf]; omega⟩
      · have hcode : Box (slCode D.secs.length ((1 : Nat) : Int) ((4 : Nat) : Int) kk bk = 3) := ⟨by rw [HB.out.size, slCode_cases _ (by have := HKK.out; omega), if_pos (by omega)]⟩
        have hB2 : Box (Bk (slSave D ((1 : Nat) : Int) ((4 : Nat) : Int) kk bk) (k + 1) last od) := ⟨by rw [← HKK.out]; exact HB.out.no (by omega)⟩
        go_wp2_with fail
        have hS0 := cS _ _ hs.drew (by (try dsimp only [List.set]); repeat (first | exact hold | apply List.mem_cons_of_mem))
        refine wp_region_tree (oneB bd (od' + k) (.slice Ak bk.length ck)) (.take 0 (.take 2 (.take 3 (.take 4 (.take 5 (.take 6 (.take 7 (.all [(1, .all [(8, .take 9 (DTree.done))])])))))))) (by kernel_rfl) (by kernel_rfl) (by kernel_rfl) (fun _ _ d _ _ h => by cases d <;> exact h) hS0 ?_
        have hs' := hs.drew
        clear hs
        have hs := hs'
        clear hs'
        have hq := fun p : Prop => class_const hS0 p
        clear hS0
        repeat (first
          | (with_reducible refine tree_load (o := ⟨some 45, .load _ _, _, _, _, _⟩) rfl rfl rfl rfl rfl d45 ?_)
          | (refine tree_take rfl (fun K hK => ?_); go_simp; with_reducible refine hK _ ?_; clear hK K))
        refine tree_one_yes (o := _) rfl rfl (fun K hK => ?_) (cS _ _ hs (by (try dsimp only [List.set]); repeat (first | exact hold | apply List.mem_cons_of_mem)))
        try go_simp
        go_at_call 18
        refine (area_spec W _ _ hs).mono ?_
        clear hs
        rintro e w5 ⟨rfl, hs⟩
        try go_simp
        refine hK _ _ (cS _ _ hs (by (try dsimp only [List.set]); repeat (first | exact hold | apply List.mem_cons_of_mem))) ?_
        clear hK K
        refine tree_one_yes (o := _) rfl rfl (fun K hK => ?_) (cS _ _ hs (by (try dsimp only [List.set]); repeat (first | exact hold | apply List.mem_cons_of_mem)))
        try go_simp
        go_at_call 17
        refine (slsave_any W _ _ b1 D (hs.pick (A := disk b1 D) (by repeat (first | with_reducible exact Pick.here | with_reducible apply Pick.there))) 1 4 (by omega) kk hkk2 hm.out _ bk (has_w (by (try dsimp only [List.set]); repeat (first | exact hold | apply List.mem_cons_of_mem)) hbk) hlk hrow8).mono ?_
        clear hs
        rintro e w5 ⟨rfl, hs⟩
        rw [hcode.out]
        try go_simp
        refine hK _ _ (cS _ _ hs (by (try dsimp only [List.set]); repeat (first | exact hold | apply List.mem_cons_of_mem))) ?_
        clear hK K
        repeat (first
          | (with_reducible refine tree_load (o := ⟨some 45, .load _ _, _, _, _, _⟩) rfl rfl rfl rfl rfl d45 ?_)
          | (refine tree_take rfl (fun K hK => ?_); go_simp; with_reducible refine hK _ ?_; clear hK K))
        refine tree_done ?_
        clear hq
        go_wp2_with fail
        exact ⟨⟨k + 1, last, _, od, by omega, by go_num, rfl, hB2, hs.pack (by repeat (first | with_reducible exact Pack.refl | with_reducible exact Pack.nil | with_reducible refine Pack.cons (by repeat (first | with_reducible exact Pick.here | with_reducible apply Pick.there)) ?_ | with_reducible apply Pack.drop))⟩, by simp only [intOf]; omega⟩
    · have hltI : ¬ (k : Int) < (l.length : Int) := by omega
      have hk20 : k ≤ 20 := by omega
      by_cases h200 : 200 < rec.length
      · have h200I : (200 : Int) < (rec.length : Int) := by omega
        have hcn : 4 < (cuts rec).length := by rw [cuts_number _ rec (Nat.le_refl _)]; omega
        have hcode : Box (slCode D.secs.length ((1 : Nat) : Int) ((4 : Nat) : Int) kk rec = 3) := ⟨by rw [HB.out.size, slCode_cases _ (by have := HKK.out; omega), if_pos (by omega)]⟩
        have hB2 : Box (Bk (slSave D ((1 : Nat) : Int) ((4 : Nat) : Int) kk rec) (k + 1) last od) := ⟨by rw [← HKK.out]; exact HB.out.no hcn⟩
        generalize hE : slSave D ((1 : Nat) : Int) ((4 : Nat) : Int) kk rec = E at *
        have HE := Box.mk hE
        clear hE hcn
        have hmE : Box (slMayB E.secs.length ((1 : Nat) : Int) ((4 : Nat) : Int) = true) := ⟨by rw [hB2.out.size]; exact may14⟩
        have hrowE : E.row.length ≤ 1000000 := by have := hB2.out.row; omega
        obtain ⟨p, hp⟩ : ∃ p, slLoadO (slHas E 1 4 0) (slHas E 1 4 1) = p := ⟨_, rfl⟩
        have hpv := hB2.out.load
        rw [hp] at hpv
        have HP := Box.mk hp
        clear hp
        have hG : Box (slGen p = last) := ⟨by rw [hpv]; split <;> (first | rfl | (rename_i h; exact h.symm))⟩
        by_cases h0 : last = 0
        · have h0I : ¬ (0 : Int) < (last : Int) := by omega
          have hI : Box (p.isSome = false) := ⟨by rw [hpv, if_pos h0]; rfl⟩
          clear hpv h0
          go_wp2_with (first
            | (go_at_call 18; go_must (refine (area_spec W _ _ hs).mono ?_); clear hs; rintro e w1 ⟨rfl, hs⟩)
            | (go_at_call 17; go_must (refine (slsave_any W _ _ b1 D (hs.pick (A := disk b1 D) (by repeat (first | with_reducible exact Pick.here | with_reducible apply Pick.there))) 1 4 (by omega) kk hkk2 hm.out _ rec (show Has _ (bytesAt _ rec) from (by (try dsimp only [List.set]); repeat (first | exact hv | apply Has.tail))) hrec5 hrow8).mono ?_); clear hs; rintro e w1 ⟨rfl, hs⟩; rw [hcode.out]; rw [HE.out] at hs)
            | (go_at_call 19; go_must (refine (slload_spec W _ _ b1 E (hs.pick (A := disk b1 E) (by repeat (first | with_reducible exact Pick.here | with_reducible apply Pick.there))) 1 4 hmE.out hrowE).mono ?_); clear hs; rintro e w1 ⟨v9, rfl, hs⟩; rw [HP.out] at hs ⊢; rw [hG.out, hI.out]
               obtain ⟨A9, c9, rfl, _, _⟩ := slice_form (hs.bytes (bytesH_has 0 rfl))))
          go_ret
          refine ⟨?_, hs.pack (by repeat (first | with_reducible exact Pack.refl | with_reducible exact Pack.nil | with_reducible refine Pack.cons (by repeat (first | with_reducible exact Pick.here | with_reducible apply Pick.there)) ?_ | with_reducible apply Pack.drop))⟩
          show Ending.returned (Value.bool (!decide (0 < last))) = Ending.returned (Value.bool true)
          rw [decide_eq_false (by omega)]
          rfl
        · have h0I : (0 : Int) < (last : Int) := by omega
          have hI : Box (p.isSome = true) := ⟨by rw [hpv, if_neg h0]; rfl⟩
          clear hpv h0
          go_wp2_with (first
            | (go_at_call 18; go_must (refine (area_spec W _ _ hs).mono ?_); clear hs; rintro e w1 ⟨rfl, hs⟩)
            | (go_at_call 17; go_must (refine (slsave_any W _ _ b1 D (hs.pick (A := disk b1 D) (by repeat (first | with_reducible exact Pick.here | with_reducible apply Pick.there))) 1 4 (by omega) kk hkk2 hm.out _ rec (show Has _ (bytesAt _ rec) from (by (try dsimp only [List.set]); repeat (first | exact hv | apply Has.tail))) hrec5 hrow8).mono ?_); clear hs; rintro e w1 ⟨rfl, hs⟩; rw [hcode.out]; rw [HE.out] at hs)
            | (go_at_call 19; go_must (refine (slload_spec W _ _ b1 E (hs.pick (A := disk b1 E) (by repeat (first | with_reducible exact Pick.here | with_reducible apply Pick.there))) 1 4 hmE.out hrowE).mono ?_); clear hs; rintro e w1 ⟨v9, rfl, hs⟩; rw [HP.out] at hs ⊢; rw [hG.out, hI.out]
               obtain ⟨A9, c9, rfl, _, _⟩ := slice_form (hs.bytes (bytesH_has 0 rfl))))
          go_ret
          refine ⟨?_, hs.pack (by repeat (first | with_reducible exact Pack.refl | with_reducible exact Pack.nil | with_reducible refine Pack.cons (by repeat (first | with_reducible exact Pick.here | with_reducible apply Pick.there)) ?_ | with_reducible apply Pack.drop))⟩
          show Ending.returned (Value.bool (decide (0 < last))) = Ending.returned (Value.bool true)
          rw [decide_eq_true (by omega)]
      · have h200I : ¬ (200 : Int) < (rec.length : Int) := by omega
        have hcn : (cuts rec).length ≤ 4 := by rw [cuts_number _ rec (Nat.le_refl _)]; omega
        have hcode : Box (slCode D.secs.length ((1 : Nat) : Int) ((4 : Nat) : Int) kk rec = 0) := ⟨by rw [HB.out.size, slCode_cases _ (by have := HKK.out; omega), if_neg (by omega)]⟩
        have hE2 : Box ((slSave D ((1 : Nat) : Int) ((4 : Nat) : Int) kk rec).secs.length = 12) := ⟨by rw [save_secs]; exact HB.out.size⟩
        have hrowE : (slSave D ((1 : Nat) : Int) ((4 : Nat) : Int) kk rec).row.length ≤ 1000000 := by have := save_row4 D kk rec; omega
        have hL : Box (slLoadO (slHas (slSave D ((1 : Nat) : Int) ((4 : Nat) : Int) kk rec) 1 4 0) (slHas (slSave D ((1 : Nat) : Int) ((4 : Nat) : Int) kk rec) 1 4 1) = some (kk, rec)) := ⟨by
          have hB := HB.out
          have hkk := HKK.out
          have hle := hB.le
          have h1 : slHas (slSave D ((1 : Nat) : Int) ((4 : Nat) : Int) kk rec) 1 4 (kk % 2) = if kk = 0 then none else some (kk, rec) := by
            rw [if_neg (by omega)]
            exact slHas_save D 1 4 kk (by omega) (by omega) rec hcode.out (by omega)
          have h2 := load_two (D := slSave D ((1 : Nat) : Int) ((4 : Nat) : Int) kk rec) h1 (fun x hx => by
            rw [slHas_other D 1 4 kk _ (by omega) (by omega) rec, show (kk + 1) % 2 = last % 2 by omega, hB.has] at hx
            split at hx
            · cases hx
            · cases hx; show last < kk; omega)
          rw [if_neg (by omega)] at h2
          exact h2⟩
        generalize hE : slSave D ((1 : Nat) : Int) ((4 : Nat) : Int) kk rec = E at *
        have HE := Box.mk hE
        clear hE hcn
        have hmE : Box (slMayB E.secs.length ((1 : Nat) : Int) ((4 : Nat) : Int) = true) := ⟨by rw [hE2.out]; exact may14⟩
        go_wp2_with (first
          | (go_at_call 18; go_must (refine (area_spec W _ _ hs).mono ?_); clear hs; rintro e w1 ⟨rfl, hs⟩)
          | (go_at_call 17; go_must (refine (slsave_any W _ _ b1 D (hs.pick (A := disk b1 D) (by repeat (first | with_reducible exact Pick.here | with_reducible apply Pick.there))) 1 4 (by omega) kk hkk2 hm.out _ rec (show Has _ (bytesAt _ rec) from (by (try dsimp only [List.set]); repeat (first | exact hv | apply Has.tail))) hrec5 hrow8).mono ?_); clear hs; rintro e w1 ⟨rfl, hs⟩; rw [hcode.out]; rw [HE.out] at hs)
          | (go_at_call 19; go_must (refine (slload_spec W _ _ b1 E (hs.pick (A := disk b1 E) (by repeat (first | with_reducible exact Pick.here | with_reducible apply Pick.there))) 1 4 hmE.out hrowE).mono ?_); clear hs; rintro e w1 ⟨v9, rfl, hs⟩; rw [hL.out] at hs ⊢; rw [show slGen (some (kk, rec)) = kk from rfl]
             obtain ⟨A9, c9, rfl, _, _⟩ := slice_form (hs.bytes (bytesH_has (l := rec) 0 rfl)))
          | (guard_target = wpList _ _ _ (⟨some 98, .convert _ _ _, _, _, _, _⟩ :: _) _ _; refine wpl (o := ⟨some 98, .convert _ _ _, _, _, _, _⟩) rfl fun K hK => ?_; go_must (refine op_to_string rfl Try.underlying23 Try.underlying5 Try.underlying9 rfl (hs.bytes ((show Has _ (bytesAt (.slice A9 rec.length c9) rec) from Has.mem (A := bytesH (.slice A9 rec.length c9) (slBody (some (kk, rec)))) (by (try dsimp only [List.set]); repeat (first | with_reducible exact List.mem_cons_self | with_reducible apply List.mem_cons_of_mem)) fun F hF => hF))) (hK _ _ ?_)); clear hK K)
          | (guard_target = wpList _ _ _ (⟨some 100, .convert _ _ _, _, _, _, _⟩ :: _) _ _; refine wpl (o := ⟨some 100, .convert _ _ _, _, _, _, _⟩) rfl fun K hK => ?_; go_must (refine op_to_string rfl Try.underlying23 Try.underlying5 Try.underlying9 rfl (hs.bytes ((show Has _ (bytesAt _ rec) from (by (try dsimp only [List.set]); repeat (first | exact hv | apply Has.tail))))) (hK _ _ ?_)); clear hK K))
        go_ret
        exact ⟨rfl, hs.pack (by repeat (first | with_reducible exact Pack.refl | with_reducible exact Pack.nil | with_reducible refine Pack.cons (by repeat (first | with_reducible exact Pick.here | with_reducible apply Pick.there)) ?_ | with_reducible apply Pack.drop))⟩
theorem slotBack_main (W : World) (l : List (List UInt8)) (v : Value) (h0 : (Kin.slice 24 (Kin.slice 1 Kin.u8)).K (hp W) l [v]) (l2 : List UInt8) (v2 : Value) (h2 : (Kin.slice 1 Kin.u8).K (hp W) l2 [v2]) :
    Calls Try.prog 3 #[v, v2] W fun e w' => e = .returned (.bool true) ∧ Below W.heap.size W w' :=
  (slotBack_walk W W _ (Sat.start W) m0 v l h0 v2 l2 ((has_old h2).imp fun F hF => (kin_bytes hF).1)).mono fun e w' ⟨he, hs⟩ => ⟨he, hs.end_ m0⟩
end Go.Proofs.Ytfpgmnnecnaheaa
