/- The walk of the law SlotSpares. -/
import Derived.Test.YtfpgmnnecnaheaaSlOlds
import Derived.Test.YtfpgmnnecnaheaaVdCopy
set_option linter.unusedVariables false
set_option linter.unusedSimpArgs false
namespace Go.Proofs.Ytfpgmnnecnaheaa
open Go.RowKit
theorem own_exact_bytes8 {b : Nat} {l : List UInt8} (hl : l.length = 64) : ∀ F, row b (u8s l) 111 F → bytesAt (.slice (some ⟨b, 0, none⟩) 64 64) l F := fun F hF => by
  have := own_sliceAt F (own_exact (n := 64) (sz := 1) (by simp [hl]) (by omega) F hF)
  unfold bytesAt
  rw [hl]
  exact this
def oneR (b i : Nat) (v : Value) (w : World) : Prop := w.cell? ⟨b, i, none⟩ = some v
set_option maxRecDepth 100000 in
set_option maxHeartbeats 8000000 in
theorem slotSpares_walk (W w : World) (L : List HP) (hs : Sat W w L) (hold : old W ∈ L) (v : Value) (l : List (List UInt8)) (h : oldsAt v l (hp W)) (gen : Nat) (hg : gen < 4294967296) (vb : Value) (rec : List UInt8) (hv : Has L (bytesAt vb rec)) :
    Calls Try.prog 9 #[v, .int .u32 (gen : Nat), vb] w fun e w' => e = .returned (.bool true) ∧ Sat W w' L := by
  obtain ⟨A, cap, rfl, _, _, _⟩ := olds_form h
  obtain ⟨Ab, cb, rfl, _, _⟩ := slice_form (hs.bytes hv)
  by_cases h20 : 20 < l.length
  · have h20I : (20 : Int) < (l.length : Int) := by omega
    go_enter Try.func9, Try.ntmps9
    go_wp2_with (first
      | (go_at_call 15; go_must (refine (awake8_spec W _ _ hs).mono ?_); clear hs; rintro e w1 ⟨rfl, hs⟩)
      | (go_at_call 16; go_must (refine (new_spec W _ _ hs 12 (by omega) (by omega)).mono ?_); clear hs; rintro e w1 ⟨b1, rfl, hs⟩))
    go_ret
    exact ⟨rfl, hs.pack (by repeat (first | with_reducible exact Pack.refl | with_reducible exact Pack.nil | with_reducible refine Pack.cons (by repeat (first | with_reducible exact Pick.here | with_reducible apply Pick.there)) ?_ | with_reducible apply Pack.drop))⟩
  have h20I : ¬ (20 : Int) < (l.length : Int) := by omega
  by_cases hbig : 300 < rec.length
  · have hbigI : (300 : Int) < (rec.length : Int) := by omega
    go_enter Try.func9, Try.ntmps9
    go_wp2_with (first
      | (go_at_call 15; go_must (refine (awake8_spec W _ _ hs).mono ?_); clear hs; rintro e w1 ⟨rfl, hs⟩)
      | (go_at_call 16; go_must (refine (new_spec W _ _ hs 12 (by omega) (by omega)).mono ?_); clear hs; rintro e w1 ⟨b1, rfl, hs⟩))
    go_ret
    exact ⟨rfl, hs.pack (by repeat (first | with_reducible exact Pack.refl | with_reducible exact Pack.nil | with_reducible refine Pack.cons (by repeat (first | with_reducible exact Pick.here | with_reducible apply Pick.there)) ?_ | with_reducible apply Pack.drop))⟩
  have hbigI : ¬ (300 : Int) < (rec.length : Int) := by omega
  have hINV := Box.mk (spRun_inv l)
  have hS0 : Box (Dk.new 12 = spRun l 0) := ⟨rfl⟩
  obtain ⟨p, hp⟩ : ∃ p, gen % 2 = p := ⟨_, rfl⟩
  have hp1 : p ≤ 1 := by omega
  have hpI : (gen : Int).tmod 2 = (p : Int) := by rw [Int.tmod_eq_emod_of_nonneg (by omega), ← hp]; push_cast; rfl
  have hpI2 : (gen : Int) % 2 = (p : Int) := by rw [← hp]; push_cast; rfl
  have HP := Box.mk hp
  clear hp
  have hwp : IntKind.i64.wrap (p : Int) = (p : Int) := by rw [IntKind.wrap_i64]; omega
  have hwp4 : IntKind.i64.wrap (4 * (p : Int)) = 4 * (p : Int) := by rw [IntKind.wrap_i64]; omega
  have hwp5 : IntKind.i64.wrap (1 + 4 * (p : Int)) = 1 + 4 * (p : Int) := by rw [IntKind.wrap_i64]; omega
  have hwp6 : IntKind.i64.wrap (1 + 4 * (p : Int) + 4) = 1 + 4 * (p : Int) + 4 := by rw [IntKind.wrap_i64]; omega
  have hrec5 : rec.length ≤ 140737488351232 := by omega
  go_enter Try.func9, Try.ntmps9
  go_wp2_with (first
    | (go_at_call 15; go_must (refine (awake8_spec W _ _ hs).mono ?_); clear hs; rintro e w1 ⟨rfl, hs⟩)
    | (go_at_call 16; go_must (refine (new_spec W _ _ hs 12 (by omega) (by omega)).mono ?_); clear hs; rintro e w1 ⟨b1, rfl, hs⟩; rw [hS0.out] at hs))
  go_loopw [9] (fun v9 wr => ∃ k : Nat, k ≤ l.length ∧ v9 = .int .i64 (k : Nat) ∧ Sat W wr (disk b1 (spRun l k) :: L)) (fun v9 _ => l.length - (intOf v9).toNat)
  case atStart => exact ⟨0, by omega, rfl, hs⟩
  case round =>
    clear hs
    obtain ⟨k, hk, rfl, hs⟩ := hrel
    obtain ⟨okk, hsz, hrow⟩ := hINV.out k
    by_cases hlt : k < l.length
    · have hltI : (k : Int) < (l.length : Int) := by omega
      have hk20 : k < 20 := by omega
      have hm : Box (slMayB (spRun l k).secs.length ((1 : Nat) : Int) ((4 : Nat) : Int) = true) := ⟨by rw [hsz]; exact may14⟩
      have hrow8 : (spRun l k).row.length ≤ 800000 := by omega
      clear hsz
      obtain ⟨bd, od, cd, vk, e, hrg, hbk, hlk⟩ := olds_get (Sat.start W) m0 h k hlt
      cases e
      have hget : Box (l.getD k [] = l[k]) := ⟨by rw [List.getD_eq_getElem?_getD, List.getElem?_eq_getElem hlt]; rfl⟩
      have hnext : Box (spRun l (k + 1) = slSave (spRun l k) ((1 : Nat) : Int) ((4 : Nat) : Int) (k + 1) l[k]) := ⟨by rw [spRun, hget.out]⟩
      generalize l[k] = bk at hbk hlk hget hnext
      obtain ⟨Ak, ck, rfl, _, _⟩ := slice_form (hs.slice (has_w (by (try dsimp only [List.set]); repeat (first | exact hold | apply List.mem_cons_of_mem)) hbk))
      have cS : ∀ w M, Sat W w M → old W ∈ M → oneR bd (od + k) (.slice Ak bk.length ck) w := fun w M h ho => by
        have := oold_range h ho hrg (by simp) 0 _ rfl
        exact this
      have d50 : ∀ w, oneR bd (od + k) (.slice Ak bk.length ck) w → w.cell? ⟨bd, od + k, none⟩ = some (.slice Ak bk.length ck) := fun w h => h
      obtain ⟨kk, hkk⟩ : ∃ kk, k + 1 = kk := ⟨_, rfl⟩
      have hw0 : IntKind.i64.wrap ((k : Int) + 1) = (k : Int) + 1 := by rw [IntKind.wrap_i64]; omega
      have hw1 : IntKind.u32.wrap ((k : Int) + 1) = (kk : Int) := by rw [IntKind.wrap_u32]; omega
      have hkk2 : kk < 4294967296 := by omega
      have HKK := Box.mk hkk
      clear hkk
      generalize hDk : spRun l k = Dk0 at *
      have hDkB := Box.mk hDk
      clear hDk
      go_wp2_with fail
      have hS0 := cS _ _ hs.drew (by (try dsimp only [List.set]); repeat (first | exact hold | apply List.mem_cons_of_mem))
      refine wp_region_tree (oneR bd (od + k) (.slice Ak bk.length ck)) (.take 0 (.take 2 (.take 3 (.take 4 (.take 5 (.take 6 (.take 7 (.take 8 (.all [(1, .all [(9, DTree.done)])]))))))))) (by kernel_rfl) (by kernel_rfl) (by kernel_rfl) (fun _ _ d _ _ h => by cases d <;> exact h) hS0 ?_
      have hs' := hs.drew
      clear hs
      have hs := hs'
      clear hs'
      have hq := fun p : Prop => class_const hS0 p
      clear hS0
      repeat (first
        | (with_reducible refine tree_load (o := ⟨some 50, .load _ _, _, _, _, _⟩) rfl rfl rfl rfl rfl d50 ?_)
        | (refine tree_take rfl (fun K hK => ?_); go_simp; with_reducible refine hK _ ?_; clear hK K))
      refine tree_one_yes (o := _) rfl rfl (fun K hK => ?_) (cS _ _ hs (by (try dsimp only [List.set]); repeat (first | exact hold | apply List.mem_cons_of_mem)))
      try go_simp
      go_at_call 18
      refine (area_spec W _ _ hs).mono ?_
      clear hs
      rintro e w5 ⟨rfl, hs⟩
      try go_simp
      refine hK _ _ (cS _ _ hs (by (try dsimp only [List.set]); repeat (first | exact hold | apply List.mem_cons_of_mem))) ?_
      clear hK K
      refine tree_one_yes (o := _) rfl rfl (fun K hK => ?_) (cS _ _ hs (by (try dsimp only [List.set]); repeat (first | exact hold | apply List.mem_cons_of_mem)))
      try go_simp
      go_at_call 17
      refine (slsave_any W _ _ b1 Dk0 (hs.pick (A := disk b1 Dk0) (by repeat (first | with_reducible exact Pick.here | with_reducible apply Pick.there))) 1 4 (by omega) kk hkk2 hm.out _ bk (has_w (by (try dsimp only [List.set]); repeat (first | exact hold | apply List.mem_cons_of_mem)) hbk) hlk hrow8).mono ?_
      clear hs
      rintro e w5 ⟨rfl, hs⟩
      try go_simp
      refine hK _ _ (cS _ _ hs (by (try dsimp only [List.set]); repeat (first | exact hold | apply List.mem_cons_of_mem))) ?_
      clear hK K
      refine tree_done ?_
      clear hq
      go_wp2_with fail
      refine ⟨⟨k + 1, by omega, by go_num, ?_⟩, by simp only [intOf]; omega⟩
      rw [hnext.out, HKK.out]
      exact hs.pack (by repeat (first | with_reducible exact Pack.refl | with_reducible exact Pack.nil | with_reducible refine Pack.cons (by repeat (first | with_reducible exact Pick.here | with_reducible apply Pick.there)) ?_ | with_reducible apply Pack.drop))
    · have hltI : ¬ (k : Int) < (l.length : Int) := by omega
      have hk20 : k ≤ 20 := by omega
      have hm : Box (slMayB (spRun l k).secs.length ((1 : Nat) : Int) ((4 : Nat) : Int) = true) := ⟨by rw [hsz]; exact may14⟩
      have hszE : Box ((slSave (spRun l k) ((1 : Nat) : Int) ((4 : Nat) : Int) gen rec).secs.length = 12) := ⟨by rw [save_secs]; exact hsz⟩
      have okE := save_ok okk 1 4 gen rec
      have hrE := save_row4 (spRun l k) gen rec
      have hoth : Box (∀ i, (i < 1 + 4 * p ∨ 1 + 4 * p + 4 ≤ i) → (slSave (spRun l k) ((1 : Nat) : Int) ((4 : Nat) : Int) gen rec).read i = (spRun l k).read i) := ⟨fun i hi => save_other (spRun l k) 1 4 gen rec i fun _ => by rw [HP.out]; omega⟩
      generalize spRun l k = D at *
      have hszD := Box.mk hsz
      have hpos : 0 < D.secs.length := by omega
      clear hsz
      generalize hE : slSave D ((1 : Nat) : Int) ((4 : Nat) : Int) gen rec = E at *
      have HE := Box.mk hE
      clear hE
      have hrowD : D.row.length ≤ 1000000 := by omega
      have hrowD8 : D.row.length ≤ 800000 := by omega
      have hrowE : E.row.length ≤ 1000000 := by omega
      go_wp2_with (first
        | (go_at_call 34; go_must (refine (copy_spec W _ _ b1 D (hs.pick (A := disk b1 D) (by repeat (first | with_reducible exact Pick.here | with_reducible apply Pick.there))) hpos hrowD).mono ?_); clear hs; rintro e w1 ⟨b2, rfl, hs⟩)
        | (go_at_call 18; go_must (refine (area_spec W _ _ hs).mono ?_); clear hs; rintro e w1 ⟨rfl, hs⟩)
        | (go_at_call 17; go_must (refine (slsave_any W _ _ b1 D (hs.pick (A := disk b1 D) (by repeat (first | with_reducible exact Pick.here | with_reducible apply Pick.there))) 1 4 (by omega) gen hg hm.out _ rec (show Has _ (bytesAt _ rec) from (by (try dsimp only [List.set]); repeat (first | exact hv | apply Has.tail))) hrec5 hrowD8).mono ?_); clear hs; rintro e w1 ⟨rfl, hs⟩; rw [HE.out] at hs))
      go_loopw [12] (fun v12 wr => ∃ i : Nat, i ≤ 12 ∧ v12 = .int .i64 (i : Nat) ∧ Sat W wr (disk b1 E :: disk b2 D :: L)) (fun v12 _ => 12 - (intOf v12).toNat)
      case atStart => exact ⟨0, by omega, rfl, hs.pack (by repeat (first | with_reducible exact Pack.refl | with_reducible exact Pack.nil | with_reducible refine Pack.cons (by repeat (first | with_reducible exact Pick.here | with_reducible apply Pick.there)) ?_ | with_reducible apply Pack.drop))⟩
      case round =>
        clear hs
        obtain ⟨i, hi, rfl, hs⟩ := hrel
        by_cases hi12 : i < 12
        · have hi12I : (i : Int) < 12 := by omega
          have hiD : i < D.secs.length := by rw [hszD.out]; exact hi12
          have hiE : i < E.secs.length := by rw [hszE.out]; exact hi12
          have hlD := Dk.read_len okk hiD
          have hlE := Dk.read_len okE hiE
          by_cases c1 : i < 1 + 4 * p
          · have c1I : (i : Int) < 1 + 4 * (p : Int) := by omega
            have heq := hoth.out i (.inl c1)
            go_wp2_with (first
              | (have hh := ba; clear hh; go_at_call 35; go_must (refine (read_spec W _ _ b1 E (hs.pick (A := disk b1 E) (by repeat (first | with_reducible exact Pick.here | with_reducible apply Pick.there))) i hiE hrowE).mono ?_); clear hs; rintro e w1 ⟨bb, rfl, hs⟩)
              | (go_at_call 35; go_must (refine (read_spec W _ _ b2 D (hs.pick (A := disk b2 D) (by repeat (first | with_reducible exact Pick.here | with_reducible apply Pick.there))) i hiD hrowD).mono ?_); clear hs; rintro e w1 ⟨ba, rfl, hs⟩)
              | (guard_target = wpList _ _ _ (⟨some 94, .convert _ _ _, _, _, _, _⟩ :: _) _ _; refine wpl (o := ⟨some 94, .convert _ _ _, _, _, _, _⟩) rfl fun K hK => ?_; go_must (refine op_to_string rfl Try.underlying23 Try.underlying5 Try.underlying9 rfl (hs.bytes (Has.mem (A := row ba (u8s (D.read i)) 111) (by (try dsimp only [List.set]); repeat (first | with_reducible exact List.mem_cons_self | with_reducible apply List.mem_cons_of_mem)) fun F hF => own_exact_bytes8 hlD F hF)) (hK _ _ ?_)); clear hK K)
              | (guard_target = wpList _ _ _ (⟨some 96, .convert _ _ _, _, _, _, _⟩ :: _) _ _; refine wpl (o := ⟨some 96, .convert _ _ _, _, _, _, _⟩) rfl fun K hK => ?_; go_must (refine op_to_string rfl Try.underlying23 Try.underlying5 Try.underlying9 rfl (hs.bytes (Has.mem (A := row bb (u8s (E.read i)) 111) (by (try dsimp only [List.set]); repeat (first | with_reducible exact List.mem_cons_self | with_reducible apply List.mem_cons_of_mem)) fun F hF => own_exact_bytes8 hlE F hF)) (hK _ _ ?_)); clear hK K))
            (first | (go_big_round; exact ⟨⟨i + 1, by omega, by go_num, hs.pack (by repeat (first | with_reducible exact Pack.refl | with_reducible exact Pack.nil | with_reducible refine Pack.cons (by repeat (first | with_reducible exact Pick.here | with_reducible apply Pick.there)) ?_ | with_reducible apply Pack.drop))⟩, by simp only [intOf]; omega⟩) | exact ⟨⟨i + 1, by omega, by go_num, hs.pack (by repeat (first | with_reducible exact Pack.refl | with_reducible exact Pack.nil | with_reducible refine Pack.cons (by repeat (first | with_reducible exact Pick.here | with_reducible apply Pick.there)) ?_ | with_reducible apply Pack.drop))⟩, by simp only [intOf]; omega⟩)
          · have c1I : ¬ (i : Int) < 1 + 4 * (p : Int) := by omega
            by_cases c2 : 1 + 4 * p + 4 ≤ i
            · have c2I : 1 + 4 * (p : Int) + 4 ≤ (i : Int) := by omega
              have heq := hoth.out i (.inr c2)
              go_wp2_with (first
                | (have hh := ba; clear hh; go_at_call 35; go_must (refine (read_spec W _ _ b1 E (hs.pick (A := disk b1 E) (by repeat (first | with_reducible exact Pick.here | with_reducible apply Pick.there))) i hiE hrowE).mono ?_); clear hs; rintro e w1 ⟨bb, rfl, hs⟩)
                | (go_at_call 35; go_must (refine (read_spec W _ _ b2 D (hs.pick (A := disk b2 D) (by repeat (first | with_reducible exact Pick.here | with_reducible apply Pick.there))) i hiD hrowD).mono ?_); clear hs; rintro e w1 ⟨ba, rfl, hs⟩)
                | (guard_target = wpList _ _ _ (⟨some 94, .convert _ _ _, _, _, _, _⟩ :: _) _ _; refine wpl (o := ⟨some 94, .convert _ _ _, _, _, _, _⟩) rfl fun K hK => ?_; go_must (refine op_to_string rfl Try.underlying23 Try.underlying5 Try.underlying9 rfl (hs.bytes (Has.mem (A := row ba (u8s (D.read i)) 111) (by (try dsimp only [List.set]); repeat (first | with_reducible exact List.mem_cons_self | with_reducible apply List.mem_cons_of_mem)) fun F hF => own_exact_bytes8 hlD F hF)) (hK _ _ ?_)); clear hK K)
                | (guard_target = wpList _ _ _ (⟨some 96, .convert _ _ _, _, _, _, _⟩ :: _) _ _; refine wpl (o := ⟨some 96, .convert _ _ _, _, _, _, _⟩) rfl fun K hK => ?_; go_must (refine op_to_string rfl Try.underlying23 Try.underlying5 Try.underlying9 rfl (hs.bytes (Has.mem (A := row bb (u8s (E.read i)) 111) (by (try dsimp only [List.set]); repeat (first | with_reducible exact List.mem_cons_self | with_reducible apply List.mem_cons_of_mem)) fun F hF => own_exact_bytes8 hlE F hF)) (hK _ _ ?_)); clear hK K))
              (first | (go_big_round; exact ⟨⟨i + 1, by omega, by go_num, hs.pack (by repeat (first | with_reducible exact Pack.refl | with_reducible exact Pack.nil | with_reducible refine Pack.cons (by repeat (first | with_reducible exact Pick.here | with_reducible apply Pick.there)) ?_ | with_reducible apply Pack.drop))⟩, by simp only [intOf]; omega⟩) | exact ⟨⟨i + 1, by omega, by go_num, hs.pack (by repeat (first | with_reducible exact Pack.refl | with_reducible exact Pack.nil | with_reducible refine Pack.cons (by repeat (first | with_reducible exact Pick.here | with_reducible apply Pick.there)) ?_ | with_reducible apply Pack.drop))⟩, by simp only [intOf]; omega⟩)
            · have c2I : ¬ 1 + 4 * (p : Int) + 4 ≤ (i : Int) := by omega
              go_wp2_with (first
                | (have hh := ba; clear hh; go_at_call 35; go_must (refine (read_spec W _ _ b1 E (hs.pick (A := disk b1 E) (by repeat (first | with_reducible exact Pick.here | with_reducible apply Pick.there))) i hiE hrowE).mono ?_); clear hs; rintro e w1 ⟨bb, rfl, hs⟩)
                | (go_at_call 35; go_must (refine (read_spec W _ _ b2 D (hs.pick (A := disk b2 D) (by repeat (first | with_reducible exact Pick.here | with_reducible apply Pick.there))) i hiD hrowD).mono ?_); clear hs; rintro e w1 ⟨ba, rfl, hs⟩)
                | (guard_target = wpList _ _ _ (⟨some 94, .convert _ _ _, _, _, _, _⟩ :: _) _ _; refine wpl (o := ⟨some 94, .convert _ _ _, _, _, _, _⟩) rfl fun K hK => ?_; go_must (refine op_to_string rfl Try.underlying23 Try.underlying5 Try.underlying9 rfl (hs.bytes (Has.mem (A := row ba (u8s (D.read i)) 111) (by (try dsimp only [List.set]); repeat (first | with_reducible exact List.mem_cons_self | with_reducible apply List.mem_cons_of_mem)) fun F hF => own_exact_bytes8 hlD F hF)) (hK _ _ ?_)); clear hK K)
                | (guard_target = wpList _ _ _ (⟨some 96, .convert _ _ _, _, _, _, _⟩ :: _) _ _; refine wpl (o := ⟨some 96, .convert _ _ _, _, _, _, _⟩) rfl fun K hK => ?_; go_must (refine op_to_string rfl Try.underlying23 Try.underlying5 Try.underlying9 rfl (hs.bytes (Has.mem (A := row bb (u8s (E.read i)) 111) (by (try dsimp only [List.set]); repeat (first | with_reducible exact List.mem_cons_self | with_reducible apply List.mem_cons_of_mem)) fun F hF => own_exact_bytes8 hlE F hF)) (hK _ _ ?_)); clear hK K))
              (first | (go_big_round; exact ⟨⟨i + 1, by omega, by go_num, hs.pack (by repeat (first | with_reducible exact Pack.refl | with_reducible exact Pack.nil | with_reducible refine Pack.cons (by repeat (first | with_reducible exact Pick.here | with_reducible apply Pick.there)) ?_ | with_reducible apply Pack.drop))⟩, by simp only [intOf]; omega⟩) | exact ⟨⟨i + 1, by omega, by go_num, hs.pack (by repeat (first | with_reducible exact Pack.refl | with_reducible exact Pack.nil | with_reducible refine Pack.cons (by repeat (first | with_reducible exact Pick.here | with_reducible apply Pick.there)) ?_ | with_reducible apply Pack.drop))⟩, by simp only [intOf]; omega⟩)
        · have hi12I : ¬ (i : Int) < 12 := by omega
          go_wp2_with fail
          go_ret
          exact ⟨by simp, hs.pack (by repeat (first | with_reducible exact Pack.refl | with_reducible exact Pack.nil | with_reducible refine Pack.cons (by repeat (first | with_reducible exact Pick.here | with_reducible apply Pick.there)) ?_ | with_reducible apply Pack.drop))⟩
theorem u32_arg8 {W : World} {n : Int} {v : Value} (h : (Kin.int .u32).K (hp W) n [v]) : ∃ m : Nat, m < 4294967296 ∧ v = .int .u32 (m : Nat) := by
  obtain ⟨e1, hn⟩ := h
  have hn' : 0 ≤ n ∧ n ≤ 4294967295 := by simpa [Lit.wf, IntKind.min, IntKind.max, IntKind.signed, IntKind.bits] using hn
  obtain ⟨m, rfl⟩ := Int.eq_ofNat_of_zero_le hn'.1
  cases e1
  exact ⟨m, by omega, rfl⟩
theorem slotSpares_main (W : World) (l : List (List UInt8)) (v : Value) (h0 : (Kin.slice 24 (Kin.slice 1 Kin.u8)).K (hp W) l [v]) (e : Int) (v1 : Value) (h1 : (Kin.int .u32).K (hp W) e [v1]) (l2 : List UInt8) (v2 : Value) (h2 : (Kin.slice 1 Kin.u8).K (hp W) l2 [v2]) :
    Calls Try.prog 9 #[v, v1, v2] W fun e w' => e = .returned (.bool true) ∧ Below W.heap.size W w' := by
  obtain ⟨g, hg, rfl⟩ := u32_arg8 h1
  exact (slotSpares_walk W W _ (Sat.start W) m0 v l h0 g hg v2 l2 ((has_old h2).imp fun F hF => (kin_bytes hF).1)).mono fun e w' ⟨he, hs⟩ => ⟨he, hs.end_ m0⟩
end Go.Proofs.Ytfpgmnnecnaheaa
