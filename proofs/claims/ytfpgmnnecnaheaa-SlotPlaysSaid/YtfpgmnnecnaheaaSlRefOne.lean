/- The contract of ogiveref08.One. -/
import Derived.Test.YtfpgmnnecnaheaaSlRef
import Derived.Test.YtfpgmnnecnaheaaSlOne
import Derived.Test.YtfpgmnnecnaheaaFrRefP
set_option linter.unusedVariables false
set_option linter.unusedSimpArgs false
namespace Go.Proofs.Ytfpgmnnecnaheaa
open Go.RowKit
theorem bit1 : ∀ n, n < 256 → ((n &&& 1 != 0) = decide (n % 2 = 1)) ∧ ((n &&& 2 != 0) = decide (n / 2 % 2 = 1)) := by decide +kernel
theorem flag_1 (x : UInt8) : (x &&& 1 != 0) = decide (x.toNat % 2 = 1) := by
  rw [← (bit1 x.toNat x.toNat_lt).1]
  have e : (x &&& 1).toNat = x.toNat &&& 1 := UInt8.toNat_and x 1
  by_cases h : x &&& 1 = 0
  · rw [h] at e ⊢; rw [← e]; rfl
  · have h2 : ¬ x.toNat &&& 1 = 0 := fun h3 => h (UInt8.toNat_inj.1 (by rw [e, h3]; rfl))
    rw [bne_iff_ne.2 h, bne_iff_ne.2 h2]
theorem flag_2 (x : UInt8) : (x &&& 2 != 0) = decide (x.toNat / 2 % 2 = 1) := by
  rw [← (bit1 x.toNat x.toNat_lt).2]
  have e : (x &&& 2).toNat = x.toNat &&& 2 := UInt8.toNat_and x 2
  by_cases h : x &&& 2 = 0
  · rw [h] at e ⊢; rw [← e]; rfl
  · have h2 : ¬ x.toNat &&& 2 = 0 := fun h3 => h (UInt8.toNat_inj.1 (by rw [e, h3]; rfl))
    rw [bne_iff_ne.2 h, bne_iff_ne.2 h2]
theorem run_results_tmp3 : True := trivial
def rslonePost (o : Option (Nat × List UInt8)) (W : World) (L : List HP) (e : Ending) (w' : World) : Prop := e = .returned (.tuple #[.int .u32 (slGen o : Nat), (.string ⟨(slBody o).toArray⟩), .bool o.isSome]) ∧ Sat W w' L
set_option maxRecDepth 100000 in
set_option maxHeartbeats 4000000 in
theorem rslone_none (W w : World) (L : List HP) (As Aa Ar : Option Addr) (n na nr cs ca cr : Nat) (hs : Sat W w L) (first size which : Int) (hn : n ≤ 1024) (hno : slMayB n first size = false ∨ which < 0 ∨ 1 < which) :
    Calls Try.prog 32 #[.agg #[.slice As n cs, .slice Aa na ca, .slice Ar nr cr], .int .i64 first, .int .i64 size, .int .i64 which] w (rslonePost none W L) := by
  cases hm : slMayB n first size
  · have hM := Box.mk hm
    clear hm hno
    go_enter Try.func32, Try.ntmps32
    go_wp2_with (first
      | (guard_target = wpList _ _ _ (⟨some 4, .box _ _, _, _, _, _⟩ :: _) _ _; refine wpl (o := ⟨some 4, .box _ _, _, _, _, _⟩) rfl fun K hK => ?_; go_must (refine op_box hs rfl _ rfl [.slice As n cs, .slice Aa na ca, .slice Ar nr cr] rfl fun b4 w1 h => hK _ _ ?_); clear hs hK K; have hs := h; clear h; try dsimp only [List.set] at hs)
      | (guard_target = wpList _ _ _ (⟨some 18, .load _ _, _, _, _, _⟩ :: _) _ _; refine wpl (o := ⟨some 18, .load _ _, _, _, _, _⟩) rfl fun K hK => op_load_agg rfl (b := b4) (i := 0) rfl ([.slice As n cs, .slice Aa na ca, .slice Ar nr cr]) (range_whole hs (by (try dsimp only [List.set]); repeat (first | with_reducible exact List.mem_cons_self | with_reducible apply List.mem_cons_of_mem))) (by kernel_rfl) (by kernel_rfl) (hK _ _ ?_); clear hK K)
      | (go_at_call 61; go_must (refine (rslmay_spec W _ _ hs As n cs (.slice Aa na ca) (.slice Ar nr cr) first size hn).mono ?_); clear hs; rintro e w1 ⟨rfl, hs⟩; rw [hM.out]))
    (try simp only [Exit.inBlock, Exit.then])
    refine bodyPost_ret (res_tmp3 rfl _ _ _) rfl ?_
    exact ⟨rfl, hs.tail⟩
  · have hM := Box.mk hm
    have h2 : which < 0 ∨ 1 < which := by
      rcases hno with h | h
      · rw [hm] at h; cases h
      · exact h
    clear hm hno
    by_cases h3 : which < 0
    · clear h2
      go_enter Try.func32, Try.ntmps32
      go_wp2_with (first
        | (guard_target = wpList _ _ _ (⟨some 4, .box _ _, _, _, _, _⟩ :: _) _ _; refine wpl (o := ⟨some 4, .box _ _, _, _, _, _⟩) rfl fun K hK => ?_; go_must (refine op_box hs rfl _ rfl [.slice As n cs, .slice Aa na ca, .slice Ar nr cr] rfl fun b4 w1 h => hK _ _ ?_); clear hs hK K; have hs := h; clear h; try dsimp only [List.set] at hs)
        | (guard_target = wpList _ _ _ (⟨some 18, .load _ _, _, _, _, _⟩ :: _) _ _; refine wpl (o := ⟨some 18, .load _ _, _, _, _, _⟩) rfl fun K hK => op_load_agg rfl (b := b4) (i := 0) rfl ([.slice As n cs, .slice Aa na ca, .slice Ar nr cr]) (range_whole hs (by (try dsimp only [List.set]); repeat (first | with_reducible exact List.mem_cons_self | with_reducible apply List.mem_cons_of_mem))) (by kernel_rfl) (by kernel_rfl) (hK _ _ ?_); clear hK K)
        | (go_at_call 61; go_must (refine (rslmay_spec W _ _ hs As n cs (.slice Aa na ca) (.slice Ar nr cr) first size hn).mono ?_); clear hs; rintro e w1 ⟨rfl, hs⟩; rw [hM.out]))
      (try simp only [Exit.inBlock, Exit.then])
      refine bodyPost_ret (res_tmp3 rfl _ _ _) rfl ?_
      exact ⟨rfl, hs.tail⟩
    · have h4 : 1 < which := by omega
      clear h2
      go_enter Try.func32, Try.ntmps32
      go_wp2_with (first
        | (guard_target = wpList _ _ _ (⟨some 4, .box _ _, _, _, _, _⟩ :: _) _ _; refine wpl (o := ⟨some 4, .box _ _, _, _, _, _⟩) rfl fun K hK => ?_; go_must (refine op_box hs rfl _ rfl [.slice As n cs, .slice Aa na ca, .slice Ar nr cr] rfl fun b4 w1 h => hK _ _ ?_); clear hs hK K; have hs := h; clear h; try dsimp only [List.set] at hs)
        | (guard_target = wpList _ _ _ (⟨some 18, .load _ _, _, _, _, _⟩ :: _) _ _; refine wpl (o := ⟨some 18, .load _ _, _, _, _, _⟩) rfl fun K hK => op_load_agg rfl (b := b4) (i := 0) rfl ([.slice As n cs, .slice Aa na ca, .slice Ar nr cr]) (range_whole hs (by (try dsimp only [List.set]); repeat (first | with_reducible exact List.mem_cons_self | with_reducible apply List.mem_cons_of_mem))) (by kernel_rfl) (by kernel_rfl) (hK _ _ ?_); clear hK K)
        | (go_at_call 61; go_must (refine (rslmay_spec W _ _ hs As n cs (.slice Aa na ca) (.slice Ar nr cr) first size hn).mono ?_); clear hs; rintro e w1 ⟨rfl, hs⟩; rw [hM.out]))
      (try simp only [Exit.inBlock, Exit.then])
      refine bodyPost_ret (res_tmp3 rfl _ _ _) rfl ?_
      exact ⟨rfl, hs.tail⟩
set_option maxRecDepth 100000 in
set_option maxHeartbeats 16000000 in
theorem rslone_spec (W w : World) (L : List HP) (vs va vr : Value) (D : Dk) (okD : D.Ok) (hs : Sat W w (ref vs va vr D :: L)) (first size which : Nat) (hm : slMayB D.secs.length (first : Nat) (size : Nat) = true) (hwh : which ≤ 1) (hr : D.row.length ≤ 1000000) :
    Calls Try.prog 32 #[.agg #[vs, va, vr], .int .i64 (first : Nat), .int .i64 (size : Nat), .int .i64 (which : Nat)] w (rslonePost (slHas D first size which) W (ref vs va vr D :: L)) := by
  obtain ⟨As, cs, rfl, _, _⟩ := slice_form (hs.slice (ref_secs m0))
  obtain ⟨Aa, ca, rfl, _, _⟩ := slice_form (hs.slice (ref_ats m0))
  obtain ⟨Ar, cr, rfl, _, _⟩ := slice_form (hs.slice (ref_row m0))
  have hfew := okD.few
  have hm2 : first + 2 * size ≤ D.secs.length ∧ 1 ≤ size := by
    unfold slMayB at hm
    have := of_decide_eq_true hm
    omega
  have hM := Box.mk hm
  clear hm
  have hle : size * which ≤ size * 1 := Nat.mul_le_mul_left _ hwh
  obtain ⟨p, hp⟩ : ∃ p, slHas D first size which = p := ⟨_, rfl⟩
  rw [hp]
  unfold slHas at hp
  have hmulI : (size : Int) * (which : Int) = ((size * which : Nat) : Int) := by push_cast; rfl
  generalize size * which = sp at *
  have hbI : (first : Int) + (sp : Int) = ((first + sp : Nat) : Int) := by push_cast; rfl
  have hb2 : first + sp + size ≤ D.secs.length := by omega
  generalize first + sp = base at *
  have hw2 : IntKind.i64.wrap (sp : Int) = (sp : Int) := by rw [IntKind.wrap_i64]; omega
  have hw3 : IntKind.i64.wrap (base : Int) = (base : Int) := by rw [IntKind.wrap_i64]; omega
  have hw1I : ¬ (which : Int) < 0 := by omega
  have hw2I : ¬ (1 : Int) < (which : Int) := by omega
  have HPP := Box.mk hp
  have hszb : size ≤ 1024 := by omega
  have hszI : (size : Int) ≤ 1024 := by omega
  clear hp hle hm2
  have HB2 := Box.mk hb2
  clear hb2
  have hD1 : Box (∀ i, i < size → (D.read (base + i)).length = 64) := ⟨fun i hi => Dk.read_len okD (by have := HB2.out; omega)⟩
  go_enter Try.func32, Try.ntmps32
  go_wp2_with (first
    | (guard_target = wpList _ _ _ (⟨some 4, .box _ _, _, _, _, _⟩ :: _) _ _; refine wpl (o := ⟨some 4, .box _ _, _, _, _, _⟩) rfl fun K hK => ?_; go_must (refine op_box hs rfl _ rfl [.slice As D.secs.length cs, .slice Aa D.row.length ca, .slice Ar D.row.length cr] rfl fun b4 w1 h => hK _ _ ?_); clear hs hK K; have hs := h; clear h; try dsimp only [List.set] at hs)
    | (guard_target = wpList _ _ _ (⟨some 18, .load _ _, _, _, _, _⟩ :: _) _ _; refine wpl (o := ⟨some 18, .load _ _, _, _, _, _⟩) rfl fun K hK => op_load_agg rfl (b := b4) (i := 0) rfl ([.slice As D.secs.length cs, .slice Aa D.row.length ca, .slice Ar D.row.length cr]) (range_whole hs (by (try dsimp only [List.set]); repeat (first | with_reducible exact List.mem_cons_self | with_reducible apply List.mem_cons_of_mem))) (by kernel_rfl) (by kernel_rfl) (hK _ _ ?_); clear hK K)
    | (go_at_call 61; go_must (refine (rslmay_spec W _ _ hs As D.secs.length cs (.slice Aa D.row.length ca) (.slice Ar D.row.length cr) first size hfew).mono ?_); clear hs; rintro e w1 ⟨rfl, hs⟩; rw [hM.out]))
  go_loopw [11, 12, 13] (fun v11 v12 v13 wr => ∃ (i gen : Nat) (body : List UInt8), i ≤ size ∧ gen < 4294967296 ∧ body.length ≤ 64 * i ∧ Box (slOne (fun i => D.read (base + i)) which (size - i) i gen body = p) ∧ v11 = (.string ⟨(body).toArray⟩) ∧ v12 = .int .u32 (gen : Nat) ∧ v13 = .int .i64 (i : Nat) ∧ Sat W wr (row b4 [.slice As D.secs.length cs, .slice Aa D.row.length ca, .slice Ar D.row.length cr] 46 :: ref (.slice As D.secs.length cs) (.slice Aa D.row.length ca) (.slice Ar D.row.length cr) D :: L)) (fun _ _ v13 _ => size - (intOf v13).toNat)
  case atStart => exact ⟨0, 0, [], by omega, by omega, by simp, HPP, rfl, rfl, rfl, hs⟩
  case round =>
    clear hs
    obtain ⟨i, gen, body, hi, hg, hbl, HEQ, rfl, rfl, rfl, hs⟩ := hrel
    by_cases hlt : i < size
    · have hltI : (i : Int) < (size : Int) := by omega
      obtain ⟨k, hk⟩ : ∃ k, size - i = k + 1 := ⟨size - i - 1, by omega⟩
      have hk2 : size - (i + 1) = k := by omega
      obtain ⟨q, hq⟩ : ∃ q, base + i = q := ⟨_, rfl⟩
      have hqI : (base : Int) + (i : Int) = (q : Int) := by omega
      have hq2 : q < D.secs.length := by have := HB2.out; omega
      have hwq : IntKind.i64.wrap (q : Int) = (q : Int) := by rw [IntKind.wrap_i64]; omega
      have hlen := hD1.out i hlt
      rw [hq] at hlen
      obtain ⟨p1, p2, p3⟩ := parse_body hlen
      have hone := HEQ.out
      rw [hk] at hone
      unfold slOne at hone
      dsimp only at hone
      rw [hq] at hone
      clear hq
      have HRD := Box.mk (fun w (L : List HP) (hs : Sat W w (ref (.slice As D.secs.length cs) (.slice Aa D.row.length ca) (.slice Ar D.row.length cr) D :: L)) => rread_spec W w L _ _ _ D hs q hq2 hr hfew)
      have hPA := fun w (L : List HP) (hs : Sat W w L) => rparse_spec W w L hs (D.read q) (by omega)
      unfold rparsePost at hPA
      generalize D.read q = P at hlen p1 p2 p3 hone HRD hPA
      generalize Fr.parse P = f at p1 p2 p3 hone hPA
      generalize Fr.code P = code at hone hPA
      have HPA := Box.mk hPA
      clear hPA
      have hf2 := p3.2
      have hws : IntKind.i64.wrap (f.seq : Int) = (f.seq : Int) := by rw [IntKind.wrap_i64]; omega
      have hwi : IntKind.i64.wrap ((i : Int) + 1) = (i : Int) + 1 := by rw [IntKind.wrap_i64]; omega
      have f1 := flag_1 f.flag
      have f2 := flag_2 f.flag
      have hfl := f.flag.toNat_lt
      obtain ⟨m1, hm1⟩ : ∃ m, f.flag.toNat % 2 = m := ⟨_, rfl⟩
      obtain ⟨d2, hd2⟩ : ∃ m, f.flag.toNat / 2 = m := ⟨_, rfl⟩
      obtain ⟨m2, hm2⟩ : ∃ m, d2 % 2 = m := ⟨_, rfl⟩
      rw [hm1] at f1
      rw [hd2, hm2] at f2
      have hm1I : (f.flag.toNat : Int) % 2 = (m1 : Int) := by omega
      have hm1T : (f.flag.toNat : Int).tmod 2 = (m1 : Int) := by rw [Int.tmod_eq_emod_of_nonneg (by omega)]; exact hm1I
      have hd2I : (f.flag.toNat : Int) / 2 = (d2 : Int) := by omega
      have hd2T : (f.flag.toNat : Int).tdiv 2 = (d2 : Int) := by rw [Int.tdiv_eq_ediv_of_nonneg (by omega)]; exact hd2I
      have hm2I : (d2 : Int) % 2 = (m2 : Int) := by omega
      have hm2T : (d2 : Int).tmod 2 = (m2 : Int) := by rw [Int.tmod_eq_emod_of_nonneg (by omega)]; exact hm2I
      have hd2w : IntKind.u8.wrap (d2 : Int) = (d2 : Int) := by rw [IntKind.wrap_u8]; omega
      have hcat : ¬ 9223372036854775807 < body.length + f.body.length := by omega
      have F1 := Box.mk f1
      have F2 := Box.mk f2
      clear f1 f2 hm1 hd2 hm2 hfl
      by_cases hi0 : i = 0
      · have hz : ((i : Int) == 0) = true := by simp [hi0]
        have hziI : (i : Int) = 0 := by omega
        rw [if_pos hi0] at hone
        have HI0 := Box.mk hi0
        have HONE := Box.mk hone
        clear hi0 hone hziI
        obtain ⟨q2, hq2⟩ : ∃ q2, f.epoch % 2 = q2 := ⟨_, rfl⟩
        have hq2I : (f.epoch : Int) % 2 = (q2 : Int) := by omega
        have hq2T : (f.epoch : Int).tmod 2 = (q2 : Int) := by rw [Int.tmod_eq_emod_of_nonneg (by omega)]; exact hq2I
        have hq2w : IntKind.i64.wrap (q2 : Int) = (q2 : Int) := by rw [IntKind.wrap_i64]; omega
        have HQ2 := Box.mk hq2
        clear hq2
        by_cases c0 : code = 0
        · have e0 : ((code : Int) != 0) = false := by simp; omega
          have g0 : ((code : Int) == 0) = true := by simp; omega
          have C0 := Box.mk c0
          clear c0
          by_cases c1 : f.epoch ≠ 0
          · have e1 : ((f.epoch : Int) == 0) = false := by simp; omega
            have g1 : ((f.epoch : Int) != 0) = true := by simp; omega
            have C1 := Box.mk c1
            clear c1
            by_cases c2 : q2 = which
            · have e2 : ((q2 : Int) != (which : Int)) = false := by simp; omega
              have g2 : ((q2 : Int) == (which : Int)) = true := by simp; omega
              have C2 := Box.mk c2
              clear c2
              by_cases c3 : f.seq = i
              · have e3 : ((f.seq : Int) != (i : Int)) = false := by simp; omega
                have g3 : ((f.seq : Int) == (i : Int)) = true := by simp; omega
                have C3 := Box.mk c3
                clear c3
                by_cases c4 : m1 = 1
                · have e4 : ((m1 : Int) == 1) = true := by simp; omega
                  have g4 : ((m1 : Int) != 1) = false := by simp; omega
                  have C4 := Box.mk c4
                  clear c4
                  have HN : Box (slNext which i f.epoch f code = true) := ⟨by have c0 := C0.out; have c1 := C1.out; have c2 := C2.out; have c3 := C3.out; have c4 := C4.out; have hq2 := HQ2.out; have f1 := F1.out; have hi0 := HI0.out; unfold slNext; rw [f1]; simp [*]⟩
                  have hone2 := HONE.out
                  rw [if_pos HN.out, F2.out] at hone2
                  have HONE2 := Box.mk hone2
                  clear hone2
                  by_cases h2 : m2 = 1
                  · have e9 : ((m2 : Int) == 1) = true := by simp; omega
                    have hl := HONE2.out
                    rw [if_pos (by simp [h2])] at hl
                    have HRES := Box.mk hl
                    clear hl h2
                    go_wp2_with (first
                      | (guard_target = wpList _ _ _ (⟨some 37, .load _ _, _, _, _, _⟩ :: _) _ _; refine wpl (o := ⟨some 37, .load _ _, _, _, _, _⟩) rfl fun K hK => op_load_agg rfl (b := b4) (i := 0) rfl ([.slice As D.secs.length cs, .slice Aa D.row.length ca, .slice Ar D.row.length cr]) (range_whole hs (by (try dsimp only [List.set]); repeat (first | with_reducible exact List.mem_cons_self | with_reducible apply List.mem_cons_of_mem))) (by kernel_rfl) (by kernel_rfl) (hK _ _ ?_); clear hK K)
                      | (go_at_call 55; go_must (refine (HRD.out _ _ (hs.pick (A := ref (.slice As D.secs.length cs) (.slice Aa D.row.length ca) (.slice Ar D.row.length cr) D) (by repeat (first | with_reducible exact Pick.here | with_reducible apply Pick.there)))).mono ?_); clear hs; rintro e w1 ⟨rfl, hs⟩)
                      | (go_at_call 57; go_must (refine (HPA.out _ _ hs).mono ?_); clear hs; rintro e w1 ⟨rfl, hs⟩)
                      | (guard_target = wpList _ _ _ (⟨some 16, .alloc _, _, _, _, _⟩ :: _) _ _; refine wpl (o := ⟨some 16, .alloc _, _, _, _, _⟩) rfl fun K hK => ?_; go_must (refine op_alloc hs rfl _ zrframe [.int .u32 0, .int .u32 0, .int .u8 0, .string ⟨#[]⟩] rfl fun b16 w1 h => hK _ _ ?_); clear hs hK K; have hs := h; clear h; try dsimp only [List.set] at hs)
                      | (guard_target = wpList _ _ _ (⟨none, .store _ (.tmp 16) _, _, _, _, _⟩ :: _) _ _; refine wpl (o := ⟨none, .store _ (.tmp 16) _, _, _, _, _⟩) rfl fun K hK => ?_; go_must (refine op_store_whole hs (b := b16) rfl rfl (rCells f) rfl (by simp [rCells, Value.oneCell']) (by kernel_rfl) (k := 0) rfl rfl fun w9 h => hK _ _ ?_); clear hs hK K; have hs := h; clear h; dsimp only [List.set] at hs
                         have k0 : w9.cell? ⟨b16, 0, none⟩ = some (.int .u32 (f.epoch : Nat)) := hs.cell (l := rCells f) (t := 125) (by (try dsimp only [List.set]); repeat (first | with_reducible exact List.mem_cons_self | with_reducible apply List.mem_cons_of_mem)) rfl
                         have k1 : w9.cell? ⟨b16, 1, none⟩ = some (.int .u32 (f.seq : Nat)) := hs.cell (l := rCells f) (t := 125) (by (try dsimp only [List.set]); repeat (first | with_reducible exact List.mem_cons_self | with_reducible apply List.mem_cons_of_mem)) rfl
                         have k2 : w9.cell? ⟨b16, 2, none⟩ = some (.int .u8 f.flag.toNat) := hs.cell (l := rCells f) (t := 125) (by (try dsimp only [List.set]); repeat (first | with_reducible exact List.mem_cons_self | with_reducible apply List.mem_cons_of_mem)) rfl
                         have k3 : w9.cell? ⟨b16, 3, none⟩ = some (.string ⟨f.body.toArray⟩) := hs.cell (l := rCells f) (t := 125) (by (try dsimp only [List.set]); repeat (first | with_reducible exact List.mem_cons_self | with_reducible apply List.mem_cons_of_mem)) rfl)
                      | (guard_target = wpList _ _ _ (⟨some 56, .load _ _, _, _, _, _⟩ :: _) _ _; refine wpl (o := ⟨some 56, .load _ _, _, _, _, _⟩) rfl fun K hK => op_load rfl (ad := ⟨b16, 0, none⟩) rfl (by kernel_rfl) k0 (hK _ _ ?_); clear hK K)
                      | (guard_target = wpList _ _ _ (⟨some 72, .load _ _, _, _, _, _⟩ :: _) _ _; refine wpl (o := ⟨some 72, .load _ _, _, _, _, _⟩) rfl fun K hK => op_load rfl (ad := ⟨b16, 0, none⟩) rfl (by kernel_rfl) k0 (hK _ _ ?_); clear hK K)
                      | (guard_target = wpList _ _ _ (⟨some 78, .load _ _, _, _, _, _⟩ :: _) _ _; refine wpl (o := ⟨some 78, .load _ _, _, _, _, _⟩) rfl fun K hK => op_load rfl (ad := ⟨b16, 1, none⟩) rfl (by kernel_rfl) k1 (hK _ _ ?_); clear hK K)
                      | (guard_target = wpList _ _ _ (⟨some 85, .load _ _, _, _, _, _⟩ :: _) _ _; refine wpl (o := ⟨some 85, .load _ _, _, _, _, _⟩) rfl fun K hK => op_load rfl (ad := ⟨b16, 2, none⟩) rfl (by kernel_rfl) k2 (hK _ _ ?_); clear hK K)
                      | (guard_target = wpList _ _ _ (⟨some 94, .load _ _, _, _, _, _⟩ :: _) _ _; refine wpl (o := ⟨some 94, .load _ _, _, _, _, _⟩) rfl fun K hK => op_load rfl (ad := ⟨b16, 3, none⟩) rfl (by kernel_rfl) k3 (hK _ _ ?_); clear hK K)
                      | (guard_target = wpList _ _ _ (⟨some 97, .load _ _, _, _, _, _⟩ :: _) _ _; refine wpl (o := ⟨some 97, .load _ _, _, _, _, _⟩) rfl fun K hK => op_load rfl (ad := ⟨b16, 2, none⟩) rfl (by kernel_rfl) k2 (hK _ _ ?_); clear hK K))
                    (try simp only [Exit.inBlock, Exit.then])
                    refine bodyPost_ret (res_tmp3 rfl _ _ _) rfl ?_
                    rw [← HRES.out]
                    refine ⟨?_, hs.pack (by repeat (first | with_reducible exact Pack.refl | with_reducible exact Pack.nil | with_reducible refine Pack.cons (by repeat (first | with_reducible exact Pick.here | with_reducible apply Pick.there)) ?_ | with_reducible apply Pack.drop))⟩
                    show Ending.returned (.tuple #[_, .string (⟨body.toArray⟩ ++ ⟨f.body.toArray⟩), _]) = _
                    rw [str_app]
                    rfl
                  · have e9 : ((m2 : Int) == 1) = false := by simp; omega
                    have hl := HONE2.out
                    rw [if_neg (by simp [h2])] at hl
                    have HRES := Box.mk hl
                    clear hl h2
                    go_wp2_with (first
                      | (guard_target = wpList _ _ _ (⟨some 37, .load _ _, _, _, _, _⟩ :: _) _ _; refine wpl (o := ⟨some 37, .load _ _, _, _, _, _⟩) rfl fun K hK => op_load_agg rfl (b := b4) (i := 0) rfl ([.slice As D.secs.length cs, .slice Aa D.row.length ca, .slice Ar D.row.length cr]) (range_whole hs (by (try dsimp only [List.set]); repeat (first | with_reducible exact List.mem_cons_self | with_reducible apply List.mem_cons_of_mem))) (by kernel_rfl) (by kernel_rfl) (hK _ _ ?_); clear hK K)
                      | (go_at_call 55; go_must (refine (HRD.out _ _ (hs.pick (A := ref (.slice As D.secs.length cs) (.slice Aa D.row.length ca) (.slice Ar D.row.length cr) D) (by repeat (first | with_reducible exact Pick.here | with_reducible apply Pick.there)))).mono ?_); clear hs; rintro e w1 ⟨rfl, hs⟩)
                      | (go_at_call 57; go_must (refine (HPA.out _ _ hs).mono ?_); clear hs; rintro e w1 ⟨rfl, hs⟩)
                      | (guard_target = wpList _ _ _ (⟨some 16, .alloc _, _, _, _, _⟩ :: _) _ _; refine wpl (o := ⟨some 16, .alloc _, _, _, _, _⟩) rfl fun K hK => ?_; go_must (refine op_alloc hs rfl _ zrframe [.int .u32 0, .int .u32 0, .int .u8 0, .string ⟨#[]⟩] rfl fun b16 w1 h => hK _ _ ?_); clear hs hK K; have hs := h; clear h; try dsimp only [List.set] at hs)
                      | (guard_target = wpList _ _ _ (⟨none, .store _ (.tmp 16) _, _, _, _, _⟩ :: _) _ _; refine wpl (o := ⟨none, .store _ (.tmp 16) _, _, _, _, _⟩) rfl fun K hK => ?_; go_must (refine op_store_whole hs (b := b16) rfl rfl (rCells f) rfl (by simp [rCells, Value.oneCell']) (by kernel_rfl) (k := 0) rfl rfl fun w9 h => hK _ _ ?_); clear hs hK K; have hs := h; clear h; dsimp only [List.set] at hs
                         have k0 : w9.cell? ⟨b16, 0, none⟩ = some (.int .u32 (f.epoch : Nat)) := hs.cell (l := rCells f) (t := 125) (by (try dsimp only [List.set]); repeat (first | with_reducible exact List.mem_cons_self | with_reducible apply List.mem_cons_of_mem)) rfl
                         have k1 : w9.cell? ⟨b16, 1, none⟩ = some (.int .u32 (f.seq : Nat)) := hs.cell (l := rCells f) (t := 125) (by (try dsimp only [List.set]); repeat (first | with_reducible exact List.mem_cons_self | with_reducible apply List.mem_cons_of_mem)) rfl
                         have k2 : w9.cell? ⟨b16, 2, none⟩ = some (.int .u8 f.flag.toNat) := hs.cell (l := rCells f) (t := 125) (by (try dsimp only [List.set]); repeat (first | with_reducible exact List.mem_cons_self | with_reducible apply List.mem_cons_of_mem)) rfl
                         have k3 : w9.cell? ⟨b16, 3, none⟩ = some (.string ⟨f.body.toArray⟩) := hs.cell (l := rCells f) (t := 125) (by (try dsimp only [List.set]); repeat (first | with_reducible exact List.mem_cons_self | with_reducible apply List.mem_cons_of_mem)) rfl)
                      | (guard_target = wpList _ _ _ (⟨some 56, .load _ _, _, _, _, _⟩ :: _) _ _; refine wpl (o := ⟨some 56, .load _ _, _, _, _, _⟩) rfl fun K hK => op_load rfl (ad := ⟨b16, 0, none⟩) rfl (by kernel_rfl) k0 (hK _ _ ?_); clear hK K)
                      | (guard_target = wpList _ _ _ (⟨some 72, .load _ _, _, _, _, _⟩ :: _) _ _; refine wpl (o := ⟨some 72, .load _ _, _, _, _, _⟩) rfl fun K hK => op_load rfl (ad := ⟨b16, 0, none⟩) rfl (by kernel_rfl) k0 (hK _ _ ?_); clear hK K)
                      | (guard_target = wpList _ _ _ (⟨some 78, .load _ _, _, _, _, _⟩ :: _) _ _; refine wpl (o := ⟨some 78, .load _ _, _, _, _, _⟩) rfl fun K hK => op_load rfl (ad := ⟨b16, 1, none⟩) rfl (by kernel_rfl) k1 (hK _ _ ?_); clear hK K)
                      | (guard_target = wpList _ _ _ (⟨some 85, .load _ _, _, _, _, _⟩ :: _) _ _; refine wpl (o := ⟨some 85, .load _ _, _, _, _, _⟩) rfl fun K hK => op_load rfl (ad := ⟨b16, 2, none⟩) rfl (by kernel_rfl) k2 (hK _ _ ?_); clear hK K)
                      | (guard_target = wpList _ _ _ (⟨some 94, .load _ _, _, _, _, _⟩ :: _) _ _; refine wpl (o := ⟨some 94, .load _ _, _, _, _, _⟩) rfl fun K hK => op_load rfl (ad := ⟨b16, 3, none⟩) rfl (by kernel_rfl) k3 (hK _ _ ?_); clear hK K)
                      | (guard_target = wpList _ _ _ (⟨some 97, .load _ _, _, _, _, _⟩ :: _) _ _; refine wpl (o := ⟨some 97, .load _ _, _, _, _, _⟩) rfl fun K hK => op_load rfl (ad := ⟨b16, 2, none⟩) rfl (by kernel_rfl) k2 (hK _ _ ?_); clear hK K))
                    refine ⟨⟨i + 1, f.epoch, body ++ f.body, by omega, p2, by simp; omega, ⟨by rw [hk2]; exact HRES.out⟩, ?_, rfl, by go_num, hs.pack (by repeat (first | with_reducible exact Pack.refl | with_reducible exact Pack.nil | with_reducible refine Pack.cons (by repeat (first | with_reducible exact Pick.here | with_reducible apply Pick.there)) ?_ | with_reducible apply Pack.drop))⟩, by simp only [intOf]; omega⟩
                    exact congrArg Value.string (str_app body f.body)
                · have e4 : ((m1 : Int) == 1) = false := by simp; omega
                  have g4 : ((m1 : Int) != 1) = true := by simp; omega
                  have HN : Box (¬ slNext which i f.epoch f code = true) := ⟨by have c0 := C0.out; have c1 := C1.out; have c2 := C2.out; have c3 := C3.out; have hq2 := HQ2.out; have f1 := F1.out; have hi0 := HI0.out; intro hn; unfold slNext at hn; simp only [Bool.and_eq_true, decide_eq_true_eq, beq_iff_eq] at hn; obtain ⟨⟨⟨⟨⟨x1, x2⟩, x3⟩, x4⟩, x5⟩, x6⟩ := hn; rw [f1] at x6; first | omega | (simp [*] at x6; omega) | (simp [*] at x6)⟩
                  have hres := HONE.out
                  rw [if_neg HN.out] at hres
                  have HRES := Box.mk hres.symm
                  clear hres c4
                  go_wp2_with (first
                    | (guard_target = wpList _ _ _ (⟨some 37, .load _ _, _, _, _, _⟩ :: _) _ _; refine wpl (o := ⟨some 37, .load _ _, _, _, _, _⟩) rfl fun K hK => op_load_agg rfl (b := b4) (i := 0) rfl ([.slice As D.secs.length cs, .slice Aa D.row.length ca, .slice Ar D.row.length cr]) (range_whole hs (by (try dsimp only [List.set]); repeat (first | with_reducible exact List.mem_cons_self | with_reducible apply List.mem_cons_of_mem))) (by kernel_rfl) (by kernel_rfl) (hK _ _ ?_); clear hK K)
                    | (go_at_call 55; go_must (refine (HRD.out _ _ (hs.pick (A := ref (.slice As D.secs.length cs) (.slice Aa D.row.length ca) (.slice Ar D.row.length cr) D) (by repeat (first | with_reducible exact Pick.here | with_reducible apply Pick.there)))).mono ?_); clear hs; rintro e w1 ⟨rfl, hs⟩)
                    | (go_at_call 57; go_must (refine (HPA.out _ _ hs).mono ?_); clear hs; rintro e w1 ⟨rfl, hs⟩)
                    | (guard_target = wpList _ _ _ (⟨some 16, .alloc _, _, _, _, _⟩ :: _) _ _; refine wpl (o := ⟨some 16, .alloc _, _, _, _, _⟩) rfl fun K hK => ?_; go_must (refine op_alloc hs rfl _ zrframe [.int .u32 0, .int .u32 0, .int .u8 0, .string ⟨#[]⟩] rfl fun b16 w1 h => hK _ _ ?_); clear hs hK K; have hs := h; clear h; try dsimp only [List.set] at hs)
                    | (guard_target = wpList _ _ _ (⟨none, .store _ (.tmp 16) _, _, _, _, _⟩ :: _) _ _; refine wpl (o := ⟨none, .store _ (.tmp 16) _, _, _, _, _⟩) rfl fun K hK => ?_; go_must (refine op_store_whole hs (b := b16) rfl rfl (rCells f) rfl (by simp [rCells, Value.oneCell']) (by kernel_rfl) (k := 0) rfl rfl fun w9 h => hK _ _ ?_); clear hs hK K; have hs := h; clear h; dsimp only [List.set] at hs
                       have k0 : w9.cell? ⟨b16, 0, none⟩ = some (.int .u32 (f.epoch : Nat)) := hs.cell (l := rCells f) (t := 125) (by (try dsimp only [List.set]); repeat (first | with_reducible exact List.mem_cons_self | with_reducible apply List.mem_cons_of_mem)) rfl
                       have k1 : w9.cell? ⟨b16, 1, none⟩ = some (.int .u32 (f.seq : Nat)) := hs.cell (l := rCells f) (t := 125) (by (try dsimp only [List.set]); repeat (first | with_reducible exact List.mem_cons_self | with_reducible apply List.mem_cons_of_mem)) rfl
                       have k2 : w9.cell? ⟨b16, 2, none⟩ = some (.int .u8 f.flag.toNat) := hs.cell (l := rCells f) (t := 125) (by (try dsimp only [List.set]); repeat (first | with_reducible exact List.mem_cons_self | with_reducible apply List.mem_cons_of_mem)) rfl
                       have k3 : w9.cell? ⟨b16, 3, none⟩ = some (.string ⟨f.body.toArray⟩) := hs.cell (l := rCells f) (t := 125) (by (try dsimp only [List.set]); repeat (first | with_reducible exact List.mem_cons_self | with_reducible apply List.mem_cons_of_mem)) rfl)
                    | (guard_target = wpList _ _ _ (⟨some 56, .load _ _, _, _, _, _⟩ :: _) _ _; refine wpl (o := ⟨some 56, .load _ _, _, _, _, _⟩) rfl fun K hK => op_load rfl (ad := ⟨b16, 0, none⟩) rfl (by kernel_rfl) k0 (hK _ _ ?_); clear hK K)
                    | (guard_target = wpList _ _ _ (⟨some 72, .load _ _, _, _, _, _⟩ :: _) _ _; refine wpl (o := ⟨some 72, .load _ _, _, _, _, _⟩) rfl fun K hK => op_load rfl (ad := ⟨b16, 0, none⟩) rfl (by kernel_rfl) k0 (hK _ _ ?_); clear hK K)
                    | (guard_target = wpList _ _ _ (⟨some 78, .load _ _, _, _, _, _⟩ :: _) _ _; refine wpl (o := ⟨some 78, .load _ _, _, _, _, _⟩) rfl fun K hK => op_load rfl (ad := ⟨b16, 1, none⟩) rfl (by kernel_rfl) k1 (hK _ _ ?_); clear hK K)
                    | (guard_target = wpList _ _ _ (⟨some 85, .load _ _, _, _, _, _⟩ :: _) _ _; refine wpl (o := ⟨some 85, .load _ _, _, _, _, _⟩) rfl fun K hK => op_load rfl (ad := ⟨b16, 2, none⟩) rfl (by kernel_rfl) k2 (hK _ _ ?_); clear hK K)
                    | (guard_target = wpList _ _ _ (⟨some 94, .load _ _, _, _, _, _⟩ :: _) _ _; refine wpl (o := ⟨some 94, .load _ _, _, _, _, _⟩) rfl fun K hK => op_load rfl (ad := ⟨b16, 3, none⟩) rfl (by kernel_rfl) k3 (hK _ _ ?_); clear hK K)
                    | (guard_target = wpList _ _ _ (⟨some 97, .load _ _, _, _, _, _⟩ :: _) _ _; refine wpl (o := ⟨some 97, .load _ _, _, _, _, _⟩) rfl fun K hK => op_load rfl (ad := ⟨b16, 2, none⟩) rfl (by kernel_rfl) k2 (hK _ _ ?_); clear hK K))
                  (try simp only [Exit.inBlock, Exit.then])
                  refine bodyPost_ret (res_tmp3 rfl _ _ _) rfl ?_
                  rw [HRES.out]
                  exact ⟨rfl, hs.pack (by repeat (first | with_reducible exact Pack.refl | with_reducible exact Pack.nil | with_reducible refine Pack.cons (by repeat (first | with_reducible exact Pick.here | with_reducible apply Pick.there)) ?_ | with_reducible apply Pack.drop))⟩
              · have e3 : ((f.seq : Int) != (i : Int)) = true := by simp; omega
                have g3 : ((f.seq : Int) == (i : Int)) = false := by simp; omega
                have HN : Box (¬ slNext which i f.epoch f code = true) := ⟨by have c0 := C0.out; have c1 := C1.out; have c2 := C2.out; have hq2 := HQ2.out; have f1 := F1.out; have hi0 := HI0.out; intro hn; unfold slNext at hn; simp only [Bool.and_eq_true, decide_eq_true_eq, beq_iff_eq] at hn; obtain ⟨⟨⟨⟨⟨x1, x2⟩, x3⟩, x4⟩, x5⟩, x6⟩ := hn; rw [f1] at x6; first | omega | (simp [*] at x6; omega) | (simp [*] at x6)⟩
                have hres := HONE.out
                rw [if_neg HN.out] at hres
                have HRES := Box.mk hres.symm
                clear hres c3
                go_wp2_with (first
                  | (guard_target = wpList _ _ _ (⟨some 37, .load _ _, _, _, _, _⟩ :: _) _ _; refine wpl (o := ⟨some 37, .load _ _, _, _, _, _⟩) rfl fun K hK => op_load_agg rfl (b := b4) (i := 0) rfl ([.slice As D.secs.length cs, .slice Aa D.row.length ca, .slice Ar D.row.length cr]) (range_whole hs (by (try dsimp only [List.set]); repeat (first | with_reducible exact List.mem_cons_self | with_reducible apply List.mem_cons_of_mem))) (by kernel_rfl) (by kernel_rfl) (hK _ _ ?_); clear hK K)
                  | (go_at_call 55; go_must (refine (HRD.out _ _ (hs.pick (A := ref (.slice As D.secs.length cs) (.slice Aa D.row.length ca) (.slice Ar D.row.length cr) D) (by repeat (first | with_reducible exact Pick.here | with_reducible apply Pick.there)))).mono ?_); clear hs; rintro e w1 ⟨rfl, hs⟩)
                  | (go_at_call 57; go_must (refine (HPA.out _ _ hs).mono ?_); clear hs; rintro e w1 ⟨rfl, hs⟩)
                  | (guard_target = wpList _ _ _ (⟨some 16, .alloc _, _, _, _, _⟩ :: _) _ _; refine wpl (o := ⟨some 16, .alloc _, _, _, _, _⟩) rfl fun K hK => ?_; go_must (refine op_alloc hs rfl _ zrframe [.int .u32 0, .int .u32 0, .int .u8 0, .string ⟨#[]⟩] rfl fun b16 w1 h => hK _ _ ?_); clear hs hK K; have hs := h; clear h; try dsimp only [List.set] at hs)
                  | (guard_target = wpList _ _ _ (⟨none, .store _ (.tmp 16) _, _, _, _, _⟩ :: _) _ _; refine wpl (o := ⟨none, .store _ (.tmp 16) _, _, _, _, _⟩) rfl fun K hK => ?_; go_must (refine op_store_whole hs (b := b16) rfl rfl (rCells f) rfl (by simp [rCells, Value.oneCell']) (by kernel_rfl) (k := 0) rfl rfl fun w9 h => hK _ _ ?_); clear hs hK K; have hs := h; clear h; dsimp only [List.set] at hs
                     have k0 : w9.cell? ⟨b16, 0, none⟩ = some (.int .u32 (f.epoch : Nat)) := hs.cell (l := rCells f) (t := 125) (by (try dsimp only [List.set]); repeat (first | with_reducible exact List.mem_cons_self | with_reducible apply List.mem_cons_of_mem)) rfl
                     have k1 : w9.cell? ⟨b16, 1, none⟩ = some (.int .u32 (f.seq : Nat)) := hs.cell (l := rCells f) (t := 125) (by (try dsimp only [List.set]); repeat (first | with_reducible exact List.mem_cons_self | with_reducible apply List.mem_cons_of_mem)) rfl
                     have k2 : w9.cell? ⟨b16, 2, none⟩ = some (.int .u8 f.flag.toNat) := hs.cell (l := rCells f) (t := 125) (by (try dsimp only [List.set]); repeat (first | with_reducible exact List.mem_cons_self | with_reducible apply List.mem_cons_of_mem)) rfl
                     have k3 : w9.cell? ⟨b16, 3, none⟩ = some (.string ⟨f.body.toArray⟩) := hs.cell (l := rCells f) (t := 125) (by (try dsimp only [List.set]); repeat (first | with_reducible exact List.mem_cons_self | with_reducible apply List.mem_cons_of_mem)) rfl)
                  | (guard_target = wpList _ _ _ (⟨some 56, .load _ _, _, _, _, _⟩ :: _) _ _; refine wpl (o := ⟨some 56, .load _ _, _, _, _, _⟩) rfl fun K hK => op_load rfl (ad := ⟨b16, 0, none⟩) rfl (by kernel_rfl) k0 (hK _ _ ?_); clear hK K)
                  | (guard_target = wpList _ _ _ (⟨some 72, .load _ _, _, _, _, _⟩ :: _) _ _; refine wpl (o := ⟨some 72, .load _ _, _, _, _, _⟩) rfl fun K hK => op_load rfl (ad := ⟨b16, 0, none⟩) rfl (by kernel_rfl) k0 (hK _ _ ?_); clear hK K)
                  | (guard_target = wpList _ _ _ (⟨some 78, .load _ _, _, _, _, _⟩ :: _) _ _; refine wpl (o := ⟨some 78, .load _ _, _, _, _, _⟩) rfl fun K hK => op_load rfl (ad := ⟨b16, 1, none⟩) rfl (by kernel_rfl) k1 (hK _ _ ?_); clear hK K)
                  | (guard_target = wpList _ _ _ (⟨some 85, .load _ _, _, _, _, _⟩ :: _) _ _; refine wpl (o := ⟨some 85, .load _ _, _, _, _, _⟩) rfl fun K hK => op_load rfl (ad := ⟨b16, 2, none⟩) rfl (by kernel_rfl) k2 (hK _ _ ?_); clear hK K)
                  | (guard_target = wpList _ _ _ (⟨some 94, .load _ _, _, _, _, _⟩ :: _) _ _; refine wpl (o := ⟨some 94, .load _ _, _, _, _, _⟩) rfl fun K hK => op_load rfl (ad := ⟨b16, 3, none⟩) rfl (by kernel_rfl) k3 (hK _ _ ?_); clear hK K)
                  | (guard_target = wpList _ _ _ (⟨some 97, .load _ _, _, _, _, _⟩ :: _) _ _; refine wpl (o := ⟨some 97, .load _ _, _, _, _, _⟩) rfl fun K hK => op_load rfl (ad := ⟨b16, 2, none⟩) rfl (by kernel_rfl) k2 (hK _ _ ?_); clear hK K))
                (try simp only [Exit.inBlock, Exit.then])
                refine bodyPost_ret (res_tmp3 rfl _ _ _) rfl ?_
                rw [HRES.out]
                exact ⟨rfl, hs.pack (by repeat (first | with_reducible exact Pack.refl | with_reducible exact Pack.nil | with_reducible refine Pack.cons (by repeat (first | with_reducible exact Pick.here | with_reducible apply Pick.there)) ?_ | with_reducible apply Pack.drop))⟩
            · have e2 : ((q2 : Int) != (which : Int)) = true := by simp; omega
              have g2 : ((q2 : Int) == (which : Int)) = false := by simp; omega
              have HN : Box (¬ slNext which i f.epoch f code = true) := ⟨by have c0 := C0.out; have c1 := C1.out; have hq2 := HQ2.out; have f1 := F1.out; have hi0 := HI0.out; intro hn; unfold slNext at hn; simp only [Bool.and_eq_true, decide_eq_true_eq, beq_iff_eq] at hn; obtain ⟨⟨⟨⟨⟨x1, x2⟩, x3⟩, x4⟩, x5⟩, x6⟩ := hn; rw [f1] at x6; first | omega | (simp [*] at x6; omega) | (simp [*] at x6)⟩
              have hres := HONE.out
              rw [if_neg HN.out] at hres
              have HRES := Box.mk hres.symm
              clear hres c2
              go_wp2_with (first
                | (guard_target = wpList _ _ _ (⟨some 37, .load _ _, _, _, _, _⟩ :: _) _ _; refine wpl (o := ⟨some 37, .load _ _, _, _, _, _⟩) rfl fun K hK => op_load_agg rfl (b := b4) (i := 0) rfl ([.slice As D.secs.length cs, .slice Aa D.row.length ca, .slice Ar D.row.length cr]) (range_whole hs (by (try dsimp only [List.set]); repeat (first | with_reducible exact List.mem_cons_self | with_reducible apply List.mem_cons_of_mem))) (by kernel_rfl) (by kernel_rfl) (hK _ _ ?_); clear hK K)
                | (go_at_call 55; go_must (refine (HRD.out _ _ (hs.pick (A := ref (.slice As D.secs.length cs) (.slice Aa D.row.length ca) (.slice Ar D.row.length cr) D) (by repeat (first | with_reducible exact Pick.here | with_reducible apply Pick.there)))).mono ?_); clear hs; rintro e w1 ⟨rfl, hs⟩)
                | (go_at_call 57; go_must (refine (HPA.out _ _ hs).mono ?_); clear hs; rintro e w1 ⟨rfl, hs⟩)
                | (guard_target = wpList _ _ _ (⟨some 16, .alloc _, _, _, _, _⟩ :: _) _ _; refine wpl (o := ⟨some 16, .alloc _, _, _, _, _⟩) rfl fun K hK => ?_; go_must (refine op_alloc hs rfl _ zrframe [.int .u32 0, .int .u32 0, .int .u8 0, .string ⟨#[]⟩] rfl fun b16 w1 h => hK _ _ ?_); clear hs hK K; have hs := h; clear h; try dsimp only [List.set] at hs)
                | (guard_target = wpList _ _ _ (⟨none, .store _ (.tmp 16) _, _, _, _, _⟩ :: _) _ _; refine wpl (o := ⟨none, .store _ (.tmp 16) _, _, _, _, _⟩) rfl fun K hK => ?_; go_must (refine op_store_whole hs (b := b16) rfl rfl (rCells f) rfl (by simp [rCells, Value.oneCell']) (by kernel_rfl) (k := 0) rfl rfl fun w9 h => hK _ _ ?_); clear hs hK K; have hs := h; clear h; dsimp only [List.set] at hs
                   have k0 : w9.cell? ⟨b16, 0, none⟩ = some (.int .u32 (f.epoch : Nat)) := hs.cell (l := rCells f) (t := 125) (by (try dsimp only [List.set]); repeat (first | with_reducible exact List.mem_cons_self | with_reducible apply List.mem_cons_of_mem)) rfl
                   have k1 : w9.cell? ⟨b16, 1, none⟩ = some (.int .u32 (f.seq : Nat)) := hs.cell (l := rCells f) (t := 125) (by (try dsimp only [List.set]); repeat (first | with_reducible exact List.mem_cons_self | with_reducible apply List.mem_cons_of_mem)) rfl
                   have k2 : w9.cell? ⟨b16, 2, none⟩ = some (.int .u8 f.flag.toNat) := hs.cell (l := rCells f) (t := 125) (by (try dsimp only [List.set]); repeat (first | with_reducible exact List.mem_cons_self | with_reducible apply List.mem_cons_of_mem)) rfl
                   have k3 : w9.cell? ⟨b16, 3, none⟩ = some (.string ⟨f.body.toArray⟩) := hs.cell (l := rCells f) (t := 125) (by (try dsimp only [List.set]); repeat (first | with_reducible exact List.mem_cons_self | with_reducible apply List.mem_cons_of_mem)) rfl)
                | (guard_target = wpList _ _ _ (⟨some 56, .load _ _, _, _, _, _⟩ :: _) _ _; refine wpl (o := ⟨some 56, .load _ _, _, _, _, _⟩) rfl fun K hK => op_load rfl (ad := ⟨b16, 0, none⟩) rfl (by kernel_rfl) k0 (hK _ _ ?_); clear hK K)
                | (guard_target = wpList _ _ _ (⟨some 72, .load _ _, _, _, _, _⟩ :: _) _ _; refine wpl (o := ⟨some 72, .load _ _, _, _, _, _⟩) rfl fun K hK => op_load rfl (ad := ⟨b16, 0, none⟩) rfl (by kernel_rfl) k0 (hK _ _ ?_); clear hK K)
                | (guard_target = wpList _ _ _ (⟨some 78, .load _ _, _, _, _, _⟩ :: _) _ _; refine wpl (o := ⟨some 78, .load _ _, _, _, _, _⟩) rfl fun K hK => op_load rfl (ad := ⟨b16, 1, none⟩) rfl (by kernel_rfl) k1 (hK _ _ ?_); clear hK K)
                | (guard_target = wpList _ _ _ (⟨some 85, .load _ _, _, _, _, _⟩ :: _) _ _; refine wpl (o := ⟨some 85, .load _ _, _, _, _, _⟩) rfl fun K hK => op_load rfl (ad := ⟨b16, 2, none⟩) rfl (by kernel_rfl) k2 (hK _ _ ?_); clear hK K)
                | (guard_target = wpList _ _ _ (⟨some 94, .load _ _, _, _, _, _⟩ :: _) _ _; refine wpl (o := ⟨some 94, .load _ _, _, _, _, _⟩) rfl fun K hK => op_load rfl (ad := ⟨b16, 3, none⟩) rfl (by kernel_rfl) k3 (hK _ _ ?_); clear hK K)
                | (guard_target = wpList _ _ _ (⟨some 97, .load _ _, _, _, _, _⟩ :: _) _ _; refine wpl (o := ⟨some 97, .load _ _, _, _, _, _⟩) rfl fun K hK => op_load rfl (ad := ⟨b16, 2, none⟩) rfl (by kernel_rfl) k2 (hK _ _ ?_); clear hK K))
              (try simp only [Exit.inBlock, Exit.then])
              refine bodyPost_ret (res_tmp3 rfl _ _ _) rfl ?_
              rw [HRES.out]
              exact ⟨rfl, hs.pack (by repeat (first | with_reducible exact Pack.refl | with_reducible exact Pack.nil | with_reducible refine Pack.cons (by repeat (first | with_reducible exact Pick.here | with_reducible apply Pick.there)) ?_ | with_reducible apply Pack.drop))⟩
          · have e1 : ((f.epoch : Int) == 0) = true := by simp; omega
            have g1 : ((f.epoch : Int) != 0) = false := by simp; omega
            have HN : Box (¬ slNext which i f.epoch f code = true) := ⟨by have c0 := C0.out; have hq2 := HQ2.out; have f1 := F1.out; have hi0 := HI0.out; intro hn; unfold slNext at hn; simp only [Bool.and_eq_true, decide_eq_true_eq, beq_iff_eq] at hn; obtain ⟨⟨⟨⟨⟨x1, x2⟩, x3⟩, x4⟩, x5⟩, x6⟩ := hn; rw [f1] at x6; first | omega | (simp [*] at x6; omega) | (simp [*] at x6)⟩
            have hres := HONE.out
            rw [if_neg HN.out] at hres
            have HRES := Box.mk hres.symm
            clear hres c1
            go_wp2_with (first
              | (guard_target = wpList _ _ _ (⟨some 37, .load _ _, _, _, _, _⟩ :: _) _ _; refine wpl (o := ⟨some 37, .load _ _, _, _, _, _⟩) rfl fun K hK => op_load_agg rfl (b := b4) (i := 0) rfl ([.slice As D.secs.length cs, .slice Aa D.row.length ca, .slice Ar D.row.length cr]) (range_whole hs (by (try dsimp only [List.set]); repeat (first | with_reducible exact List.mem_cons_self | with_reducible apply List.mem_cons_of_mem))) (by kernel_rfl) (by kernel_rfl) (hK _ _ ?_); clear hK K)
              | (go_at_call 55; go_must (refine (HRD.out _ _ (hs.pick (A := ref (.slice As D.secs.length cs) (.slice Aa D.row.length ca) (.slice Ar D.row.length cr) D) (by repeat (first | with_reducible exact Pick.here | with_reducible apply Pick.there)))).mono ?_); clear hs; rintro e w1 ⟨rfl, hs⟩)
              | (go_at_call 57; go_must (refine (HPA.out _ _ hs).mono ?_); clear hs; rintro e w1 ⟨rfl, hs⟩)
              | (guard_target = wpList _ _ _ (⟨some 16, .alloc _, _, _, _, _⟩ :: _) _ _; refine wpl (o := ⟨some 16, .alloc _, _, _, _, _⟩) rfl fun K hK => ?_; go_must (refine op_alloc hs rfl _ zrframe [.int .u32 0, .int .u32 0, .int .u8 0, .string ⟨#[]⟩] rfl fun b16 w1 h => hK _ _ ?_); clear hs hK K; have hs := h; clear h; try dsimp only [List.set] at hs)
              | (guard_target = wpList _ _ _ (⟨none, .store _ (.tmp 16) _, _, _, _, _⟩ :: _) _ _; refine wpl (o := ⟨none, .store _ (.tmp 16) _, _, _, _, _⟩) rfl fun K hK => ?_; go_must (refine op_store_whole hs (b := b16) rfl rfl (rCells f) rfl (by simp [rCells, Value.oneCell']) (by kernel_rfl) (k := 0) rfl rfl fun w9 h => hK _ _ ?_); clear hs hK K; have hs := h; clear h; dsimp only [List.set] at hs
                 have k0 : w9.cell? ⟨b16, 0, none⟩ = some (.int .u32 (f.epoch : Nat)) := hs.cell (l := rCells f) (t := 125) (by (try dsimp only [List.set]); repeat (first | with_reducible exact List.mem_cons_self | with_reducible apply List.mem_cons_of_mem)) rfl
                 have k1 : w9.cell? ⟨b16, 1, none⟩ = some (.int .u32 (f.seq : Nat)) := hs.cell (l := rCells f) (t := 125) (by (try dsimp only [List.set]); repeat (first | with_reducible exact List.mem_cons_self | with_reducible apply List.mem_cons_of_mem)) rfl
                 have k2 : w9.cell? ⟨b16, 2, none⟩ = some (.int .u8 f.flag.toNat) := hs.cell (l := rCells f) (t := 125) (by (try dsimp only [List.set]); repeat (first | with_reducible exact List.mem_cons_self | with_reducible apply List.mem_cons_of_mem)) rfl
                 have k3 : w9.cell? ⟨b16, 3, none⟩ = some (.string ⟨f.body.toArray⟩) := hs.cell (l := rCells f) (t := 125) (by (try dsimp only [List.set]); repeat (first | with_reducible exact List.mem_cons_self | with_reducible apply List.mem_cons_of_mem)) rfl)
              | (guard_target = wpList _ _ _ (⟨some 56, .load _ _, _, _, _, _⟩ :: _) _ _; refine wpl (o := ⟨some 56, .load _ _, _, _, _, _⟩) rfl fun K hK => op_load rfl (ad := ⟨b16, 0, none⟩) rfl (by kernel_rfl) k0 (hK _ _ ?_); clear hK K)
              | (guard_target = wpList _ _ _ (⟨some 72, .load _ _, _, _, _, _⟩ :: _) _ _; refine wpl (o := ⟨some 72, .load _ _, _, _, _, _⟩) rfl fun K hK => op_load rfl (ad := ⟨b16, 0, none⟩) rfl (by kernel_rfl) k0 (hK _ _ ?_); clear hK K)
              | (guard_target = wpList _ _ _ (⟨some 78, .load _ _, _, _, _, _⟩ :: _) _ _; refine wpl (o := ⟨some 78, .load _ _, _, _, _, _⟩) rfl fun K hK => op_load rfl (ad := ⟨b16, 1, none⟩) rfl (by kernel_rfl) k1 (hK _ _ ?_); clear hK K)
              | (guard_target = wpList _ _ _ (⟨some 85, .load _ _, _, _, _, _⟩ :: _) _ _; refine wpl (o := ⟨some 85, .load _ _, _, _, _, _⟩) rfl fun K hK => op_load rfl (ad := ⟨b16, 2, none⟩) rfl (by kernel_rfl) k2 (hK _ _ ?_); clear hK K)
              | (guard_target = wpList _ _ _ (⟨some 94, .load _ _, _, _, _, _⟩ :: _) _ _; refine wpl (o := ⟨some 94, .load _ _, _, _, _, _⟩) rfl fun K hK => op_load rfl (ad := ⟨b16, 3, none⟩) rfl (by kernel_rfl) k3 (hK _ _ ?_); clear hK K)
              | (guard_target = wpList _ _ _ (⟨some 97, .load _ _, _, _, _, _⟩ :: _) _ _; refine wpl (o := ⟨some 97, .load _ _, _, _, _, _⟩) rfl fun K hK => op_load rfl (ad := ⟨b16, 2, none⟩) rfl (by kernel_rfl) k2 (hK _ _ ?_); clear hK K))
            (try simp only [Exit.inBlock, Exit.then])
            refine bodyPost_ret (res_tmp3 rfl _ _ _) rfl ?_
            rw [HRES.out]
            exact ⟨rfl, hs.pack (by repeat (first | with_reducible exact Pack.refl | with_reducible exact Pack.nil | with_reducible refine Pack.cons (by repeat (first | with_reducible exact Pick.here | with_reducible apply Pick.there)) ?_ | with_reducible apply Pack.drop))⟩
        · have e0 : ((code : Int) != 0) = true := by simp; omega
          have g0 : ((code : Int) == 0) = false := by simp; omega
          have HN : Box (¬ slNext which i f.epoch f code = true) := ⟨by have hq2 := HQ2.out; have f1 := F1.out; have hi0 := HI0.out; intro hn; unfold slNext at hn; simp only [Bool.and_eq_true, decide_eq_true_eq, beq_iff_eq] at hn; obtain ⟨⟨⟨⟨⟨x1, x2⟩, x3⟩, x4⟩, x5⟩, x6⟩ := hn; rw [f1] at x6; first | omega | (simp [*] at x6; omega) | (simp [*] at x6)⟩
          have hres := HONE.out
          rw [if_neg HN.out] at hres
          have HRES := Box.mk hres.symm
          clear hres c0
          go_wp2_with (first
            | (guard_target = wpList _ _ _ (⟨some 37, .load _ _, _, _, _, _⟩ :: _) _ _; refine wpl (o := ⟨some 37, .load _ _, _, _, _, _⟩) rfl fun K hK => op_load_agg rfl (b := b4) (i := 0) rfl ([.slice As D.secs.length cs, .slice Aa D.row.length ca, .slice Ar D.row.length cr]) (range_whole hs (by (try dsimp only [List.set]); repeat (first | with_reducible exact List.mem_cons_self | with_reducible apply List.mem_cons_of_mem))) (by kernel_rfl) (by kernel_rfl) (hK _ _ ?_); clear hK K)
            | (go_at_call 55; go_must (refine (HRD.out _ _ (hs.pick (A := ref (.slice As D.secs.length cs) (.slice Aa D.row.length ca) (.slice Ar D.row.length cr) D) (by repeat (first | with_reducible exact Pick.here | with_reducible apply Pick.there)))).mono ?_); clear hs; rintro e w1 ⟨rfl, hs⟩)
            | (go_at_call 57; go_must (refine (HPA.out _ _ hs).mono ?_); clear hs; rintro e w1 ⟨rfl, hs⟩)
            | (guard_target = wpList _ _ _ (⟨some 16, .alloc _, _, _, _, _⟩ :: _) _ _; refine wpl (o := ⟨some 16, .alloc _, _, _, _, _⟩) rfl fun K hK => ?_; go_must (refine op_alloc hs rfl _ zrframe [.int .u32 0, .int .u32 0, .int .u8 0, .string ⟨#[]⟩] rfl fun b16 w1 h => hK _ _ ?_); clear hs hK K; have hs := h; clear h; try dsimp only [List.set] at hs)
            | (guard_target = wpList _ _ _ (⟨none, .store _ (.tmp 16) _, _, _, _, _⟩ :: _) _ _; refine wpl (o := ⟨none, .store _ (.tmp 16) _, _, _, _, _⟩) rfl fun K hK => ?_; go_must (refine op_store_whole hs (b := b16) rfl rfl (rCells f) rfl (by simp [rCells, Value.oneCell']) (by kernel_rfl) (k := 0) rfl rfl fun w9 h => hK _ _ ?_); clear hs hK K; have hs := h; clear h; dsimp only [List.set] at hs
               have k0 : w9.cell? ⟨b16, 0, none⟩ = some (.int .u32 (f.epoch : Nat)) := hs.cell (l := rCells f) (t := 125) (by (try dsimp only [List.set]); repeat (first | with_reducible exact List.mem_cons_self | with_reducible apply List.mem_cons_of_mem)) rfl
               have k1 : w9.cell? ⟨b16, 1, none⟩ = some (.int .u32 (f.seq : Nat)) := hs.cell (l := rCells f) (t := 125) (by (try dsimp only [List.set]); repeat (first | with_reducible exact List.mem_cons_self | with_reducible apply List.mem_cons_of_mem)) rfl
               have k2 : w9.cell? ⟨b16, 2, none⟩ = some (.int .u8 f.flag.toNat) := hs.cell (l := rCells f) (t := 125) (by (try dsimp only [List.set]); repeat (first | with_reducible exact List.mem_cons_self | with_reducible apply List.mem_cons_of_mem)) rfl
               have k3 : w9.cell? ⟨b16, 3, none⟩ = some (.string ⟨f.body.toArray⟩) := hs.cell (l := rCells f) (t := 125) (by (try dsimp only [List.set]); repeat (first | with_reducible exact List.mem_cons_self | with_reducible apply List.mem_cons_of_mem)) rfl)
            | (guard_target = wpList _ _ _ (⟨some 56, .load _ _, _, _, _, _⟩ :: _) _ _; refine wpl (o := ⟨some 56, .load _ _, _, _, _, _⟩) rfl fun K hK => op_load rfl (ad := ⟨b16, 0, none⟩) rfl (by kernel_rfl) k0 (hK _ _ ?_); clear hK K)
            | (guard_target = wpList _ _ _ (⟨some 72, .load _ _, _, _, _, _⟩ :: _) _ _; refine wpl (o := ⟨some 72, .load _ _, _, _, _, _⟩) rfl fun K hK => op_load rfl (ad := ⟨b16, 0, none⟩) rfl (by kernel_rfl) k0 (hK _ _ ?_); clear hK K)
            | (guard_target = wpList _ _ _ (⟨some 78, .load _ _, _, _, _, _⟩ :: _) _ _; refine wpl (o := ⟨some 78, .load _ _, _, _, _, _⟩) rfl fun K hK => op_load rfl (ad := ⟨b16, 1, none⟩) rfl (by kernel_rfl) k1 (hK _ _ ?_); clear hK K)
            | (guard_target = wpList _ _ _ (⟨some 85, .load _ _, _, _, _, _⟩ :: _) _ _; refine wpl (o := ⟨some 85, .load _ _, _, _, _, _⟩) rfl fun K hK => op_load rfl (ad := ⟨b16, 2, none⟩) rfl (by kernel_rfl) k2 (hK _ _ ?_); clear hK K)
            | (guard_target = wpList _ _ _ (⟨some 94, .load _ _, _, _, _, _⟩ :: _) _ _; refine wpl (o := ⟨some 94, .load _ _, _, _, _, _⟩) rfl fun K hK => op_load rfl (ad := ⟨b16, 3, none⟩) rfl (by kernel_rfl) k3 (hK _ _ ?_); clear hK K)
            | (guard_target = wpList _ _ _ (⟨some 97, .load _ _, _, _, _, _⟩ :: _) _ _; refine wpl (o := ⟨some 97, .load _ _, _, _, _, _⟩) rfl fun K hK => op_load rfl (ad := ⟨b16, 2, none⟩) rfl (by kernel_rfl) k2 (hK _ _ ?_); clear hK K))
          (try simp only [Exit.inBlock, Exit.then])
          refine bodyPost_ret (res_tmp3 rfl _ _ _) rfl ?_
          rw [HRES.out]
          exact ⟨rfl, hs.pack (by repeat (first | with_reducible exact Pack.refl | with_reducible exact Pack.nil | with_reducible refine Pack.cons (by repeat (first | with_reducible exact Pick.here | with_reducible apply Pick.there)) ?_ | with_reducible apply Pack.drop))⟩
      · have hz : ((i : Int) == 0) = false := by simp [hi0]
        rw [if_neg hi0] at hone
        have HI0 := Box.mk hi0
        have HONE := Box.mk hone
        clear hi0 hone
        obtain ⟨q2, hq2⟩ : ∃ q2, gen % 2 = q2 := ⟨_, rfl⟩
        have hq2I : (gen : Int) % 2 = (q2 : Int) := by omega
        have hq2T : (gen : Int).tmod 2 = (q2 : Int) := by rw [Int.tmod_eq_emod_of_nonneg (by omega)]; exact hq2I
        have hq2w : IntKind.i64.wrap (q2 : Int) = (q2 : Int) := by rw [IntKind.wrap_i64]; omega
        have HQ2 := Box.mk hq2
        clear hq2
        by_cases c0 : code = 0
        · have e0 : ((code : Int) != 0) = false := by simp; omega
          have g0 : ((code : Int) == 0) = true := by simp; omega
          have C0 := Box.mk c0
          clear c0
          by_cases c1 : gen ≠ 0
          · have e1 : ((gen : Int) == 0) = false := by simp; omega
            have g1 : ((gen : Int) != 0) = true := by simp; omega
            have C1 := Box.mk c1
            clear c1
            by_cases c2 : q2 = which
            · have e2 : ((q2 : Int) != (which : Int)) = false := by simp; omega
              have g2 : ((q2 : Int) == (which : Int)) = true := by simp; omega
              have C2 := Box.mk c2
              clear c2
              by_cases c3 : f.epoch = gen
              · have e3 : ((f.epoch : Int) != (gen : Int)) = false := by simp; omega
                have g3 : ((f.epoch : Int) == (gen : Int)) = true := by simp; omega
                have C3 := Box.mk c3
                clear c3
                by_cases c4 : f.seq = i
                · have e4 : ((f.seq : Int) != (i : Int)) = false := by simp; omega
                  have g4 : ((f.seq : Int) == (i : Int)) = true := by simp; omega
                  have C4 := Box.mk c4
                  clear c4
                  by_cases c5 : ¬ m1 = 1
                  · have e5 : ((m1 : Int) == 1) = false := by simp; omega
                    have g5 : ((m1 : Int) != 1) = true := by simp; omega
                    have C5 := Box.mk c5
                    clear c5
                    have HN : Box (slNext which i gen f code = true) := ⟨by have c0 := C0.out; have c1 := C1.out; have c2 := C2.out; have c3 := C3.out; have c4 := C4.out; have c5 := C5.out; have hq2 := HQ2.out; have f1 := F1.out; have hi0 := HI0.out; unfold slNext; rw [f1]; simp [*]⟩
                    have hone2 := HONE.out
                    rw [if_pos HN.out, F2.out] at hone2
                    have HONE2 := Box.mk hone2
                    clear hone2
                    by_cases h2 : m2 = 1
                    · have e9 : ((m2 : Int) == 1) = true := by simp; omega
                      have hl := HONE2.out
                      rw [if_pos (by simp [h2])] at hl
                      have HRES := Box.mk hl
                      clear hl h2
                      go_wp2_with (first
                        | (guard_target = wpList _ _ _ (⟨some 37, .load _ _, _, _, _, _⟩ :: _) _ _; refine wpl (o := ⟨some 37, .load _ _, _, _, _, _⟩) rfl fun K hK => op_load_agg rfl (b := b4) (i := 0) rfl ([.slice As D.secs.length cs, .slice Aa D.row.length ca, .slice Ar D.row.length cr]) (range_whole hs (by (try dsimp only [List.set]); repeat (first | with_reducible exact List.mem_cons_self | with_reducible apply List.mem_cons_of_mem))) (by kernel_rfl) (by kernel_rfl) (hK _ _ ?_); clear hK K)
                        | (go_at_call 55; go_must (refine (HRD.out _ _ (hs.pick (A := ref (.slice As D.secs.length cs) (.slice Aa D.row.length ca) (.slice Ar D.row.length cr) D) (by repeat (first | with_reducible exact Pick.here | with_reducible apply Pick.there)))).mono ?_); clear hs; rintro e w1 ⟨rfl, hs⟩)
                        | (go_at_call 57; go_must (refine (HPA.out _ _ hs).mono ?_); clear hs; rintro e w1 ⟨rfl, hs⟩)
                        | (guard_target = wpList _ _ _ (⟨some 16, .alloc _, _, _, _, _⟩ :: _) _ _; refine wpl (o := ⟨some 16, .alloc _, _, _, _, _⟩) rfl fun K hK => ?_; go_must (refine op_alloc hs rfl _ zrframe [.int .u32 0, .int .u32 0, .int .u8 0, .string ⟨#[]⟩] rfl fun b16 w1 h => hK _ _ ?_); clear hs hK K; have hs := h; clear h; try dsimp only [List.set] at hs)
                        | (guard_target = wpList _ _ _ (⟨none, .store _ (.tmp 16) _, _, _, _, _⟩ :: _) _ _; refine wpl (o := ⟨none, .store _ (.tmp 16) _, _, _, _, _⟩) rfl fun K hK => ?_; go_must (refine op_store_whole hs (b := b16) rfl rfl (rCells f) rfl (by simp [rCells, Value.oneCell']) (by kernel_rfl) (k := 0) rfl rfl fun w9 h => hK _ _ ?_); clear hs hK K; have hs := h; clear h; dsimp only [List.set] at hs
                           have k0 : w9.cell? ⟨b16, 0, none⟩ = some (.int .u32 (f.epoch : Nat)) := hs.cell (l := rCells f) (t := 125) (by (try dsimp only [List.set]); repeat (first | with_reducible exact List.mem_cons_self | with_reducible apply List.mem_cons_of_mem)) rfl
                           have k1 : w9.cell? ⟨b16, 1, none⟩ = some (.int .u32 (f.seq : Nat)) := hs.cell (l := rCells f) (t := 125) (by (try dsimp only [List.set]); repeat (first | with_reducible exact List.mem_cons_self | with_reducible apply List.mem_cons_of_mem)) rfl
                           have k2 : w9.cell? ⟨b16, 2, none⟩ = some (.int .u8 f.flag.toNat) := hs.cell (l := rCells f) (t := 125) (by (try dsimp only [List.set]); repeat (first | with_reducible exact List.mem_cons_self | with_reducible apply List.mem_cons_of_mem)) rfl
                           have k3 : w9.cell? ⟨b16, 3, none⟩ = some (.string ⟨f.body.toArray⟩) := hs.cell (l := rCells f) (t := 125) (by (try dsimp only [List.set]); repeat (first | with_reducible exact List.mem_cons_self | with_reducible apply List.mem_cons_of_mem)) rfl)
                        | (guard_target = wpList _ _ _ (⟨some 56, .load _ _, _, _, _, _⟩ :: _) _ _; refine wpl (o := ⟨some 56, .load _ _, _, _, _, _⟩) rfl fun K hK => op_load rfl (ad := ⟨b16, 0, none⟩) rfl (by kernel_rfl) k0 (hK _ _ ?_); clear hK K)
                        | (guard_target = wpList _ _ _ (⟨some 72, .load _ _, _, _, _, _⟩ :: _) _ _; refine wpl (o := ⟨some 72, .load _ _, _, _, _, _⟩) rfl fun K hK => op_load rfl (ad := ⟨b16, 0, none⟩) rfl (by kernel_rfl) k0 (hK _ _ ?_); clear hK K)
                        | (guard_target = wpList _ _ _ (⟨some 78, .load _ _, _, _, _, _⟩ :: _) _ _; refine wpl (o := ⟨some 78, .load _ _, _, _, _, _⟩) rfl fun K hK => op_load rfl (ad := ⟨b16, 1, none⟩) rfl (by kernel_rfl) k1 (hK _ _ ?_); clear hK K)
                        | (guard_target = wpList _ _ _ (⟨some 85, .load _ _, _, _, _, _⟩ :: _) _ _; refine wpl (o := ⟨some 85, .load _ _, _, _, _, _⟩) rfl fun K hK => op_load rfl (ad := ⟨b16, 2, none⟩) rfl (by kernel_rfl) k2 (hK _ _ ?_); clear hK K)
                        | (guard_target = wpList _ _ _ (⟨some 94, .load _ _, _, _, _, _⟩ :: _) _ _; refine wpl (o := ⟨some 94, .load _ _, _, _, _, _⟩) rfl fun K hK => op_load rfl (ad := ⟨b16, 3, none⟩) rfl (by kernel_rfl) k3 (hK _ _ ?_); clear hK K)
                        | (guard_target = wpList _ _ _ (⟨some 97, .load _ _, _, _, _, _⟩ :: _) _ _; refine wpl (o := ⟨some 97, .load _ _, _, _, _, _⟩) rfl fun K hK => op_load rfl (ad := ⟨b16, 2, none⟩) rfl (by kernel_rfl) k2 (hK _ _ ?_); clear hK K))
                      (try simp only [Exit.inBlock, Exit.then])
                      refine bodyPost_ret (res_tmp3 rfl _ _ _) rfl ?_
                      rw [← HRES.out]
                      refine ⟨?_, hs.pack (by repeat (first | with_reducible exact Pack.refl | with_reducible exact Pack.nil | with_reducible refine Pack.cons (by repeat (first | with_reducible exact Pick.here | with_reducible apply Pick.there)) ?_ | with_reducible apply Pack.drop))⟩
                      show Ending.returned (.tuple #[_, .string (⟨body.toArray⟩ ++ ⟨f.body.toArray⟩), _]) = _
                      rw [str_app]
                      rfl
                    · have e9 : ((m2 : Int) == 1) = false := by simp; omega
                      have hl := HONE2.out
                      rw [if_neg (by simp [h2])] at hl
                      have HRES := Box.mk hl
                      clear hl h2
                      go_wp2_with (first
                        | (guard_target = wpList _ _ _ (⟨some 37, .load _ _, _, _, _, _⟩ :: _) _ _; refine wpl (o := ⟨some 37, .load _ _, _, _, _, _⟩) rfl fun K hK => op_load_agg rfl (b := b4) (i := 0) rfl ([.slice As D.secs.length cs, .slice Aa D.row.length ca, .slice Ar D.row.length cr]) (range_whole hs (by (try dsimp only [List.set]); repeat (first | with_reducible exact List.mem_cons_self | with_reducible apply List.mem_cons_of_mem))) (by kernel_rfl) (by kernel_rfl) (hK _ _ ?_); clear hK K)
                        | (go_at_call 55; go_must (refine (HRD.out _ _ (hs.pick (A := ref (.slice As D.secs.length cs) (.slice Aa D.row.length ca) (.slice Ar D.row.length cr) D) (by repeat (first | with_reducible exact Pick.here | with_reducible apply Pick.there)))).mono ?_); clear hs; rintro e w1 ⟨rfl, hs⟩)
                        | (go_at_call 57; go_must (refine (HPA.out _ _ hs).mono ?_); clear hs; rintro e w1 ⟨rfl, hs⟩)
                        | (guard_target = wpList _ _ _ (⟨some 16, .alloc _, _, _, _, _⟩ :: _) _ _; refine wpl (o := ⟨some 16, .alloc _, _, _, _, _⟩) rfl fun K hK => ?_; go_must (refine op_alloc hs rfl _ zrframe [.int .u32 0, .int .u32 0, .int .u8 0, .string ⟨#[]⟩] rfl fun b16 w1 h => hK _ _ ?_); clear hs hK K; have hs := h; clear h; try dsimp only [List.set] at hs)
                        | (guard_target = wpList _ _ _ (⟨none, .store _ (.tmp 16) _, _, _, _, _⟩ :: _) _ _; refine wpl (o := ⟨none, .store _ (.tmp 16) _, _, _, _, _⟩) rfl fun K hK => ?_; go_must (refine op_store_whole hs (b := b16) rfl rfl (rCells f) rfl (by simp [rCells, Value.oneCell']) (by kernel_rfl) (k := 0) rfl rfl fun w9 h => hK _ _ ?_); clear hs hK K; have hs := h; clear h; dsimp only [List.set] at hs
                           have k0 : w9.cell? ⟨b16, 0, none⟩ = some (.int .u32 (f.epoch : Nat)) := hs.cell (l := rCells f) (t := 125) (by (try dsimp only [List.set]); repeat (first | with_reducible exact List.mem_cons_self | with_reducible apply List.mem_cons_of_mem)) rfl
                           have k1 : w9.cell? ⟨b16, 1, none⟩ = some (.int .u32 (f.seq : Nat)) := hs.cell (l := rCells f) (t := 125) (by (try dsimp only [List.set]); repeat (first | with_reducible exact List.mem_cons_self | with_reducible apply List.mem_cons_of_mem)) rfl
                           have k2 : w9.cell? ⟨b16, 2, none⟩ = some (.int .u8 f.flag.toNat) := hs.cell (l := rCells f) (t := 125) (by (try dsimp only [List.set]); repeat (first | with_reducible exact List.mem_cons_self | with_reducible apply List.mem_cons_of_mem)) rfl
                           have k3 : w9.cell? ⟨b16, 3, none⟩ = some (.string ⟨f.body.toArray⟩) := hs.cell (l := rCells f) (t := 125) (by (try dsimp only [List.set]); repeat (first | with_reducible exact List.mem_cons_self | with_reducible apply List.mem_cons_of_mem)) rfl)
                        | (guard_target = wpList _ _ _ (⟨some 56, .load _ _, _, _, _, _⟩ :: _) _ _; refine wpl (o := ⟨some 56, .load _ _, _, _, _, _⟩) rfl fun K hK => op_load rfl (ad := ⟨b16, 0, none⟩) rfl (by kernel_rfl) k0 (hK _ _ ?_); clear hK K)
                        | (guard_target = wpList _ _ _ (⟨some 72, .load _ _, _, _, _, _⟩ :: _) _ _; refine wpl (o := ⟨some 72, .load _ _, _, _, _, _⟩) rfl fun K hK => op_load rfl (ad := ⟨b16, 0, none⟩) rfl (by kernel_rfl) k0 (hK _ _ ?_); clear hK K)
                        | (guard_target = wpList _ _ _ (⟨some 78, .load _ _, _, _, _, _⟩ :: _) _ _; refine wpl (o := ⟨some 78, .load _ _, _, _, _, _⟩) rfl fun K hK => op_load rfl (ad := ⟨b16, 1, none⟩) rfl (by kernel_rfl) k1 (hK _ _ ?_); clear hK K)
                        | (guard_target = wpList _ _ _ (⟨some 85, .load _ _, _, _, _, _⟩ :: _) _ _; refine wpl (o := ⟨some 85, .load _ _, _, _, _, _⟩) rfl fun K hK => op_load rfl (ad := ⟨b16, 2, none⟩) rfl (by kernel_rfl) k2 (hK _ _ ?_); clear hK K)
                        | (guard_target = wpList _ _ _ (⟨some 94, .load _ _, _, _, _, _⟩ :: _) _ _; refine wpl (o := ⟨some 94, .load _ _, _, _, _, _⟩) rfl fun K hK => op_load rfl (ad := ⟨b16, 3, none⟩) rfl (by kernel_rfl) k3 (hK _ _ ?_); clear hK K)
                        | (guard_target = wpList _ _ _ (⟨some 97, .load _ _, _, _, _, _⟩ :: _) _ _; refine wpl (o := ⟨some 97, .load _ _, _, _, _, _⟩) rfl fun K hK => op_load rfl (ad := ⟨b16, 2, none⟩) rfl (by kernel_rfl) k2 (hK _ _ ?_); clear hK K))
                      refine ⟨⟨i + 1, gen, body ++ f.body, by omega, hg, by simp; omega, ⟨by rw [hk2]; exact HRES.out⟩, ?_, rfl, by go_num, hs.pack (by repeat (first | with_reducible exact Pack.refl | with_reducible exact Pack.nil | with_reducible refine Pack.cons (by repeat (first | with_reducible exact Pick.here | with_reducible apply Pick.there)) ?_ | with_reducible apply Pack.drop))⟩, by simp only [intOf]; omega⟩
                      exact congrArg Value.string (str_app body f.body)
                  · have e5 : ((m1 : Int) == 1) = true := by simp; omega
                    have g5 : ((m1 : Int) != 1) = false := by simp; omega
                    have HN : Box (¬ slNext which i gen f code = true) := ⟨by have c0 := C0.out; have c1 := C1.out; have c2 := C2.out; have c3 := C3.out; have c4 := C4.out; have hq2 := HQ2.out; have f1 := F1.out; have hi0 := HI0.out; intro hn; unfold slNext at hn; simp only [Bool.and_eq_true, decide_eq_true_eq, beq_iff_eq] at hn; obtain ⟨⟨⟨⟨⟨x1, x2⟩, x3⟩, x4⟩, x5⟩, x6⟩ := hn; rw [f1] at x6; first | omega | (simp [*] at x6; omega) | (simp [*] at x6)⟩
                    have hres := HONE.out
                    rw [if_neg HN.out] at hres
                    have HRES := Box.mk hres.symm
                    clear hres c5
                    go_wp2_with (first
                      | (guard_target = wpList _ _ _ (⟨some 37, .load _ _, _, _, _, _⟩ :: _) _ _; refine wpl (o := ⟨some 37, .load _ _, _, _, _, _⟩) rfl fun K hK => op_load_agg rfl (b := b4) (i := 0) rfl ([.slice As D.secs.length cs, .slice Aa D.row.length ca, .slice Ar D.row.length cr]) (range_whole hs (by (try dsimp only [List.set]); repeat (first | with_reducible exact List.mem_cons_self | with_reducible apply List.mem_cons_of_mem))) (by kernel_rfl) (by kernel_rfl) (hK _ _ ?_); clear hK K)
                      | (go_at_call 55; go_must (refine (HRD.out _ _ (hs.pick (A := ref (.slice As D.secs.length cs) (.slice Aa D.row.length ca) (.slice Ar D.row.length cr) D) (by repeat (first | with_reducible exact Pick.here | with_reducible apply Pick.there)))).mono ?_); clear hs; rintro e w1 ⟨rfl, hs⟩)
                      | (go_at_call 57; go_must (refine (HPA.out _ _ hs).mono ?_); clear hs; rintro e w1 ⟨rfl, hs⟩)
                      | (guard_target = wpList _ _ _ (⟨some 16, .alloc _, _, _, _, _⟩ :: _) _ _; refine wpl (o := ⟨some 16, .alloc _, _, _, _, _⟩) rfl fun K hK => ?_; go_must (refine op_alloc hs rfl _ zrframe [.int .u32 0, .int .u32 0, .int .u8 0, .string ⟨#[]⟩] rfl fun b16 w1 h => hK _ _ ?_); clear hs hK K; have hs := h; clear h; try dsimp only [List.set] at hs)
                      | (guard_target = wpList _ _ _ (⟨none, .store _ (.tmp 16) _, _, _, _, _⟩ :: _) _ _; refine wpl (o := ⟨none, .store _ (.tmp 16) _, _, _, _, _⟩) rfl fun K hK => ?_; go_must (refine op_store_whole hs (b := b16) rfl rfl (rCells f) rfl (by simp [rCells, Value.oneCell']) (by kernel_rfl) (k := 0) rfl rfl fun w9 h => hK _ _ ?_); clear hs hK K; have hs := h; clear h; dsimp only [List.set] at hs
                         have k0 : w9.cell? ⟨b16, 0, none⟩ = some (.int .u32 (f.epoch : Nat)) := hs.cell (l := rCells f) (t := 125) (by (try dsimp only [List.set]); repeat (first | with_reducible exact List.mem_cons_self | with_reducible apply List.mem_cons_of_mem)) rfl
                         have k1 : w9.cell? ⟨b16, 1, none⟩ = some (.int .u32 (f.seq : Nat)) := hs.cell (l := rCells f) (t := 125) (by (try dsimp only [List.set]); repeat (first | with_reducible exact List.mem_cons_self | with_reducible apply List.mem_cons_of_mem)) rfl
                         have k2 : w9.cell? ⟨b16, 2, none⟩ = some (.int .u8 f.flag.toNat) := hs.cell (l := rCells f) (t := 125) (by (try dsimp only [List.set]); repeat (first | with_reducible exact List.mem_cons_self | with_reducible apply List.mem_cons_of_mem)) rfl
                         have k3 : w9.cell? ⟨b16, 3, none⟩ = some (.string ⟨f.body.toArray⟩) := hs.cell (l := rCells f) (t := 125) (by (try dsimp only [List.set]); repeat (first | with_reducible exact List.mem_cons_self | with_reducible apply List.mem_cons_of_mem)) rfl)
                      | (guard_target = wpList _ _ _ (⟨some 56, .load _ _, _, _, _, _⟩ :: _) _ _; refine wpl (o := ⟨some 56, .load _ _, _, _, _, _⟩) rfl fun K hK => op_load rfl (ad := ⟨b16, 0, none⟩) rfl (by kernel_rfl) k0 (hK _ _ ?_); clear hK K)
                      | (guard_target = wpList _ _ _ (⟨some 72, .load _ _, _, _, _, _⟩ :: _) _ _; refine wpl (o := ⟨some 72, .load _ _, _, _, _, _⟩) rfl fun K hK => op_load rfl (ad := ⟨b16, 0, none⟩) rfl (by kernel_rfl) k0 (hK _ _ ?_); clear hK K)
                      | (guard_target = wpList _ _ _ (⟨some 78, .load _ _, _, _, _, _⟩ :: _) _ _; refine wpl (o := ⟨some 78, .load _ _, _, _, _, _⟩) rfl fun K hK => op_load rfl (ad := ⟨b16, 1, none⟩) rfl (by kernel_rfl) k1 (hK _ _ ?_); clear hK K)
                      | (guard_target = wpList _ _ _ (⟨some 85, .load _ _, _, _, _, _⟩ :: _) _ _; refine wpl (o := ⟨some 85, .load _ _, _, _, _, _⟩) rfl fun K hK => op_load rfl (ad := ⟨b16, 2, none⟩) rfl (by kernel_rfl) k2 (hK _ _ ?_); clear hK K)
                      | (guard_target = wpList _ _ _ (⟨some 94, .load _ _, _, _, _, _⟩ :: _) _ _; refine wpl (o := ⟨some 94, .load _ _, _, _, _, _⟩) rfl fun K hK => op_load rfl (ad := ⟨b16, 3, none⟩) rfl (by kernel_rfl) k3 (hK _ _ ?_); clear hK K)
                      | (guard_target = wpList _ _ _ (⟨some 97, .load _ _, _, _, _, _⟩ :: _) _ _; refine wpl (o := ⟨some 97, .load _ _, _, _, _, _⟩) rfl fun K hK => op_load rfl (ad := ⟨b16, 2, none⟩) rfl (by kernel_rfl) k2 (hK _ _ ?_); clear hK K))
                    (try simp only [Exit.inBlock, Exit.then])
                    refine bodyPost_ret (res_tmp3 rfl _ _ _) rfl ?_
                    rw [HRES.out]
                    exact ⟨rfl, hs.pack (by repeat (first | with_reducible exact Pack.refl | with_reducible exact Pack.nil | with_reducible refine Pack.cons (by repeat (first | with_reducible exact Pick.here | with_reducible apply Pick.there)) ?_ | with_reducible apply Pack.drop))⟩
                · have e4 : ((f.seq : Int) != (i : Int)) = true := by simp; omega
                  have g4 : ((f.seq : Int) == (i : Int)) = false := by simp; omega
                  have HN : Box (¬ slNext which i gen f code = true) := ⟨by have c0 := C0.out; have c1 := C1.out; have c2 := C2.out; have c3 := C3.out; have hq2 := HQ2.out; have f1 := F1.out; have hi0 := HI0.out; intro hn; unfold slNext at hn; simp only [Bool.and_eq_true, decide_eq_true_eq, beq_iff_eq] at hn; obtain ⟨⟨⟨⟨⟨x1, x2⟩, x3⟩, x4⟩, x5⟩, x6⟩ := hn; rw [f1] at x6; first | omega | (simp [*] at x6; omega) | (simp [*] at x6)⟩
                  have hres := HONE.out
                  rw [if_neg HN.out] at hres
                  have HRES := Box.mk hres.symm
                  clear hres c4
                  go_wp2_with (first
                    | (guard_target = wpList _ _ _ (⟨some 37, .load _ _, _, _, _, _⟩ :: _) _ _; refine wpl (o := ⟨some 37, .load _ _, _, _, _, _⟩) rfl fun K hK => op_load_agg rfl (b := b4) (i := 0) rfl ([.slice As D.secs.length cs, .slice Aa D.row.length ca, .slice Ar D.row.length cr]) (range_whole hs (by (try dsimp only [List.set]); repeat (first | with_reducible exact List.mem_cons_self | with_reducible apply List.mem_cons_of_mem))) (by kernel_rfl) (by kernel_rfl) (hK _ _ ?_); clear hK K)
                    | (go_at_call 55; go_must (refine (HRD.out _ _ (hs.pick (A := ref (.slice As D.secs.length cs) (.slice Aa D.row.length ca) (.slice Ar D.row.length cr) D) (by repeat (first | with_reducible exact Pick.here | with_reducible apply Pick.there)))).mono ?_); clear hs; rintro e w1 ⟨rfl, hs⟩)
                    | (go_at_call 57; go_must (refine (HPA.out _ _ hs).mono ?_); clear hs; rintro e w1 ⟨rfl, hs⟩)
                    | (guard_target = wpList _ _ _ (⟨some 16, .alloc _, _, _, _, _⟩ :: _) _ _; refine wpl (o := ⟨some 16, .alloc _, _, _, _, _⟩) rfl fun K hK => ?_; go_must (refine op_alloc hs rfl _ zrframe [.int .u32 0, .int .u32 0, .int .u8 0, .string ⟨#[]⟩] rfl fun b16 w1 h => hK _ _ ?_); clear hs hK K; have hs := h; clear h; try dsimp only [List.set] at hs)
                    | (guard_target = wpList _ _ _ (⟨none, .store _ (.tmp 16) _, _, _, _, _⟩ :: _) _ _; refine wpl (o := ⟨none, .store _ (.tmp 16) _, _, _, _, _⟩) rfl fun K hK => ?_; go_must (refine op_store_whole hs (b := b16) rfl rfl (rCells f) rfl (by simp [rCells, Value.oneCell']) (by kernel_rfl) (k := 0) rfl rfl fun w9 h => hK _ _ ?_); clear hs hK K; have hs := h; clear h; dsimp only [List.set] at hs
                       have k0 : w9.cell? ⟨b16, 0, none⟩ = some (.int .u32 (f.epoch : Nat)) := hs.cell (l := rCells f) (t := 125) (by (try dsimp only [List.set]); repeat (first | with_reducible exact List.mem_cons_self | with_reducible apply List.mem_cons_of_mem)) rfl
                       have k1 : w9.cell? ⟨b16, 1, none⟩ = some (.int .u32 (f.seq : Nat)) := hs.cell (l := rCells f) (t := 125) (by (try dsimp only [List.set]); repeat (first | with_reducible exact List.mem_cons_self | with_reducible apply List.mem_cons_of_mem)) rfl
                       have k2 : w9.cell? ⟨b16, 2, none⟩ = some (.int .u8 f.flag.toNat) := hs.cell (l := rCells f) (t := 125) (by (try dsimp only [List.set]); repeat (first | with_reducible exact List.mem_cons_self | with_reducible apply List.mem_cons_of_mem)) rfl
                       have k3 : w9.cell? ⟨b16, 3, none⟩ = some (.string ⟨f.body.toArray⟩) := hs.cell (l := rCells f) (t := 125) (by (try dsimp only [List.set]); repeat (first | with_reducible exact List.mem_cons_self | with_reducible apply List.mem_cons_of_mem)) rfl)
                    | (guard_target = wpList _ _ _ (⟨some 56, .load _ _, _, _, _, _⟩ :: _) _ _; refine wpl (o := ⟨some 56, .load _ _, _, _, _, _⟩) rfl fun K hK => op_load rfl (ad := ⟨b16, 0, none⟩) rfl (by kernel_rfl) k0 (hK _ _ ?_); clear hK K)
                    | (guard_target = wpList _ _ _ (⟨some 72, .load _ _, _, _, _, _⟩ :: _) _ _; refine wpl (o := ⟨some 72, .load _ _, _, _, _, _⟩) rfl fun K hK => op_load rfl (ad := ⟨b16, 0, none⟩) rfl (by kernel_rfl) k0 (hK _ _ ?_); clear hK K)
                    | (guard_target = wpList _ _ _ (⟨some 78, .load _ _, _, _, _, _⟩ :: _) _ _; refine wpl (o := ⟨some 78, .load _ _, _, _, _, _⟩) rfl fun K hK => op_load rfl (ad := ⟨b16, 1, none⟩) rfl (by kernel_rfl) k1 (hK _ _ ?_); clear hK K)
                    | (guard_target = wpList _ _ _ (⟨some 85, .load _ _, _, _, _, _⟩ :: _) _ _; refine wpl (o := ⟨some 85, .load _ _, _, _, _, _⟩) rfl fun K hK => op_load rfl (ad := ⟨b16, 2, none⟩) rfl (by kernel_rfl) k2 (hK _ _ ?_); clear hK K)
                    | (guard_target = wpList _ _ _ (⟨some 94, .load _ _, _, _, _, _⟩ :: _) _ _; refine wpl (o := ⟨some 94, .load _ _, _, _, _, _⟩) rfl fun K hK => op_load rfl (ad := ⟨b16, 3, none⟩) rfl (by kernel_rfl) k3 (hK _ _ ?_); clear hK K)
                    | (guard_target = wpList _ _ _ (⟨some 97, .load _ _, _, _, _, _⟩ :: _) _ _; refine wpl (o := ⟨some 97, .load _ _, _, _, _, _⟩) rfl fun K hK => op_load rfl (ad := ⟨b16, 2, none⟩) rfl (by kernel_rfl) k2 (hK _ _ ?_); clear hK K))
                  (try simp only [Exit.inBlock, Exit.then])
                  refine bodyPost_ret (res_tmp3 rfl _ _ _) rfl ?_
                  rw [HRES.out]
                  exact ⟨rfl, hs.pack (by repeat (first | with_reducible exact Pack.refl | with_reducible exact Pack.nil | with_reducible refine Pack.cons (by repeat (first | with_reducible exact Pick.here | with_reducible apply Pick.there)) ?_ | with_reducible apply Pack.drop))⟩
              · have e3 : ((f.epoch : Int) != (gen : Int)) = true := by simp; omega
                have g3 : ((f.epoch : Int) == (gen : Int)) = false := by simp; omega
                have HN : Box (¬ slNext which i gen f code = true) := ⟨by have c0 := C0.out; have c1 := C1.out; have c2 := C2.out; have hq2 := HQ2.out; have f1 := F1.out; have hi0 := HI0.out; intro hn; unfold slNext at hn; simp only [Bool.and_eq_true, decide_eq_true_eq, beq_iff_eq] at hn; obtain ⟨⟨⟨⟨⟨x1, x2⟩, x3⟩, x4⟩, x5⟩, x6⟩ := hn; rw [f1] at x6; first | omega | (simp [*] at x6; omega) | (simp [*] at x6)⟩
                have hres := HONE.out
                rw [if_neg HN.out] at hres
                have HRES := Box.mk hres.symm
                clear hres c3
                go_wp2_with (first
                  | (guard_target = wpList _ _ _ (⟨some 37, .load _ _, _, _, _, _⟩ :: _) _ _; refine wpl (o := ⟨some 37, .load _ _, _, _, _, _⟩) rfl fun K hK => op_load_agg rfl (b := b4) (i := 0) rfl ([.slice As D.secs.length cs, .slice Aa D.row.length ca, .slice Ar D.row.length cr]) (range_whole hs (by (try dsimp only [List.set]); repeat (first | with_reducible exact List.mem_cons_self | with_reducible apply List.mem_cons_of_mem))) (by kernel_rfl) (by kernel_rfl) (hK _ _ ?_); clear hK K)
                  | (go_at_call 55; go_must (refine (HRD.out _ _ (hs.pick (A := ref (.slice As D.secs.length cs) (.slice Aa D.row.length ca) (.slice Ar D.row.length cr) D) (by repeat (first | with_reducible exact Pick.here | with_reducible apply Pick.there)))).mono ?_); clear hs; rintro e w1 ⟨rfl, hs⟩)
                  | (go_at_call 57; go_must (refine (HPA.out _ _ hs).mono ?_); clear hs; rintro e w1 ⟨rfl, hs⟩)
                  | (guard_target = wpList _ _ _ (⟨some 16, .alloc _, _, _, _, _⟩ :: _) _ _; refine wpl (o := ⟨some 16, .alloc _, _, _, _, _⟩) rfl fun K hK => ?_; go_must (refine op_alloc hs rfl _ zrframe [.int .u32 0, .int .u32 0, .int .u8 0, .string ⟨#[]⟩] rfl fun b16 w1 h => hK _ _ ?_); clear hs hK K; have hs := h; clear h; try dsimp only [List.set] at hs)
                  | (guard_target = wpList _ _ _ (⟨none, .store _ (.tmp 16) _, _, _, _, _⟩ :: _) _ _; refine wpl (o := ⟨none, .store _ (.tmp 16) _, _, _, _, _⟩) rfl fun K hK => ?_; go_must (refine op_store_whole hs (b := b16) rfl rfl (rCells f) rfl (by simp [rCells, Value.oneCell']) (by kernel_rfl) (k := 0) rfl rfl fun w9 h => hK _ _ ?_); clear hs hK K; have hs := h; clear h; dsimp only [List.set] at hs
                     have k0 : w9.cell? ⟨b16, 0, none⟩ = some (.int .u32 (f.epoch : Nat)) := hs.cell (l := rCells f) (t := 125) (by (try dsimp only [List.set]); repeat (first | with_reducible exact List.mem_cons_self | with_reducible apply List.mem_cons_of_mem)) rfl
                     have k1 : w9.cell? ⟨b16, 1, none⟩ = some (.int .u32 (f.seq : Nat)) := hs.cell (l := rCells f) (t := 125) (by (try dsimp only [List.set]); repeat (first | with_reducible exact List.mem_cons_self | with_reducible apply List.mem_cons_of_mem)) rfl
                     have k2 : w9.cell? ⟨b16, 2, none⟩ = some (.int .u8 f.flag.toNat) := hs.cell (l := rCells f) (t := 125) (by (try dsimp only [List.set]); repeat (first | with_reducible exact List.mem_cons_self | with_reducible apply List.mem_cons_of_mem)) rfl
                     have k3 : w9.cell? ⟨b16, 3, none⟩ = some (.string ⟨f.body.toArray⟩) := hs.cell (l := rCells f) (t := 125) (by (try dsimp only [List.set]); repeat (first | with_reducible exact List.mem_cons_self | with_reducible apply List.mem_cons_of_mem)) rfl)
                  | (guard_target = wpList _ _ _ (⟨some 56, .load _ _, _, _, _, _⟩ :: _) _ _; refine wpl (o := ⟨some 56, .load _ _, _, _, _, _⟩) rfl fun K hK => op_load rfl (ad := ⟨b16, 0, none⟩) rfl (by kernel_rfl) k0 (hK _ _ ?_); clear hK K)
                  | (guard_target = wpList _ _ _ (⟨some 72, .load _ _, _, _, _, _⟩ :: _) _ _; refine wpl (o := ⟨some 72, .load _ _, _, _, _, _⟩) rfl fun K hK => op_load rfl (ad := ⟨b16, 0, none⟩) rfl (by kernel_rfl) k0 (hK _ _ ?_); clear hK K)
                  | (guard_target = wpList _ _ _ (⟨some 78, .load _ _, _, _, _, _⟩ :: _) _ _; refine wpl (o := ⟨some 78, .load _ _, _, _, _, _⟩) rfl fun K hK => op_load rfl (ad := ⟨b16, 1, none⟩) rfl (by kernel_rfl) k1 (hK _ _ ?_); clear hK K)
                  | (guard_target = wpList _ _ _ (⟨some 85, .load _ _, _, _, _, _⟩ :: _) _ _; refine wpl (o := ⟨some 85, .load _ _, _, _, _, _⟩) rfl fun K hK => op_load rfl (ad := ⟨b16, 2, none⟩) rfl (by kernel_rfl) k2 (hK _ _ ?_); clear hK K)
                  | (guard_target = wpList _ _ _ (⟨some 94, .load _ _, _, _, _, _⟩ :: _) _ _; refine wpl (o := ⟨some 94, .load _ _, _, _, _, _⟩) rfl fun K hK => op_load rfl (ad := ⟨b16, 3, none⟩) rfl (by kernel_rfl) k3 (hK _ _ ?_); clear hK K)
                  | (guard_target = wpList _ _ _ (⟨some 97, .load _ _, _, _, _, _⟩ :: _) _ _; refine wpl (o := ⟨some 97, .load _ _, _, _, _, _⟩) rfl fun K hK => op_load rfl (ad := ⟨b16, 2, none⟩) rfl (by kernel_rfl) k2 (hK _ _ ?_); clear hK K))
                (try simp only [Exit.inBlock, Exit.then])
                refine bodyPost_ret (res_tmp3 rfl _ _ _) rfl ?_
                rw [HRES.out]
                exact ⟨rfl, hs.pack (by repeat (first | with_reducible exact Pack.refl | with_reducible exact Pack.nil | with_reducible refine Pack.cons (by repeat (first | with_reducible exact Pick.here | with_reducible apply Pick.there)) ?_ | with_reducible apply Pack.drop))⟩
            · have e2 : ((q2 : Int) != (which : Int)) = true := by simp; omega
              have g2 : ((q2 : Int) == (which : Int)) = false := by simp; omega
              have HN : Box (¬ slNext which i gen f code = true) := ⟨by have c0 := C0.out; have c1 := C1.out; have hq2 := HQ2.out; have f1 := F1.out; have hi0 := HI0.out; intro hn; unfold slNext at hn; simp only [Bool.and_eq_true, decide_eq_true_eq, beq_iff_eq] at hn; obtain ⟨⟨⟨⟨⟨x1, x2⟩, x3⟩, x4⟩, x5⟩, x6⟩ := hn; rw [f1] at x6; first | omega | (simp [*] at x6; omega) | (simp [*] at x6)⟩
              have hres := HONE.out
              rw [if_neg HN.out] at hres
              have HRES := Box.mk hres.symm
              clear hres c2
              go_wp2_with (first
                | (guard_target = wpList _ _ _ (⟨some 37, .load _ _, _, _, _, _⟩ :: _) _ _; refine wpl (o := ⟨some 37, .load _ _, _, _, _, _⟩) rfl fun K hK => op_load_agg rfl (b := b4) (i := 0) rfl ([.slice As D.secs.length cs, .slice Aa D.row.length ca, .slice Ar D.row.length cr]) (range_whole hs (by (try dsimp only [List.set]); repeat (first | with_reducible exact List.mem_cons_self | with_reducible apply List.mem_cons_of_mem))) (by kernel_rfl) (by kernel_rfl) (hK _ _ ?_); clear hK K)
                | (go_at_call 55; go_must (refine (HRD.out _ _ (hs.pick (A := ref (.slice As D.secs.length cs) (.slice Aa D.row.length ca) (.slice Ar D.row.length cr) D) (by repeat (first | with_reducible exact Pick.here | with_reducible apply Pick.there)))).mono ?_); clear hs; rintro e w1 ⟨rfl, hs⟩)
                | (go_at_call 57; go_must (refine (HPA.out _ _ hs).mono ?_); clear hs; rintro e w1 ⟨rfl, hs⟩)
                | (guard_target = wpList _ _ _ (⟨some 16, .alloc _, _, _, _, _⟩ :: _) _ _; refine wpl (o := ⟨some 16, .alloc _, _, _, _, _⟩) rfl fun K hK => ?_; go_must (refine op_alloc hs rfl _ zrframe [.int .u32 0, .int .u32 0, .int .u8 0, .string ⟨#[]⟩] rfl fun b16 w1 h => hK _ _ ?_); clear hs hK K; have hs := h; clear h; try dsimp only [List.set] at hs)
                | (guard_target = wpList _ _ _ (⟨none, .store _ (.tmp 16) _, _, _, _, _⟩ :: _) _ _; refine wpl (o := ⟨none, .store _ (.tmp 16) _, _, _, _, _⟩) rfl fun K hK => ?_; go_must (refine op_store_whole hs (b := b16) rfl rfl (rCells f) rfl (by simp [rCells, Value.oneCell']) (by kernel_rfl) (k := 0) rfl rfl fun w9 h => hK _ _ ?_); clear hs hK K; have hs := h; clear h; dsimp only [List.set] at hs
                   have k0 : w9.cell? ⟨b16, 0, none⟩ = some (.int .u32 (f.epoch : Nat)) := hs.cell (l := rCells f) (t := 125) (by (try dsimp only [List.set]); repeat (first | with_reducible exact List.mem_cons_self | with_reducible apply List.mem_cons_of_mem)) rfl
                   have k1 : w9.cell? ⟨b16, 1, none⟩ = some (.int .u32 (f.seq : Nat)) := hs.cell (l := rCells f) (t := 125) (by (try dsimp only [List.set]); repeat (first | with_reducible exact List.mem_cons_self | with_reducible apply List.mem_cons_of_mem)) rfl
                   have k2 : w9.cell? ⟨b16, 2, none⟩ = some (.int .u8 f.flag.toNat) := hs.cell (l := rCells f) (t := 125) (by (try dsimp only [List.set]); repeat (first | with_reducible exact List.mem_cons_self | with_reducible apply List.mem_cons_of_mem)) rfl
                   have k3 : w9.cell? ⟨b16, 3, none⟩ = some (.string ⟨f.body.toArray⟩) := hs.cell (l := rCells f) (t := 125) (by (try dsimp only [List.set]); repeat (first | with_reducible exact List.mem_cons_self | with_reducible apply List.mem_cons_of_mem)) rfl)
                | (guard_target = wpList _ _ _ (⟨some 56, .load _ _, _, _, _, _⟩ :: _) _ _; refine wpl (o := ⟨some 56, .load _ _, _, _, _, _⟩) rfl fun K hK => op_load rfl (ad := ⟨b16, 0, none⟩) rfl (by kernel_rfl) k0 (hK _ _ ?_); clear hK K)
                | (guard_target = wpList _ _ _ (⟨some 72, .load _ _, _, _, _, _⟩ :: _) _ _; refine wpl (o := ⟨some 72, .load _ _, _, _, _, _⟩) rfl fun K hK => op_load rfl (ad := ⟨b16, 0, none⟩) rfl (by kernel_rfl) k0 (hK _ _ ?_); clear hK K)
                | (guard_target = wpList _ _ _ (⟨some 78, .load _ _, _, _, _, _⟩ :: _) _ _; refine wpl (o := ⟨some 78, .load _ _, _, _, _, _⟩) rfl fun K hK => op_load rfl (ad := ⟨b16, 1, none⟩) rfl (by kernel_rfl) k1 (hK _ _ ?_); clear hK K)
                | (guard_target = wpList _ _ _ (⟨some 85, .load _ _, _, _, _, _⟩ :: _) _ _; refine wpl (o := ⟨some 85, .load _ _, _, _, _, _⟩) rfl fun K hK => op_load rfl (ad := ⟨b16, 2, none⟩) rfl (by kernel_rfl) k2 (hK _ _ ?_); clear hK K)
                | (guard_target = wpList _ _ _ (⟨some 94, .load _ _, _, _, _, _⟩ :: _) _ _; refine wpl (o := ⟨some 94, .load _ _, _, _, _, _⟩) rfl fun K hK => op_load rfl (ad := ⟨b16, 3, none⟩) rfl (by kernel_rfl) k3 (hK _ _ ?_); clear hK K)
                | (guard_target = wpList _ _ _ (⟨some 97, .load _ _, _, _, _, _⟩ :: _) _ _; refine wpl (o := ⟨some 97, .load _ _, _, _, _, _⟩) rfl fun K hK => op_load rfl (ad := ⟨b16, 2, none⟩) rfl (by kernel_rfl) k2 (hK _ _ ?_); clear hK K))
              (try simp only [Exit.inBlock, Exit.then])
              refine bodyPost_ret (res_tmp3 rfl _ _ _) rfl ?_
              rw [HRES.out]
              exact ⟨rfl, hs.pack (by repeat (first | with_reducible exact Pack.refl | with_reducible exact Pack.nil | with_reducible refine Pack.cons (by repeat (first | with_reducible exact Pick.here | with_reducible apply Pick.there)) ?_ | with_reducible apply Pack.drop))⟩
          · have e1 : ((gen : Int) == 0) = true := by simp; omega
            have g1 : ((gen : Int) != 0) = false := by simp; omega
            have HN : Box (¬ slNext which i gen f code = true) := ⟨by have c0 := C0.out; have hq2 := HQ2.out; have f1 := F1.out; have hi0 := HI0.out; intro hn; unfold slNext at hn; simp only [Bool.and_eq_true, decide_eq_true_eq, beq_iff_eq] at hn; obtain ⟨⟨⟨⟨⟨x1, x2⟩, x3⟩, x4⟩, x5⟩, x6⟩ := hn; rw [f1] at x6; first | omega | (simp [*] at x6; omega) | (simp [*] at x6)⟩
            have hres := HONE.out
            rw [if_neg HN.out] at hres
            have HRES := Box.mk hres.symm
            clear hres c1
            go_wp2_with (first
              | (guard_target = wpList _ _ _ (⟨some 37, .load _ _, _, _, _, _⟩ :: _) _ _; refine wpl (o := ⟨some 37, .load _ _, _, _, _, _⟩) rfl fun K hK => op_load_agg rfl (b := b4) (i := 0) rfl ([.slice As D.secs.length cs, .slice Aa D.row.length ca, .slice Ar D.row.length cr]) (range_whole hs (by (try dsimp only [List.set]); repeat (first | with_reducible exact List.mem_cons_self | with_reducible apply List.mem_cons_of_mem))) (by kernel_rfl) (by kernel_rfl) (hK _ _ ?_); clear hK K)
              | (go_at_call 55; go_must (refine (HRD.out _ _ (hs.pick (A := ref (.slice As D.secs.length cs) (.slice Aa D.row.length ca) (.slice Ar D.row.length cr) D) (by repeat (first | with_reducible exact Pick.here | with_reducible apply Pick.there)))).mono ?_); clear hs; rintro e w1 ⟨rfl, hs⟩)
              | (go_at_call 57; go_must (refine (HPA.out _ _ hs).mono ?_); clear hs; rintro e w1 ⟨rfl, hs⟩)
              | (guard_target = wpList _ _ _ (⟨some 16, .alloc _, _, _, _, _⟩ :: _) _ _; refine wpl (o := ⟨some 16, .alloc _, _, _, _, _⟩) rfl fun K hK => ?_; go_must (refine op_alloc hs rfl _ zrframe [.int .u32 0, .int .u32 0, .int .u8 0, .string ⟨#[]⟩] rfl fun b16 w1 h => hK _ _ ?_); clear hs hK K; have hs := h; clear h; try dsimp only [List.set] at hs)
              | (guard_target = wpList _ _ _ (⟨none, .store _ (.tmp 16) _, _, _, _, _⟩ :: _) _ _; refine wpl (o := ⟨none, .store _ (.tmp 16) _, _, _, _, _⟩) rfl fun K hK => ?_; go_must (refine op_store_whole hs (b := b16) rfl rfl (rCells f) rfl (by simp [rCells, Value.oneCell']) (by kernel_rfl) (k := 0) rfl rfl fun w9 h => hK _ _ ?_); clear hs hK K; have hs := h; clear h; dsimp only [List.set] at hs
                 have k0 : w9.cell? ⟨b16, 0, none⟩ = some (.int .u32 (f.epoch : Nat)) := hs.cell (l := rCells f) (t := 125) (by (try dsimp only [List.set]); repeat (first | with_reducible exact List.mem_cons_self | with_reducible apply List.mem_cons_of_mem)) rfl
                 have k1 : w9.cell? ⟨b16, 1, none⟩ = some (.int .u32 (f.seq : Nat)) := hs.cell (l := rCells f) (t := 125) (by (try dsimp only [List.set]); repeat (first | with_reducible exact List.mem_cons_self | with_reducible apply List.mem_cons_of_mem)) rfl
                 have k2 : w9.cell? ⟨b16, 2, none⟩ = some (.int .u8 f.flag.toNat) := hs.cell (l := rCells f) (t := 125) (by (try dsimp only [List.set]); repeat (first | with_reducible exact List.mem_cons_self | with_reducible apply List.mem_cons_of_mem)) rfl
                 have k3 : w9.cell? ⟨b16, 3, none⟩ = some (.string ⟨f.body.toArray⟩) := hs.cell (l := rCells f) (t := 125) (by (try dsimp only [List.set]); repeat (first | with_reducible exact List.mem_cons_self | with_reducible apply List.mem_cons_of_mem)) rfl)
              | (guard_target = wpList _ _ _ (⟨some 56, .load _ _, _, _, _, _⟩ :: _) _ _; refine wpl (o := ⟨some 56, .load _ _, _, _, _, _⟩) rfl fun K hK => op_load rfl (ad := ⟨b16, 0, none⟩) rfl (by kernel_rfl) k0 (hK _ _ ?_); clear hK K)
              | (guard_target = wpList _ _ _ (⟨some 72, .load _ _, _, _, _, _⟩ :: _) _ _; refine wpl (o := ⟨some 72, .load _ _, _, _, _, _⟩) rfl fun K hK => op_load rfl (ad := ⟨b16, 0, none⟩) rfl (by kernel_rfl) k0 (hK _ _ ?_); clear hK K)
              | (guard_target = wpList _ _ _ (⟨some 78, .load _ _, _, _, _, _⟩ :: _) _ _; refine wpl (o := ⟨some 78, .load _ _, _, _, _, _⟩) rfl fun K hK => op_load rfl (ad := ⟨b16, 1, none⟩) rfl (by kernel_rfl) k1 (hK _ _ ?_); clear hK K)
              | (guard_target = wpList _ _ _ (⟨some 85, .load _ _, _, _, _, _⟩ :: _) _ _; refine wpl (o := ⟨some 85, .load _ _, _, _, _, _⟩) rfl fun K hK => op_load rfl (ad := ⟨b16, 2, none⟩) rfl (by kernel_rfl) k2 (hK _ _ ?_); clear hK K)
              | (guard_target = wpList _ _ _ (⟨some 94, .load _ _, _, _, _, _⟩ :: _) _ _; refine wpl (o := ⟨some 94, .load _ _, _, _, _, _⟩) rfl fun K hK => op_load rfl (ad := ⟨b16, 3, none⟩) rfl (by kernel_rfl) k3 (hK _ _ ?_); clear hK K)
              | (guard_target = wpList _ _ _ (⟨some 97, .load _ _, _, _, _, _⟩ :: _) _ _; refine wpl (o := ⟨some 97, .load _ _, _, _, _, _⟩) rfl fun K hK => op_load rfl (ad := ⟨b16, 2, none⟩) rfl (by kernel_rfl) k2 (hK _ _ ?_); clear hK K))
            (try simp only [Exit.inBlock, Exit.then])
            refine bodyPost_ret (res_tmp3 rfl _ _ _) rfl ?_
            rw [HRES.out]
            exact ⟨rfl, hs.pack (by repeat (first | with_reducible exact Pack.refl | with_reducible exact Pack.nil | with_reducible refine Pack.cons (by repeat (first | with_reducible exact Pick.here | with_reducible apply Pick.there)) ?_ | with_reducible apply Pack.drop))⟩
        · have e0 : ((code : Int) != 0) = true := by simp; omega
          have g0 : ((code : Int) == 0) = false := by simp; omega
          have HN : Box (¬ slNext which i gen f code = true) := ⟨by have hq2 := HQ2.out; have f1 := F1.out; have hi0 := HI0.out; intro hn; unfold slNext at hn; simp only [Bool.and_eq_true, decide_eq_true_eq, beq_iff_eq] at hn; obtain ⟨⟨⟨⟨⟨x1, x2⟩, x3⟩, x4⟩, x5⟩, x6⟩ := hn; rw [f1] at x6; first | omega | (simp [*] at x6; omega) | (simp [*] at x6)⟩
          have hres := HONE.out
          rw [if_neg HN.out] at hres
          have HRES := Box.mk hres.symm
          clear hres c0
          go_wp2_with (first
            | (guard_target = wpList _ _ _ (⟨some 37, .load _ _, _, _, _, _⟩ :: _) _ _; refine wpl (o := ⟨some 37, .load _ _, _, _, _, _⟩) rfl fun K hK => op_load_agg rfl (b := b4) (i := 0) rfl ([.slice As D.secs.length cs, .slice Aa D.row.length ca, .slice Ar D.row.length cr]) (range_whole hs (by (try dsimp only [List.set]); repeat (first | with_reducible exact List.mem_cons_self | with_reducible apply List.mem_cons_of_mem))) (by kernel_rfl) (by kernel_rfl) (hK _ _ ?_); clear hK K)
            | (go_at_call 55; go_must (refine (HRD.out _ _ (hs.pick (A := ref (.slice As D.secs.length cs) (.slice Aa D.row.length ca) (.slice Ar D.row.length cr) D) (by repeat (first | with_reducible exact Pick.here | with_reducible apply Pick.there)))).mono ?_); clear hs; rintro e w1 ⟨rfl, hs⟩)
            | (go_at_call 57; go_must (refine (HPA.out _ _ hs).mono ?_); clear hs; rintro e w1 ⟨rfl, hs⟩)
            | (guard_target = wpList _ _ _ (⟨some 16, .alloc _, _, _, _, _⟩ :: _) _ _; refine wpl (o := ⟨some 16, .alloc _, _, _, _, _⟩) rfl fun K hK => ?_; go_must (refine op_alloc hs rfl _ zrframe [.int .u32 0, .int .u32 0, .int .u8 0, .string ⟨#[]⟩] rfl fun b16 w1 h => hK _ _ ?_); clear hs hK K; have hs := h; clear h; try dsimp only [List.set] at hs)
            | (guard_target = wpList _ _ _ (⟨none, .store _ (.tmp 16) _, _, _, _, _⟩ :: _) _ _; refine wpl (o := ⟨none, .store _ (.tmp 16) _, _, _, _, _⟩) rfl fun K hK => ?_; go_must (refine op_store_whole hs (b := b16) rfl rfl (rCells f) rfl (by simp [rCells, Value.oneCell']) (by kernel_rfl) (k := 0) rfl rfl fun w9 h => hK _ _ ?_); clear hs hK K; have hs := h; clear h; dsimp only [List.set] at hs
               have k0 : w9.cell? ⟨b16, 0, none⟩ = some (.int .u32 (f.epoch : Nat)) := hs.cell (l := rCells f) (t := 125) (by (try dsimp only [List.set]); repeat (first | with_reducible exact List.mem_cons_self | with_reducible apply List.mem_cons_of_mem)) rfl
               have k1 : w9.cell? ⟨b16, 1, none⟩ = some (.int .u32 (f.seq : Nat)) := hs.cell (l := rCells f) (t := 125) (by (try dsimp only [List.set]); repeat (first | with_reducible exact List.mem_cons_self | with_reducible apply List.mem_cons_of_mem)) rfl
               have k2 : w9.cell? ⟨b16, 2, none⟩ = some (.int .u8 f.flag.toNat) := hs.cell (l := rCells f) (t := 125) (by (try dsimp only [List.set]); repeat (first | with_reducible exact List.mem_cons_self | with_reducible apply List.mem_cons_of_mem)) rfl
               have k3 : w9.cell? ⟨b16, 3, none⟩ = some (.string ⟨f.body.toArray⟩) := hs.cell (l := rCells f) (t := 125) (by (try dsimp only [List.set]); repeat (first | with_reducible exact List.mem_cons_self | with_reducible apply List.mem_cons_of_mem)) rfl)
            | (guard_target = wpList _ _ _ (⟨some 56, .load _ _, _, _, _, _⟩ :: _) _ _; refine wpl (o := ⟨some 56, .load _ _, _, _, _, _⟩) rfl fun K hK => op_load rfl (ad := ⟨b16, 0, none⟩) rfl (by kernel_rfl) k0 (hK _ _ ?_); clear hK K)
            | (guard_target = wpList _ _ _ (⟨some 72, .load _ _, _, _, _, _⟩ :: _) _ _; refine wpl (o := ⟨some 72, .load _ _, _, _, _, _⟩) rfl fun K hK => op_load rfl (ad := ⟨b16, 0, none⟩) rfl (by kernel_rfl) k0 (hK _ _ ?_); clear hK K)
            | (guard_target = wpList _ _ _ (⟨some 78, .load _ _, _, _, _, _⟩ :: _) _ _; refine wpl (o := ⟨some 78, .load _ _, _, _, _, _⟩) rfl fun K hK => op_load rfl (ad := ⟨b16, 1, none⟩) rfl (by kernel_rfl) k1 (hK _ _ ?_); clear hK K)
            | (guard_target = wpList _ _ _ (⟨some 85, .load _ _, _, _, _, _⟩ :: _) _ _; refine wpl (o := ⟨some 85, .load _ _, _, _, _, _⟩) rfl fun K hK => op_load rfl (ad := ⟨b16, 2, none⟩) rfl (by kernel_rfl) k2 (hK _ _ ?_); clear hK K)
            | (guard_target = wpList _ _ _ (⟨some 94, .load _ _, _, _, _, _⟩ :: _) _ _; refine wpl (o := ⟨some 94, .load _ _, _, _, _, _⟩) rfl fun K hK => op_load rfl (ad := ⟨b16, 3, none⟩) rfl (by kernel_rfl) k3 (hK _ _ ?_); clear hK K)
            | (guard_target = wpList _ _ _ (⟨some 97, .load _ _, _, _, _, _⟩ :: _) _ _; refine wpl (o := ⟨some 97, .load _ _, _, _, _, _⟩) rfl fun K hK => op_load rfl (ad := ⟨b16, 2, none⟩) rfl (by kernel_rfl) k2 (hK _ _ ?_); clear hK K))
          (try simp only [Exit.inBlock, Exit.then])
          refine bodyPost_ret (res_tmp3 rfl _ _ _) rfl ?_
          rw [HRES.out]
          exact ⟨rfl, hs.pack (by repeat (first | with_reducible exact Pack.refl | with_reducible exact Pack.nil | with_reducible refine Pack.cons (by repeat (first | with_reducible exact Pick.here | with_reducible apply Pick.there)) ?_ | with_reducible apply Pack.drop))⟩
    · have hltI : ¬ (i : Int) < (size : Int) := by omega
      have HRES : Box (p = none) := ⟨by rw [← HEQ.out, show size - i = 0 by omega]; rfl⟩
      go_wp2_with fail
      (try simp only [Exit.inBlock, Exit.then])
      refine bodyPost_ret (res_tmp3 rfl _ _ _) rfl ?_
      rw [HRES.out]
      exact ⟨rfl, hs.pack (by repeat (first | with_reducible exact Pack.refl | with_reducible exact Pack.nil | with_reducible refine Pack.cons (by repeat (first | with_reducible exact Pick.here | with_reducible apply Pick.there)) ?_ | with_reducible apply Pack.drop))⟩
end Go.Proofs.Ytfpgmnnecnaheaa
