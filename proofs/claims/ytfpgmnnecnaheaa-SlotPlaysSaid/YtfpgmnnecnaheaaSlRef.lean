/- The contracts of ogiveref08.May and Save. -/
import Derived.Test.YtfpgmnnecnaheaaSlW
import Derived.Test.YtfpgmnnecnaheaaRCut
import Derived.Test.YtfpgmnnecnaheaaVdRefW
set_option linter.unusedVariables false
set_option linter.unusedSimpArgs false
namespace Go.Proofs.Ytfpgmnnecnaheaa
open Go.RowKit
theorem rpack_row8 (W w : World) (L : List HP) (hs : Sat W w L) (f : Fr) (ok : f.Ok) (h50 : f.body.length ≤ 50) :
    Calls Try.prog 73 #[.agg (rCells f).toArray] w fun e w' => e = .returned (.tuple #[(.string ⟨(f.pack).toArray⟩), .int .i64 0]) ∧ Sat W w' L := rpack_spec W w L hs f ok h50
theorem rfs_prt8 (l : List Fr) (i : Nat) (h : i < l.length) : ∀ j v, (rCells l[i])[j]? = some v → (rfs l)[i * 4 + j]? = some v := fun j v hv => by
  have hj : j < 4 := by
    have := (List.getElem?_eq_some_iff.1 hv).1
    simpa using this
  rw [rfs_get l i h j hj]; exact hv
theorem own_rng8 {W w : World} {L : List HP} (hs : Sat W w L) {b n cap sz i : Nat} {e : TypeId} {vs cs : List Value} (hm : own (.slice (some ⟨b, 0, none⟩) n cap) e n sz vs ∈ L) (h : ∀ j v, cs[j]? = some v → vs[i + j]? = some v) : w.rangeAt b i cs := fun j v hv => own_cell hs hm (h j v hv)
set_option maxRecDepth 100000 in
set_option maxHeartbeats 4000000 in
theorem rslmay_spec (W w : World) (L : List HP) (hs : Sat W w L) (As : Option Addr) (n cs : Nat) (va vr : Value) (first size : Int) (hn : n ≤ 1024) :
    Calls Try.prog 61 #[.agg #[.slice As n cs, va, vr], .int .i64 first, .int .i64 size] w fun e w' => e = .returned (.bool (slMayB n first size)) ∧ Sat W w' L := by
  by_cases h1 : first < 0
  · have hm : slMayB n first size = false := decide_eq_false (by omega)
    rw [hm]; clear hm
    go_enter Try.func61, Try.ntmps61
    go_wp2_with (first
      | (guard_target = wpList _ _ _ (⟨some 3, .box _ _, _, _, _, _⟩ :: _) _ _; refine wpl (o := ⟨some 3, .box _ _, _, _, _, _⟩) rfl fun K hK => ?_; go_must (refine op_box hs rfl _ rfl [.slice As n cs, va, vr] rfl fun b3 w1 h => hK _ _ ?_); clear hs hK K; have hs := h; clear h; try dsimp only [List.set] at hs))
    go_ret
    exact ⟨rfl, hs.tail⟩
  by_cases h2 : size < 1
  · have hm : slMayB n first size = false := decide_eq_false (by omega)
    rw [hm]; clear hm
    go_enter Try.func61, Try.ntmps61
    go_wp2_with (first
      | (guard_target = wpList _ _ _ (⟨some 3, .box _ _, _, _, _, _⟩ :: _) _ _; refine wpl (o := ⟨some 3, .box _ _, _, _, _, _⟩) rfl fun K hK => ?_; go_must (refine op_box hs rfl _ rfl [.slice As n cs, va, vr] rfl fun b3 w1 h => hK _ _ ?_); clear hs hK K; have hs := h; clear h; try dsimp only [List.set] at hs))
    go_ret
    exact ⟨rfl, hs.tail⟩
  by_cases h3 : 1024 < first
  · have hm : slMayB n first size = false := decide_eq_false (by omega)
    rw [hm]; clear hm
    go_enter Try.func61, Try.ntmps61
    go_wp2_with (first
      | (guard_target = wpList _ _ _ (⟨some 3, .box _ _, _, _, _, _⟩ :: _) _ _; refine wpl (o := ⟨some 3, .box _ _, _, _, _, _⟩) rfl fun K hK => ?_; go_must (refine op_box hs rfl _ rfl [.slice As n cs, va, vr] rfl fun b3 w1 h => hK _ _ ?_); clear hs hK K; have hs := h; clear h; try dsimp only [List.set] at hs))
    go_ret
    exact ⟨rfl, hs.tail⟩
  by_cases h4 : 1024 < size
  · have hm : slMayB n first size = false := decide_eq_false (by omega)
    rw [hm]; clear hm
    go_enter Try.func61, Try.ntmps61
    go_wp2_with (first
      | (guard_target = wpList _ _ _ (⟨some 3, .box _ _, _, _, _, _⟩ :: _) _ _; refine wpl (o := ⟨some 3, .box _ _, _, _, _, _⟩) rfl fun K hK => ?_; go_must (refine op_box hs rfl _ rfl [.slice As n cs, va, vr] rfl fun b3 w1 h => hK _ _ ?_); clear hs hK K; have hs := h; clear h; try dsimp only [List.set] at hs))
    go_ret
    exact ⟨rfl, hs.tail⟩
  have hw1 : IntKind.i64.wrap (2 * size) = 2 * size := by rw [IntKind.wrap_i64]; omega
  have hw2 : IntKind.i64.wrap (first + 2 * size) = first + 2 * size := by rw [IntKind.wrap_i64]; omega
  by_cases h5 : first + 2 * size ≤ (n : Int)
  · have hm : slMayB n first size = true := decide_eq_true (by omega)
    rw [hm]; clear hm
    go_enter Try.func61, Try.ntmps61
    go_wp2_with (first
      | (guard_target = wpList _ _ _ (⟨some 3, .box _ _, _, _, _, _⟩ :: _) _ _; refine wpl (o := ⟨some 3, .box _ _, _, _, _, _⟩) rfl fun K hK => ?_; go_must (refine op_box hs rfl _ rfl [.slice As n cs, va, vr] rfl fun b3 w1 h => hK _ _ ?_); clear hs hK K; have hs := h; clear h
         have k0 : w1.cell? ⟨b3, 0, none⟩ = some (.slice As n cs) := hs.cell m0 rfl))
    go_ret
    exact ⟨rfl, hs.tail⟩
  · have hm : slMayB n first size = false := decide_eq_false (by omega)
    rw [hm]; clear hm
    go_enter Try.func61, Try.ntmps61
    go_wp2_with (first
      | (guard_target = wpList _ _ _ (⟨some 3, .box _ _, _, _, _, _⟩ :: _) _ _; refine wpl (o := ⟨some 3, .box _ _, _, _, _, _⟩) rfl fun K hK => ?_; go_must (refine op_box hs rfl _ rfl [.slice As n cs, va, vr] rfl fun b3 w1 h => hK _ _ ?_); clear hs hK K; have hs := h; clear h
         have k0 : w1.cell? ⟨b3, 0, none⟩ = some (.slice As n cs) := hs.cell m0 rfl))
    go_ret
    exact ⟨rfl, hs.tail⟩
set_option maxRecDepth 100000 in
set_option maxHeartbeats 4000000 in
theorem rslsave_arg (W w : World) (L : List HP) (As Aa Ar : Option Addr) (n na nr cs ca cr : Nat) (hs : Sat W w L) (first size : Int) (gen : Nat) (rec : List UInt8) (hn : n ≤ 1024) (hno : slMayB n first size = false ∨ gen = 0) :
    Calls Try.prog 58 #[.agg #[.slice As n cs, .slice Aa na ca, .slice Ar nr cr], .int .i64 first, .int .i64 size, .int .u32 (gen : Nat), (.string ⟨(rec).toArray⟩)] w fun e w' => e = .returned (.tuple #[.agg #[.slice As n cs, .slice Aa na ca, .slice Ar nr cr], .int .i64 1]) ∧ Sat W w' L := by
  cases hm : slMayB n first size
  · have hM := Box.mk hm
    clear hm hno
    go_enter Try.func58, Try.ntmps58
    go_wp2_with (first
      | (guard_target = wpList _ _ _ (⟨some 5, .box _ _, _, _, _, _⟩ :: _) _ _; refine wpl (o := ⟨some 5, .box _ _, _, _, _, _⟩) rfl fun K hK => ?_; go_must (refine op_box hs rfl _ rfl [.slice As n cs, .slice Aa na ca, .slice Ar nr cr] rfl fun b5 w1 h => hK _ _ ?_); clear hs hK K; have hs := h; clear h; try dsimp only [List.set] at hs)
      | (guard_target = wpList _ _ _ (⟨some 10, .alloc _, _, _, _, _⟩ :: _) _ _; refine wpl (o := ⟨some 10, .alloc _, _, _, _, _⟩) rfl fun K hK => ?_; go_must (refine op_alloc hs rfl _ zref [.slice none 0 0, .slice none 0 0, .slice none 0 0] rfl fun b10 w1 h => hK _ _ ?_); clear hs hK K; have hs := h; clear h; try dsimp only [List.set] at hs)
      | (guard_target = wpList _ _ _ (⟨some 18, .load _ _, _, _, _, _⟩ :: _) _ _; refine wpl (o := ⟨some 18, .load _ _, _, _, _, _⟩) rfl fun K hK => op_load_agg rfl (b := b5) (i := 0) rfl ([.slice As n cs, .slice Aa na ca, .slice Ar nr cr]) (range_whole hs (by (try dsimp only [List.set]); repeat (first | with_reducible exact List.mem_cons_self | with_reducible apply List.mem_cons_of_mem))) (by kernel_rfl) (by kernel_rfl) (hK _ _ ?_); clear hK K)
      | (go_at_call 61; go_must (refine (rslmay_spec W _ _ hs As n cs (.slice Aa na ca) (.slice Ar nr cr) first size hn).mono ?_); clear hs; rintro e w1 ⟨rfl, hs⟩; rw [hM.out])
      | (guard_target = wpList _ _ _ (⟨some 27, .load _ _, _, _, _, _⟩ :: _) _ _; refine wpl (o := ⟨some 27, .load _ _, _, _, _, _⟩) rfl fun K hK => op_load_agg rfl (b := b5) (i := 0) rfl ([.slice As n cs, .slice Aa na ca, .slice Ar nr cr]) (range_whole hs (by (try dsimp only [List.set]); repeat (first | with_reducible exact List.mem_cons_self | with_reducible apply List.mem_cons_of_mem))) (by kernel_rfl) (by kernel_rfl) (hK _ _ ?_); clear hK K)
      | (guard_target = wpList _ _ _ (⟨none, .store _ (.tmp 10) _, _, _, _, _⟩ :: _) _ _; refine wpl (o := ⟨none, .store _ (.tmp 10) _, _, _, _, _⟩) rfl fun K hK => ?_; go_must (refine op_store_whole hs (b := b10) rfl rfl [.slice As n cs, .slice Aa na ca, .slice Ar nr cr] rfl (slices_one rfl rfl rfl) (by kernel_rfl) (k := 0) rfl rfl fun w3 h => hK _ _ ?_); clear hs hK K; have hs := h; clear h; try dsimp only [List.set] at hs))
    exact bodyPost_ret (run_results_cell_tmp rfl (b := b10) rfl [.slice As n cs, .slice Aa na ca, .slice Ar nr cr] (range_whole hs m0) (by kernel_rfl) (by kernel_rfl)) rfl ⟨rfl, hs.tail.tail⟩
  · have hg : gen = 0 := by
      rcases hno with h | h
      · rw [hm] at h; cases h
      · exact h
    subst hg
    have hM := Box.mk hm
    clear hm hno
    go_enter Try.func58, Try.ntmps58
    go_wp2_with (first
      | (guard_target = wpList _ _ _ (⟨some 5, .box _ _, _, _, _, _⟩ :: _) _ _; refine wpl (o := ⟨some 5, .box _ _, _, _, _, _⟩) rfl fun K hK => ?_; go_must (refine op_box hs rfl _ rfl [.slice As n cs, .slice Aa na ca, .slice Ar nr cr] rfl fun b5 w1 h => hK _ _ ?_); clear hs hK K; have hs := h; clear h; try dsimp only [List.set] at hs)
      | (guard_target = wpList _ _ _ (⟨some 10, .alloc _, _, _, _, _⟩ :: _) _ _; refine wpl (o := ⟨some 10, .alloc _, _, _, _, _⟩) rfl fun K hK => ?_; go_must (refine op_alloc hs rfl _ zref [.slice none 0 0, .slice none 0 0, .slice none 0 0] rfl fun b10 w1 h => hK _ _ ?_); clear hs hK K; have hs := h; clear h; try dsimp only [List.set] at hs)
      | (guard_target = wpList _ _ _ (⟨some 18, .load _ _, _, _, _, _⟩ :: _) _ _; refine wpl (o := ⟨some 18, .load _ _, _, _, _, _⟩) rfl fun K hK => op_load_agg rfl (b := b5) (i := 0) rfl ([.slice As n cs, .slice Aa na ca, .slice Ar nr cr]) (range_whole hs (by (try dsimp only [List.set]); repeat (first | with_reducible exact List.mem_cons_self | with_reducible apply List.mem_cons_of_mem))) (by kernel_rfl) (by kernel_rfl) (hK _ _ ?_); clear hK K)
      | (go_at_call 61; go_must (refine (rslmay_spec W _ _ hs As n cs (.slice Aa na ca) (.slice Ar nr cr) first size hn).mono ?_); clear hs; rintro e w1 ⟨rfl, hs⟩; rw [hM.out])
      | (guard_target = wpList _ _ _ (⟨some 27, .load _ _, _, _, _, _⟩ :: _) _ _; refine wpl (o := ⟨some 27, .load _ _, _, _, _, _⟩) rfl fun K hK => op_load_agg rfl (b := b5) (i := 0) rfl ([.slice As n cs, .slice Aa na ca, .slice Ar nr cr]) (range_whole hs (by (try dsimp only [List.set]); repeat (first | with_reducible exact List.mem_cons_self | with_reducible apply List.mem_cons_of_mem))) (by kernel_rfl) (by kernel_rfl) (hK _ _ ?_); clear hK K)
      | (guard_target = wpList _ _ _ (⟨none, .store _ (.tmp 10) _, _, _, _, _⟩ :: _) _ _; refine wpl (o := ⟨none, .store _ (.tmp 10) _, _, _, _, _⟩) rfl fun K hK => ?_; go_must (refine op_store_whole hs (b := b10) rfl rfl [.slice As n cs, .slice Aa na ca, .slice Ar nr cr] rfl (slices_one rfl rfl rfl) (by kernel_rfl) (k := 0) rfl rfl fun w3 h => hK _ _ ?_); clear hs hK K; have hs := h; clear h; try dsimp only [List.set] at hs))
    exact bodyPost_ret (run_results_cell_tmp rfl (b := b10) rfl [.slice As n cs, .slice Aa na ca, .slice Ar nr cr] (range_whole hs m0) (by kernel_rfl) (by kernel_rfl)) rfl ⟨rfl, hs.tail.tail⟩
set_option maxRecDepth 100000 in
set_option maxHeartbeats 8000000 in
theorem rslsave_spec (W w : World) (L : List HP) (vs va vr : Value) (D : Dk) (okD : D.Ok) (hs : Sat W w (ref vs va vr D :: L)) (first size : Nat) (gen : Nat) (hg0 : gen ≠ 0) (hg : gen < 4294967296) (hm : slMayB D.secs.length (first : Nat) (size : Nat) = true) (rec : List UInt8) (hl : rec.length ≤ 1000) (hr : D.row.length ≤ 800000) :
    Calls Try.prog 58 #[.agg #[vs, va, vr], .int .i64 (first : Nat), .int .i64 (size : Nat), .int .u32 (gen : Nat), (.string ⟨(rec).toArray⟩)] w fun e w' => ∃ vs' va' vr', e = .returned (.tuple #[.agg #[vs', va', vr'], .int .i64 (slCode D.secs.length (first : Nat) (size : Nat) gen rec : Nat)]) ∧ Sat W w' (ref vs' va' vr' (slSave D (first : Nat) (size : Nat) gen rec) :: L) := by
  obtain ⟨As, cs, rfl, _, _⟩ := slice_form (hs.slice (ref_secs m0))
  obtain ⟨Aa, ca, rfl, _, _⟩ := slice_form (hs.slice (ref_ats m0))
  obtain ⟨Ar, cr, rfl, _, _⟩ := slice_form (hs.slice (ref_row m0))
  have hfew := okD.few
  have hm2 : first + 2 * size ≤ D.secs.length ∧ 1 ≤ size := by
    unfold slMayB at hm
    have := of_decide_eq_true hm
    omega
  obtain ⟨n, hn⟩ : ∃ n, (cuts rec).length = n := ⟨_, rfl⟩
  have hcl : Box ((cutF gen 0 rec).length = n) := ⟨by rw [cutF_length, hn]⟩
  have hn0 : 0 < n := by rw [← hn]; exact List.length_pos_iff.2 (cuts_ne rec)
  have hn1 : n ≤ 1001 := by have := cuts_count rec; omega
  have hM := Box.mk hm
  by_cases hfit : size < n
  · have hcode : slCode D.secs.length (first : Nat) (size : Nat) gen rec = 3 := by
      unfold slCode
      rw [if_neg (by rw [hm]; simp [hg0]), hn, if_pos (by omega)]
    have hsv : slSave D (first : Nat) (size : Nat) gen rec = D := by unfold slSave; rw [hcode]; rfl
    rw [hcode, hsv]
    clear hcode hsv hm
    have hfitI : (size : Int) < (n : Int) := by omega
    go_enter Try.func58, Try.ntmps58
    go_wp2_with (first
      | (guard_target = wpList _ _ _ (⟨some 5, .box _ _, _, _, _, _⟩ :: _) _ _; refine wpl (o := ⟨some 5, .box _ _, _, _, _, _⟩) rfl fun K hK => ?_; go_must (refine op_box hs rfl _ rfl [.slice As D.secs.length cs, .slice Aa D.row.length ca, .slice Ar D.row.length cr] rfl fun b5 w1 h => hK _ _ ?_); clear hs hK K; have hs := h; clear h; try dsimp only [List.set] at hs)
      | (guard_target = wpList _ _ _ (⟨some 10, .alloc _, _, _, _, _⟩ :: _) _ _; refine wpl (o := ⟨some 10, .alloc _, _, _, _, _⟩) rfl fun K hK => ?_; go_must (refine op_alloc hs rfl _ zref [.slice none 0 0, .slice none 0 0, .slice none 0 0] rfl fun b10 w1 h => hK _ _ ?_); clear hs hK K; have hs := h; clear h; try dsimp only [List.set] at hs)
      | (guard_target = wpList _ _ _ (⟨some 18, .load _ _, _, _, _, _⟩ :: _) _ _; refine wpl (o := ⟨some 18, .load _ _, _, _, _, _⟩) rfl fun K hK => op_load_agg rfl (b := b5) (i := 0) rfl ([.slice As D.secs.length cs, .slice Aa D.row.length ca, .slice Ar D.row.length cr]) (range_whole hs (by (try dsimp only [List.set]); repeat (first | with_reducible exact List.mem_cons_self | with_reducible apply List.mem_cons_of_mem))) (by kernel_rfl) (by kernel_rfl) (hK _ _ ?_); clear hK K)
      | (go_at_call 61; go_must (refine (rslmay_spec W _ _ hs As D.secs.length cs (.slice Aa D.row.length ca) (.slice Ar D.row.length cr) first size hfew).mono ?_); clear hs; rintro e w1 ⟨rfl, hs⟩; rw [hM.out])
      | (go_at_call 44; go_must (refine (rcut_spec W _ _ hs gen 0 hg (by omega) rec (by omega)).mono ?_); clear hs; rintro e w1 ⟨v7, rfl, hs⟩; rw [hn] at hs
         obtain ⟨A7, c7, rfl, _, _⟩ := own_slice hs (i := 0) rfl)
      | (guard_target = wpList _ _ _ (⟨some 35, .load _ _, _, _, _, _⟩ :: _) _ _; refine wpl (o := ⟨some 35, .load _ _, _, _, _, _⟩) rfl fun K hK => op_load_agg rfl (b := b5) (i := 0) rfl ([.slice As D.secs.length cs, .slice Aa D.row.length ca, .slice Ar D.row.length cr]) (range_whole hs (by (try dsimp only [List.set]); repeat (first | with_reducible exact List.mem_cons_self | with_reducible apply List.mem_cons_of_mem))) (by kernel_rfl) (by kernel_rfl) (hK _ _ ?_); clear hK K)
      | (guard_target = wpList _ _ _ (⟨none, .store _ (.tmp 10) _, _, _, _, _⟩ :: _) _ _; refine wpl (o := ⟨none, .store _ (.tmp 10) _, _, _, _, _⟩) rfl fun K hK => ?_; go_must (refine op_store_whole (hs.pick (A := row b10 [.slice none 0 0, .slice none 0 0, .slice none 0 0] 46) (by repeat (first | with_reducible exact Pick.here | with_reducible apply Pick.there))) (b := b10) rfl rfl [.slice As D.secs.length cs, .slice Aa D.row.length ca, .slice Ar D.row.length cr] rfl (slices_one rfl rfl rfl) (by kernel_rfl) (k := 0) rfl rfl fun w3 h => hK _ _ ?_); clear hs hK K; have hs := h; clear h; try dsimp only [List.set] at hs))
    exact bodyPost_ret (run_results_cell_tmp rfl (b := b10) rfl [.slice As D.secs.length cs, .slice Aa D.row.length ca, .slice Ar D.row.length cr] (range_whole hs m0) (by kernel_rfl) (by kernel_rfl)) rfl ⟨_, _, _, rfl, hs.pack (by repeat (first | with_reducible exact Pack.refl | with_reducible exact Pack.nil | with_reducible refine Pack.cons (by repeat (first | with_reducible exact Pick.here | with_reducible apply Pick.there)) ?_ | with_reducible apply Pack.drop))⟩
  have hfitI : ¬ (size : Int) < (n : Int) := by omega
  have hpar : gen % 2 ≤ 1 := by omega
  have hle : size * (gen % 2) ≤ size * 1 := Nat.mul_le_mul_left _ hpar
  have hcode : slCode D.secs.length (first : Nat) (size : Nat) gen rec = 0 := by
    unfold slCode
    rw [if_neg (by rw [hm]; simp [hg0]), hn, if_neg (by omega)]
  have hsv : slSave D (first : Nat) (size : Nat) gen rec = slLay D (first + size * (gen % 2)) (cutF gen 0 rec) := by
    unfold slSave; rw [hcode, if_pos rfl]
    congr 1
  rw [hcode, hsv]
  clear hcode hsv hm
  have hrem : (gen : Int).tmod 2 = ((gen % 2 : Nat) : Int) := by rw [Int.tmod_eq_emod_of_nonneg (by omega)]; push_cast; rfl
  have hrem2 : (gen : Int) % 2 = ((gen % 2 : Nat) : Int) := by push_cast; rfl
  have hgz : ((gen : Int) == 0) = false := by simp [hg0]
  generalize gen % 2 = par at *
  have hmulI : (size : Int) * (par : Int) = ((size * par : Nat) : Int) := by push_cast; rfl
  generalize size * par = sp at *
  have hb2 : first + sp + n ≤ D.secs.length := by omega
  have hbI : (first : Int) + (sp : Int) = ((first + sp : Nat) : Int) := by push_cast; rfl
  generalize first + sp = base at *
  have hw1 : IntKind.i64.wrap (par : Int) = (par : Int) := by rw [IntKind.wrap_i64]; omega
  have hw2 : IntKind.i64.wrap (sp : Int) = (sp : Int) := by rw [IntKind.wrap_i64]; omega
  have hw3 : IntKind.i64.wrap (base : Int) = (base : Int) := by rw [IntKind.wrap_i64]; omega
  clear hle
  go_enter Try.func58, Try.ntmps58
  go_wp2_with (first
    | (guard_target = wpList _ _ _ (⟨some 5, .box _ _, _, _, _, _⟩ :: _) _ _; refine wpl (o := ⟨some 5, .box _ _, _, _, _, _⟩) rfl fun K hK => ?_; go_must (refine op_box hs rfl _ rfl [.slice As D.secs.length cs, .slice Aa D.row.length ca, .slice Ar D.row.length cr] rfl fun b5 w1 h => hK _ _ ?_); clear hs hK K; have hs := h; clear h; try dsimp only [List.set] at hs)
    | (guard_target = wpList _ _ _ (⟨some 10, .alloc _, _, _, _, _⟩ :: _) _ _; refine wpl (o := ⟨some 10, .alloc _, _, _, _, _⟩) rfl fun K hK => ?_; go_must (refine op_alloc hs rfl _ zref [.slice none 0 0, .slice none 0 0, .slice none 0 0] rfl fun b10 w1 h => hK _ _ ?_); clear hs hK K; have hs := h; clear h; try dsimp only [List.set] at hs)
    | (guard_target = wpList _ _ _ (⟨some 18, .load _ _, _, _, _, _⟩ :: _) _ _; refine wpl (o := ⟨some 18, .load _ _, _, _, _, _⟩) rfl fun K hK => op_load_agg rfl (b := b5) (i := 0) rfl ([.slice As D.secs.length cs, .slice Aa D.row.length ca, .slice Ar D.row.length cr]) (range_whole hs (by (try dsimp only [List.set]); repeat (first | with_reducible exact List.mem_cons_self | with_reducible apply List.mem_cons_of_mem))) (by kernel_rfl) (by kernel_rfl) (hK _ _ ?_); clear hK K)
    | (go_at_call 61; go_must (refine (rslmay_spec W _ _ hs As D.secs.length cs (.slice Aa D.row.length ca) (.slice Ar D.row.length cr) first size hfew).mono ?_); clear hs; rintro e w1 ⟨rfl, hs⟩; rw [hM.out])
    | (go_at_call 44; go_must (refine (rcut_spec W _ _ hs gen 0 hg (by omega) rec (by omega)).mono ?_); clear hs; rintro e w1 ⟨v7, rfl, hs⟩; rw [hn] at hs
       obtain ⟨b7, c7, sp7, rfl, _, _, _, _⟩ := hs.ownOpen (i := 0) rfl hn0))
  have hlay0 := hs.pack (L := row b5 [.slice As D.secs.length cs, .slice Aa D.row.length ca, .slice Ar D.row.length cr] 46 :: row b10 [.slice none 0 0, .slice none 0 0, .slice none 0 0] 46 :: ref (.slice As D.secs.length cs) (.slice Aa D.row.length ca) (.slice Ar D.row.length cr) (slLay D base ((cutF gen 0 rec).take 0)) :: own (.slice (some ⟨b7, 0, none⟩) n c7) 125 n 4 (rfs (cutF gen 0 rec)) :: L) (by
    rw [show slLay D base ((cutF gen 0 rec).take 0) = D from rfl]
    exact (by repeat (first | with_reducible exact Pack.refl | with_reducible exact Pack.nil | with_reducible refine Pack.cons (by repeat (first | with_reducible exact Pick.here | with_reducible apply Pick.there)) ?_ | with_reducible apply Pack.drop)))
  clear hs
  have hs := hlay0
  clear hlay0
  go_loopw [13] (fun v13 wr => ∃ (i : Nat) (us ua ur : Value), i ≤ n ∧ v13 = .int .i64 (i : Nat) ∧ Sat W wr (row b5 [us, ua, ur] 46 :: row b10 [.slice none 0 0, .slice none 0 0, .slice none 0 0] 46 :: ref us ua ur (slLay D base ((cutF gen 0 rec).take i)) :: own (.slice (some ⟨b7, 0, none⟩) n c7) 125 n 4 (rfs (cutF gen 0 rec)) :: L)) (fun v13 _ => n - (intOf v13).toNat)
  case atStart => exact ⟨0, _, _, _, by omega, rfl, hs⟩
  case round =>
    clear hs
    obtain ⟨i, us, ua, ur, hi, rfl, hs⟩ := hrel
    obtain ⟨As1, cs1, rfl, _, _⟩ := slice_form (hs.slice (ref_secs (by (try dsimp only [List.set]); repeat (first | with_reducible exact List.mem_cons_self | with_reducible apply List.mem_cons_of_mem))))
    obtain ⟨Aa1, ca1, rfl, _, _⟩ := slice_form (hs.slice (ref_ats (by (try dsimp only [List.set]); repeat (first | with_reducible exact List.mem_cons_self | with_reducible apply List.mem_cons_of_mem))))
    obtain ⟨Ar1, cr1, rfl, _, _⟩ := slice_form (hs.slice (ref_row (by (try dsimp only [List.set]); repeat (first | with_reducible exact List.mem_cons_self | with_reducible apply List.mem_cons_of_mem))))
    by_cases hin : i < n
    · have hinI : (i : Int) < (n : Int) := by omega
      have hfl : i < (cutF gen 0 rec).length := by rw [hcl.out]; exact hin
      obtain ⟨f, hff⟩ : ∃ f, (cutF gen 0 rec)[i] = f := ⟨_, rfl⟩
      have hfb : f.body.length ≤ 50 := by rw [← hff]; exact cutF_body gen 0 rec _ (List.getElem_mem hfl)
      have hfo : f.Ok := by rw [← hff]; exact cutF_oks gen 0 hg rec _ (List.getElem_mem hfl)
      obtain ⟨q, hq⟩ : ∃ q, base + i = q := ⟨_, rfl⟩
      have hqI : (base : Int) + (i : Int) = (q : Int) := by omega
      have hwq : IntKind.i64.wrap (q : Int) = (q : Int) := by rw [IntKind.wrap_i64]; omega
      have hwi : IntKind.i64.wrap ((i : Int) + 1) = (i : Int) + 1 := by rw [IntKind.wrap_i64]; omega
      have hstep : Box (slLay D base ((cutF gen 0 rec).take (i + 1)) = (slLay D base ((cutF gen 0 rec).take i)).write q f.pack) := ⟨by rw [List.take_succ_eq_append_getElem hfl, hff, slLay_snoc, List.length_take, Nat.min_eq_left (by omega), hq]⟩
      have hrow : Box ((slLay D base ((cutF gen 0 rec).take i)).row.length ≤ 1000000) := ⟨by rw [slLay_rows, List.length_take, hcl.out]; omega⟩
      have hat : Box (q < (slLay D base ((cutF gen 0 rec).take i)).secs.length) := ⟨by rw [slLay_secs]; omega⟩
      have hpl : Box (f.pack.length ≤ 64) := ⟨by rw [Fr.pack_length hfb]; omega⟩
      have q9 := rfs_prt8 (cutF gen 0 rec) i hfl
      rw [hff] at q9
      clear hff hfl hq
      generalize slLay D base ((cutF gen 0 rec).take i) = Di at hs hstep hrow hat
      generalize hn1 : Di.secs.length = n1 at hs hat
      generalize hn2 : Di.row.length = n2 at hs hrow
      have k46 := fun w (h : Sat W w (row b5 [.slice As1 n1 cs1, .slice Aa1 n2 ca1, .slice Ar1 n2 cr1] 46 :: row b10 [.slice none 0 0, .slice none 0 0, .slice none 0 0] 46 :: ref (.slice As1 n1 cs1) (.slice Aa1 n2 ca1) (.slice Ar1 n2 cr1) Di :: own (.slice (some ⟨b7, 0, none⟩) n c7) 125 n 4 (rfs (cutF gen 0 rec)) :: L)) => own_rng8 h (by (try dsimp only [List.set]); repeat (first | with_reducible exact List.mem_cons_self | with_reducible apply List.mem_cons_of_mem)) q9
      have HN1 := Box.mk hn1
      have HN2 := Box.mk hn2
      clear hn1 hn2
      go_wp2_with (first
        | (guard_target = wpList _ _ _ (⟨some 46, .load _ _, _, _, _, _⟩ :: _) _ _; refine wpl (o := ⟨some 46, .load _ _, _, _, _, _⟩) rfl fun K hK => op_load_agg rfl (b := b7) (i := i * 4) rfl (rCells f) (k46 _ hs) (by kernel_rfl) (by kernel_rfl) (hK _ _ ?_); clear hK K)
        | (go_at_call 73; go_must (refine (rpack_row8 W _ _ hs f hfo hfb).mono ?_); clear hs; rintro e w1 ⟨rfl, hs⟩)
        | (guard_target = wpList _ _ _ (⟨some 51, .load _ _, _, _, _, _⟩ :: _) _ _; refine wpl (o := ⟨some 51, .load _ _, _, _, _, _⟩) rfl fun K hK => op_load_agg rfl (b := b5) (i := 0) rfl ([.slice As1 n1 cs1, .slice Aa1 n2 ca1, .slice Ar1 n2 cr1]) (range_whole hs (by (try dsimp only [List.set]); repeat (first | with_reducible exact List.mem_cons_self | with_reducible apply List.mem_cons_of_mem))) (by kernel_rfl) (by kernel_rfl) (hK _ _ ?_); clear hK K)
        | (guard_target = wpList _ _ _ (⟨some 62, .convert _ _ _, _, _, _, _⟩ :: _) _ _; refine wpl (o := ⟨some 62, .convert _ _ _, _, _, _, _⟩) rfl fun K hK => ?_; go_must (refine op_to_bytes hs rfl Try.underlying9 Try.underlying23 Try.underlying5 (l := f.pack) rfl (by have := hpl.out; omega) fun v62 w2 h => hK _ _ ?_); clear hs hK K; have hs := h; clear h
           obtain ⟨A62, c62, rfl, _, _⟩ := own_slice hs (i := 0) rfl)
        | (go_at_call 26; go_must (refine (rwrite_spec W _ _ (.slice As1 n1 cs1) (.slice Aa1 n2 ca1) (.slice Ar1 n2 cr1) Di (hs.pick (A := ref (.slice As1 n1 cs1) (.slice Aa1 n2 ca1) (.slice Ar1 n2 cr1) Di) (by repeat (first | with_reducible exact Pick.here | with_reducible apply Pick.there))) q (by rw [HN1.out]; exact hat.out) _ f.pack (Has.mem (A := own (.slice A62 f.pack.length c62) 5 f.pack.length 1 (u8s f.pack)) (by (try dsimp only [List.set]); repeat (first | with_reducible exact List.mem_cons_self | with_reducible apply List.mem_cons_of_mem)) own_sliceAt) hpl.out (by rw [HN2.out]; exact hrow.out)).mono ?_); clear hs; rintro e w1 ⟨vs2, va2, vr2, rfl, hs⟩
           rw [← hstep.out] at hs
           generalize hDn : slLay D base ((cutF gen 0 rec).take (i + 1)) = Dn at hs
           have HDN := Box.mk hDn
           clear hDn
           obtain ⟨As2, cs2, rfl, _, _⟩ := slice_form (hs.slice (ref_secs m0))
           obtain ⟨Aa2, ca2, rfl, _, _⟩ := slice_form (hs.slice (ref_ats m0))
           obtain ⟨Ar2, cr2, rfl, _, _⟩ := slice_form (hs.slice (ref_row m0)))
        | (guard_target = wpList _ _ _ (⟨some 16, .alloc _, _, _, _, _⟩ :: _) _ _; refine wpl (o := ⟨some 16, .alloc _, _, _, _, _⟩) rfl fun K hK => ?_; go_must (refine op_alloc hs rfl _ zref [.slice none 0 0, .slice none 0 0, .slice none 0 0] rfl fun b16 w1 h => hK _ _ ?_); clear hs hK K; have hs := h; clear h; try dsimp only [List.set] at hs)
        | (guard_target = wpList _ _ _ (⟨none, .store _ (.tmp 16) _, _, _, _, _⟩ :: _) _ _; refine wpl (o := ⟨none, .store _ (.tmp 16) _, _, _, _, _⟩) rfl fun K hK => ?_; go_must (refine op_store_whole (hs.pick (A := row b16 [.slice none 0 0, .slice none 0 0, .slice none 0 0] 46) (by repeat (first | with_reducible exact Pick.here | with_reducible apply Pick.there))) (b := b16) rfl rfl [.slice As2 Dn.secs.length cs2, .slice Aa2 Dn.row.length ca2, .slice Ar2 Dn.row.length cr2] rfl (slices_one rfl rfl rfl) (by kernel_rfl) (k := 0) rfl rfl fun w3 h => hK _ _ ?_); clear hs hK K; have hs := h; clear h; try dsimp only [List.set] at hs)
        | (guard_target = wpList _ _ _ (⟨some 66, .load _ _, _, _, _, _⟩ :: _) _ _; refine wpl (o := ⟨some 66, .load _ _, _, _, _, _⟩) rfl fun K hK => op_load_agg rfl (b := b16) (i := 0) rfl [.slice As2 Dn.secs.length cs2, .slice Aa2 Dn.row.length ca2, .slice Ar2 Dn.row.length cr2] (range_whole hs m0) (by kernel_rfl) (by kernel_rfl) (hK _ _ ?_); clear hK K)
        | (guard_target = wpList _ _ _ (⟨none, .store _ (.tmp 5) _, _, _, _, _⟩ :: _) _ _; refine wpl (o := ⟨none, .store _ (.tmp 5) _, _, _, _, _⟩) rfl fun K hK => ?_; go_must (refine op_store_whole (hs.pick (A := row b5 [.slice As1 n1 cs1, .slice Aa1 n2 ca1, .slice Ar1 n2 cr1] 46) (by repeat (first | with_reducible exact Pick.here | with_reducible apply Pick.there))) (b := b5) rfl rfl [.slice As2 Dn.secs.length cs2, .slice Aa2 Dn.row.length ca2, .slice Ar2 Dn.row.length cr2] rfl (slices_one rfl rfl rfl) (by kernel_rfl) (k := 0) rfl rfl fun w3 h => hK _ _ ?_); clear hs hK K; have hs := h; clear h; try dsimp only [List.set] at hs))
      refine ⟨⟨i + 1, .slice As2 Dn.secs.length cs2, .slice Aa2 Dn.row.length ca2, .slice Ar2 Dn.row.length cr2, by omega, rfl, ?_⟩, by simp only [intOf]; omega⟩
      rw [HDN.out]
      exact hs.pack (by repeat (first | with_reducible exact Pack.refl | with_reducible exact Pack.nil | with_reducible refine Pack.cons (by repeat (first | with_reducible exact Pick.here | with_reducible apply Pick.there)) ?_ | with_reducible apply Pack.drop))
    · have hinI : ¬ (i : Int) < (n : Int) := by omega
      have hall : (cutF gen 0 rec).take i = cutF gen 0 rec := List.take_of_length_le (by rw [hcl.out]; omega)
      rw [hall] at hs
      generalize hDn : slLay D base (cutF gen 0 rec) = Dn at hs
      have HDN := Box.mk hDn
      clear hDn
      go_wp2_with (first
        | (guard_target = wpList _ _ _ (⟨some 67, .load _ _, _, _, _, _⟩ :: _) _ _; refine wpl (o := ⟨some 67, .load _ _, _, _, _, _⟩) rfl fun K hK => op_load_agg rfl (b := b5) (i := 0) rfl ([.slice As1 Dn.secs.length cs1, .slice Aa1 Dn.row.length ca1, .slice Ar1 Dn.row.length cr1]) (range_whole hs (by (try dsimp only [List.set]); repeat (first | with_reducible exact List.mem_cons_self | with_reducible apply List.mem_cons_of_mem))) (by kernel_rfl) (by kernel_rfl) (hK _ _ ?_); clear hK K)
        | (guard_target = wpList _ _ _ (⟨none, .store _ (.tmp 10) _, _, _, _, _⟩ :: _) _ _; refine wpl (o := ⟨none, .store _ (.tmp 10) _, _, _, _, _⟩) rfl fun K hK => ?_; go_must (refine op_store_whole (hs.pick (A := row b10 [.slice none 0 0, .slice none 0 0, .slice none 0 0] 46) (by repeat (first | with_reducible exact Pick.here | with_reducible apply Pick.there))) (b := b10) rfl rfl [.slice As1 Dn.secs.length cs1, .slice Aa1 Dn.row.length ca1, .slice Ar1 Dn.row.length cr1] rfl (slices_one rfl rfl rfl) (by kernel_rfl) (k := 0) rfl rfl fun w3 h => hK _ _ ?_); clear hs hK K; have hs := h; clear h; try dsimp only [List.set] at hs))
      refine bodyPost_ret (run_results_cell_tmp rfl (b := b10) rfl [.slice As1 Dn.secs.length cs1, .slice Aa1 Dn.row.length ca1, .slice Ar1 Dn.row.length cr1] (range_whole hs m0) (by kernel_rfl) (by kernel_rfl)) rfl ⟨_, _, _, rfl, ?_⟩
      rw [HDN.out]
      exact hs.pack (by repeat (first | with_reducible exact Pack.refl | with_reducible exact Pack.nil | with_reducible refine Pack.cons (by repeat (first | with_reducible exact Pick.here | with_reducible apply Pick.there)) ?_ | with_reducible apply Pack.drop))
end Go.Proofs.Ytfpgmnnecnaheaa
