/- The contract of slot.Save. -/
import Derived.Test.YtfpgmnnecnaheaaSlW
set_option linter.unusedVariables false
set_option linter.unusedSimpArgs false
namespace Go.Proofs.Ytfpgmnnecnaheaa
open Go.RowKit
theorem own_rng' {W w : World} {L : List HP} (hs : Sat W w L) {b n cap sz i : Nat} {e : TypeId} {vs cs : List Value} (hm : own (.slice (some ⟨b, 0, none⟩) n cap) e n sz vs ∈ L) (h : ∀ j v, cs[j]? = some v → vs[i + j]? = some v) : w.rangeAt b i cs := fun j v hv => own_cell hs hm (h j v hv)
theorem frs_prt' (l : List (Fr × Value)) (i : Nat) (h : i < l.length) : ∀ j v, (frCells l[i].1 l[i].2)[j]? = some v → (frsCells l)[i * 4 + j]? = some v := fun j v hv => by
  have hj : j < 4 := by
    have := (List.getElem?_eq_some_iff.1 hv).1
    simpa using this
  rw [frsCells_get l i h j hj]; exact hv
theorem fpack_row' (W w : World) (L : List HP) (hs : Sat W w L) (f : Fr) (ok : f.Ok) (vb : Value) (hb : Has L (bytesAt vb f.body)) (h50 : f.body.length ≤ 50) :
    Calls Try.prog 47 #[.agg (frCells f vb).toArray] w (fpackPost f W L) := fpack_spec W w L hs f ok vb hb h50
set_option maxRecDepth 100000 in
set_option maxHeartbeats 4000000 in
theorem slsave_nil (W w : World) (L : List HP) (hs : Sat W w L) (first size : Int) (hfi : first < 9223372036854775808) (gen : Nat) (v : Value) :
    Calls Try.prog 17 #[.pointer none, .agg (areaC first size).toArray, .int .u32 (gen : Nat), v] w fun e w' => e = .returned (.int .i64 1) ∧ Sat W w' L := by
  go_enter Try.func17, Try.ntmps17
  go_wp2_with (first
    | (guard_target = wpList _ _ _ (⟨some 5, .box _ _, _, _, _, _⟩ :: _) _ _; refine wpl (o := ⟨some 5, .box _ _, _, _, _, _⟩) rfl fun K hK => ?_; go_must (refine op_box hs rfl _ rfl (areaC first size) rfl fun b5 w1 h => hK _ _ ?_); clear hs hK K; have hs := h; clear h; try dsimp only [List.set] at hs)
    | (guard_target = wpList _ _ _ (⟨some 14, .load _ _, _, _, _, _⟩ :: _) _ _; refine wpl (o := ⟨some 14, .load _ _, _, _, _, _⟩) rfl fun K hK => op_load_agg rfl (b := b5) (i := 0) rfl (areaC first size) (range_whole hs (by (try dsimp only [List.set]); repeat (first | with_reducible exact List.mem_cons_self | with_reducible apply List.mem_cons_of_mem))) (by kernel_rfl) (by kernel_rfl) (hK _ _ ?_); clear hK K)
    | (go_at_call 45; go_must (refine (slmay_nil W _ _ hs first size hfi).mono ?_); clear hs; rintro e w1 ⟨rfl, hs⟩))
  go_ret
  exact ⟨rfl, hs.pack (by repeat (first | with_reducible exact Pack.refl | with_reducible exact Pack.nil | with_reducible refine Pack.cons (by repeat (first | with_reducible exact Pick.here | with_reducible apply Pick.there)) ?_ | with_reducible apply Pack.drop))⟩
set_option maxRecDepth 100000 in
set_option maxHeartbeats 4000000 in
theorem slsave_arg (W w : World) (L : List HP) (b : Nat) (D : Dk) (hs : Sat W w (disk b D :: L)) (first size : Int) (hfi : first < 9223372036854775808) (gen : Nat) (v : Value) (hno : slMayB D.secs.length first size = false ∨ gen = 0) :
    Calls Try.prog 17 #[.pointer (some ⟨b, 0, none⟩), .agg (areaC first size).toArray, .int .u32 (gen : Nat), v] w fun e w' => e = .returned (.int .i64 1) ∧ Sat W w' (disk b D :: L) := by
  cases hm : slMayB D.secs.length first size
  · have hM := Box.mk hm
    clear hm
    go_enter Try.func17, Try.ntmps17
    go_wp2_with (first
      | (guard_target = wpList _ _ _ (⟨some 5, .box _ _, _, _, _, _⟩ :: _) _ _; refine wpl (o := ⟨some 5, .box _ _, _, _, _, _⟩) rfl fun K hK => ?_; go_must (refine op_box hs rfl _ rfl (areaC first size) rfl fun b5 w1 h => hK _ _ ?_); clear hs hK K; have hs := h; clear h; try dsimp only [List.set] at hs)
      | (guard_target = wpList _ _ _ (⟨some 14, .load _ _, _, _, _, _⟩ :: _) _ _; refine wpl (o := ⟨some 14, .load _ _, _, _, _, _⟩) rfl fun K hK => op_load_agg rfl (b := b5) (i := 0) rfl (areaC first size) (range_whole hs (by (try dsimp only [List.set]); repeat (first | with_reducible exact List.mem_cons_self | with_reducible apply List.mem_cons_of_mem))) (by kernel_rfl) (by kernel_rfl) (hK _ _ ?_); clear hK K)
      | (go_at_call 45; go_must (refine (slmay_spec W _ _ b D (hs.pick (A := disk b D) (by repeat (first | with_reducible exact Pick.here | with_reducible apply Pick.there))) first size hfi).mono ?_); clear hs; rintro e w1 ⟨rfl, hs⟩; rw [hM.out]))
    go_ret
    exact ⟨rfl, hs.pack (by repeat (first | with_reducible exact Pack.refl | with_reducible exact Pack.nil | with_reducible refine Pack.cons (by repeat (first | with_reducible exact Pick.here | with_reducible apply Pick.there)) ?_ | with_reducible apply Pack.drop))⟩
  · have hg : gen = 0 := by
      rcases hno with h | h
      · rw [hm] at h; cases h
      · exact h
    subst hg
    have hM := Box.mk hm
    clear hm
    go_enter Try.func17, Try.ntmps17
    go_wp2_with (first
      | (guard_target = wpList _ _ _ (⟨some 5, .box _ _, _, _, _, _⟩ :: _) _ _; refine wpl (o := ⟨some 5, .box _ _, _, _, _, _⟩) rfl fun K hK => ?_; go_must (refine op_box hs rfl _ rfl (areaC first size) rfl fun b5 w1 h => hK _ _ ?_); clear hs hK K; have hs := h; clear h; try dsimp only [List.set] at hs)
      | (guard_target = wpList _ _ _ (⟨some 14, .load _ _, _, _, _, _⟩ :: _) _ _; refine wpl (o := ⟨some 14, .load _ _, _, _, _, _⟩) rfl fun K hK => op_load_agg rfl (b := b5) (i := 0) rfl (areaC first size) (range_whole hs (by (try dsimp only [List.set]); repeat (first | with_reducible exact List.mem_cons_self | with_reducible apply List.mem_cons_of_mem))) (by kernel_rfl) (by kernel_rfl) (hK _ _ ?_); clear hK K)
      | (go_at_call 45; go_must (refine (slmay_spec W _ _ b D (hs.pick (A := disk b D) (by repeat (first | with_reducible exact Pick.here | with_reducible apply Pick.there))) first size hfi).mono ?_); clear hs; rintro e w1 ⟨rfl, hs⟩; rw [hM.out]))
    go_ret
    exact ⟨rfl, hs.pack (by repeat (first | with_reducible exact Pack.refl | with_reducible exact Pack.nil | with_reducible refine Pack.cons (by repeat (first | with_reducible exact Pick.here | with_reducible apply Pick.there)) ?_ | with_reducible apply Pack.drop))⟩
set_option maxRecDepth 100000 in
set_option maxHeartbeats 4000000 in
theorem slsave_spec (W w : World) (L : List HP) (b : Nat) (D : Dk) (hs : Sat W w (disk b D :: L)) (first size : Nat) (gen : Nat) (hg0 : gen ≠ 0) (hg : gen < 4294967296) (hm : slMayB D.secs.length (first : Nat) (size : Nat) = true) (v : Value) (rec : List UInt8) (hv : Has L (bytesAt v rec)) (hl : rec.length ≤ 140737488351232) (hr : D.row.length ≤ 800000) :
    Calls Try.prog 17 #[.pointer (some ⟨b, 0, none⟩), .agg (areaC (first : Nat) (size : Nat)).toArray, .int .u32 (gen : Nat), v] w fun e w' => e = .returned (.int .i64 (slCode D.secs.length (first : Nat) (size : Nat) gen rec : Nat)) ∧ Sat W w' (disk b (slSave D (first : Nat) (size : Nat) gen rec) :: L) := by
  obtain ⟨A, cap, rfl, hc1, hc2⟩ := slice_form (hs.bytes hv.tail)
  have okD := hs.disk_open.1
  have hfew := okD.few
  have hm2 : first + 2 * size ≤ D.secs.length ∧ 1 ≤ size := by
    unfold slMayB at hm
    have := of_decide_eq_true hm
    omega
  obtain ⟨n, hn⟩ : ∃ n, (cuts rec).length = n := ⟨_, rfl⟩
  have hcl : Box ((cutF gen 0 rec).length = n) := ⟨by rw [cutF_length, hn]⟩
  have hn0 : 0 < n := by rw [← hn]; exact List.length_pos_iff.2 (cuts_ne rec)
  have hn1 : n ≤ 2814749767025 := by rw [← hn, cuts_number _ rec (Nat.le_refl _)]; omega
  have hM := Box.mk hm
  by_cases hfit : size < n
  · have hcode : slCode D.secs.length (first : Nat) (size : Nat) gen rec = 3 := by
      unfold slCode
      rw [if_neg (by rw [hm]; simp [hg0]), hn, if_pos (by omega)]
    have hsv : slSave D (first : Nat) (size : Nat) gen rec = D := by unfold slSave; rw [hcode]; rfl
    rw [hcode, hsv]
    clear hcode hsv hm
    have hfitI : (size : Int) < (n : Int) := by omega
    go_enter Try.func17, Try.ntmps17
    go_wp2_with (first
      | (guard_target = wpList _ _ _ (⟨some 5, .box _ _, _, _, _, _⟩ :: _) _ _; refine wpl (o := ⟨some 5, .box _ _, _, _, _, _⟩) rfl fun K hK => ?_; go_must (refine op_box hs rfl _ rfl (areaC (first : Nat) (size : Nat)) rfl fun b5 w1 h => hK _ _ ?_); clear hs hK K; have hs := h; clear h; try dsimp only [List.set] at hs)
      | (guard_target = wpList _ _ _ (⟨some 14, .load _ _, _, _, _, _⟩ :: _) _ _; refine wpl (o := ⟨some 14, .load _ _, _, _, _, _⟩) rfl fun K hK => op_load_agg rfl (b := b5) (i := 0) rfl (areaC (first : Nat) (size : Nat)) (range_whole hs (by (try dsimp only [List.set]); repeat (first | with_reducible exact List.mem_cons_self | with_reducible apply List.mem_cons_of_mem))) (by kernel_rfl) (by kernel_rfl) (hK _ _ ?_); clear hK K)
      | (go_at_call 45; go_must (refine (slmay_spec W _ _ b D (hs.pick (A := disk b D) (by repeat (first | with_reducible exact Pick.here | with_reducible apply Pick.there))) (first : Nat) (size : Nat) (by omega)).mono ?_); clear hs; rintro e w1 ⟨rfl, hs⟩; rw [hM.out])
      | (go_at_call 46; go_must (refine (cut_spec W _ _ hs gen 0 hg (by omega) _ rec (show Has _ (bytesAt _ rec) from (by (try dsimp only [List.set]); repeat (first | exact hv | apply Has.tail))) (by omega)).mono ?_); clear hs; rintro e w1 ⟨v8, l8, rfl, hl8, hs⟩; rw [hcl.out] at hs
         obtain ⟨b8, c8, sp, rfl, _, _, _, _⟩ := hs.ownOpen (i := 0) rfl hn0)
      | (guard_target = wpList _ _ _ (⟨some 28, .load _ _, _, _, _, _⟩ :: _) _ _; refine wpl (o := ⟨some 28, .load _ _, _, _, _, _⟩) rfl fun K hK => op_load rfl (ad := ⟨b5, 1, none⟩) rfl (by kernel_rfl) (hs.cell (l := areaC (first : Nat) (size : Nat)) (t := 31) (by (try dsimp only [List.set]); repeat (first | with_reducible exact List.mem_cons_self | with_reducible apply List.mem_cons_of_mem)) rfl) (hK _ _ ?_); clear hK K))
    go_ret
    exact ⟨rfl, hs.pack (by repeat (first | with_reducible exact Pack.refl | with_reducible exact Pack.nil | with_reducible refine Pack.cons (by repeat (first | with_reducible exact Pick.here | with_reducible apply Pick.there)) ?_ | with_reducible apply Pack.drop))⟩
  have hfitI : ¬ (size : Int) < (n : Int) := by omega
  obtain ⟨base, hbase⟩ : ∃ base, first + size * (gen % 2) = base := ⟨_, rfl⟩
  have hpar : gen % 2 ≤ 1 := by omega
  have hb2 : base + n ≤ D.secs.length := by
    rw [← hbase]
    have : size * (gen % 2) ≤ size * 1 := Nat.mul_le_mul_left _ hpar
    omega
  have hcode : slCode D.secs.length (first : Nat) (size : Nat) gen rec = 0 := by
    unfold slCode
    rw [if_neg (by rw [hm]; simp [hg0]), hn, if_neg (by omega)]
  have hsv : slSave D (first : Nat) (size : Nat) gen rec = slLay D base (cutF gen 0 rec) := by
    unfold slSave; rw [hcode, if_pos rfl]
    congr 1
  rw [hcode, hsv]
  clear hcode hsv hm
  have hHB := Box.mk hbase
  clear hbase
  have hg2 : gen % 2 < 2 := by omega
  have hrem : (gen : Int).tmod 2 = ((gen % 2 : Nat) : Int) := by rw [Int.tmod_eq_emod_of_nonneg (by omega)]; push_cast; rfl
  have hrem2 : (gen : Int) % 2 = ((gen % 2 : Nat) : Int) := by push_cast; rfl
  have hgz : ((gen : Int) == 0) = false := by simp [hg0]
  obtain ⟨par, hpe⟩ : ∃ par, gen % 2 = par := ⟨_, rfl⟩
  rw [hpe] at hg2 hrem hrem2 hpar
  have hPE := Box.mk hpe
  clear hpe
  have hw1 : IntKind.i64.wrap (par : Int) = (par : Int) := by rw [IntKind.wrap_i64]; omega
  go_enter Try.func17, Try.ntmps17
  go_wp2_with (first
    | (guard_target = wpList _ _ _ (⟨some 5, .box _ _, _, _, _, _⟩ :: _) _ _; refine wpl (o := ⟨some 5, .box _ _, _, _, _, _⟩) rfl fun K hK => ?_; go_must (refine op_box hs rfl _ rfl (areaC (first : Nat) (size : Nat)) rfl fun b5 w1 h => hK _ _ ?_); clear hs hK K; have hs := h; clear h; try dsimp only [List.set] at hs)
    | (guard_target = wpList _ _ _ (⟨some 14, .load _ _, _, _, _, _⟩ :: _) _ _; refine wpl (o := ⟨some 14, .load _ _, _, _, _, _⟩) rfl fun K hK => op_load_agg rfl (b := b5) (i := 0) rfl (areaC (first : Nat) (size : Nat)) (range_whole hs (by (try dsimp only [List.set]); repeat (first | with_reducible exact List.mem_cons_self | with_reducible apply List.mem_cons_of_mem))) (by kernel_rfl) (by kernel_rfl) (hK _ _ ?_); clear hK K)
    | (go_at_call 45; go_must (refine (slmay_spec W _ _ b D (hs.pick (A := disk b D) (by repeat (first | with_reducible exact Pick.here | with_reducible apply Pick.there))) (first : Nat) (size : Nat) (by omega)).mono ?_); clear hs; rintro e w1 ⟨rfl, hs⟩; rw [hM.out])
    | (go_at_call 46; go_must (refine (cut_spec W _ _ hs gen 0 hg (by omega) _ rec (show Has _ (bytesAt _ rec) from (by (try dsimp only [List.set]); repeat (first | exact hv | apply Has.tail))) (by omega)).mono ?_); clear hs; rintro e w1 ⟨v8, l8, rfl, hl8, hs⟩; rw [hcl.out] at hs
       obtain ⟨b8, c8, sp, rfl, _, _, _, _⟩ := hs.ownOpen (i := 0) rfl hn0)
    | (guard_target = wpList _ _ _ (⟨some 28, .load _ _, _, _, _, _⟩ :: _) _ _; refine wpl (o := ⟨some 28, .load _ _, _, _, _, _⟩) rfl fun K hK => op_load rfl (ad := ⟨b5, 1, none⟩) rfl (by kernel_rfl) (hs.cell (l := areaC (first : Nat) (size : Nat)) (t := 31) (by (try dsimp only [List.set]); repeat (first | with_reducible exact List.mem_cons_self | with_reducible apply List.mem_cons_of_mem)) rfl) (hK _ _ ?_); clear hK K))
  have hlay0 := hs.pack (L := disk b (slLay D base ((cutF gen 0 rec).take 0)) :: row b5 (areaC (first : Nat) (size : Nat)) 31 :: own (.slice (some ⟨b8, 0, none⟩) n c8) 107 n 4 (frsCells l8) :: bods l8 :: L) (by
    rw [show slLay D base ((cutF gen 0 rec).take 0) = D from rfl]
    exact (by repeat (first | with_reducible exact Pack.refl | with_reducible exact Pack.nil | with_reducible refine Pack.cons (by repeat (first | with_reducible exact Pick.here | with_reducible apply Pick.there)) ?_ | with_reducible apply Pack.drop)))
  clear hs
  have hs := hlay0
  clear hlay0
  go_loopw [32] (fun v32 wr => ∃ i : Nat, i ≤ n ∧ v32 = .int .i64 (i : Nat) ∧ Sat W wr (disk b (slLay D base ((cutF gen 0 rec).take i)) :: row b5 (areaC (first : Nat) (size : Nat)) 31 :: own (.slice (some ⟨b8, 0, none⟩) n c8) 107 n 4 (frsCells l8) :: bods l8 :: L)) (fun v32 _ => n - (intOf v32).toNat)
  case atStart => exact ⟨0, by omega, rfl, hs⟩
  case round =>
    clear hs
    obtain ⟨i, hi, rfl, hs⟩ := hrel
    by_cases hin : i < n
    · have hinI : (i : Int) < (n : Int) := by omega
      have h8l : i < l8.length := by have := congrArg List.length hl8; simp at this; omega
      have hfl : i < (cutF gen 0 rec).length := by rw [hcl.out]; exact hin
      obtain ⟨f, y, hfy⟩ : ∃ f y, l8[i] = (f, y) := ⟨_, _, rfl⟩
      have hff : (cutF gen 0 rec)[i] = f := by
        have : (cutF gen 0 rec)[i]? = some f := by rw [← hl8]; simp [h8l, hfy]
        rw [List.getElem?_eq_getElem hfl] at this; exact Option.some.inj this
      have hfb : f.body.length ≤ 50 := by rw [← hff]; exact cutF_body gen 0 rec _ (List.getElem_mem hfl)
      have hfo : f.Ok := by rw [← hff]; exact cutF_oks gen 0 hg rec _ (List.getElem_mem hfl)
      have hstep : Box (slLay D base ((cutF gen 0 rec).take (i + 1)) = (slLay D base ((cutF gen 0 rec).take i)).write (base + i) f.pack) := ⟨by rw [List.take_succ_eq_append_getElem hfl, hff, slLay_snoc, List.length_take, Nat.min_eq_left (by omega)]⟩
      have hrow : Box ((slLay D base ((cutF gen 0 rec).take i)).row.length ≤ 1000000) := ⟨by rw [slLay_rows, List.length_take, hcl.out]; omega⟩
      have hat : Box (base + i < (slLay D base ((cutF gen 0 rec).take i)).secs.length) := ⟨by rw [slLay_secs]; omega⟩
      have hpl : Box (f.pack.length = 64) := ⟨Fr.pack_length hfb⟩
      have hadr : Box (first + size * par + i = base + i) := ⟨by rw [← hHB.out, hPE.out]⟩
      generalize slLay D base ((cutF gen 0 rec).take i) = Di at hs hstep hrow hat
      have q8 := frs_prt' l8 i h8l
      rw [hfy] at q8
      have hb2 : Has (disk b Di :: row b5 (areaC (first : Nat) (size : Nat)) 31 :: own (.slice (some ⟨b8, 0, none⟩) n c8) 107 n 4 (frsCells l8) :: bods l8 :: L) (bytesAt y f.body) := Has.mem (A := bods l8) (by (try dsimp only [List.set]); repeat (first | with_reducible exact List.mem_cons_self | with_reducible apply List.mem_cons_of_mem)) fun F hF => by have := bods_has h8l F hF; rw [hfy] at this; exact this
      obtain ⟨A8, cap8, rfl, _, _⟩ := slice_form (hs.bytes hb2)
      clear hff hfl hfy h8l
      have k36 := fun w (h : Sat W w (disk b Di :: row b5 (areaC (first : Nat) (size : Nat)) 31 :: own (.slice (some ⟨b8, 0, none⟩) n c8) 107 n 4 (frsCells l8) :: bods l8 :: L)) => own_rng' h (by (try dsimp only [List.set]); repeat (first | with_reducible exact List.mem_cons_self | with_reducible apply List.mem_cons_of_mem)) q8
      have k36s := k36 _ hs
      go_wp2_with (first
        | (guard_target = wpList _ _ _ (⟨some 11, .alloc _, _, _, _, _⟩ :: _) _ _; refine wpl (o := ⟨some 11, .alloc _, _, _, _, _⟩) rfl fun K hK => ?_; go_must (refine op_alloc hs rfl _ zframe [.int .u32 0, .int .u32 0, .int .u8 0, .slice none 0 0] rfl fun b11 w1 h => hK _ _ ?_); clear hs hK K; have hs := h; clear h; try dsimp only [List.set] at hs)
        | (guard_target = wpList _ _ _ (⟨some 36, .load _ _, _, _, _, _⟩ :: _) _ _; refine wpl (o := ⟨some 36, .load _ _, _, _, _, _⟩) rfl fun K hK => op_load_agg rfl (b := b8) (i := i * 4) rfl (frCells f (.slice A8 f.body.length cap8)) k36s (by kernel_rfl) (by kernel_rfl) (hK _ _ ?_); clear hK K)
        | (guard_target = wpList _ _ _ (⟨none, .store _ (.tmp 11) _, _, _, _, _⟩ :: _) _ _; refine wpl (o := ⟨none, .store _ (.tmp 11) _, _, _, _, _⟩) rfl fun K hK => ?_; go_must (refine op_store_whole hs (b := b11) rfl rfl (frCells f (.slice A8 f.body.length cap8)) rfl (by simp [frCells, Value.oneCell']) (by kernel_rfl) (k := 0) rfl rfl fun w3 h => hK _ _ ?_); clear hs hK K; have hs := h; clear h; try dsimp only [List.set] at hs)
        | (guard_target = wpList _ _ _ (⟨some 38, .load _ _, _, _, _, _⟩ :: _) _ _; refine wpl (o := ⟨some 38, .load _ _, _, _, _, _⟩) rfl fun K hK => op_load_agg rfl (b := b11) (i := 0) rfl (frCells f (.slice A8 f.body.length cap8)) (range_whole hs (by (try dsimp only [List.set]); repeat (first | with_reducible exact List.mem_cons_self | with_reducible apply List.mem_cons_of_mem))) (by kernel_rfl) (by kernel_rfl) (hK _ _ ?_); clear hK K)
        | (go_at_call 47; go_must (refine (fpack_row' W _ _ hs f hfo _ (show Has _ (bytesAt _ f.body) from (by (try dsimp only [List.set]); repeat (first | exact hb2 | apply Has.tail))) hfb).mono ?_); clear hs; rintro e w1 ⟨v9, rfl, hs⟩
           obtain ⟨A9, c9, rfl, _, _⟩ := own_slice hs (i := 0) rfl)
        | (guard_target = wpList _ _ _ (⟨some 43, .load _ _, _, _, _, _⟩ :: _) _ _; refine wpl (o := ⟨some 43, .load _ _, _, _, _, _⟩) rfl fun K hK => op_load_agg rfl (b := b5) (i := 0) rfl (areaC (first : Nat) (size : Nat)) (range_whole hs (by (try dsimp only [List.set]); repeat (first | with_reducible exact List.mem_cons_self | with_reducible apply List.mem_cons_of_mem))) (by kernel_rfl) (by kernel_rfl) (hK _ _ ?_); clear hK K)
        | (go_at_call 48; go_must (refine (slat_spec W _ _ hs first size par i (by omega) hpar (by omega)).mono ?_); clear hs; rintro e w1 ⟨rfl, hs⟩; rw [hadr.out])
        | (go_at_call 25; go_must (refine (write_spec W _ _ b Di (hs.pick (A := disk b Di) (by repeat (first | with_reducible exact Pick.here | with_reducible apply Pick.there))) (base + i) hat.out _ f.pack (Has.mem (A := own (.slice A9 64 c9) 5 64 1 (u8s f.pack)) (by (try dsimp only [List.set]); repeat (first | with_reducible exact List.mem_cons_self | with_reducible apply List.mem_cons_of_mem)) fun F hF => by have h9 := own_sliceAt F hF; unfold bytesAt; rw [hpl.out]; exact h9) (by rw [hpl.out]; omega) hrow.out).mono ?_); clear hs; rintro e w1 ⟨rfl, hs⟩))
      exact ⟨⟨i + 1, by omega, by go_num, by rw [hstep.out]; exact hs.pack (by repeat (first | with_reducible exact Pack.refl | with_reducible exact Pack.nil | with_reducible refine Pack.cons (by repeat (first | with_reducible exact Pick.here | with_reducible apply Pick.there)) ?_ | with_reducible apply Pack.drop))⟩, by simp only [intOf]; omega⟩
    · have hinI : ¬ (i : Int) < (n : Int) := by omega
      have hall : (cutF gen 0 rec).take i = cutF gen 0 rec := List.take_of_length_le (by rw [hcl.out]; omega)
      rw [hall] at hs
      go_wp2_with fail
      go_ret
      exact ⟨rfl, hs.pack (by repeat (first | with_reducible exact Pack.refl | with_reducible exact Pack.nil | with_reducible refine Pack.cons (by repeat (first | with_reducible exact Pick.here | with_reducible apply Pick.there)) ?_ | with_reducible apply Pack.drop))⟩
theorem slsave_any (W w : World) (L : List HP) (b : Nat) (D : Dk) (hs : Sat W w (disk b D :: L)) (first size : Nat) (hf1 : first ≤ 1024) (gen : Nat) (hg : gen < 4294967296) (hm : slMayB D.secs.length (first : Nat) (size : Nat) = true) (v : Value) (rec : List UInt8) (hv : Has L (bytesAt v rec)) (hl : rec.length ≤ 140737488351232) (hr : D.row.length ≤ 800000) :
    Calls Try.prog 17 #[.pointer (some ⟨b, 0, none⟩), .agg (areaC (first : Nat) (size : Nat)).toArray, .int .u32 (gen : Nat), v] w fun e w' => e = .returned (.int .i64 (slCode D.secs.length (first : Nat) (size : Nat) gen rec : Nat)) ∧ Sat W w' (disk b (slSave D (first : Nat) (size : Nat) gen rec) :: L) := by
  by_cases hg0 : gen = 0
  · have hc : slCode D.secs.length (first : Nat) (size : Nat) gen rec = 1 := by unfold slCode; rw [if_pos (.inr hg0)]
    have hsv : slSave D (first : Nat) (size : Nat) gen rec = D := by unfold slSave; rw [hc]; rfl
    rw [hc, hsv]
    exact slsave_arg W w L b D hs (first : Nat) (size : Nat) (by omega) gen v (.inr hg0)
  · exact slsave_spec W w L b D hs first size gen hg0 hg hm v rec hv hl hr
end Go.Proofs.Ytfpgmnnecnaheaa
