/- The contract of the reference's Parse. -/
import Derived.Test.YtfpgmnnecnaheaaFrRef
set_option linter.unusedVariables false
set_option linter.unusedSimpArgs false
namespace Go.Proofs.Ytfpgmnnecnaheaa
open Go.RowKit
def rparsePost (l : List UInt8) (W : World) (L : List HP) (e : Ending) (w' : World) : Prop := e = .returned (.tuple #[.agg (rCells (Fr.parse l)).toArray, .int .i64 (Fr.code l : Nat)]) ∧ Sat W w' L
theorem rparse_not {l : List UInt8} {W w' : World} {L : List HP} {e : Ending} (h : Fr.is l = false) (he : e = .returned (.tuple #[.agg #[.int .u32 0, .int .u32 0, .int .u8 0, .string ⟨#[]⟩], .int .i64 2])) (hs : Sat W w' L) : rparsePost l W L e w' := by
  subst he
  exact ⟨by simp [Fr.parse, Fr.code, h, Fr.none, rCells], hs⟩
set_option maxRecDepth 100000 in
set_option maxHeartbeats 4000000 in
theorem rparse_spec (W w : World) (L : List HP) (hs : Sat W w L) (l : List UInt8) (hl : l.length ≤ 1000000) :
    Calls Try.prog 57 #[.string ⟨l.toArray⟩] w (rparsePost l W L) := by
  have hz := run_zero (P := Try.prog) zrframe
  by_cases h64 : l.length = 64
  · have hlt9 : 9 < l.length := by omega
    have hlt8 : 8 < l.length := by omega
    have h64I : (l.length : Int) = 64 := by omega
    by_cases hbig : 50 < l[9].toNat
    · have hbigI : (50 : Int) < (((⟨l.toArray⟩ : ByteArray)[9]'hlt9).toNat : Int) := by rw [str_get l 9 hlt9]; omega
      go_enter Try.func57, Try.ntmps57
      go_wp2_with (first
        | (guard_target = wpList _ _ _ (⟨some 2, .alloc _, _, _, _, _⟩ :: _) _ _; refine wpl (o := ⟨some 2, .alloc _, _, _, _, _⟩) rfl fun K hK => ?_; go_must (refine op_alloc hs rfl _ zrframe [.int .u32 0, .int .u32 0, .int .u8 0, .string ⟨#[]⟩] rfl fun b2 w1 h => hK _ _ ?_); clear hs hK K; have hs := h; clear h; try dsimp only [List.set] at hs)
        | (guard_target = wpList _ _ _ (⟨none, .store _ (.tmp 2) _, _, _, _, _⟩ :: _) _ _; refine wpl (o := ⟨none, .store _ (.tmp 2) _, _, _, _, _⟩) rfl fun K hK => ?_; go_must (refine op_store_whole hs (b := b2) rfl rfl [.int .u32 0, .int .u32 0, .int .u8 0, .string ⟨#[]⟩] rfl (by simp [Value.oneCell']) (by kernel_rfl) (k := 0) rfl rfl fun w3 h => hK _ _ ?_); clear hs hK K; have hs := h; clear h; try dsimp only [List.set] at hs))
      have hno : Fr.is l = false := by
        have h9 : l.getD 9 0 = l[9] := by rw [List.getD_eq_getElem?_getD, List.getElem?_eq_getElem (by omega)]; rfl
        have : ¬ l[9].toNat ≤ 50 := by omega
        simp only [Fr.is, h9, this]
        simp
      exact bodyPost_ret (run_results_cell_tmp rfl (b := b2) rfl [.int .u32 0, .int .u32 0, .int .u8 0, .string ⟨#[]⟩] (range_whole hs m0) (by kernel_rfl) (by kernel_rfl)) rfl (rparse_not hno rfl hs.tail)
    · have h9 : (l.getD 9 0).toNat = l[9].toNat := by rw [List.getD_eq_getElem?_getD, List.getElem?_eq_getElem (by omega)]; rfl
      have h8 : l.getD 8 0 = l[8] := by rw [List.getD_eq_getElem?_getD, List.getElem?_eq_getElem (by omega)]; rfl
      obtain ⟨n9, hg⟩ : ∃ n, ((⟨l.toArray⟩ : ByteArray)[9]'hlt9).toNat = n := ⟨_, rfl⟩
      have hn50 : n9 ≤ 50 := by rw [← hg, str_get l 9 hlt9]; omega
      have hbody : Box ((Fr.told l).body = (l.drop 10).take n9) := ⟨by simp only [Fr.told]; rw [h9, ← hg, str_get l 9 hlt9]⟩
      have hflag : Box ((Fr.told l).flag = l[8]) := ⟨by simp only [Fr.told]; rw [h8]⟩
      have H64 := Box.mk h64
      clear h9 h8 h64 hbig
      have hn9 : (0 : Int) ≤ n9 := by omega
      have hn9' : (n9 : Int) ≤ 50 := by omega
      have hw1 : IntKind.i64.wrap (n9 : Int) = n9 := wi64 (by omega) (by omega)
      have hw2 : IntKind.i64.wrap (10 + (n9 : Int)) = 10 + n9 := wi64 (by omega) (by omega)
      have hq0 : (0 : Int) ≤ 10 + n9 := by omega
      have hq1 : (10 + n9 : Int) ≤ 64 := by omega
      have hq2 : max (10 + (n9 : Int)) 0 = 10 + n9 := by omega
      have hq3 : (10 : Int) ≤ 10 + n9 := by omega
      go_enter Try.func57, Try.ntmps57
      go_wp2_with (first
        | (guard_target = wpList _ _ _ (⟨some 2, .alloc _, _, _, _, _⟩ :: _) _ _; refine wpl (o := ⟨some 2, .alloc _, _, _, _, _⟩) rfl fun K hK => ?_; go_must (refine op_alloc hs rfl _ zrframe [.int .u32 0, .int .u32 0, .int .u8 0, .string ⟨#[]⟩] rfl fun b2 w1 h => hK _ _ ?_); clear hs hK K; have hs := h; clear h; try dsimp only [List.set] at hs)
        | (go_at_call 72; with_reducible refine (rtakeNum_spec W _ _ hs l (by have := H64.out; omega)).mono ?_; clear hs; rintro e w1 ⟨rfl, hs⟩; rw [if_neg (by have := H64.out; omega)])
        | (go_at_call 72; go_must (rw [str_extract]; refine (rtakeNum_spec W _ _ hs ((l.take l.length).drop 4) (by have := H64.out; simp; omega)).mono ?_); clear hs; rintro e w1 ⟨rfl, hs⟩; rw [if_neg (by have := H64.out; simp; omega)]))
      have hS0 := hs.drew.trueS
      refine wp_region_tree (trueS) (.take 0 (.take 1 (.take 2 (.take 3 (.take 4 (.take 5 (.take 6 (.take 7 (.take 8 (.take 9 (.take 10 (.all [(11, .all [(12, DTree.done)])])))))))))))) (by kernel_rfl) (by kernel_rfl) (by kernel_rfl) (fun _ _ d _ _ h => by cases d <;> exact h) hS0 ?_
      have hs' := hs.drew
      clear hs
      have hs := hs'
      clear hs'
      have hq := fun p : Prop => class_const hS0 p
      clear hS0
      repeat (first
        | (refine tree_take rfl (fun K hK => ?_); go_simp; with_reducible refine hK _ ?_; clear hK K))
      refine tree_one_yes (o := _) rfl rfl (fun K hK => ?_) (hs.trueS)
      refine op_alloc hs rfl _ zrframe [.int .u32 0, .int .u32 0, .int .u8 0, .string ⟨#[]⟩] rfl fun b10 w1 h => hK _ _ (h.trueS) ?_
      clear hs hK K
      have hs := h
      clear h
      try dsimp only [List.set] at hs
      try go_simp
      refine tree_one_yes (o := _) rfl rfl (fun K hK => ?_) (hs.trueS)
      refine op_store_whole hs (b := b10) rfl rfl [.int .u32 (num (l.take 4) : Nat), .int .u32 (num ((l.drop 4).take 4) : Nat), .int .u8 ((⟨l.toArray⟩ : ByteArray)[8]'hlt8).toNat, .string (ByteArray.extract ⟨l.toArray⟩ 10 (10 + (n9 : Int)).toNat)] rfl (by simp [Value.oneCell']) (by kernel_rfl) (k := 0) rfl rfl fun w3 h => hK _ _ (h.trueS) ?_
      clear hs hK K
      have hs := h
      clear h
      try dsimp only [List.set] at hs
      try go_simp
      refine tree_done ?_
      have hs1 : Sat W w3 (row b10 (rCells (Fr.told l)) 125 :: row b2 [.int .u32 0, .int .u32 0, .int .u8 0, .string ⟨#[]⟩] 125 :: L) := by
        rw [str_extract, List.drop_take, show (10 + (n9 : Int)).toNat - 10 = n9 by omega, ← hbody.out, str_get l 8 hlt8, ← hflag.out] at hs
        exact hs
      clear hs
      have hs := hs1
      clear hs1
      have hlb : Box ((Fr.told l).body.length = n9) := ⟨by rw [hbody.out]; simp [H64.out]; omega⟩
      have h9 : Box ((l.getD 9 0).toNat ≤ 50) := ⟨by rw [List.getD_eq_getElem?_getD, List.getElem?_eq_getElem hlt9]; show l[9].toNat ≤ 50; rw [← str_get l 9 hlt9]; omega⟩
      cases hpl0 : ((Fr.told l).pack == l) with
      | true =>
        have heq := Box.mk (show (Fr.told l).pack = l by simpa using hpl0)
        clear hpl0
        clear hq
        go_wp2_with (first
          | (guard_target = wpList _ _ _ (⟨some 47, .load _ _, _, _, _, _⟩ :: _) _ _; refine wpl (o := ⟨some 47, .load _ _, _, _, _, _⟩) rfl fun K hK => op_load_agg rfl (b := b10) (i := 0) rfl (rCells (Fr.told l)) (range_whole hs (by (try dsimp only [List.set]); repeat (first | with_reducible exact List.mem_cons_self | with_reducible apply List.mem_cons_of_mem))) (by kernel_rfl) (by kernel_rfl) (hK _ _ ?_); clear hK K)
          | (go_at_call 73; go_must (refine (rpack_spec W _ _ hs (Fr.told l) (Fr.told_ok l) (by have := hlb.out; omega)).mono ?_); clear hs; rintro e w1 ⟨rfl, hs⟩; rw [heq.out])
          | (guard_target = wpList _ _ _ (⟨some 55, .load _ _, _, _, _, _⟩ :: _) _ _; refine wpl (o := ⟨some 55, .load _ _, _, _, _, _⟩) rfl fun K hK => op_load_agg rfl (b := b10) (i := 0) rfl (rCells (Fr.told l)) (range_whole hs (by (try dsimp only [List.set]); repeat (first | with_reducible exact List.mem_cons_self | with_reducible apply List.mem_cons_of_mem))) (by kernel_rfl) (by kernel_rfl) (hK _ _ ?_); clear hK K)
          | (guard_target = wpList _ _ _ (⟨none, .store _ (.tmp 2) _, _, _, _, _⟩ :: _) _ _; refine wpl (o := ⟨none, .store _ (.tmp 2) _, _, _, _, _⟩) rfl fun K hK => ?_; go_must (refine op_store_whole hs (b := b2) rfl rfl (rCells (Fr.told l)) rfl (by simp [rCells, Value.oneCell']) (by kernel_rfl) (k := 1) rfl rfl fun w3 h => hK _ _ ?_); clear hs hK K; have hs := h; clear h; try dsimp only [List.set] at hs))
        have his : Fr.is l = true := by simp only [Fr.is, H64.out, heq.out, h9.out]; simp
        refine bodyPost_ret (run_results_cell_tmp rfl (b := b2) rfl (rCells (Fr.told l)) (range_whole hs (by (try dsimp only [List.set]); repeat (first | with_reducible exact List.mem_cons_self | with_reducible apply List.mem_cons_of_mem))) (by kernel_rfl) (by kernel_rfl)) rfl ⟨?_, hs.pack (by repeat (first | with_reducible exact Pack.refl | with_reducible exact Pack.nil | with_reducible refine Pack.cons (by repeat (first | with_reducible exact Pick.here | with_reducible apply Pick.there)) ?_ | with_reducible apply Pack.drop))⟩
        simp only [Fr.parse, Fr.code, his, if_true]; rfl
      | false =>
        have hne : ((Fr.told l).pack != l) = true := by simp only [bne, hpl0]; rfl
        clear hq
        go_wp2_with (first
          | (guard_target = wpList _ _ _ (⟨some 47, .load _ _, _, _, _, _⟩ :: _) _ _; refine wpl (o := ⟨some 47, .load _ _, _, _, _, _⟩) rfl fun K hK => op_load_agg rfl (b := b10) (i := 0) rfl (rCells (Fr.told l)) (range_whole hs (by (try dsimp only [List.set]); repeat (first | with_reducible exact List.mem_cons_self | with_reducible apply List.mem_cons_of_mem))) (by kernel_rfl) (by kernel_rfl) (hK _ _ ?_); clear hK K)
          | (go_at_call 73; go_must (refine (rpack_spec W _ _ hs (Fr.told l) (Fr.told_ok l) (by have := hlb.out; omega)).mono ?_); clear hs; rintro e w1 ⟨rfl, hs⟩)
          | (guard_target = wpList _ _ _ (⟨some 55, .load _ _, _, _, _, _⟩ :: _) _ _; refine wpl (o := ⟨some 55, .load _ _, _, _, _, _⟩) rfl fun K hK => op_load_agg rfl (b := b10) (i := 0) rfl (rCells (Fr.told l)) (range_whole hs (by (try dsimp only [List.set]); repeat (first | with_reducible exact List.mem_cons_self | with_reducible apply List.mem_cons_of_mem))) (by kernel_rfl) (by kernel_rfl) (hK _ _ ?_); clear hK K)
          | (guard_target = wpList _ _ _ (⟨none, .store _ (.tmp 2) _, _, _, _, _⟩ :: _) _ _; refine wpl (o := ⟨none, .store _ (.tmp 2) _, _, _, _, _⟩) rfl fun K hK => ?_; go_must (refine op_store_whole hs (b := b2) rfl rfl [.int .u32 0, .int .u32 0, .int .u8 0, .string ⟨#[]⟩] rfl (by simp [rCells, Value.oneCell']) (by kernel_rfl) (k := 1) rfl rfl fun w3 h => hK _ _ ?_); clear hs hK K; have hs := h; clear h; try dsimp only [List.set] at hs))
        have hno : Fr.is l = false := by simp only [Fr.is, hpl0]; simp
        exact bodyPost_ret (run_results_cell_tmp rfl (b := b2) rfl [.int .u32 0, .int .u32 0, .int .u8 0, .string ⟨#[]⟩] (range_whole hs (by (try dsimp only [List.set]); repeat (first | with_reducible exact List.mem_cons_self | with_reducible apply List.mem_cons_of_mem))) (by kernel_rfl) (by kernel_rfl)) rfl (rparse_not hno rfl (hs.pack (by repeat (first | with_reducible exact Pack.refl | with_reducible exact Pack.nil | with_reducible refine Pack.cons (by repeat (first | with_reducible exact Pick.here | with_reducible apply Pick.there)) ?_ | with_reducible apply Pack.drop))))
  · have h64I : ¬ (l.length : Int) = 64 := by omega
    go_enter Try.func57, Try.ntmps57
    go_wp2_with (first
      | (guard_target = wpList _ _ _ (⟨some 2, .alloc _, _, _, _, _⟩ :: _) _ _; refine wpl (o := ⟨some 2, .alloc _, _, _, _, _⟩) rfl fun K hK => ?_; go_must (refine op_alloc hs rfl _ zrframe [.int .u32 0, .int .u32 0, .int .u8 0, .string ⟨#[]⟩] rfl fun b2 w1 h => hK _ _ ?_); clear hs hK K; have hs := h; clear h; try dsimp only [List.set] at hs)
      | (guard_target = wpList _ _ _ (⟨none, .store _ (.tmp 2) _, _, _, _, _⟩ :: _) _ _; refine wpl (o := ⟨none, .store _ (.tmp 2) _, _, _, _, _⟩) rfl fun K hK => ?_; go_must (refine op_store_whole hs (b := b2) rfl rfl [.int .u32 0, .int .u32 0, .int .u8 0, .string ⟨#[]⟩] rfl (by simp [Value.oneCell']) (by kernel_rfl) (k := 0) rfl rfl fun w3 h => hK _ _ ?_); clear hs hK K; have hs := h; clear h; try dsimp only [List.set] at hs))
    have hno : Fr.is l = false := by simp [Fr.is, h64]
    exact bodyPost_ret (run_results_cell_tmp rfl (b := b2) rfl [.int .u32 0, .int .u32 0, .int .u8 0, .string ⟨#[]⟩] (range_whole hs m0) (by kernel_rfl) (by kernel_rfl)) rfl (rparse_not hno rfl hs.tail)
end Go.Proofs.Ytfpgmnnecnaheaa
