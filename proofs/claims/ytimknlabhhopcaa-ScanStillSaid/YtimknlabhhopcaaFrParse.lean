/- The contract of frame.Parse. -/
import Derived.Test.YtimknlabhhopcaaFrW
set_option linter.unusedVariables false
set_option linter.unusedSimpArgs false
namespace Go.Proofs.Ytimknlabhhopcaa
open Go.RowKit
theorem zframe : (Try.prog.info? 110).bind (·.zero) = some (.agg [Value.int .u32 0, .int .u32 0, .int .u8 0, .slice none 0 0].toArray) := by kernel_rfl
def byS (v : Value) (l : List UInt8) (w : World) : Prop := bytesAt v l (hp w)
theorem byS_of {v : Value} {l : List UInt8} {w : World} (h : bytesAt v l (hp w)) : byS v l w := h
def parsePost (l : List UInt8) (W : World) (L : List HP) (e : Ending) (w' : World) : Prop := ∃ vb, e = .returned (.tuple #[.agg #[.int .u32 ((Fr.parse l).epoch : Nat), .int .u32 ((Fr.parse l).seq : Nat), .int .u8 (Fr.parse l).flag.toNat, vb], .int .i64 (Fr.code l : Nat)]) ∧ Sat W w' (bytesH vb (Fr.parse l).body :: L)
theorem parse_not {l : List UInt8} {W w' : World} {L : List HP} {e : Ending} (h : Fr.is l = false) (he : e = .returned (.tuple #[.agg #[.int .u32 0, .int .u32 0, .int .u8 0, .slice none 0 0], .int .i64 2])) (hs : Sat W w' L) : parsePost l W L e w' := by
  subst he
  refine ⟨.slice none 0 0, by simp [Fr.parse, Fr.code, h, Fr.none], ?_⟩
  have := (hs.addNil none 5 1).sub (i := 0) rfl (B := bytesH (.slice none 0 0) []) fun F hF => own_sliceAt F hF
  simpa [Fr.parse, h, Fr.none] using this
set_option maxRecDepth 100000 in
set_option maxHeartbeats 4000000 in
theorem fparse_spec (W w : World) (L : List HP) (hs : Sat W w L) (v : Value) (l : List UInt8) (hv : Has L (bytesAt v l)) (hl : l.length ≤ 1000000) :
    Calls Try.prog 67 #[v] w (parsePost l W L) := by
  obtain ⟨_, A, cap, rfl, h1, h2, _⟩ := hs.bytes hv
  have hz := run_zero (P := Try.prog) zframe
  by_cases h64 : l.length = 64
  · obtain ⟨b, o, cap', e, _, _, hcl⟩ := bytes_at hs hv (by omega)
    cases e
    have hv64 : ∀ {M : List HP}, Has M (bytesAt (.slice (some ⟨b, o, none⟩) l.length cap) l) → Has M (bytesAt (.slice (some ⟨b, o, none⟩) 64 cap) l) := fun h => by rw [← h64]; exact h
    have HV := Box.mk (hv64 hv)
    clear hv64 hv hcl
    have H64 := Box.mk h64
    have h1 : 64 ≤ cap := by omega
    have hlt9 : 9 < l.length := by omega
    have hlt8 : 8 < l.length := by omega
    rw [h64]
    clear h64
    have hc9 := fun (w : World) (h : byS (.slice (some ⟨b, o, none⟩) 64 cap) l w) => bytesS_cell h 9 hlt9
    have hc8 := fun (w : World) (h : byS (.slice (some ⟨b, o, none⟩) 64 cap) l w) => bytesS_cell h 8 hlt8
    by_cases hbig : 50 < l[9].toNat
    · have hbigI : (50 : Int) < (l[9].toNat : Int) := by omega
      go_enter Try.func67, Try.ntmps67
      go_wp2_with (first
        | (guard_target = wpList _ _ _ (⟨some 2, .alloc _, _, _, _, _⟩ :: _) _ _; refine wpl (o := ⟨some 2, .alloc _, _, _, _, _⟩) rfl fun K hK => ?_; go_must (refine op_alloc hs rfl _ zframe [.int .u32 0, .int .u32 0, .int .u8 0, .slice none 0 0] rfl fun b2 w1 h => hK _ _ ?_); clear hs hK K; have hs := h; clear h; try dsimp only [List.set] at hs)
        | (guard_target = wpList _ _ _ (⟨some 14, .load _ _, _, _, _, _⟩ :: _) _ _; refine wpl (o := ⟨some 14, .load _ _, _, _, _, _⟩) rfl fun K hK => op_load rfl (ad := ⟨b, o + 9, none⟩) rfl (by kernel_rfl) (hc9 _ (hs.bytes HV.out.tail)) (hK _ _ ?_); clear hK K)
        | (guard_target = wpList _ _ _ (⟨none, .store _ (.tmp 2) _, _, _, _, _⟩ :: _) _ _; refine wpl (o := ⟨none, .store _ (.tmp 2) _, _, _, _, _⟩) rfl fun K hK => ?_; go_must (refine op_store_whole hs (b := b2) rfl rfl [.int .u32 0, .int .u32 0, .int .u8 0, .slice none 0 0] rfl (by simp [Value.oneCell']) (by kernel_rfl) (k := 0) rfl rfl fun w3 h => hK _ _ ?_); clear hs hK K; have hs := h; clear h; try dsimp only [List.set] at hs))
      have h9 : l.getD 9 0 = l[9] := by rw [List.getD_eq_getElem?_getD, List.getElem?_eq_getElem (by have := H64.out; omega)]; rfl
      have hno : Fr.is l = false := by
        have : ¬ l[9].toNat ≤ 50 := by omega
        simp only [Fr.is, h9, this]
        simp
      exact bodyPost_ret (run_results_cell_tmp rfl (b := b2) rfl [.int .u32 0, .int .u32 0, .int .u8 0, .slice none 0 0] (range_whole hs m0) (by kernel_rfl) (by kernel_rfl)) rfl (parse_not hno rfl hs.tail)
    · have hbigI : ¬ (50 : Int) < (l[9].toNat : Int) := by omega
      have h9 : (l.getD 9 0).toNat = l[9].toNat := by rw [List.getD_eq_getElem?_getD, List.getElem?_eq_getElem (by have := H64.out; omega)]; rfl
      have h8 : l.getD 8 0 = l[8] := by rw [List.getD_eq_getElem?_getD, List.getElem?_eq_getElem (by have := H64.out; omega)]; rfl
      have hbody : Box ((Fr.told l).body = (l.drop 10).take l[9].toNat) := ⟨by simp only [Fr.told]; rw [h9]⟩
      have hflag : Box ((Fr.told l).flag = l[8]) := ⟨by simp only [Fr.told]; rw [h8]⟩
      generalize l[9].toNat = n9 at *
      have hn9 : (0 : Int) ≤ n9 := by omega
      have hn9' : (n9 : Int) ≤ 50 := by omega
      have hlb : Box ((Fr.told l).body.length = n9) := ⟨by rw [hbody.out]; simp [H64.out]; omega⟩
      have h8' : Box (((Fr.told l).flag.toNat : Int) = (l[8].toNat : Int)) := ⟨by rw [hflag.out]⟩
      have hw1 : IntKind.i64.wrap (n9 : Int) = n9 := wi64 (by omega) (by omega)
      have hw2 : IntKind.i64.wrap (10 + (n9 : Int)) = 10 + n9 := wi64 (by omega) (by omega)
      have hq0 : (0 : Int) ≤ 10 + n9 := by omega
      have hq1 : (10 + n9 : Int) ≤ cap := by omega
      have hq2 : max (10 + (n9 : Int)) 0 = 10 + n9 := by omega
      have hq3 : (10 : Int) ≤ 10 + n9 := by omega
      have hq4 : (10 + (n9 : Int)).toNat - 10 = n9 := by omega
      have hq5 : ¬ cap = 10 := by omega
      have hblen : Box (((l.drop 10).take n9).length = n9) := ⟨by simp [H64.out]; omega⟩
      go_enter Try.func67, Try.ntmps67
      go_wp2_with (first
        | (guard_target = wpList _ _ _ (⟨some 2, .alloc _, _, _, _, _⟩ :: _) _ _; refine wpl (o := ⟨some 2, .alloc _, _, _, _, _⟩) rfl fun K hK => ?_; go_must (refine op_alloc hs rfl _ zframe [.int .u32 0, .int .u32 0, .int .u8 0, .slice none 0 0] rfl fun b2 w1 h => hK _ _ ?_); clear hs hK K; have hs := h; clear h; try dsimp only [List.set] at hs)
        | (guard_target = wpList _ _ _ (⟨some 4, .alloc _, _, _, _, _⟩ :: _) _ _; refine wpl (o := ⟨some 4, .alloc _, _, _, _, _⟩) rfl fun K hK => ?_; go_must (refine op_alloc hs rfl _ zframe [.int .u32 0, .int .u32 0, .int .u8 0, .slice none 0 0] rfl fun b4 w1 h => hK _ _ ?_); clear hs hK K; have hs := h; clear h; try dsimp only [List.set] at hs)
        | (guard_target = wpList _ _ _ (⟨some 14, .load _ _, _, _, _, _⟩ :: _) _ _; refine wpl (o := ⟨some 14, .load _ _, _, _, _, _⟩) rfl fun K hK => op_load rfl (ad := ⟨b, o + 9, none⟩) rfl (by kernel_rfl) (hc9 _ (hs.bytes (by (try dsimp only [List.set]); repeat (first | exact HV.out | apply Has.tail)))) (hK _ _ ?_); clear hK K)
        | (guard_target = wpList _ _ _ (⟨some 19, .convert _ _ _, _, _, _, _⟩ :: _) _ _; refine wpl (o := ⟨some 19, .convert _ _ _, _, _, _, _⟩) rfl fun K hK => ?_; go_must (refine op_to_string rfl Try.underlying36 Try.underlying5 Try.underlying9 rfl (hs.bytes ((show Has _ (bytesAt (.slice (some ⟨b, o, none⟩) 64 cap) l) from (by (try dsimp only [List.set]); repeat (first | exact HV.out | apply Has.tail))))) (hK _ _ ?_)); clear hK K)
        | (go_at_call 75; with_reducible refine (takeNum_spec W _ _ hs l (by have := H64.out; omega)).mono ?_; clear hs; rintro e w1 ⟨rfl, hs⟩; rw [if_neg (by have := H64.out; omega)])
        | (go_at_call 75; with_reducible refine (takeNum_spec W _ _ hs (l.drop 4) (by have := H64.out; simp; omega)).mono ?_; clear hs; rintro e w1 ⟨rfl, hs⟩; rw [if_neg (by have := H64.out; simp; omega)])
        | (guard_target = wpList _ _ _ (⟨none, .store _ (.tmp 26) _, _, _, _, _⟩ :: _) _ _; refine wpl (o := ⟨none, .store _ (.tmp 26) _, _, _, _, _⟩) rfl fun K hK => ?_; go_must (refine op_store hs rfl (b := b4) (i := 0) (v := .int .u32 (num (l.take 4) : Nat)) rfl rfl rfl (by kernel_rfl) (k := 0) rfl (by simp) fun w3 h => hK _ _ ?_); clear hs hK K; have hs := h; clear h; try dsimp only [List.set] at hs)
        | (guard_target = wpList _ _ _ (⟨none, .store _ (.tmp 33) _, _, _, _, _⟩ :: _) _ _; refine wpl (o := ⟨none, .store _ (.tmp 33) _, _, _, _, _⟩) rfl fun K hK => ?_; go_must (refine op_store hs rfl (b := b4) (i := 1) (v := .int .u32 (num ((l.drop 4).take 4) : Nat)) rfl rfl rfl (by kernel_rfl) (k := 0) rfl (by simp) fun w3 h => hK _ _ ?_); clear hs hK K; have hs := h; clear h; try dsimp only [List.set] at hs))
      have hS0 := byS_of (hs.drew.bytes (by (try dsimp only [List.set]); repeat (first | exact HV.out | apply Has.tail)))
      refine wp_region_tree (byS (.slice (some ⟨b, o, none⟩) 64 cap) l) (.take 0 (.take 1 (.take 2 (.take 3 (.take 4 (.take 5 (.take 6 (.take 7 (.take 8 (.take 9 (.take 11 (.all [(10, .all [(12, .take 13 (.all [(14, DTree.done)]))])])))))))))))) (by kernel_rfl) (by kernel_rfl) (by kernel_rfl) (fun _ _ d _ _ h => by cases d <;> exact h) hS0 ?_
      have hs' := hs.drew
      clear hs
      have hs := hs'
      clear hs'
      have hq := fun p : Prop => class_const hS0 p
      clear hS0
      repeat (first
        | (with_reducible refine tree_load (o := ⟨some 36, .load _ _, _, _, _, _⟩) rfl rfl rfl rfl rfl hc8 ?_)
        | (with_reducible refine tree_load (o := ⟨some 40, .load _ _, _, _, _, _⟩) rfl rfl rfl rfl rfl hc9 ?_)
        | (refine tree_take rfl (fun K hK => ?_); go_simp; (first | with_reducible refine hK _ ?_ | (rw [if_neg (by decide)]; with_reducible refine hK _ ?_)); clear hK K))
      refine tree_one_yes (o := _) rfl rfl (fun K hK => ?_) (byS_of (hs.bytes (by (try dsimp only [List.set]); repeat (first | exact HV.out | apply Has.tail))))
      try go_simp
      go_at_call 49
      refine (clone_spec W _ _ hs _ ((l.drop 10).take n9) (Has.imp (by (try dsimp only [List.set]); repeat (first | exact HV.out | apply Has.tail)) fun F h => bytes_sub h 10 (by have := H64.out; omega) (by omega) (by omega)) (by simp; omega)).mono ?_
      clear hs
      rintro e w5 ⟨v44, rfl, hs⟩
      rw [hblen.out] at hs
      obtain ⟨A44, c44, rfl, _, _⟩ := own_slice hs (i := 0) rfl
      try go_simp
      refine hK _ _ (byS_of (hs.bytes (by (try dsimp only [List.set]); repeat (first | exact HV.out | apply Has.tail)))) ?_
      clear hK K
      refine tree_one_yes (o := _) rfl rfl (fun K hK => ?_) (byS_of (hs.bytes (by (try dsimp only [List.set]); repeat (first | exact HV.out | apply Has.tail))))
      refine op_store hs rfl (b := b4) (i := 2) (v := .int .u8 l[8].toNat) rfl rfl rfl (by kernel_rfl) (k := 1) rfl (by simp) fun w2 h => hK _ _ (byS_of (h.bytes (by (try dsimp only [List.set]); repeat (first | exact HV.out | apply Has.tail)))) ?_
      clear hs hK K
      have hs := h
      clear h
      try dsimp only [List.set] at hs
      try go_simp
      repeat (first
        | (with_reducible refine tree_load (o := ⟨some 36, .load _ _, _, _, _, _⟩) rfl rfl rfl rfl rfl hc8 ?_)
        | (with_reducible refine tree_load (o := ⟨some 40, .load _ _, _, _, _, _⟩) rfl rfl rfl rfl rfl hc9 ?_)
        | (refine tree_take rfl (fun K hK => ?_); go_simp; (first | with_reducible refine hK _ ?_ | (rw [if_neg (by decide)]; with_reducible refine hK _ ?_)); clear hK K))
      refine tree_one_yes (o := _) rfl rfl (fun K hK => ?_) (byS_of (hs.bytes (by (try dsimp only [List.set]); repeat (first | exact HV.out | apply Has.tail))))
      refine op_store hs rfl (b := b4) (i := 3) (v := .slice A44 n9 c44) rfl rfl rfl (by kernel_rfl) (k := 1) rfl (by simp) fun w2 h => hK _ _ (byS_of (h.bytes (by (try dsimp only [List.set]); repeat (first | exact HV.out | apply Has.tail)))) ?_
      clear hs hK K
      have hs := h
      clear h
      try dsimp only [List.set] at hs
      try go_simp
      refine tree_done ?_
      have hs1 : Sat W w2 (own (.slice A44 n9 c44) 5 n9 1 (u8s (Fr.told l).body) :: row b4 (frCells (Fr.told l) (.slice A44 n9 c44)) 110 :: row b2 [.int .u32 0, .int .u32 0, .int .u8 0, .slice none 0 0] 110 :: L) := by
        rw [← hbody.out] at hs
        have e8 : Value.int .u8 (l[8].toNat : Nat) = .int .u8 ((Fr.told l).flag.toNat : Nat) := by rw [hflag.out]
        rw [e8] at hs
        exact hs
      clear hs
      have hs := hs1
      clear hs1
      have hp64 : Box (64 = (Fr.told l).pack.length) := ⟨(Fr.pack_length (by have := hlb.out; omega)).symm⟩
      have h64' : Box (l.length = 64) := H64
      cases hpl0 : ((Fr.told l).pack == l) with
      | true =>
        have hpl := Box.mk hpl0
        clear hpl0
        clear hq
        go_wp2_with (first
          | (guard_target = wpList _ _ _ (⟨some 48, .load _ _, _, _, _, _⟩ :: _) _ _; refine wpl (o := ⟨some 48, .load _ _, _, _, _, _⟩) rfl fun K hK => op_load_agg rfl (b := b4) (i := 0) rfl (frCells (Fr.told l) (.slice A44 n9 c44)) (range_whole hs (by (try dsimp only [List.set]); repeat (first | with_reducible exact List.mem_cons_self | with_reducible apply List.mem_cons_of_mem))) (by kernel_rfl) (by kernel_rfl) (hK _ _ ?_); clear hK K)
          | (go_at_call 56; go_must (refine (fpack_spec W _ _ hs (Fr.told l) (Fr.told_ok l) (.slice A44 n9 c44) (own_bytes 0 rfl hlb.out.symm rfl) (by have := hlb.out; omega)).mono ?_); clear hs; rintro e w1 ⟨v6, rfl, hs⟩
             obtain ⟨A6, c6, rfl, _, _⟩ := own_slice hs (i := 0) rfl)
          | (go_at_call 76; go_must (refine (equal_spec W _ _ hs _ _ (Fr.told l).pack l (own_bytes 0 rfl hp64.out rfl) (show Has _ (bytesAt (.slice (some ⟨b, o, none⟩) 64 cap) l) from (by (try dsimp only [List.set]); repeat (first | exact HV.out | apply Has.tail)))).mono ?_); clear hs; rintro e w1 ⟨rfl, hs⟩; rw [hpl.out])
          | (guard_target = wpList _ _ _ (⟨some 57, .load _ _, _, _, _, _⟩ :: _) _ _; refine wpl (o := ⟨some 57, .load _ _, _, _, _, _⟩) rfl fun K hK => op_load_agg rfl (b := b4) (i := 0) rfl (frCells (Fr.told l) (.slice A44 n9 c44)) (range_whole hs (by (try dsimp only [List.set]); repeat (first | with_reducible exact List.mem_cons_self | with_reducible apply List.mem_cons_of_mem))) (by kernel_rfl) (by kernel_rfl) (hK _ _ ?_); clear hK K)
          | (guard_target = wpList _ _ _ (⟨none, .store _ (.tmp 2) _, _, _, _, _⟩ :: _) _ _; refine wpl (o := ⟨none, .store _ (.tmp 2) _, _, _, _, _⟩) rfl fun K hK => ?_; go_must (refine op_store_whole hs (b := b2) rfl rfl (frCells (Fr.told l) (.slice A44 n9 c44)) rfl (by simp [frCells, Value.oneCell']) (by kernel_rfl) (k := 3) rfl rfl fun w3 h => hK _ _ ?_); clear hs hK K; have hs := h; clear h; try dsimp only [List.set] at hs))
        have his : Fr.is l = true := by simp only [Fr.is, h64'.out, hpl.out, h9]; simp; omega
        refine bodyPost_ret (run_results_cell_tmp rfl (b := b2) rfl (frCells (Fr.told l) (.slice A44 n9 c44)) (range_whole hs (by (try dsimp only [List.set]); repeat (first | with_reducible exact List.mem_cons_self | with_reducible apply List.mem_cons_of_mem))) (by kernel_rfl) (by kernel_rfl)) rfl ⟨.slice A44 n9 c44, ?_, ?_⟩
        · simp only [Fr.parse, Fr.code, his, if_true]; rfl
        · have hs2 := (hs.pick (A := own (.slice A44 n9 c44) 5 n9 1 (u8s (Fr.told l).body)) (by repeat (first | with_reducible exact Pick.here | with_reducible apply Pick.there))).sub (i := 0) rfl (B := bytesH (.slice A44 n9 c44) (Fr.told l).body) fun F hF => by
            have := own_sliceAt F hF
            unfold bytesH bytesAt
            rw [hlb.out]
            exact this
          dsimp only [List.set] at hs2
          have e : Fr.parse l = Fr.told l := by simp [Fr.parse, his]
          rw [e]
          exact hs2.pack (by repeat (first | with_reducible exact Pack.refl | with_reducible exact Pack.nil | with_reducible refine Pack.cons (by repeat (first | with_reducible exact Pick.here | with_reducible apply Pick.there)) ?_ | with_reducible apply Pack.drop))
      | false =>
        have hpl := Box.mk hpl0
        clear hpl0
        clear hq
        go_wp2_with (first
          | (guard_target = wpList _ _ _ (⟨some 48, .load _ _, _, _, _, _⟩ :: _) _ _; refine wpl (o := ⟨some 48, .load _ _, _, _, _, _⟩) rfl fun K hK => op_load_agg rfl (b := b4) (i := 0) rfl (frCells (Fr.told l) (.slice A44 n9 c44)) (range_whole hs (by (try dsimp only [List.set]); repeat (first | with_reducible exact List.mem_cons_self | with_reducible apply List.mem_cons_of_mem))) (by kernel_rfl) (by kernel_rfl) (hK _ _ ?_); clear hK K)
          | (go_at_call 56; go_must (refine (fpack_spec W _ _ hs (Fr.told l) (Fr.told_ok l) (.slice A44 n9 c44) (own_bytes 0 rfl hlb.out.symm rfl) (by have := hlb.out; omega)).mono ?_); clear hs; rintro e w1 ⟨v6, rfl, hs⟩
             obtain ⟨A6, c6, rfl, _, _⟩ := own_slice hs (i := 0) rfl)
          | (go_at_call 76; go_must (refine (equal_spec W _ _ hs _ _ (Fr.told l).pack l (own_bytes 0 rfl hp64.out rfl) (show Has _ (bytesAt (.slice (some ⟨b, o, none⟩) 64 cap) l) from (by (try dsimp only [List.set]); repeat (first | exact HV.out | apply Has.tail)))).mono ?_); clear hs; rintro e w1 ⟨rfl, hs⟩; rw [hpl.out])
          | (guard_target = wpList _ _ _ (⟨some 57, .load _ _, _, _, _, _⟩ :: _) _ _; refine wpl (o := ⟨some 57, .load _ _, _, _, _, _⟩) rfl fun K hK => op_load_agg rfl (b := b4) (i := 0) rfl (frCells (Fr.told l) (.slice A44 n9 c44)) (range_whole hs (by (try dsimp only [List.set]); repeat (first | with_reducible exact List.mem_cons_self | with_reducible apply List.mem_cons_of_mem))) (by kernel_rfl) (by kernel_rfl) (hK _ _ ?_); clear hK K)
          | (guard_target = wpList _ _ _ (⟨none, .store _ (.tmp 2) _, _, _, _, _⟩ :: _) _ _; refine wpl (o := ⟨none, .store _ (.tmp 2) _, _, _, _, _⟩) rfl fun K hK => ?_; go_must (refine op_store_whole hs (b := b2) rfl rfl [.int .u32 0, .int .u32 0, .int .u8 0, .slice none 0 0] rfl (by simp [Value.oneCell']) (by kernel_rfl) (k := 3) rfl rfl fun w3 h => hK _ _ ?_); clear hs hK K; have hs := h; clear h; try dsimp only [List.set] at hs))
        have hno : Fr.is l = false := by simp only [Fr.is, hpl.out]; simp
        exact bodyPost_ret (run_results_cell_tmp rfl (b := b2) rfl [.int .u32 0, .int .u32 0, .int .u8 0, .slice none 0 0] (range_whole hs (by (try dsimp only [List.set]); repeat (first | with_reducible exact List.mem_cons_self | with_reducible apply List.mem_cons_of_mem))) (by kernel_rfl) (by kernel_rfl)) rfl (parse_not hno rfl (hs.pack (by repeat (first | with_reducible exact Pack.refl | with_reducible exact Pack.nil | with_reducible refine Pack.cons (by repeat (first | with_reducible exact Pick.here | with_reducible apply Pick.there)) ?_ | with_reducible apply Pack.drop))))
  · have h64I : ¬ (l.length : Int) = 64 := by omega
    go_enter Try.func67, Try.ntmps67
    go_wp2_with (first
      | (guard_target = wpList _ _ _ (⟨some 2, .alloc _, _, _, _, _⟩ :: _) _ _; refine wpl (o := ⟨some 2, .alloc _, _, _, _, _⟩) rfl fun K hK => ?_; go_must (refine op_alloc hs rfl _ zframe [.int .u32 0, .int .u32 0, .int .u8 0, .slice none 0 0] rfl fun b2 w1 h => hK _ _ ?_); clear hs hK K; have hs := h; clear h; try dsimp only [List.set] at hs)
      | (guard_target = wpList _ _ _ (⟨none, .store _ (.tmp 2) _, _, _, _, _⟩ :: _) _ _; refine wpl (o := ⟨none, .store _ (.tmp 2) _, _, _, _, _⟩) rfl fun K hK => ?_; go_must (refine op_store_whole hs (b := b2) rfl rfl [.int .u32 0, .int .u32 0, .int .u8 0, .slice none 0 0] rfl (by simp [Value.oneCell']) (by kernel_rfl) (k := 0) rfl rfl fun w3 h => hK _ _ ?_); clear hs hK K; have hs := h; clear h; try dsimp only [List.set] at hs))
    have hno : Fr.is l = false := by simp [Fr.is, h64]
    exact bodyPost_ret (run_results_cell_tmp rfl (b := b2) rfl [.int .u32 0, .int .u32 0, .int .u8 0, .slice none 0 0] (range_whole hs m0) (by kernel_rfl) (by kernel_rfl)) rfl (parse_not hno rfl hs.tail)
end Go.Proofs.Ytimknlabhhopcaa
