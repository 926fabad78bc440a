/- Leaves of the walk of ogiveref20.TakeState. -/
import Derived.Test.YthjnefpnnifjiaaDoorRdTc
set_option linter.unusedVariables false
set_option linter.unusedSimpArgs false
namespace Go.Proofs.YthjnefpnnifjiaaDoor
open Go.RowKit
set_option maxRecDepth 100000 in
set_option maxHeartbeats 30000000 in
theorem rtSt_less : takeStCut.p_less := by
  intro W w L l hl O s0 hs0 n nb r3 lo r2 ep r1 last hzc hzk wn H1 H2 H3 H4 hnl HO X hend x1 b2 x2 x3 hts hnlI hround x4 g2 x5 g3 x6 x7 b16 w1 w3 x8 x9 wr u3 u18 u19 u20 u21 u22 u23 u24 u25 u26 u81 u82 u83 u84 u85 u86 u87 u88 u89 u90 u91 u92 u93 u94 u95 u96 u97 u98 u99 u100 u101 u102 u103 u104 u105 u106 u107 u108 u109 u110 u111 u112 u113 u114 u115 u116 u117 u118 u119 u120 u121 u122 u123 u124 u125 u126 u127 u128 u129 u130 u131 u132 u133 u134 u135 u136 u137 u138 u139 u140 u141 u142 u143 u144 u145 u146 u147 u148 u149 u150 i s1 acc A ca hi hs1 HAL HX HRI hs hlt hltI hwi m hm2 s3 hs3 tx ri ti r k HK HI HT ht0 htl HNX HNO h0
  obtain ⟨im, hi2⟩ : ∃ im, i = im + 1 := ⟨i - 1, by omega⟩
  have hml : im < acc.length := by rw [HAL.out]; omega
  have hle := lastLessC_get (HAL.out.trans hi2) k
  have h0I : (0 : Int) < (i : Int) := by omega
  have h0N : 0 < i := by omega
  have hwm : IntKind.i64.wrap ((i : Int) - 1) = (im : Int) := by rw [IntKind.wrap_i64]; omega
  have hmlt : im < i := by omega
  have hmltI : (im : Int) < (i : Int) := by omega
  obtain ⟨ba, ca', e, _, _⟩ := own_formR hs (v := .slice A i ca) (e := 107) (n := i) (sz := 5) (vs := csC acc) (by (try dsimp only [List.set]); repeat (first | with_reducible exact List.mem_cons_self | with_reducible apply List.mem_cons_of_mem)) (by omega)
  cases e
  have HR := Box.mk (fun w (M : List HP) (h : Sat W w M) (hm : own (.slice (some ⟨ba, 0, none⟩) i ca) 107 i 5 (csC acc) ∈ M) => own_partR (c := ca) (e := 107) cC 5 cC_length h (l := acc) (by rw [HAL.out]; exact hm) im hml)
  have HL := Box.mk (fun w (L : List HP) hs => rless_spec W w L hs acc[im].k k)
  have HRS := Box.mk (@riseC_snoc acc ⟨k, ti, tx⟩ HRI.out)
  generalize hy : acc[im] = y at *
  clear hy
  obtain ⟨q, hq1⟩ : ∃ q, lessK y.k k = q := ⟨_, rfl⟩
  rw [hq1] at HL hle
  rw [hle] at HNO
  dsimp only at HRS
  rw [hle] at HRS
  clear hq1 hle hi2 h0 HRI hml
  cases q with
  | false =>
    go_wp2_with (first
      | (go_at_call 42; go_must (refine (HK.out _ _ hs).mono ?_); clear hs; rintro e w1 ⟨rfl, hs⟩)
      | (guard_target = wpList _ _ _ (⟨some 18, .alloc _, _, _, _, _⟩ :: _) _ _; refine wpl (o := ⟨some 18, .alloc _, _, _, _, _⟩) rfl fun K hK => ?_; go_must (refine op_alloc hs rfl _ zkey [Value.int .i64 0, .int .i64 0, .int .i64 0] rfl fun b18 w1 h => hK _ _ ?_); clear hs hK K; have hs := h; clear h; try dsimp only [List.set] at hs)
      | (guard_target = wpList _ _ _ (⟨none, .store _ (.tmp 18) _, _, _, _, _⟩ :: _) _ _; refine wpl (o := ⟨none, .store _ (.tmp 18) _, _, _, _, _⟩) rfl fun K hK => ?_; go_must (refine op_store_whole hs (b := b18) rfl rfl [Value.int .i64 k.kind, .int .i64 k.a, .int .i64 k.b] rfl (by simp [Value.oneCell']) (by kernel_rfl) (k := 0) rfl rfl fun w3 h => hK _ _ ?_); clear hs hK K; have hs := h; clear h; try dsimp only [List.set] at hs)
      | (go_at_call 40; go_must (refine (HI.out _ _ hs).mono ?_); clear hs; rintro e w1 ⟨rfl, hs⟩)
      | (go_at_call 43; go_must (refine (HT.out _ _ hs).mono ?_); clear hs; rintro e w1 ⟨rfl, hs⟩))
    have cS : ∀ w M, Sat W w M → row b16 [Value.int .i64 last, .int .u32 (ep : Nat), .int .u32 (lo : Nat), .slice (some ⟨ba, 0, none⟩) i ca] 39 ∈ M → own (.slice (some ⟨ba, 0, none⟩) i ca) 107 i 5 (csC acc) ∈ M → row b18 [Value.int .i64 k.kind, .int .i64 k.a, .int .i64 k.b] 57 ∈ M → (rt3S b16 (.slice (some ⟨ba, 0, none⟩) i ca) ba (im * 5) (kC y.k) b18 (kC k)) w := fun w M h h1 h2 h3 => ⟨h.cell h1 rfl, range_pre (ds := [.int .i64 y.ts, (.string ⟨(y.v).toArray⟩)]) (HR.out w M h h2), range_whole h h3⟩
    have h129 : ∀ w, (rt3S b16 (.slice (some ⟨ba, 0, none⟩) i ca) ba (im * 5) (kC y.k) b18 (kC k)) w → w.cell? ⟨b16, 3, none⟩ = some (.slice (some ⟨ba, 0, none⟩) i ca) := fun w h => h.1
    have h134 : ∀ w, (rt3S b16 (.slice (some ⟨ba, 0, none⟩) i ca) ba (im * 5) (kC y.k) b18 (kC k)) w → w.rangeAt ba (im * 5) (kC y.k) := fun w h => h.2.1
    have h135 : ∀ w, (rt3S b16 (.slice (some ⟨ba, 0, none⟩) i ca) ba (im * 5) (kC y.k) b18 (kC k)) w → w.rangeAt b18 0 (kC k) := fun w h => h.2.2
    have hS0 := cS _ _ hs.drew (by (try dsimp only [List.set]); repeat (first | with_reducible exact List.mem_cons_self | with_reducible apply List.mem_cons_of_mem)) (by (try dsimp only [List.set]); repeat (first | with_reducible exact List.mem_cons_self | with_reducible apply List.mem_cons_of_mem)) (by (try dsimp only [List.set]); repeat (first | with_reducible exact List.mem_cons_self | with_reducible apply List.mem_cons_of_mem))
    refine wp_region_tree ((rt3S b16 (.slice (some ⟨ba, 0, none⟩) i ca) ba (im * 5) (kC y.k) b18 (kC k))) (.take 0 (.take 1 (.take 2 (.take 3 (.take 4 (.take 5 (.take 6 (.take 7 (.take 8 (.take 9 (.take 10 (.take 11 (.take 12 (.take 13 (.take 14 (.take 15 (.take 16 (.take 17 (.take 18 (.take 19 (.take 20 (.take 21 (.take 22 (.take 23 (.take 24 (.take 25 (.take 26 (.take 27 (.take 28 (.take 29 (.take 30 (.all [(31, .take 32 (.take 33 (.take 34 (DTree.done))))])))))))))))))))))))))))))))))))) (by kernel_rfl) (by kernel_rfl) (by kernel_rfl) (fun _ _ d _ _ h => by cases d <;> exact h) hS0 ?_
    have hs' := hs.drew
    clear hs
    have hs := hs'
    clear hs'
    have hq := fun p : Prop => class_const hS0 p
    clear hS0
    repeat (first
      | (with_reducible refine tree_load (o := ⟨some 129, .load _ _, _, _, _, _⟩) rfl rfl rfl rfl rfl h129 ?_)
      | (with_reducible refine tree_load_agg (o := ⟨some 134, .load _ _, _, _, _, _⟩) (kC y.k) rfl rfl rfl rfl ?_ ?_ h134 ?_; (kernel_rfl); (kernel_rfl))
      | (with_reducible refine tree_load_agg (o := ⟨some 135, .load _ _, _, _, _, _⟩) (kC k) rfl rfl rfl rfl ?_ ?_ h135 ?_; (kernel_rfl); (kernel_rfl))
      | (refine tree_take rfl (fun K hK => ?_); go_simp; (first | with_reducible refine hK _ ?_ | (rw [if_neg (by decide)]; with_reducible refine hK _ ?_)); clear hK K))
    refine tree_one_yes (o := _) rfl rfl (fun K hK => ?_) (cS _ _ hs (by (try dsimp only [List.set]); repeat (first | with_reducible exact List.mem_cons_self | with_reducible apply List.mem_cons_of_mem)) (by (try dsimp only [List.set]); repeat (first | with_reducible exact List.mem_cons_self | with_reducible apply List.mem_cons_of_mem)) (by (try dsimp only [List.set]); repeat (first | with_reducible exact List.mem_cons_self | with_reducible apply List.mem_cons_of_mem)))
    try go_simp
    go_at_call 44
    refine (HL.out _ _ hs).mono ?_
    clear hs
    rintro e w5 ⟨rfl, hs⟩
    try go_simp
    refine hK _ _ (cS _ _ hs (by (try dsimp only [List.set]); repeat (first | with_reducible exact List.mem_cons_self | with_reducible apply List.mem_cons_of_mem)) (by (try dsimp only [List.set]); repeat (first | with_reducible exact List.mem_cons_self | with_reducible apply List.mem_cons_of_mem)) (by (try dsimp only [List.set]); repeat (first | with_reducible exact List.mem_cons_self | with_reducible apply List.mem_cons_of_mem))) ?_
    clear hK K
    repeat (first
      | (with_reducible refine tree_load (o := ⟨some 129, .load _ _, _, _, _, _⟩) rfl rfl rfl rfl rfl h129 ?_)
      | (with_reducible refine tree_load_agg (o := ⟨some 134, .load _ _, _, _, _, _⟩) (kC y.k) rfl rfl rfl rfl ?_ ?_ h134 ?_; (kernel_rfl); (kernel_rfl))
      | (with_reducible refine tree_load_agg (o := ⟨some 135, .load _ _, _, _, _, _⟩) (kC k) rfl rfl rfl rfl ?_ ?_ h135 ?_; (kernel_rfl); (kernel_rfl))
      | (refine tree_take rfl (fun K hK => ?_); go_simp; (first | with_reducible refine hK _ ?_ | (rw [if_neg (by decide)]; with_reducible refine hK _ ?_)); clear hK K))
    refine tree_done ?_
    clear hq
    have he := HNO.out (by trivial)
    rw [he] at HO
    obtain rfl := HO.out
    clear he HO
    go_wp2_with (first
      | (guard_target = wpList _ _ _ (⟨none, .store _ (.tmp 2) _, _, _, _, _⟩ :: _) _ _; refine wpl (o := ⟨none, .store _ (.tmp 2) _, _, _, _, _⟩) rfl fun K hK => ?_; go_must (refine op_store_whole (hs.pick (A := row b2 [Value.int .i64 0, .int .u32 0, .int .u32 0, .slice none 0 0] 39) (by repeat (first | with_reducible exact Pick.here | with_reducible apply Pick.there))) (b := b2) rfl rfl [Value.int .i64 0, .int .u32 0, .int .u32 0, .slice none 0 0] rfl (by simp [Value.oneCell']) (by kernel_rfl) (k := 0) rfl rfl fun w9 h => hK _ _ ?_); clear hs hK K; have hs := h; clear h; try dsimp only [List.set] at hs))
    refine bodyPost_ret (run_results_cell_tmp rfl (b := b2) rfl [Value.int .i64 0, .int .u32 0, .int .u32 0, .slice none 0 0] (range_whole hs m0) (by kernel_rfl) (by kernel_rfl)) rfl ⟨.slice none 0 0, rfl, ?_⟩
    have hs2 := hs.addNil none 107 5
    show Sat W _ (own (.slice none 0 0) 107 0 5 [] :: L)
    exact hs2.pack (by repeat (first | with_reducible exact Pack.refl | with_reducible exact Pack.nil | with_reducible refine Pack.cons (by repeat (first | with_reducible exact Pick.here | with_reducible apply Pick.there)) ?_ | with_reducible apply Pack.drop))
  | true =>
    go_wp2_with (first
      | (go_at_call 42; go_must (refine (HK.out _ _ hs).mono ?_); clear hs; rintro e w1 ⟨rfl, hs⟩)
      | (guard_target = wpList _ _ _ (⟨some 18, .alloc _, _, _, _, _⟩ :: _) _ _; refine wpl (o := ⟨some 18, .alloc _, _, _, _, _⟩) rfl fun K hK => ?_; go_must (refine op_alloc hs rfl _ zkey [Value.int .i64 0, .int .i64 0, .int .i64 0] rfl fun b18 w1 h => hK _ _ ?_); clear hs hK K; have hs := h; clear h; try dsimp only [List.set] at hs)
      | (guard_target = wpList _ _ _ (⟨none, .store _ (.tmp 18) _, _, _, _, _⟩ :: _) _ _; refine wpl (o := ⟨none, .store _ (.tmp 18) _, _, _, _, _⟩) rfl fun K hK => ?_; go_must (refine op_store_whole hs (b := b18) rfl rfl [Value.int .i64 k.kind, .int .i64 k.a, .int .i64 k.b] rfl (by simp [Value.oneCell']) (by kernel_rfl) (k := 0) rfl rfl fun w3 h => hK _ _ ?_); clear hs hK K; have hs := h; clear h; try dsimp only [List.set] at hs)
      | (go_at_call 40; go_must (refine (HI.out _ _ hs).mono ?_); clear hs; rintro e w1 ⟨rfl, hs⟩)
      | (go_at_call 43; go_must (refine (HT.out _ _ hs).mono ?_); clear hs; rintro e w1 ⟨rfl, hs⟩))
    have cS : ∀ w M, Sat W w M → row b16 [Value.int .i64 last, .int .u32 (ep : Nat), .int .u32 (lo : Nat), .slice (some ⟨ba, 0, none⟩) i ca] 39 ∈ M → own (.slice (some ⟨ba, 0, none⟩) i ca) 107 i 5 (csC acc) ∈ M → row b18 [Value.int .i64 k.kind, .int .i64 k.a, .int .i64 k.b] 57 ∈ M → (rt3S b16 (.slice (some ⟨ba, 0, none⟩) i ca) ba (im * 5) (kC y.k) b18 (kC k)) w := fun w M h h1 h2 h3 => ⟨h.cell h1 rfl, range_pre (ds := [.int .i64 y.ts, (.string ⟨(y.v).toArray⟩)]) (HR.out w M h h2), range_whole h h3⟩
    have h129 : ∀ w, (rt3S b16 (.slice (some ⟨ba, 0, none⟩) i ca) ba (im * 5) (kC y.k) b18 (kC k)) w → w.cell? ⟨b16, 3, none⟩ = some (.slice (some ⟨ba, 0, none⟩) i ca) := fun w h => h.1
    have h134 : ∀ w, (rt3S b16 (.slice (some ⟨ba, 0, none⟩) i ca) ba (im * 5) (kC y.k) b18 (kC k)) w → w.rangeAt ba (im * 5) (kC y.k) := fun w h => h.2.1
    have h135 : ∀ w, (rt3S b16 (.slice (some ⟨ba, 0, none⟩) i ca) ba (im * 5) (kC y.k) b18 (kC k)) w → w.rangeAt b18 0 (kC k) := fun w h => h.2.2
    have hS0 := cS _ _ hs.drew (by (try dsimp only [List.set]); repeat (first | with_reducible exact List.mem_cons_self | with_reducible apply List.mem_cons_of_mem)) (by (try dsimp only [List.set]); repeat (first | with_reducible exact List.mem_cons_self | with_reducible apply List.mem_cons_of_mem)) (by (try dsimp only [List.set]); repeat (first | with_reducible exact List.mem_cons_self | with_reducible apply List.mem_cons_of_mem))
    refine wp_region_tree ((rt3S b16 (.slice (some ⟨ba, 0, none⟩) i ca) ba (im * 5) (kC y.k) b18 (kC k))) (.take 0 (.take 1 (.take 2 (.take 3 (.take 4 (.take 5 (.take 6 (.take 7 (.take 8 (.take 9 (.take 10 (.take 11 (.take 12 (.take 13 (.take 14 (.take 15 (.take 16 (.take 17 (.take 18 (.take 19 (.take 20 (.take 21 (.take 22 (.take 23 (.take 24 (.take 25 (.take 26 (.take 27 (.take 28 (.take 29 (.take 30 (.all [(31, .take 32 (.take 33 (.take 34 (DTree.done))))])))))))))))))))))))))))))))))))) (by kernel_rfl) (by kernel_rfl) (by kernel_rfl) (fun _ _ d _ _ h => by cases d <;> exact h) hS0 ?_
    have hs' := hs.drew
    clear hs
    have hs := hs'
    clear hs'
    have hq := fun p : Prop => class_const hS0 p
    clear hS0
    repeat (first
      | (with_reducible refine tree_load (o := ⟨some 129, .load _ _, _, _, _, _⟩) rfl rfl rfl rfl rfl h129 ?_)
      | (with_reducible refine tree_load_agg (o := ⟨some 134, .load _ _, _, _, _, _⟩) (kC y.k) rfl rfl rfl rfl ?_ ?_ h134 ?_; (kernel_rfl); (kernel_rfl))
      | (with_reducible refine tree_load_agg (o := ⟨some 135, .load _ _, _, _, _, _⟩) (kC k) rfl rfl rfl rfl ?_ ?_ h135 ?_; (kernel_rfl); (kernel_rfl))
      | (refine tree_take rfl (fun K hK => ?_); go_simp; (first | with_reducible refine hK _ ?_ | (rw [if_neg (by decide)]; with_reducible refine hK _ ?_)); clear hK K))
    refine tree_one_yes (o := _) rfl rfl (fun K hK => ?_) (cS _ _ hs (by (try dsimp only [List.set]); repeat (first | with_reducible exact List.mem_cons_self | with_reducible apply List.mem_cons_of_mem)) (by (try dsimp only [List.set]); repeat (first | with_reducible exact List.mem_cons_self | with_reducible apply List.mem_cons_of_mem)) (by (try dsimp only [List.set]); repeat (first | with_reducible exact List.mem_cons_self | with_reducible apply List.mem_cons_of_mem)))
    try go_simp
    go_at_call 44
    refine (HL.out _ _ hs).mono ?_
    clear hs
    rintro e w5 ⟨rfl, hs⟩
    try go_simp
    refine hK _ _ (cS _ _ hs (by (try dsimp only [List.set]); repeat (first | with_reducible exact List.mem_cons_self | with_reducible apply List.mem_cons_of_mem)) (by (try dsimp only [List.set]); repeat (first | with_reducible exact List.mem_cons_self | with_reducible apply List.mem_cons_of_mem)) (by (try dsimp only [List.set]); repeat (first | with_reducible exact List.mem_cons_self | with_reducible apply List.mem_cons_of_mem))) ?_
    clear hK K
    repeat (first
      | (with_reducible refine tree_load (o := ⟨some 129, .load _ _, _, _, _, _⟩) rfl rfl rfl rfl rfl h129 ?_)
      | (with_reducible refine tree_load_agg (o := ⟨some 134, .load _ _, _, _, _, _⟩) (kC y.k) rfl rfl rfl rfl ?_ ?_ h134 ?_; (kernel_rfl); (kernel_rfl))
      | (with_reducible refine tree_load_agg (o := ⟨some 135, .load _ _, _, _, _, _⟩) (kC k) rfl rfl rfl rfl ?_ ?_ h135 ?_; (kernel_rfl); (kernel_rfl))
      | (refine tree_take rfl (fun K hK => ?_); go_simp; (first | with_reducible refine hK _ ?_ | (rw [if_neg (by decide)]; with_reducible refine hK _ ?_)); clear hK K))
    refine tree_done ?_
    clear hq cS h129 h134 h135
    have HRI2 := Box.mk (HRS.out (by trivial))
    go_wp2_with (first
      | (guard_target = wpList _ _ _ (⟨some 142, .load _ _, _, _, _, _⟩ :: _) _ _; refine wpl (o := ⟨some 142, .load _ _, _, _, _, _⟩) rfl fun K hK => op_load rfl (ad := ⟨b16, 3, none⟩) rfl (by kernel_rfl) (hs.cell (l := [Value.int .i64 last, .int .u32 (ep : Nat), .int .u32 (lo : Nat), .slice (some ⟨ba, 0, none⟩) i ca]) (t := 39) (by (try dsimp only [List.set]); repeat (first | with_reducible exact List.mem_cons_self | with_reducible apply List.mem_cons_of_mem)) rfl) (hK _ _ ?_); clear hK K)
      | (guard_target = wpList _ _ _ (⟨some 143, .load _ _, _, _, _, _⟩ :: _) _ _; refine wpl (o := ⟨some 143, .load _ _, _, _, _, _⟩) rfl fun K hK => op_load_agg rfl (b := b18) (i := 0) rfl ([Value.int .i64 k.kind, .int .i64 k.a, .int .i64 k.b]) (range_whole hs (by (try dsimp only [List.set]); repeat (first | with_reducible exact List.mem_cons_self | with_reducible apply List.mem_cons_of_mem))) (by kernel_rfl) (by kernel_rfl) (hK _ _ ?_); clear hK K)
      | (guard_target = wpList _ _ _ (⟨some 147, .buildSlice _ _ _, _, _, _, _⟩ :: _) _ _; refine wpl (o := ⟨some 147, .buildSlice _ _ _, _, _, _, _⟩) rfl fun K hK => ?_; go_must (refine op_lit_agg1 hs rfl Tryd.underlying37 info_rcell (cC ⟨k, ti, tx⟩) rfl rfl (by omega) (by omega) fun b147 w1 h => hK _ _ ?_); clear hs hK K; have hs := h; clear h; try dsimp only [List.set] at hs)
      | (guard_target = wpList _ _ _ (⟨some 148, .call _, _, _, _, _⟩ :: _) _ _; refine wpl (o := ⟨some 148, .call _, _, _, _, _⟩) rfl fun K hK => ?_; go_must (refine op_append (hs.pick (A := own (.slice (some ⟨ba, 0, none⟩) i ca) 107 i 5 (csC acc)) (by repeat (first | with_reducible exact Pick.here | with_reducible apply Pick.there))) rfl Tryd.underlying37 Tryd.underlying37 info_rcell rfl (by omega) (k := 0) rfl rfl rfl (Has.of (A := row b147 (cC ⟨k, ti, tx⟩) 107) (by (try dsimp only [List.set]); repeat (first | with_reducible exact List.mem_cons_self | with_reducible apply List.mem_cons_of_mem)) fun F hF => own_sliceAt F (own_exact (n := 1) (sz := 5) rfl (by omega) F hF)) (cC_one _) (by omega) (by omega) fun v148 w2 h => hK _ _ ?_); clear hs hK K; have hs := h; clear h; try dsimp only [List.set] at hs
         obtain ⟨A148, c148, rfl, _, _⟩ := own_slice hs (i := 0) rfl)
      | (guard_target = wpList _ _ _ (⟨none, .store _ (.tmp 149) _, _, _, _, _⟩ :: _) _ _; refine wpl (o := ⟨none, .store _ (.tmp 149) _, _, _, _, _⟩) rfl fun K hK => ?_; go_must (refine op_store (hs.pick (A := row b16 [Value.int .i64 last, .int .u32 (ep : Nat), .int .u32 (lo : Nat), .slice (some ⟨ba, 0, none⟩) i ca] 39) (by repeat (first | with_reducible exact Pick.here | with_reducible apply Pick.there))) rfl (b := b16) (i := 3) (v := .slice A148 (i + 1) c148) rfl rfl rfl (by kernel_rfl) (k := 0) rfl (by simp) fun w7 h => hK _ _ ?_); clear hs hK K; have hs := h; clear h; try dsimp only [List.set] at hs))
    refine ⟨⟨i + 1, s3, acc ++ [⟨k, ti, tx⟩], A148, c148, by omega, rfl, by go_num, hs3, ⟨by rw [List.length_append, List.length_singleton, HAL.out]⟩, ⟨by rw [hm2]; exact HNX.out⟩, HRI2, ?_⟩, by simp only [intOf]; omega⟩
    rw [csC_snoc]
    exact hs.pack (by repeat (first | with_reducible exact Pack.refl | with_reducible exact Pack.nil | with_reducible refine Pack.cons (by repeat (first | with_reducible exact Pick.here | with_reducible apply Pick.there)) ?_ | with_reducible apply Pack.drop))
set_option maxRecDepth 100000 in
set_option maxHeartbeats 30000000 in
theorem rtSt_e1 : takeStCut.p_e1 := by
  intro W w L l hl O s0 hs0 n nb r3 lo r2 ep r1 last hzc hzk wn H1 H2 H3 H4 hnl HO X hend x1 b2 x2 x3 hts hnlI hround x4 g2 x5 g3 x6 x7 b16 w1 w3 x8 x9 wr u3 u18 u19 u20 u21 u22 u23 u24 u25 u26 u81 u82 u83 u84 u85 u86 u87 u88 u89 u90 u91 u92 u93 u94 u95 u96 u97 u98 u99 u100 u101 u102 u103 u104 u105 u106 u107 u108 u109 u110 u111 u112 u113 u114 u115 u116 u117 u118 u119 u120 u121 u122 u123 u124 u125 u126 u127 u128 u129 u130 u131 u132 u133 u134 u135 u136 u137 u138 u139 u140 u141 u142 u143 u144 u145 u146 u147 u148 u149 u150 i s1 acc A ca hi hs1 HAL hs hlt hltI hE hre
  subst hre
  have he := hE.2 rfl
  rw [he] at HO
  obtain rfl := HO.out
  clear he HO hE
  go_wp2_with (first
    | (guard_target = wpList _ _ _ (⟨some 154, .load _ _, _, _, _, _⟩ :: _) _ _; refine wpl (o := ⟨some 154, .load _ _, _, _, _, _⟩) rfl fun K hK => op_load_agg rfl (b := b16) (i := 0) rfl ([Value.int .i64 last, .int .u32 (ep : Nat), .int .u32 (lo : Nat), .slice A i ca]) (range_whole hs (by (try dsimp only [List.set]); repeat (first | with_reducible exact List.mem_cons_self | with_reducible apply List.mem_cons_of_mem))) (by kernel_rfl) (by kernel_rfl) (hK _ _ ?_); clear hK K)
    | (guard_target = wpList _ _ _ (⟨none, .store _ (.tmp 2) _, _, _, _, _⟩ :: _) _ _; refine wpl (o := ⟨none, .store _ (.tmp 2) _, _, _, _, _⟩) rfl fun K hK => ?_; go_must (refine op_store_whole (hs.pick (A := row b2 [Value.int .i64 0, .int .u32 0, .int .u32 0, .slice none 0 0] 39) (by repeat (first | with_reducible exact Pick.here | with_reducible apply Pick.there))) (b := b2) rfl rfl [Value.int .i64 last, .int .u32 (ep : Nat), .int .u32 (lo : Nat), .slice A i ca] rfl (by simp [Value.oneCell']) (by kernel_rfl) (k := 0) rfl rfl fun w9 h => hK _ _ ?_); clear hs hK K; have hs := h; clear h; try dsimp only [List.set] at hs))
  exact bodyPost_ret (run_results_cell_tmp rfl (b := b2) rfl [Value.int .i64 last, .int .u32 (ep : Nat), .int .u32 (lo : Nat), .slice A i ca] (range_whole hs m0) (by kernel_rfl) (by kernel_rfl)) rfl ⟨.slice A i ca, rfl, by show Sat W _ (own (.slice A i ca) 107 acc.length 5 (csC acc) :: L); rw [HAL.out]; exact hs.pack (L := own (.slice A i ca) 107 i 5 (csC acc) :: L) (by repeat (first | with_reducible exact Pack.refl | with_reducible exact Pack.nil | with_reducible refine Pack.cons (by repeat (first | with_reducible exact Pick.here | with_reducible apply Pick.there)) ?_ | with_reducible apply Pack.drop))⟩
set_option maxRecDepth 100000 in
set_option maxHeartbeats 30000000 in
theorem rtSt_e2 : takeStCut.p_e2 := by
  intro W w L l hl O s0 hs0 n nb r3 lo r2 ep r1 last hzc hzk wn H1 H2 H3 H4 hnl HO X hend x1 b2 x2 x3 hts hnlI hround x4 g2 x5 g3 x6 x7 b16 w1 w3 x8 x9 wr u3 u18 u19 u20 u21 u22 u23 u24 u25 u26 u81 u82 u83 u84 u85 u86 u87 u88 u89 u90 u91 u92 u93 u94 u95 u96 u97 u98 u99 u100 u101 u102 u103 u104 u105 u106 u107 u108 u109 u110 u111 u112 u113 u114 u115 u116 u117 u118 u119 u120 u121 u122 u123 u124 u125 u126 u127 u128 u129 u130 u131 u132 u133 u134 u135 u136 u137 u138 u139 u140 u141 u142 u143 u144 u145 u146 u147 u148 u149 u150 i s1 acc A ca hi hs1 HAL hs hlt hltI hE hre
  have he := hE.1 hre
  rw [he] at HO
  obtain rfl := HO.out
  clear he HO hE
  have hne : (s1 == ([] : List UInt8)) = false := by rw [beq_eq_false_iff_ne]; exact hre
  go_wp2_with (first
    | (guard_target = wpList _ _ _ (⟨none, .store _ (.tmp 2) _, _, _, _, _⟩ :: _) _ _; refine wpl (o := ⟨none, .store _ (.tmp 2) _, _, _, _, _⟩) rfl fun K hK => ?_; go_must (refine op_store_whole (hs.pick (A := row b2 [Value.int .i64 0, .int .u32 0, .int .u32 0, .slice none 0 0] 39) (by repeat (first | with_reducible exact Pick.here | with_reducible apply Pick.there))) (b := b2) rfl rfl [Value.int .i64 0, .int .u32 0, .int .u32 0, .slice none 0 0] rfl (by simp [Value.oneCell']) (by kernel_rfl) (k := 0) rfl rfl fun w9 h => hK _ _ ?_); clear hs hK K; have hs := h; clear h; try dsimp only [List.set] at hs))
  refine bodyPost_ret (run_results_cell_tmp rfl (b := b2) rfl [Value.int .i64 0, .int .u32 0, .int .u32 0, .slice none 0 0] (range_whole hs m0) (by kernel_rfl) (by kernel_rfl)) rfl ⟨.slice none 0 0, rfl, ?_⟩
  have hs2 := hs.addNil none 107 5
  show Sat W _ (own (.slice none 0 0) 107 0 5 [] :: L)
  exact hs2.pack (by repeat (first | with_reducible exact Pack.refl | with_reducible exact Pack.nil | with_reducible refine Pack.cons (by repeat (first | with_reducible exact Pick.here | with_reducible apply Pick.there)) ?_ | with_reducible apply Pack.drop))
end Go.Proofs.YthjnefpnnifjiaaDoor
