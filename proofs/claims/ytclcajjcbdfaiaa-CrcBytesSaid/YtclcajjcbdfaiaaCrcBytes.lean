/- The walk of the law CrcBytes: it returns true, for slices of at most 2^47 bytes. -/
import Derived.Test.YtclcajjcbdfaiaaCrcL
import Derived.Test.YtclcajjcbdfaiaaLift
import Derived.Test.YtclcajjcbdfaiaaOp3
import Derived.Test.YtclcajjcbdfaiaaDir
set_option linter.unusedVariables false
set_option linter.unusedSimpArgs false
namespace Go.Proofs.Ytclcajjcbdfaiaa
open Go.RowKit
theorem crcOf_snoc (l : List UInt8) (x : UInt8) : crcOf (l ++ [x]) = ~~~ (cbyte (~~~ crcOf l) x) := by
  unfold crcOf crcMore
  rw [BitVec.not_not, List.foldl_append]; rfl
set_option maxRecDepth 100000 in
set_option maxHeartbeats 1000000 in
theorem crcBytes_walk (W w : World) (L : List HP) (hs : Sat W w L) (v : Value) (l : List UInt8) (hv : Has L (bytesAt v l)) (hl : l.length ≤ 140737488351232) (x : UInt8) :
    Calls Try.prog 8 #[v, .int .u8 x.toNat] w fun e w' => e = .returned (.bool true) ∧ Sat W w' L := by
  obtain ⟨_, A, cap, rfl, hlc, hcm, _⟩ := hs.bytes hv
  by_cases hbig : 2000 < l.length
  · go_enter Try.func8, Try.ntmps8
    go_wp2_with (first
      | (go_at_call 15; go_must (refine (awake_spec W _ _ hs).mono ?_); clear hs; rintro e w3 ⟨rfl, hs⟩))
    go_ret
    exact ⟨rfl, hs⟩
  · have hS := Box.mk (crcOf_snoc l x)
    go_enter Try.func8, Try.ntmps8
    go_wp2_with (first
      | (go_at_call 15; go_must (refine (awake_spec W _ _ hs).mono ?_); clear hs; rintro e w3 ⟨rfl, hs⟩)
      | (go_at_call 16; go_must (refine (of_spec W _ _ hs _ l hv (by omega)).mono ?_); clear hs; rintro e w3 ⟨rfl, hs⟩)
      | (go_at_call 20; go_must (refine (table_spec W _ _ hs).mono ?_); clear hs; rintro e w1 ⟨rfl, hs⟩)
      | (refine wpl (o := ⟨some 7, .alloc _, _, _, _, _⟩) rfl fun K hK => op_alloc hs rfl _ zero27 (zc 256) rfl fun b7 w2 h => hK _ _ ?_; clear hs hK K; have hs := h; clear h)
      | (refine wpl (o := ⟨none, .store _ _ _, _, _, _, _⟩) rfl fun K hK => ?_; go_must (refine op_store_whole hs (b := b7) rfl rfl (tabCells 256) rfl (tabCells_one 256) (by kernel_rfl) (k := 0) rfl (by simp [zc]) fun w3 h => hK _ _ ?_); clear hs hK K; have hs := h; clear h; dsimp only [List.set] at hs))
    simp only [not_int]
    generalize hsd : ~~~ (crcOf l) = sd at *
    clear hsd
    obtain ⟨M, hM⟩ : ∃ M, M = row b7 (tabCells 256) 27 :: L := ⟨_, rfl⟩
    rw [← hM] at hs
    have hsub : ∀ w, Sat W w M → Sat W w L := fun w h => by rw [hM] at h; exact h.tail
    have hr7 : row b7 (tabCells 256) 27 ∈ M := by rw [hM]; exact m0
    have hv : Has M (bytesAt (.slice A l.length cap) l) := by rw [hM]; exact hv.tail
    clear hM
    refine wp_region_tree (Sat W · M) (.take 0 (.take 1 (.take 3 (.take 5 (.take 9 (.take 10 (.take 11 (.take 12 (.take 13 (.take 14 (.take 15 (.take 16 (.take 17 (.take 18 (.all [(2, .all [(4, .all [(6, .all [(7, .all [(8, .take 19 (.take 20 (.take 21 (DTree.done))))])])]), (6, .all [(4, .all [(7, .all [(8, .take 19 (.take 20 (.take 21 (DTree.done))))])])])]), (6, .all [(2, .all [(4, .all [(7, .all [(8, .take 19 (.take 20 (.take 21 (DTree.done))))])])])])]))))))))))))))) (by kernel_rfl) (by kernel_rfl) (by kernel_rfl) (fun _ _ d _ _ h => by cases d <;> exact h) hs.drew ?_
    have hq := sat_const hs
    have hi := idx_int sd x
    rw [← IntKind.wrap_u8] at hi
    have hlt8 := (sd.setWidth 8 ^^^ x.toBitVec).isLt
    have hc2 := fun (w0 : World) (h : Sat W w0 M) => h.cell hr7 (tabCells_get 256 _ hlt8)
    have HB := cbyte_int sd x
    generalize (sd.setWidth 8 ^^^ x.toBitVec).toNat = ix at hi hlt8 hc2 HB
    simp only [Nat.reducePow] at hlt8
    have hltI : (ix : Int) < 256 := by omega
    have hn := not_int (cbyte sd x)
    rw [← hS.out] at hn
    generalize cbyte sd x = cb at HB hn
    repeat (first
      | (with_reducible refine tree_load (o := ⟨some 31, .load _ _, _, _, _, _⟩) rfl rfl rfl rfl rfl hc2 ?_)
      | (refine tree_take rfl (fun K hK => ?_); go_simp; with_reducible refine hK _ ?_; clear hK K))
    have hs' := hs.drew
    clear hs
    have hs := hs'
    clear hs'
    refine tree_two_yes (o := ⟨some 19, .buildSlice _ _ _, _, _, _, _⟩) (q := ⟨some 23, .buildSlice _ _ _, _, _, _, _⟩) rfl rfl rfl rfl (by exact hs) (fun K hK => ?_) (fun K hK => ?_)
    · refine op_lit hs rfl Try.underlying22 info5 [] (by omega) (by simp [Instr.fill]) fun b19 w1 h => hK _ _ (h.tail) ?_
      clear hs hK K
      have hs := h
      clear h
      try dsimp only [List.set] at hs
      try go_simp
      refine tree_two_yes (o := ⟨some 21, .call _, _, _, _, _⟩) (q := ⟨some 23, .buildSlice _ _ _, _, _, _, _⟩) rfl rfl rfl rfl (by exact hs.tail) (fun K hK => ?_) (fun K hK => ?_)
      · refine op_append_new hs rfl Try.underlying22 Try.underlying22 info5 rfl (by omega) rfl (slice_nil _ 1 (hv.tail.imp fun _ _ => trivial)) rfl hv.tail (.inr rfl) (by omega) (by omega) fun v21 w3 h => hK _ _ (h.tail.tail) ?_
        clear hs hK K
        have hs := h
        clear h
        try dsimp only [List.set] at hs
        try go_simp
        refine tree_one_yes (o := _) rfl rfl (fun K hK => ?_) (by exact hs.tail.tail)
        refine op_lit1 hs rfl Try.underlying22 info5 rfl (u8s [x]) (by omega) rfl (by simp [u8s, Value.oneCell']) (by simp [u8s, Act.eval]) fun b23 w2 h => hK _ _ (h.tail.tail.tail) ?_
        clear hs hK K
        have hs := h
        clear h
        try dsimp only [List.set] at hs
        try go_simp
        refine tree_one_yes (o := _) rfl rfl (fun K hK => ?_) (by exact hs.tail.tail.tail)
        refine op_append hs rfl Try.underlying22 Try.underlying22 info5 rfl (by omega) (k := 1) rfl rfl rfl (lit_bytes 0 rfl 1 rfl (by omega)) (by simp [u8s, Value.oneCell']) (by simp; omega) (by simp; omega) fun v24 w4 h => hK _ _ (by have h' := h; dsimp only [List.set] at h'; exact h'.tail.tail.tail) ?_
        clear hs hK K
        have hs := h
        clear h
        try dsimp only [List.set] at hs
        try go_simp
        refine tree_one_yes (o := _) rfl rfl (fun K hK => ?_) (by exact hs.tail.tail.tail)
        go_simp
        go_at_call 16
        refine (of_spec W _ _ hs v24 (l ++ [x]) (own_bytes 1 rfl (by simp) (by simp [u8s])) (by simp; omega)).mono ?_
        clear hs
        rintro e w5 ⟨rfl, hs⟩
        try go_simp
        refine hK _ _ (by exact hs.tail.tail.tail) ?_
        clear hK K
        have hS3 : Sat W w5 M := hs.tail.tail.tail
        repeat (refine tree_take rfl (fun K hK => ?_); go_simp; with_reducible refine hK _ ?_; clear hK K)
        refine tree_done ?_
        go_wp2_with fail
        go_ret
        exact ⟨rfl, hsub _ hS3⟩
      · refine op_lit1 hs rfl Try.underlying22 info5 rfl (u8s [x]) (by omega) rfl (by simp [u8s, Value.oneCell']) (by simp [u8s, Act.eval]) fun b23 w2 h => hK _ _ (h.tail.tail) ?_
        clear hs hK K
        have hs := h
        clear h
        try dsimp only [List.set] at hs
        try go_simp
        refine tree_one_yes (o := _) rfl rfl (fun K hK => ?_) (by exact hs.tail.tail)
        refine op_append_new hs rfl Try.underlying22 Try.underlying22 info5 rfl (by omega) rfl (slice_nil _ 1 (hv.tail.tail.imp fun _ _ => trivial)) rfl hv.tail.tail (.inr rfl) (by omega) (by omega) fun v21 w3 h => hK _ _ (h.tail.tail.tail) ?_
        clear hs hK K
        have hs := h
        clear h
        try dsimp only [List.set] at hs
        try go_simp
        refine tree_one_yes (o := _) rfl rfl (fun K hK => ?_) (by exact hs.tail.tail.tail)
        refine op_append hs rfl Try.underlying22 Try.underlying22 info5 rfl (by omega) (k := 0) rfl rfl rfl (lit_bytes 1 rfl 1 rfl (by omega)) (by simp [u8s, Value.oneCell']) (by simp; omega) (by simp; omega) fun v24 w4 h => hK _ _ (by have h' := h; dsimp only [List.set] at h'; exact h'.tail.tail.tail) ?_
        clear hs hK K
        have hs := h
        clear h
        try dsimp only [List.set] at hs
        try go_simp
        refine tree_one_yes (o := _) rfl rfl (fun K hK => ?_) (by exact hs.tail.tail.tail)
        go_simp
        go_at_call 16
        refine (of_spec W _ _ hs v24 (l ++ [x]) (own_bytes 0 rfl (by simp) (by simp [u8s])) (by simp; omega)).mono ?_
        clear hs
        rintro e w5 ⟨rfl, hs⟩
        try go_simp
        refine hK _ _ (by exact hs.tail.tail.tail) ?_
        clear hK K
        have hS3 : Sat W w5 M := hs.tail.tail.tail
        repeat (refine tree_take rfl (fun K hK => ?_); go_simp; with_reducible refine hK _ ?_; clear hK K)
        refine tree_done ?_
        go_wp2_with fail
        go_ret
        exact ⟨rfl, hsub _ hS3⟩
    · refine op_lit1 hs rfl Try.underlying22 info5 rfl (u8s [x]) (by omega) rfl (by simp [u8s, Value.oneCell']) (by simp [u8s, Act.eval]) fun b23 w2 h => hK _ _ (h.tail) ?_
      clear hs hK K
      have hs := h
      clear h
      try dsimp only [List.set] at hs
      try go_simp
      refine tree_one_yes (o := _) rfl rfl (fun K hK => ?_) (by exact hs.tail)
      refine op_lit hs rfl Try.underlying22 info5 [] (by omega) (by simp [Instr.fill]) fun b19 w1 h => hK _ _ (h.tail.tail) ?_
      clear hs hK K
      have hs := h
      clear h
      try dsimp only [List.set] at hs
      try go_simp
      refine tree_one_yes (o := _) rfl rfl (fun K hK => ?_) (by exact hs.tail.tail)
      refine op_append_new hs rfl Try.underlying22 Try.underlying22 info5 rfl (by omega) rfl (slice_nil _ 1 (hv.tail.tail.imp fun _ _ => trivial)) rfl hv.tail.tail (.inr rfl) (by omega) (by omega) fun v21 w3 h => hK _ _ (h.tail.tail.tail) ?_
      clear hs hK K
      have hs := h
      clear h
      try dsimp only [List.set] at hs
      try go_simp
      refine tree_one_yes (o := _) rfl rfl (fun K hK => ?_) (by exact hs.tail.tail.tail)
      refine op_append hs rfl Try.underlying22 Try.underlying22 info5 rfl (by omega) (k := 0) rfl rfl rfl (lit_bytes 2 rfl 1 rfl (by omega)) (by simp [u8s, Value.oneCell']) (by simp; omega) (by simp; omega) fun v24 w4 h => hK _ _ (by have h' := h; dsimp only [List.set] at h'; exact h'.tail.tail.tail) ?_
      clear hs hK K
      have hs := h
      clear h
      try dsimp only [List.set] at hs
      try go_simp
      refine tree_one_yes (o := _) rfl rfl (fun K hK => ?_) (by exact hs.tail.tail.tail)
      go_simp
      go_at_call 16
      refine (of_spec W _ _ hs v24 (l ++ [x]) (own_bytes 0 rfl (by simp) (by simp [u8s])) (by simp; omega)).mono ?_
      clear hs
      rintro e w5 ⟨rfl, hs⟩
      try go_simp
      refine hK _ _ (by exact hs.tail.tail.tail) ?_
      clear hK K
      have hS3 : Sat W w5 M := hs.tail.tail.tail
      repeat (refine tree_take rfl (fun K hK => ?_); go_simp; with_reducible refine hK _ ?_; clear hK K)
      refine tree_done ?_
      go_wp2_with fail
      go_ret
      exact ⟨rfl, hsub _ hS3⟩
theorem crcBytes_main (W : World) (l : List UInt8) (v : Value) (h0 : (Kin.slice 1 Kin.u8).K (hp W) l [v]) (x : UInt8) (v1 : Value) (h1 : Kin.u8.K (hp W) x [v1]) :
    Calls Try.prog 8 #[v, v1] W fun e w' => e = .returned (.bool true) ∧ Below W.heap.size W w' := by
  cases h1
  obtain ⟨hb, hl⟩ := kin_bytes h0
  exact (crcBytes_walk W W _ (Sat.start W) v l ((has_old h0).imp fun F hF => (kin_bytes hF).1) hl x).mono fun e w' ⟨he, hs⟩ => ⟨he, hs.end_ m0⟩
end Go.Proofs.Ytclcajjcbdfaiaa
