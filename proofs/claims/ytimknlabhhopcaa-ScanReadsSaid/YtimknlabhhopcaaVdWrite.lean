/- Write. -/
import Derived.Test.YtimknlabhhopcaaVd
import Derived.Test.YtimknlabhhopcaaOp4
set_option linter.unusedVariables false
set_option linter.unusedSimpArgs false
namespace Go.Proofs.Ytimknlabhhopcaa
open Go.RowKit
theorem zwrite : (Try.prog.info? 108).map (fun i => (i.zero, i.size, i.bytes)) = some (some (.agg (wCells (0, List.replicate 64 0)).toArray), 65, 72) := by kernel_rfl
theorem zwrite' : (Try.prog.info? 108).bind (·.zero) = some (.agg (wCells (0, List.replicate 64 0)).toArray) := by kernel_rfl
theorem wCells_len (x : Nat × List UInt8) : (wCells x).length = x.2.length + 1 := by simp [wCells]
theorem wCells_one (x : Nat × List UInt8) : ∀ v ∈ wCells x, v.oneCell' = true := fun v hv => by
  simp only [wCells, List.mem_cons, u8s, List.mem_map] at hv
  rcases hv with rfl | ⟨_, _, rfl⟩ <;> rfl
theorem wCells_copy (i : Nat) (l : List UInt8) (h : l.length ≤ 64) : (wCells (i, List.replicate 64 0)).take 1 ++ u8s l ++ (wCells (i, List.replicate 64 0)).drop (1 + l.length) = wCells (i, pad l) := by
  have e : (wCells (i, List.replicate 64 0)).drop (1 + l.length) = u8s (List.replicate (64 - l.length) 0) := by
    rw [Nat.add_comm, wCells, List.drop_succ_cons]
    unfold u8s
    rw [← List.map_drop, List.drop_replicate]
  rw [e, wCells, wCells, pad, u8s_append]
  simp
theorem rowCells_snoc (r : List (Nat × List UInt8)) (x : Nat × List UInt8) : rowCells r ++ wCells x = rowCells (r ++ [x]) := by simp [rowCells]
set_option maxRecDepth 100000 in
set_option maxHeartbeats 1000000 in
theorem write_spec (W w : World) (L : List HP) (b : Nat) (D : Dk) (hs : Sat W w (disk b D :: L)) (i : Nat) (hi : i < D.secs.length) (v : Value) (l : List UInt8) (hv : Has L (bytesAt v l)) (hl : l.length ≤ 64) (hr : D.row.length ≤ 1000000) :
    Calls Try.prog 18 #[.pointer (some ⟨b, 0, none⟩), .int .i64 i, v] w fun e w' => e = .returned (.int .i64 0) ∧ Sat W w' (disk b (D.write i l) :: L) := by
  obtain ⟨_, A, cap, rfl, hlc, hcm, _⟩ := hs.bytes hv.tail
  have hz76 := run_zero (P := Try.prog) zwrite'
  have hne : ∀ x, (wCells x = []) = False := fun x => by simp [wCells]
  go_enter Try.func18, Try.ntmps18
  go_wp2_with (first
    | (go_at_call 47; go_must (refine (len_spec W _ _ b D hs).mono ?_); clear hs; rintro e w1 ⟨rfl, hs⟩)
    | (guard_target = wpList _ _ _ (⟨some 7, .alloc _, _, _, _, _⟩ :: _) _ _; refine wpl (o := ⟨some 7, .alloc _, _, _, _, _⟩) rfl fun K hK => ?_; go_must (refine op_alloc hs rfl _ zwrite' (wCells (0, List.replicate 64 0)) rfl fun b7 w2 h => hK _ _ ?_); clear hs hK K; have hs := h; clear h)
    | (guard_target = wpList _ _ _ (⟨none, .store _ (.tmp 7) _, _, _, _, _⟩ :: _) _ _; refine wpl (o := ⟨none, .store _ (.tmp 7) _, _, _, _, _⟩) rfl fun K hK => ?_; go_must (refine op_store_whole hs (b := b7) rfl rfl (wCells (i, List.replicate 64 0)) rfl (wCells_one _) (by kernel_rfl) (k := 0) rfl (by simp [wCells_len]) fun w3 h => hK _ _ ?_); clear hs hK K; have hs := h; clear h; dsimp only [List.set] at hs)
    | (guard_target = wpList _ _ _ (⟨some 26, .call _, _, _, _, _⟩ :: _) _ _; refine wpl (o := ⟨some 26, .call _, _, _, _, _⟩) rfl fun K hK => ?_; go_must (refine op_copy_bytes hs rfl Try.underlying36 (by kernel_rfl) rfl (k := 0) rfl (by simp [wCells_len]) rfl hv.tail.tail hl fun w4 h => hK _ _ ?_); clear hs hK K; have hs := h; clear h; dsimp only [List.set] at hs; rw [wCells_copy i l hl] at hs))
  have hpl := pad_length hl
  have hs' := hs.perm (List.Perm.swap _ _ _)
  clear hs
  obtain ⟨ok, vs, vr, hs⟩ := hs'.disk_open
  clear hs'
  have hend : ∀ w b7 vr' (x : Unit), Sat W w (row b [vs, vr'] 103 :: own vs 106 D.secs.length 64 (secCells D.secs) :: own vr' 108 (D.row.length + 1) 65 (rowCells D.row ++ wCells (i, pad l)) :: row b7 (wCells (i, pad l)) 108 :: L) → Sat W w (disk b (D.write i l) :: L) := fun w b7 vr' _ h => by
    have h5 : Sat W w (disk b (D.write i l) :: row b7 (wCells (i, pad l)) 108 :: L) := Sat.disk_shut (vs := vs) (vr := vr') (Dk.write_ok ok hi hl) (by
      have e1 : rowCells (D.write i l).row = rowCells D.row ++ wCells (i, pad l) := (rowCells_snoc _ _).symm
      have e2 : (D.write i l).row.length = D.row.length + 1 := by simp [Dk.write]
      rw [e1, e2]
      exact h)
    exact (h5.perm (List.Perm.swap _ _ _)).tail
  obtain ⟨A1, c1, rfl, hn1, hn2⟩ := own_slice hs (i := 2) rfl
  refine wp_region_tree (Sat W · (row b7 (wCells (i, pad l)) 108 :: L)) (.take 0 (.take 1 (.take 2 (.take 3 (.take 5 (.all [(4, .all [(6, .all [(7, .take 8 (.take 9 (.all [(10, DTree.done)])))])]), (6, .all [(4, .all [(7, .take 8 (.take 9 (.all [(10, DTree.done)])))])])])))))) (by kernel_rfl) (by kernel_rfl) (by kernel_rfl) (fun _ _ d _ _ h => by cases d <;> exact h) (by exact hs.tail.tail.tail.drew) ?_
  have hs' := hs.drew
  clear hs
  have hs := hs'
  clear hs'
  have hq := fun p : Prop => sat_const (p := p) (hs.tail.tail.tail)
  repeat (first
    | (with_reducible refine tree_load_agg (o := ⟨some 32, .load _ _, _, _, _, _⟩) (wCells (i, pad l)) rfl rfl rfl rfl ?_ ?_ (fun w h => range_whole h m0) ?_; (kernel_rfl); (rw [wCells_len, hpl]; kernel_rfl))
    | (refine tree_take rfl (fun K hK => ?_); go_simp; with_reducible refine hK _ ?_; clear hK K))
  refine tree_two_yes (o := ⟨some 31, .load _ _, _, _, _, _⟩) (q := ⟨some 33, .buildSlice _ _ _, _, _, _, _⟩) rfl rfl rfl rfl (by exact hs.tail.tail.tail) (fun K hK => ?_) (fun K hK => ?_)
  · refine op_load rfl (ad := ⟨b, 1, none⟩) rfl (by kernel_rfl) (hs.cell m0 rfl) (hK _ _ (by exact hs.tail.tail.tail) ?_)
    clear hK K
    try go_simp
    refine tree_one_yes (o := _) rfl rfl (fun K hK => ?_) (by exact hs.tail.tail.tail)
    refine op_lit_agg1 hs rfl Try.underlying101 zwrite (wCells (i, pad l)) rfl (by simp [wCells_len, hpl]) (by omega) (by omega) fun b33 w5 h => hK _ _ (h.tail.tail.tail.tail) ?_
    clear hs hK K
    have hs := h
    clear h
    try dsimp only [List.set] at hs
    try go_simp
    refine tree_one_yes (o := _) rfl rfl (fun K hK => ?_) (by exact hs.tail.tail.tail.tail)
    refine op_append hs rfl Try.underlying101 Try.underlying101 zwrite (by simp [Value.cells, wCells_len]) (by omega) (k := 3) rfl rfl rfl (lit_slice 0 rfl 1 65 (by simp [wCells_len, hpl]) (by omega)) (wCells_one _) (by omega) (by omega) fun v34 w6 h => hK _ _ (by have h' := h; dsimp only [List.set] at h'; exact h'.tail.tail.tail.tail) ?_
    clear hs hK K
    have hs := h
    clear h
    try dsimp only [List.set] at hs
    try go_simp
    obtain ⟨A34, c34, rfl, _, _⟩ := own_slice hs (i := 3) rfl
    have h34 : (Value.slice A34 (D.row.length + 1) c34).oneCell' = true := rfl
    repeat (refine tree_take rfl (fun K hK => ?_); go_simp; with_reducible refine hK _ ?_; clear hK K)
    refine tree_one_yes (o := _) rfl rfl (fun K hK => ?_) (by exact hs.tail.tail.tail.tail)
    refine op_store hs (b := b) (i := 1) (v := .slice A34 (D.row.length + 1) c34) rfl rfl rfl h34 (by kernel_rfl) (k := 1) rfl (by simp) fun w7 h => hK _ _ (by have h' := h; dsimp only [List.set] at h'; exact h'.tail.tail.tail.tail) ?_
    clear hs hK K
    have hs := h
    clear h
    try dsimp only [List.set] at hs
    try go_simp
    refine tree_done ?_
    go_wp2_with fail
    go_ret
    exact ⟨rfl, hend _ _ _ () hs.tail⟩
  · refine op_lit_agg1 hs rfl Try.underlying101 zwrite (wCells (i, pad l)) rfl (by simp [wCells_len, hpl]) (by omega) (by omega) fun b33 w5 h => hK _ _ (h.tail.tail.tail.tail) ?_
    clear hs hK K
    have hs := h
    clear h
    try dsimp only [List.set] at hs
    try go_simp
    refine tree_one_yes (o := _) rfl rfl (fun K hK => ?_) (by exact hs.tail.tail.tail.tail)
    refine op_load rfl (ad := ⟨b, 1, none⟩) rfl (by kernel_rfl) (hs.cell m1 rfl) (hK _ _ (by exact hs.tail.tail.tail.tail) ?_)
    clear hK K
    try go_simp
    refine tree_one_yes (o := _) rfl rfl (fun K hK => ?_) (by exact hs.tail.tail.tail.tail)
    refine op_append hs rfl Try.underlying101 Try.underlying101 zwrite (by simp [Value.cells, wCells_len]) (by omega) (k := 3) rfl rfl rfl (lit_slice 0 rfl 1 65 (by simp [wCells_len, hpl]) (by omega)) (wCells_one _) (by omega) (by omega) fun v34 w6 h => hK _ _ (by have h' := h; dsimp only [List.set] at h'; exact h'.tail.tail.tail.tail) ?_
    clear hs hK K
    have hs := h
    clear h
    try dsimp only [List.set] at hs
    try go_simp
    obtain ⟨A34, c34, rfl, _, _⟩ := own_slice hs (i := 3) rfl
    have h34 : (Value.slice A34 (D.row.length + 1) c34).oneCell' = true := rfl
    repeat (refine tree_take rfl (fun K hK => ?_); go_simp; with_reducible refine hK _ ?_; clear hK K)
    refine tree_one_yes (o := _) rfl rfl (fun K hK => ?_) (by exact hs.tail.tail.tail.tail)
    refine op_store hs (b := b) (i := 1) (v := .slice A34 (D.row.length + 1) c34) rfl rfl rfl h34 (by kernel_rfl) (k := 1) rfl (by simp) fun w7 h => hK _ _ (by have h' := h; dsimp only [List.set] at h'; exact h'.tail.tail.tail.tail) ?_
    clear hs hK K
    have hs := h
    clear h
    try dsimp only [List.set] at hs
    try go_simp
    refine tree_done ?_
    go_wp2_with fail
    go_ret
    exact ⟨rfl, hend _ _ _ () hs.tail⟩
set_option maxRecDepth 100000 in
set_option maxHeartbeats 400000 in
theorem write_bound (W w : World) (L : List HP) (b : Nat) (D : Dk) (hs : Sat W w (disk b D :: L)) (i : Int) (hi : i < 0 ∨ (D.secs.length : Int) ≤ i) (v : Value) :
    Calls Try.prog 18 #[.pointer (some ⟨b, 0, none⟩), .int .i64 i, v] w fun e w' => e = .returned (.int .i64 11) ∧ Sat W w' (disk b D :: L) := by
  go_enter Try.func18, Try.ntmps18
  by_cases h0 : i < 0
  · go_wp2_with fail
    go_ret
    exact ⟨rfl, hs⟩
  · have h1 : (D.secs.length : Int) ≤ i := by omega
    have h2 : ¬ i < (D.secs.length : Int) := by omega
    go_wp2_with (first
      | (go_at_call 47; go_must (refine (len_spec W _ _ b D hs).mono ?_); clear hs; rintro e w1 ⟨rfl, hs⟩))
    go_ret
    exact ⟨rfl, hs⟩
set_option maxRecDepth 100000 in
set_option maxHeartbeats 400000 in
theorem write_nil (W w : World) (L : List HP) (hs : Sat W w L) (i : Int) (v : Value) :
    Calls Try.prog 18 #[.pointer none, .int .i64 i, v] w fun e w' => e = .returned (.int .i64 11) ∧ Sat W w' L := by
  go_enter Try.func18, Try.ntmps18
  by_cases h0 : i < 0
  · go_wp2_with fail
    go_ret
    exact ⟨rfl, hs⟩
  · have h1 : (0 : Int) ≤ i := by omega
    go_wp2_with (first
      | (go_at_call 47; go_must (refine (len_nil W _ _ hs).mono ?_); clear hs; rintro e w1 ⟨rfl, hs⟩))
    go_ret
    exact ⟨rfl, hs⟩
set_option maxRecDepth 100000 in
set_option maxHeartbeats 400000 in
theorem write_long (W w : World) (L : List HP) (b : Nat) (D : Dk) (hs : Sat W w (disk b D :: L)) (i : Nat) (hi : i < D.secs.length) (v : Value) (l : List UInt8) (hv : Has L (bytesAt v l)) (hl : 64 < l.length) :
    Calls Try.prog 18 #[.pointer (some ⟨b, 0, none⟩), .int .i64 i, v] w fun e w' => e = .returned (.int .i64 1) ∧ Sat W w' (disk b D :: L) := by
  obtain ⟨_, A, cap, rfl, hlc, hcm, _⟩ := hs.bytes hv.tail
  go_enter Try.func18, Try.ntmps18
  go_wp2_with (first
    | (go_at_call 47; go_must (refine (len_spec W _ _ b D hs).mono ?_); clear hs; rintro e w1 ⟨rfl, hs⟩))
  go_ret
  exact ⟨rfl, hs⟩
end Go.Proofs.Ytimknlabhhopcaa
