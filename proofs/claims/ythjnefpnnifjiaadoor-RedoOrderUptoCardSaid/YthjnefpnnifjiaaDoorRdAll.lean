/- The contracts of Take's closure, and of all over it. -/
import Derived.Test.YthjnefpnnifjiaaDoorRdRead
import Derived.Test.YthjnefpnnifjiaaDoorRdPut
set_option linter.unusedVariables false
set_option linter.unusedSimpArgs false
namespace Go.Proofs.YthjnefpnnifjiaaDoor
open Go.RowKit
def rdWs : Nat → Rd → List RWr → Rd × List RWr
  | 0, s, acc => (s, acc)
  | n + 1, s, acc => if s.bad then (s, acc) else rdWs n s.key.2.text.2 (acc ++ [⟨s.key.1, s.key.2.text.1⟩])
theorem info_write : (Tryd.prog.info? 61).map (fun i => (i.zero, i.size, i.bytes)) = some (some (.agg #[Value.int .i64 0, .int .i64 0, .int .i64 0, .string ⟨#[]⟩]), 4, 40) := by kernel_rfl
theorem info_cell : (Tryd.prog.info? 59).map (fun i => (i.zero, i.size, i.bytes)) = some (some (.agg #[Value.int .i64 0, .int .i64 0, .int .i64 0, .int .i64 0, .string ⟨#[]⟩]), 5, 48) := by kernel_rfl
theorem wsC_snoc (l : List RWr) (x : RWr) : wsC (l ++ [x]) = wsC l ++ wC x := by simp [wsC]
theorem csC_snoc (l : List RCl) (x : RCl) : csC (l ++ [x]) = csC l ++ cC x := by simp [csC]
def t1S (b2 : Nat) (ks : List Value) (bp r : Nat) (w : World) : Prop := w.rangeAt b2 0 ks ∧ w.cell? ⟨bp, 0, none⟩ = some (.pointer (some ⟨r, 0, none⟩))
def take1Post (bp r bc : Nat) (s : Rd) (ts : Int) (acc : List RWr) (W : World) (M : List HP) (e : Ending) (w' : World) : Prop :=
  ∃ v', e = .returned (.tuple #[]) ∧ Sat W w' (row bp [.pointer (some ⟨r, 0, none⟩)] 72 :: row r (rdC s) 74 :: row bc [.int .i64 ts, v'] 24 :: own v' 61 acc.length 4 (wsC acc) :: M)
set_option maxRecDepth 100000 in
set_option maxHeartbeats 8000000 in
theorem take1_spec (W w : World) (M : List HP) (bp r bc : Nat) (s : Rd) (ts : Int) (v : Value) (acc : List RWr) (hs : Sat W w (row bp [.pointer (some ⟨r, 0, none⟩)] 72 :: row r (rdC s) 74 :: row bc [.int .i64 ts, v] 24 :: own v 61 acc.length 4 (wsC acc) :: M)) (hold : old W ∈ M) (hm : maxLenIs W) (hl : s.rest.length ≤ 1073741824) (hacc : acc.length ≤ 4294967296) :
    Calls Tryd.prog 34 #[.pointer (some ⟨bp, 0, none⟩), .pointer (some ⟨bc, 0, none⟩)] w (take1Post bp r bc s.key.2.text.2 ts (acc ++ [⟨s.key.1, s.key.2.text.1⟩]) W M) := by
  obtain ⟨A, ca, rfl, _, _⟩ := own_slice hs (i := 3) rfl
  have hkl := s.key_len
  have HK := Box.mk (fun w (L : List HP) hs => rkey_spec W w L r s hs hl)
  have HT := Box.mk (fun w (L : List HP) hs ho => fromT_spec W w L r s.key.2 hs ho hm (by omega))
  generalize s.key.2.text = x2 at HT ⊢
  obtain ⟨tx, s2⟩ := x2
  generalize s.key = x1 at HK HT hkl ⊢
  obtain ⟨k, s1⟩ := x1
  dsimp only at HK HT hkl ⊢
  clear hm
  have hz := run_zero (P := Tryd.prog) zwrite
  go_enter Tryd.func34, Tryd.ntmps34
  go_wp2_with (first
    | (guard_target = wpList _ _ _ (⟨some 3, .load _ _, _, _, _, _⟩ :: _) _ _; refine wpl (o := ⟨some 3, .load _ _, _, _, _, _⟩) rfl fun K hK => op_load rfl (ad := ⟨bp, 0, none⟩) rfl (by kernel_rfl) (hs.cell (l := [.pointer (some ⟨r, 0, none⟩)]) (t := 72) (by (try dsimp only [List.set]); repeat (first | with_reducible exact List.mem_cons_self | with_reducible apply List.mem_cons_of_mem)) rfl) (hK _ _ ?_); clear hK K)
    | (go_at_call 35; go_must (refine (HK.out _ _ (hs.pick (A := row r (rdC s) 74) (by repeat (first | with_reducible exact Pick.here | with_reducible apply Pick.there)))).mono ?_); clear hs; rintro e w1 ⟨rfl, hs⟩)
    | (guard_target = wpList _ _ _ (⟨some 2, .alloc _, _, _, _, _⟩ :: _) _ _; refine wpl (o := ⟨some 2, .alloc _, _, _, _, _⟩) rfl fun K hK => ?_; go_must (refine op_alloc hs rfl _ zkey [Value.int .i64 0, .int .i64 0, .int .i64 0] rfl fun b2 w1 h => hK _ _ ?_); clear hs hK K; have hs := h; clear h; try dsimp only [List.set] at hs)
    | (guard_target = wpList _ _ _ (⟨none, .store _ (.tmp 2) _, _, _, _, _⟩ :: _) _ _; refine wpl (o := ⟨none, .store _ (.tmp 2) _, _, _, _, _⟩) rfl fun K hK => ?_; go_must (refine op_store_whole (hs.pick (A := row b2 [Value.int .i64 0, .int .i64 0, .int .i64 0] 57) (by repeat (first | with_reducible exact Pick.here | with_reducible apply Pick.there))) (b := b2) rfl rfl [Value.int .i64 k.kind, .int .i64 k.a, .int .i64 k.b] rfl (by simp [Value.oneCell']) (by kernel_rfl) (k := 0) rfl rfl fun w3 h => hK _ _ ?_); clear hs hK K; have hs := h; clear h; try dsimp only [List.set] at hs))
  have cS : ∀ w M, Sat W w M → row b2 [Value.int .i64 k.kind, .int .i64 k.a, .int .i64 k.b] 57 ∈ M → row bp [.pointer (some ⟨r, 0, none⟩)] 72 ∈ M → t1S b2 [Value.int .i64 k.kind, .int .i64 k.a, .int .i64 k.b] bp r w := fun w M h h1 h2 => ⟨range_whole h h1, h.cell h2 rfl⟩
  have d7 : ∀ w, t1S b2 [Value.int .i64 k.kind, .int .i64 k.a, .int .i64 k.b] bp r w → w.rangeAt b2 0 [Value.int .i64 k.kind, .int .i64 k.a, .int .i64 k.b] := fun w h => h.1
  have d8 : ∀ w, t1S b2 [Value.int .i64 k.kind, .int .i64 k.a, .int .i64 k.b] bp r w → w.cell? ⟨bp, 0, none⟩ = some (.pointer (some ⟨r, 0, none⟩)) := fun w h => h.2
  have hS0 := cS _ _ hs.drew (by (try dsimp only [List.set]); repeat (first | with_reducible exact List.mem_cons_self | with_reducible apply List.mem_cons_of_mem)) (by (try dsimp only [List.set]); repeat (first | with_reducible exact List.mem_cons_self | with_reducible apply List.mem_cons_of_mem))
  refine wp_region_tree (t1S b2 [Value.int .i64 k.kind, .int .i64 k.a, .int .i64 k.b] bp r) (.take 0 (.take 2 (.take 3 (.all [(1, .all [(4, .take 5 (.all [(6, .all [(7, .take 8 (.all [(9, DTree.done)]))])]))]), (4, .take 5 (.all [(1, .all [(6, .all [(7, .take 8 (.all [(9, DTree.done)]))])]), (6, .all [(1, .all [(7, .take 8 (.all [(9, DTree.done)]))])])]))])))) (by kernel_rfl) (by kernel_rfl) (by kernel_rfl) (fun _ _ d _ _ h => by cases d <;> exact h) hS0 ?_
  have hs' := hs.drew
  clear hs
  have hs := hs'
  clear hs'
  have hq := fun p : Prop => class_const hS0 p
  clear hS0
  repeat (first
    | (with_reducible refine tree_load_agg (o := ⟨some 7, .load _ _, _, _, _, _⟩) [Value.int .i64 k.kind, .int .i64 k.a, .int .i64 k.b] rfl rfl rfl rfl ?_ ?_ d7 ?_; (kernel_rfl); (kernel_rfl))
    | (with_reducible refine tree_load (o := ⟨some 8, .load _ _, _, _, _, _⟩) rfl rfl rfl rfl rfl d8 ?_)
    | (refine tree_take rfl (fun K hK => ?_); go_simp; (first | with_reducible refine hK _ ?_ | (rw [if_neg (by decide)]; with_reducible refine hK _ ?_)); clear hK K))
  refine tree_all (trees_cons_yes (o := _) rfl rfl (fun K hK => ?_) (cS _ _ hs (by (try dsimp only [List.set]); repeat (first | with_reducible exact List.mem_cons_self | with_reducible apply List.mem_cons_of_mem)) (by (try dsimp only [List.set]); repeat (first | with_reducible exact List.mem_cons_self | with_reducible apply List.mem_cons_of_mem))) (trees_cons_yes (o := _) rfl rfl (fun K hK => ?_) (cS _ _ hs (by (try dsimp only [List.set]); repeat (first | with_reducible exact List.mem_cons_self | with_reducible apply List.mem_cons_of_mem)) (by (try dsimp only [List.set]); repeat (first | with_reducible exact List.mem_cons_self | with_reducible apply List.mem_cons_of_mem))) trees_nil))
  · refine op_load rfl (ad := ⟨bc, 1, none⟩) rfl (by kernel_rfl) (hs.cell (l := [.int .i64 ts, .slice A acc.length ca]) (t := 24) (by (try dsimp only [List.set]); repeat (first | with_reducible exact List.mem_cons_self | with_reducible apply List.mem_cons_of_mem)) rfl) (hK _ _ (cS _ _ hs (by (try dsimp only [List.set]); repeat (first | with_reducible exact List.mem_cons_self | with_reducible apply List.mem_cons_of_mem)) (by (try dsimp only [List.set]); repeat (first | with_reducible exact List.mem_cons_self | with_reducible apply List.mem_cons_of_mem))) ?_)
    clear hK K
    try go_simp
    refine tree_one_yes (o := _) rfl rfl (fun K hK => ?_) (cS _ _ hs (by (try dsimp only [List.set]); repeat (first | with_reducible exact List.mem_cons_self | with_reducible apply List.mem_cons_of_mem)) (by (try dsimp only [List.set]); repeat (first | with_reducible exact List.mem_cons_self | with_reducible apply List.mem_cons_of_mem)))
    try go_simp
    go_at_call 36
    refine (HT.out _ _ (hs.pick (A := row r (rdC s1) 74) (by repeat (first | with_reducible exact Pick.here | with_reducible apply Pick.there))) (by (try dsimp only [List.set]); repeat (first | exact hold | apply List.mem_cons_of_mem))).mono ?_
    clear hs
    rintro e w5 ⟨rfl, hs⟩
    try go_simp
    refine hK _ _ (cS _ _ hs (by (try dsimp only [List.set]); repeat (first | with_reducible exact List.mem_cons_self | with_reducible apply List.mem_cons_of_mem)) (by (try dsimp only [List.set]); repeat (first | with_reducible exact List.mem_cons_self | with_reducible apply List.mem_cons_of_mem))) ?_
    clear hK K
    repeat (first
      | (with_reducible refine tree_load_agg (o := ⟨some 7, .load _ _, _, _, _, _⟩) [Value.int .i64 k.kind, .int .i64 k.a, .int .i64 k.b] rfl rfl rfl rfl ?_ ?_ d7 ?_; (kernel_rfl); (kernel_rfl))
      | (with_reducible refine tree_load (o := ⟨some 8, .load _ _, _, _, _, _⟩) rfl rfl rfl rfl rfl d8 ?_)
      | (refine tree_take rfl (fun K hK => ?_); go_simp; (first | with_reducible refine hK _ ?_ | (rw [if_neg (by decide)]; with_reducible refine hK _ ?_)); clear hK K))
    refine tree_one_yes (o := _) rfl rfl (fun K hK => ?_) (cS _ _ hs (by (try dsimp only [List.set]); repeat (first | with_reducible exact List.mem_cons_self | with_reducible apply List.mem_cons_of_mem)) (by (try dsimp only [List.set]); repeat (first | with_reducible exact List.mem_cons_self | with_reducible apply List.mem_cons_of_mem)))
    refine op_lit_agg1 hs rfl Tryd.underlying22 info_write (wC ⟨k, tx⟩) rfl rfl (by omega) (by omega) fun b11 w1 h => hK _ _ (cS _ _ h (by (try dsimp only [List.set]); repeat (first | with_reducible exact List.mem_cons_self | with_reducible apply List.mem_cons_of_mem)) (by (try dsimp only [List.set]); repeat (first | with_reducible exact List.mem_cons_self | with_reducible apply List.mem_cons_of_mem))) ?_
    clear hs hK K
    have hs := h
    clear h
    try dsimp only [List.set] at hs
    try go_simp
    refine tree_one_yes (o := _) rfl rfl (fun K hK => ?_) (cS _ _ hs (by (try dsimp only [List.set]); repeat (first | with_reducible exact List.mem_cons_self | with_reducible apply List.mem_cons_of_mem)) (by (try dsimp only [List.set]); repeat (first | with_reducible exact List.mem_cons_self | with_reducible apply List.mem_cons_of_mem)))
    refine op_append (hs.pick (A := own (.slice A acc.length ca) 61 acc.length 4 (wsC acc)) (by repeat (first | with_reducible exact Pick.here | with_reducible apply Pick.there))) rfl Tryd.underlying22 Tryd.underlying22 info_write rfl (by omega) (k := 0) rfl rfl rfl (Has.of (A := row b11 (wC ⟨k, tx⟩) 61) (by (try dsimp only [List.set]); repeat (first | with_reducible exact List.mem_cons_self | with_reducible apply List.mem_cons_of_mem)) fun F hF => own_sliceAt F (own_exact (n := 1) (sz := 4) rfl (by omega) F hF)) (by simp [wC, Value.oneCell']) (by omega) (by omega) fun v12 w2 h => hK _ _ (cS _ _ h (by (try dsimp only [List.set]); repeat (first | with_reducible exact List.mem_cons_self | with_reducible apply List.mem_cons_of_mem)) (by (try dsimp only [List.set]); repeat (first | with_reducible exact List.mem_cons_self | with_reducible apply List.mem_cons_of_mem))) ?_
    clear hs hK K
    have hs := h
    clear h
    try dsimp only [List.set] at hs
    obtain ⟨A12, c12, rfl, _, _⟩ := own_slice hs (i := 0) rfl
    try go_simp
    repeat (first
      | (with_reducible refine tree_load_agg (o := ⟨some 7, .load _ _, _, _, _, _⟩) [Value.int .i64 k.kind, .int .i64 k.a, .int .i64 k.b] rfl rfl rfl rfl ?_ ?_ d7 ?_; (kernel_rfl); (kernel_rfl))
      | (with_reducible refine tree_load (o := ⟨some 8, .load _ _, _, _, _, _⟩) rfl rfl rfl rfl rfl d8 ?_)
      | (refine tree_take rfl (fun K hK => ?_); go_simp; (first | with_reducible refine hK _ ?_ | (rw [if_neg (by decide)]; with_reducible refine hK _ ?_)); clear hK K))
    refine tree_one_yes (o := _) rfl rfl (fun K hK => ?_) (cS _ _ hs (by (try dsimp only [List.set]); repeat (first | with_reducible exact List.mem_cons_self | with_reducible apply List.mem_cons_of_mem)) (by (try dsimp only [List.set]); repeat (first | with_reducible exact List.mem_cons_self | with_reducible apply List.mem_cons_of_mem)))
    refine op_store (hs.pick (A := row bc [.int .i64 ts, .slice A acc.length ca] 24) (by repeat (first | with_reducible exact Pick.here | with_reducible apply Pick.there))) rfl (b := bc) (i := 1) (v := .slice A12 (acc.length + 1) c12) rfl rfl rfl (by kernel_rfl) (k := 0) rfl (by simp) fun w7 h => hK _ _ (cS _ _ h (by (try dsimp only [List.set]); repeat (first | with_reducible exact List.mem_cons_self | with_reducible apply List.mem_cons_of_mem)) (by (try dsimp only [List.set]); repeat (first | with_reducible exact List.mem_cons_self | with_reducible apply List.mem_cons_of_mem))) ?_
    clear hs hK K
    have hs := h
    clear h
    try dsimp only [List.set] at hs
    try go_simp
    refine tree_done ?_
    clear hq
    go_wp2_with fail
    refine bodyPost_end (results_none rfl _ _ _) rfl ⟨.slice A12 (acc.length + 1) c12, rfl, ?_⟩
    rw [show (acc ++ [(⟨k, tx⟩ : RWr)]).length = acc.length + 1 by simp, wsC_snoc]
    exact hs.pack (L := row bp [.pointer (some ⟨r, 0, none⟩)] 72 :: row r (rdC s2) 74 :: row bc [.int .i64 ts, .slice A12 (acc.length + 1) c12] 24 :: own (.slice A12 (acc.length + 1) c12) 61 (acc.length + 1) 4 (wsC acc ++ wC ⟨k, tx⟩) :: M) (by repeat (first | with_reducible exact Pack.refl | with_reducible exact Pack.nil | with_reducible refine Pack.cons (by repeat (first | with_reducible exact Pick.here | with_reducible apply Pick.there)) ?_ | with_reducible apply Pack.drop))
  · try go_simp
    go_at_call 36
    refine (HT.out _ _ (hs.pick (A := row r (rdC s1) 74) (by repeat (first | with_reducible exact Pick.here | with_reducible apply Pick.there))) (by (try dsimp only [List.set]); repeat (first | exact hold | apply List.mem_cons_of_mem))).mono ?_
    clear hs
    rintro e w5 ⟨rfl, hs⟩
    try go_simp
    refine hK _ _ (cS _ _ hs (by (try dsimp only [List.set]); repeat (first | with_reducible exact List.mem_cons_self | with_reducible apply List.mem_cons_of_mem)) (by (try dsimp only [List.set]); repeat (first | with_reducible exact List.mem_cons_self | with_reducible apply List.mem_cons_of_mem))) ?_
    clear hK K
    repeat (first
      | (with_reducible refine tree_load_agg (o := ⟨some 7, .load _ _, _, _, _, _⟩) [Value.int .i64 k.kind, .int .i64 k.a, .int .i64 k.b] rfl rfl rfl rfl ?_ ?_ d7 ?_; (kernel_rfl); (kernel_rfl))
      | (with_reducible refine tree_load (o := ⟨some 8, .load _ _, _, _, _, _⟩) rfl rfl rfl rfl rfl d8 ?_)
      | (refine tree_take rfl (fun K hK => ?_); go_simp; (first | with_reducible refine hK _ ?_ | (rw [if_neg (by decide)]; with_reducible refine hK _ ?_)); clear hK K))
    refine tree_all (trees_cons_yes (o := _) rfl rfl (fun K hK => ?_) (cS _ _ hs (by (try dsimp only [List.set]); repeat (first | with_reducible exact List.mem_cons_self | with_reducible apply List.mem_cons_of_mem)) (by (try dsimp only [List.set]); repeat (first | with_reducible exact List.mem_cons_self | with_reducible apply List.mem_cons_of_mem))) (trees_cons_yes (o := _) rfl rfl (fun K hK => ?_) (cS _ _ hs (by (try dsimp only [List.set]); repeat (first | with_reducible exact List.mem_cons_self | with_reducible apply List.mem_cons_of_mem)) (by (try dsimp only [List.set]); repeat (first | with_reducible exact List.mem_cons_self | with_reducible apply List.mem_cons_of_mem))) trees_nil))
    · refine op_load rfl (ad := ⟨bc, 1, none⟩) rfl (by kernel_rfl) (hs.cell (l := [.int .i64 ts, .slice A acc.length ca]) (t := 24) (by (try dsimp only [List.set]); repeat (first | with_reducible exact List.mem_cons_self | with_reducible apply List.mem_cons_of_mem)) rfl) (hK _ _ (cS _ _ hs (by (try dsimp only [List.set]); repeat (first | with_reducible exact List.mem_cons_self | with_reducible apply List.mem_cons_of_mem)) (by (try dsimp only [List.set]); repeat (first | with_reducible exact List.mem_cons_self | with_reducible apply List.mem_cons_of_mem))) ?_)
      clear hK K
      try go_simp
      refine tree_one_yes (o := _) rfl rfl (fun K hK => ?_) (cS _ _ hs (by (try dsimp only [List.set]); repeat (first | with_reducible exact List.mem_cons_self | with_reducible apply List.mem_cons_of_mem)) (by (try dsimp only [List.set]); repeat (first | with_reducible exact List.mem_cons_self | with_reducible apply List.mem_cons_of_mem)))
      refine op_lit_agg1 hs rfl Tryd.underlying22 info_write (wC ⟨k, tx⟩) rfl rfl (by omega) (by omega) fun b11 w1 h => hK _ _ (cS _ _ h (by (try dsimp only [List.set]); repeat (first | with_reducible exact List.mem_cons_self | with_reducible apply List.mem_cons_of_mem)) (by (try dsimp only [List.set]); repeat (first | with_reducible exact List.mem_cons_self | with_reducible apply List.mem_cons_of_mem))) ?_
      clear hs hK K
      have hs := h
      clear h
      try dsimp only [List.set] at hs
      try go_simp
      refine tree_one_yes (o := _) rfl rfl (fun K hK => ?_) (cS _ _ hs (by (try dsimp only [List.set]); repeat (first | with_reducible exact List.mem_cons_self | with_reducible apply List.mem_cons_of_mem)) (by (try dsimp only [List.set]); repeat (first | with_reducible exact List.mem_cons_self | with_reducible apply List.mem_cons_of_mem)))
      refine op_append (hs.pick (A := own (.slice A acc.length ca) 61 acc.length 4 (wsC acc)) (by repeat (first | with_reducible exact Pick.here | with_reducible apply Pick.there))) rfl Tryd.underlying22 Tryd.underlying22 info_write rfl (by omega) (k := 0) rfl rfl rfl (Has.of (A := row b11 (wC ⟨k, tx⟩) 61) (by (try dsimp only [List.set]); repeat (first | with_reducible exact List.mem_cons_self | with_reducible apply List.mem_cons_of_mem)) fun F hF => own_sliceAt F (own_exact (n := 1) (sz := 4) rfl (by omega) F hF)) (by simp [wC, Value.oneCell']) (by omega) (by omega) fun v12 w2 h => hK _ _ (cS _ _ h (by (try dsimp only [List.set]); repeat (first | with_reducible exact List.mem_cons_self | with_reducible apply List.mem_cons_of_mem)) (by (try dsimp only [List.set]); repeat (first | with_reducible exact List.mem_cons_self | with_reducible apply List.mem_cons_of_mem))) ?_
      clear hs hK K
      have hs := h
      clear h
      try dsimp only [List.set] at hs
      obtain ⟨A12, c12, rfl, _, _⟩ := own_slice hs (i := 0) rfl
      try go_simp
      repeat (first
        | (with_reducible refine tree_load_agg (o := ⟨some 7, .load _ _, _, _, _, _⟩) [Value.int .i64 k.kind, .int .i64 k.a, .int .i64 k.b] rfl rfl rfl rfl ?_ ?_ d7 ?_; (kernel_rfl); (kernel_rfl))
        | (with_reducible refine tree_load (o := ⟨some 8, .load _ _, _, _, _, _⟩) rfl rfl rfl rfl rfl d8 ?_)
        | (refine tree_take rfl (fun K hK => ?_); go_simp; (first | with_reducible refine hK _ ?_ | (rw [if_neg (by decide)]; with_reducible refine hK _ ?_)); clear hK K))
      refine tree_one_yes (o := _) rfl rfl (fun K hK => ?_) (cS _ _ hs (by (try dsimp only [List.set]); repeat (first | with_reducible exact List.mem_cons_self | with_reducible apply List.mem_cons_of_mem)) (by (try dsimp only [List.set]); repeat (first | with_reducible exact List.mem_cons_self | with_reducible apply List.mem_cons_of_mem)))
      refine op_store (hs.pick (A := row bc [.int .i64 ts, .slice A acc.length ca] 24) (by repeat (first | with_reducible exact Pick.here | with_reducible apply Pick.there))) rfl (b := bc) (i := 1) (v := .slice A12 (acc.length + 1) c12) rfl rfl rfl (by kernel_rfl) (k := 0) rfl (by simp) fun w7 h => hK _ _ (cS _ _ h (by (try dsimp only [List.set]); repeat (first | with_reducible exact List.mem_cons_self | with_reducible apply List.mem_cons_of_mem)) (by (try dsimp only [List.set]); repeat (first | with_reducible exact List.mem_cons_self | with_reducible apply List.mem_cons_of_mem))) ?_
      clear hs hK K
      have hs := h
      clear h
      try dsimp only [List.set] at hs
      try go_simp
      refine tree_done ?_
      clear hq
      go_wp2_with fail
      refine bodyPost_end (results_none rfl _ _ _) rfl ⟨.slice A12 (acc.length + 1) c12, rfl, ?_⟩
      rw [show (acc ++ [(⟨k, tx⟩ : RWr)]).length = acc.length + 1 by simp, wsC_snoc]
      exact hs.pack (L := row bp [.pointer (some ⟨r, 0, none⟩)] 72 :: row r (rdC s2) 74 :: row bc [.int .i64 ts, .slice A12 (acc.length + 1) c12] 24 :: own (.slice A12 (acc.length + 1) c12) 61 (acc.length + 1) 4 (wsC acc ++ wC ⟨k, tx⟩) :: M) (by repeat (first | with_reducible exact Pack.refl | with_reducible exact Pack.nil | with_reducible refine Pack.cons (by repeat (first | with_reducible exact Pick.here | with_reducible apply Pick.there)) ?_ | with_reducible apply Pack.drop))
    · refine op_lit_agg1 hs rfl Tryd.underlying22 info_write (wC ⟨k, tx⟩) rfl rfl (by omega) (by omega) fun b11 w1 h => hK _ _ (cS _ _ h (by (try dsimp only [List.set]); repeat (first | with_reducible exact List.mem_cons_self | with_reducible apply List.mem_cons_of_mem)) (by (try dsimp only [List.set]); repeat (first | with_reducible exact List.mem_cons_self | with_reducible apply List.mem_cons_of_mem))) ?_
      clear hs hK K
      have hs := h
      clear h
      try dsimp only [List.set] at hs
      try go_simp
      refine tree_one_yes (o := _) rfl rfl (fun K hK => ?_) (cS _ _ hs (by (try dsimp only [List.set]); repeat (first | with_reducible exact List.mem_cons_self | with_reducible apply List.mem_cons_of_mem)) (by (try dsimp only [List.set]); repeat (first | with_reducible exact List.mem_cons_self | with_reducible apply List.mem_cons_of_mem)))
      refine op_load rfl (ad := ⟨bc, 1, none⟩) rfl (by kernel_rfl) (hs.cell (l := [.int .i64 ts, .slice A acc.length ca]) (t := 24) (by (try dsimp only [List.set]); repeat (first | with_reducible exact List.mem_cons_self | with_reducible apply List.mem_cons_of_mem)) rfl) (hK _ _ (cS _ _ hs (by (try dsimp only [List.set]); repeat (first | with_reducible exact List.mem_cons_self | with_reducible apply List.mem_cons_of_mem)) (by (try dsimp only [List.set]); repeat (first | with_reducible exact List.mem_cons_self | with_reducible apply List.mem_cons_of_mem))) ?_)
      clear hK K
      try go_simp
      refine tree_one_yes (o := _) rfl rfl (fun K hK => ?_) (cS _ _ hs (by (try dsimp only [List.set]); repeat (first | with_reducible exact List.mem_cons_self | with_reducible apply List.mem_cons_of_mem)) (by (try dsimp only [List.set]); repeat (first | with_reducible exact List.mem_cons_self | with_reducible apply List.mem_cons_of_mem)))
      refine op_append (hs.pick (A := own (.slice A acc.length ca) 61 acc.length 4 (wsC acc)) (by repeat (first | with_reducible exact Pick.here | with_reducible apply Pick.there))) rfl Tryd.underlying22 Tryd.underlying22 info_write rfl (by omega) (k := 0) rfl rfl rfl (Has.of (A := row b11 (wC ⟨k, tx⟩) 61) (by (try dsimp only [List.set]); repeat (first | with_reducible exact List.mem_cons_self | with_reducible apply List.mem_cons_of_mem)) fun F hF => own_sliceAt F (own_exact (n := 1) (sz := 4) rfl (by omega) F hF)) (by simp [wC, Value.oneCell']) (by omega) (by omega) fun v12 w2 h => hK _ _ (cS _ _ h (by (try dsimp only [List.set]); repeat (first | with_reducible exact List.mem_cons_self | with_reducible apply List.mem_cons_of_mem)) (by (try dsimp only [List.set]); repeat (first | with_reducible exact List.mem_cons_self | with_reducible apply List.mem_cons_of_mem))) ?_
      clear hs hK K
      have hs := h
      clear h
      try dsimp only [List.set] at hs
      obtain ⟨A12, c12, rfl, _, _⟩ := own_slice hs (i := 0) rfl
      try go_simp
      repeat (first
        | (with_reducible refine tree_load_agg (o := ⟨some 7, .load _ _, _, _, _, _⟩) [Value.int .i64 k.kind, .int .i64 k.a, .int .i64 k.b] rfl rfl rfl rfl ?_ ?_ d7 ?_; (kernel_rfl); (kernel_rfl))
        | (with_reducible refine tree_load (o := ⟨some 8, .load _ _, _, _, _, _⟩) rfl rfl rfl rfl rfl d8 ?_)
        | (refine tree_take rfl (fun K hK => ?_); go_simp; (first | with_reducible refine hK _ ?_ | (rw [if_neg (by decide)]; with_reducible refine hK _ ?_)); clear hK K))
      refine tree_one_yes (o := _) rfl rfl (fun K hK => ?_) (cS _ _ hs (by (try dsimp only [List.set]); repeat (first | with_reducible exact List.mem_cons_self | with_reducible apply List.mem_cons_of_mem)) (by (try dsimp only [List.set]); repeat (first | with_reducible exact List.mem_cons_self | with_reducible apply List.mem_cons_of_mem)))
      refine op_store (hs.pick (A := row bc [.int .i64 ts, .slice A acc.length ca] 24) (by repeat (first | with_reducible exact Pick.here | with_reducible apply Pick.there))) rfl (b := bc) (i := 1) (v := .slice A12 (acc.length + 1) c12) rfl rfl rfl (by kernel_rfl) (k := 0) rfl (by simp) fun w7 h => hK _ _ (cS _ _ h (by (try dsimp only [List.set]); repeat (first | with_reducible exact List.mem_cons_self | with_reducible apply List.mem_cons_of_mem)) (by (try dsimp only [List.set]); repeat (first | with_reducible exact List.mem_cons_self | with_reducible apply List.mem_cons_of_mem))) ?_
      clear hs hK K
      have hs := h
      clear h
      try dsimp only [List.set] at hs
      try go_simp
      refine tree_done ?_
      clear hq
      go_wp2_with fail
      refine bodyPost_end (results_none rfl _ _ _) rfl ⟨.slice A12 (acc.length + 1) c12, rfl, ?_⟩
      rw [show (acc ++ [(⟨k, tx⟩ : RWr)]).length = acc.length + 1 by simp, wsC_snoc]
      exact hs.pack (L := row bp [.pointer (some ⟨r, 0, none⟩)] 72 :: row r (rdC s2) 74 :: row bc [.int .i64 ts, .slice A12 (acc.length + 1) c12] 24 :: own (.slice A12 (acc.length + 1) c12) 61 (acc.length + 1) 4 (wsC acc ++ wC ⟨k, tx⟩) :: M) (by repeat (first | with_reducible exact Pack.refl | with_reducible exact Pack.nil | with_reducible refine Pack.cons (by repeat (first | with_reducible exact Pick.here | with_reducible apply Pick.there)) ?_ | with_reducible apply Pack.drop))
set_option maxRecDepth 100000 in
set_option maxHeartbeats 8000000 in
theorem all1_spec (W w : World) (M : List HP) (bp r bc : Nat) (s : Rd) (ts : Int) (v : Value) (acc : List RWr) (hs : Sat W w (row bp [.pointer (some ⟨r, 0, none⟩)] 72 :: row r (rdC s) 74 :: row bc [.int .i64 ts, v] 24 :: own v 61 acc.length 4 (wsC acc) :: M)) (hold : old W ∈ M) (hm : maxLenIs W) (hl : s.rest.length ≤ 1073741824) (hacc : acc.length = 0) :
    Calls Tryd.prog 33 #[.pointer (some ⟨r, 0, none⟩), .func (.func 34) #[] #[.pointer (some ⟨bp, 0, none⟩), .pointer (some ⟨bc, 0, none⟩)]] w (take1Post bp r bc (rdWs s.num.1 s.num.2 acc).1 ts (rdWs s.num.1 s.num.2 acc).2 W M) := by
  have hnl := s.num_len
  have HN := Box.mk (fun w (L : List HP) hs => fromN_spec W w L r s hs hl)
  have hn : s.num.1 < 4294967296 := tnA_lt _
  generalize s.num = x1 at HN hnl hn ⊢
  obtain ⟨n, s1⟩ := x1
  dsimp only at HN hnl hn ⊢
  obtain ⟨X, hX⟩ : ∃ X, rdWs n s1 acc = X := ⟨_, rfl⟩
  rw [hX]
  have HX := Box.mk hX
  have HM := Box.mk hm
  clear hX hm
  go_enter Tryd.func33, Tryd.ntmps33
  go_wp2_with (first
    | (go_at_call 62; go_must (refine (HN.out _ _ (hs.pick (A := row r (rdC s) 74) (by repeat (first | with_reducible exact Pick.here | with_reducible apply Pick.there)))).mono ?_); clear hs; rintro e w1 ⟨rfl, hs⟩))
  go_loopw [6] (fun v6 wr => ∃ (i : Nat) (s' : Rd) (acc' : List RWr) (v' : Value), i ≤ n ∧ v6 = .int .u32 (i : Nat) ∧ acc'.length ≤ i ∧ s'.rest.length ≤ 1073741824 ∧ Box (rdWs (n - i) s' acc' = X) ∧ Sat W wr (row bp [.pointer (some ⟨r, 0, none⟩)] 72 :: row r (rdC s') 74 :: row bc [.int .i64 ts, v'] 24 :: own v' 61 acc'.length 4 (wsC acc') :: M)) (fun v6 _ => n - (intOf v6).toNat)
  case atStart => exact ⟨0, s1, acc, v, by omega, rfl, by omega, by omega, HX, hs.pack (by repeat (first | with_reducible exact Pack.refl | with_reducible exact Pack.nil | with_reducible refine Pack.cons (by repeat (first | with_reducible exact Pick.here | with_reducible apply Pick.there)) ?_ | with_reducible apply Pack.drop))⟩
  case round =>
    clear hs
    obtain ⟨i, s', acc', v', hi, rfl, hal, hrl, hgo, hs⟩ := hrel
    by_cases hlt : i < n
    · have hltI : (i : Int) < (n : Int) := by omega
      have hwi : IntKind.u32.wrap ((i : Int) + 1) = (i : Int) + 1 := by rw [IntKind.wrap_u32]; omega
      obtain ⟨k, hk⟩ : ∃ k, n - i = k + 1 := ⟨n - i - 1, by omega⟩
      have hk2 : n - (i + 1) = k := by omega
      have hg := hgo.out
      rw [hk, rdWs] at hg
      obtain ⟨rest, bad⟩ := s'
      dsimp only at hg hrl
      cases bad with
      | true =>
        rw [if_pos rfl] at hg
        subst hg
        clear hgo
        go_wp2_with (first
          | (guard_target = wpList _ _ _ (⟨some 11, .load _ _, _, _, _, _⟩ :: _) _ _; refine wpl (o := ⟨some 11, .load _ _, _, _, _, _⟩) rfl fun K hK => op_load rfl (ad := ⟨r, 1, none⟩) rfl (by kernel_rfl) (hs.cell (l := rdC ⟨rest, true⟩) (t := 74) (by (try dsimp only [List.set]); repeat (first | with_reducible exact List.mem_cons_self | with_reducible apply List.mem_cons_of_mem)) rfl) (hK _ _ ?_); clear hK K))
        refine bodyPost_ret (results_none rfl _ _ _) rfl ⟨v', rfl, hs⟩
      | false =>
        rw [if_neg (by simp)] at hg
        have h1 := (⟨rest, false⟩ : Rd).key_len
        have h2 := ((⟨rest, false⟩ : Rd).key.2.text_len).1
        have HC := Box.mk (fun w (M : List HP) hs ho => take1_spec W w M bp r bc ⟨rest, false⟩ ts v' acc' hs ho HM.out hrl (by omega))
        have hrl2 : ((⟨rest, false⟩ : Rd).key.2.text.2).rest.length ≤ 1073741824 := by dsimp only at h1; omega
        have HG := Box.mk hg
        clear hg h1 h2 hgo
        generalize (⟨rest, false⟩ : Rd).key.2.text.2 = s2 at HC hrl2 HG
        generalize hx2 : (⟨(⟨rest, false⟩ : Rd).key.1, (⟨rest, false⟩ : Rd).key.2.text.1⟩ : RWr) = xx at HC HG
        clear hx2
        go_wp2_with (first
          | (guard_target = wpList _ _ _ (⟨some 11, .load _ _, _, _, _, _⟩ :: _) _ _; refine wpl (o := ⟨some 11, .load _ _, _, _, _, _⟩) rfl fun K hK => op_load rfl (ad := ⟨r, 1, none⟩) rfl (by kernel_rfl) (hs.cell (l := rdC ⟨rest, false⟩) (t := 74) (by (try dsimp only [List.set]); repeat (first | with_reducible exact List.mem_cons_self | with_reducible apply List.mem_cons_of_mem)) rfl) (hK _ _ ?_); clear hK K)
          | (go_at_call 34; go_must (refine (HC.out _ _ hs (by (try dsimp only [List.set]); repeat (first | exact hold | apply List.mem_cons_of_mem))).mono ?_); clear hs; rintro e w1 ⟨v2, rfl, hs⟩))
        exact ⟨⟨i + 1, s2, acc' ++ [xx], v2, by omega, by go_num, by simp; omega, hrl2, ⟨by rw [hk2]; exact HG.out⟩, hs⟩, by simp only [intOf]; omega⟩
    · have hltI : ¬ (i : Int) < (n : Int) := by omega
      have hg := hgo.out
      rw [show n - i = 0 by omega] at hg
      unfold rdWs at hg
      subst hg
      clear hgo
      go_wp2_with fail
      refine bodyPost_end (results_none rfl _ _ _) rfl ⟨v', rfl, hs⟩
end Go.Proofs.YthjnefpnnifjiaaDoor
