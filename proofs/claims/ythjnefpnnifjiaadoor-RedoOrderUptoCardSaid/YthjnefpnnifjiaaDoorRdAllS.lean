/- The contracts of TakeState's closure, and of all over it. -/
import Derived.Test.YthjnefpnnifjiaaDoorRdTake
set_option linter.unusedVariables false
set_option linter.unusedSimpArgs false
namespace Go.Proofs.YthjnefpnnifjiaaDoor
open Go.RowKit
def Rd.chk (s : Rd) (ts last : Int) : Rd := ⟨s.rest, (s.bad || decide (ts < 0)) || decide (last < ts)⟩
def Rd.cell (s : Rd) (last : Int) : RCl × Rd := (⟨s.key.1, s.key.2.int.1, (s.key.2.int.2.chk s.key.2.int.1 last).text.1⟩, (s.key.2.int.2.chk s.key.2.int.1 last).text.2)
def rdCs (last : Int) : Nat → Rd → List RCl → Rd × List RCl
  | 0, s, acc => (s, acc)
  | n + 1, s, acc => if s.bad then (s, acc) else rdCs last n (s.cell last).2 (acc ++ [(s.cell last).1])
theorem rdCs_len (last : Int) : ∀ (n : Nat) (s : Rd) (acc : List RCl), (rdCs last n s acc).2.length ≤ n + acc.length
  | 0, s, acc => by simp [rdCs]
  | n + 1, s, acc => by
    rw [rdCs]
    split
    · first | (simp; done) | (simp; omega)
    · have := rdCs_len last n (s.cell last).2 (acc ++ [(s.cell last).1])
      simp at this; omega
theorem Rd.cell_len (s : Rd) (last : Int) : (s.cell last).2.rest.length ≤ s.rest.length := by
  have h1 := s.key_len
  have h2 := s.key.2.int_len
  have h3 := (s.key.2.int.2.chk s.key.2.int.1 last).text_len
  have h4 : (s.key.2.int.2.chk s.key.2.int.1 last).rest.length = s.key.2.int.2.rest.length := rfl
  show (s.key.2.int.2.chk s.key.2.int.1 last).text.2.rest.length ≤ _
  omega
def stRow (last : Int) (ep lo : Nat) (v : Value) : List Value := [.int .i64 last, .int .u32 (ep : Nat), .int .u32 (lo : Nat), v]
def t2S (bp r bc : Nat) (last : Int) (w : World) : Prop := w.cell? ⟨bp, 0, none⟩ = some (.pointer (some ⟨r, 0, none⟩)) ∧ w.cell? ⟨bc, 0, none⟩ = some (.int .i64 last)
def takeSPost (bp r bc : Nat) (s : Rd) (last : Int) (ep lo : Nat) (acc : List RCl) (W : World) (M : List HP) (e : Ending) (w' : World) : Prop :=
  ∃ v', e = .returned (.tuple #[]) ∧ Sat W w' (row bp [.pointer (some ⟨r, 0, none⟩)] 72 :: row r (rdC s) 74 :: row bc (stRow last ep lo v') 43 :: own v' 59 acc.length 5 (csC acc) :: M)
set_option maxRecDepth 100000 in
set_option maxHeartbeats 8000000 in
theorem takeS1_spec (W w : World) (M : List HP) (bp r bc : Nat) (s : Rd) (last : Int) (ep lo : Nat) (v : Value) (acc : List RCl) (hs : Sat W w (row bp [.pointer (some ⟨r, 0, none⟩)] 72 :: row r (rdC s) 74 :: row bc (stRow last ep lo v) 43 :: own v 59 acc.length 5 (csC acc) :: M)) (hold : old W ∈ M) (hm : maxLenIs W) (hl : s.rest.length ≤ 1073741824) (hacc : acc.length ≤ 4294967296) :
    Calls Tryd.prog 64 #[.pointer (some ⟨bp, 0, none⟩), .pointer (some ⟨bc, 0, none⟩)] w (takeSPost bp r bc (s.cell last).2 last ep lo (acc ++ [(s.cell last).1]) W M) := by
  obtain ⟨A, ca, rfl, _, _⟩ := own_slice hs (i := 3) rfl
  have hkl := s.key_len
  have hil := s.key.2.int_len
  have HK := Box.mk (fun w (L : List HP) hs => rkey_spec W w L r s hs hl)
  have HI := Box.mk (fun w (L : List HP) hs => fromI_spec W w L r s.key.2 hs (by omega))
  have HT := Box.mk (fun w (L : List HP) hs ho => fromT_spec W w L r (s.key.2.int.2.chk s.key.2.int.1 last) hs ho hm (by show s.key.2.int.2.rest.length ≤ _; omega))
  unfold Rd.cell
  dsimp only
  generalize hc4 : (s.key.2.int.2.chk s.key.2.int.1 last) = s3 at HT ⊢
  generalize s3.text = x4 at HT ⊢
  obtain ⟨tx, s4⟩ := x4
  generalize s.key.2.int = x2 at HI hil hc4 ⊢
  obtain ⟨ts, rest2, bad2⟩ := x2
  generalize s.key = x1 at HK HI hkl hil ⊢
  obtain ⟨k, s1⟩ := x1
  dsimp only at HK HI HT hkl hc4 ⊢
  unfold Rd.chk at hc4
  dsimp only at hc4
  clear hil hkl
  clear hm
  have hz := run_zero (P := Tryd.prog) zcell
  obtain ⟨q1, hq1⟩ : ∃ q1, decide (ts < 0) = q1 := ⟨_, rfl⟩
  obtain ⟨q2, hq2⟩ : ∃ q2, decide (last < ts) = q2 := ⟨_, rfl⟩
  obtain ⟨bb, hbb⟩ : ∃ bb, ((bad2 || q1) || q2) = bb := ⟨_, rfl⟩
  rw [hq1, hq2, hbb] at hc4
  subst hc4
  have HB := Box.mk hbb
  clear hbb
  cases bad2 with
  | true =>
    have hbt : bb = true := by rw [← HB.out]; simp
    subst hbt
    clear HB hq1 hq2
    go_enter Tryd.func64, Tryd.ntmps64
    go_wp2_with (first
      | (guard_target = wpList _ _ _ (⟨some 4, .load _ _, _, _, _, _⟩ :: _) _ _; refine wpl (o := ⟨some 4, .load _ _, _, _, _, _⟩) rfl fun K hK => op_load rfl (ad := ⟨bp, 0, none⟩) rfl (by kernel_rfl) (hs.cell (l := [.pointer (some ⟨r, 0, none⟩)]) (t := 72) (by (try dsimp only [List.set]); repeat (first | with_reducible exact List.mem_cons_self | with_reducible apply List.mem_cons_of_mem)) rfl) (hK _ _ ?_); clear hK K)
      | (guard_target = wpList _ _ _ (⟨some 6, .load _ _, _, _, _, _⟩ :: _) _ _; refine wpl (o := ⟨some 6, .load _ _, _, _, _, _⟩) rfl fun K hK => op_load rfl (ad := ⟨bp, 0, none⟩) rfl (by kernel_rfl) (hs.cell (l := [.pointer (some ⟨r, 0, none⟩)]) (t := 72) (by (try dsimp only [List.set]); repeat (first | with_reducible exact List.mem_cons_self | with_reducible apply List.mem_cons_of_mem)) rfl) (hK _ _ ?_); clear hK K)
      | (go_at_call 35; go_must (refine (HK.out _ _ (hs.pick (A := row r (rdC s) 74) (by repeat (first | with_reducible exact Pick.here | with_reducible apply Pick.there)))).mono ?_); clear hs; rintro e w1 ⟨rfl, hs⟩)
      | (guard_target = wpList _ _ _ (⟨some 2, .alloc _, _, _, _, _⟩ :: _) _ _; refine wpl (o := ⟨some 2, .alloc _, _, _, _, _⟩) rfl fun K hK => ?_; go_must (refine op_alloc hs rfl _ zkey [Value.int .i64 0, .int .i64 0, .int .i64 0] rfl fun b2 w1 h => hK _ _ ?_); clear hs hK K; have hs := h; clear h; try dsimp only [List.set] at hs)
      | (guard_target = wpList _ _ _ (⟨none, .store _ (.tmp 2) _, _, _, _, _⟩ :: _) _ _; refine wpl (o := ⟨none, .store _ (.tmp 2) _, _, _, _, _⟩) rfl fun K hK => ?_; go_must (refine op_store_whole (hs.pick (A := row b2 [Value.int .i64 0, .int .i64 0, .int .i64 0] 57) (by repeat (first | with_reducible exact Pick.here | with_reducible apply Pick.there))) (b := b2) rfl rfl [Value.int .i64 k.kind, .int .i64 k.a, .int .i64 k.b] rfl (by simp [Value.oneCell']) (by kernel_rfl) (k := 0) rfl rfl fun w3 h => hK _ _ ?_); clear hs hK K; have hs := h; clear h; try dsimp only [List.set] at hs)
      | (go_at_call 31; go_must (refine (HI.out _ _ (hs.pick (A := row r (rdC s1) 74) (by repeat (first | with_reducible exact Pick.here | with_reducible apply Pick.there)))).mono ?_); clear hs; rintro e w1 ⟨rfl, hs⟩; change Sat W _ (row r (rdC ⟨rest2, true⟩) 74 :: _) at hs))
    have cS0 : ∀ w M, Sat W w M → row bp [.pointer (some ⟨r, 0, none⟩)] 72 ∈ M → row bc (stRow last ep lo (.slice A acc.length ca)) 43 ∈ M → t2S bp r bc last w := fun w M h h1 h2 => ⟨h.cell h1 rfl, h.cell h2 rfl⟩
    have e8 : ∀ w, t2S bp r bc last w → w.cell? ⟨bp, 0, none⟩ = some (.pointer (some ⟨r, 0, none⟩)) := fun w h => h.1
    have e20 : ∀ w, t2S bp r bc last w → w.cell? ⟨bc, 0, none⟩ = some (.int .i64 last) := fun w h => h.2
    have hS0 := cS0 _ _ hs.drew (by (try dsimp only [List.set]); repeat (first | with_reducible exact List.mem_cons_self | with_reducible apply List.mem_cons_of_mem)) (by (try dsimp only [List.set]); repeat (first | with_reducible exact List.mem_cons_self | with_reducible apply List.mem_cons_of_mem))
    refine wp_region_tree (t2S bp r bc last) (.take 0 (.take 1 (.take 2 (.take 3 (.all [(4, .take 5 (.take 6 (.take 7 (.take 8 (.take 9 (.take 10 (.take 11 (.take 12 (.take 13 (.take 14 (.take 15 (.take 16 (.all [(17, DTree.done)])))))))))))))]))))) (by kernel_rfl) (by kernel_rfl) (by kernel_rfl) (fun _ _ d _ _ h => by cases d <;> exact h) hS0 ?_
    have hs' := hs.drew
    clear hs
    have hs := hs'
    clear hs'
    have hq := fun p : Prop => class_const hS0 p
    clear hS0
    repeat (first
      | (with_reducible refine tree_load (o := ⟨some 8, .load _ _, _, _, _, _⟩) rfl rfl rfl rfl rfl e8 ?_)
      | (with_reducible refine tree_load (o := ⟨some 9, .load _ _, _, _, _, _⟩) rfl rfl rfl rfl rfl e8 ?_)
      | (with_reducible refine tree_load (o := ⟨some 20, .load _ _, _, _, _, _⟩) rfl rfl rfl rfl rfl e20 ?_)
      | (refine tree_take rfl (fun K hK => ?_); go_simp; (first | with_reducible refine hK _ ?_ | (rw [if_neg (by decide)]; with_reducible refine hK _ ?_)); clear hK K))
    refine tree_one_yes (o := _) rfl rfl (fun K hK => ?_) (cS0 _ _ hs (by (try dsimp only [List.set]); repeat (first | with_reducible exact List.mem_cons_self | with_reducible apply List.mem_cons_of_mem)) (by (try dsimp only [List.set]); repeat (first | with_reducible exact List.mem_cons_self | with_reducible apply List.mem_cons_of_mem)))
    refine op_load rfl (ad := ⟨r, 1, none⟩) rfl (by kernel_rfl) (hs.cell (l := rdC ⟨rest2, true⟩) (t := 74) (by (try dsimp only [List.set]); repeat (first | with_reducible exact List.mem_cons_self | with_reducible apply List.mem_cons_of_mem)) rfl) (hK _ _ (cS0 _ _ hs (by (try dsimp only [List.set]); repeat (first | with_reducible exact List.mem_cons_self | with_reducible apply List.mem_cons_of_mem)) (by (try dsimp only [List.set]); repeat (first | with_reducible exact List.mem_cons_self | with_reducible apply List.mem_cons_of_mem))) ?_)
    clear hK K
    try go_simp
    repeat (first
      | (with_reducible refine tree_load (o := ⟨some 8, .load _ _, _, _, _, _⟩) rfl rfl rfl rfl rfl e8 ?_)
      | (with_reducible refine tree_load (o := ⟨some 9, .load _ _, _, _, _, _⟩) rfl rfl rfl rfl rfl e8 ?_)
      | (with_reducible refine tree_load (o := ⟨some 20, .load _ _, _, _, _, _⟩) rfl rfl rfl rfl rfl e20 ?_)
      | (refine tree_take rfl (fun K hK => ?_); go_simp; (first | with_reducible refine hK _ ?_ | (rw [if_neg (by decide)]; with_reducible refine hK _ ?_)); clear hK K))
    refine tree_one_yes (o := _) rfl rfl (fun K hK => ?_) (cS0 _ _ hs (by (try dsimp only [List.set]); repeat (first | with_reducible exact List.mem_cons_self | with_reducible apply List.mem_cons_of_mem)) (by (try dsimp only [List.set]); repeat (first | with_reducible exact List.mem_cons_self | with_reducible apply List.mem_cons_of_mem)))
    refine op_store (hs.pick (A := row r (rdC ⟨rest2, true⟩) 74) (by repeat (first | with_reducible exact Pick.here | with_reducible apply Pick.there))) rfl (b := r) (i := 1) (v := .bool true) rfl rfl rfl (by kernel_rfl) (k := 0) rfl (by simp [rdC]) fun w7 h => hK _ _ (cS0 _ _ h (by (try dsimp only [List.set]); repeat (first | with_reducible exact List.mem_cons_self | with_reducible apply List.mem_cons_of_mem)) (by (try dsimp only [List.set]); repeat (first | with_reducible exact List.mem_cons_self | with_reducible apply List.mem_cons_of_mem))) ?_
    clear hs hK K
    have hs := h
    clear h
    try dsimp only [List.set] at hs
    try go_simp
    refine tree_done ?_
    clear hq
    have hs1 : Sat W _ (row r (rdC ⟨rest2, true⟩) 74 :: _) := hs
    clear hs
    have hs := hs1
    clear hs1
    go_wp2_with fail
    have cS : ∀ w M, Sat W w M → row b2 [Value.int .i64 k.kind, .int .i64 k.a, .int .i64 k.b] 57 ∈ M → row bp [.pointer (some ⟨r, 0, none⟩)] 72 ∈ M → t1S b2 [Value.int .i64 k.kind, .int .i64 k.a, .int .i64 k.b] bp r w := fun w M h h1 h2 => ⟨range_whole h h1, h.cell h2 rfl⟩
    have d7 : ∀ w, t1S b2 [Value.int .i64 k.kind, .int .i64 k.a, .int .i64 k.b] bp r w → w.rangeAt b2 0 [Value.int .i64 k.kind, .int .i64 k.a, .int .i64 k.b] := fun w h => h.1
    have d8 : ∀ w, t1S b2 [Value.int .i64 k.kind, .int .i64 k.a, .int .i64 k.b] bp r w → w.cell? ⟨bp, 0, none⟩ = some (.pointer (some ⟨r, 0, none⟩)) := fun w h => h.2
    have hS0 := cS _ _ hs.drew (by (try dsimp only [List.set]); repeat (first | with_reducible exact List.mem_cons_self | with_reducible apply List.mem_cons_of_mem)) (by (try dsimp only [List.set]); repeat (first | with_reducible exact List.mem_cons_self | with_reducible apply List.mem_cons_of_mem))
    refine wp_region_tree (t1S b2 [Value.int .i64 k.kind, .int .i64 k.a, .int .i64 k.b] bp r) (.take 0 (.take 2 (.take 3 (.take 4 (.all [(1, .all [(5, .take 6 (.all [(7, .all [(8, .take 9 (.all [(10, DTree.done)]))])]))]), (5, .take 6 (.all [(1, .all [(7, .all [(8, .take 9 (.all [(10, DTree.done)]))])]), (7, .all [(1, .all [(8, .take 9 (.all [(10, DTree.done)]))])])]))]))))) (by kernel_rfl) (by kernel_rfl) (by kernel_rfl) (fun _ _ d _ _ h => by cases d <;> exact h) hS0 ?_
    have hs' := hs.drew
    clear hs
    have hs := hs'
    clear hs'
    have hq := fun p : Prop => class_const hS0 p
    clear hS0
    repeat (first
      | (with_reducible refine tree_load_agg (o := ⟨some 27, .load _ _, _, _, _, _⟩) [Value.int .i64 k.kind, .int .i64 k.a, .int .i64 k.b] rfl rfl rfl rfl ?_ ?_ d7 ?_; (kernel_rfl); (kernel_rfl))
      | (with_reducible refine tree_load (o := ⟨some 29, .load _ _, _, _, _, _⟩) rfl rfl rfl rfl rfl d8 ?_)
      | (refine tree_take rfl (fun K hK => ?_); go_simp; (first | with_reducible refine hK _ ?_ | (rw [if_neg (by decide)]; with_reducible refine hK _ ?_)); clear hK K))
    refine tree_all (trees_cons_yes (o := _) rfl rfl (fun K hK => ?_) (cS _ _ hs (by (try dsimp only [List.set]); repeat (first | with_reducible exact List.mem_cons_self | with_reducible apply List.mem_cons_of_mem)) (by (try dsimp only [List.set]); repeat (first | with_reducible exact List.mem_cons_self | with_reducible apply List.mem_cons_of_mem))) (trees_cons_yes (o := _) rfl rfl (fun K hK => ?_) (cS _ _ hs (by (try dsimp only [List.set]); repeat (first | with_reducible exact List.mem_cons_self | with_reducible apply List.mem_cons_of_mem)) (by (try dsimp only [List.set]); repeat (first | with_reducible exact List.mem_cons_self | with_reducible apply List.mem_cons_of_mem))) trees_nil))
    · refine op_load rfl (ad := ⟨bc, 3, none⟩) rfl (by kernel_rfl) (hs.cell (l := stRow last ep lo (.slice A acc.length ca)) (t := 43) (by (try dsimp only [List.set]); repeat (first | with_reducible exact List.mem_cons_self | with_reducible apply List.mem_cons_of_mem)) rfl) (hK _ _ (cS _ _ hs (by (try dsimp only [List.set]); repeat (first | with_reducible exact List.mem_cons_self | with_reducible apply List.mem_cons_of_mem)) (by (try dsimp only [List.set]); repeat (first | with_reducible exact List.mem_cons_self | with_reducible apply List.mem_cons_of_mem))) ?_)
      clear hK K
      try go_simp
      refine tree_one_yes (o := _) rfl rfl (fun K hK => ?_) (cS _ _ hs (by (try dsimp only [List.set]); repeat (first | with_reducible exact List.mem_cons_self | with_reducible apply List.mem_cons_of_mem)) (by (try dsimp only [List.set]); repeat (first | with_reducible exact List.mem_cons_self | with_reducible apply List.mem_cons_of_mem)))
      try go_simp
      go_at_call 36
      refine (HT.out _ _ (hs.pick (A := row r (rdC ⟨rest2, true⟩) 74) (by repeat (first | with_reducible exact Pick.here | with_reducible apply Pick.there))) (by (try dsimp only [List.set]); repeat (first | exact hold | apply List.mem_cons_of_mem))).mono ?_
      clear hs
      rintro e w5 ⟨rfl, hs⟩
      try go_simp
      refine hK _ _ (cS _ _ hs (by (try dsimp only [List.set]); repeat (first | with_reducible exact List.mem_cons_self | with_reducible apply List.mem_cons_of_mem)) (by (try dsimp only [List.set]); repeat (first | with_reducible exact List.mem_cons_self | with_reducible apply List.mem_cons_of_mem))) ?_
      clear hK K
      repeat (first
        | (with_reducible refine tree_load_agg (o := ⟨some 27, .load _ _, _, _, _, _⟩) [Value.int .i64 k.kind, .int .i64 k.a, .int .i64 k.b] rfl rfl rfl rfl ?_ ?_ d7 ?_; (kernel_rfl); (kernel_rfl))
        | (with_reducible refine tree_load (o := ⟨some 29, .load _ _, _, _, _, _⟩) rfl rfl rfl rfl rfl d8 ?_)
        | (refine tree_take rfl (fun K hK => ?_); go_simp; (first | with_reducible refine hK _ ?_ | (rw [if_neg (by decide)]; with_reducible refine hK _ ?_)); clear hK K))
      refine tree_one_yes (o := _) rfl rfl (fun K hK => ?_) (cS _ _ hs (by (try dsimp only [List.set]); repeat (first | with_reducible exact List.mem_cons_self | with_reducible apply List.mem_cons_of_mem)) (by (try dsimp only [List.set]); repeat (first | with_reducible exact List.mem_cons_self | with_reducible apply List.mem_cons_of_mem)))
      refine op_lit_agg1 hs rfl Tryd.underlying41 info_cell (cC ⟨k, ts, tx⟩) rfl rfl (by omega) (by omega) fun b11 w1 h => hK _ _ (cS _ _ h (by (try dsimp only [List.set]); repeat (first | with_reducible exact List.mem_cons_self | with_reducible apply List.mem_cons_of_mem)) (by (try dsimp only [List.set]); repeat (first | with_reducible exact List.mem_cons_self | with_reducible apply List.mem_cons_of_mem))) ?_
      clear hs hK K
      have hs := h
      clear h
      try dsimp only [List.set] at hs
      try go_simp
      refine tree_one_yes (o := _) rfl rfl (fun K hK => ?_) (cS _ _ hs (by (try dsimp only [List.set]); repeat (first | with_reducible exact List.mem_cons_self | with_reducible apply List.mem_cons_of_mem)) (by (try dsimp only [List.set]); repeat (first | with_reducible exact List.mem_cons_self | with_reducible apply List.mem_cons_of_mem)))
      refine op_append (hs.pick (A := own (.slice A acc.length ca) 59 acc.length 5 (csC acc)) (by repeat (first | with_reducible exact Pick.here | with_reducible apply Pick.there))) rfl Tryd.underlying41 Tryd.underlying41 info_cell rfl (by omega) (k := 0) rfl rfl rfl (Has.of (A := row b11 (cC ⟨k, ts, tx⟩) 59) (by (try dsimp only [List.set]); repeat (first | with_reducible exact List.mem_cons_self | with_reducible apply List.mem_cons_of_mem)) fun F hF => own_sliceAt F (own_exact (n := 1) (sz := 5) rfl (by omega) F hF)) (by simp [cC, Value.oneCell']) (by omega) (by omega) fun v12 w2 h => hK _ _ (cS _ _ h (by (try dsimp only [List.set]); repeat (first | with_reducible exact List.mem_cons_self | with_reducible apply List.mem_cons_of_mem)) (by (try dsimp only [List.set]); repeat (first | with_reducible exact List.mem_cons_self | with_reducible apply List.mem_cons_of_mem))) ?_
      clear hs hK K
      have hs := h
      clear h
      try dsimp only [List.set] at hs
      obtain ⟨A12, c12, rfl, _, _⟩ := own_slice hs (i := 0) rfl
      try go_simp
      repeat (first
        | (with_reducible refine tree_load_agg (o := ⟨some 27, .load _ _, _, _, _, _⟩) [Value.int .i64 k.kind, .int .i64 k.a, .int .i64 k.b] rfl rfl rfl rfl ?_ ?_ d7 ?_; (kernel_rfl); (kernel_rfl))
        | (with_reducible refine tree_load (o := ⟨some 29, .load _ _, _, _, _, _⟩) rfl rfl rfl rfl rfl d8 ?_)
        | (refine tree_take rfl (fun K hK => ?_); go_simp; (first | with_reducible refine hK _ ?_ | (rw [if_neg (by decide)]; with_reducible refine hK _ ?_)); clear hK K))
      refine tree_one_yes (o := _) rfl rfl (fun K hK => ?_) (cS _ _ hs (by (try dsimp only [List.set]); repeat (first | with_reducible exact List.mem_cons_self | with_reducible apply List.mem_cons_of_mem)) (by (try dsimp only [List.set]); repeat (first | with_reducible exact List.mem_cons_self | with_reducible apply List.mem_cons_of_mem)))
      refine op_store (hs.pick (A := row bc (stRow last ep lo (.slice A acc.length ca)) 43) (by repeat (first | with_reducible exact Pick.here | with_reducible apply Pick.there))) rfl (b := bc) (i := 3) (v := .slice A12 (acc.length + 1) c12) rfl rfl rfl (by kernel_rfl) (k := 0) rfl (by simp [stRow]) fun w7 h => hK _ _ (cS _ _ h (by (try dsimp only [List.set]); repeat (first | with_reducible exact List.mem_cons_self | with_reducible apply List.mem_cons_of_mem)) (by (try dsimp only [List.set]); repeat (first | with_reducible exact List.mem_cons_self | with_reducible apply List.mem_cons_of_mem))) ?_
      clear hs hK K
      have hs := h
      clear h
      try dsimp only [List.set] at hs
      change Sat W _ (row bc (stRow last ep lo (.slice A12 (acc.length + 1) c12)) 43 :: _) at hs
      try go_simp
      refine tree_done ?_
      clear hq
      go_wp2_with fail
      refine bodyPost_end (results_none rfl _ _ _) rfl ⟨.slice A12 (acc.length + 1) c12, rfl, ?_⟩
      rw [show (acc ++ [(⟨k, ts, tx⟩ : RCl)]).length = acc.length + 1 by simp, csC_snoc]
      exact hs.pack (L := row bp [.pointer (some ⟨r, 0, none⟩)] 72 :: row r (rdC s4) 74 :: row bc (stRow last ep lo (.slice A12 (acc.length + 1) c12)) 43 :: own (.slice A12 (acc.length + 1) c12) 59 (acc.length + 1) 5 (csC acc ++ cC ⟨k, ts, tx⟩) :: M) (by repeat (first | with_reducible exact Pack.refl | with_reducible exact Pack.nil | with_reducible refine Pack.cons (by repeat (first | with_reducible exact Pick.here | with_reducible apply Pick.there)) ?_ | with_reducible apply Pack.drop))
    · try go_simp
      go_at_call 36
      refine (HT.out _ _ (hs.pick (A := row r (rdC ⟨rest2, true⟩) 74) (by repeat (first | with_reducible exact Pick.here | with_reducible apply Pick.there))) (by (try dsimp only [List.set]); repeat (first | exact hold | apply List.mem_cons_of_mem))).mono ?_
      clear hs
      rintro e w5 ⟨rfl, hs⟩
      try go_simp
      refine hK _ _ (cS _ _ hs (by (try dsimp only [List.set]); repeat (first | with_reducible exact List.mem_cons_self | with_reducible apply List.mem_cons_of_mem)) (by (try dsimp only [List.set]); repeat (first | with_reducible exact List.mem_cons_self | with_reducible apply List.mem_cons_of_mem))) ?_
      clear hK K
      repeat (first
        | (with_reducible refine tree_load_agg (o := ⟨some 27, .load _ _, _, _, _, _⟩) [Value.int .i64 k.kind, .int .i64 k.a, .int .i64 k.b] rfl rfl rfl rfl ?_ ?_ d7 ?_; (kernel_rfl); (kernel_rfl))
        | (with_reducible refine tree_load (o := ⟨some 29, .load _ _, _, _, _, _⟩) rfl rfl rfl rfl rfl d8 ?_)
        | (refine tree_take rfl (fun K hK => ?_); go_simp; (first | with_reducible refine hK _ ?_ | (rw [if_neg (by decide)]; with_reducible refine hK _ ?_)); clear hK K))
      refine tree_all (trees_cons_yes (o := _) rfl rfl (fun K hK => ?_) (cS _ _ hs (by (try dsimp only [List.set]); repeat (first | with_reducible exact List.mem_cons_self | with_reducible apply List.mem_cons_of_mem)) (by (try dsimp only [List.set]); repeat (first | with_reducible exact List.mem_cons_self | with_reducible apply List.mem_cons_of_mem))) (trees_cons_yes (o := _) rfl rfl (fun K hK => ?_) (cS _ _ hs (by (try dsimp only [List.set]); repeat (first | with_reducible exact List.mem_cons_self | with_reducible apply List.mem_cons_of_mem)) (by (try dsimp only [List.set]); repeat (first | with_reducible exact List.mem_cons_self | with_reducible apply List.mem_cons_of_mem))) trees_nil))
      · refine op_load rfl (ad := ⟨bc, 3, none⟩) rfl (by kernel_rfl) (hs.cell (l := stRow last ep lo (.slice A acc.length ca)) (t := 43) (by (try dsimp only [List.set]); repeat (first | with_reducible exact List.mem_cons_self | with_reducible apply List.mem_cons_of_mem)) rfl) (hK _ _ (cS _ _ hs (by (try dsimp only [List.set]); repeat (first | with_reducible exact List.mem_cons_self | with_reducible apply List.mem_cons_of_mem)) (by (try dsimp only [List.set]); repeat (first | with_reducible exact List.mem_cons_self | with_reducible apply List.mem_cons_of_mem))) ?_)
        clear hK K
        try go_simp
        refine tree_one_yes (o := _) rfl rfl (fun K hK => ?_) (cS _ _ hs (by (try dsimp only [List.set]); repeat (first | with_reducible exact List.mem_cons_self | with_reducible apply List.mem_cons_of_mem)) (by (try dsimp only [List.set]); repeat (first | with_reducible exact List.mem_cons_self | with_reducible apply List.mem_cons_of_mem)))
        refine op_lit_agg1 hs rfl Tryd.underlying41 info_cell (cC ⟨k, ts, tx⟩) rfl rfl (by omega) (by omega) fun b11 w1 h => hK _ _ (cS _ _ h (by (try dsimp only [List.set]); repeat (first | with_reducible exact List.mem_cons_self | with_reducible apply List.mem_cons_of_mem)) (by (try dsimp only [List.set]); repeat (first | with_reducible exact List.mem_cons_self | with_reducible apply List.mem_cons_of_mem))) ?_
        clear hs hK K
        have hs := h
        clear h
        try dsimp only [List.set] at hs
        try go_simp
        refine tree_one_yes (o := _) rfl rfl (fun K hK => ?_) (cS _ _ hs (by (try dsimp only [List.set]); repeat (first | with_reducible exact List.mem_cons_self | with_reducible apply List.mem_cons_of_mem)) (by (try dsimp only [List.set]); repeat (first | with_reducible exact List.mem_cons_self | with_reducible apply List.mem_cons_of_mem)))
        refine op_append (hs.pick (A := own (.slice A acc.length ca) 59 acc.length 5 (csC acc)) (by repeat (first | with_reducible exact Pick.here | with_reducible apply Pick.there))) rfl Tryd.underlying41 Tryd.underlying41 info_cell rfl (by omega) (k := 0) rfl rfl rfl (Has.of (A := row b11 (cC ⟨k, ts, tx⟩) 59) (by (try dsimp only [List.set]); repeat (first | with_reducible exact List.mem_cons_self | with_reducible apply List.mem_cons_of_mem)) fun F hF => own_sliceAt F (own_exact (n := 1) (sz := 5) rfl (by omega) F hF)) (by simp [cC, Value.oneCell']) (by omega) (by omega) fun v12 w2 h => hK _ _ (cS _ _ h (by (try dsimp only [List.set]); repeat (first | with_reducible exact List.mem_cons_self | with_reducible apply List.mem_cons_of_mem)) (by (try dsimp only [List.set]); repeat (first | with_reducible exact List.mem_cons_self | with_reducible apply List.mem_cons_of_mem))) ?_
        clear hs hK K
        have hs := h
        clear h
        try dsimp only [List.set] at hs
        obtain ⟨A12, c12, rfl, _, _⟩ := own_slice hs (i := 0) rfl
        try go_simp
        repeat (first
          | (with_reducible refine tree_load_agg (o := ⟨some 27, .load _ _, _, _, _, _⟩) [Value.int .i64 k.kind, .int .i64 k.a, .int .i64 k.b] rfl rfl rfl rfl ?_ ?_ d7 ?_; (kernel_rfl); (kernel_rfl))
          | (with_reducible refine tree_load (o := ⟨some 29, .load _ _, _, _, _, _⟩) rfl rfl rfl rfl rfl d8 ?_)
          | (refine tree_take rfl (fun K hK => ?_); go_simp; (first | with_reducible refine hK _ ?_ | (rw [if_neg (by decide)]; with_reducible refine hK _ ?_)); clear hK K))
        refine tree_one_yes (o := _) rfl rfl (fun K hK => ?_) (cS _ _ hs (by (try dsimp only [List.set]); repeat (first | with_reducible exact List.mem_cons_self | with_reducible apply List.mem_cons_of_mem)) (by (try dsimp only [List.set]); repeat (first | with_reducible exact List.mem_cons_self | with_reducible apply List.mem_cons_of_mem)))
        refine op_store (hs.pick (A := row bc (stRow last ep lo (.slice A acc.length ca)) 43) (by repeat (first | with_reducible exact Pick.here | with_reducible apply Pick.there))) rfl (b := bc) (i := 3) (v := .slice A12 (acc.length + 1) c12) rfl rfl rfl (by kernel_rfl) (k := 0) rfl (by simp [stRow]) fun w7 h => hK _ _ (cS _ _ h (by (try dsimp only [List.set]); repeat (first | with_reducible exact List.mem_cons_self | with_reducible apply List.mem_cons_of_mem)) (by (try dsimp only [List.set]); repeat (first | with_reducible exact List.mem_cons_self | with_reducible apply List.mem_cons_of_mem))) ?_
        clear hs hK K
        have hs := h
        clear h
        try dsimp only [List.set] at hs
        change Sat W _ (row bc (stRow last ep lo (.slice A12 (acc.length + 1) c12)) 43 :: _) at hs
        try go_simp
        refine tree_done ?_
        clear hq
        go_wp2_with fail
        refine bodyPost_end (results_none rfl _ _ _) rfl ⟨.slice A12 (acc.length + 1) c12, rfl, ?_⟩
        rw [show (acc ++ [(⟨k, ts, tx⟩ : RCl)]).length = acc.length + 1 by simp, csC_snoc]
        exact hs.pack (L := row bp [.pointer (some ⟨r, 0, none⟩)] 72 :: row r (rdC s4) 74 :: row bc (stRow last ep lo (.slice A12 (acc.length + 1) c12)) 43 :: own (.slice A12 (acc.length + 1) c12) 59 (acc.length + 1) 5 (csC acc ++ cC ⟨k, ts, tx⟩) :: M) (by repeat (first | with_reducible exact Pack.refl | with_reducible exact Pack.nil | with_reducible refine Pack.cons (by repeat (first | with_reducible exact Pick.here | with_reducible apply Pick.there)) ?_ | with_reducible apply Pack.drop))
      · refine op_lit_agg1 hs rfl Tryd.underlying41 info_cell (cC ⟨k, ts, tx⟩) rfl rfl (by omega) (by omega) fun b11 w1 h => hK _ _ (cS _ _ h (by (try dsimp only [List.set]); repeat (first | with_reducible exact List.mem_cons_self | with_reducible apply List.mem_cons_of_mem)) (by (try dsimp only [List.set]); repeat (first | with_reducible exact List.mem_cons_self | with_reducible apply List.mem_cons_of_mem))) ?_
        clear hs hK K
        have hs := h
        clear h
        try dsimp only [List.set] at hs
        try go_simp
        refine tree_one_yes (o := _) rfl rfl (fun K hK => ?_) (cS _ _ hs (by (try dsimp only [List.set]); repeat (first | with_reducible exact List.mem_cons_self | with_reducible apply List.mem_cons_of_mem)) (by (try dsimp only [List.set]); repeat (first | with_reducible exact List.mem_cons_self | with_reducible apply List.mem_cons_of_mem)))
        refine op_load rfl (ad := ⟨bc, 3, none⟩) rfl (by kernel_rfl) (hs.cell (l := stRow last ep lo (.slice A acc.length ca)) (t := 43) (by (try dsimp only [List.set]); repeat (first | with_reducible exact List.mem_cons_self | with_reducible apply List.mem_cons_of_mem)) rfl) (hK _ _ (cS _ _ hs (by (try dsimp only [List.set]); repeat (first | with_reducible exact List.mem_cons_self | with_reducible apply List.mem_cons_of_mem)) (by (try dsimp only [List.set]); repeat (first | with_reducible exact List.mem_cons_self | with_reducible apply List.mem_cons_of_mem))) ?_)
        clear hK K
        try go_simp
        refine tree_one_yes (o := _) rfl rfl (fun K hK => ?_) (cS _ _ hs (by (try dsimp only [List.set]); repeat (first | with_reducible exact List.mem_cons_self | with_reducible apply List.mem_cons_of_mem)) (by (try dsimp only [List.set]); repeat (first | with_reducible exact List.mem_cons_self | with_reducible apply List.mem_cons_of_mem)))
        refine op_append (hs.pick (A := own (.slice A acc.length ca) 59 acc.length 5 (csC acc)) (by repeat (first | with_reducible exact Pick.here | with_reducible apply Pick.there))) rfl Tryd.underlying41 Tryd.underlying41 info_cell rfl (by omega) (k := 0) rfl rfl rfl (Has.of (A := row b11 (cC ⟨k, ts, tx⟩) 59) (by (try dsimp only [List.set]); repeat (first | with_reducible exact List.mem_cons_self | with_reducible apply List.mem_cons_of_mem)) fun F hF => own_sliceAt F (own_exact (n := 1) (sz := 5) rfl (by omega) F hF)) (by simp [cC, Value.oneCell']) (by omega) (by omega) fun v12 w2 h => hK _ _ (cS _ _ h (by (try dsimp only [List.set]); repeat (first | with_reducible exact List.mem_cons_self | with_reducible apply List.mem_cons_of_mem)) (by (try dsimp only [List.set]); repeat (first | with_reducible exact List.mem_cons_self | with_reducible apply List.mem_cons_of_mem))) ?_
        clear hs hK K
        have hs := h
        clear h
        try dsimp only [List.set] at hs
        obtain ⟨A12, c12, rfl, _, _⟩ := own_slice hs (i := 0) rfl
        try go_simp
        repeat (first
          | (with_reducible refine tree_load_agg (o := ⟨some 27, .load _ _, _, _, _, _⟩) [Value.int .i64 k.kind, .int .i64 k.a, .int .i64 k.b] rfl rfl rfl rfl ?_ ?_ d7 ?_; (kernel_rfl); (kernel_rfl))
          | (with_reducible refine tree_load (o := ⟨some 29, .load _ _, _, _, _, _⟩) rfl rfl rfl rfl rfl d8 ?_)
          | (refine tree_take rfl (fun K hK => ?_); go_simp; (first | with_reducible refine hK _ ?_ | (rw [if_neg (by decide)]; with_reducible refine hK _ ?_)); clear hK K))
        refine tree_one_yes (o := _) rfl rfl (fun K hK => ?_) (cS _ _ hs (by (try dsimp only [List.set]); repeat (first | with_reducible exact List.mem_cons_self | with_reducible apply List.mem_cons_of_mem)) (by (try dsimp only [List.set]); repeat (first | with_reducible exact List.mem_cons_self | with_reducible apply List.mem_cons_of_mem)))
        refine op_store (hs.pick (A := row bc (stRow last ep lo (.slice A acc.length ca)) 43) (by repeat (first | with_reducible exact Pick.here | with_reducible apply Pick.there))) rfl (b := bc) (i := 3) (v := .slice A12 (acc.length + 1) c12) rfl rfl rfl (by kernel_rfl) (k := 0) rfl (by simp [stRow]) fun w7 h => hK _ _ (cS _ _ h (by (try dsimp only [List.set]); repeat (first | with_reducible exact List.mem_cons_self | with_reducible apply List.mem_cons_of_mem)) (by (try dsimp only [List.set]); repeat (first | with_reducible exact List.mem_cons_self | with_reducible apply List.mem_cons_of_mem))) ?_
        clear hs hK K
        have hs := h
        clear h
        try dsimp only [List.set] at hs
        change Sat W _ (row bc (stRow last ep lo (.slice A12 (acc.length + 1) c12)) 43 :: _) at hs
        try go_simp
        refine tree_done ?_
        clear hq
        go_wp2_with fail
        refine bodyPost_end (results_none rfl _ _ _) rfl ⟨.slice A12 (acc.length + 1) c12, rfl, ?_⟩
        rw [show (acc ++ [(⟨k, ts, tx⟩ : RCl)]).length = acc.length + 1 by simp, csC_snoc]
        exact hs.pack (L := row bp [.pointer (some ⟨r, 0, none⟩)] 72 :: row r (rdC s4) 74 :: row bc (stRow last ep lo (.slice A12 (acc.length + 1) c12)) 43 :: own (.slice A12 (acc.length + 1) c12) 59 (acc.length + 1) 5 (csC acc ++ cC ⟨k, ts, tx⟩) :: M) (by repeat (first | with_reducible exact Pack.refl | with_reducible exact Pack.nil | with_reducible refine Pack.cons (by repeat (first | with_reducible exact Pick.here | with_reducible apply Pick.there)) ?_ | with_reducible apply Pack.drop))
  | false =>
    by_cases hts : ts < 0
    · have hbt : bb = true := by rw [← HB.out, ← hq1]; simp [hts]
      subst hbt
      clear HB hq1 hq2
      go_enter Tryd.func64, Tryd.ntmps64
      go_wp2_with (first
        | (guard_target = wpList _ _ _ (⟨some 4, .load _ _, _, _, _, _⟩ :: _) _ _; refine wpl (o := ⟨some 4, .load _ _, _, _, _, _⟩) rfl fun K hK => op_load rfl (ad := ⟨bp, 0, none⟩) rfl (by kernel_rfl) (hs.cell (l := [.pointer (some ⟨r, 0, none⟩)]) (t := 72) (by (try dsimp only [List.set]); repeat (first | with_reducible exact List.mem_cons_self | with_reducible apply List.mem_cons_of_mem)) rfl) (hK _ _ ?_); clear hK K)
        | (guard_target = wpList _ _ _ (⟨some 6, .load _ _, _, _, _, _⟩ :: _) _ _; refine wpl (o := ⟨some 6, .load _ _, _, _, _, _⟩) rfl fun K hK => op_load rfl (ad := ⟨bp, 0, none⟩) rfl (by kernel_rfl) (hs.cell (l := [.pointer (some ⟨r, 0, none⟩)]) (t := 72) (by (try dsimp only [List.set]); repeat (first | with_reducible exact List.mem_cons_self | with_reducible apply List.mem_cons_of_mem)) rfl) (hK _ _ ?_); clear hK K)
        | (go_at_call 35; go_must (refine (HK.out _ _ (hs.pick (A := row r (rdC s) 74) (by repeat (first | with_reducible exact Pick.here | with_reducible apply Pick.there)))).mono ?_); clear hs; rintro e w1 ⟨rfl, hs⟩)
        | (guard_target = wpList _ _ _ (⟨some 2, .alloc _, _, _, _, _⟩ :: _) _ _; refine wpl (o := ⟨some 2, .alloc _, _, _, _, _⟩) rfl fun K hK => ?_; go_must (refine op_alloc hs rfl _ zkey [Value.int .i64 0, .int .i64 0, .int .i64 0] rfl fun b2 w1 h => hK _ _ ?_); clear hs hK K; have hs := h; clear h; try dsimp only [List.set] at hs)
        | (guard_target = wpList _ _ _ (⟨none, .store _ (.tmp 2) _, _, _, _, _⟩ :: _) _ _; refine wpl (o := ⟨none, .store _ (.tmp 2) _, _, _, _, _⟩) rfl fun K hK => ?_; go_must (refine op_store_whole (hs.pick (A := row b2 [Value.int .i64 0, .int .i64 0, .int .i64 0] 57) (by repeat (first | with_reducible exact Pick.here | with_reducible apply Pick.there))) (b := b2) rfl rfl [Value.int .i64 k.kind, .int .i64 k.a, .int .i64 k.b] rfl (by simp [Value.oneCell']) (by kernel_rfl) (k := 0) rfl rfl fun w3 h => hK _ _ ?_); clear hs hK K; have hs := h; clear h; try dsimp only [List.set] at hs)
        | (go_at_call 31; go_must (refine (HI.out _ _ (hs.pick (A := row r (rdC s1) 74) (by repeat (first | with_reducible exact Pick.here | with_reducible apply Pick.there)))).mono ?_); clear hs; rintro e w1 ⟨rfl, hs⟩; change Sat W _ (row r (rdC ⟨rest2, false⟩) 74 :: _) at hs))
      have u1 : ts < 0 := by omega
      have cS0 : ∀ w M, Sat W w M → row bp [.pointer (some ⟨r, 0, none⟩)] 72 ∈ M → row bc (stRow last ep lo (.slice A acc.length ca)) 43 ∈ M → t2S bp r bc last w := fun w M h h1 h2 => ⟨h.cell h1 rfl, h.cell h2 rfl⟩
      have e8 : ∀ w, t2S bp r bc last w → w.cell? ⟨bp, 0, none⟩ = some (.pointer (some ⟨r, 0, none⟩)) := fun w h => h.1
      have e20 : ∀ w, t2S bp r bc last w → w.cell? ⟨bc, 0, none⟩ = some (.int .i64 last) := fun w h => h.2
      have hS0 := cS0 _ _ hs.drew (by (try dsimp only [List.set]); repeat (first | with_reducible exact List.mem_cons_self | with_reducible apply List.mem_cons_of_mem)) (by (try dsimp only [List.set]); repeat (first | with_reducible exact List.mem_cons_self | with_reducible apply List.mem_cons_of_mem))
      refine wp_region_tree (t2S bp r bc last) (.take 0 (.take 1 (.take 2 (.take 3 (.all [(4, .take 5 (.take 6 (.take 7 (.take 8 (.take 9 (.take 10 (.take 11 (.take 12 (.take 13 (.take 14 (.take 15 (.take 16 (.all [(17, DTree.done)])))))))))))))]))))) (by kernel_rfl) (by kernel_rfl) (by kernel_rfl) (fun _ _ d _ _ h => by cases d <;> exact h) hS0 ?_
      have hs' := hs.drew
      clear hs
      have hs := hs'
      clear hs'
      have hq := fun p : Prop => class_const hS0 p
      clear hS0
      repeat (first
        | (with_reducible refine tree_load (o := ⟨some 8, .load _ _, _, _, _, _⟩) rfl rfl rfl rfl rfl e8 ?_)
        | (with_reducible refine tree_load (o := ⟨some 9, .load _ _, _, _, _, _⟩) rfl rfl rfl rfl rfl e8 ?_)
        | (with_reducible refine tree_load (o := ⟨some 20, .load _ _, _, _, _, _⟩) rfl rfl rfl rfl rfl e20 ?_)
        | (refine tree_take rfl (fun K hK => ?_); go_simp; (first | with_reducible refine hK _ ?_ | (rw [if_neg (by decide)]; with_reducible refine hK _ ?_)); clear hK K))
      refine tree_one_yes (o := _) rfl rfl (fun K hK => ?_) (cS0 _ _ hs (by (try dsimp only [List.set]); repeat (first | with_reducible exact List.mem_cons_self | with_reducible apply List.mem_cons_of_mem)) (by (try dsimp only [List.set]); repeat (first | with_reducible exact List.mem_cons_self | with_reducible apply List.mem_cons_of_mem)))
      refine op_load rfl (ad := ⟨r, 1, none⟩) rfl (by kernel_rfl) (hs.cell (l := rdC ⟨rest2, false⟩) (t := 74) (by (try dsimp only [List.set]); repeat (first | with_reducible exact List.mem_cons_self | with_reducible apply List.mem_cons_of_mem)) rfl) (hK _ _ (cS0 _ _ hs (by (try dsimp only [List.set]); repeat (first | with_reducible exact List.mem_cons_self | with_reducible apply List.mem_cons_of_mem)) (by (try dsimp only [List.set]); repeat (first | with_reducible exact List.mem_cons_self | with_reducible apply List.mem_cons_of_mem))) ?_)
      clear hK K
      try go_simp
      repeat (first
        | (with_reducible refine tree_load (o := ⟨some 8, .load _ _, _, _, _, _⟩) rfl rfl rfl rfl rfl e8 ?_)
        | (with_reducible refine tree_load (o := ⟨some 9, .load _ _, _, _, _, _⟩) rfl rfl rfl rfl rfl e8 ?_)
        | (with_reducible refine tree_load (o := ⟨some 20, .load _ _, _, _, _, _⟩) rfl rfl rfl rfl rfl e20 ?_)
        | (refine tree_take rfl (fun K hK => ?_); go_simp; (first | with_reducible refine hK _ ?_ | (rw [if_neg (by decide)]; with_reducible refine hK _ ?_)); clear hK K))
      refine tree_one_yes (o := _) rfl rfl (fun K hK => ?_) (cS0 _ _ hs (by (try dsimp only [List.set]); repeat (first | with_reducible exact List.mem_cons_self | with_reducible apply List.mem_cons_of_mem)) (by (try dsimp only [List.set]); repeat (first | with_reducible exact List.mem_cons_self | with_reducible apply List.mem_cons_of_mem)))
      refine op_store (hs.pick (A := row r (rdC ⟨rest2, false⟩) 74) (by repeat (first | with_reducible exact Pick.here | with_reducible apply Pick.there))) rfl (b := r) (i := 1) (v := .bool true) rfl rfl rfl (by kernel_rfl) (k := 0) rfl (by simp [rdC]) fun w7 h => hK _ _ (cS0 _ _ h (by (try dsimp only [List.set]); repeat (first | with_reducible exact List.mem_cons_self | with_reducible apply List.mem_cons_of_mem)) (by (try dsimp only [List.set]); repeat (first | with_reducible exact List.mem_cons_self | with_reducible apply List.mem_cons_of_mem))) ?_
      clear hs hK K
      have hs := h
      clear h
      try dsimp only [List.set] at hs
      try go_simp
      refine tree_done ?_
      clear hq
      have hs1 : Sat W _ (row r (rdC ⟨rest2, true⟩) 74 :: _) := hs
      clear hs
      have hs := hs1
      clear hs1
      go_wp2_with fail
      have cS : ∀ w M, Sat W w M → row b2 [Value.int .i64 k.kind, .int .i64 k.a, .int .i64 k.b] 57 ∈ M → row bp [.pointer (some ⟨r, 0, none⟩)] 72 ∈ M → t1S b2 [Value.int .i64 k.kind, .int .i64 k.a, .int .i64 k.b] bp r w := fun w M h h1 h2 => ⟨range_whole h h1, h.cell h2 rfl⟩
      have d7 : ∀ w, t1S b2 [Value.int .i64 k.kind, .int .i64 k.a, .int .i64 k.b] bp r w → w.rangeAt b2 0 [Value.int .i64 k.kind, .int .i64 k.a, .int .i64 k.b] := fun w h => h.1
      have d8 : ∀ w, t1S b2 [Value.int .i64 k.kind, .int .i64 k.a, .int .i64 k.b] bp r w → w.cell? ⟨bp, 0, none⟩ = some (.pointer (some ⟨r, 0, none⟩)) := fun w h => h.2
      have hS0 := cS _ _ hs.drew (by (try dsimp only [List.set]); repeat (first | with_reducible exact List.mem_cons_self | with_reducible apply List.mem_cons_of_mem)) (by (try dsimp only [List.set]); repeat (first | with_reducible exact List.mem_cons_self | with_reducible apply List.mem_cons_of_mem))
      refine wp_region_tree (t1S b2 [Value.int .i64 k.kind, .int .i64 k.a, .int .i64 k.b] bp r) (.take 0 (.take 2 (.take 3 (.take 4 (.all [(1, .all [(5, .take 6 (.all [(7, .all [(8, .take 9 (.all [(10, DTree.done)]))])]))]), (5, .take 6 (.all [(1, .all [(7, .all [(8, .take 9 (.all [(10, DTree.done)]))])]), (7, .all [(1, .all [(8, .take 9 (.all [(10, DTree.done)]))])])]))]))))) (by kernel_rfl) (by kernel_rfl) (by kernel_rfl) (fun _ _ d _ _ h => by cases d <;> exact h) hS0 ?_
      have hs' := hs.drew
      clear hs
      have hs := hs'
      clear hs'
      have hq := fun p : Prop => class_const hS0 p
      clear hS0
      repeat (first
        | (with_reducible refine tree_load_agg (o := ⟨some 27, .load _ _, _, _, _, _⟩) [Value.int .i64 k.kind, .int .i64 k.a, .int .i64 k.b] rfl rfl rfl rfl ?_ ?_ d7 ?_; (kernel_rfl); (kernel_rfl))
        | (with_reducible refine tree_load (o := ⟨some 29, .load _ _, _, _, _, _⟩) rfl rfl rfl rfl rfl d8 ?_)
        | (refine tree_take rfl (fun K hK => ?_); go_simp; (first | with_reducible refine hK _ ?_ | (rw [if_neg (by decide)]; with_reducible refine hK _ ?_)); clear hK K))
      refine tree_all (trees_cons_yes (o := _) rfl rfl (fun K hK => ?_) (cS _ _ hs (by (try dsimp only [List.set]); repeat (first | with_reducible exact List.mem_cons_self | with_reducible apply List.mem_cons_of_mem)) (by (try dsimp only [List.set]); repeat (first | with_reducible exact List.mem_cons_self | with_reducible apply List.mem_cons_of_mem))) (trees_cons_yes (o := _) rfl rfl (fun K hK => ?_) (cS _ _ hs (by (try dsimp only [List.set]); repeat (first | with_reducible exact List.mem_cons_self | with_reducible apply List.mem_cons_of_mem)) (by (try dsimp only [List.set]); repeat (first | with_reducible exact List.mem_cons_self | with_reducible apply List.mem_cons_of_mem))) trees_nil))
      · refine op_load rfl (ad := ⟨bc, 3, none⟩) rfl (by kernel_rfl) (hs.cell (l := stRow last ep lo (.slice A acc.length ca)) (t := 43) (by (try dsimp only [List.set]); repeat (first | with_reducible exact List.mem_cons_self | with_reducible apply List.mem_cons_of_mem)) rfl) (hK _ _ (cS _ _ hs (by (try dsimp only [List.set]); repeat (first | with_reducible exact List.mem_cons_self | with_reducible apply List.mem_cons_of_mem)) (by (try dsimp only [List.set]); repeat (first | with_reducible exact List.mem_cons_self | with_reducible apply List.mem_cons_of_mem))) ?_)
        clear hK K
        try go_simp
        refine tree_one_yes (o := _) rfl rfl (fun K hK => ?_) (cS _ _ hs (by (try dsimp only [List.set]); repeat (first | with_reducible exact List.mem_cons_self | with_reducible apply List.mem_cons_of_mem)) (by (try dsimp only [List.set]); repeat (first | with_reducible exact List.mem_cons_self | with_reducible apply List.mem_cons_of_mem)))
        try go_simp
        go_at_call 36
        refine (HT.out _ _ (hs.pick (A := row r (rdC ⟨rest2, true⟩) 74) (by repeat (first | with_reducible exact Pick.here | with_reducible apply Pick.there))) (by (try dsimp only [List.set]); repeat (first | exact hold | apply List.mem_cons_of_mem))).mono ?_
        clear hs
        rintro e w5 ⟨rfl, hs⟩
        try go_simp
        refine hK _ _ (cS _ _ hs (by (try dsimp only [List.set]); repeat (first | with_reducible exact List.mem_cons_self | with_reducible apply List.mem_cons_of_mem)) (by (try dsimp only [List.set]); repeat (first | with_reducible exact List.mem_cons_self | with_reducible apply List.mem_cons_of_mem))) ?_
        clear hK K
        repeat (first
          | (with_reducible refine tree_load_agg (o := ⟨some 27, .load _ _, _, _, _, _⟩) [Value.int .i64 k.kind, .int .i64 k.a, .int .i64 k.b] rfl rfl rfl rfl ?_ ?_ d7 ?_; (kernel_rfl); (kernel_rfl))
          | (with_reducible refine tree_load (o := ⟨some 29, .load _ _, _, _, _, _⟩) rfl rfl rfl rfl rfl d8 ?_)
          | (refine tree_take rfl (fun K hK => ?_); go_simp; (first | with_reducible refine hK _ ?_ | (rw [if_neg (by decide)]; with_reducible refine hK _ ?_)); clear hK K))
        refine tree_one_yes (o := _) rfl rfl (fun K hK => ?_) (cS _ _ hs (by (try dsimp only [List.set]); repeat (first | with_reducible exact List.mem_cons_self | with_reducible apply List.mem_cons_of_mem)) (by (try dsimp only [List.set]); repeat (first | with_reducible exact List.mem_cons_self | with_reducible apply List.mem_cons_of_mem)))
        refine op_lit_agg1 hs rfl Tryd.underlying41 info_cell (cC ⟨k, ts, tx⟩) rfl rfl (by omega) (by omega) fun b11 w1 h => hK _ _ (cS _ _ h (by (try dsimp only [List.set]); repeat (first | with_reducible exact List.mem_cons_self | with_reducible apply List.mem_cons_of_mem)) (by (try dsimp only [List.set]); repeat (first | with_reducible exact List.mem_cons_self | with_reducible apply List.mem_cons_of_mem))) ?_
        clear hs hK K
        have hs := h
        clear h
        try dsimp only [List.set] at hs
        try go_simp
        refine tree_one_yes (o := _) rfl rfl (fun K hK => ?_) (cS _ _ hs (by (try dsimp only [List.set]); repeat (first | with_reducible exact List.mem_cons_self | with_reducible apply List.mem_cons_of_mem)) (by (try dsimp only [List.set]); repeat (first | with_reducible exact List.mem_cons_self | with_reducible apply List.mem_cons_of_mem)))
        refine op_append (hs.pick (A := own (.slice A acc.length ca) 59 acc.length 5 (csC acc)) (by repeat (first | with_reducible exact Pick.here | with_reducible apply Pick.there))) rfl Tryd.underlying41 Tryd.underlying41 info_cell rfl (by omega) (k := 0) rfl rfl rfl (Has.of (A := row b11 (cC ⟨k, ts, tx⟩) 59) (by (try dsimp only [List.set]); repeat (first | with_reducible exact List.mem_cons_self | with_reducible apply List.mem_cons_of_mem)) fun F hF => own_sliceAt F (own_exact (n := 1) (sz := 5) rfl (by omega) F hF)) (by simp [cC, Value.oneCell']) (by omega) (by omega) fun v12 w2 h => hK _ _ (cS _ _ h (by (try dsimp only [List.set]); repeat (first | with_reducible exact List.mem_cons_self | with_reducible apply List.mem_cons_of_mem)) (by (try dsimp only [List.set]); repeat (first | with_reducible exact List.mem_cons_self | with_reducible apply List.mem_cons_of_mem))) ?_
        clear hs hK K
        have hs := h
        clear h
        try dsimp only [List.set] at hs
        obtain ⟨A12, c12, rfl, _, _⟩ := own_slice hs (i := 0) rfl
        try go_simp
        repeat (first
          | (with_reducible refine tree_load_agg (o := ⟨some 27, .load _ _, _, _, _, _⟩) [Value.int .i64 k.kind, .int .i64 k.a, .int .i64 k.b] rfl rfl rfl rfl ?_ ?_ d7 ?_; (kernel_rfl); (kernel_rfl))
          | (with_reducible refine tree_load (o := ⟨some 29, .load _ _, _, _, _, _⟩) rfl rfl rfl rfl rfl d8 ?_)
          | (refine tree_take rfl (fun K hK => ?_); go_simp; (first | with_reducible refine hK _ ?_ | (rw [if_neg (by decide)]; with_reducible refine hK _ ?_)); clear hK K))
        refine tree_one_yes (o := _) rfl rfl (fun K hK => ?_) (cS _ _ hs (by (try dsimp only [List.set]); repeat (first | with_reducible exact List.mem_cons_self | with_reducible apply List.mem_cons_of_mem)) (by (try dsimp only [List.set]); repeat (first | with_reducible exact List.mem_cons_self | with_reducible apply List.mem_cons_of_mem)))
        refine op_store (hs.pick (A := row bc (stRow last ep lo (.slice A acc.length ca)) 43) (by repeat (first | with_reducible exact Pick.here | with_reducible apply Pick.there))) rfl (b := bc) (i := 3) (v := .slice A12 (acc.length + 1) c12) rfl rfl rfl (by kernel_rfl) (k := 0) rfl (by simp [stRow]) fun w7 h => hK _ _ (cS _ _ h (by (try dsimp only [List.set]); repeat (first | with_reducible exact List.mem_cons_self | with_reducible apply List.mem_cons_of_mem)) (by (try dsimp only [List.set]); repeat (first | with_reducible exact List.mem_cons_self | with_reducible apply List.mem_cons_of_mem))) ?_
        clear hs hK K
        have hs := h
        clear h
        try dsimp only [List.set] at hs
        change Sat W _ (row bc (stRow last ep lo (.slice A12 (acc.length + 1) c12)) 43 :: _) at hs
        try go_simp
        refine tree_done ?_
        clear hq
        go_wp2_with fail
        refine bodyPost_end (results_none rfl _ _ _) rfl ⟨.slice A12 (acc.length + 1) c12, rfl, ?_⟩
        rw [show (acc ++ [(⟨k, ts, tx⟩ : RCl)]).length = acc.length + 1 by simp, csC_snoc]
        exact hs.pack (L := row bp [.pointer (some ⟨r, 0, none⟩)] 72 :: row r (rdC s4) 74 :: row bc (stRow last ep lo (.slice A12 (acc.length + 1) c12)) 43 :: own (.slice A12 (acc.length + 1) c12) 59 (acc.length + 1) 5 (csC acc ++ cC ⟨k, ts, tx⟩) :: M) (by repeat (first | with_reducible exact Pack.refl | with_reducible exact Pack.nil | with_reducible refine Pack.cons (by repeat (first | with_reducible exact Pick.here | with_reducible apply Pick.there)) ?_ | with_reducible apply Pack.drop))
      · try go_simp
        go_at_call 36
        refine (HT.out _ _ (hs.pick (A := row r (rdC ⟨rest2, true⟩) 74) (by repeat (first | with_reducible exact Pick.here | with_reducible apply Pick.there))) (by (try dsimp only [List.set]); repeat (first | exact hold | apply List.mem_cons_of_mem))).mono ?_
        clear hs
        rintro e w5 ⟨rfl, hs⟩
        try go_simp
        refine hK _ _ (cS _ _ hs (by (try dsimp only [List.set]); repeat (first | with_reducible exact List.mem_cons_self | with_reducible apply List.mem_cons_of_mem)) (by (try dsimp only [List.set]); repeat (first | with_reducible exact List.mem_cons_self | with_reducible apply List.mem_cons_of_mem))) ?_
        clear hK K
        repeat (first
          | (with_reducible refine tree_load_agg (o := ⟨some 27, .load _ _, _, _, _, _⟩) [Value.int .i64 k.kind, .int .i64 k.a, .int .i64 k.b] rfl rfl rfl rfl ?_ ?_ d7 ?_; (kernel_rfl); (kernel_rfl))
          | (with_reducible refine tree_load (o := ⟨some 29, .load _ _, _, _, _, _⟩) rfl rfl rfl rfl rfl d8 ?_)
          | (refine tree_take rfl (fun K hK => ?_); go_simp; (first | with_reducible refine hK _ ?_ | (rw [if_neg (by decide)]; with_reducible refine hK _ ?_)); clear hK K))
        refine tree_all (trees_cons_yes (o := _) rfl rfl (fun K hK => ?_) (cS _ _ hs (by (try dsimp only [List.set]); repeat (first | with_reducible exact List.mem_cons_self | with_reducible apply List.mem_cons_of_mem)) (by (try dsimp only [List.set]); repeat (first | with_reducible exact List.mem_cons_self | with_reducible apply List.mem_cons_of_mem))) (trees_cons_yes (o := _) rfl rfl (fun K hK => ?_) (cS _ _ hs (by (try dsimp only [List.set]); repeat (first | with_reducible exact List.mem_cons_self | with_reducible apply List.mem_cons_of_mem)) (by (try dsimp only [List.set]); repeat (first | with_reducible exact List.mem_cons_self | with_reducible apply List.mem_cons_of_mem))) trees_nil))
        · refine op_load rfl (ad := ⟨bc, 3, none⟩) rfl (by kernel_rfl) (hs.cell (l := stRow last ep lo (.slice A acc.length ca)) (t := 43) (by (try dsimp only [List.set]); repeat (first | with_reducible exact List.mem_cons_self | with_reducible apply List.mem_cons_of_mem)) rfl) (hK _ _ (cS _ _ hs (by (try dsimp only [List.set]); repeat (first | with_reducible exact List.mem_cons_self | with_reducible apply List.mem_cons_of_mem)) (by (try dsimp only [List.set]); repeat (first | with_reducible exact List.mem_cons_self | with_reducible apply List.mem_cons_of_mem))) ?_)
          clear hK K
          try go_simp
          refine tree_one_yes (o := _) rfl rfl (fun K hK => ?_) (cS _ _ hs (by (try dsimp only [List.set]); repeat (first | with_reducible exact List.mem_cons_self | with_reducible apply List.mem_cons_of_mem)) (by (try dsimp only [List.set]); repeat (first | with_reducible exact List.mem_cons_self | with_reducible apply List.mem_cons_of_mem)))
          refine op_lit_agg1 hs rfl Tryd.underlying41 info_cell (cC ⟨k, ts, tx⟩) rfl rfl (by omega) (by omega) fun b11 w1 h => hK _ _ (cS _ _ h (by (try dsimp only [List.set]); repeat (first | with_reducible exact List.mem_cons_self | with_reducible apply List.mem_cons_of_mem)) (by (try dsimp only [List.set]); repeat (first | with_reducible exact List.mem_cons_self | with_reducible apply List.mem_cons_of_mem))) ?_
          clear hs hK K
          have hs := h
          clear h
          try dsimp only [List.set] at hs
          try go_simp
          refine tree_one_yes (o := _) rfl rfl (fun K hK => ?_) (cS _ _ hs (by (try dsimp only [List.set]); repeat (first | with_reducible exact List.mem_cons_self | with_reducible apply List.mem_cons_of_mem)) (by (try dsimp only [List.set]); repeat (first | with_reducible exact List.mem_cons_self | with_reducible apply List.mem_cons_of_mem)))
          refine op_append (hs.pick (A := own (.slice A acc.length ca) 59 acc.length 5 (csC acc)) (by repeat (first | with_reducible exact Pick.here | with_reducible apply Pick.there))) rfl Tryd.underlying41 Tryd.underlying41 info_cell rfl (by omega) (k := 0) rfl rfl rfl (Has.of (A := row b11 (cC ⟨k, ts, tx⟩) 59) (by (try dsimp only [List.set]); repeat (first | with_reducible exact List.mem_cons_self | with_reducible apply List.mem_cons_of_mem)) fun F hF => own_sliceAt F (own_exact (n := 1) (sz := 5) rfl (by omega) F hF)) (by simp [cC, Value.oneCell']) (by omega) (by omega) fun v12 w2 h => hK _ _ (cS _ _ h (by (try dsimp only [List.set]); repeat (first | with_reducible exact List.mem_cons_self | with_reducible apply List.mem_cons_of_mem)) (by (try dsimp only [List.set]); repeat (first | with_reducible exact List.mem_cons_self | with_reducible apply List.mem_cons_of_mem))) ?_
          clear hs hK K
          have hs := h
          clear h
          try dsimp only [List.set] at hs
          obtain ⟨A12, c12, rfl, _, _⟩ := own_slice hs (i := 0) rfl
          try go_simp
          repeat (first
            | (with_reducible refine tree_load_agg (o := ⟨some 27, .load _ _, _, _, _, _⟩) [Value.int .i64 k.kind, .int .i64 k.a, .int .i64 k.b] rfl rfl rfl rfl ?_ ?_ d7 ?_; (kernel_rfl); (kernel_rfl))
            | (with_reducible refine tree_load (o := ⟨some 29, .load _ _, _, _, _, _⟩) rfl rfl rfl rfl rfl d8 ?_)
            | (refine tree_take rfl (fun K hK => ?_); go_simp; (first | with_reducible refine hK _ ?_ | (rw [if_neg (by decide)]; with_reducible refine hK _ ?_)); clear hK K))
          refine tree_one_yes (o := _) rfl rfl (fun K hK => ?_) (cS _ _ hs (by (try dsimp only [List.set]); repeat (first | with_reducible exact List.mem_cons_self | with_reducible apply List.mem_cons_of_mem)) (by (try dsimp only [List.set]); repeat (first | with_reducible exact List.mem_cons_self | with_reducible apply List.mem_cons_of_mem)))
          refine op_store (hs.pick (A := row bc (stRow last ep lo (.slice A acc.length ca)) 43) (by repeat (first | with_reducible exact Pick.here | with_reducible apply Pick.there))) rfl (b := bc) (i := 3) (v := .slice A12 (acc.length + 1) c12) rfl rfl rfl (by kernel_rfl) (k := 0) rfl (by simp [stRow]) fun w7 h => hK _ _ (cS _ _ h (by (try dsimp only [List.set]); repeat (first | with_reducible exact List.mem_cons_self | with_reducible apply List.mem_cons_of_mem)) (by (try dsimp only [List.set]); repeat (first | with_reducible exact List.mem_cons_self | with_reducible apply List.mem_cons_of_mem))) ?_
          clear hs hK K
          have hs := h
          clear h
          try dsimp only [List.set] at hs
          change Sat W _ (row bc (stRow last ep lo (.slice A12 (acc.length + 1) c12)) 43 :: _) at hs
          try go_simp
          refine tree_done ?_
          clear hq
          go_wp2_with fail
          refine bodyPost_end (results_none rfl _ _ _) rfl ⟨.slice A12 (acc.length + 1) c12, rfl, ?_⟩
          rw [show (acc ++ [(⟨k, ts, tx⟩ : RCl)]).length = acc.length + 1 by simp, csC_snoc]
          exact hs.pack (L := row bp [.pointer (some ⟨r, 0, none⟩)] 72 :: row r (rdC s4) 74 :: row bc (stRow last ep lo (.slice A12 (acc.length + 1) c12)) 43 :: own (.slice A12 (acc.length + 1) c12) 59 (acc.length + 1) 5 (csC acc ++ cC ⟨k, ts, tx⟩) :: M) (by repeat (first | with_reducible exact Pack.refl | with_reducible exact Pack.nil | with_reducible refine Pack.cons (by repeat (first | with_reducible exact Pick.here | with_reducible apply Pick.there)) ?_ | with_reducible apply Pack.drop))
        · refine op_lit_agg1 hs rfl Tryd.underlying41 info_cell (cC ⟨k, ts, tx⟩) rfl rfl (by omega) (by omega) fun b11 w1 h => hK _ _ (cS _ _ h (by (try dsimp only [List.set]); repeat (first | with_reducible exact List.mem_cons_self | with_reducible apply List.mem_cons_of_mem)) (by (try dsimp only [List.set]); repeat (first | with_reducible exact List.mem_cons_self | with_reducible apply List.mem_cons_of_mem))) ?_
          clear hs hK K
          have hs := h
          clear h
          try dsimp only [List.set] at hs
          try go_simp
          refine tree_one_yes (o := _) rfl rfl (fun K hK => ?_) (cS _ _ hs (by (try dsimp only [List.set]); repeat (first | with_reducible exact List.mem_cons_self | with_reducible apply List.mem_cons_of_mem)) (by (try dsimp only [List.set]); repeat (first | with_reducible exact List.mem_cons_self | with_reducible apply List.mem_cons_of_mem)))
          refine op_load rfl (ad := ⟨bc, 3, none⟩) rfl (by kernel_rfl) (hs.cell (l := stRow last ep lo (.slice A acc.length ca)) (t := 43) (by (try dsimp only [List.set]); repeat (first | with_reducible exact List.mem_cons_self | with_reducible apply List.mem_cons_of_mem)) rfl) (hK _ _ (cS _ _ hs (by (try dsimp only [List.set]); repeat (first | with_reducible exact List.mem_cons_self | with_reducible apply List.mem_cons_of_mem)) (by (try dsimp only [List.set]); repeat (first | with_reducible exact List.mem_cons_self | with_reducible apply List.mem_cons_of_mem))) ?_)
          clear hK K
          try go_simp
          refine tree_one_yes (o := _) rfl rfl (fun K hK => ?_) (cS _ _ hs (by (try dsimp only [List.set]); repeat (first | with_reducible exact List.mem_cons_self | with_reducible apply List.mem_cons_of_mem)) (by (try dsimp only [List.set]); repeat (first | with_reducible exact List.mem_cons_self | with_reducible apply List.mem_cons_of_mem)))
          refine op_append (hs.pick (A := own (.slice A acc.length ca) 59 acc.length 5 (csC acc)) (by repeat (first | with_reducible exact Pick.here | with_reducible apply Pick.there))) rfl Tryd.underlying41 Tryd.underlying41 info_cell rfl (by omega) (k := 0) rfl rfl rfl (Has.of (A := row b11 (cC ⟨k, ts, tx⟩) 59) (by (try dsimp only [List.set]); repeat (first | with_reducible exact List.mem_cons_self | with_reducible apply List.mem_cons_of_mem)) fun F hF => own_sliceAt F (own_exact (n := 1) (sz := 5) rfl (by omega) F hF)) (by simp [cC, Value.oneCell']) (by omega) (by omega) fun v12 w2 h => hK _ _ (cS _ _ h (by (try dsimp only [List.set]); repeat (first | with_reducible exact List.mem_cons_self | with_reducible apply List.mem_cons_of_mem)) (by (try dsimp only [List.set]); repeat (first | with_reducible exact List.mem_cons_self | with_reducible apply List.mem_cons_of_mem))) ?_
          clear hs hK K
          have hs := h
          clear h
          try dsimp only [List.set] at hs
          obtain ⟨A12, c12, rfl, _, _⟩ := own_slice hs (i := 0) rfl
          try go_simp
          repeat (first
            | (with_reducible refine tree_load_agg (o := ⟨some 27, .load _ _, _, _, _, _⟩) [Value.int .i64 k.kind, .int .i64 k.a, .int .i64 k.b] rfl rfl rfl rfl ?_ ?_ d7 ?_; (kernel_rfl); (kernel_rfl))
            | (with_reducible refine tree_load (o := ⟨some 29, .load _ _, _, _, _, _⟩) rfl rfl rfl rfl rfl d8 ?_)
            | (refine tree_take rfl (fun K hK => ?_); go_simp; (first | with_reducible refine hK _ ?_ | (rw [if_neg (by decide)]; with_reducible refine hK _ ?_)); clear hK K))
          refine tree_one_yes (o := _) rfl rfl (fun K hK => ?_) (cS _ _ hs (by (try dsimp only [List.set]); repeat (first | with_reducible exact List.mem_cons_self | with_reducible apply List.mem_cons_of_mem)) (by (try dsimp only [List.set]); repeat (first | with_reducible exact List.mem_cons_self | with_reducible apply List.mem_cons_of_mem)))
          refine op_store (hs.pick (A := row bc (stRow last ep lo (.slice A acc.length ca)) 43) (by repeat (first | with_reducible exact Pick.here | with_reducible apply Pick.there))) rfl (b := bc) (i := 3) (v := .slice A12 (acc.length + 1) c12) rfl rfl rfl (by kernel_rfl) (k := 0) rfl (by simp [stRow]) fun w7 h => hK _ _ (cS _ _ h (by (try dsimp only [List.set]); repeat (first | with_reducible exact List.mem_cons_self | with_reducible apply List.mem_cons_of_mem)) (by (try dsimp only [List.set]); repeat (first | with_reducible exact List.mem_cons_self | with_reducible apply List.mem_cons_of_mem))) ?_
          clear hs hK K
          have hs := h
          clear h
          try dsimp only [List.set] at hs
          change Sat W _ (row bc (stRow last ep lo (.slice A12 (acc.length + 1) c12)) 43 :: _) at hs
          try go_simp
          refine tree_done ?_
          clear hq
          go_wp2_with fail
          refine bodyPost_end (results_none rfl _ _ _) rfl ⟨.slice A12 (acc.length + 1) c12, rfl, ?_⟩
          rw [show (acc ++ [(⟨k, ts, tx⟩ : RCl)]).length = acc.length + 1 by simp, csC_snoc]
          exact hs.pack (L := row bp [.pointer (some ⟨r, 0, none⟩)] 72 :: row r (rdC s4) 74 :: row bc (stRow last ep lo (.slice A12 (acc.length + 1) c12)) 43 :: own (.slice A12 (acc.length + 1) c12) 59 (acc.length + 1) 5 (csC acc ++ cC ⟨k, ts, tx⟩) :: M) (by repeat (first | with_reducible exact Pack.refl | with_reducible exact Pack.nil | with_reducible refine Pack.cons (by repeat (first | with_reducible exact Pick.here | with_reducible apply Pick.there)) ?_ | with_reducible apply Pack.drop))
    · have hbt : bb = q2 := by rw [← HB.out, ← hq1]; simp [hts]
      subst hbt
      clear HB hq1
      cases bb with
      | true =>
        have hlt : last < ts := by simpa using hq2
        clear hq2
        go_enter Tryd.func64, Tryd.ntmps64
        go_wp2_with (first
          | (guard_target = wpList _ _ _ (⟨some 4, .load _ _, _, _, _, _⟩ :: _) _ _; refine wpl (o := ⟨some 4, .load _ _, _, _, _, _⟩) rfl fun K hK => op_load rfl (ad := ⟨bp, 0, none⟩) rfl (by kernel_rfl) (hs.cell (l := [.pointer (some ⟨r, 0, none⟩)]) (t := 72) (by (try dsimp only [List.set]); repeat (first | with_reducible exact List.mem_cons_self | with_reducible apply List.mem_cons_of_mem)) rfl) (hK _ _ ?_); clear hK K)
          | (guard_target = wpList _ _ _ (⟨some 6, .load _ _, _, _, _, _⟩ :: _) _ _; refine wpl (o := ⟨some 6, .load _ _, _, _, _, _⟩) rfl fun K hK => op_load rfl (ad := ⟨bp, 0, none⟩) rfl (by kernel_rfl) (hs.cell (l := [.pointer (some ⟨r, 0, none⟩)]) (t := 72) (by (try dsimp only [List.set]); repeat (first | with_reducible exact List.mem_cons_self | with_reducible apply List.mem_cons_of_mem)) rfl) (hK _ _ ?_); clear hK K)
          | (go_at_call 35; go_must (refine (HK.out _ _ (hs.pick (A := row r (rdC s) 74) (by repeat (first | with_reducible exact Pick.here | with_reducible apply Pick.there)))).mono ?_); clear hs; rintro e w1 ⟨rfl, hs⟩)
          | (guard_target = wpList _ _ _ (⟨some 2, .alloc _, _, _, _, _⟩ :: _) _ _; refine wpl (o := ⟨some 2, .alloc _, _, _, _, _⟩) rfl fun K hK => ?_; go_must (refine op_alloc hs rfl _ zkey [Value.int .i64 0, .int .i64 0, .int .i64 0] rfl fun b2 w1 h => hK _ _ ?_); clear hs hK K; have hs := h; clear h; try dsimp only [List.set] at hs)
          | (guard_target = wpList _ _ _ (⟨none, .store _ (.tmp 2) _, _, _, _, _⟩ :: _) _ _; refine wpl (o := ⟨none, .store _ (.tmp 2) _, _, _, _, _⟩) rfl fun K hK => ?_; go_must (refine op_store_whole (hs.pick (A := row b2 [Value.int .i64 0, .int .i64 0, .int .i64 0] 57) (by repeat (first | with_reducible exact Pick.here | with_reducible apply Pick.there))) (b := b2) rfl rfl [Value.int .i64 k.kind, .int .i64 k.a, .int .i64 k.b] rfl (by simp [Value.oneCell']) (by kernel_rfl) (k := 0) rfl rfl fun w3 h => hK _ _ ?_); clear hs hK K; have hs := h; clear h; try dsimp only [List.set] at hs)
          | (go_at_call 31; go_must (refine (HI.out _ _ (hs.pick (A := row r (rdC s1) 74) (by repeat (first | with_reducible exact Pick.here | with_reducible apply Pick.there)))).mono ?_); clear hs; rintro e w1 ⟨rfl, hs⟩; change Sat W _ (row r (rdC ⟨rest2, false⟩) 74 :: _) at hs))
        have u1 : ¬ ts < 0 := by omega
        have u2 : last < ts := by omega
        have cS0 : ∀ w M, Sat W w M → row bp [.pointer (some ⟨r, 0, none⟩)] 72 ∈ M → row bc (stRow last ep lo (.slice A acc.length ca)) 43 ∈ M → t2S bp r bc last w := fun w M h h1 h2 => ⟨h.cell h1 rfl, h.cell h2 rfl⟩
        have e8 : ∀ w, t2S bp r bc last w → w.cell? ⟨bp, 0, none⟩ = some (.pointer (some ⟨r, 0, none⟩)) := fun w h => h.1
        have e20 : ∀ w, t2S bp r bc last w → w.cell? ⟨bc, 0, none⟩ = some (.int .i64 last) := fun w h => h.2
        have hS0 := cS0 _ _ hs.drew (by (try dsimp only [List.set]); repeat (first | with_reducible exact List.mem_cons_self | with_reducible apply List.mem_cons_of_mem)) (by (try dsimp only [List.set]); repeat (first | with_reducible exact List.mem_cons_self | with_reducible apply List.mem_cons_of_mem))
        refine wp_region_tree (t2S bp r bc last) (.take 0 (.take 1 (.take 2 (.take 3 (.all [(4, .take 5 (.take 6 (.take 7 (.take 8 (.take 9 (.take 10 (.take 11 (.take 12 (.take 13 (.take 14 (.take 15 (.take 16 (.all [(17, DTree.done)])))))))))))))]))))) (by kernel_rfl) (by kernel_rfl) (by kernel_rfl) (fun _ _ d _ _ h => by cases d <;> exact h) hS0 ?_
        have hs' := hs.drew
        clear hs
        have hs := hs'
        clear hs'
        have hq := fun p : Prop => class_const hS0 p
        clear hS0
        repeat (first
          | (with_reducible refine tree_load (o := ⟨some 8, .load _ _, _, _, _, _⟩) rfl rfl rfl rfl rfl e8 ?_)
          | (with_reducible refine tree_load (o := ⟨some 9, .load _ _, _, _, _, _⟩) rfl rfl rfl rfl rfl e8 ?_)
          | (with_reducible refine tree_load (o := ⟨some 20, .load _ _, _, _, _, _⟩) rfl rfl rfl rfl rfl e20 ?_)
          | (refine tree_take rfl (fun K hK => ?_); go_simp; (first | with_reducible refine hK _ ?_ | (rw [if_neg (by decide)]; with_reducible refine hK _ ?_)); clear hK K))
        refine tree_one_yes (o := _) rfl rfl (fun K hK => ?_) (cS0 _ _ hs (by (try dsimp only [List.set]); repeat (first | with_reducible exact List.mem_cons_self | with_reducible apply List.mem_cons_of_mem)) (by (try dsimp only [List.set]); repeat (first | with_reducible exact List.mem_cons_self | with_reducible apply List.mem_cons_of_mem)))
        refine op_load rfl (ad := ⟨r, 1, none⟩) rfl (by kernel_rfl) (hs.cell (l := rdC ⟨rest2, false⟩) (t := 74) (by (try dsimp only [List.set]); repeat (first | with_reducible exact List.mem_cons_self | with_reducible apply List.mem_cons_of_mem)) rfl) (hK _ _ (cS0 _ _ hs (by (try dsimp only [List.set]); repeat (first | with_reducible exact List.mem_cons_self | with_reducible apply List.mem_cons_of_mem)) (by (try dsimp only [List.set]); repeat (first | with_reducible exact List.mem_cons_self | with_reducible apply List.mem_cons_of_mem))) ?_)
        clear hK K
        try go_simp
        repeat (first
          | (with_reducible refine tree_load (o := ⟨some 8, .load _ _, _, _, _, _⟩) rfl rfl rfl rfl rfl e8 ?_)
          | (with_reducible refine tree_load (o := ⟨some 9, .load _ _, _, _, _, _⟩) rfl rfl rfl rfl rfl e8 ?_)
          | (with_reducible refine tree_load (o := ⟨some 20, .load _ _, _, _, _, _⟩) rfl rfl rfl rfl rfl e20 ?_)
          | (refine tree_take rfl (fun K hK => ?_); go_simp; (first | with_reducible refine hK _ ?_ | (rw [if_neg (by decide)]; with_reducible refine hK _ ?_)); clear hK K))
        refine tree_one_yes (o := _) rfl rfl (fun K hK => ?_) (cS0 _ _ hs (by (try dsimp only [List.set]); repeat (first | with_reducible exact List.mem_cons_self | with_reducible apply List.mem_cons_of_mem)) (by (try dsimp only [List.set]); repeat (first | with_reducible exact List.mem_cons_self | with_reducible apply List.mem_cons_of_mem)))
        refine op_store (hs.pick (A := row r (rdC ⟨rest2, false⟩) 74) (by repeat (first | with_reducible exact Pick.here | with_reducible apply Pick.there))) rfl (b := r) (i := 1) (v := .bool true) rfl rfl rfl (by kernel_rfl) (k := 0) rfl (by simp [rdC]) fun w7 h => hK _ _ (cS0 _ _ h (by (try dsimp only [List.set]); repeat (first | with_reducible exact List.mem_cons_self | with_reducible apply List.mem_cons_of_mem)) (by (try dsimp only [List.set]); repeat (first | with_reducible exact List.mem_cons_self | with_reducible apply List.mem_cons_of_mem))) ?_
        clear hs hK K
        have hs := h
        clear h
        try dsimp only [List.set] at hs
        try go_simp
        refine tree_done ?_
        clear hq
        have hs1 : Sat W _ (row r (rdC ⟨rest2, true⟩) 74 :: _) := hs
        clear hs
        have hs := hs1
        clear hs1
        go_wp2_with fail
        have cS : ∀ w M, Sat W w M → row b2 [Value.int .i64 k.kind, .int .i64 k.a, .int .i64 k.b] 57 ∈ M → row bp [.pointer (some ⟨r, 0, none⟩)] 72 ∈ M → t1S b2 [Value.int .i64 k.kind, .int .i64 k.a, .int .i64 k.b] bp r w := fun w M h h1 h2 => ⟨range_whole h h1, h.cell h2 rfl⟩
        have d7 : ∀ w, t1S b2 [Value.int .i64 k.kind, .int .i64 k.a, .int .i64 k.b] bp r w → w.rangeAt b2 0 [Value.int .i64 k.kind, .int .i64 k.a, .int .i64 k.b] := fun w h => h.1
        have d8 : ∀ w, t1S b2 [Value.int .i64 k.kind, .int .i64 k.a, .int .i64 k.b] bp r w → w.cell? ⟨bp, 0, none⟩ = some (.pointer (some ⟨r, 0, none⟩)) := fun w h => h.2
        have hS0 := cS _ _ hs.drew (by (try dsimp only [List.set]); repeat (first | with_reducible exact List.mem_cons_self | with_reducible apply List.mem_cons_of_mem)) (by (try dsimp only [List.set]); repeat (first | with_reducible exact List.mem_cons_self | with_reducible apply List.mem_cons_of_mem))
        refine wp_region_tree (t1S b2 [Value.int .i64 k.kind, .int .i64 k.a, .int .i64 k.b] bp r) (.take 0 (.take 2 (.take 3 (.take 4 (.all [(1, .all [(5, .take 6 (.all [(7, .all [(8, .take 9 (.all [(10, DTree.done)]))])]))]), (5, .take 6 (.all [(1, .all [(7, .all [(8, .take 9 (.all [(10, DTree.done)]))])]), (7, .all [(1, .all [(8, .take 9 (.all [(10, DTree.done)]))])])]))]))))) (by kernel_rfl) (by kernel_rfl) (by kernel_rfl) (fun _ _ d _ _ h => by cases d <;> exact h) hS0 ?_
        have hs' := hs.drew
        clear hs
        have hs := hs'
        clear hs'
        have hq := fun p : Prop => class_const hS0 p
        clear hS0
        repeat (first
          | (with_reducible refine tree_load_agg (o := ⟨some 27, .load _ _, _, _, _, _⟩) [Value.int .i64 k.kind, .int .i64 k.a, .int .i64 k.b] rfl rfl rfl rfl ?_ ?_ d7 ?_; (kernel_rfl); (kernel_rfl))
          | (with_reducible refine tree_load (o := ⟨some 29, .load _ _, _, _, _, _⟩) rfl rfl rfl rfl rfl d8 ?_)
          | (refine tree_take rfl (fun K hK => ?_); go_simp; (first | with_reducible refine hK _ ?_ | (rw [if_neg (by decide)]; with_reducible refine hK _ ?_)); clear hK K))
        refine tree_all (trees_cons_yes (o := _) rfl rfl (fun K hK => ?_) (cS _ _ hs (by (try dsimp only [List.set]); repeat (first | with_reducible exact List.mem_cons_self | with_reducible apply List.mem_cons_of_mem)) (by (try dsimp only [List.set]); repeat (first | with_reducible exact List.mem_cons_self | with_reducible apply List.mem_cons_of_mem))) (trees_cons_yes (o := _) rfl rfl (fun K hK => ?_) (cS _ _ hs (by (try dsimp only [List.set]); repeat (first | with_reducible exact List.mem_cons_self | with_reducible apply List.mem_cons_of_mem)) (by (try dsimp only [List.set]); repeat (first | with_reducible exact List.mem_cons_self | with_reducible apply List.mem_cons_of_mem))) trees_nil))
        · refine op_load rfl (ad := ⟨bc, 3, none⟩) rfl (by kernel_rfl) (hs.cell (l := stRow last ep lo (.slice A acc.length ca)) (t := 43) (by (try dsimp only [List.set]); repeat (first | with_reducible exact List.mem_cons_self | with_reducible apply List.mem_cons_of_mem)) rfl) (hK _ _ (cS _ _ hs (by (try dsimp only [List.set]); repeat (first | with_reducible exact List.mem_cons_self | with_reducible apply List.mem_cons_of_mem)) (by (try dsimp only [List.set]); repeat (first | with_reducible exact List.mem_cons_self | with_reducible apply List.mem_cons_of_mem))) ?_)
          clear hK K
          try go_simp
          refine tree_one_yes (o := _) rfl rfl (fun K hK => ?_) (cS _ _ hs (by (try dsimp only [List.set]); repeat (first | with_reducible exact List.mem_cons_self | with_reducible apply List.mem_cons_of_mem)) (by (try dsimp only [List.set]); repeat (first | with_reducible exact List.mem_cons_self | with_reducible apply List.mem_cons_of_mem)))
          try go_simp
          go_at_call 36
          refine (HT.out _ _ (hs.pick (A := row r (rdC ⟨rest2, true⟩) 74) (by repeat (first | with_reducible exact Pick.here | with_reducible apply Pick.there))) (by (try dsimp only [List.set]); repeat (first | exact hold | apply List.mem_cons_of_mem))).mono ?_
          clear hs
          rintro e w5 ⟨rfl, hs⟩
          try go_simp
          refine hK _ _ (cS _ _ hs (by (try dsimp only [List.set]); repeat (first | with_reducible exact List.mem_cons_self | with_reducible apply List.mem_cons_of_mem)) (by (try dsimp only [List.set]); repeat (first | with_reducible exact List.mem_cons_self | with_reducible apply List.mem_cons_of_mem))) ?_
          clear hK K
          repeat (first
            | (with_reducible refine tree_load_agg (o := ⟨some 27, .load _ _, _, _, _, _⟩) [Value.int .i64 k.kind, .int .i64 k.a, .int .i64 k.b] rfl rfl rfl rfl ?_ ?_ d7 ?_; (kernel_rfl); (kernel_rfl))
            | (with_reducible refine tree_load (o := ⟨some 29, .load _ _, _, _, _, _⟩) rfl rfl rfl rfl rfl d8 ?_)
            | (refine tree_take rfl (fun K hK => ?_); go_simp; (first | with_reducible refine hK _ ?_ | (rw [if_neg (by decide)]; with_reducible refine hK _ ?_)); clear hK K))
          refine tree_one_yes (o := _) rfl rfl (fun K hK => ?_) (cS _ _ hs (by (try dsimp only [List.set]); repeat (first | with_reducible exact List.mem_cons_self | with_reducible apply List.mem_cons_of_mem)) (by (try dsimp only [List.set]); repeat (first | with_reducible exact List.mem_cons_self | with_reducible apply List.mem_cons_of_mem)))
          refine op_lit_agg1 hs rfl Tryd.underlying41 info_cell (cC ⟨k, ts, tx⟩) rfl rfl (by omega) (by omega) fun b11 w1 h => hK _ _ (cS _ _ h (by (try dsimp only [List.set]); repeat (first | with_reducible exact List.mem_cons_self | with_reducible apply List.mem_cons_of_mem)) (by (try dsimp only [List.set]); repeat (first | with_reducible exact List.mem_cons_self | with_reducible apply List.mem_cons_of_mem))) ?_
          clear hs hK K
          have hs := h
          clear h
          try dsimp only [List.set] at hs
          try go_simp
          refine tree_one_yes (o := _) rfl rfl (fun K hK => ?_) (cS _ _ hs (by (try dsimp only [List.set]); repeat (first | with_reducible exact List.mem_cons_self | with_reducible apply List.mem_cons_of_mem)) (by (try dsimp only [List.set]); repeat (first | with_reducible exact List.mem_cons_self | with_reducible apply List.mem_cons_of_mem)))
          refine op_append (hs.pick (A := own (.slice A acc.length ca) 59 acc.length 5 (csC acc)) (by repeat (first | with_reducible exact Pick.here | with_reducible apply Pick.there))) rfl Tryd.underlying41 Tryd.underlying41 info_cell rfl (by omega) (k := 0) rfl rfl rfl (Has.of (A := row b11 (cC ⟨k, ts, tx⟩) 59) (by (try dsimp only [List.set]); repeat (first | with_reducible exact List.mem_cons_self | with_reducible apply List.mem_cons_of_mem)) fun F hF => own_sliceAt F (own_exact (n := 1) (sz := 5) rfl (by omega) F hF)) (by simp [cC, Value.oneCell']) (by omega) (by omega) fun v12 w2 h => hK _ _ (cS _ _ h (by (try dsimp only [List.set]); repeat (first | with_reducible exact List.mem_cons_self | with_reducible apply List.mem_cons_of_mem)) (by (try dsimp only [List.set]); repeat (first | with_reducible exact List.mem_cons_self | with_reducible apply List.mem_cons_of_mem))) ?_
          clear hs hK K
          have hs := h
          clear h
          try dsimp only [List.set] at hs
          obtain ⟨A12, c12, rfl, _, _⟩ := own_slice hs (i := 0) rfl
          try go_simp
          repeat (first
            | (with_reducible refine tree_load_agg (o := ⟨some 27, .load _ _, _, _, _, _⟩) [Value.int .i64 k.kind, .int .i64 k.a, .int .i64 k.b] rfl rfl rfl rfl ?_ ?_ d7 ?_; (kernel_rfl); (kernel_rfl))
            | (with_reducible refine tree_load (o := ⟨some 29, .load _ _, _, _, _, _⟩) rfl rfl rfl rfl rfl d8 ?_)
            | (refine tree_take rfl (fun K hK => ?_); go_simp; (first | with_reducible refine hK _ ?_ | (rw [if_neg (by decide)]; with_reducible refine hK _ ?_)); clear hK K))
          refine tree_one_yes (o := _) rfl rfl (fun K hK => ?_) (cS _ _ hs (by (try dsimp only [List.set]); repeat (first | with_reducible exact List.mem_cons_self | with_reducible apply List.mem_cons_of_mem)) (by (try dsimp only [List.set]); repeat (first | with_reducible exact List.mem_cons_self | with_reducible apply List.mem_cons_of_mem)))
          refine op_store (hs.pick (A := row bc (stRow last ep lo (.slice A acc.length ca)) 43) (by repeat (first | with_reducible exact Pick.here | with_reducible apply Pick.there))) rfl (b := bc) (i := 3) (v := .slice A12 (acc.length + 1) c12) rfl rfl rfl (by kernel_rfl) (k := 0) rfl (by simp [stRow]) fun w7 h => hK _ _ (cS _ _ h (by (try dsimp only [List.set]); repeat (first | with_reducible exact List.mem_cons_self | with_reducible apply List.mem_cons_of_mem)) (by (try dsimp only [List.set]); repeat (first | with_reducible exact List.mem_cons_self | with_reducible apply List.mem_cons_of_mem))) ?_
          clear hs hK K
          have hs := h
          clear h
          try dsimp only [List.set] at hs
          change Sat W _ (row bc (stRow last ep lo (.slice A12 (acc.length + 1) c12)) 43 :: _) at hs
          try go_simp
          refine tree_done ?_
          clear hq
          go_wp2_with fail
          refine bodyPost_end (results_none rfl _ _ _) rfl ⟨.slice A12 (acc.length + 1) c12, rfl, ?_⟩
          rw [show (acc ++ [(⟨k, ts, tx⟩ : RCl)]).length = acc.length + 1 by simp, csC_snoc]
          exact hs.pack (L := row bp [.pointer (some ⟨r, 0, none⟩)] 72 :: row r (rdC s4) 74 :: row bc (stRow last ep lo (.slice A12 (acc.length + 1) c12)) 43 :: own (.slice A12 (acc.length + 1) c12) 59 (acc.length + 1) 5 (csC acc ++ cC ⟨k, ts, tx⟩) :: M) (by repeat (first | with_reducible exact Pack.refl | with_reducible exact Pack.nil | with_reducible refine Pack.cons (by repeat (first | with_reducible exact Pick.here | with_reducible apply Pick.there)) ?_ | with_reducible apply Pack.drop))
        · try go_simp
          go_at_call 36
          refine (HT.out _ _ (hs.pick (A := row r (rdC ⟨rest2, true⟩) 74) (by repeat (first | with_reducible exact Pick.here | with_reducible apply Pick.there))) (by (try dsimp only [List.set]); repeat (first | exact hold | apply List.mem_cons_of_mem))).mono ?_
          clear hs
          rintro e w5 ⟨rfl, hs⟩
          try go_simp
          refine hK _ _ (cS _ _ hs (by (try dsimp only [List.set]); repeat (first | with_reducible exact List.mem_cons_self | with_reducible apply List.mem_cons_of_mem)) (by (try dsimp only [List.set]); repeat (first | with_reducible exact List.mem_cons_self | with_reducible apply List.mem_cons_of_mem))) ?_
          clear hK K
          repeat (first
            | (with_reducible refine tree_load_agg (o := ⟨some 27, .load _ _, _, _, _, _⟩) [Value.int .i64 k.kind, .int .i64 k.a, .int .i64 k.b] rfl rfl rfl rfl ?_ ?_ d7 ?_; (kernel_rfl); (kernel_rfl))
            | (with_reducible refine tree_load (o := ⟨some 29, .load _ _, _, _, _, _⟩) rfl rfl rfl rfl rfl d8 ?_)
            | (refine tree_take rfl (fun K hK => ?_); go_simp; (first | with_reducible refine hK _ ?_ | (rw [if_neg (by decide)]; with_reducible refine hK _ ?_)); clear hK K))
          refine tree_all (trees_cons_yes (o := _) rfl rfl (fun K hK => ?_) (cS _ _ hs (by (try dsimp only [List.set]); repeat (first | with_reducible exact List.mem_cons_self | with_reducible apply List.mem_cons_of_mem)) (by (try dsimp only [List.set]); repeat (first | with_reducible exact List.mem_cons_self | with_reducible apply List.mem_cons_of_mem))) (trees_cons_yes (o := _) rfl rfl (fun K hK => ?_) (cS _ _ hs (by (try dsimp only [List.set]); repeat (first | with_reducible exact List.mem_cons_self | with_reducible apply List.mem_cons_of_mem)) (by (try dsimp only [List.set]); repeat (first | with_reducible exact List.mem_cons_self | with_reducible apply List.mem_cons_of_mem))) trees_nil))
          · refine op_load rfl (ad := ⟨bc, 3, none⟩) rfl (by kernel_rfl) (hs.cell (l := stRow last ep lo (.slice A acc.length ca)) (t := 43) (by (try dsimp only [List.set]); repeat (first | with_reducible exact List.mem_cons_self | with_reducible apply List.mem_cons_of_mem)) rfl) (hK _ _ (cS _ _ hs (by (try dsimp only [List.set]); repeat (first | with_reducible exact List.mem_cons_self | with_reducible apply List.mem_cons_of_mem)) (by (try dsimp only [List.set]); repeat (first | with_reducible exact List.mem_cons_self | with_reducible apply List.mem_cons_of_mem))) ?_)
            clear hK K
            try go_simp
            refine tree_one_yes (o := _) rfl rfl (fun K hK => ?_) (cS _ _ hs (by (try dsimp only [List.set]); repeat (first | with_reducible exact List.mem_cons_self | with_reducible apply List.mem_cons_of_mem)) (by (try dsimp only [List.set]); repeat (first | with_reducible exact List.mem_cons_self | with_reducible apply List.mem_cons_of_mem)))
            refine op_lit_agg1 hs rfl Tryd.underlying41 info_cell (cC ⟨k, ts, tx⟩) rfl rfl (by omega) (by omega) fun b11 w1 h => hK _ _ (cS _ _ h (by (try dsimp only [List.set]); repeat (first | with_reducible exact List.mem_cons_self | with_reducible apply List.mem_cons_of_mem)) (by (try dsimp only [List.set]); repeat (first | with_reducible exact List.mem_cons_self | with_reducible apply List.mem_cons_of_mem))) ?_
            clear hs hK K
            have hs := h
            clear h
            try dsimp only [List.set] at hs
            try go_simp
            refine tree_one_yes (o := _) rfl rfl (fun K hK => ?_) (cS _ _ hs (by (try dsimp only [List.set]); repeat (first | with_reducible exact List.mem_cons_self | with_reducible apply List.mem_cons_of_mem)) (by (try dsimp only [List.set]); repeat (first | with_reducible exact List.mem_cons_self | with_reducible apply List.mem_cons_of_mem)))
            refine op_append (hs.pick (A := own (.slice A acc.length ca) 59 acc.length 5 (csC acc)) (by repeat (first | with_reducible exact Pick.here | with_reducible apply Pick.there))) rfl Tryd.underlying41 Tryd.underlying41 info_cell rfl (by omega) (k := 0) rfl rfl rfl (Has.of (A := row b11 (cC ⟨k, ts, tx⟩) 59) (by (try dsimp only [List.set]); repeat (first | with_reducible exact List.mem_cons_self | with_reducible apply List.mem_cons_of_mem)) fun F hF => own_sliceAt F (own_exact (n := 1) (sz := 5) rfl (by omega) F hF)) (by simp [cC, Value.oneCell']) (by omega) (by omega) fun v12 w2 h => hK _ _ (cS _ _ h (by (try dsimp only [List.set]); repeat (first | with_reducible exact List.mem_cons_self | with_reducible apply List.mem_cons_of_mem)) (by (try dsimp only [List.set]); repeat (first | with_reducible exact List.mem_cons_self | with_reducible apply List.mem_cons_of_mem))) ?_
            clear hs hK K
            have hs := h
            clear h
            try dsimp only [List.set] at hs
            obtain ⟨A12, c12, rfl, _, _⟩ := own_slice hs (i := 0) rfl
            try go_simp
            repeat (first
              | (with_reducible refine tree_load_agg (o := ⟨some 27, .load _ _, _, _, _, _⟩) [Value.int .i64 k.kind, .int .i64 k.a, .int .i64 k.b] rfl rfl rfl rfl ?_ ?_ d7 ?_; (kernel_rfl); (kernel_rfl))
              | (with_reducible refine tree_load (o := ⟨some 29, .load _ _, _, _, _, _⟩) rfl rfl rfl rfl rfl d8 ?_)
              | (refine tree_take rfl (fun K hK => ?_); go_simp; (first | with_reducible refine hK _ ?_ | (rw [if_neg (by decide)]; with_reducible refine hK _ ?_)); clear hK K))
            refine tree_one_yes (o := _) rfl rfl (fun K hK => ?_) (cS _ _ hs (by (try dsimp only [List.set]); repeat (first | with_reducible exact List.mem_cons_self | with_reducible apply List.mem_cons_of_mem)) (by (try dsimp only [List.set]); repeat (first | with_reducible exact List.mem_cons_self | with_reducible apply List.mem_cons_of_mem)))
            refine op_store (hs.pick (A := row bc (stRow last ep lo (.slice A acc.length ca)) 43) (by repeat (first | with_reducible exact Pick.here | with_reducible apply Pick.there))) rfl (b := bc) (i := 3) (v := .slice A12 (acc.length + 1) c12) rfl rfl rfl (by kernel_rfl) (k := 0) rfl (by simp [stRow]) fun w7 h => hK _ _ (cS _ _ h (by (try dsimp only [List.set]); repeat (first | with_reducible exact List.mem_cons_self | with_reducible apply List.mem_cons_of_mem)) (by (try dsimp only [List.set]); repeat (first | with_reducible exact List.mem_cons_self | with_reducible apply List.mem_cons_of_mem))) ?_
            clear hs hK K
            have hs := h
            clear h
            try dsimp only [List.set] at hs
            change Sat W _ (row bc (stRow last ep lo (.slice A12 (acc.length + 1) c12)) 43 :: _) at hs
            try go_simp
            refine tree_done ?_
            clear hq
            go_wp2_with fail
            refine bodyPost_end (results_none rfl _ _ _) rfl ⟨.slice A12 (acc.length + 1) c12, rfl, ?_⟩
            rw [show (acc ++ [(⟨k, ts, tx⟩ : RCl)]).length = acc.length + 1 by simp, csC_snoc]
            exact hs.pack (L := row bp [.pointer (some ⟨r, 0, none⟩)] 72 :: row r (rdC s4) 74 :: row bc (stRow last ep lo (.slice A12 (acc.length + 1) c12)) 43 :: own (.slice A12 (acc.length + 1) c12) 59 (acc.length + 1) 5 (csC acc ++ cC ⟨k, ts, tx⟩) :: M) (by repeat (first | with_reducible exact Pack.refl | with_reducible exact Pack.nil | with_reducible refine Pack.cons (by repeat (first | with_reducible exact Pick.here | with_reducible apply Pick.there)) ?_ | with_reducible apply Pack.drop))
          · refine op_lit_agg1 hs rfl Tryd.underlying41 info_cell (cC ⟨k, ts, tx⟩) rfl rfl (by omega) (by omega) fun b11 w1 h => hK _ _ (cS _ _ h (by (try dsimp only [List.set]); repeat (first | with_reducible exact List.mem_cons_self | with_reducible apply List.mem_cons_of_mem)) (by (try dsimp only [List.set]); repeat (first | with_reducible exact List.mem_cons_self | with_reducible apply List.mem_cons_of_mem))) ?_
            clear hs hK K
            have hs := h
            clear h
            try dsimp only [List.set] at hs
            try go_simp
            refine tree_one_yes (o := _) rfl rfl (fun K hK => ?_) (cS _ _ hs (by (try dsimp only [List.set]); repeat (first | with_reducible exact List.mem_cons_self | with_reducible apply List.mem_cons_of_mem)) (by (try dsimp only [List.set]); repeat (first | with_reducible exact List.mem_cons_self | with_reducible apply List.mem_cons_of_mem)))
            refine op_load rfl (ad := ⟨bc, 3, none⟩) rfl (by kernel_rfl) (hs.cell (l := stRow last ep lo (.slice A acc.length ca)) (t := 43) (by (try dsimp only [List.set]); repeat (first | with_reducible exact List.mem_cons_self | with_reducible apply List.mem_cons_of_mem)) rfl) (hK _ _ (cS _ _ hs (by (try dsimp only [List.set]); repeat (first | with_reducible exact List.mem_cons_self | with_reducible apply List.mem_cons_of_mem)) (by (try dsimp only [List.set]); repeat (first | with_reducible exact List.mem_cons_self | with_reducible apply List.mem_cons_of_mem))) ?_)
            clear hK K
            try go_simp
            refine tree_one_yes (o := _) rfl rfl (fun K hK => ?_) (cS _ _ hs (by (try dsimp only [List.set]); repeat (first | with_reducible exact List.mem_cons_self | with_reducible apply List.mem_cons_of_mem)) (by (try dsimp only [List.set]); repeat (first | with_reducible exact List.mem_cons_self | with_reducible apply List.mem_cons_of_mem)))
            refine op_append (hs.pick (A := own (.slice A acc.length ca) 59 acc.length 5 (csC acc)) (by repeat (first | with_reducible exact Pick.here | with_reducible apply Pick.there))) rfl Tryd.underlying41 Tryd.underlying41 info_cell rfl (by omega) (k := 0) rfl rfl rfl (Has.of (A := row b11 (cC ⟨k, ts, tx⟩) 59) (by (try dsimp only [List.set]); repeat (first | with_reducible exact List.mem_cons_self | with_reducible apply List.mem_cons_of_mem)) fun F hF => own_sliceAt F (own_exact (n := 1) (sz := 5) rfl (by omega) F hF)) (by simp [cC, Value.oneCell']) (by omega) (by omega) fun v12 w2 h => hK _ _ (cS _ _ h (by (try dsimp only [List.set]); repeat (first | with_reducible exact List.mem_cons_self | with_reducible apply List.mem_cons_of_mem)) (by (try dsimp only [List.set]); repeat (first | with_reducible exact List.mem_cons_self | with_reducible apply List.mem_cons_of_mem))) ?_
            clear hs hK K
            have hs := h
            clear h
            try dsimp only [List.set] at hs
            obtain ⟨A12, c12, rfl, _, _⟩ := own_slice hs (i := 0) rfl
            try go_simp
            repeat (first
              | (with_reducible refine tree_load_agg (o := ⟨some 27, .load _ _, _, _, _, _⟩) [Value.int .i64 k.kind, .int .i64 k.a, .int .i64 k.b] rfl rfl rfl rfl ?_ ?_ d7 ?_; (kernel_rfl); (kernel_rfl))
              | (with_reducible refine tree_load (o := ⟨some 29, .load _ _, _, _, _, _⟩) rfl rfl rfl rfl rfl d8 ?_)
              | (refine tree_take rfl (fun K hK => ?_); go_simp; (first | with_reducible refine hK _ ?_ | (rw [if_neg (by decide)]; with_reducible refine hK _ ?_)); clear hK K))
            refine tree_one_yes (o := _) rfl rfl (fun K hK => ?_) (cS _ _ hs (by (try dsimp only [List.set]); repeat (first | with_reducible exact List.mem_cons_self | with_reducible apply List.mem_cons_of_mem)) (by (try dsimp only [List.set]); repeat (first | with_reducible exact List.mem_cons_self | with_reducible apply List.mem_cons_of_mem)))
            refine op_store (hs.pick (A := row bc (stRow last ep lo (.slice A acc.length ca)) 43) (by repeat (first | with_reducible exact Pick.here | with_reducible apply Pick.there))) rfl (b := bc) (i := 3) (v := .slice A12 (acc.length + 1) c12) rfl rfl rfl (by kernel_rfl) (k := 0) rfl (by simp [stRow]) fun w7 h => hK _ _ (cS _ _ h (by (try dsimp only [List.set]); repeat (first | with_reducible exact List.mem_cons_self | with_reducible apply List.mem_cons_of_mem)) (by (try dsimp only [List.set]); repeat (first | with_reducible exact List.mem_cons_self | with_reducible apply List.mem_cons_of_mem))) ?_
            clear hs hK K
            have hs := h
            clear h
            try dsimp only [List.set] at hs
            change Sat W _ (row bc (stRow last ep lo (.slice A12 (acc.length + 1) c12)) 43 :: _) at hs
            try go_simp
            refine tree_done ?_
            clear hq
            go_wp2_with fail
            refine bodyPost_end (results_none rfl _ _ _) rfl ⟨.slice A12 (acc.length + 1) c12, rfl, ?_⟩
            rw [show (acc ++ [(⟨k, ts, tx⟩ : RCl)]).length = acc.length + 1 by simp, csC_snoc]
            exact hs.pack (L := row bp [.pointer (some ⟨r, 0, none⟩)] 72 :: row r (rdC s4) 74 :: row bc (stRow last ep lo (.slice A12 (acc.length + 1) c12)) 43 :: own (.slice A12 (acc.length + 1) c12) 59 (acc.length + 1) 5 (csC acc ++ cC ⟨k, ts, tx⟩) :: M) (by repeat (first | with_reducible exact Pack.refl | with_reducible exact Pack.nil | with_reducible refine Pack.cons (by repeat (first | with_reducible exact Pick.here | with_reducible apply Pick.there)) ?_ | with_reducible apply Pack.drop))
      | false =>
        have hlt : ¬ last < ts := by simpa using hq2
        clear hq2
        go_enter Tryd.func64, Tryd.ntmps64
        go_wp2_with (first
          | (guard_target = wpList _ _ _ (⟨some 4, .load _ _, _, _, _, _⟩ :: _) _ _; refine wpl (o := ⟨some 4, .load _ _, _, _, _, _⟩) rfl fun K hK => op_load rfl (ad := ⟨bp, 0, none⟩) rfl (by kernel_rfl) (hs.cell (l := [.pointer (some ⟨r, 0, none⟩)]) (t := 72) (by (try dsimp only [List.set]); repeat (first | with_reducible exact List.mem_cons_self | with_reducible apply List.mem_cons_of_mem)) rfl) (hK _ _ ?_); clear hK K)
          | (guard_target = wpList _ _ _ (⟨some 6, .load _ _, _, _, _, _⟩ :: _) _ _; refine wpl (o := ⟨some 6, .load _ _, _, _, _, _⟩) rfl fun K hK => op_load rfl (ad := ⟨bp, 0, none⟩) rfl (by kernel_rfl) (hs.cell (l := [.pointer (some ⟨r, 0, none⟩)]) (t := 72) (by (try dsimp only [List.set]); repeat (first | with_reducible exact List.mem_cons_self | with_reducible apply List.mem_cons_of_mem)) rfl) (hK _ _ ?_); clear hK K)
          | (go_at_call 35; go_must (refine (HK.out _ _ (hs.pick (A := row r (rdC s) 74) (by repeat (first | with_reducible exact Pick.here | with_reducible apply Pick.there)))).mono ?_); clear hs; rintro e w1 ⟨rfl, hs⟩)
          | (guard_target = wpList _ _ _ (⟨some 2, .alloc _, _, _, _, _⟩ :: _) _ _; refine wpl (o := ⟨some 2, .alloc _, _, _, _, _⟩) rfl fun K hK => ?_; go_must (refine op_alloc hs rfl _ zkey [Value.int .i64 0, .int .i64 0, .int .i64 0] rfl fun b2 w1 h => hK _ _ ?_); clear hs hK K; have hs := h; clear h; try dsimp only [List.set] at hs)
          | (guard_target = wpList _ _ _ (⟨none, .store _ (.tmp 2) _, _, _, _, _⟩ :: _) _ _; refine wpl (o := ⟨none, .store _ (.tmp 2) _, _, _, _, _⟩) rfl fun K hK => ?_; go_must (refine op_store_whole (hs.pick (A := row b2 [Value.int .i64 0, .int .i64 0, .int .i64 0] 57) (by repeat (first | with_reducible exact Pick.here | with_reducible apply Pick.there))) (b := b2) rfl rfl [Value.int .i64 k.kind, .int .i64 k.a, .int .i64 k.b] rfl (by simp [Value.oneCell']) (by kernel_rfl) (k := 0) rfl rfl fun w3 h => hK _ _ ?_); clear hs hK K; have hs := h; clear h; try dsimp only [List.set] at hs)
          | (go_at_call 31; go_must (refine (HI.out _ _ (hs.pick (A := row r (rdC s1) 74) (by repeat (first | with_reducible exact Pick.here | with_reducible apply Pick.there)))).mono ?_); clear hs; rintro e w1 ⟨rfl, hs⟩; change Sat W _ (row r (rdC ⟨rest2, false⟩) 74 :: _) at hs))
        have u1 : ¬ ts < 0 := by omega
        have u2 : ¬ last < ts := by omega
        have cS0 : ∀ w M, Sat W w M → row bp [.pointer (some ⟨r, 0, none⟩)] 72 ∈ M → row bc (stRow last ep lo (.slice A acc.length ca)) 43 ∈ M → t2S bp r bc last w := fun w M h h1 h2 => ⟨h.cell h1 rfl, h.cell h2 rfl⟩
        have e8 : ∀ w, t2S bp r bc last w → w.cell? ⟨bp, 0, none⟩ = some (.pointer (some ⟨r, 0, none⟩)) := fun w h => h.1
        have e20 : ∀ w, t2S bp r bc last w → w.cell? ⟨bc, 0, none⟩ = some (.int .i64 last) := fun w h => h.2
        have hS0 := cS0 _ _ hs.drew (by (try dsimp only [List.set]); repeat (first | with_reducible exact List.mem_cons_self | with_reducible apply List.mem_cons_of_mem)) (by (try dsimp only [List.set]); repeat (first | with_reducible exact List.mem_cons_self | with_reducible apply List.mem_cons_of_mem))
        refine wp_region_tree (t2S bp r bc last) (.take 0 (.take 1 (.take 2 (.take 3 (.all [(4, .take 5 (.take 6 (.take 7 (.take 8 (.take 9 (.take 10 (.take 11 (.take 12 (.take 13 (.take 14 (.take 15 (.take 16 (.all [(17, DTree.done)])))))))))))))]))))) (by kernel_rfl) (by kernel_rfl) (by kernel_rfl) (fun _ _ d _ _ h => by cases d <;> exact h) hS0 ?_
        have hs' := hs.drew
        clear hs
        have hs := hs'
        clear hs'
        have hq := fun p : Prop => class_const hS0 p
        clear hS0
        repeat (first
          | (with_reducible refine tree_load (o := ⟨some 8, .load _ _, _, _, _, _⟩) rfl rfl rfl rfl rfl e8 ?_)
          | (with_reducible refine tree_load (o := ⟨some 9, .load _ _, _, _, _, _⟩) rfl rfl rfl rfl rfl e8 ?_)
          | (with_reducible refine tree_load (o := ⟨some 20, .load _ _, _, _, _, _⟩) rfl rfl rfl rfl rfl e20 ?_)
          | (refine tree_take rfl (fun K hK => ?_); go_simp; (first | with_reducible refine hK _ ?_ | (rw [if_neg (by decide)]; with_reducible refine hK _ ?_)); clear hK K))
        refine tree_one_yes (o := _) rfl rfl (fun K hK => ?_) (cS0 _ _ hs (by (try dsimp only [List.set]); repeat (first | with_reducible exact List.mem_cons_self | with_reducible apply List.mem_cons_of_mem)) (by (try dsimp only [List.set]); repeat (first | with_reducible exact List.mem_cons_self | with_reducible apply List.mem_cons_of_mem)))
        refine op_load rfl (ad := ⟨r, 1, none⟩) rfl (by kernel_rfl) (hs.cell (l := rdC ⟨rest2, false⟩) (t := 74) (by (try dsimp only [List.set]); repeat (first | with_reducible exact List.mem_cons_self | with_reducible apply List.mem_cons_of_mem)) rfl) (hK _ _ (cS0 _ _ hs (by (try dsimp only [List.set]); repeat (first | with_reducible exact List.mem_cons_self | with_reducible apply List.mem_cons_of_mem)) (by (try dsimp only [List.set]); repeat (first | with_reducible exact List.mem_cons_self | with_reducible apply List.mem_cons_of_mem))) ?_)
        clear hK K
        try go_simp
        repeat (first
          | (with_reducible refine tree_load (o := ⟨some 8, .load _ _, _, _, _, _⟩) rfl rfl rfl rfl rfl e8 ?_)
          | (with_reducible refine tree_load (o := ⟨some 9, .load _ _, _, _, _, _⟩) rfl rfl rfl rfl rfl e8 ?_)
          | (with_reducible refine tree_load (o := ⟨some 20, .load _ _, _, _, _, _⟩) rfl rfl rfl rfl rfl e20 ?_)
          | (refine tree_take rfl (fun K hK => ?_); go_simp; (first | with_reducible refine hK _ ?_ | (rw [if_neg (by decide)]; with_reducible refine hK _ ?_)); clear hK K))
        refine tree_one_yes (o := _) rfl rfl (fun K hK => ?_) (cS0 _ _ hs (by (try dsimp only [List.set]); repeat (first | with_reducible exact List.mem_cons_self | with_reducible apply List.mem_cons_of_mem)) (by (try dsimp only [List.set]); repeat (first | with_reducible exact List.mem_cons_self | with_reducible apply List.mem_cons_of_mem)))
        refine op_store (hs.pick (A := row r (rdC ⟨rest2, false⟩) 74) (by repeat (first | with_reducible exact Pick.here | with_reducible apply Pick.there))) rfl (b := r) (i := 1) (v := .bool false) rfl rfl rfl (by kernel_rfl) (k := 0) rfl (by simp [rdC]) fun w7 h => hK _ _ (cS0 _ _ h (by (try dsimp only [List.set]); repeat (first | with_reducible exact List.mem_cons_self | with_reducible apply List.mem_cons_of_mem)) (by (try dsimp only [List.set]); repeat (first | with_reducible exact List.mem_cons_self | with_reducible apply List.mem_cons_of_mem))) ?_
        clear hs hK K
        have hs := h
        clear h
        try dsimp only [List.set] at hs
        try go_simp
        refine tree_done ?_
        clear hq
        have hs1 : Sat W _ (row r (rdC ⟨rest2, false⟩) 74 :: _) := hs
        clear hs
        have hs := hs1
        clear hs1
        go_wp2_with fail
        have cS : ∀ w M, Sat W w M → row b2 [Value.int .i64 k.kind, .int .i64 k.a, .int .i64 k.b] 57 ∈ M → row bp [.pointer (some ⟨r, 0, none⟩)] 72 ∈ M → t1S b2 [Value.int .i64 k.kind, .int .i64 k.a, .int .i64 k.b] bp r w := fun w M h h1 h2 => ⟨range_whole h h1, h.cell h2 rfl⟩
        have d7 : ∀ w, t1S b2 [Value.int .i64 k.kind, .int .i64 k.a, .int .i64 k.b] bp r w → w.rangeAt b2 0 [Value.int .i64 k.kind, .int .i64 k.a, .int .i64 k.b] := fun w h => h.1
        have d8 : ∀ w, t1S b2 [Value.int .i64 k.kind, .int .i64 k.a, .int .i64 k.b] bp r w → w.cell? ⟨bp, 0, none⟩ = some (.pointer (some ⟨r, 0, none⟩)) := fun w h => h.2
        have hS0 := cS _ _ hs.drew (by (try dsimp only [List.set]); repeat (first | with_reducible exact List.mem_cons_self | with_reducible apply List.mem_cons_of_mem)) (by (try dsimp only [List.set]); repeat (first | with_reducible exact List.mem_cons_self | with_reducible apply List.mem_cons_of_mem))
        refine wp_region_tree (t1S b2 [Value.int .i64 k.kind, .int .i64 k.a, .int .i64 k.b] bp r) (.take 0 (.take 2 (.take 3 (.take 4 (.all [(1, .all [(5, .take 6 (.all [(7, .all [(8, .take 9 (.all [(10, DTree.done)]))])]))]), (5, .take 6 (.all [(1, .all [(7, .all [(8, .take 9 (.all [(10, DTree.done)]))])]), (7, .all [(1, .all [(8, .take 9 (.all [(10, DTree.done)]))])])]))]))))) (by kernel_rfl) (by kernel_rfl) (by kernel_rfl) (fun _ _ d _ _ h => by cases d <;> exact h) hS0 ?_
        have hs' := hs.drew
        clear hs
        have hs := hs'
        clear hs'
        have hq := fun p : Prop => class_const hS0 p
        clear hS0
        repeat (first
          | (with_reducible refine tree_load_agg (o := ⟨some 27, .load _ _, _, _, _, _⟩) [Value.int .i64 k.kind, .int .i64 k.a, .int .i64 k.b] rfl rfl rfl rfl ?_ ?_ d7 ?_; (kernel_rfl); (kernel_rfl))
          | (with_reducible refine tree_load (o := ⟨some 29, .load _ _, _, _, _, _⟩) rfl rfl rfl rfl rfl d8 ?_)
          | (refine tree_take rfl (fun K hK => ?_); go_simp; (first | with_reducible refine hK _ ?_ | (rw [if_neg (by decide)]; with_reducible refine hK _ ?_)); clear hK K))
        refine tree_all (trees_cons_yes (o := _) rfl rfl (fun K hK => ?_) (cS _ _ hs (by (try dsimp only [List.set]); repeat (first | with_reducible exact List.mem_cons_self | with_reducible apply List.mem_cons_of_mem)) (by (try dsimp only [List.set]); repeat (first | with_reducible exact List.mem_cons_self | with_reducible apply List.mem_cons_of_mem))) (trees_cons_yes (o := _) rfl rfl (fun K hK => ?_) (cS _ _ hs (by (try dsimp only [List.set]); repeat (first | with_reducible exact List.mem_cons_self | with_reducible apply List.mem_cons_of_mem)) (by (try dsimp only [List.set]); repeat (first | with_reducible exact List.mem_cons_self | with_reducible apply List.mem_cons_of_mem))) trees_nil))
        · refine op_load rfl (ad := ⟨bc, 3, none⟩) rfl (by kernel_rfl) (hs.cell (l := stRow last ep lo (.slice A acc.length ca)) (t := 43) (by (try dsimp only [List.set]); repeat (first | with_reducible exact List.mem_cons_self | with_reducible apply List.mem_cons_of_mem)) rfl) (hK _ _ (cS _ _ hs (by (try dsimp only [List.set]); repeat (first | with_reducible exact List.mem_cons_self | with_reducible apply List.mem_cons_of_mem)) (by (try dsimp only [List.set]); repeat (first | with_reducible exact List.mem_cons_self | with_reducible apply List.mem_cons_of_mem))) ?_)
          clear hK K
          try go_simp
          refine tree_one_yes (o := _) rfl rfl (fun K hK => ?_) (cS _ _ hs (by (try dsimp only [List.set]); repeat (first | with_reducible exact List.mem_cons_self | with_reducible apply List.mem_cons_of_mem)) (by (try dsimp only [List.set]); repeat (first | with_reducible exact List.mem_cons_self | with_reducible apply List.mem_cons_of_mem)))
          try go_simp
          go_at_call 36
          refine (HT.out _ _ (hs.pick (A := row r (rdC ⟨rest2, false⟩) 74) (by repeat (first | with_reducible exact Pick.here | with_reducible apply Pick.there))) (by (try dsimp only [List.set]); repeat (first | exact hold | apply List.mem_cons_of_mem))).mono ?_
          clear hs
          rintro e w5 ⟨rfl, hs⟩
          try go_simp
          refine hK _ _ (cS _ _ hs (by (try dsimp only [List.set]); repeat (first | with_reducible exact List.mem_cons_self | with_reducible apply List.mem_cons_of_mem)) (by (try dsimp only [List.set]); repeat (first | with_reducible exact List.mem_cons_self | with_reducible apply List.mem_cons_of_mem))) ?_
          clear hK K
          repeat (first
            | (with_reducible refine tree_load_agg (o := ⟨some 27, .load _ _, _, _, _, _⟩) [Value.int .i64 k.kind, .int .i64 k.a, .int .i64 k.b] rfl rfl rfl rfl ?_ ?_ d7 ?_; (kernel_rfl); (kernel_rfl))
            | (with_reducible refine tree_load (o := ⟨some 29, .load _ _, _, _, _, _⟩) rfl rfl rfl rfl rfl d8 ?_)
            | (refine tree_take rfl (fun K hK => ?_); go_simp; (first | with_reducible refine hK _ ?_ | (rw [if_neg (by decide)]; with_reducible refine hK _ ?_)); clear hK K))
          refine tree_one_yes (o := _) rfl rfl (fun K hK => ?_) (cS _ _ hs (by (try dsimp only [List.set]); repeat (first | with_reducible exact List.mem_cons_self | with_reducible apply List.mem_cons_of_mem)) (by (try dsimp only [List.set]); repeat (first | with_reducible exact List.mem_cons_self | with_reducible apply List.mem_cons_of_mem)))
          refine op_lit_agg1 hs rfl Tryd.underlying41 info_cell (cC ⟨k, ts, tx⟩) rfl rfl (by omega) (by omega) fun b11 w1 h => hK _ _ (cS _ _ h (by (try dsimp only [List.set]); repeat (first | with_reducible exact List.mem_cons_self | with_reducible apply List.mem_cons_of_mem)) (by (try dsimp only [List.set]); repeat (first | with_reducible exact List.mem_cons_self | with_reducible apply List.mem_cons_of_mem))) ?_
          clear hs hK K
          have hs := h
          clear h
          try dsimp only [List.set] at hs
          try go_simp
          refine tree_one_yes (o := _) rfl rfl (fun K hK => ?_) (cS _ _ hs (by (try dsimp only [List.set]); repeat (first | with_reducible exact List.mem_cons_self | with_reducible apply List.mem_cons_of_mem)) (by (try dsimp only [List.set]); repeat (first | with_reducible exact List.mem_cons_self | with_reducible apply List.mem_cons_of_mem)))
          refine op_append (hs.pick (A := own (.slice A acc.length ca) 59 acc.length 5 (csC acc)) (by repeat (first | with_reducible exact Pick.here | with_reducible apply Pick.there))) rfl Tryd.underlying41 Tryd.underlying41 info_cell rfl (by omega) (k := 0) rfl rfl rfl (Has.of (A := row b11 (cC ⟨k, ts, tx⟩) 59) (by (try dsimp only [List.set]); repeat (first | with_reducible exact List.mem_cons_self | with_reducible apply List.mem_cons_of_mem)) fun F hF => own_sliceAt F (own_exact (n := 1) (sz := 5) rfl (by omega) F hF)) (by simp [cC, Value.oneCell']) (by omega) (by omega) fun v12 w2 h => hK _ _ (cS _ _ h (by (try dsimp only [List.set]); repeat (first | with_reducible exact List.mem_cons_self | with_reducible apply List.mem_cons_of_mem)) (by (try dsimp only [List.set]); repeat (first | with_reducible exact List.mem_cons_self | with_reducible apply List.mem_cons_of_mem))) ?_
          clear hs hK K
          have hs := h
          clear h
          try dsimp only [List.set] at hs
          obtain ⟨A12, c12, rfl, _, _⟩ := own_slice hs (i := 0) rfl
          try go_simp
          repeat (first
            | (with_reducible refine tree_load_agg (o := ⟨some 27, .load _ _, _, _, _, _⟩) [Value.int .i64 k.kind, .int .i64 k.a, .int .i64 k.b] rfl rfl rfl rfl ?_ ?_ d7 ?_; (kernel_rfl); (kernel_rfl))
            | (with_reducible refine tree_load (o := ⟨some 29, .load _ _, _, _, _, _⟩) rfl rfl rfl rfl rfl d8 ?_)
            | (refine tree_take rfl (fun K hK => ?_); go_simp; (first | with_reducible refine hK _ ?_ | (rw [if_neg (by decide)]; with_reducible refine hK _ ?_)); clear hK K))
          refine tree_one_yes (o := _) rfl rfl (fun K hK => ?_) (cS _ _ hs (by (try dsimp only [List.set]); repeat (first | with_reducible exact List.mem_cons_self | with_reducible apply List.mem_cons_of_mem)) (by (try dsimp only [List.set]); repeat (first | with_reducible exact List.mem_cons_self | with_reducible apply List.mem_cons_of_mem)))
          refine op_store (hs.pick (A := row bc (stRow last ep lo (.slice A acc.length ca)) 43) (by repeat (first | with_reducible exact Pick.here | with_reducible apply Pick.there))) rfl (b := bc) (i := 3) (v := .slice A12 (acc.length + 1) c12) rfl rfl rfl (by kernel_rfl) (k := 0) rfl (by simp [stRow]) fun w7 h => hK _ _ (cS _ _ h (by (try dsimp only [List.set]); repeat (first | with_reducible exact List.mem_cons_self | with_reducible apply List.mem_cons_of_mem)) (by (try dsimp only [List.set]); repeat (first | with_reducible exact List.mem_cons_self | with_reducible apply List.mem_cons_of_mem))) ?_
          clear hs hK K
          have hs := h
          clear h
          try dsimp only [List.set] at hs
          change Sat W _ (row bc (stRow last ep lo (.slice A12 (acc.length + 1) c12)) 43 :: _) at hs
          try go_simp
          refine tree_done ?_
          clear hq
          go_wp2_with fail
          refine bodyPost_end (results_none rfl _ _ _) rfl ⟨.slice A12 (acc.length + 1) c12, rfl, ?_⟩
          rw [show (acc ++ [(⟨k, ts, tx⟩ : RCl)]).length = acc.length + 1 by simp, csC_snoc]
          exact hs.pack (L := row bp [.pointer (some ⟨r, 0, none⟩)] 72 :: row r (rdC s4) 74 :: row bc (stRow last ep lo (.slice A12 (acc.length + 1) c12)) 43 :: own (.slice A12 (acc.length + 1) c12) 59 (acc.length + 1) 5 (csC acc ++ cC ⟨k, ts, tx⟩) :: M) (by repeat (first | with_reducible exact Pack.refl | with_reducible exact Pack.nil | with_reducible refine Pack.cons (by repeat (first | with_reducible exact Pick.here | with_reducible apply Pick.there)) ?_ | with_reducible apply Pack.drop))
        · try go_simp
          go_at_call 36
          refine (HT.out _ _ (hs.pick (A := row r (rdC ⟨rest2, false⟩) 74) (by repeat (first | with_reducible exact Pick.here | with_reducible apply Pick.there))) (by (try dsimp only [List.set]); repeat (first | exact hold | apply List.mem_cons_of_mem))).mono ?_
          clear hs
          rintro e w5 ⟨rfl, hs⟩
          try go_simp
          refine hK _ _ (cS _ _ hs (by (try dsimp only [List.set]); repeat (first | with_reducible exact List.mem_cons_self | with_reducible apply List.mem_cons_of_mem)) (by (try dsimp only [List.set]); repeat (first | with_reducible exact List.mem_cons_self | with_reducible apply List.mem_cons_of_mem))) ?_
          clear hK K
          repeat (first
            | (with_reducible refine tree_load_agg (o := ⟨some 27, .load _ _, _, _, _, _⟩) [Value.int .i64 k.kind, .int .i64 k.a, .int .i64 k.b] rfl rfl rfl rfl ?_ ?_ d7 ?_; (kernel_rfl); (kernel_rfl))
            | (with_reducible refine tree_load (o := ⟨some 29, .load _ _, _, _, _, _⟩) rfl rfl rfl rfl rfl d8 ?_)
            | (refine tree_take rfl (fun K hK => ?_); go_simp; (first | with_reducible refine hK _ ?_ | (rw [if_neg (by decide)]; with_reducible refine hK _ ?_)); clear hK K))
          refine tree_all (trees_cons_yes (o := _) rfl rfl (fun K hK => ?_) (cS _ _ hs (by (try dsimp only [List.set]); repeat (first | with_reducible exact List.mem_cons_self | with_reducible apply List.mem_cons_of_mem)) (by (try dsimp only [List.set]); repeat (first | with_reducible exact List.mem_cons_self | with_reducible apply List.mem_cons_of_mem))) (trees_cons_yes (o := _) rfl rfl (fun K hK => ?_) (cS _ _ hs (by (try dsimp only [List.set]); repeat (first | with_reducible exact List.mem_cons_self | with_reducible apply List.mem_cons_of_mem)) (by (try dsimp only [List.set]); repeat (first | with_reducible exact List.mem_cons_self | with_reducible apply List.mem_cons_of_mem))) trees_nil))
          · refine op_load rfl (ad := ⟨bc, 3, none⟩) rfl (by kernel_rfl) (hs.cell (l := stRow last ep lo (.slice A acc.length ca)) (t := 43) (by (try dsimp only [List.set]); repeat (first | with_reducible exact List.mem_cons_self | with_reducible apply List.mem_cons_of_mem)) rfl) (hK _ _ (cS _ _ hs (by (try dsimp only [List.set]); repeat (first | with_reducible exact List.mem_cons_self | with_reducible apply List.mem_cons_of_mem)) (by (try dsimp only [List.set]); repeat (first | with_reducible exact List.mem_cons_self | with_reducible apply List.mem_cons_of_mem))) ?_)
            clear hK K
            try go_simp
            refine tree_one_yes (o := _) rfl rfl (fun K hK => ?_) (cS _ _ hs (by (try dsimp only [List.set]); repeat (first | with_reducible exact List.mem_cons_self | with_reducible apply List.mem_cons_of_mem)) (by (try dsimp only [List.set]); repeat (first | with_reducible exact List.mem_cons_self | with_reducible apply List.mem_cons_of_mem)))
            refine op_lit_agg1 hs rfl Tryd.underlying41 info_cell (cC ⟨k, ts, tx⟩) rfl rfl (by omega) (by omega) fun b11 w1 h => hK _ _ (cS _ _ h (by (try dsimp only [List.set]); repeat (first | with_reducible exact List.mem_cons_self | with_reducible apply List.mem_cons_of_mem)) (by (try dsimp only [List.set]); repeat (first | with_reducible exact List.mem_cons_self | with_reducible apply List.mem_cons_of_mem))) ?_
            clear hs hK K
            have hs := h
            clear h
            try dsimp only [List.set] at hs
            try go_simp
            refine tree_one_yes (o := _) rfl rfl (fun K hK => ?_) (cS _ _ hs (by (try dsimp only [List.set]); repeat (first | with_reducible exact List.mem_cons_self | with_reducible apply List.mem_cons_of_mem)) (by (try dsimp only [List.set]); repeat (first | with_reducible exact List.mem_cons_self | with_reducible apply List.mem_cons_of_mem)))
            refine op_append (hs.pick (A := own (.slice A acc.length ca) 59 acc.length 5 (csC acc)) (by repeat (first | with_reducible exact Pick.here | with_reducible apply Pick.there))) rfl Tryd.underlying41 Tryd.underlying41 info_cell rfl (by omega) (k := 0) rfl rfl rfl (Has.of (A := row b11 (cC ⟨k, ts, tx⟩) 59) (by (try dsimp only [List.set]); repeat (first | with_reducible exact List.mem_cons_self | with_reducible apply List.mem_cons_of_mem)) fun F hF => own_sliceAt F (own_exact (n := 1) (sz := 5) rfl (by omega) F hF)) (by simp [cC, Value.oneCell']) (by omega) (by omega) fun v12 w2 h => hK _ _ (cS _ _ h (by (try dsimp only [List.set]); repeat (first | with_reducible exact List.mem_cons_self | with_reducible apply List.mem_cons_of_mem)) (by (try dsimp only [List.set]); repeat (first | with_reducible exact List.mem_cons_self | with_reducible apply List.mem_cons_of_mem))) ?_
            clear hs hK K
            have hs := h
            clear h
            try dsimp only [List.set] at hs
            obtain ⟨A12, c12, rfl, _, _⟩ := own_slice hs (i := 0) rfl
            try go_simp
            repeat (first
              | (with_reducible refine tree_load_agg (o := ⟨some 27, .load _ _, _, _, _, _⟩) [Value.int .i64 k.kind, .int .i64 k.a, .int .i64 k.b] rfl rfl rfl rfl ?_ ?_ d7 ?_; (kernel_rfl); (kernel_rfl))
              | (with_reducible refine tree_load (o := ⟨some 29, .load _ _, _, _, _, _⟩) rfl rfl rfl rfl rfl d8 ?_)
              | (refine tree_take rfl (fun K hK => ?_); go_simp; (first | with_reducible refine hK _ ?_ | (rw [if_neg (by decide)]; with_reducible refine hK _ ?_)); clear hK K))
            refine tree_one_yes (o := _) rfl rfl (fun K hK => ?_) (cS _ _ hs (by (try dsimp only [List.set]); repeat (first | with_reducible exact List.mem_cons_self | with_reducible apply List.mem_cons_of_mem)) (by (try dsimp only [List.set]); repeat (first | with_reducible exact List.mem_cons_self | with_reducible apply List.mem_cons_of_mem)))
            refine op_store (hs.pick (A := row bc (stRow last ep lo (.slice A acc.length ca)) 43) (by repeat (first | with_reducible exact Pick.here | with_reducible apply Pick.there))) rfl (b := bc) (i := 3) (v := .slice A12 (acc.length + 1) c12) rfl rfl rfl (by kernel_rfl) (k := 0) rfl (by simp [stRow]) fun w7 h => hK _ _ (cS _ _ h (by (try dsimp only [List.set]); repeat (first | with_reducible exact List.mem_cons_self | with_reducible apply List.mem_cons_of_mem)) (by (try dsimp only [List.set]); repeat (first | with_reducible exact List.mem_cons_self | with_reducible apply List.mem_cons_of_mem))) ?_
            clear hs hK K
            have hs := h
            clear h
            try dsimp only [List.set] at hs
            change Sat W _ (row bc (stRow last ep lo (.slice A12 (acc.length + 1) c12)) 43 :: _) at hs
            try go_simp
            refine tree_done ?_
            clear hq
            go_wp2_with fail
            refine bodyPost_end (results_none rfl _ _ _) rfl ⟨.slice A12 (acc.length + 1) c12, rfl, ?_⟩
            rw [show (acc ++ [(⟨k, ts, tx⟩ : RCl)]).length = acc.length + 1 by simp, csC_snoc]
            exact hs.pack (L := row bp [.pointer (some ⟨r, 0, none⟩)] 72 :: row r (rdC s4) 74 :: row bc (stRow last ep lo (.slice A12 (acc.length + 1) c12)) 43 :: own (.slice A12 (acc.length + 1) c12) 59 (acc.length + 1) 5 (csC acc ++ cC ⟨k, ts, tx⟩) :: M) (by repeat (first | with_reducible exact Pack.refl | with_reducible exact Pack.nil | with_reducible refine Pack.cons (by repeat (first | with_reducible exact Pick.here | with_reducible apply Pick.there)) ?_ | with_reducible apply Pack.drop))
          · refine op_lit_agg1 hs rfl Tryd.underlying41 info_cell (cC ⟨k, ts, tx⟩) rfl rfl (by omega) (by omega) fun b11 w1 h => hK _ _ (cS _ _ h (by (try dsimp only [List.set]); repeat (first | with_reducible exact List.mem_cons_self | with_reducible apply List.mem_cons_of_mem)) (by (try dsimp only [List.set]); repeat (first | with_reducible exact List.mem_cons_self | with_reducible apply List.mem_cons_of_mem))) ?_
            clear hs hK K
            have hs := h
            clear h
            try dsimp only [List.set] at hs
            try go_simp
            refine tree_one_yes (o := _) rfl rfl (fun K hK => ?_) (cS _ _ hs (by (try dsimp only [List.set]); repeat (first | with_reducible exact List.mem_cons_self | with_reducible apply List.mem_cons_of_mem)) (by (try dsimp only [List.set]); repeat (first | with_reducible exact List.mem_cons_self | with_reducible apply List.mem_cons_of_mem)))
            refine op_load rfl (ad := ⟨bc, 3, none⟩) rfl (by kernel_rfl) (hs.cell (l := stRow last ep lo (.slice A acc.length ca)) (t := 43) (by (try dsimp only [List.set]); repeat (first | with_reducible exact List.mem_cons_self | with_reducible apply List.mem_cons_of_mem)) rfl) (hK _ _ (cS _ _ hs (by (try dsimp only [List.set]); repeat (first | with_reducible exact List.mem_cons_self | with_reducible apply List.mem_cons_of_mem)) (by (try dsimp only [List.set]); repeat (first | with_reducible exact List.mem_cons_self | with_reducible apply List.mem_cons_of_mem))) ?_)
            clear hK K
            try go_simp
            refine tree_one_yes (o := _) rfl rfl (fun K hK => ?_) (cS _ _ hs (by (try dsimp only [List.set]); repeat (first | with_reducible exact List.mem_cons_self | with_reducible apply List.mem_cons_of_mem)) (by (try dsimp only [List.set]); repeat (first | with_reducible exact List.mem_cons_self | with_reducible apply List.mem_cons_of_mem)))
            refine op_append (hs.pick (A := own (.slice A acc.length ca) 59 acc.length 5 (csC acc)) (by repeat (first | with_reducible exact Pick.here | with_reducible apply Pick.there))) rfl Tryd.underlying41 Tryd.underlying41 info_cell rfl (by omega) (k := 0) rfl rfl rfl (Has.of (A := row b11 (cC ⟨k, ts, tx⟩) 59) (by (try dsimp only [List.set]); repeat (first | with_reducible exact List.mem_cons_self | with_reducible apply List.mem_cons_of_mem)) fun F hF => own_sliceAt F (own_exact (n := 1) (sz := 5) rfl (by omega) F hF)) (by simp [cC, Value.oneCell']) (by omega) (by omega) fun v12 w2 h => hK _ _ (cS _ _ h (by (try dsimp only [List.set]); repeat (first | with_reducible exact List.mem_cons_self | with_reducible apply List.mem_cons_of_mem)) (by (try dsimp only [List.set]); repeat (first | with_reducible exact List.mem_cons_self | with_reducible apply List.mem_cons_of_mem))) ?_
            clear hs hK K
            have hs := h
            clear h
            try dsimp only [List.set] at hs
            obtain ⟨A12, c12, rfl, _, _⟩ := own_slice hs (i := 0) rfl
            try go_simp
            repeat (first
              | (with_reducible refine tree_load_agg (o := ⟨some 27, .load _ _, _, _, _, _⟩) [Value.int .i64 k.kind, .int .i64 k.a, .int .i64 k.b] rfl rfl rfl rfl ?_ ?_ d7 ?_; (kernel_rfl); (kernel_rfl))
              | (with_reducible refine tree_load (o := ⟨some 29, .load _ _, _, _, _, _⟩) rfl rfl rfl rfl rfl d8 ?_)
              | (refine tree_take rfl (fun K hK => ?_); go_simp; (first | with_reducible refine hK _ ?_ | (rw [if_neg (by decide)]; with_reducible refine hK _ ?_)); clear hK K))
            refine tree_one_yes (o := _) rfl rfl (fun K hK => ?_) (cS _ _ hs (by (try dsimp only [List.set]); repeat (first | with_reducible exact List.mem_cons_self | with_reducible apply List.mem_cons_of_mem)) (by (try dsimp only [List.set]); repeat (first | with_reducible exact List.mem_cons_self | with_reducible apply List.mem_cons_of_mem)))
            refine op_store (hs.pick (A := row bc (stRow last ep lo (.slice A acc.length ca)) 43) (by repeat (first | with_reducible exact Pick.here | with_reducible apply Pick.there))) rfl (b := bc) (i := 3) (v := .slice A12 (acc.length + 1) c12) rfl rfl rfl (by kernel_rfl) (k := 0) rfl (by simp [stRow]) fun w7 h => hK _ _ (cS _ _ h (by (try dsimp only [List.set]); repeat (first | with_reducible exact List.mem_cons_self | with_reducible apply List.mem_cons_of_mem)) (by (try dsimp only [List.set]); repeat (first | with_reducible exact List.mem_cons_self | with_reducible apply List.mem_cons_of_mem))) ?_
            clear hs hK K
            have hs := h
            clear h
            try dsimp only [List.set] at hs
            change Sat W _ (row bc (stRow last ep lo (.slice A12 (acc.length + 1) c12)) 43 :: _) at hs
            try go_simp
            refine tree_done ?_
            clear hq
            go_wp2_with fail
            refine bodyPost_end (results_none rfl _ _ _) rfl ⟨.slice A12 (acc.length + 1) c12, rfl, ?_⟩
            rw [show (acc ++ [(⟨k, ts, tx⟩ : RCl)]).length = acc.length + 1 by simp, csC_snoc]
            exact hs.pack (L := row bp [.pointer (some ⟨r, 0, none⟩)] 72 :: row r (rdC s4) 74 :: row bc (stRow last ep lo (.slice A12 (acc.length + 1) c12)) 43 :: own (.slice A12 (acc.length + 1) c12) 59 (acc.length + 1) 5 (csC acc ++ cC ⟨k, ts, tx⟩) :: M) (by repeat (first | with_reducible exact Pack.refl | with_reducible exact Pack.nil | with_reducible refine Pack.cons (by repeat (first | with_reducible exact Pick.here | with_reducible apply Pick.there)) ?_ | with_reducible apply Pack.drop))
set_option maxRecDepth 100000 in
set_option maxHeartbeats 8000000 in
theorem allS_spec (W w : World) (M : List HP) (bp r bc : Nat) (s : Rd) (last : Int) (ep lo : Nat) (v : Value) (acc : List RCl) (hs : Sat W w (row bp [.pointer (some ⟨r, 0, none⟩)] 72 :: row r (rdC s) 74 :: row bc (stRow last ep lo v) 43 :: own v 59 acc.length 5 (csC acc) :: M)) (hold : old W ∈ M) (hm : maxLenIs W) (hl : s.rest.length ≤ 1073741824) (hacc : acc.length = 0) :
    Calls Tryd.prog 33 #[.pointer (some ⟨r, 0, none⟩), .func (.func 64) #[] #[.pointer (some ⟨bp, 0, none⟩), .pointer (some ⟨bc, 0, none⟩)]] w (takeSPost bp r bc (rdCs last s.num.1 s.num.2 acc).1 last ep lo (rdCs last s.num.1 s.num.2 acc).2 W M) := by
  have hnl := s.num_len
  have HN := Box.mk (fun w (L : List HP) hs => fromN_spec W w L r s hs hl)
  have hn : s.num.1 < 4294967296 := tnA_lt _
  generalize s.num = x1 at HN hnl hn ⊢
  obtain ⟨n, s1⟩ := x1
  dsimp only at HN hnl hn ⊢
  obtain ⟨X, hX⟩ : ∃ X, rdCs last n s1 acc = X := ⟨_, rfl⟩
  rw [hX]
  have HX := Box.mk hX
  have HM := Box.mk hm
  clear hX hm
  go_enter Tryd.func33, Tryd.ntmps33
  go_wp2_with (first
    | (go_at_call 62; go_must (refine (HN.out _ _ (hs.pick (A := row r (rdC s) 74) (by repeat (first | with_reducible exact Pick.here | with_reducible apply Pick.there)))).mono ?_); clear hs; rintro e w1 ⟨rfl, hs⟩))
  go_loopw [6] (fun v6 wr => ∃ (i : Nat) (s' : Rd) (acc' : List RCl) (v' : Value), i ≤ n ∧ v6 = .int .u32 (i : Nat) ∧ acc'.length ≤ i ∧ s'.rest.length ≤ 1073741824 ∧ Box (rdCs last (n - i) s' acc' = X) ∧ Sat W wr (row bp [.pointer (some ⟨r, 0, none⟩)] 72 :: row r (rdC s') 74 :: row bc (stRow last ep lo v') 43 :: own v' 59 acc'.length 5 (csC acc') :: M)) (fun v6 _ => n - (intOf v6).toNat)
  case atStart => exact ⟨0, s1, acc, v, by omega, rfl, by omega, by omega, HX, hs.pack (by repeat (first | with_reducible exact Pack.refl | with_reducible exact Pack.nil | with_reducible refine Pack.cons (by repeat (first | with_reducible exact Pick.here | with_reducible apply Pick.there)) ?_ | with_reducible apply Pack.drop))⟩
  case round =>
    clear hs
    obtain ⟨i, s', acc', v', hi, rfl, hal, hrl, hgo, hs⟩ := hrel
    by_cases hlt : i < n
    · have hltI : (i : Int) < (n : Int) := by omega
      have hwi : IntKind.u32.wrap ((i : Int) + 1) = (i : Int) + 1 := by rw [IntKind.wrap_u32]; omega
      obtain ⟨k, hk⟩ : ∃ k, n - i = k + 1 := ⟨n - i - 1, by omega⟩
      have hk2 : n - (i + 1) = k := by omega
      have hg := hgo.out
      rw [hk, rdCs] at hg
      obtain ⟨rest, bad⟩ := s'
      dsimp only at hg hrl
      cases bad with
      | true =>
        rw [if_pos rfl] at hg
        subst hg
        clear hgo
        go_wp2_with (first
          | (guard_target = wpList _ _ _ (⟨some 11, .load _ _, _, _, _, _⟩ :: _) _ _; refine wpl (o := ⟨some 11, .load _ _, _, _, _, _⟩) rfl fun K hK => op_load rfl (ad := ⟨r, 1, none⟩) rfl (by kernel_rfl) (hs.cell (l := rdC ⟨rest, true⟩) (t := 74) (by (try dsimp only [List.set]); repeat (first | with_reducible exact List.mem_cons_self | with_reducible apply List.mem_cons_of_mem)) rfl) (hK _ _ ?_); clear hK K))
        refine bodyPost_ret (results_none rfl _ _ _) rfl ⟨v', rfl, hs⟩
      | false =>
        rw [if_neg (by simp)] at hg
        have h1 := (⟨rest, false⟩ : Rd).cell_len last
        have HC := Box.mk (fun w (M : List HP) hs ho => takeS1_spec W w M bp r bc ⟨rest, false⟩ last ep lo v' acc' hs ho HM.out hrl (by omega))
        have hrl2 : ((⟨rest, false⟩ : Rd).cell last).2.rest.length ≤ 1073741824 := by dsimp only at h1; omega
        have HG := Box.mk hg
        clear hg h1 hgo
        generalize ((⟨rest, false⟩ : Rd).cell last) = s2 at HC hrl2 HG
        obtain ⟨xx, s2⟩ := s2
        dsimp only at HC hrl2 HG
        go_wp2_with (first
          | (guard_target = wpList _ _ _ (⟨some 11, .load _ _, _, _, _, _⟩ :: _) _ _; refine wpl (o := ⟨some 11, .load _ _, _, _, _, _⟩) rfl fun K hK => op_load rfl (ad := ⟨r, 1, none⟩) rfl (by kernel_rfl) (hs.cell (l := rdC ⟨rest, false⟩) (t := 74) (by (try dsimp only [List.set]); repeat (first | with_reducible exact List.mem_cons_self | with_reducible apply List.mem_cons_of_mem)) rfl) (hK _ _ ?_); clear hK K)
          | (go_at_call 64; go_must (refine (HC.out _ _ hs (by (try dsimp only [List.set]); repeat (first | exact hold | apply List.mem_cons_of_mem))).mono ?_); clear hs; rintro e w1 ⟨v2, rfl, hs⟩))
        exact ⟨⟨i + 1, s2, acc' ++ [xx], v2, by omega, by go_num, by simp; omega, hrl2, ⟨by rw [hk2]; exact HG.out⟩, hs⟩, by simp only [intOf]; omega⟩
    · have hltI : ¬ (i : Int) < (n : Int) := by omega
      have hg := hgo.out
      rw [show n - i = 0 by omega] at hg
      unfold rdCs at hg
      subst hg
      clear hgo
      go_wp2_with fail
      refine bodyPost_end (results_none rfl _ _ _) rfl ⟨v', rfl, hs⟩
end Go.Proofs.YthjnefpnnifjiaaDoor
