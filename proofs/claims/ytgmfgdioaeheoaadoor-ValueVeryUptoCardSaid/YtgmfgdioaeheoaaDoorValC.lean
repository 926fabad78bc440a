/- Contracts of value.Compare and of ogiveref03.Compare, and what they call. -/
import Derived.Test.YtgmfgdioaeheoaaDoorValW
set_option linter.unusedVariables false
set_option linter.unusedSimpArgs false
namespace Go.Proofs.YtgmfgdioaeheoaaDoor
open Go.RowKit
set_option maxRecDepth 100000 in
set_option maxHeartbeats 1000000 in
theorem nan64_spec (W w : World) (L : List HP) (hs : Sat W w L) (x : Int) : Calls Tryd.prog 54 #[.int .i64 x] w fun e w' => e = .returned (.bool false) ∧ Sat W w' L := by
  go_enter Tryd.func54, Tryd.ntmps54
  go_wp2_with fail
  go_ret
  exact ⟨rfl, hs⟩
set_option maxRecDepth 100000 in
set_option maxHeartbeats 1000000 in
theorem cmp64_spec (W w : World) (L : List HP) (hs : Sat W w L) (x y : Int) : Calls Tryd.prog 47 #[.int .i64 x, .int .i64 y] w fun e w' => e = .returned (.int .i64 (Lib.compareInt x y)) ∧ Sat W w' L := by
  unfold Lib.compareInt
  by_cases h1 : x < y
  · rw [if_pos h1]
    go_enter Tryd.func47, Tryd.ntmps47
    go_wp2_with (first
      | (go_at_call 54; go_must (refine (nan64_spec W _ _ hs _).mono ?_); clear hs; rintro e w1 ⟨rfl, hs⟩))
    go_ret
    exact ⟨rfl, hs⟩
  · rw [if_neg h1]
    by_cases h2 : x > y
    · rw [if_pos h2]
      go_enter Tryd.func47, Tryd.ntmps47
      go_wp2_with (first
        | (go_at_call 54; go_must (refine (nan64_spec W _ _ hs _).mono ?_); clear hs; rintro e w1 ⟨rfl, hs⟩))
      go_ret
      exact ⟨rfl, hs⟩
    · rw [if_neg h2]
      have h2' : ¬ y < x := h2
      go_enter Tryd.func47, Tryd.ntmps47
      go_wp2_with (first
        | (go_at_call 54; go_must (refine (nan64_spec W _ _ hs _).mono ?_); clear hs; rintro e w1 ⟨rfl, hs⟩))
      go_ret
      exact ⟨rfl, hs⟩
theorem cmpint_spec (W w : World) (L : List HP) (hs : Sat W w L) (x y : Int) : Calls Tryd.prog 46 #[.int .i64 x, .int .i64 y] w fun e w' => e = .returned (.int .i64 (Lib.compareInt x y)) ∧ Sat W w' L := by
  refine (Tryd.cmp_Compare_int x y w).mono ?_
  rintro e w' ⟨rfl, rfl⟩
  exact ⟨rfl, hs⟩
theorem cmpstr_spec (W w : World) (L : List HP) (hs : Sat W w L) (x y : List UInt8) : Calls Tryd.prog 48 #[(.string ⟨(x).toArray⟩), (.string ⟨(y).toArray⟩)] w fun e w' => e = .returned (.int .i64 (cmpS x y)) ∧ Sat W w' L := by
  refine (Tryd.strings_Compare ⟨x.toArray⟩ ⟨y.toArray⟩ w).mono ?_
  rintro e w' ⟨rfl, rfl⟩
  refine ⟨?_, hs⟩
  show Ending.returned (.int .i64 (Lib.compareBytes x y)) = _
  rw [compareBytes_eq]
def orV (x y z : Int) : Int := if x ≠ 0 then x else if y ≠ 0 then y else z
theorem info_int : (Tryd.prog.info? 3).map (fun i => (i.zero, i.size, i.bytes)) = some (some (.int .i64 0), 1, 8) := by kernel_rfl
set_option maxRecDepth 100000 in
set_option maxHeartbeats 2000000 in
theorem or_spec (W w : World) (L : List HP) (b : Nat) (x y z : Int) (hs : Sat W w (row b [.int .i64 x, .int .i64 y, .int .i64 z] 3 :: L)) : Calls Tryd.prog 45 #[.slice (some ⟨b, 0, none⟩) 3 3] w fun e w' => e = .returned (.int .i64 (orV x y z)) ∧ Sat W w' L := by
  go_enter Tryd.func45, Tryd.ntmps45
  go_wp2_with fail
  go_loopw [8] (fun v8 wr => ∃ k : Nat, k ≤ 3 ∧ v8 = .int .i64 (k : Nat) ∧ (1 ≤ k → x = 0) ∧ (2 ≤ k → y = 0) ∧ (3 ≤ k → z = 0) ∧ Sat W wr (row b [.int .i64 x, .int .i64 y, .int .i64 z] 3 :: L)) (fun v8 _ => 3 - (intOf v8).toNat)
  case atStart => exact ⟨0, by omega, rfl, by omega, by omega, by omega, hs⟩
  case round =>
    clear hs
    obtain ⟨k, hk, rfl, g1, g2, g3, hs⟩ := hrel
    have k0 := hs.cell (l := [.int .i64 x, .int .i64 y, .int .i64 z]) (t := 3) (b := b) (i := 0) m0 rfl
    have k1 := hs.cell (l := [.int .i64 x, .int .i64 y, .int .i64 z]) (t := 3) (b := b) (i := 1) m0 rfl
    have k2 := hs.cell (l := [.int .i64 x, .int .i64 y, .int .i64 z]) (t := 3) (b := b) (i := 2) m0 rfl
    have hk' : k = 0 ∨ k = 1 ∨ k = 2 ∨ k = 3 := by omega
    rcases hk' with rfl | rfl | rfl | rfl
    · clear g1 g2 g3
      by_cases hx : x = 0
      · have ex : (x != 0) = false := by simp [hx]
        have HX := Box.mk hx
        clear hx
        go_wp2_with fail
        exact ⟨⟨1, by omega, rfl, fun _ => HX.out, by omega, by omega, hs⟩, by decide⟩
      · have ex : (x != 0) = true := by simp [hx]
        have HX : Box (orV x y z = x) := ⟨if_pos hx⟩
        clear hx
        go_wp2_with fail
        go_ret
        exact ⟨by rw [HX.out]; rfl, hs.tail⟩
    · have h1 := Box.mk (g1 (by omega))
      clear g1 g2 g3
      by_cases hx : y = 0
      · have ex : (y != 0) = false := by simp [hx]
        have HX := Box.mk hx
        clear hx
        go_wp2_with fail
        exact ⟨⟨2, by omega, rfl, fun _ => h1.out, fun _ => HX.out, by omega, hs⟩, by decide⟩
      · have ex : (y != 0) = true := by simp [hx]
        have HX : Box (orV x y z = y) := ⟨by unfold orV; rw [if_neg (by simp [h1.out]), if_pos hx]⟩
        clear hx
        go_wp2_with fail
        go_ret
        exact ⟨by rw [HX.out]; rfl, hs.tail⟩
    · have h1 := Box.mk (g1 (by omega))
      have h2 := Box.mk (g2 (by omega))
      clear g1 g2 g3
      by_cases hx : z = 0
      · have ex : (z != 0) = false := by simp [hx]
        have HX := Box.mk hx
        clear hx
        go_wp2_with fail
        exact ⟨⟨3, by omega, rfl, fun _ => h1.out, fun _ => h2.out, fun _ => HX.out, hs⟩, by decide⟩
      · have ex : (z != 0) = true := by simp [hx]
        have HX : Box (orV x y z = z) := ⟨by unfold orV; rw [if_neg (by simp [h1.out]), if_neg (by simp [h2.out])]⟩
        clear hx
        go_wp2_with fail
        go_ret
        exact ⟨by rw [HX.out]; rfl, hs.tail⟩
    · have HX : Box (orV x y z = 0) := ⟨by unfold orV; rw [if_neg (by simp [g1 (by omega)]), if_neg (by simp [g2 (by omega)]), g3 (by omega)]⟩
      clear g1 g2 g3
      go_wp2_with fail
      go_ret
      exact ⟨by rw [HX.out]; rfl, hs.tail⟩
def vcS (b : Nat) (cs : List Value) (c : Nat) (ds : List Value) (w : World) : Prop := w.rangeAt b 0 cs ∧ w.rangeAt c 0 ds
set_option maxRecDepth 100000 in
set_option maxHeartbeats 4000000 in
theorem compare_spec (W w : World) (L : List HP) (hs : Sat W w L) (t n : Int) (s : List UInt8) (t' n' : Int) (s' : List UInt8) :
    Calls Tryd.prog 33 #[(.agg #[.int .i64 (t), .int .i64 (n), .string ⟨(s).toArray⟩]), (.agg #[.int .i64 (t'), .int .i64 (n'), .string ⟨(s').toArray⟩])] w fun e w' => e = .returned (.int .i64 (cmpV ⟨t, n, s⟩ ⟨t', n', s'⟩)) ∧ Sat W w' L := by
  have hor : orV (Lib.compareInt t t') (Lib.compareInt n n') (cmpS s s') = cmpV ⟨t, n, s⟩ ⟨t', n', s'⟩ := or3 ⟨t, n, s⟩ ⟨t', n', s'⟩
  rw [← hor]
  clear hor
  obtain ⟨x, hx⟩ : ∃ x, Lib.compareInt t t' = x := ⟨_, rfl⟩
  obtain ⟨y, hy⟩ : ∃ y, Lib.compareInt n n' = y := ⟨_, rfl⟩
  obtain ⟨z, hz⟩ : ∃ z, cmpS s s' = z := ⟨_, rfl⟩
  rw [hx, hy, hz]
  have HX := Box.mk hx
  have HY := Box.mk hy
  have HZ := Box.mk hz
  clear hx hy hz
  obtain ⟨r, hr⟩ : ∃ r, orV x y z = r := ⟨_, rfl⟩
  rw [hr]
  have HR := Box.mk hr
  clear hr
  go_enter Tryd.func33, Tryd.ntmps33
  go_wp2_with (first
    | (guard_target = wpList _ _ _ (⟨some 2, .box _ _, _, _, _, _⟩ :: _) _ _; refine wpl (o := ⟨some 2, .box _ _, _, _, _, _⟩) rfl fun K hK => ?_; go_must (refine op_box hs rfl _ rfl [.int .i64 (t), .int .i64 (n), .string ⟨(s).toArray⟩] rfl fun b2 w1 h => hK _ _ ?_); clear hs hK K; have hs := h; clear h; try dsimp only [List.set] at hs)
    | (guard_target = wpList _ _ _ (⟨some 3, .box _ _, _, _, _, _⟩ :: _) _ _; refine wpl (o := ⟨some 3, .box _ _, _, _, _, _⟩) rfl fun K hK => ?_; go_must (refine op_box hs rfl _ rfl [.int .i64 (t'), .int .i64 (n'), .string ⟨(s').toArray⟩] rfl fun b3 w1 h => hK _ _ ?_); clear hs hK K; have hs := h; clear h; try dsimp only [List.set] at hs))
  have cS : ∀ w M, Sat W w M → row b2 [.int .i64 (t), .int .i64 (n), .string ⟨(s).toArray⟩] 48 ∈ M → row b3 [.int .i64 (t'), .int .i64 (n'), .string ⟨(s').toArray⟩] 48 ∈ M → vcS b2 [.int .i64 (t), .int .i64 (n), .string ⟨(s).toArray⟩] b3 [.int .i64 (t'), .int .i64 (n'), .string ⟨(s').toArray⟩] w := fun w M h h1 h2 => ⟨range_whole h h1, range_whole h h2⟩
  have d6 : ∀ w, vcS b2 [.int .i64 (t), .int .i64 (n), .string ⟨(s).toArray⟩] b3 [.int .i64 (t'), .int .i64 (n'), .string ⟨(s').toArray⟩] w → w.cell? ⟨b2, 0, none⟩ = some (.int .i64 t) := fun w h => h.1 0 _ rfl
  have d8 : ∀ w, vcS b2 [.int .i64 (t), .int .i64 (n), .string ⟨(s).toArray⟩] b3 [.int .i64 (t'), .int .i64 (n'), .string ⟨(s').toArray⟩] w → w.cell? ⟨b3, 0, none⟩ = some (.int .i64 t') := fun w h => h.2 0 _ rfl
  have d11 : ∀ w, vcS b2 [.int .i64 (t), .int .i64 (n), .string ⟨(s).toArray⟩] b3 [.int .i64 (t'), .int .i64 (n'), .string ⟨(s').toArray⟩] w → w.cell? ⟨b2, 1, none⟩ = some (.int .i64 n) := fun w h => h.1 1 _ rfl
  have d13 : ∀ w, vcS b2 [.int .i64 (t), .int .i64 (n), .string ⟨(s).toArray⟩] b3 [.int .i64 (t'), .int .i64 (n'), .string ⟨(s').toArray⟩] w → w.cell? ⟨b3, 1, none⟩ = some (.int .i64 n') := fun w h => h.2 1 _ rfl
  have d16 : ∀ w, vcS b2 [.int .i64 (t), .int .i64 (n), .string ⟨(s).toArray⟩] b3 [.int .i64 (t'), .int .i64 (n'), .string ⟨(s').toArray⟩] w → w.cell? ⟨b2, 2, none⟩ = some (.string ⟨(s).toArray⟩) := fun w h => h.1 2 _ rfl
  have d18 : ∀ w, vcS b2 [.int .i64 (t), .int .i64 (n), .string ⟨(s).toArray⟩] b3 [.int .i64 (t'), .int .i64 (n'), .string ⟨(s').toArray⟩] w → w.cell? ⟨b3, 2, none⟩ = some (.string ⟨(s').toArray⟩) := fun w h => h.2 2 _ rfl
  have hS0 := cS _ _ hs.drew (by (try dsimp only [List.set]); repeat (first | with_reducible exact List.mem_cons_self | with_reducible apply List.mem_cons_of_mem)) (by (try dsimp only [List.set]); repeat (first | with_reducible exact List.mem_cons_self | with_reducible apply List.mem_cons_of_mem))
  refine wp_region_tree (vcS b2 [.int .i64 (t), .int .i64 (n), .string ⟨(s).toArray⟩] b3 [.int .i64 (t'), .int .i64 (n'), .string ⟨(s').toArray⟩]) (.take 0 (.take 1 (.take 2 (.take 3 (.take 5 (.take 6 (.take 7 (.take 8 (.take 10 (.take 11 (.take 12 (.take 13 (.all [(4, .all [(9, .all [(14, .all [(15, .all [(16, .take 17 (DTree.done))])])])])]))))))))))))) (by kernel_rfl) (by kernel_rfl) (by kernel_rfl) (fun _ _ d _ _ h => by cases d <;> exact h) hS0 ?_
  have hs' := hs.drew
  clear hs
  have hs := hs'
  clear hs'
  have hq := fun p : Prop => class_const hS0 p
  clear hS0
  repeat (first
    | (with_reducible refine tree_load (o := ⟨some 6, .load _ _, _, _, _, _⟩) rfl rfl rfl rfl rfl d6 ?_)
    | (with_reducible refine tree_load (o := ⟨some 8, .load _ _, _, _, _, _⟩) rfl rfl rfl rfl rfl d8 ?_)
    | (with_reducible refine tree_load (o := ⟨some 11, .load _ _, _, _, _, _⟩) rfl rfl rfl rfl rfl d11 ?_)
    | (with_reducible refine tree_load (o := ⟨some 13, .load _ _, _, _, _, _⟩) rfl rfl rfl rfl rfl d13 ?_)
    | (with_reducible refine tree_load (o := ⟨some 16, .load _ _, _, _, _, _⟩) rfl rfl rfl rfl rfl d16 ?_)
    | (with_reducible refine tree_load (o := ⟨some 18, .load _ _, _, _, _, _⟩) rfl rfl rfl rfl rfl d18 ?_)
    | (refine tree_take rfl (fun K hK => ?_); go_simp; with_reducible refine hK _ ?_; clear hK K))
  refine tree_one_yes (o := _) rfl rfl (fun K hK => ?_) (cS _ _ hs (by (try dsimp only [List.set]); repeat (first | with_reducible exact List.mem_cons_self | with_reducible apply List.mem_cons_of_mem)) (by (try dsimp only [List.set]); repeat (first | with_reducible exact List.mem_cons_self | with_reducible apply List.mem_cons_of_mem)))
  try go_simp
  go_at_call 46
  refine (cmpint_spec W _ _ hs t t').mono ?_
  clear hs
  rintro e w5 ⟨rfl, hs⟩
  rw [HX.out]
  try go_simp
  refine hK _ _ (cS _ _ hs (by (try dsimp only [List.set]); repeat (first | with_reducible exact List.mem_cons_self | with_reducible apply List.mem_cons_of_mem)) (by (try dsimp only [List.set]); repeat (first | with_reducible exact List.mem_cons_self | with_reducible apply List.mem_cons_of_mem))) ?_
  clear hK K
  refine tree_one_yes (o := _) rfl rfl (fun K hK => ?_) (cS _ _ hs (by (try dsimp only [List.set]); repeat (first | with_reducible exact List.mem_cons_self | with_reducible apply List.mem_cons_of_mem)) (by (try dsimp only [List.set]); repeat (first | with_reducible exact List.mem_cons_self | with_reducible apply List.mem_cons_of_mem)))
  try go_simp
  go_at_call 47
  refine (cmp64_spec W _ _ hs n n').mono ?_
  clear hs
  rintro e w5 ⟨rfl, hs⟩
  rw [HY.out]
  try go_simp
  refine hK _ _ (cS _ _ hs (by (try dsimp only [List.set]); repeat (first | with_reducible exact List.mem_cons_self | with_reducible apply List.mem_cons_of_mem)) (by (try dsimp only [List.set]); repeat (first | with_reducible exact List.mem_cons_self | with_reducible apply List.mem_cons_of_mem))) ?_
  clear hK K
  refine tree_one_yes (o := _) rfl rfl (fun K hK => ?_) (cS _ _ hs (by (try dsimp only [List.set]); repeat (first | with_reducible exact List.mem_cons_self | with_reducible apply List.mem_cons_of_mem)) (by (try dsimp only [List.set]); repeat (first | with_reducible exact List.mem_cons_self | with_reducible apply List.mem_cons_of_mem)))
  try go_simp
  go_at_call 48
  refine (cmpstr_spec W _ _ hs s s').mono ?_
  clear hs
  rintro e w5 ⟨rfl, hs⟩
  rw [HZ.out]
  try go_simp
  refine hK _ _ (cS _ _ hs (by (try dsimp only [List.set]); repeat (first | with_reducible exact List.mem_cons_self | with_reducible apply List.mem_cons_of_mem)) (by (try dsimp only [List.set]); repeat (first | with_reducible exact List.mem_cons_self | with_reducible apply List.mem_cons_of_mem))) ?_
  clear hK K
  refine tree_one_yes (o := _) rfl rfl (fun K hK => ?_) (cS _ _ hs (by (try dsimp only [List.set]); repeat (first | with_reducible exact List.mem_cons_self | with_reducible apply List.mem_cons_of_mem)) (by (try dsimp only [List.set]); repeat (first | with_reducible exact List.mem_cons_self | with_reducible apply List.mem_cons_of_mem)))
  refine op_lit1 hs rfl Tryd.underlying82 info_int rfl [.int .i64 x, .int .i64 y, .int .i64 z] (by omega) rfl (fun v hv => by simp only [List.mem_cons, List.not_mem_nil, or_false] at hv; rcases hv with rfl | rfl | rfl <;> rfl) (by simp [Act.eval]) fun b20 w2 h => hK _ _ (cS _ _ h (by (try dsimp only [List.set]); repeat (first | with_reducible exact List.mem_cons_self | with_reducible apply List.mem_cons_of_mem)) (by (try dsimp only [List.set]); repeat (first | with_reducible exact List.mem_cons_self | with_reducible apply List.mem_cons_of_mem))) ?_
  clear hs hK K
  have hs := h
  clear h
  try dsimp only [List.set] at hs
  try go_simp
  refine tree_one_yes (o := _) rfl rfl (fun K hK => ?_) (cS _ _ hs (by (try dsimp only [List.set]); repeat (first | with_reducible exact List.mem_cons_self | with_reducible apply List.mem_cons_of_mem)) (by (try dsimp only [List.set]); repeat (first | with_reducible exact List.mem_cons_self | with_reducible apply List.mem_cons_of_mem)))
  try go_simp
  go_at_call 45
  refine (or_spec W _ _ b20 x y z (hs.pick (A := row b20 [.int .i64 x, .int .i64 y, .int .i64 z] 3) (by repeat (first | with_reducible exact Pick.here | with_reducible apply Pick.there)))).mono ?_
  clear hs
  rintro e w5 ⟨rfl, hs⟩
  rw [HR.out]
  try go_simp
  refine hK _ _ (cS _ _ hs (by (try dsimp only [List.set]); repeat (first | with_reducible exact List.mem_cons_self | with_reducible apply List.mem_cons_of_mem)) (by (try dsimp only [List.set]); repeat (first | with_reducible exact List.mem_cons_self | with_reducible apply List.mem_cons_of_mem))) ?_
  clear hK K
  repeat (first
    | (with_reducible refine tree_load (o := ⟨some 6, .load _ _, _, _, _, _⟩) rfl rfl rfl rfl rfl d6 ?_)
    | (with_reducible refine tree_load (o := ⟨some 8, .load _ _, _, _, _, _⟩) rfl rfl rfl rfl rfl d8 ?_)
    | (with_reducible refine tree_load (o := ⟨some 11, .load _ _, _, _, _, _⟩) rfl rfl rfl rfl rfl d11 ?_)
    | (with_reducible refine tree_load (o := ⟨some 13, .load _ _, _, _, _, _⟩) rfl rfl rfl rfl rfl d13 ?_)
    | (with_reducible refine tree_load (o := ⟨some 16, .load _ _, _, _, _, _⟩) rfl rfl rfl rfl rfl d16 ?_)
    | (with_reducible refine tree_load (o := ⟨some 18, .load _ _, _, _, _, _⟩) rfl rfl rfl rfl rfl d18 ?_)
    | (refine tree_take rfl (fun K hK => ?_); go_simp; with_reducible refine hK _ ?_; clear hK K))
  refine tree_done ?_
  clear hq
  go_wp2_with fail
  go_ret
  exact ⟨rfl, hs.pack (by repeat (first | with_reducible exact Pack.refl | with_reducible exact Pack.nil | with_reducible refine Pack.cons (by repeat (first | with_reducible exact Pick.here | with_reducible apply Pick.there)) ?_ | with_reducible apply Pack.drop))⟩
set_option maxRecDepth 100000 in
set_option maxHeartbeats 4000000 in
theorem ahead_spec (W w : World) (L : List HP) (hs : Sat W w L) (t n : Int) (s : List UInt8) (t' n' : Int) (s' : List UInt8) :
    Calls Tryd.prog 49 #[(.agg #[.int .i64 (t), .int .i64 (n), .string ⟨(s).toArray⟩]), (.agg #[.int .i64 (t'), .int .i64 (n'), .string ⟨(s').toArray⟩])] w fun e w' => e = .returned (.bool (aheadB ⟨t, n, s⟩ ⟨t', n', s'⟩)) ∧ Sat W w' L := by
  unfold aheadB
  dsimp only
  by_cases h1 : t = t'
  · have e1 : (t != t') = false := by simp [h1]
    rw [if_neg (by simpa using h1)]
    clear h1
    by_cases h2 : n = n'
    · have e2 : (n != n') = false := by simp [h2]
      rw [if_neg (by simpa using h2)]
      clear h2
      go_enter Tryd.func49, Tryd.ntmps49
      go_wp2_with (first
        | (guard_target = wpList _ _ _ (⟨some 2, .box _ _, _, _, _, _⟩ :: _) _ _; refine wpl (o := ⟨some 2, .box _ _, _, _, _, _⟩) rfl fun K hK => ?_; go_must (refine op_box hs rfl _ rfl [.int .i64 (t), .int .i64 (n), .string ⟨(s).toArray⟩] rfl fun b2 w1 h => hK _ _ ?_); clear hs hK K; have hs := h; clear h; try dsimp only [List.set] at hs)
        | (guard_target = wpList _ _ _ (⟨some 3, .box _ _, _, _, _, _⟩ :: _) _ _; refine wpl (o := ⟨some 3, .box _ _, _, _, _, _⟩) rfl fun K hK => ?_; go_must (refine op_box hs rfl _ rfl [.int .i64 (t'), .int .i64 (n'), .string ⟨(s').toArray⟩] rfl fun b3 w1 h => hK _ _ ?_); clear hs hK K; have hs := h; clear h; try dsimp only [List.set] at hs)
        | (guard_target = wpList _ _ _ (⟨some 6, .load _ _, _, _, _, _⟩ :: _) _ _; refine wpl (o := ⟨some 6, .load _ _, _, _, _, _⟩) rfl fun K hK => op_load rfl (ad := ⟨b2, 0, none⟩) rfl (by kernel_rfl) (hs.cell m1 rfl) (hK _ _ ?_); clear hK K)
        | (guard_target = wpList _ _ _ (⟨some 8, .load _ _, _, _, _, _⟩ :: _) _ _; refine wpl (o := ⟨some 8, .load _ _, _, _, _, _⟩) rfl fun K hK => op_load rfl (ad := ⟨b3, 0, none⟩) rfl (by kernel_rfl) (hs.cell m0 rfl) (hK _ _ ?_); clear hK K)
        | (guard_target = wpList _ _ _ (⟨some 16, .load _ _, _, _, _, _⟩ :: _) _ _; refine wpl (o := ⟨some 16, .load _ _, _, _, _, _⟩) rfl fun K hK => op_load rfl (ad := ⟨b2, 1, none⟩) rfl (by kernel_rfl) (hs.cell m1 rfl) (hK _ _ ?_); clear hK K)
        | (guard_target = wpList _ _ _ (⟨some 18, .load _ _, _, _, _, _⟩ :: _) _ _; refine wpl (o := ⟨some 18, .load _ _, _, _, _, _⟩) rfl fun K hK => op_load rfl (ad := ⟨b3, 1, none⟩) rfl (by kernel_rfl) (hs.cell m0 rfl) (hK _ _ ?_); clear hK K)
        | (guard_target = wpList _ _ _ (⟨some 26, .load _ _, _, _, _, _⟩ :: _) _ _; refine wpl (o := ⟨some 26, .load _ _, _, _, _, _⟩) rfl fun K hK => op_load rfl (ad := ⟨b2, 2, none⟩) rfl (by kernel_rfl) (hs.cell m1 rfl) (hK _ _ ?_); clear hK K)
        | (guard_target = wpList _ _ _ (⟨some 28, .load _ _, _, _, _, _⟩ :: _) _ _; refine wpl (o := ⟨some 28, .load _ _, _, _, _, _⟩) rfl fun K hK => op_load rfl (ad := ⟨b3, 2, none⟩) rfl (by kernel_rfl) (hs.cell m0 rfl) (hK _ _ ?_); clear hK K))
      go_ret
      exact ⟨rfl, hs.tail.tail⟩
    · have e2 : (n != n') = true := by simp [h2]
      rw [if_pos h2]
      clear h2
      go_enter Tryd.func49, Tryd.ntmps49
      go_wp2_with (first
        | (guard_target = wpList _ _ _ (⟨some 2, .box _ _, _, _, _, _⟩ :: _) _ _; refine wpl (o := ⟨some 2, .box _ _, _, _, _, _⟩) rfl fun K hK => ?_; go_must (refine op_box hs rfl _ rfl [.int .i64 (t), .int .i64 (n), .string ⟨(s).toArray⟩] rfl fun b2 w1 h => hK _ _ ?_); clear hs hK K; have hs := h; clear h; try dsimp only [List.set] at hs)
        | (guard_target = wpList _ _ _ (⟨some 3, .box _ _, _, _, _, _⟩ :: _) _ _; refine wpl (o := ⟨some 3, .box _ _, _, _, _, _⟩) rfl fun K hK => ?_; go_must (refine op_box hs rfl _ rfl [.int .i64 (t'), .int .i64 (n'), .string ⟨(s').toArray⟩] rfl fun b3 w1 h => hK _ _ ?_); clear hs hK K; have hs := h; clear h; try dsimp only [List.set] at hs)
        | (guard_target = wpList _ _ _ (⟨some 6, .load _ _, _, _, _, _⟩ :: _) _ _; refine wpl (o := ⟨some 6, .load _ _, _, _, _, _⟩) rfl fun K hK => op_load rfl (ad := ⟨b2, 0, none⟩) rfl (by kernel_rfl) (hs.cell m1 rfl) (hK _ _ ?_); clear hK K)
        | (guard_target = wpList _ _ _ (⟨some 8, .load _ _, _, _, _, _⟩ :: _) _ _; refine wpl (o := ⟨some 8, .load _ _, _, _, _, _⟩) rfl fun K hK => op_load rfl (ad := ⟨b3, 0, none⟩) rfl (by kernel_rfl) (hs.cell m0 rfl) (hK _ _ ?_); clear hK K)
        | (guard_target = wpList _ _ _ (⟨some 16, .load _ _, _, _, _, _⟩ :: _) _ _; refine wpl (o := ⟨some 16, .load _ _, _, _, _, _⟩) rfl fun K hK => op_load rfl (ad := ⟨b2, 1, none⟩) rfl (by kernel_rfl) (hs.cell m1 rfl) (hK _ _ ?_); clear hK K)
        | (guard_target = wpList _ _ _ (⟨some 18, .load _ _, _, _, _, _⟩ :: _) _ _; refine wpl (o := ⟨some 18, .load _ _, _, _, _, _⟩) rfl fun K hK => op_load rfl (ad := ⟨b3, 1, none⟩) rfl (by kernel_rfl) (hs.cell m0 rfl) (hK _ _ ?_); clear hK K)
        | (guard_target = wpList _ _ _ (⟨some 21, .load _ _, _, _, _, _⟩ :: _) _ _; refine wpl (o := ⟨some 21, .load _ _, _, _, _, _⟩) rfl fun K hK => op_load rfl (ad := ⟨b2, 1, none⟩) rfl (by kernel_rfl) (hs.cell m1 rfl) (hK _ _ ?_); clear hK K)
        | (guard_target = wpList _ _ _ (⟨some 23, .load _ _, _, _, _, _⟩ :: _) _ _; refine wpl (o := ⟨some 23, .load _ _, _, _, _, _⟩) rfl fun K hK => op_load rfl (ad := ⟨b3, 1, none⟩) rfl (by kernel_rfl) (hs.cell m0 rfl) (hK _ _ ?_); clear hK K))
      go_ret
      exact ⟨rfl, hs.tail.tail⟩
  · have e1 : (t != t') = true := by simp [h1]
    rw [if_pos h1]
    clear h1
    go_enter Tryd.func49, Tryd.ntmps49
    go_wp2_with (first
      | (guard_target = wpList _ _ _ (⟨some 2, .box _ _, _, _, _, _⟩ :: _) _ _; refine wpl (o := ⟨some 2, .box _ _, _, _, _, _⟩) rfl fun K hK => ?_; go_must (refine op_box hs rfl _ rfl [.int .i64 (t), .int .i64 (n), .string ⟨(s).toArray⟩] rfl fun b2 w1 h => hK _ _ ?_); clear hs hK K; have hs := h; clear h; try dsimp only [List.set] at hs)
      | (guard_target = wpList _ _ _ (⟨some 3, .box _ _, _, _, _, _⟩ :: _) _ _; refine wpl (o := ⟨some 3, .box _ _, _, _, _, _⟩) rfl fun K hK => ?_; go_must (refine op_box hs rfl _ rfl [.int .i64 (t'), .int .i64 (n'), .string ⟨(s').toArray⟩] rfl fun b3 w1 h => hK _ _ ?_); clear hs hK K; have hs := h; clear h; try dsimp only [List.set] at hs)
      | (guard_target = wpList _ _ _ (⟨some 6, .load _ _, _, _, _, _⟩ :: _) _ _; refine wpl (o := ⟨some 6, .load _ _, _, _, _, _⟩) rfl fun K hK => op_load rfl (ad := ⟨b2, 0, none⟩) rfl (by kernel_rfl) (hs.cell m1 rfl) (hK _ _ ?_); clear hK K)
      | (guard_target = wpList _ _ _ (⟨some 8, .load _ _, _, _, _, _⟩ :: _) _ _; refine wpl (o := ⟨some 8, .load _ _, _, _, _, _⟩) rfl fun K hK => op_load rfl (ad := ⟨b3, 0, none⟩) rfl (by kernel_rfl) (hs.cell m0 rfl) (hK _ _ ?_); clear hK K)
      | (guard_target = wpList _ _ _ (⟨some 11, .load _ _, _, _, _, _⟩ :: _) _ _; refine wpl (o := ⟨some 11, .load _ _, _, _, _, _⟩) rfl fun K hK => op_load rfl (ad := ⟨b2, 0, none⟩) rfl (by kernel_rfl) (hs.cell m1 rfl) (hK _ _ ?_); clear hK K)
      | (guard_target = wpList _ _ _ (⟨some 13, .load _ _, _, _, _, _⟩ :: _) _ _; refine wpl (o := ⟨some 13, .load _ _, _, _, _, _⟩) rfl fun K hK => op_load rfl (ad := ⟨b3, 0, none⟩) rfl (by kernel_rfl) (hs.cell m0 rfl) (hK _ _ ?_); clear hK K))
    go_ret
    exact ⟨rfl, hs.tail.tail⟩
set_option maxRecDepth 100000 in
set_option maxHeartbeats 4000000 in
theorem rcompare_spec (W w : World) (L : List HP) (hs : Sat W w L) (t n : Int) (s : List UInt8) (t' n' : Int) (s' : List UInt8) :
    Calls Tryd.prog 34 #[(.agg #[.int .i64 (t), .int .i64 (n), .string ⟨(s).toArray⟩]), (.agg #[.int .i64 (t'), .int .i64 (n'), .string ⟨(s').toArray⟩])] w fun e w' => e = .returned (.int .i64 (cmpV ⟨t, n, s⟩ ⟨t', n', s'⟩)) ∧ Sat W w' L := by
  unfold cmpV
  obtain ⟨p, hp⟩ : ∃ p, aheadB ⟨t, n, s⟩ ⟨t', n', s'⟩ = p := ⟨_, rfl⟩
  obtain ⟨q, hq⟩ : ∃ q, aheadB ⟨t', n', s'⟩ ⟨t, n, s⟩ = q := ⟨_, rfl⟩
  rw [hp, hq]
  have HPP := Box.mk hp
  have HQ := Box.mk hq
  clear hp hq
  cases p <;> cases q
  all_goals (
    go_enter Tryd.func34, Tryd.ntmps34
    go_wp2_with (first
      | (guard_target = wpList _ _ _ (⟨some 2, .box _ _, _, _, _, _⟩ :: _) _ _; refine wpl (o := ⟨some 2, .box _ _, _, _, _, _⟩) rfl fun K hK => ?_; go_must (refine op_box hs rfl _ rfl [.int .i64 (t), .int .i64 (n), .string ⟨(s).toArray⟩] rfl fun b2 w1 h => hK _ _ ?_); clear hs hK K; have hs := h; clear h; try dsimp only [List.set] at hs)
      | (guard_target = wpList _ _ _ (⟨some 3, .box _ _, _, _, _, _⟩ :: _) _ _; refine wpl (o := ⟨some 3, .box _ _, _, _, _, _⟩) rfl fun K hK => ?_; go_must (refine op_box hs rfl _ rfl [.int .i64 (t'), .int .i64 (n'), .string ⟨(s').toArray⟩] rfl fun b3 w1 h => hK _ _ ?_); clear hs hK K; have hs := h; clear h; try dsimp only [List.set] at hs)
      | (guard_target = wpList _ _ _ (⟨some 5, .load _ _, _, _, _, _⟩ :: _) _ _; refine wpl (o := ⟨some 5, .load _ _, _, _, _, _⟩) rfl fun K hK => op_load_agg rfl (b := b2) (i := 0) rfl ([.int .i64 (t), .int .i64 (n), .string ⟨(s).toArray⟩]) (range_whole hs (by (try dsimp only [List.set]); repeat (first | with_reducible exact List.mem_cons_self | with_reducible apply List.mem_cons_of_mem))) (by kernel_rfl) (by kernel_rfl) (hK _ _ ?_); clear hK K)
      | (guard_target = wpList _ _ _ (⟨some 6, .load _ _, _, _, _, _⟩ :: _) _ _; refine wpl (o := ⟨some 6, .load _ _, _, _, _, _⟩) rfl fun K hK => op_load_agg rfl (b := b3) (i := 0) rfl ([.int .i64 (t'), .int .i64 (n'), .string ⟨(s').toArray⟩]) (range_whole hs (by (try dsimp only [List.set]); repeat (first | with_reducible exact List.mem_cons_self | with_reducible apply List.mem_cons_of_mem))) (by kernel_rfl) (by kernel_rfl) (hK _ _ ?_); clear hK K)
      | (guard_target = wpList _ _ _ (⟨some 8, .load _ _, _, _, _, _⟩ :: _) _ _; refine wpl (o := ⟨some 8, .load _ _, _, _, _, _⟩) rfl fun K hK => op_load_agg rfl (b := b3) (i := 0) rfl ([.int .i64 (t'), .int .i64 (n'), .string ⟨(s').toArray⟩]) (range_whole hs (by (try dsimp only [List.set]); repeat (first | with_reducible exact List.mem_cons_self | with_reducible apply List.mem_cons_of_mem))) (by kernel_rfl) (by kernel_rfl) (hK _ _ ?_); clear hK K)
      | (guard_target = wpList _ _ _ (⟨some 9, .load _ _, _, _, _, _⟩ :: _) _ _; refine wpl (o := ⟨some 9, .load _ _, _, _, _, _⟩) rfl fun K hK => op_load_agg rfl (b := b2) (i := 0) rfl ([.int .i64 (t), .int .i64 (n), .string ⟨(s).toArray⟩]) (range_whole hs (by (try dsimp only [List.set]); repeat (first | with_reducible exact List.mem_cons_self | with_reducible apply List.mem_cons_of_mem))) (by kernel_rfl) (by kernel_rfl) (hK _ _ ?_); clear hK K)
      | (have hh := mark1; clear hh; go_at_call 49; go_must (refine (ahead_spec W _ _ hs t' n' s' t n s).mono ?_); clear hs; rintro e w1 ⟨rfl, hs⟩; rw [HQ.out])
      | (go_at_call 49; go_must (refine (ahead_spec W _ _ hs t n s t' n' s').mono ?_); clear hs; rintro e w1 ⟨rfl, hs⟩; rw [HPP.out]; have mark1 := trivial))
    go_ret
    exact ⟨rfl, hs.pack (by repeat (first | with_reducible exact Pack.refl | with_reducible exact Pack.nil | with_reducible refine Pack.cons (by repeat (first | with_reducible exact Pick.here | with_reducible apply Pick.there)) ?_ | with_reducible apply Pack.drop))⟩)
end Go.Proofs.YtgmfgdioaeheoaaDoor
