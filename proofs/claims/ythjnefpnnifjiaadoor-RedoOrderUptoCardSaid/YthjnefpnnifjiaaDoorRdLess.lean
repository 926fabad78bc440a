/- The order of keys: cells.Less, and that of the reference; rise. -/
import Derived.Test.YthjnefpnnifjiaaDoorRdAll
set_option linter.unusedVariables false
set_option linter.unusedSimpArgs false
namespace Go.Proofs.YthjnefpnnifjiaaDoor
open Go.RowKit
def cmpI (x y : Int) : Int := if x < y then -1 else if y < x then 1 else 0
def orI (x y z : Int) : Int := if x ≠ 0 then x else if y ≠ 0 then y else z
def lessK (a b : RKey) : Bool := if a.kind ≠ b.kind then decide (a.kind < b.kind) else if a.a ≠ b.a then decide (a.a < b.a) else decide (a.b < b.b)
theorem less_or (a b : RKey) : decide (orI (cmpI a.kind b.kind) (cmpI a.a b.a) (cmpI a.b b.b) < 0) = lessK a b := by
  unfold orI cmpI lessK
  rw [Bool.eq_iff_iff]
  repeat' split
  all_goals simp <;> omega
set_option maxRecDepth 100000 in
set_option maxHeartbeats 400000 in
theorem isNaN_spec (W w : World) (L : List HP) (hs : Sat W w L) (x : Int) :
    Calls Tryd.prog 98 #[.int .i64 x] w fun e w' => e = .returned (.bool false) ∧ Sat W w' L := by
  go_enter Tryd.func98, Tryd.ntmps98
  go_wp2_with fail
  go_ret
  exact ⟨rfl, hs⟩
set_option maxRecDepth 100000 in
set_option maxHeartbeats 400000 in
theorem cmpI_spec (W w : World) (L : List HP) (hs : Sat W w L) (x y : Int) :
    Calls Tryd.prog 89 #[.int .i64 x, .int .i64 y] w fun e w' => e = .returned (.int .i64 (cmpI x y)) ∧ Sat W w' L := by
  have HN := Box.mk (fun w (L : List HP) hs x => isNaN_spec W w L hs x)
  unfold cmpI
  by_cases h1 : x < y
  · rw [if_pos h1]
    go_enter Tryd.func89, Tryd.ntmps89
    go_wp2_with (first
      | (have hh : n1 = n1 := rfl; clear hh; go_at_call 98; go_must (refine (HN.out _ _ hs y).mono ?_); clear hs; rintro e w1 ⟨rfl, hs⟩)
      | (go_at_call 98; go_must (refine (HN.out _ _ hs x).mono ?_); clear hs; rintro e w1 ⟨rfl, hs⟩; have n1 : Box True := ⟨trivial⟩))
    go_ret
    exact ⟨rfl, hs⟩
  · rw [if_neg h1]
    by_cases h2 : y < x
    · rw [if_pos h2]
      go_enter Tryd.func89, Tryd.ntmps89
      go_wp2_with (first
        | (have hh : n1 = n1 := rfl; clear hh; go_at_call 98; go_must (refine (HN.out _ _ hs y).mono ?_); clear hs; rintro e w1 ⟨rfl, hs⟩)
        | (go_at_call 98; go_must (refine (HN.out _ _ hs x).mono ?_); clear hs; rintro e w1 ⟨rfl, hs⟩; have n1 : Box True := ⟨trivial⟩))
      go_ret
      exact ⟨rfl, hs⟩
    · rw [if_neg h2]
      go_enter Tryd.func89, Tryd.ntmps89
      go_wp2_with (first
        | (have hh : n1 = n1 := rfl; clear hh; go_at_call 98; go_must (refine (HN.out _ _ hs y).mono ?_); clear hs; rintro e w1 ⟨rfl, hs⟩)
        | (go_at_call 98; go_must (refine (HN.out _ _ hs x).mono ?_); clear hs; rintro e w1 ⟨rfl, hs⟩; have n1 : Box True := ⟨trivial⟩))
      go_ret
      exact ⟨rfl, hs⟩
set_option maxRecDepth 100000 in
set_option maxHeartbeats 1000000 in
theorem orI_spec (W w : World) (L : List HP) (b : Nat) (x y z : Int) (hs : Sat W w L) (hm : row b (intsC [x, y, z]) 3 ∈ L) :
    Calls Tryd.prog 88 #[.slice (some ⟨b, 0, none⟩) 3 3] w fun e w' => e = .returned (.int .i64 (orI x y z)) ∧ Sat W w' L := by
  have hg := fun i h => intsC_get [x, y, z] i h
  obtain ⟨l, hl⟩ : ∃ l : List Int, [x, y, z] = l := ⟨_, rfl⟩
  rw [hl] at hm hg
  have hl3 : l.length = 3 := by rw [← hl]; rfl
  have hO : ∀ i (h : i < l.length), l[i] ≠ 0 → (∀ j (hj : j < l.length), j < i → l[j] = 0) → orI x y z = l[i] := by
    subst hl
    intro i hi h0 hj
    unfold orI
    have h3 : i = 0 ∨ i = 1 ∨ i = 2 := by simp at hi; omega
    rcases h3 with rfl | rfl | rfl
    · simp only [List.getElem_cons_zero] at h0 ⊢; rw [if_pos h0]
    · have := hj 0 (by simp) (by omega)
      simp at this h0 ⊢; simp [this, h0]
    · have a1 := hj 0 (by simp) (by omega)
      have a2 := hj 1 (by simp) (by omega)
      simp at a1 a2 h0 ⊢; simp [a1, a2]
  have hZ : (∀ j (hj : j < l.length), l[j] = 0) → orI x y z = 0 := by
    subst hl
    intro hj
    have a1 := hj 0 (by simp)
    have a2 := hj 1 (by simp)
    have a3 := hj 2 (by simp)
    simp at a1 a2 a3
    simp [orI, a1, a2, a3]
  have HO := Box.mk (And.intro hO hZ)
  have HGT := Box.mk hg
  clear hO hZ hl hg
  go_enter Tryd.func88, Tryd.ntmps88
  go_wp2_with fail
  go_loopw [8] (fun v8 wr => ∃ i : Nat, i ≤ 3 ∧ v8 = .int .i64 (i : Nat) ∧ Box (∀ j (hj : j < l.length), j < i → l[j] = 0) ∧ Sat W wr L) (fun v8 _ => 3 - (intOf v8).toNat)
  case atStart => exact ⟨0, by omega, rfl, ⟨fun j _ h => by omega⟩, hs⟩
  case round =>
    clear hs
    obtain ⟨i, hi, rfl, hz, hs⟩ := hrel
    by_cases hlt : i < 3
    · have hltI : (i : Int) < 3 := by omega
      have hil : i < l.length := by omega
      have k11 : wr.cell? ⟨b, i, none⟩ = some (.int .i64 l[i]) := hs.cell hm (HGT.out i hil)
      by_cases h0 : l[i] = 0
      · have hz2 : Box (∀ j (hj : j < l.length), j < i + 1 → l[j] = 0) := ⟨fun j hj h => by
          by_cases e : j = i
          · subst e; exact h0
          · exact hz.out j hj (by omega)⟩
        generalize l[i] = n at k11 h0
        subst h0
        go_wp2_with (first
          | (guard_target = wpList _ _ _ (⟨some 11, .load _ _, _, _, _, _⟩ :: _) _ _; refine wpl (o := ⟨some 11, .load _ _, _, _, _, _⟩) rfl fun K hK => op_load rfl (ad := ⟨b, i, none⟩) rfl (by kernel_rfl) k11 (hK _ _ ?_); clear hK K))
        exact ⟨⟨i + 1, by omega, by go_num, hz2, hs⟩, by simp only [intOf]; omega⟩
      · have hO := Box.mk (HO.out.1 i hil h0 hz.out)
        generalize l[i] = n at k11 h0 hO
        have h0I : ((n : Int) != 0) = true := by simp [h0]
        go_wp2_with (first
          | (guard_target = wpList _ _ _ (⟨some 11, .load _ _, _, _, _, _⟩ :: _) _ _; refine wpl (o := ⟨some 11, .load _ _, _, _, _, _⟩) rfl fun K hK => op_load rfl (ad := ⟨b, i, none⟩) rfl (by kernel_rfl) k11 (hK _ _ ?_); clear hK K))
        go_ret
        exact ⟨by rw [hO.out]; rfl, hs⟩
    · have hltI : ¬ (i : Int) < 3 := by omega
      have hO := Box.mk (HO.out.2 fun j hj => hz.out j hj (by omega))
      go_wp2_with fail
      go_ret
      exact ⟨by rw [hO.out]; rfl, hs⟩
def twoR (b2 : Nat) (cs : List Value) (b3 : Nat) (ds : List Value) (w : World) : Prop := w.rangeAt b2 0 cs ∧ w.rangeAt b3 0 ds
set_option maxRecDepth 100000 in
set_option maxHeartbeats 2000000 in
theorem compare_specK (W w : World) (L : List HP) (hs : Sat W w L) (x y : RKey) :
    Calls Tryd.prog 78 #[.agg (kC x).toArray, .agg (kC y).toArray] w fun e w' => e = .returned (.int .i64 (orI (cmpI x.kind y.kind) (cmpI x.a y.a) (cmpI x.b y.b))) ∧ Sat W w' L := by
  obtain ⟨c1, hc1⟩ : ∃ c, cmpI x.kind y.kind = c := ⟨_, rfl⟩
  obtain ⟨c2, hc2⟩ : ∃ c, cmpI x.a y.a = c := ⟨_, rfl⟩
  obtain ⟨c3, hc3⟩ : ∃ c, cmpI x.b y.b = c := ⟨_, rfl⟩
  rw [hc1, hc2, hc3]
  have H1 := Box.mk (fun w (L : List HP) hs => by have := cmpI_spec W w L hs x.kind y.kind; rw [hc1] at this; exact this)
  have H2 := Box.mk (fun w (L : List HP) hs => by have := cmpI_spec W w L hs x.a y.a; rw [hc2] at this; exact this)
  have H3 := Box.mk (fun w (L : List HP) hs => by have := cmpI_spec W w L hs x.b y.b; rw [hc3] at this; exact this)
  clear hc1 hc2 hc3
  go_enter Tryd.func78, Tryd.ntmps78
  go_wp2_with (first
    | (guard_target = wpList _ _ _ (⟨some 2, .box _ _, _, _, _, _⟩ :: _) _ _; refine wpl (o := ⟨some 2, .box _ _, _, _, _, _⟩) rfl fun K hK => ?_; go_must (refine op_box hs rfl _ rfl (kC x) rfl fun b2 w1 h => hK _ _ ?_); clear hs hK K; have hs := h; clear h; try dsimp only [List.set] at hs)
    | (guard_target = wpList _ _ _ (⟨some 3, .box _ _, _, _, _, _⟩ :: _) _ _; refine wpl (o := ⟨some 3, .box _ _, _, _, _, _⟩) rfl fun K hK => ?_; go_must (refine op_box hs rfl _ rfl (kC y) rfl fun b3 w1 h => hK _ _ ?_); clear hs hK K; have hs := h; clear h; try dsimp only [List.set] at hs))
  have cS : ∀ w M, Sat W w M → row b2 (kC x) 57 ∈ M → row b3 (kC y) 57 ∈ M → twoR b2 (kC x) b3 (kC y) w := fun w M h h1 h2 => ⟨range_whole h h1, range_whole h h2⟩
  have d20 : ∀ w, twoR b2 (kC x) b3 (kC y) w → w.cell? ⟨b2, 0, none⟩ = some (.int .i64 x.kind) := fun w h => h.1 0 _ rfl
  have d21 : ∀ w, twoR b2 (kC x) b3 (kC y) w → w.cell? ⟨b2, 1, none⟩ = some (.int .i64 x.a) := fun w h => h.1 1 _ rfl
  have d22 : ∀ w, twoR b2 (kC x) b3 (kC y) w → w.cell? ⟨b2, 2, none⟩ = some (.int .i64 x.b) := fun w h => h.1 2 _ rfl
  have d30 : ∀ w, twoR b2 (kC x) b3 (kC y) w → w.cell? ⟨b3, 0, none⟩ = some (.int .i64 y.kind) := fun w h => h.2 0 _ rfl
  have d31 : ∀ w, twoR b2 (kC x) b3 (kC y) w → w.cell? ⟨b3, 1, none⟩ = some (.int .i64 y.a) := fun w h => h.2 1 _ rfl
  have d32 : ∀ w, twoR b2 (kC x) b3 (kC y) w → w.cell? ⟨b3, 2, none⟩ = some (.int .i64 y.b) := fun w h => h.2 2 _ rfl
  have hS0 := cS _ _ hs.drew (by (try dsimp only [List.set]); repeat (first | with_reducible exact List.mem_cons_self | with_reducible apply List.mem_cons_of_mem)) (by (try dsimp only [List.set]); repeat (first | with_reducible exact List.mem_cons_self | with_reducible apply List.mem_cons_of_mem))
  refine wp_region_tree (twoR b2 (kC x) b3 (kC y)) (.take 0 (.take 1 (.take 2 (.take 3 (.take 5 (.take 6 (.take 7 (.take 8 (.take 10 (.take 11 (.take 12 (.take 13 (.all [(4, .all [(9, .all [(14, .all [(15, .all [(16, .take 17 (DTree.done))])])])])]))))))))))))) (by kernel_rfl) (by kernel_rfl) (by kernel_rfl) (fun _ _ d _ _ h => by cases d <;> exact h) hS0 ?_
  have hs' := hs.drew
  clear hs
  have hs := hs'
  clear hs'
  have hq := fun p : Prop => class_const hS0 p
  clear hS0
  repeat (first
    | (with_reducible refine tree_load (o := ⟨some 6, .load _ _, _, _, _, _⟩) rfl rfl rfl rfl rfl d20 ?_)
    | (with_reducible refine tree_load (o := ⟨some 8, .load _ _, _, _, _, _⟩) rfl rfl rfl rfl rfl d30 ?_)
    | (with_reducible refine tree_load (o := ⟨some 11, .load _ _, _, _, _, _⟩) rfl rfl rfl rfl rfl d21 ?_)
    | (with_reducible refine tree_load (o := ⟨some 13, .load _ _, _, _, _, _⟩) rfl rfl rfl rfl rfl d31 ?_)
    | (with_reducible refine tree_load (o := ⟨some 16, .load _ _, _, _, _, _⟩) rfl rfl rfl rfl rfl d22 ?_)
    | (with_reducible refine tree_load (o := ⟨some 18, .load _ _, _, _, _, _⟩) rfl rfl rfl rfl rfl d32 ?_)
    | (refine tree_take rfl (fun K hK => ?_); go_simp; (first | with_reducible refine hK _ ?_ | (rw [if_neg (by decide)]; with_reducible refine hK _ ?_)); clear hK K))
  refine tree_one_yes (o := _) rfl rfl (fun K hK => ?_) (cS _ _ hs (by (try dsimp only [List.set]); repeat (first | with_reducible exact List.mem_cons_self | with_reducible apply List.mem_cons_of_mem)) (by (try dsimp only [List.set]); repeat (first | with_reducible exact List.mem_cons_self | with_reducible apply List.mem_cons_of_mem)))
  try go_simp
  go_at_call 89
  refine (H1.out _ _ hs).mono ?_
  clear hs
  rintro e w5 ⟨rfl, hs⟩
  try go_simp
  refine hK _ _ (cS _ _ hs (by (try dsimp only [List.set]); repeat (first | with_reducible exact List.mem_cons_self | with_reducible apply List.mem_cons_of_mem)) (by (try dsimp only [List.set]); repeat (first | with_reducible exact List.mem_cons_self | with_reducible apply List.mem_cons_of_mem))) ?_
  clear hK K
  refine tree_one_yes (o := _) rfl rfl (fun K hK => ?_) (cS _ _ hs (by (try dsimp only [List.set]); repeat (first | with_reducible exact List.mem_cons_self | with_reducible apply List.mem_cons_of_mem)) (by (try dsimp only [List.set]); repeat (first | with_reducible exact List.mem_cons_self | with_reducible apply List.mem_cons_of_mem)))
  try go_simp
  go_at_call 89
  refine (H2.out _ _ hs).mono ?_
  clear hs
  rintro e w5 ⟨rfl, hs⟩
  try go_simp
  refine hK _ _ (cS _ _ hs (by (try dsimp only [List.set]); repeat (first | with_reducible exact List.mem_cons_self | with_reducible apply List.mem_cons_of_mem)) (by (try dsimp only [List.set]); repeat (first | with_reducible exact List.mem_cons_self | with_reducible apply List.mem_cons_of_mem))) ?_
  clear hK K
  refine tree_one_yes (o := _) rfl rfl (fun K hK => ?_) (cS _ _ hs (by (try dsimp only [List.set]); repeat (first | with_reducible exact List.mem_cons_self | with_reducible apply List.mem_cons_of_mem)) (by (try dsimp only [List.set]); repeat (first | with_reducible exact List.mem_cons_self | with_reducible apply List.mem_cons_of_mem)))
  try go_simp
  go_at_call 89
  refine (H3.out _ _ hs).mono ?_
  clear hs
  rintro e w5 ⟨rfl, hs⟩
  try go_simp
  refine hK _ _ (cS _ _ hs (by (try dsimp only [List.set]); repeat (first | with_reducible exact List.mem_cons_self | with_reducible apply List.mem_cons_of_mem)) (by (try dsimp only [List.set]); repeat (first | with_reducible exact List.mem_cons_self | with_reducible apply List.mem_cons_of_mem))) ?_
  clear hK K
  refine tree_one_yes (o := _) rfl rfl (fun K hK => ?_) (cS _ _ hs (by (try dsimp only [List.set]); repeat (first | with_reducible exact List.mem_cons_self | with_reducible apply List.mem_cons_of_mem)) (by (try dsimp only [List.set]); repeat (first | with_reducible exact List.mem_cons_self | with_reducible apply List.mem_cons_of_mem)))
  refine op_lit1 hs rfl Tryd.underlying134 info_intR rfl (intsC [c1, c2, c3]) (by omega) rfl (intsC_one _) (by first | rfl | (simp [intsC, Act.eval, Act.put]; done) | (simp [intsC, Act.eval, Act.put]; rfl)) fun b20 w1 h => hK _ _ (cS _ _ h (by (try dsimp only [List.set]); repeat (first | with_reducible exact List.mem_cons_self | with_reducible apply List.mem_cons_of_mem)) (by (try dsimp only [List.set]); repeat (first | with_reducible exact List.mem_cons_self | with_reducible apply List.mem_cons_of_mem))) ?_
  clear hs hK K
  have hs := h
  clear h
  try dsimp only [List.set] at hs
  try go_simp
  refine tree_one_yes (o := _) rfl rfl (fun K hK => ?_) (cS _ _ hs (by (try dsimp only [List.set]); repeat (first | with_reducible exact List.mem_cons_self | with_reducible apply List.mem_cons_of_mem)) (by (try dsimp only [List.set]); repeat (first | with_reducible exact List.mem_cons_self | with_reducible apply List.mem_cons_of_mem)))
  try go_simp
  go_at_call 88
  refine (orI_spec W _ _ b20 c1 c2 c3 hs (by (try dsimp only [List.set]); repeat (first | with_reducible exact List.mem_cons_self | with_reducible apply List.mem_cons_of_mem))).mono ?_
  clear hs
  rintro e w5 ⟨rfl, hs⟩
  try go_simp
  refine hK _ _ (cS _ _ hs (by (try dsimp only [List.set]); repeat (first | with_reducible exact List.mem_cons_self | with_reducible apply List.mem_cons_of_mem)) (by (try dsimp only [List.set]); repeat (first | with_reducible exact List.mem_cons_self | with_reducible apply List.mem_cons_of_mem))) ?_
  clear hK K
  repeat (first
    | (with_reducible refine tree_load (o := ⟨some 6, .load _ _, _, _, _, _⟩) rfl rfl rfl rfl rfl d20 ?_)
    | (with_reducible refine tree_load (o := ⟨some 8, .load _ _, _, _, _, _⟩) rfl rfl rfl rfl rfl d30 ?_)
    | (with_reducible refine tree_load (o := ⟨some 11, .load _ _, _, _, _, _⟩) rfl rfl rfl rfl rfl d21 ?_)
    | (with_reducible refine tree_load (o := ⟨some 13, .load _ _, _, _, _, _⟩) rfl rfl rfl rfl rfl d31 ?_)
    | (with_reducible refine tree_load (o := ⟨some 16, .load _ _, _, _, _, _⟩) rfl rfl rfl rfl rfl d22 ?_)
    | (with_reducible refine tree_load (o := ⟨some 18, .load _ _, _, _, _, _⟩) rfl rfl rfl rfl rfl d32 ?_)
    | (refine tree_take rfl (fun K hK => ?_); go_simp; (first | with_reducible refine hK _ ?_ | (rw [if_neg (by decide)]; with_reducible refine hK _ ?_)); clear hK K))
  refine tree_done ?_
  clear hq
  go_wp2_with fail
  go_ret
  exact ⟨rfl, hs.pack (by repeat (first | with_reducible exact Pack.refl | with_reducible exact Pack.nil | with_reducible refine Pack.cons (by repeat (first | with_reducible exact Pick.here | with_reducible apply Pick.there)) ?_ | with_reducible apply Pack.drop))⟩
set_option maxRecDepth 100000 in
set_option maxHeartbeats 1000000 in
theorem less_spec (W w : World) (L : List HP) (hs : Sat W w L) (x y : RKey) :
    Calls Tryd.prog 58 #[.agg (kC x).toArray, .agg (kC y).toArray] w fun e w' => e = .returned (.bool (lessK x y)) ∧ Sat W w' L := by
  rw [← less_or]
  have HC := Box.mk (fun w (L : List HP) hs => compare_specK W w L hs x y)
  generalize orI (cmpI x.kind y.kind) (cmpI x.a y.a) (cmpI x.b y.b) = c at HC ⊢
  go_enter Tryd.func58, Tryd.ntmps58
  go_wp2_with (first
    | (guard_target = wpList _ _ _ (⟨some 2, .box _ _, _, _, _, _⟩ :: _) _ _; refine wpl (o := ⟨some 2, .box _ _, _, _, _, _⟩) rfl fun K hK => ?_; go_must (refine op_box hs rfl _ rfl (kC x) rfl fun b2 w1 h => hK _ _ ?_); clear hs hK K; have hs := h; clear h; try dsimp only [List.set] at hs)
    | (guard_target = wpList _ _ _ (⟨some 3, .box _ _, _, _, _, _⟩ :: _) _ _; refine wpl (o := ⟨some 3, .box _ _, _, _, _, _⟩) rfl fun K hK => ?_; go_must (refine op_box hs rfl _ rfl (kC y) rfl fun b3 w1 h => hK _ _ ?_); clear hs hK K; have hs := h; clear h; try dsimp only [List.set] at hs)
    | (guard_target = wpList _ _ _ (⟨some 5, .load _ _, _, _, _, _⟩ :: _) _ _; refine wpl (o := ⟨some 5, .load _ _, _, _, _, _⟩) rfl fun K hK => op_load_agg rfl (b := b2) (i := 0) rfl (kC x) (range_whole hs (by (try dsimp only [List.set]); repeat (first | with_reducible exact List.mem_cons_self | with_reducible apply List.mem_cons_of_mem))) (by kernel_rfl) (by kernel_rfl) (hK _ _ ?_); clear hK K)
    | (guard_target = wpList _ _ _ (⟨some 6, .load _ _, _, _, _, _⟩ :: _) _ _; refine wpl (o := ⟨some 6, .load _ _, _, _, _, _⟩) rfl fun K hK => op_load_agg rfl (b := b3) (i := 0) rfl (kC y) (range_whole hs (by (try dsimp only [List.set]); repeat (first | with_reducible exact List.mem_cons_self | with_reducible apply List.mem_cons_of_mem))) (by kernel_rfl) (by kernel_rfl) (hK _ _ ?_); clear hK K)
    | (go_at_call 78; go_must (refine (HC.out _ _ hs).mono ?_); clear hs; rintro e w1 ⟨rfl, hs⟩))
  go_ret
  exact ⟨rfl, hs.pack (by repeat (first | with_reducible exact Pack.refl | with_reducible exact Pack.nil | with_reducible refine Pack.cons (by repeat (first | with_reducible exact Pick.here | with_reducible apply Pick.there)) ?_ | with_reducible apply Pack.drop))⟩
end Go.Proofs.YthjnefpnnifjiaaDoor
