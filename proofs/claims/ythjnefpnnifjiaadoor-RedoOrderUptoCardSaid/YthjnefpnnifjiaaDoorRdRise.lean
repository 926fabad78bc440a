/- The contracts of rise, at writes and at cells. -/
import Derived.Test.YthjnefpnnifjiaaDoorRdLess
set_option linter.unusedVariables false
set_option linter.unusedSimpArgs false
namespace Go.Proofs.YthjnefpnnifjiaaDoor
open Go.RowKit
def riseK : List RKey → Bool
  | a :: b :: t => lessK a b && riseK (b :: t)
  | _ => true
theorem riseK_iff : ∀ ks : List RKey, riseK ks = true ↔ ∀ i (h : i + 1 < ks.length), lessK ks[i] ks[i + 1] = true
  | [] => by simp [riseK]
  | [a] => by simp [riseK]
  | a :: b :: t => by
    rw [riseK, Bool.and_eq_true, riseK_iff (b :: t)]
    constructor
    · rintro ⟨h1, h2⟩ i hi
      cases i with
      | zero => exact h1
      | succ i => exact h2 i (by simpa using hi)
    · intro h
      refine ⟨h 0 (by simp), fun i hi => ?_⟩
      have := h (i + 1) (by simpa using hi)
      exact this
theorem riseK_all {ks : List RKey} {n : Nat} (hn : ks.length = n) (h : ∀ i (h1 : i + 1 < ks.length), i + 1 < n → lessK ks[i] ks[i + 1] = true) : riseK ks = true := (riseK_iff ks).2 fun i h1 => h i h1 (by omega)
theorem riseK_no {ks : List RKey} {i : Nat} (h : i + 1 < ks.length) (h2 : lessK ks[i] ks[i + 1] = false) : riseK ks = false := by
  cases e : riseK ks with
  | false => rfl
  | true => have := (riseK_iff ks).1 e i h; rw [h2] at this; cases this
theorem own_formR {W w : World} {M : List HP} {v : Value} {e : TypeId} {n sz : Nat} {vs : List Value} (h : Sat W w M) (hm : own v e n sz vs ∈ M) (h0 : 0 < n) : ∃ b c, v = .slice (some ⟨b, 0, none⟩) n c ∧ n ≤ c ∧ c ≤ 9223372036854775807 :=
  h.fact hm fun F hF => by
    obtain ⟨hl, ⟨e1, _⟩ | ⟨b, cap, sp, e1, h1, h2, _⟩⟩ := hF
    · omega
    · exact ⟨b, cap, e1, h1, h2⟩
theorem own_partR {α : Type} (f : α → List Value) (sz : Nat) (hf : ∀ x, (f x).length = sz) {W w : World} {M : List HP} (hs : Sat W w M) {b c : Nat} {e : TypeId} {l : List α} (hm : own (.slice (some ⟨b, 0, none⟩) l.length c) e l.length sz (l.flatMap f) ∈ M) (i : Nat) (h : i < l.length) : w.rangeAt b (i * sz) (f l[i]) := by
  have := slice_range f sz hf hs (Has.mem hm own_sliceAt) i h
  rw [Nat.zero_add] at this
  exact this
def twoE (b o : Nat) (cs : List Value) (q : Nat) (ds : List Value) (w : World) : Prop := w.rangeAt b o cs ∧ w.rangeAt b q ds
set_option maxRecDepth 100000 in
set_option maxHeartbeats 1000000 in
theorem keyW_spec (W w : World) (L : List HP) (hs : Sat W w L) (x : RWr) :
    Calls Tryd.prog 39 #[.agg (wC x).toArray] w fun e w' => e = .returned (.agg (kC x.k).toArray) ∧ Sat W w' L := by
  go_enter Tryd.func39, Tryd.ntmps39
  go_wp2_with (first
    | (guard_target = wpList _ _ _ (⟨some 1, .box _ _, _, _, _, _⟩ :: _) _ _; refine wpl (o := ⟨some 1, .box _ _, _, _, _, _⟩) rfl fun K hK => ?_; go_must (refine op_box hs rfl _ rfl (wC x) rfl fun b1 w1 h => hK _ _ ?_); clear hs hK K; have hs := h; clear h; try dsimp only [List.set] at hs)
    | (guard_target = wpList _ _ _ (⟨some 2, .alloc _, _, _, _, _⟩ :: _) _ _; refine wpl (o := ⟨some 2, .alloc _, _, _, _, _⟩) rfl fun K hK => ?_; go_must (refine op_alloc hs rfl _ zkey [Value.int .i64 0, .int .i64 0, .int .i64 0] rfl fun b2 w1 h => hK _ _ ?_); clear hs hK K; have hs := h; clear h; try dsimp only [List.set] at hs)
    | (guard_target = wpList _ _ _ (⟨some 4, .load _ _, _, _, _, _⟩ :: _) _ _; refine wpl (o := ⟨some 4, .load _ _, _, _, _, _⟩) rfl fun K hK => op_load_agg rfl (b := b1) (i := 0) rfl (kC x.k) (range_pre (ds := [(.string ⟨(x.v).toArray⟩)]) (range_whole hs (show row b1 (wC x) 61 ∈ _ from (by (try dsimp only [List.set]); repeat (first | with_reducible exact List.mem_cons_self | with_reducible apply List.mem_cons_of_mem))))) (by kernel_rfl) (by kernel_rfl) (hK _ _ ?_); clear hK K)
    | (guard_target = wpList _ _ _ (⟨none, .store _ (.tmp 2) _, _, _, _, _⟩ :: _) _ _; refine wpl (o := ⟨none, .store _ (.tmp 2) _, _, _, _, _⟩) rfl fun K hK => ?_; go_must (refine op_store_whole hs (b := b2) rfl rfl (kC x.k) rfl (by simp [kC, Value.oneCell']) (by kernel_rfl) (k := 0) rfl rfl fun w3 h => hK _ _ ?_); clear hs hK K; have hs := h; clear h; try dsimp only [List.set] at hs))
  exact bodyPost_ret (run_results_cell rfl (b := b2) rfl (kC x.k) (range_whole hs m0) (by kernel_rfl) (by kernel_rfl)) rfl ⟨rfl, hs.pack (by repeat (first | with_reducible exact Pack.refl | with_reducible exact Pack.nil | with_reducible refine Pack.cons (by repeat (first | with_reducible exact Pick.here | with_reducible apply Pick.there)) ?_ | with_reducible apply Pack.drop))⟩
set_option maxRecDepth 100000 in
set_option maxHeartbeats 1000000 in
theorem keyC_spec (W w : World) (L : List HP) (hs : Sat W w L) (x : RCl) :
    Calls Tryd.prog 66 #[.agg (cC x).toArray] w fun e w' => e = .returned (.agg (kC x.k).toArray) ∧ Sat W w' L := by
  go_enter Tryd.func66, Tryd.ntmps66
  go_wp2_with (first
    | (guard_target = wpList _ _ _ (⟨some 1, .box _ _, _, _, _, _⟩ :: _) _ _; refine wpl (o := ⟨some 1, .box _ _, _, _, _, _⟩) rfl fun K hK => ?_; go_must (refine op_box hs rfl _ rfl (cC x) rfl fun b1 w1 h => hK _ _ ?_); clear hs hK K; have hs := h; clear h; try dsimp only [List.set] at hs)
    | (guard_target = wpList _ _ _ (⟨some 2, .alloc _, _, _, _, _⟩ :: _) _ _; refine wpl (o := ⟨some 2, .alloc _, _, _, _, _⟩) rfl fun K hK => ?_; go_must (refine op_alloc hs rfl _ zkey [Value.int .i64 0, .int .i64 0, .int .i64 0] rfl fun b2 w1 h => hK _ _ ?_); clear hs hK K; have hs := h; clear h; try dsimp only [List.set] at hs)
    | (guard_target = wpList _ _ _ (⟨some 4, .load _ _, _, _, _, _⟩ :: _) _ _; refine wpl (o := ⟨some 4, .load _ _, _, _, _, _⟩) rfl fun K hK => op_load_agg rfl (b := b1) (i := 0) rfl (kC x.k) (range_pre (ds := [.int .i64 x.ts, (.string ⟨(x.v).toArray⟩)]) (range_whole hs (show row b1 (cC x) 59 ∈ _ from (by (try dsimp only [List.set]); repeat (first | with_reducible exact List.mem_cons_self | with_reducible apply List.mem_cons_of_mem))))) (by kernel_rfl) (by kernel_rfl) (hK _ _ ?_); clear hK K)
    | (guard_target = wpList _ _ _ (⟨none, .store _ (.tmp 2) _, _, _, _, _⟩ :: _) _ _; refine wpl (o := ⟨none, .store _ (.tmp 2) _, _, _, _, _⟩) rfl fun K hK => ?_; go_must (refine op_store_whole hs (b := b2) rfl rfl (kC x.k) rfl (by simp [kC, Value.oneCell']) (by kernel_rfl) (k := 0) rfl rfl fun w3 h => hK _ _ ?_); clear hs hK K; have hs := h; clear h; try dsimp only [List.set] at hs))
  exact bodyPost_ret (run_results_cell rfl (b := b2) rfl (kC x.k) (range_whole hs m0) (by kernel_rfl) (by kernel_rfl)) rfl ⟨rfl, hs.pack (by repeat (first | with_reducible exact Pack.refl | with_reducible exact Pack.nil | with_reducible refine Pack.cons (by repeat (first | with_reducible exact Pick.here | with_reducible apply Pick.there)) ?_ | with_reducible apply Pack.drop))⟩
set_option maxRecDepth 100000 in
set_option maxHeartbeats 4000000 in
theorem riseW_spec (W w : World) (M : List HP) (v : Value) (l : List RWr) (hs : Sat W w (own v 61 l.length 4 (wsC l) :: M)) (hb : l.length ≤ 4294967297) :
    Calls Tryd.prog 38 #[v, .func (.func 39) #[] #[]] w fun e w' => e = .returned (.bool (riseK (l.map (·.k)))) ∧ Sat W w' (own v 61 l.length 4 (wsC l) :: M) := by
  obtain ⟨A, c, rfl, _, _⟩ := own_slice hs (i := 0) rfl
  go_enter Tryd.func38, Tryd.ntmps38
  go_wp2_with fail
  go_loopw [5] (fun v5 wr => ∃ i : Nat, 1 ≤ i ∧ i ≤ l.length + 1 ∧ v5 = .int .i64 (i : Nat) ∧ Box (∀ j (h : j + 1 < l.length), j + 1 < i → lessK l[j].k l[j + 1].k = true) ∧ Sat W wr (own (.slice A l.length c) 61 l.length 4 (wsC l) :: M)) (fun v5 _ => l.length + 1 - (intOf v5).toNat)
  case atStart => exact ⟨1, by omega, by omega, rfl, ⟨fun j _ h => by omega⟩, hs⟩
  case round =>
    clear hs
    obtain ⟨i, h1, hi, rfl, hall, hs⟩ := hrel
    by_cases hlt : i < l.length
    · have hltI : (i : Int) < (l.length : Int) := by omega
      obtain ⟨im, hi2⟩ : ∃ im, i = im + 1 := ⟨i - 1, by omega⟩
      obtain ⟨bo, co, e, _, _⟩ := own_formR hs m0 (by omega)
      cases e
      have hmlt : im < l.length := by omega
      have hmltI : (im : Int) < (l.length : Int) := by omega
      have hwm : IntKind.i64.wrap ((i : Int) - 1) = (im : Int) := by rw [IntKind.wrap_i64]; omega
      have hwi : IntKind.i64.wrap ((i : Int) + 1) = (i : Int) + 1 := by rw [IntKind.wrap_i64]; omega
      have cS0 : ∀ w N, Sat W w N → own (.slice (some ⟨bo, 0, none⟩) l.length c) 61 l.length 4 (wsC l) ∈ N → twoE bo (im * 4) (wC l[im]) (i * 4) (wC l[i]) w := fun w N h hm => ⟨own_partR wC 4 wC_length h hm im hmlt, own_partR wC 4 wC_length h hm i hlt⟩
      have hnext : lessK l[im].k l[i].k = true → Box (∀ j (h : j + 1 < l.length), j + 1 < i + 1 → lessK l[j].k l[j + 1].k = true) := fun hl => ⟨fun j h hj => by
        by_cases e : j + 1 = i
        · have e2 : j = im := by omega
          subst e2; subst e; exact hl
        · exact hall.out j h (by omega)⟩
      have hno : lessK l[im].k l[i].k = false → Box (riseK (l.map (·.k)) = false) := fun hl => ⟨riseK_no (i := im) (by simp; omega) (by subst hi2; simpa using hl)⟩
      generalize hx : l[im] = x at cS0 hnext hno
      generalize hy : l[i] = y at cS0 hnext hno
      clear hx hy
      have KX := Box.mk (fun w (L : List HP) hs => keyW_spec W w L hs x)
      have KY := Box.mk (fun w (L : List HP) hs => keyW_spec W w L hs y)
      obtain ⟨q, hq1⟩ : ∃ q, lessK x.k y.k = q := ⟨_, rfl⟩
      have HL := Box.mk (fun w (L : List HP) hs => by have := less_spec W w L hs x.k y.k; rw [hq1] at this; exact this)
      rw [hq1] at hnext hno
      have HNX := Box.mk hnext
      have HNO := Box.mk hno
      clear hnext hno hq1 hall hi2
      have r1 : ∀ w, twoE bo (im * 4) (wC x) (i * 4) (wC y) w → w.rangeAt bo (im * 4) (wC x) := fun w h => h.1
      have r2 : ∀ w, twoE bo (im * 4) (wC x) (i * 4) (wC y) w → w.rangeAt bo (i * 4) (wC y) := fun w h => h.2
      go_wp2_with fail
      cases q
      · have hS0 := cS0 _ _ hs.drew (by (try dsimp only [List.set]); repeat (first | with_reducible exact List.mem_cons_self | with_reducible apply List.mem_cons_of_mem))
        refine wp_region_tree (twoE bo (im * 4) (wC x) (i * 4) (wC y)) (.take 0 (.take 1 (.take 2 (.take 3 (.take 4 (.take 5 (.take 7 (.take 8 (.take 9 (.take 10 (.take 11 (.all [(6, .all [(12, .all [(13, .take 14 (DTree.done))])])])))))))))))) (by kernel_rfl) (by kernel_rfl) (by kernel_rfl) (fun _ _ d _ _ h => by cases d <;> exact h) hS0 ?_
        have hs' := hs.drew
        clear hs
        have hs := hs'
        clear hs'
        have hq := fun p : Prop => class_const hS0 p
        clear hS0
        repeat (first
          | (with_reducible refine tree_load_agg (o := ⟨some 17, .load _ _, _, _, _, _⟩) (wC x) rfl rfl rfl rfl ?_ ?_ r1 ?_; (kernel_rfl); (kernel_rfl))
          | (with_reducible refine tree_load_agg (o := ⟨some 23, .load _ _, _, _, _, _⟩) (wC y) rfl rfl rfl rfl ?_ ?_ r2 ?_; (kernel_rfl); (kernel_rfl))
          | (refine tree_take rfl (fun K hK => ?_); go_simp; (first | with_reducible refine hK _ ?_ | (rw [if_neg (by decide)]; with_reducible refine hK _ ?_)); clear hK K))
        refine tree_one_yes (o := _) rfl rfl (fun K hK => ?_) (cS0 _ _ hs (by (try dsimp only [List.set]); repeat (first | with_reducible exact List.mem_cons_self | with_reducible apply List.mem_cons_of_mem)))
        try go_simp
        go_at_call 39
        refine (KX.out _ _ hs).mono ?_
        clear hs
        rintro e w5 ⟨rfl, hs⟩
        try go_simp
        refine hK _ _ (cS0 _ _ hs (by (try dsimp only [List.set]); repeat (first | with_reducible exact List.mem_cons_self | with_reducible apply List.mem_cons_of_mem))) ?_
        clear hK K
        refine tree_one_yes (o := _) rfl rfl (fun K hK => ?_) (cS0 _ _ hs (by (try dsimp only [List.set]); repeat (first | with_reducible exact List.mem_cons_self | with_reducible apply List.mem_cons_of_mem)))
        try go_simp
        go_at_call 39
        refine (KY.out _ _ hs).mono ?_
        clear hs
        rintro e w5 ⟨rfl, hs⟩
        try go_simp
        refine hK _ _ (cS0 _ _ hs (by (try dsimp only [List.set]); repeat (first | with_reducible exact List.mem_cons_self | with_reducible apply List.mem_cons_of_mem))) ?_
        clear hK K
        refine tree_one_yes (o := _) rfl rfl (fun K hK => ?_) (cS0 _ _ hs (by (try dsimp only [List.set]); repeat (first | with_reducible exact List.mem_cons_self | with_reducible apply List.mem_cons_of_mem)))
        try go_simp
        go_at_call 58
        refine (HL.out _ _ hs).mono ?_
        clear hs
        rintro e w5 ⟨rfl, hs⟩
        try go_simp
        refine hK _ _ (cS0 _ _ hs (by (try dsimp only [List.set]); repeat (first | with_reducible exact List.mem_cons_self | with_reducible apply List.mem_cons_of_mem))) ?_
        clear hK K
        repeat (first
          | (with_reducible refine tree_load_agg (o := ⟨some 17, .load _ _, _, _, _, _⟩) (wC x) rfl rfl rfl rfl ?_ ?_ r1 ?_; (kernel_rfl); (kernel_rfl))
          | (with_reducible refine tree_load_agg (o := ⟨some 23, .load _ _, _, _, _, _⟩) (wC y) rfl rfl rfl rfl ?_ ?_ r2 ?_; (kernel_rfl); (kernel_rfl))
          | (refine tree_take rfl (fun K hK => ?_); go_simp; (first | with_reducible refine hK _ ?_ | (rw [if_neg (by decide)]; with_reducible refine hK _ ?_)); clear hK K))
        refine tree_done ?_
        clear hq
        go_wp2_with fail
        go_ret
        exact ⟨by rw [(HNO.out (by trivial)).out]; rfl, hs⟩
      · have hS0 := cS0 _ _ hs.drew (by (try dsimp only [List.set]); repeat (first | with_reducible exact List.mem_cons_self | with_reducible apply List.mem_cons_of_mem))
        refine wp_region_tree (twoE bo (im * 4) (wC x) (i * 4) (wC y)) (.take 0 (.take 1 (.take 2 (.take 3 (.take 4 (.take 5 (.take 7 (.take 8 (.take 9 (.take 10 (.take 11 (.all [(6, .all [(12, .all [(13, .take 14 (DTree.done))])])])))))))))))) (by kernel_rfl) (by kernel_rfl) (by kernel_rfl) (fun _ _ d _ _ h => by cases d <;> exact h) hS0 ?_
        have hs' := hs.drew
        clear hs
        have hs := hs'
        clear hs'
        have hq := fun p : Prop => class_const hS0 p
        clear hS0
        repeat (first
          | (with_reducible refine tree_load_agg (o := ⟨some 17, .load _ _, _, _, _, _⟩) (wC x) rfl rfl rfl rfl ?_ ?_ r1 ?_; (kernel_rfl); (kernel_rfl))
          | (with_reducible refine tree_load_agg (o := ⟨some 23, .load _ _, _, _, _, _⟩) (wC y) rfl rfl rfl rfl ?_ ?_ r2 ?_; (kernel_rfl); (kernel_rfl))
          | (refine tree_take rfl (fun K hK => ?_); go_simp; (first | with_reducible refine hK _ ?_ | (rw [if_neg (by decide)]; with_reducible refine hK _ ?_)); clear hK K))
        refine tree_one_yes (o := _) rfl rfl (fun K hK => ?_) (cS0 _ _ hs (by (try dsimp only [List.set]); repeat (first | with_reducible exact List.mem_cons_self | with_reducible apply List.mem_cons_of_mem)))
        try go_simp
        go_at_call 39
        refine (KX.out _ _ hs).mono ?_
        clear hs
        rintro e w5 ⟨rfl, hs⟩
        try go_simp
        refine hK _ _ (cS0 _ _ hs (by (try dsimp only [List.set]); repeat (first | with_reducible exact List.mem_cons_self | with_reducible apply List.mem_cons_of_mem))) ?_
        clear hK K
        refine tree_one_yes (o := _) rfl rfl (fun K hK => ?_) (cS0 _ _ hs (by (try dsimp only [List.set]); repeat (first | with_reducible exact List.mem_cons_self | with_reducible apply List.mem_cons_of_mem)))
        try go_simp
        go_at_call 39
        refine (KY.out _ _ hs).mono ?_
        clear hs
        rintro e w5 ⟨rfl, hs⟩
        try go_simp
        refine hK _ _ (cS0 _ _ hs (by (try dsimp only [List.set]); repeat (first | with_reducible exact List.mem_cons_self | with_reducible apply List.mem_cons_of_mem))) ?_
        clear hK K
        refine tree_one_yes (o := _) rfl rfl (fun K hK => ?_) (cS0 _ _ hs (by (try dsimp only [List.set]); repeat (first | with_reducible exact List.mem_cons_self | with_reducible apply List.mem_cons_of_mem)))
        try go_simp
        go_at_call 58
        refine (HL.out _ _ hs).mono ?_
        clear hs
        rintro e w5 ⟨rfl, hs⟩
        try go_simp
        refine hK _ _ (cS0 _ _ hs (by (try dsimp only [List.set]); repeat (first | with_reducible exact List.mem_cons_self | with_reducible apply List.mem_cons_of_mem))) ?_
        clear hK K
        repeat (first
          | (with_reducible refine tree_load_agg (o := ⟨some 17, .load _ _, _, _, _, _⟩) (wC x) rfl rfl rfl rfl ?_ ?_ r1 ?_; (kernel_rfl); (kernel_rfl))
          | (with_reducible refine tree_load_agg (o := ⟨some 23, .load _ _, _, _, _, _⟩) (wC y) rfl rfl rfl rfl ?_ ?_ r2 ?_; (kernel_rfl); (kernel_rfl))
          | (refine tree_take rfl (fun K hK => ?_); go_simp; (first | with_reducible refine hK _ ?_ | (rw [if_neg (by decide)]; with_reducible refine hK _ ?_)); clear hK K))
        refine tree_done ?_
        clear hq
        go_wp2_with fail
        exact ⟨⟨i + 1, by omega, by omega, by go_num, HNX.out (by trivial), hs⟩, by simp only [intOf]; omega⟩
    · have hltI : ¬ (i : Int) < (l.length : Int) := by omega
      have hr : Box (riseK (l.map (·.k)) = true) := ⟨riseK_all (n := l.length) (by simp) fun j hj hj2 => by
        have := hall.out j (by simpa using hj) (by omega)
        simpa using this⟩
      clear hall
      go_wp2_with fail
      go_ret
      exact ⟨by rw [hr.out]; rfl, hs⟩
set_option maxRecDepth 100000 in
set_option maxHeartbeats 4000000 in
theorem riseC_spec (W w : World) (M : List HP) (v : Value) (l : List RCl) (hs : Sat W w (own v 59 l.length 5 (csC l) :: M)) (hb : l.length ≤ 4294967297) :
    Calls Tryd.prog 65 #[v, .func (.func 66) #[] #[]] w fun e w' => e = .returned (.bool (riseK (l.map (·.k)))) ∧ Sat W w' (own v 59 l.length 5 (csC l) :: M) := by
  obtain ⟨A, c, rfl, _, _⟩ := own_slice hs (i := 0) rfl
  go_enter Tryd.func65, Tryd.ntmps65
  go_wp2_with fail
  go_loopw [5] (fun v5 wr => ∃ i : Nat, 1 ≤ i ∧ i ≤ l.length + 1 ∧ v5 = .int .i64 (i : Nat) ∧ Box (∀ j (h : j + 1 < l.length), j + 1 < i → lessK l[j].k l[j + 1].k = true) ∧ Sat W wr (own (.slice A l.length c) 59 l.length 5 (csC l) :: M)) (fun v5 _ => l.length + 1 - (intOf v5).toNat)
  case atStart => exact ⟨1, by omega, by omega, rfl, ⟨fun j _ h => by omega⟩, hs⟩
  case round =>
    clear hs
    obtain ⟨i, h1, hi, rfl, hall, hs⟩ := hrel
    by_cases hlt : i < l.length
    · have hltI : (i : Int) < (l.length : Int) := by omega
      obtain ⟨im, hi2⟩ : ∃ im, i = im + 1 := ⟨i - 1, by omega⟩
      obtain ⟨bo, co, e, _, _⟩ := own_formR hs m0 (by omega)
      cases e
      have hmlt : im < l.length := by omega
      have hmltI : (im : Int) < (l.length : Int) := by omega
      have hwm : IntKind.i64.wrap ((i : Int) - 1) = (im : Int) := by rw [IntKind.wrap_i64]; omega
      have hwi : IntKind.i64.wrap ((i : Int) + 1) = (i : Int) + 1 := by rw [IntKind.wrap_i64]; omega
      have cS0 : ∀ w N, Sat W w N → own (.slice (some ⟨bo, 0, none⟩) l.length c) 59 l.length 5 (csC l) ∈ N → twoE bo (im * 5) (cC l[im]) (i * 5) (cC l[i]) w := fun w N h hm => ⟨own_partR cC 5 cC_length h hm im hmlt, own_partR cC 5 cC_length h hm i hlt⟩
      have hnext : lessK l[im].k l[i].k = true → Box (∀ j (h : j + 1 < l.length), j + 1 < i + 1 → lessK l[j].k l[j + 1].k = true) := fun hl => ⟨fun j h hj => by
        by_cases e : j + 1 = i
        · have e2 : j = im := by omega
          subst e2; subst e; exact hl
        · exact hall.out j h (by omega)⟩
      have hno : lessK l[im].k l[i].k = false → Box (riseK (l.map (·.k)) = false) := fun hl => ⟨riseK_no (i := im) (by simp; omega) (by subst hi2; simpa using hl)⟩
      generalize hx : l[im] = x at cS0 hnext hno
      generalize hy : l[i] = y at cS0 hnext hno
      clear hx hy
      have KX := Box.mk (fun w (L : List HP) hs => keyC_spec W w L hs x)
      have KY := Box.mk (fun w (L : List HP) hs => keyC_spec W w L hs y)
      obtain ⟨q, hq1⟩ : ∃ q, lessK x.k y.k = q := ⟨_, rfl⟩
      have HL := Box.mk (fun w (L : List HP) hs => by have := less_spec W w L hs x.k y.k; rw [hq1] at this; exact this)
      rw [hq1] at hnext hno
      have HNX := Box.mk hnext
      have HNO := Box.mk hno
      clear hnext hno hq1 hall hi2
      have r1 : ∀ w, twoE bo (im * 5) (cC x) (i * 5) (cC y) w → w.rangeAt bo (im * 5) (cC x) := fun w h => h.1
      have r2 : ∀ w, twoE bo (im * 5) (cC x) (i * 5) (cC y) w → w.rangeAt bo (i * 5) (cC y) := fun w h => h.2
      go_wp2_with fail
      cases q
      · have hS0 := cS0 _ _ hs.drew (by (try dsimp only [List.set]); repeat (first | with_reducible exact List.mem_cons_self | with_reducible apply List.mem_cons_of_mem))
        refine wp_region_tree (twoE bo (im * 5) (cC x) (i * 5) (cC y)) (.take 0 (.take 1 (.take 2 (.take 3 (.take 4 (.take 5 (.take 7 (.take 8 (.take 9 (.take 10 (.take 11 (.all [(6, .all [(12, .all [(13, .take 14 (DTree.done))])])])))))))))))) (by kernel_rfl) (by kernel_rfl) (by kernel_rfl) (fun _ _ d _ _ h => by cases d <;> exact h) hS0 ?_
        have hs' := hs.drew
        clear hs
        have hs := hs'
        clear hs'
        have hq := fun p : Prop => class_const hS0 p
        clear hS0
        repeat (first
          | (with_reducible refine tree_load_agg (o := ⟨some 17, .load _ _, _, _, _, _⟩) (cC x) rfl rfl rfl rfl ?_ ?_ r1 ?_; (kernel_rfl); (kernel_rfl))
          | (with_reducible refine tree_load_agg (o := ⟨some 23, .load _ _, _, _, _, _⟩) (cC y) rfl rfl rfl rfl ?_ ?_ r2 ?_; (kernel_rfl); (kernel_rfl))
          | (refine tree_take rfl (fun K hK => ?_); go_simp; (first | with_reducible refine hK _ ?_ | (rw [if_neg (by decide)]; with_reducible refine hK _ ?_)); clear hK K))
        refine tree_one_yes (o := _) rfl rfl (fun K hK => ?_) (cS0 _ _ hs (by (try dsimp only [List.set]); repeat (first | with_reducible exact List.mem_cons_self | with_reducible apply List.mem_cons_of_mem)))
        try go_simp
        go_at_call 66
        refine (KX.out _ _ hs).mono ?_
        clear hs
        rintro e w5 ⟨rfl, hs⟩
        try go_simp
        refine hK _ _ (cS0 _ _ hs (by (try dsimp only [List.set]); repeat (first | with_reducible exact List.mem_cons_self | with_reducible apply List.mem_cons_of_mem))) ?_
        clear hK K
        refine tree_one_yes (o := _) rfl rfl (fun K hK => ?_) (cS0 _ _ hs (by (try dsimp only [List.set]); repeat (first | with_reducible exact List.mem_cons_self | with_reducible apply List.mem_cons_of_mem)))
        try go_simp
        go_at_call 66
        refine (KY.out _ _ hs).mono ?_
        clear hs
        rintro e w5 ⟨rfl, hs⟩
        try go_simp
        refine hK _ _ (cS0 _ _ hs (by (try dsimp only [List.set]); repeat (first | with_reducible exact List.mem_cons_self | with_reducible apply List.mem_cons_of_mem))) ?_
        clear hK K
        refine tree_one_yes (o := _) rfl rfl (fun K hK => ?_) (cS0 _ _ hs (by (try dsimp only [List.set]); repeat (first | with_reducible exact List.mem_cons_self | with_reducible apply List.mem_cons_of_mem)))
        try go_simp
        go_at_call 58
        refine (HL.out _ _ hs).mono ?_
        clear hs
        rintro e w5 ⟨rfl, hs⟩
        try go_simp
        refine hK _ _ (cS0 _ _ hs (by (try dsimp only [List.set]); repeat (first | with_reducible exact List.mem_cons_self | with_reducible apply List.mem_cons_of_mem))) ?_
        clear hK K
        repeat (first
          | (with_reducible refine tree_load_agg (o := ⟨some 17, .load _ _, _, _, _, _⟩) (cC x) rfl rfl rfl rfl ?_ ?_ r1 ?_; (kernel_rfl); (kernel_rfl))
          | (with_reducible refine tree_load_agg (o := ⟨some 23, .load _ _, _, _, _, _⟩) (cC y) rfl rfl rfl rfl ?_ ?_ r2 ?_; (kernel_rfl); (kernel_rfl))
          | (refine tree_take rfl (fun K hK => ?_); go_simp; (first | with_reducible refine hK _ ?_ | (rw [if_neg (by decide)]; with_reducible refine hK _ ?_)); clear hK K))
        refine tree_done ?_
        clear hq
        go_wp2_with fail
        go_ret
        exact ⟨by rw [(HNO.out (by trivial)).out]; rfl, hs⟩
      · have hS0 := cS0 _ _ hs.drew (by (try dsimp only [List.set]); repeat (first | with_reducible exact List.mem_cons_self | with_reducible apply List.mem_cons_of_mem))
        refine wp_region_tree (twoE bo (im * 5) (cC x) (i * 5) (cC y)) (.take 0 (.take 1 (.take 2 (.take 3 (.take 4 (.take 5 (.take 7 (.take 8 (.take 9 (.take 10 (.take 11 (.all [(6, .all [(12, .all [(13, .take 14 (DTree.done))])])])))))))))))) (by kernel_rfl) (by kernel_rfl) (by kernel_rfl) (fun _ _ d _ _ h => by cases d <;> exact h) hS0 ?_
        have hs' := hs.drew
        clear hs
        have hs := hs'
        clear hs'
        have hq := fun p : Prop => class_const hS0 p
        clear hS0
        repeat (first
          | (with_reducible refine tree_load_agg (o := ⟨some 17, .load _ _, _, _, _, _⟩) (cC x) rfl rfl rfl rfl ?_ ?_ r1 ?_; (kernel_rfl); (kernel_rfl))
          | (with_reducible refine tree_load_agg (o := ⟨some 23, .load _ _, _, _, _, _⟩) (cC y) rfl rfl rfl rfl ?_ ?_ r2 ?_; (kernel_rfl); (kernel_rfl))
          | (refine tree_take rfl (fun K hK => ?_); go_simp; (first | with_reducible refine hK _ ?_ | (rw [if_neg (by decide)]; with_reducible refine hK _ ?_)); clear hK K))
        refine tree_one_yes (o := _) rfl rfl (fun K hK => ?_) (cS0 _ _ hs (by (try dsimp only [List.set]); repeat (first | with_reducible exact List.mem_cons_self | with_reducible apply List.mem_cons_of_mem)))
        try go_simp
        go_at_call 66
        refine (KX.out _ _ hs).mono ?_
        clear hs
        rintro e w5 ⟨rfl, hs⟩
        try go_simp
        refine hK _ _ (cS0 _ _ hs (by (try dsimp only [List.set]); repeat (first | with_reducible exact List.mem_cons_self | with_reducible apply List.mem_cons_of_mem))) ?_
        clear hK K
        refine tree_one_yes (o := _) rfl rfl (fun K hK => ?_) (cS0 _ _ hs (by (try dsimp only [List.set]); repeat (first | with_reducible exact List.mem_cons_self | with_reducible apply List.mem_cons_of_mem)))
        try go_simp
        go_at_call 66
        refine (KY.out _ _ hs).mono ?_
        clear hs
        rintro e w5 ⟨rfl, hs⟩
        try go_simp
        refine hK _ _ (cS0 _ _ hs (by (try dsimp only [List.set]); repeat (first | with_reducible exact List.mem_cons_self | with_reducible apply List.mem_cons_of_mem))) ?_
        clear hK K
        refine tree_one_yes (o := _) rfl rfl (fun K hK => ?_) (cS0 _ _ hs (by (try dsimp only [List.set]); repeat (first | with_reducible exact List.mem_cons_self | with_reducible apply List.mem_cons_of_mem)))
        try go_simp
        go_at_call 58
        refine (HL.out _ _ hs).mono ?_
        clear hs
        rintro e w5 ⟨rfl, hs⟩
        try go_simp
        refine hK _ _ (cS0 _ _ hs (by (try dsimp only [List.set]); repeat (first | with_reducible exact List.mem_cons_self | with_reducible apply List.mem_cons_of_mem))) ?_
        clear hK K
        repeat (first
          | (with_reducible refine tree_load_agg (o := ⟨some 17, .load _ _, _, _, _, _⟩) (cC x) rfl rfl rfl rfl ?_ ?_ r1 ?_; (kernel_rfl); (kernel_rfl))
          | (with_reducible refine tree_load_agg (o := ⟨some 23, .load _ _, _, _, _, _⟩) (cC y) rfl rfl rfl rfl ?_ ?_ r2 ?_; (kernel_rfl); (kernel_rfl))
          | (refine tree_take rfl (fun K hK => ?_); go_simp; (first | with_reducible refine hK _ ?_ | (rw [if_neg (by decide)]; with_reducible refine hK _ ?_)); clear hK K))
        refine tree_done ?_
        clear hq
        go_wp2_with fail
        exact ⟨⟨i + 1, by omega, by omega, by go_num, HNX.out (by trivial), hs⟩, by simp only [intOf]; omega⟩
    · have hltI : ¬ (i : Int) < (l.length : Int) := by omega
      have hr : Box (riseK (l.map (·.k)) = true) := ⟨riseK_all (n := l.length) (by simp) fun j hj hj2 => by
        have := hall.out j (by simpa using hj) (by omega)
        simpa using this⟩
      clear hall
      go_wp2_with fail
      go_ret
      exact ⟨by rw [hr.out]; rfl, hs⟩
end Go.Proofs.YthjnefpnnifjiaaDoor
