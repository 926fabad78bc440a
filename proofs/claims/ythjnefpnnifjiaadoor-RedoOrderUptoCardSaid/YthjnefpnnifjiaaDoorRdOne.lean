/- The walk of ogiveref20.one. -/
import Derived.Test.YthjnefpnnifjiaaDoorRdApplyW
set_option linter.unusedVariables false
set_option linter.unusedSimpArgs false
namespace Go.Proofs.YthjnefpnnifjiaaDoor
open Go.RowKit
def oneL (l : List RCl) (c : RCl) : List RCl :=
  if h : idxK c.k l < l.length then
    (if keySame l[idxK c.k l].k c.k then l.take (idxK c.k l) ++ (if c.ts < l[idxK c.k l].ts then l[idxK c.k l] else c) :: l.drop (idxK c.k l + 1) else l.take (idxK c.k l) ++ c :: l.drop (idxK c.k l))
  else l ++ [c]
theorem oneL_eq (l : List RCl) (c : RCl) : oneL l c = putK l c := by
  unfold oneL putK
  generalize idxK c.k l = j
  split
  · rename_i h
    split
    · by_cases hts : l[j].ts ≤ c.ts
      · rw [if_pos hts, if_neg (by omega), List.set_eq_take_append_cons_drop, if_pos h]
      · rw [if_neg hts, if_pos (by omega)]
        rw [List.getElem_cons_drop]
        exact List.take_append_drop j l
    · rfl
  · rfl
theorem oneL_at {l : List RCl} {c : RCl} {j : Nat} (h : idxK c.k l = j) (hj : j < l.length) : oneL l c = if keySame l[j].k c.k then l.take j ++ (if c.ts < l[j].ts then l[j] else c) :: l.drop (j + 1) else l.take j ++ c :: l.drop j := by
  subst h
  unfold oneL; rw [dif_pos hj]
theorem oneL_new {l : List RCl} {c : RCl} (h : ¬ idxK c.k l < l.length) : oneL l c = l ++ [c] := by unfold oneL; rw [dif_neg h]
theorem sliceAt_drop {b o c n : Nat} (l : List RCl) (i : Nat) (hn : n = l.length) (hi : i ≤ n) (A' : Option Addr) (hA : ¬ c = i → A' = some ⟨b, o + i * 5, none⟩) : ∀ F, sliceAt (.slice (some ⟨b, o, none⟩) n c) n 5 (csC l) F → sliceAt (.slice A' (n - i) (c - i)) (n - i) 5 (csC (l.drop i)) F := by
  rintro F ⟨h1, A, cap, e, h2, h3, h4⟩
  cases e
  refine ⟨by rw [csC_drop_len l i (by omega), hn], _, _, rfl, by omega, by omega, ?_⟩
  rcases h4 with h4 | ⟨b', o', e, c', t', fr, hF, hc⟩
  · left
    have h5 : l.length = 0 := by
      have := csC_len l
      rw [h4] at this
      simp at this; omega
    rw [List.eq_nil_of_length_eq_zero h5]; simp [csC]
  · cases e
    by_cases hci : c = i
    · left
      rw [List.drop_of_length_le (by omega)]; rfl
    rw [hA hci]
    right
    refine ⟨b, o + i * 5, rfl, c', t', fr, hF, fun j v hj => ?_⟩
    rw [Nat.add_assoc]
    refine hc _ v ?_
    rw [csC_split l i, List.getElem?_append_right (by rw [csC_take l i (by omega)]; omega), csC_take l i (by omega), Nat.add_sub_cancel_left]
    exact hj
def oneS (bo o : Nat) (ks : List Value) (b3 : Nat) (ds : List Value) (w : World) : Prop := w.rangeAt bo o ks ∧ w.rangeAt b3 0 ds
def oneT (bo o : Nat) (t : Int) (b3 : Nat) (u : Int) (w : World) : Prop := w.cell? ⟨bo, o, none⟩ = some (.int .i64 t) ∧ w.cell? ⟨b3, 3, none⟩ = some (.int .i64 u)
def onePost (l : List RCl) (W : World) (L : List HP) (e : Ending) (w' : World) : Prop := ∃ v', e = .returned v' ∧ Sat W w' (own v' 107 l.length 5 (csC l) :: L)
set_option maxRecDepth 100000 in
set_option maxHeartbeats 16000000 in
theorem one_spec (W w : World) (L : List HP) (hs : Sat W w L) (v : Value) (l : List RCl) (x : RCl) (hv : Has L (sliceAt v l.length 5 (csC l))) (hn : l.length ≤ 1000000) :
    Calls Tryd.prog 60 #[v, .agg (cC x).toArray] w (onePost (oneL l x) W L) := by
  obtain ⟨A, cv, rfl, _, _⟩ := slice_form (hs.slice hv)
  have HV := Box.mk hv
  obtain ⟨R, hR0⟩ : ∃ R, oneL l x = R := ⟨_, rfl⟩
  rw [hR0]
  have hR := Box.mk hR0
  clear hv hR0
  unfold onePost
  go_enter Tryd.func60, Tryd.ntmps60
  go_wp2_with (first
    | (guard_target = wpList _ _ _ (⟨some 3, .box _ _, _, _, _, _⟩ :: _) _ _; refine wpl (o := ⟨some 3, .box _ _, _, _, _, _⟩) rfl fun K hK => ?_; go_must (refine op_box hs rfl _ rfl (cC x) rfl fun b3 w1 h => hK _ _ ?_); clear hs hK K; have hs := h; clear h; try dsimp only [List.set] at hs))
  go_loopw [5, 6] (fun v5 v6 wr => ∃ i : Nat, i ≤ l.length ∧ v6 = .int .i64 (i : Nat) ∧ Box (∀ j (h : j < l.length), j < i → lessK l[j].k x.k = true) ∧ Sat W wr (own v5 107 i 5 (csC (l.take i)) :: row b3 (cC x) 107 :: L)) (fun _ v6 _ => l.length - (intOf v6).toNat)
  case atStart => exact ⟨0, by omega, rfl, ⟨fun j _ h => by omega⟩, (hs.addNil none 107 5).pack (L := own (.slice none 0 0) 107 0 5 [] :: row b3 (cC x) 107 :: L) (by repeat (first | with_reducible exact Pack.refl | with_reducible exact Pack.nil | with_reducible refine Pack.cons (by repeat (first | with_reducible exact Pick.here | with_reducible apply Pick.there)) ?_ | with_reducible apply Pack.drop))⟩
  case round =>
    clear hs
    obtain ⟨i, hi, rfl, hall, hs⟩ := hrel
    obtain ⟨A5, c5, rfl, _, _⟩ := own_slice hs (i := 0) rfl
    by_cases hlt : i < l.length
    · have hltI : (i : Int) < (l.length : Int) := by omega
      obtain ⟨i1, hi1⟩ : ∃ i1, i + 1 = i1 := ⟨_, rfl⟩
      have hwi : IntKind.i64.wrap ((i : Int) + 1) = (i1 : Int) := by rw [IntKind.wrap_i64]; omega
      have hi1l : i1 ≤ l.length := by omega
      have hi1I : (i1 : Int) ≤ (l.length : Int) := by omega
      have HI1 := Box.mk hi1
      clear hi1
      obtain ⟨bo, oo, cv', e⟩ := slice_part cC 5 cC_length (by omega) hs (show Has _ (sliceAt (.slice A l.length cv) l.length 5 (csC l)) from (by (try dsimp only [List.set]); repeat (first | exact HV.out | apply Has.tail))) (by omega)
      cases e
      have hry := fun w (M : List HP) (h : Sat W w M) (hM : ∃ M0, M = M0 ++ L) => slice_range cC 5 cC_length h (show Has M (sliceAt (.slice (some ⟨bo, oo, none⟩) l.length cv) l.length 5 (csC l)) from by obtain ⟨M0, e⟩ := hM; rw [e]; exact HV.out.app) i hlt
      have hsn : Box (csC (l.take (i + 1)) = csC (l.take i) ++ cC l[i]) := ⟨by rw [List.take_succ_eq_append_getElem hlt, csC_snoc]⟩
      obtain ⟨q, hq0⟩ : ∃ q, lessK l[i].k x.k = q := ⟨_, rfl⟩
      have hnext : q = true → Box (∀ j (h : j < l.length), j < i + 1 → lessK l[j].k x.k = true) := fun h1 => ⟨fun j h hj => by
        by_cases e : j = i
        · subst e; rw [hq0, h1]
        · exact hall.out j h (by omega)⟩
      have hend : q = false → Box (oneL l x = if keySame l[i].k x.k then l.take i ++ (if x.ts < l[i].ts then l[i] else x) :: l.drop (i + 1) else l.take i ++ x :: l.drop i) := fun h1 => ⟨oneL_at (idxK_of x.k l i hi hall.out (fun _ => by rw [hq0, h1])) hlt⟩
      generalize l[i] = y at hry hsn hq0 hend
      have HRY := Box.mk hry
      have HN := Box.mk hnext
      have HE := Box.mk hend
      have HL := Box.mk (fun w (L : List HP) hs => by have := rless_spec W w L hs y.k x.k; rw [hq0] at this; exact this)
      clear hry hnext hend hq0 hall
      have cS : ∀ w M, Sat W w M → (∃ M0, M = M0 ++ L) → row b3 (cC x) 107 ∈ M → (oneS bo (oo + i * 5) (kC y.k) b3 (kC x.k)) w := fun w M h hM hm => ⟨range_pre (HRY.out w M h hM), range_pre (ds := [.int .i64 x.ts, (.string ⟨(x.v).toArray⟩)]) (range_whole h hm)⟩
      have cT : ∀ w M, Sat W w M → (∃ M0, M = M0 ++ L) → row b3 (cC x) 107 ∈ M → (oneT bo (oo + i * 5 + 3) y.ts b3 x.ts) w := fun w M h hM hm => ⟨HRY.out w M h hM 3 (.int .i64 y.ts) rfl, h.cell hm rfl⟩
      have h16 : ∀ w, (oneS bo (oo + i * 5) (kC y.k) b3 (kC x.k)) w → w.rangeAt bo (oo + i * 5) (kC y.k) := fun w h => h.1
      have h16b : ∀ w, (oneS bo (oo + i * 5) (kC y.k) b3 (kC x.k)) w → w.rangeAt b3 0 (kC x.k) := fun w h => h.2
      have h48 : ∀ w, (oneT bo (oo + i * 5 + 3) y.ts b3 x.ts) w → w.cell? ⟨bo, oo + i * 5 + 3, none⟩ = some (.int .i64 y.ts) := fun w h => h.1
      have h50 : ∀ w, (oneT bo (oo + i * 5 + 3) y.ts b3 x.ts) w → w.cell? ⟨b3, 3, none⟩ = some (.int .i64 x.ts) := fun w h => h.2
      cases q with
      | true =>
        go_wp2_with fail
        have hS0 := cS _ _ hs.drew (by (try dsimp only [List.set]); first | exact ⟨[_, _], rfl⟩ | exact ⟨[_, _, _], rfl⟩) (by (try dsimp only [List.set]); repeat (first | with_reducible exact List.mem_cons_self | with_reducible apply List.mem_cons_of_mem))
        refine wp_region_tree ((oneS bo (oo + i * 5) (kC y.k) b3 (kC x.k))) (.take 0 (.take 1 (.take 2 (.take 3 (.take 4 (.take 5 (.take 6 (.take 7 (.take 8 (.take 9 (.take 10 (.take 11 (.all [(12, .take 13 (DTree.done))]))))))))))))) (by kernel_rfl) (by kernel_rfl) (by kernel_rfl) (fun _ _ d _ _ h => by cases d <;> exact h) hS0 ?_
        have hs' := hs.drew
        clear hs
        have hs := hs'
        clear hs'
        have hq := fun p : Prop => class_const hS0 p
        clear hS0
        repeat (first
          | (with_reducible refine tree_load_agg (o := ⟨some 16, .load _ _, _, _, _, _⟩) (kC y.k) rfl rfl rfl rfl ?_ ?_ h16 ?_; (kernel_rfl); (kernel_rfl))
          | (with_reducible refine tree_load_agg (o := ⟨some 18, .load _ _, _, _, _, _⟩) (kC x.k) rfl rfl rfl rfl ?_ ?_ h16b ?_; (kernel_rfl); (kernel_rfl))
          | (refine tree_take rfl (fun K hK => ?_); go_simp; (first | with_reducible refine hK _ ?_ | (rw [if_neg (by decide)]; with_reducible refine hK _ ?_)); clear hK K))
        refine tree_one_yes (o := _) rfl rfl (fun K hK => ?_) (cS _ _ hs (by (try dsimp only [List.set]); first | exact ⟨[_, _], rfl⟩ | exact ⟨[_, _, _], rfl⟩) (by (try dsimp only [List.set]); repeat (first | with_reducible exact List.mem_cons_self | with_reducible apply List.mem_cons_of_mem)))
        try go_simp
        go_at_call 44
        refine (HL.out _ _ hs).mono ?_
        clear hs
        rintro e w5 ⟨rfl, hs⟩
        try go_simp
        refine hK _ _ (cS _ _ hs (by (try dsimp only [List.set]); first | exact ⟨[_, _], rfl⟩ | exact ⟨[_, _, _], rfl⟩) (by (try dsimp only [List.set]); repeat (first | with_reducible exact List.mem_cons_self | with_reducible apply List.mem_cons_of_mem))) ?_
        clear hK K
        repeat (first
          | (with_reducible refine tree_load_agg (o := ⟨some 16, .load _ _, _, _, _, _⟩) (kC y.k) rfl rfl rfl rfl ?_ ?_ h16 ?_; (kernel_rfl); (kernel_rfl))
          | (with_reducible refine tree_load_agg (o := ⟨some 18, .load _ _, _, _, _, _⟩) (kC x.k) rfl rfl rfl rfl ?_ ?_ h16b ?_; (kernel_rfl); (kernel_rfl))
          | (refine tree_take rfl (fun K hK => ?_); go_simp; (first | with_reducible refine hK _ ?_ | (rw [if_neg (by decide)]; with_reducible refine hK _ ?_)); clear hK K))
        refine tree_done ?_
        clear hq
        go_wp2_with (first
          | (guard_target = wpList _ _ _ (⟨some 25, .load _ _, _, _, _, _⟩ :: _) _ _; refine wpl (o := ⟨some 25, .load _ _, _, _, _, _⟩) rfl fun K hK => op_load_agg rfl (b := bo) (i := oo + i * 5) rfl (cC y) (HRY.out _ _ hs (by (try dsimp only [List.set]); first | exact ⟨[_, _], rfl⟩ | exact ⟨[_, _, _], rfl⟩)) (by kernel_rfl) (by kernel_rfl) (hK _ _ ?_); clear hK K)
          | (guard_target = wpList _ _ _ (⟨some 26, .buildSlice _ _ _, _, _, _, _⟩ :: _) _ _; refine wpl (o := ⟨some 26, .buildSlice _ _ _, _, _, _, _⟩) rfl fun K hK => ?_; go_must (refine op_lit_agg1 hs rfl Tryd.underlying37 info_rcell (cC y) rfl rfl (by omega) (by omega) fun b26 w1 h => hK _ _ ?_); clear hs hK K; have hs := h; clear h; try dsimp only [List.set] at hs)
          | (guard_target = wpList _ _ _ (⟨some 27, .call _, _, _, _, _⟩ :: _) _ _; refine wpl (o := ⟨some 27, .call _, _, _, _, _⟩) rfl fun K hK => ?_; go_must (refine op_append (hs.pick (A := own (.slice A5 i c5) 107 i 5 (csC (l.take i))) (by repeat (first | with_reducible exact Pick.here | with_reducible apply Pick.there))) rfl Tryd.underlying37 Tryd.underlying37 info_rcell rfl (by omega) (k := 0) rfl rfl rfl (Has.of (A := row b26 (cC y) 107) (by (try dsimp only [List.set]); repeat (first | with_reducible exact List.mem_cons_self | with_reducible apply List.mem_cons_of_mem)) fun F hF => own_sliceAt F (own_exact (n := 1) (sz := 5) rfl (by omega) F hF)) (cC_one _) (by omega) (by omega) fun v27 w2 h => hK _ _ ?_); clear hs hK K; have hs := h; clear h; try dsimp only [List.set] at hs))
        have hi1 := HI1.out
        subst hi1
        refine ⟨⟨i + 1, by omega, by go_num, HN.out (by trivial), ?_⟩, by simp only [intOf]; omega⟩
        rw [hsn.out]
        exact hs.pack (by repeat (first | with_reducible exact Pack.refl | with_reducible exact Pack.nil | with_reducible refine Pack.cons (by repeat (first | with_reducible exact Pick.here | with_reducible apply Pick.there)) ?_ | with_reducible apply Pack.drop))
      | false =>
        have he := (HE.out rfl).out
        obtain ⟨p, hp0⟩ : ∃ p, keySame y.k x.k = p := ⟨_, rfl⟩
        have hqe : ∀ w, (Op.equalIn 10000 57 (.agg (kC y.k).toArray) (.agg (kC x.k).toArray)).run Tryd.prog w = .ok p w := fun w => by rw [run_equal_key, hp0]
        rw [hp0] at he
        clear hp0 HN HE
        rw [hR.out] at he
        cases p with
        | false =>
          simp only [Bool.false_eq_true, if_false] at he
          subst he
          clear hR
          go_wp2_with fail
          have hS0 := cS _ _ hs.drew (by (try dsimp only [List.set]); first | exact ⟨[_, _], rfl⟩ | exact ⟨[_, _, _], rfl⟩) (by (try dsimp only [List.set]); repeat (first | with_reducible exact List.mem_cons_self | with_reducible apply List.mem_cons_of_mem))
          refine wp_region_tree ((oneS bo (oo + i * 5) (kC y.k) b3 (kC x.k))) (.take 0 (.take 1 (.take 2 (.take 3 (.take 4 (.take 5 (.take 6 (.take 7 (.take 8 (.take 9 (.take 10 (.take 11 (.all [(12, .take 13 (DTree.done))]))))))))))))) (by kernel_rfl) (by kernel_rfl) (by kernel_rfl) (fun _ _ d _ _ h => by cases d <;> exact h) hS0 ?_
          have hs' := hs.drew
          clear hs
          have hs := hs'
          clear hs'
          have hq := fun p : Prop => class_const hS0 p
          clear hS0
          repeat (first
            | (with_reducible refine tree_load_agg (o := ⟨some 16, .load _ _, _, _, _, _⟩) (kC y.k) rfl rfl rfl rfl ?_ ?_ h16 ?_; (kernel_rfl); (kernel_rfl))
            | (with_reducible refine tree_load_agg (o := ⟨some 18, .load _ _, _, _, _, _⟩) (kC x.k) rfl rfl rfl rfl ?_ ?_ h16b ?_; (kernel_rfl); (kernel_rfl))
            | (refine tree_take rfl (fun K hK => ?_); go_simp; (first | with_reducible refine hK _ ?_ | (rw [if_neg (by decide)]; with_reducible refine hK _ ?_)); clear hK K))
          refine tree_one_yes (o := _) rfl rfl (fun K hK => ?_) (cS _ _ hs (by (try dsimp only [List.set]); first | exact ⟨[_, _], rfl⟩ | exact ⟨[_, _, _], rfl⟩) (by (try dsimp only [List.set]); repeat (first | with_reducible exact List.mem_cons_self | with_reducible apply List.mem_cons_of_mem)))
          try go_simp
          go_at_call 44
          refine (HL.out _ _ hs).mono ?_
          clear hs
          rintro e w5 ⟨rfl, hs⟩
          try go_simp
          refine hK _ _ (cS _ _ hs (by (try dsimp only [List.set]); first | exact ⟨[_, _], rfl⟩ | exact ⟨[_, _, _], rfl⟩) (by (try dsimp only [List.set]); repeat (first | with_reducible exact List.mem_cons_self | with_reducible apply List.mem_cons_of_mem))) ?_
          clear hK K
          repeat (first
            | (with_reducible refine tree_load_agg (o := ⟨some 16, .load _ _, _, _, _, _⟩) (kC y.k) rfl rfl rfl rfl ?_ ?_ h16 ?_; (kernel_rfl); (kernel_rfl))
            | (with_reducible refine tree_load_agg (o := ⟨some 18, .load _ _, _, _, _, _⟩) (kC x.k) rfl rfl rfl rfl ?_ ?_ h16b ?_; (kernel_rfl); (kernel_rfl))
            | (refine tree_take rfl (fun K hK => ?_); go_simp; (first | with_reducible refine hK _ ?_ | (rw [if_neg (by decide)]; with_reducible refine hK _ ?_)); clear hK K))
          refine tree_done ?_
          clear hq
          go_wp2_with fail
          have hS0 := cS _ _ hs.drew (by (try dsimp only [List.set]); first | exact ⟨[_, _], rfl⟩ | exact ⟨[_, _, _], rfl⟩) (by (try dsimp only [List.set]); repeat (first | with_reducible exact List.mem_cons_self | with_reducible apply List.mem_cons_of_mem))
          refine wp_region_tree ((oneS bo (oo + i * 5) (kC y.k) b3 (kC x.k))) (.take 0 (.take 1 (.take 2 (.take 3 (.take 4 (.take 5 (.take 6 (.take 7 (.take 8 (.take 9 (.take 10 (.take 11 (.take 12 (.take 13 (DTree.done))))))))))))))) (by kernel_rfl) (by kernel_rfl) (by kernel_rfl) (fun _ _ d _ _ h => by cases d <;> exact h) hS0 ?_
          have hs' := hs.drew
          clear hs
          have hs := hs'
          clear hs'
          have hq := fun p : Prop => class_const hS0 p
          clear hS0
          repeat (first
            | (with_reducible refine tree_load_agg (o := ⟨some 39, .load _ _, _, _, _, _⟩) (kC y.k) rfl rfl rfl rfl ?_ ?_ h16 ?_; (kernel_rfl); (kernel_rfl))
            | (with_reducible refine tree_load_agg (o := ⟨some 41, .load _ _, _, _, _, _⟩) (kC x.k) rfl rfl rfl rfl ?_ ?_ h16b ?_; (kernel_rfl); (kernel_rfl))
            | (refine tree_take rfl (fun K hK => ?_); go_simp; (first | with_reducible refine hK _ ?_ | (rw [if_neg (by decide)]; with_reducible refine hK _ ?_)); clear hK K))
          refine tree_done ?_
          clear hq
          go_wp2_with (first
            | (guard_target = wpList _ _ _ (⟨some 59, .load _ _, _, _, _, _⟩ :: _) _ _; refine wpl (o := ⟨some 59, .load _ _, _, _, _, _⟩) rfl fun K hK => op_load_agg rfl (b := b3) (i := 0) rfl ((cC x)) (range_whole hs (by (try dsimp only [List.set]); repeat (first | with_reducible exact List.mem_cons_self | with_reducible apply List.mem_cons_of_mem))) (by kernel_rfl) (by kernel_rfl) (hK _ _ ?_); clear hK K)
            | (guard_target = wpList _ _ _ (⟨some 60, .buildSlice _ _ _, _, _, _, _⟩ :: _) _ _; refine wpl (o := ⟨some 60, .buildSlice _ _ _, _, _, _, _⟩) rfl fun K hK => ?_; go_must (refine op_lit_agg1 hs rfl Tryd.underlying37 info_rcell (cC x) rfl rfl (by omega) (by omega) fun b60 w1 h => hK _ _ ?_); clear hs hK K; have hs := h; clear h; try dsimp only [List.set] at hs)
            | (guard_target = wpList _ _ _ (⟨some 61, .call _, _, _, _, _⟩ :: _) _ _; refine wpl (o := ⟨some 61, .call _, _, _, _, _⟩) rfl fun K hK => ?_; go_must (refine op_append (hs.pick (A := own (.slice A5 i c5) 107 i 5 (csC (l.take i))) (by repeat (first | with_reducible exact Pick.here | with_reducible apply Pick.there))) rfl Tryd.underlying37 Tryd.underlying37 info_rcell rfl (by omega) (k := 0) rfl rfl rfl (Has.of (A := row b60 (cC x) 107) (by (try dsimp only [List.set]); repeat (first | with_reducible exact List.mem_cons_self | with_reducible apply List.mem_cons_of_mem)) fun F hF => own_sliceAt F (own_exact (n := 1) (sz := 5) rfl (by omega) F hF)) (cC_one _) (by omega) (by omega) fun v61 w2 h => hK _ _ ?_); clear hs hK K; have hs := h; clear h; try dsimp only [List.set] at hs
               obtain ⟨A61, c61, rfl, _, _⟩ := own_slice hs (i := 0) rfl)
            | (guard_target = wpList _ _ _ (⟨some 66, .call _, _, _, _, _⟩ :: _) _ _; refine wpl (o := ⟨some 66, .call _, _, _, _, _⟩) rfl fun K hK => ?_; go_must (refine op_append (hs.pick (A := own (.slice A61 (i + 1) c61) 107 (i + 1) 5 (csC (l.take i) ++ cC x)) (by repeat (first | with_reducible exact Pick.here | with_reducible apply Pick.there))) rfl Tryd.underlying37 Tryd.underlying37 info_rcell rfl (by omega) (k := 0) rfl rfl rfl (m := l.length - i) (xs := csC (l.drop i)) (Has.tail (Has.tail (Has.tail (HV.out.imp fun F hF => sliceAt_drop l i rfl (by omega) _ (by intro h; first | rfl | exact if_neg h | (split <;> simp_all)) F hF)))) (csC_one _) (by omega) (by omega) fun v66 w2 h => hK _ _ ?_); clear hs hK K; have hs := h; clear h; try dsimp only [List.set] at hs))
          all_goals
            go_ret
            refine ⟨v66, rfl, ?_⟩
            rw [show (l.take i ++ x :: l.drop i).length = i + 1 + (l.length - i) by simp; omega, show csC (l.take i ++ x :: l.drop i) = csC (l.take i) ++ cC x ++ csC (l.drop i) by simp [csC]]
            exact hs.pack (by repeat (first | with_reducible exact Pack.refl | with_reducible exact Pack.nil | with_reducible refine Pack.cons (by repeat (first | with_reducible exact Pick.here | with_reducible apply Pick.there)) ?_ | with_reducible apply Pack.drop))
        | true =>
          rw [if_pos rfl] at he
          by_cases hts : x.ts < y.ts
          · rw [if_pos hts] at he
            subst he
            clear hR
            go_wp2_with fail
            have hS0 := cS _ _ hs.drew (by (try dsimp only [List.set]); first | exact ⟨[_, _], rfl⟩ | exact ⟨[_, _, _], rfl⟩) (by (try dsimp only [List.set]); repeat (first | with_reducible exact List.mem_cons_self | with_reducible apply List.mem_cons_of_mem))
            refine wp_region_tree ((oneS bo (oo + i * 5) (kC y.k) b3 (kC x.k))) (.take 0 (.take 1 (.take 2 (.take 3 (.take 4 (.take 5 (.take 6 (.take 7 (.take 8 (.take 9 (.take 10 (.take 11 (.all [(12, .take 13 (DTree.done))]))))))))))))) (by kernel_rfl) (by kernel_rfl) (by kernel_rfl) (fun _ _ d _ _ h => by cases d <;> exact h) hS0 ?_
            have hs' := hs.drew
            clear hs
            have hs := hs'
            clear hs'
            have hq := fun p : Prop => class_const hS0 p
            clear hS0
            repeat (first
              | (with_reducible refine tree_load_agg (o := ⟨some 16, .load _ _, _, _, _, _⟩) (kC y.k) rfl rfl rfl rfl ?_ ?_ h16 ?_; (kernel_rfl); (kernel_rfl))
              | (with_reducible refine tree_load_agg (o := ⟨some 18, .load _ _, _, _, _, _⟩) (kC x.k) rfl rfl rfl rfl ?_ ?_ h16b ?_; (kernel_rfl); (kernel_rfl))
              | (refine tree_take rfl (fun K hK => ?_); go_simp; (first | with_reducible refine hK _ ?_ | (rw [if_neg (by decide)]; with_reducible refine hK _ ?_)); clear hK K))
            refine tree_one_yes (o := _) rfl rfl (fun K hK => ?_) (cS _ _ hs (by (try dsimp only [List.set]); first | exact ⟨[_, _], rfl⟩ | exact ⟨[_, _, _], rfl⟩) (by (try dsimp only [List.set]); repeat (first | with_reducible exact List.mem_cons_self | with_reducible apply List.mem_cons_of_mem)))
            try go_simp
            go_at_call 44
            refine (HL.out _ _ hs).mono ?_
            clear hs
            rintro e w5 ⟨rfl, hs⟩
            try go_simp
            refine hK _ _ (cS _ _ hs (by (try dsimp only [List.set]); first | exact ⟨[_, _], rfl⟩ | exact ⟨[_, _, _], rfl⟩) (by (try dsimp only [List.set]); repeat (first | with_reducible exact List.mem_cons_self | with_reducible apply List.mem_cons_of_mem))) ?_
            clear hK K
            repeat (first
              | (with_reducible refine tree_load_agg (o := ⟨some 16, .load _ _, _, _, _, _⟩) (kC y.k) rfl rfl rfl rfl ?_ ?_ h16 ?_; (kernel_rfl); (kernel_rfl))
              | (with_reducible refine tree_load_agg (o := ⟨some 18, .load _ _, _, _, _, _⟩) (kC x.k) rfl rfl rfl rfl ?_ ?_ h16b ?_; (kernel_rfl); (kernel_rfl))
              | (refine tree_take rfl (fun K hK => ?_); go_simp; (first | with_reducible refine hK _ ?_ | (rw [if_neg (by decide)]; with_reducible refine hK _ ?_)); clear hK K))
            refine tree_done ?_
            clear hq
            go_wp2_with fail
            have hS0 := cS _ _ hs.drew (by (try dsimp only [List.set]); first | exact ⟨[_, _], rfl⟩ | exact ⟨[_, _, _], rfl⟩) (by (try dsimp only [List.set]); repeat (first | with_reducible exact List.mem_cons_self | with_reducible apply List.mem_cons_of_mem))
            refine wp_region_tree ((oneS bo (oo + i * 5) (kC y.k) b3 (kC x.k))) (.take 0 (.take 1 (.take 2 (.take 3 (.take 4 (.take 5 (.take 6 (.take 7 (.take 8 (.take 9 (.take 10 (.take 11 (.take 12 (.take 13 (DTree.done))))))))))))))) (by kernel_rfl) (by kernel_rfl) (by kernel_rfl) (fun _ _ d _ _ h => by cases d <;> exact h) hS0 ?_
            have hs' := hs.drew
            clear hs
            have hs := hs'
            clear hs'
            have hq := fun p : Prop => class_const hS0 p
            clear hS0
            repeat (first
              | (with_reducible refine tree_load_agg (o := ⟨some 39, .load _ _, _, _, _, _⟩) (kC y.k) rfl rfl rfl rfl ?_ ?_ h16 ?_; (kernel_rfl); (kernel_rfl))
              | (with_reducible refine tree_load_agg (o := ⟨some 41, .load _ _, _, _, _, _⟩) (kC x.k) rfl rfl rfl rfl ?_ ?_ h16b ?_; (kernel_rfl); (kernel_rfl))
              | (refine tree_take rfl (fun K hK => ?_); go_simp; (first | with_reducible refine hK _ ?_ | (rw [if_neg (by decide)]; with_reducible refine hK _ ?_)); clear hK K))
            refine tree_done ?_
            clear hq
            go_wp2_with fail
            have hS0 := cT _ _ hs.drew (by (try dsimp only [List.set]); first | exact ⟨[_, _], rfl⟩ | exact ⟨[_, _, _], rfl⟩) (by (try dsimp only [List.set]); repeat (first | with_reducible exact List.mem_cons_self | with_reducible apply List.mem_cons_of_mem))
            refine wp_region_tree ((oneT bo (oo + i * 5 + 3) y.ts b3 x.ts)) (.take 0 (.take 1 (.take 2 (.take 3 (.take 4 (.take 5 (.take 6 (.take 7 (DTree.done))))))))) (by kernel_rfl) (by kernel_rfl) (by kernel_rfl) (fun _ _ d _ _ h => by cases d <;> exact h) hS0 ?_
            have hs' := hs.drew
            clear hs
            have hs := hs'
            clear hs'
            have hq := fun p : Prop => class_const hS0 p
            clear hS0
            repeat (first
              | (with_reducible refine tree_load (o := ⟨some 48, .load _ _, _, _, _, _⟩) rfl rfl rfl rfl rfl h48 ?_)
              | (with_reducible refine tree_load (o := ⟨some 50, .load _ _, _, _, _, _⟩) rfl rfl rfl rfl rfl h50 ?_)
              | (refine tree_take rfl (fun K hK => ?_); go_simp; (first | with_reducible refine hK _ ?_ | (rw [if_neg (by decide)]; with_reducible refine hK _ ?_)); clear hK K))
            refine tree_done ?_
            clear hq
            go_wp2_with (first
              | (guard_target = wpList _ _ _ (⟨some 55, .load _ _, _, _, _, _⟩ :: _) _ _; refine wpl (o := ⟨some 55, .load _ _, _, _, _, _⟩) rfl fun K hK => op_load_agg rfl (b := bo) (i := oo + i * 5) rfl (cC y) (HRY.out _ _ hs (by (try dsimp only [List.set]); first | exact ⟨[_, _], rfl⟩ | exact ⟨[_, _, _], rfl⟩)) (by kernel_rfl) (by kernel_rfl) (hK _ _ ?_); clear hK K)
              | (guard_target = wpList _ _ _ (⟨none, .store _ (.tmp 3) _, _, _, _, _⟩ :: _) _ _; refine wpl (o := ⟨none, .store _ (.tmp 3) _, _, _, _, _⟩) rfl fun K hK => ?_; go_must (refine op_store_whole (hs.pick (A := row b3 (cC x) 107) (by repeat (first | with_reducible exact Pick.here | with_reducible apply Pick.there))) (b := b3) rfl rfl (cC y) rfl (cC_one y) (by kernel_rfl) (k := 0) rfl rfl fun w9 h => hK _ _ ?_); clear hs hK K; have hs := h; clear h; dsimp only [List.set] at hs)
              | (guard_target = wpList _ _ _ (⟨some 59, .load _ _, _, _, _, _⟩ :: _) _ _; refine wpl (o := ⟨some 59, .load _ _, _, _, _, _⟩) rfl fun K hK => op_load_agg rfl (b := b3) (i := 0) rfl ((cC y)) (range_whole hs (by (try dsimp only [List.set]); repeat (first | with_reducible exact List.mem_cons_self | with_reducible apply List.mem_cons_of_mem))) (by kernel_rfl) (by kernel_rfl) (hK _ _ ?_); clear hK K)
              | (guard_target = wpList _ _ _ (⟨some 60, .buildSlice _ _ _, _, _, _, _⟩ :: _) _ _; refine wpl (o := ⟨some 60, .buildSlice _ _ _, _, _, _, _⟩) rfl fun K hK => ?_; go_must (refine op_lit_agg1 hs rfl Tryd.underlying37 info_rcell (cC y) rfl rfl (by omega) (by omega) fun b60 w1 h => hK _ _ ?_); clear hs hK K; have hs := h; clear h; try dsimp only [List.set] at hs)
              | (guard_target = wpList _ _ _ (⟨some 61, .call _, _, _, _, _⟩ :: _) _ _; refine wpl (o := ⟨some 61, .call _, _, _, _, _⟩) rfl fun K hK => ?_; go_must (refine op_append (hs.pick (A := own (.slice A5 i c5) 107 i 5 (csC (l.take i))) (by repeat (first | with_reducible exact Pick.here | with_reducible apply Pick.there))) rfl Tryd.underlying37 Tryd.underlying37 info_rcell rfl (by omega) (k := 0) rfl rfl rfl (Has.of (A := row b60 (cC y) 107) (by (try dsimp only [List.set]); repeat (first | with_reducible exact List.mem_cons_self | with_reducible apply List.mem_cons_of_mem)) fun F hF => own_sliceAt F (own_exact (n := 1) (sz := 5) rfl (by omega) F hF)) (cC_one _) (by omega) (by omega) fun v61 w2 h => hK _ _ ?_); clear hs hK K; have hs := h; clear h; try dsimp only [List.set] at hs
                 obtain ⟨A61, c61, rfl, _, _⟩ := own_slice hs (i := 0) rfl)
              | (guard_target = wpList _ _ _ (⟨some 66, .call _, _, _, _, _⟩ :: _) _ _; refine wpl (o := ⟨some 66, .call _, _, _, _, _⟩) rfl fun K hK => ?_; go_must (refine op_append (hs.pick (A := own (.slice A61 (i + 1) c61) 107 (i + 1) 5 (csC (l.take i) ++ cC y)) (by repeat (first | with_reducible exact Pick.here | with_reducible apply Pick.there))) rfl Tryd.underlying37 Tryd.underlying37 info_rcell rfl (by omega) (k := 0) rfl rfl rfl (m := l.length - i1) (xs := csC (l.drop i1)) (Has.tail (Has.tail (Has.tail (HV.out.imp fun F hF => sliceAt_drop l i1 rfl (by omega) _ (by intro h; first | rfl | exact if_neg h | (split <;> simp_all)) F hF)))) (csC_one _) (by omega) (by omega) fun v66 w2 h => hK _ _ ?_); clear hs hK K; have hs := h; clear h; try dsimp only [List.set] at hs))
            all_goals
              go_ret
              refine ⟨v66, rfl, ?_⟩
              have hi1 := HI1.out
              subst hi1
              first | rw [show i + (l.length - (i + 1) + 1) = i + 1 + (l.length - (i + 1)) by omega] | rw [show (l.take i ++ y :: l.drop (i + 1)).length = i + 1 + (l.length - (i + 1)) by simp; omega]
              rw [show csC (l.take i ++ y :: l.drop (i + 1)) = csC (l.take i) ++ cC y ++ csC (l.drop (i + 1)) by simp [csC]]
              exact hs.pack (by repeat (first | with_reducible exact Pack.refl | with_reducible exact Pack.nil | with_reducible refine Pack.cons (by repeat (first | with_reducible exact Pick.here | with_reducible apply Pick.there)) ?_ | with_reducible apply Pack.drop))
          · rw [if_neg hts] at he
            subst he
            clear hR
            go_wp2_with fail
            have hS0 := cS _ _ hs.drew (by (try dsimp only [List.set]); first | exact ⟨[_, _], rfl⟩ | exact ⟨[_, _, _], rfl⟩) (by (try dsimp only [List.set]); repeat (first | with_reducible exact List.mem_cons_self | with_reducible apply List.mem_cons_of_mem))
            refine wp_region_tree ((oneS bo (oo + i * 5) (kC y.k) b3 (kC x.k))) (.take 0 (.take 1 (.take 2 (.take 3 (.take 4 (.take 5 (.take 6 (.take 7 (.take 8 (.take 9 (.take 10 (.take 11 (.all [(12, .take 13 (DTree.done))]))))))))))))) (by kernel_rfl) (by kernel_rfl) (by kernel_rfl) (fun _ _ d _ _ h => by cases d <;> exact h) hS0 ?_
            have hs' := hs.drew
            clear hs
            have hs := hs'
            clear hs'
            have hq := fun p : Prop => class_const hS0 p
            clear hS0
            repeat (first
              | (with_reducible refine tree_load_agg (o := ⟨some 16, .load _ _, _, _, _, _⟩) (kC y.k) rfl rfl rfl rfl ?_ ?_ h16 ?_; (kernel_rfl); (kernel_rfl))
              | (with_reducible refine tree_load_agg (o := ⟨some 18, .load _ _, _, _, _, _⟩) (kC x.k) rfl rfl rfl rfl ?_ ?_ h16b ?_; (kernel_rfl); (kernel_rfl))
              | (refine tree_take rfl (fun K hK => ?_); go_simp; (first | with_reducible refine hK _ ?_ | (rw [if_neg (by decide)]; with_reducible refine hK _ ?_)); clear hK K))
            refine tree_one_yes (o := _) rfl rfl (fun K hK => ?_) (cS _ _ hs (by (try dsimp only [List.set]); first | exact ⟨[_, _], rfl⟩ | exact ⟨[_, _, _], rfl⟩) (by (try dsimp only [List.set]); repeat (first | with_reducible exact List.mem_cons_self | with_reducible apply List.mem_cons_of_mem)))
            try go_simp
            go_at_call 44
            refine (HL.out _ _ hs).mono ?_
            clear hs
            rintro e w5 ⟨rfl, hs⟩
            try go_simp
            refine hK _ _ (cS _ _ hs (by (try dsimp only [List.set]); first | exact ⟨[_, _], rfl⟩ | exact ⟨[_, _, _], rfl⟩) (by (try dsimp only [List.set]); repeat (first | with_reducible exact List.mem_cons_self | with_reducible apply List.mem_cons_of_mem))) ?_
            clear hK K
            repeat (first
              | (with_reducible refine tree_load_agg (o := ⟨some 16, .load _ _, _, _, _, _⟩) (kC y.k) rfl rfl rfl rfl ?_ ?_ h16 ?_; (kernel_rfl); (kernel_rfl))
              | (with_reducible refine tree_load_agg (o := ⟨some 18, .load _ _, _, _, _, _⟩) (kC x.k) rfl rfl rfl rfl ?_ ?_ h16b ?_; (kernel_rfl); (kernel_rfl))
              | (refine tree_take rfl (fun K hK => ?_); go_simp; (first | with_reducible refine hK _ ?_ | (rw [if_neg (by decide)]; with_reducible refine hK _ ?_)); clear hK K))
            refine tree_done ?_
            clear hq
            go_wp2_with fail
            have hS0 := cS _ _ hs.drew (by (try dsimp only [List.set]); first | exact ⟨[_, _], rfl⟩ | exact ⟨[_, _, _], rfl⟩) (by (try dsimp only [List.set]); repeat (first | with_reducible exact List.mem_cons_self | with_reducible apply List.mem_cons_of_mem))
            refine wp_region_tree ((oneS bo (oo + i * 5) (kC y.k) b3 (kC x.k))) (.take 0 (.take 1 (.take 2 (.take 3 (.take 4 (.take 5 (.take 6 (.take 7 (.take 8 (.take 9 (.take 10 (.take 11 (.take 12 (.take 13 (DTree.done))))))))))))))) (by kernel_rfl) (by kernel_rfl) (by kernel_rfl) (fun _ _ d _ _ h => by cases d <;> exact h) hS0 ?_
            have hs' := hs.drew
            clear hs
            have hs := hs'
            clear hs'
            have hq := fun p : Prop => class_const hS0 p
            clear hS0
            repeat (first
              | (with_reducible refine tree_load_agg (o := ⟨some 39, .load _ _, _, _, _, _⟩) (kC y.k) rfl rfl rfl rfl ?_ ?_ h16 ?_; (kernel_rfl); (kernel_rfl))
              | (with_reducible refine tree_load_agg (o := ⟨some 41, .load _ _, _, _, _, _⟩) (kC x.k) rfl rfl rfl rfl ?_ ?_ h16b ?_; (kernel_rfl); (kernel_rfl))
              | (refine tree_take rfl (fun K hK => ?_); go_simp; (first | with_reducible refine hK _ ?_ | (rw [if_neg (by decide)]; with_reducible refine hK _ ?_)); clear hK K))
            refine tree_done ?_
            clear hq
            go_wp2_with fail
            have hS0 := cT _ _ hs.drew (by (try dsimp only [List.set]); first | exact ⟨[_, _], rfl⟩ | exact ⟨[_, _, _], rfl⟩) (by (try dsimp only [List.set]); repeat (first | with_reducible exact List.mem_cons_self | with_reducible apply List.mem_cons_of_mem))
            refine wp_region_tree ((oneT bo (oo + i * 5 + 3) y.ts b3 x.ts)) (.take 0 (.take 1 (.take 2 (.take 3 (.take 4 (.take 5 (.take 6 (.take 7 (DTree.done))))))))) (by kernel_rfl) (by kernel_rfl) (by kernel_rfl) (fun _ _ d _ _ h => by cases d <;> exact h) hS0 ?_
            have hs' := hs.drew
            clear hs
            have hs := hs'
            clear hs'
            have hq := fun p : Prop => class_const hS0 p
            clear hS0
            repeat (first
              | (with_reducible refine tree_load (o := ⟨some 48, .load _ _, _, _, _, _⟩) rfl rfl rfl rfl rfl h48 ?_)
              | (with_reducible refine tree_load (o := ⟨some 50, .load _ _, _, _, _, _⟩) rfl rfl rfl rfl rfl h50 ?_)
              | (refine tree_take rfl (fun K hK => ?_); go_simp; (first | with_reducible refine hK _ ?_ | (rw [if_neg (by decide)]; with_reducible refine hK _ ?_)); clear hK K))
            refine tree_done ?_
            clear hq
            go_wp2_with (first
              | (guard_target = wpList _ _ _ (⟨some 59, .load _ _, _, _, _, _⟩ :: _) _ _; refine wpl (o := ⟨some 59, .load _ _, _, _, _, _⟩) rfl fun K hK => op_load_agg rfl (b := b3) (i := 0) rfl ((cC x)) (range_whole hs (by (try dsimp only [List.set]); repeat (first | with_reducible exact List.mem_cons_self | with_reducible apply List.mem_cons_of_mem))) (by kernel_rfl) (by kernel_rfl) (hK _ _ ?_); clear hK K)
              | (guard_target = wpList _ _ _ (⟨some 60, .buildSlice _ _ _, _, _, _, _⟩ :: _) _ _; refine wpl (o := ⟨some 60, .buildSlice _ _ _, _, _, _, _⟩) rfl fun K hK => ?_; go_must (refine op_lit_agg1 hs rfl Tryd.underlying37 info_rcell (cC x) rfl rfl (by omega) (by omega) fun b60 w1 h => hK _ _ ?_); clear hs hK K; have hs := h; clear h; try dsimp only [List.set] at hs)
              | (guard_target = wpList _ _ _ (⟨some 61, .call _, _, _, _, _⟩ :: _) _ _; refine wpl (o := ⟨some 61, .call _, _, _, _, _⟩) rfl fun K hK => ?_; go_must (refine op_append (hs.pick (A := own (.slice A5 i c5) 107 i 5 (csC (l.take i))) (by repeat (first | with_reducible exact Pick.here | with_reducible apply Pick.there))) rfl Tryd.underlying37 Tryd.underlying37 info_rcell rfl (by omega) (k := 0) rfl rfl rfl (Has.of (A := row b60 (cC x) 107) (by (try dsimp only [List.set]); repeat (first | with_reducible exact List.mem_cons_self | with_reducible apply List.mem_cons_of_mem)) fun F hF => own_sliceAt F (own_exact (n := 1) (sz := 5) rfl (by omega) F hF)) (cC_one _) (by omega) (by omega) fun v61 w2 h => hK _ _ ?_); clear hs hK K; have hs := h; clear h; try dsimp only [List.set] at hs
                 obtain ⟨A61, c61, rfl, _, _⟩ := own_slice hs (i := 0) rfl)
              | (guard_target = wpList _ _ _ (⟨some 66, .call _, _, _, _, _⟩ :: _) _ _; refine wpl (o := ⟨some 66, .call _, _, _, _, _⟩) rfl fun K hK => ?_; go_must (refine op_append (hs.pick (A := own (.slice A61 (i + 1) c61) 107 (i + 1) 5 (csC (l.take i) ++ cC x)) (by repeat (first | with_reducible exact Pick.here | with_reducible apply Pick.there))) rfl Tryd.underlying37 Tryd.underlying37 info_rcell rfl (by omega) (k := 0) rfl rfl rfl (m := l.length - i1) (xs := csC (l.drop i1)) (Has.tail (Has.tail (Has.tail (HV.out.imp fun F hF => sliceAt_drop l i1 rfl (by omega) _ (by intro h; first | rfl | exact if_neg h | (split <;> simp_all)) F hF)))) (csC_one _) (by omega) (by omega) fun v66 w2 h => hK _ _ ?_); clear hs hK K; have hs := h; clear h; try dsimp only [List.set] at hs))
            all_goals
              go_ret
              refine ⟨v66, rfl, ?_⟩
              have hi1 := HI1.out
              subst hi1
              first | rw [show i + (l.length - (i + 1) + 1) = i + 1 + (l.length - (i + 1)) by omega] | rw [show (l.take i ++ x :: l.drop (i + 1)).length = i + 1 + (l.length - (i + 1)) by simp; omega]
              rw [show csC (l.take i ++ x :: l.drop (i + 1)) = csC (l.take i) ++ cC x ++ csC (l.drop (i + 1)) by simp [csC]]
              exact hs.pack (by repeat (first | with_reducible exact Pack.refl | with_reducible exact Pack.nil | with_reducible refine Pack.cons (by repeat (first | with_reducible exact Pick.here | with_reducible apply Pick.there)) ?_ | with_reducible apply Pack.drop))
    · have hltI : ¬ (i : Int) < (l.length : Int) := by omega
      have hin : i = l.length := by omega
      have he : R = l ++ [x] := by rw [← hR.out, oneL_new]; rw [idxK_of x.k l i hi hall.out (fun h => absurd h hlt)]; exact hlt
      subst he
      clear hR hall
      subst hin
      rw [List.take_length] at hs
      cases A
      all_goals
        go_wp2_with fail
        have hS0 := Sat.trueS hs.drew
        refine wp_region_tree (trueS) (.take 0 (.take 1 (.take 2 (.take 3 (.take 4 (.take 5 (.take 6 (.take 7 (.take 8 (.take 9 (.take 10 (.take 11 (.all [(12, .take 13 (DTree.done))]))))))))))))) (by kernel_rfl) (by kernel_rfl) (by kernel_rfl) (fun _ _ d _ _ h => by cases d <;> exact h) hS0 ?_
        have hs' := hs.drew
        clear hs
        have hs := hs'
        clear hs'
        have hq := fun p : Prop => class_const hS0 p
        clear hS0
        repeat (first
          | (refine tree_take rfl (fun K hK => ?_); go_simp; (first | with_reducible refine hK _ ?_ | (rw [if_neg (by decide)]; with_reducible refine hK _ ?_)); clear hK K))
        refine tree_one (o := _) rfl (fun K hK => ?_) (Sat.trueS hs)
        go_simp
        try rw [if_neg (by decide)]
        intro hS9
        refine hK _ _ hS9 ?_
        clear hS9 hK K
        repeat (first
          | (refine tree_take rfl (fun K hK => ?_); go_simp; (first | with_reducible refine hK _ ?_ | (rw [if_neg (by decide)]; with_reducible refine hK _ ?_)); clear hK K))
        refine tree_done ?_
        clear hq
        go_wp2_with fail
        have hS0 := Sat.trueS hs.drew
        refine wp_region_tree (trueS) (.take 0 (.take 1 (.take 2 (.take 3 (.take 4 (.take 5 (.take 6 (.take 7 (.take 8 (.take 9 (.take 10 (.take 11 (.take 12 (.take 13 (DTree.done))))))))))))))) (by kernel_rfl) (by kernel_rfl) (by kernel_rfl) (fun _ _ d _ _ h => by cases d <;> exact h) hS0 ?_
        have hs' := hs.drew
        clear hs
        have hs := hs'
        clear hs'
        have hq := fun p : Prop => class_const hS0 p
        clear hS0
        repeat (first
          | (refine tree_take rfl (fun K hK => ?_); go_simp; (first | with_reducible refine hK _ ?_ | (rw [if_neg (by decide)]; with_reducible refine hK _ ?_)); clear hK K))
        refine tree_done ?_
        clear hq
        go_wp2_with (first
          | (guard_target = wpList _ _ _ (⟨some 59, .load _ _, _, _, _, _⟩ :: _) _ _; refine wpl (o := ⟨some 59, .load _ _, _, _, _, _⟩) rfl fun K hK => op_load_agg rfl (b := b3) (i := 0) rfl ((cC x)) (range_whole hs (by (try dsimp only [List.set]); repeat (first | with_reducible exact List.mem_cons_self | with_reducible apply List.mem_cons_of_mem))) (by kernel_rfl) (by kernel_rfl) (hK _ _ ?_); clear hK K)
          | (guard_target = wpList _ _ _ (⟨some 60, .buildSlice _ _ _, _, _, _, _⟩ :: _) _ _; refine wpl (o := ⟨some 60, .buildSlice _ _ _, _, _, _, _⟩) rfl fun K hK => ?_; go_must (refine op_lit_agg1 hs rfl Tryd.underlying37 info_rcell (cC x) rfl rfl (by omega) (by omega) fun b60 w1 h => hK _ _ ?_); clear hs hK K; have hs := h; clear h; try dsimp only [List.set] at hs)
          | (guard_target = wpList _ _ _ (⟨some 61, .call _, _, _, _, _⟩ :: _) _ _; refine wpl (o := ⟨some 61, .call _, _, _, _, _⟩) rfl fun K hK => ?_; go_must (refine op_append (hs.pick (A := own (.slice A5 l.length c5) 107 l.length 5 (csC l)) (by repeat (first | with_reducible exact Pick.here | with_reducible apply Pick.there))) rfl Tryd.underlying37 Tryd.underlying37 info_rcell rfl (by omega) (k := 0) rfl rfl rfl (Has.of (A := row b60 (cC x) 107) (by (try dsimp only [List.set]); repeat (first | with_reducible exact List.mem_cons_self | with_reducible apply List.mem_cons_of_mem)) fun F hF => own_sliceAt F (own_exact (n := 1) (sz := 5) rfl (by omega) F hF)) (cC_one _) (by omega) (by omega) fun v61 w2 h => hK _ _ ?_); clear hs hK K; have hs := h; clear h; try dsimp only [List.set] at hs
             obtain ⟨A61, c61, rfl, _, _⟩ := own_slice hs (i := 0) rfl)
          | (guard_target = wpList _ _ _ (⟨some 66, .call _, _, _, _, _⟩ :: _) _ _; refine wpl (o := ⟨some 66, .call _, _, _, _, _⟩) rfl fun K hK => ?_; go_must (refine op_append (hs.pick (A := own (.slice A61 (l.length + 1) c61) 107 (l.length + 1) 5 (csC l ++ cC x)) (by repeat (first | with_reducible exact Pick.here | with_reducible apply Pick.there))) rfl Tryd.underlying37 Tryd.underlying37 info_rcell rfl (by omega) (k := 0) rfl rfl rfl (m := 0) (xs := []) (Has.mem m0 fun F hF => ⟨rfl, _, _, rfl, by omega, by omega, .inl rfl⟩) (by simp) (by omega) (by omega) fun v66 w2 h => hK _ _ ?_); clear hs hK K; have hs := h; clear h; try dsimp only [List.set] at hs))
        all_goals
          go_ret
          refine ⟨v66, rfl, ?_⟩
          rw [List.append_nil] at hs
          rw [csC_snoc]
          first | rw [List.length_append, List.length_singleton] | skip
          exact hs.pack (by repeat (first | with_reducible exact Pack.refl | with_reducible exact Pack.nil | with_reducible refine Pack.cons (by repeat (first | with_reducible exact Pick.here | with_reducible apply Pick.there)) ?_ | with_reducible apply Pack.drop))
end Go.Proofs.YthjnefpnnifjiaaDoor
