/- The walk of redo.Apply. -/
import Derived.Test.YthjnefpnnifjiaaDoorRdApply
import Derived.Test.YthjnefpnnifjiaaDoorRdRef1
set_option linter.unusedVariables false
set_option linter.unusedSimpArgs false
namespace Go.Proofs.YthjnefpnnifjiaaDoor
open Go.RowKit
theorem csC_set (l : List RCl) (j : Nat) (y : RCl) (h : j < l.length) : (csC l).take (j * 5) ++ cC y ++ (csC l).drop (j * 5 + (cC y).length) = csC (l.set j y) := by
  have e1 : (csC l).take (j * 5) = csC (l.take j) := by
    conv => lhs; rw [csC_split l j]
    rw [← csC_take l j (by omega), List.take_left']
    rfl
  have e2 : (csC l).drop (j * 5 + (cC y).length) = csC (l.drop (j + 1)) := by
    conv => lhs; rw [csC_split l (j + 1)]
    rw [show j * 5 + (cC y).length = (csC (l.take (j + 1))).length by rw [csC_take l (j + 1) (by omega), cC_length]; omega, List.drop_left']
    rfl
  rw [e1, e2, List.set_eq_take_append_cons_drop, if_pos h]; simp [csC]
theorem putK_new {l : List RCl} {c : RCl} (h : ¬ idxK c.k l < l.length) : putK l c = l ++ [c] := by unfold putK; rw [dif_neg h]
theorem putK_at {l : List RCl} {c : RCl} {j : Nat} (h : idxK c.k l = j) (hj : j < l.length) : putK l c = if keySame l[j].k c.k then (if l[j].ts ≤ c.ts then l.set j c else l) else l.take j ++ c :: l.drop j := by
  subst h
  unfold putK; rw [dif_pos hj]
set_option maxRecDepth 100000 in
set_option maxHeartbeats 16000000 in
theorem apply_spec (W w : World) (L : List HP) (hs : Sat W w L) (s : RSt) (c : RCm) (vs vw : Value) (hvs : Has L (sliceAt vs s.L.length 5 (csC s.L))) (hvw : Has L (sliceAt vw c.W.length 4 (wsC c.W))) (hn : s.L.length + c.W.length ≤ 900000) :
    Calls Tryd.prog 19 #[.agg (stC s vs).toArray, .agg (cmC c vw).toArray] w (apPost (applyR s c) W L) := by
  obtain ⟨As, cs, rfl, _, _⟩ := slice_form (hs.slice hvs)
  obtain ⟨Aw, cw, rfl, _, _⟩ := slice_form (hs.slice hvw)
  have HV := Box.mk hvs
  have HW := Box.mk hvw
  have hzc := run_zero (P := Tryd.prog) zcell
  clear hvs hvw
  obtain ⟨R, hR0⟩ : ∃ R, applyR s c = R := ⟨_, rfl⟩
  rw [hR0]
  have hR := Box.mk hR0
  clear hR0
  unfold apPost
  go_enter Tryd.func19, Tryd.ntmps19
  go_wp2_with (first
    | (guard_target = wpList _ _ _ (⟨some 2, .box _ _, _, _, _, _⟩ :: _) _ _; refine wpl (o := ⟨some 2, .box _ _, _, _, _, _⟩) rfl fun K hK => ?_; go_must (refine op_box hs rfl _ rfl (stC s (.slice As s.L.length cs)) rfl fun b2 w1 h => hK _ _ ?_); clear hs hK K; have hs := h; clear h; try dsimp only [List.set] at hs)
    | (guard_target = wpList _ _ _ (⟨some 3, .box _ _, _, _, _, _⟩ :: _) _ _; refine wpl (o := ⟨some 3, .box _ _, _, _, _, _⟩) rfl fun K hK => ?_; go_must (refine op_box hs rfl _ rfl (cmC c (.slice Aw c.W.length cw)) rfl fun b3 w1 h => hK _ _ ?_); clear hs hK K; have hs := h; clear h; try dsimp only [List.set] at hs)
    | (guard_target = wpList _ _ _ (⟨some 4, .alloc _, _, _, _, _⟩ :: _) _ _; refine wpl (o := ⟨some 4, .alloc _, _, _, _, _⟩) rfl fun K hK => ?_; go_must (refine op_alloc hs rfl _ zstateR [Value.int .i64 0, .int .u32 0, .int .u32 0, .slice none 0 0] rfl fun b4 w1 h => hK _ _ ?_); clear hs hK K; have hs := h; clear h; try dsimp only [List.set] at hs)
    | (guard_target = wpList _ _ _ (⟨some 10, .load _ _, _, _, _, _⟩ :: _) _ _; refine wpl (o := ⟨some 10, .load _ _, _, _, _, _⟩) rfl fun K hK => op_load rfl (ad := ⟨b2, 3, none⟩) rfl (by kernel_rfl) (hs.cell (l := stC s (.slice As s.L.length cs)) (t := 43) (by (try dsimp only [List.set]); repeat (first | with_reducible exact List.mem_cons_self | with_reducible apply List.mem_cons_of_mem)) rfl) (hK _ _ ?_); clear hK K)
    | (go_at_call 55; go_must (refine (cloneC_spec W _ _ hs _ s.L (show Has _ (sliceAt (.slice As s.L.length cs) s.L.length 5 (csC s.L)) from (by (try dsimp only [List.set]); repeat (first | exact HV.out | apply Has.tail))) (by omega)).mono ?_); clear hs; rintro e w1 ⟨v11, rfl, hs⟩
       obtain ⟨A11, c11, rfl, _, _⟩ := own_slice hs (i := 0) rfl)
    | (guard_target = wpList _ _ _ (⟨none, .store _ (.tmp 12) _, _, _, _, _⟩ :: _) _ _; refine wpl (o := ⟨none, .store _ (.tmp 12) _, _, _, _, _⟩) rfl fun K hK => ?_; go_must (refine op_store (hs.pick (A := row b2 (stC s (.slice As s.L.length cs)) 43) (by repeat (first | with_reducible exact Pick.here | with_reducible apply Pick.there))) rfl (b := b2) (i := 3) (v := .slice A11 s.L.length c11) rfl rfl rfl (by kernel_rfl) (k := 0) rfl (by simp [stC]) fun w7 h => hK _ _ ?_); clear hs hK K; have hs := h; clear h; change Sat W _ (row b2 (rowR s.last s.epoch s.low (.slice A11 s.L.length c11)) 43 :: _) at hs)
    | (guard_target = wpList _ _ _ (⟨some 14, .load _ _, _, _, _, _⟩ :: _) _ _; refine wpl (o := ⟨some 14, .load _ _, _, _, _, _⟩) rfl fun K hK => op_load rfl (ad := ⟨b3, 1, none⟩) rfl (by kernel_rfl) (hs.cell (l := cmC c (.slice Aw c.W.length cw)) (t := 24) (by (try dsimp only [List.set]); repeat (first | with_reducible exact List.mem_cons_self | with_reducible apply List.mem_cons_of_mem)) rfl) (hK _ _ ?_); clear hK K))
  go_loopw [16] (fun v16 wr => ∃ (i : Nat) (v' : Value), i ≤ c.W.length ∧ v16 = .int .i64 (i : Nat) ∧ Sat W wr (row b2 (rowR s.last s.epoch s.low v') 43 :: own v' 59 (applyL s.L c.ts (c.W.take i)).length 5 (csC (applyL s.L c.ts (c.W.take i))) :: row b3 (cmC c (.slice Aw c.W.length cw)) 24 :: row b4 [Value.int .i64 0, .int .u32 0, .int .u32 0, .slice none 0 0] 43 :: L)) (fun v16 _ => c.W.length - (intOf v16).toNat)
  case atStart => exact ⟨0, .slice A11 s.L.length c11, by omega, rfl, hs.pack (L := row b2 (rowR s.last s.epoch s.low (.slice A11 s.L.length c11)) 43 :: own (.slice A11 s.L.length c11) 59 s.L.length 5 (csC s.L) :: row b3 (cmC c (.slice Aw c.W.length cw)) 24 :: row b4 [Value.int .i64 0, .int .u32 0, .int .u32 0, .slice none 0 0] 43 :: L) (by repeat (first | with_reducible exact Pack.refl | with_reducible exact Pack.nil | with_reducible refine Pack.cons (by repeat (first | with_reducible exact Pick.here | with_reducible apply Pick.there)) ?_ | with_reducible apply Pack.drop))⟩
  case round =>
    clear hs
    obtain ⟨i, v', hi, rfl, hs⟩ := hrel
    by_cases hlt : i < c.W.length
    · have hltI : (i : Int) < (c.W.length : Int) := by omega
      have hwi : IntKind.i64.wrap ((i : Int) + 1) = (i : Int) + 1 := by rw [IntKind.wrap_i64]; omega
      obtain ⟨bw, ow, cw', e⟩ := slice_part wC 4 wC_length (by omega) hs (show Has _ (sliceAt (.slice Aw c.W.length cw) c.W.length 4 (wsC c.W)) from (by (try dsimp only [List.set]); repeat (first | exact HW.out | apply Has.tail))) (by omega)
      cases e
      have hr := slice_range wC 4 wC_length hs (show Has _ (sliceAt (.slice (some ⟨bw, ow, none⟩) c.W.length cw) c.W.length 4 (wsC c.W)) from (by (try dsimp only [List.set]); repeat (first | exact HW.out | apply Has.tail))) i hlt
      have hall := applyL_len s.L c.ts c.W i hi
      have hsn := applyL_snoc s.L c.ts c.W i hlt
      generalize applyL s.L c.ts (c.W.take i) = l at hs hall hsn
      generalize c.W[i] = x at hr hsn
      have hln : l.length ≤ 900000 := by omega
      have HI := Box.mk (fun w (L : List HP) b6 v hs hm hv => indexFunc_spec W w L b6 x v l hs hm hv (by omega))
      clear hall
      obtain ⟨j, hj0⟩ : ∃ j, idxK x.k l = j := ⟨_, rfl⟩
      unfold idxI at HI
      rw [hj0] at HI
      by_cases hj : j < l.length
      · have hjI : (j : Int) < (l.length : Int) := by omega
        have hpos : 0 < l.length := by omega
        have hneg : ¬ ((j : Int) < 0) := by omega
        rw [if_pos hj] at HI
        rw [putK_at hj0 hj] at hsn
        obtain ⟨bo, c', sp, e, _⟩ := hs.ownOpen (i := 1) rfl hpos
        subst e
        have HIN := Box.mk (fun w (M : List HP) bx v hs hfx => insert_spec W w M v l j bx ⟨x.k, c.ts, x.v⟩ hs hfx hj (by omega))
        have hry := fun w (M : List HP) (h : Sat W w M) (hM : own (.slice (some ⟨bo, 0, none⟩) l.length c') 59 l.length 5 (csC l) ∈ M) => slice_range cC 5 cC_length h (Has.of hM own_sliceAt) j hj
        generalize l[j] = y at hsn hry
        obtain ⟨q, hq0⟩ : ∃ q, keySame y.k x.k = q := ⟨_, rfl⟩
        have hqe : ∀ w, (Op.equalIn 10000 57 (.agg (kC y.k).toArray) (.agg (kC x.k).toArray)).run Tryd.prog w = .ok q w := fun w => by rw [run_equal_key, hq0]
        rw [hq0] at hsn
        have HRY := Box.mk hry
        clear hry hq0 hj0
        cases q
        · simp only [Bool.false_eq_true, if_false] at hsn
          have HSN := Box.mk hsn
          clear hsn
          go_wp2_with (first
            | (guard_target = wpList _ _ _ (⟨some 19, .load _ _, _, _, _, _⟩ :: _) _ _; refine wpl (o := ⟨some 19, .load _ _, _, _, _, _⟩) rfl fun K hK => op_load_agg rfl (b := bw) (i := ow + i * 4) rfl (wC x) hr (by kernel_rfl) (by kernel_rfl) (hK _ _ ?_); clear hK K)
            | (guard_target = wpList _ _ _ (⟨some 6, .alloc _, _, _, _, _⟩ :: _) _ _; refine wpl (o := ⟨some 6, .alloc _, _, _, _, _⟩) rfl fun K hK => ?_; go_must (refine op_alloc hs rfl _ zwrite [Value.int .i64 0, .int .i64 0, .int .i64 0, .string ⟨#[]⟩] rfl fun b6 w1 h => hK _ _ ?_); clear hs hK K; have hs := h; clear h; try dsimp only [List.set] at hs)
            | (guard_target = wpList _ _ _ (⟨none, .store _ (.tmp 6) _, _, _, _, _⟩ :: _) _ _; refine wpl (o := ⟨none, .store _ (.tmp 6) _, _, _, _, _⟩) rfl fun K hK => ?_; go_must (refine op_store_whole hs (b := b6) rfl rfl (wC x) rfl (wC_one x) (by kernel_rfl) (k := 0) rfl rfl fun w3 h => hK _ _ ?_); clear hs hK K; have hs := h; clear h; try dsimp only [List.set] at hs)
            | (guard_target = wpList _ _ _ (⟨some 21, .load _ _, _, _, _, _⟩ :: _) _ _; refine wpl (o := ⟨some 21, .load _ _, _, _, _, _⟩) rfl fun K hK => op_load_agg rfl (b := b6) (i := 0) rfl [.int .i64 x.k.kind, .int .i64 x.k.a, .int .i64 x.k.b] (range_pre (ds := [(.string ⟨(x.v).toArray⟩)]) (range_whole hs (show row b6 (wC x) 61 ∈ _ from (by (try dsimp only [List.set]); repeat (first | with_reducible exact List.mem_cons_self | with_reducible apply List.mem_cons_of_mem))))) (by kernel_rfl) (by kernel_rfl) (hK _ _ ?_); clear hK K)
            | (guard_target = wpList _ _ _ (⟨some 23, .load _ _, _, _, _, _⟩ :: _) _ _; refine wpl (o := ⟨some 23, .load _ _, _, _, _, _⟩) rfl fun K hK => op_load rfl (ad := ⟨b3, 0, none⟩) rfl (by kernel_rfl) (hs.cell (l := cmC c (.slice (some ⟨bw, ow, none⟩) c.W.length cw)) (t := 24) (by (try dsimp only [List.set]); repeat (first | with_reducible exact List.mem_cons_self | with_reducible apply List.mem_cons_of_mem)) rfl) (hK _ _ ?_); clear hK K)
            | (guard_target = wpList _ _ _ (⟨some 25, .load _ _, _, _, _, _⟩ :: _) _ _; refine wpl (o := ⟨some 25, .load _ _, _, _, _, _⟩) rfl fun K hK => op_load rfl (ad := ⟨b6, 3, none⟩) rfl (by kernel_rfl) (hs.cell (l := wC x) (t := 61) (by (try dsimp only [List.set]); repeat (first | with_reducible exact List.mem_cons_self | with_reducible apply List.mem_cons_of_mem)) rfl) (hK _ _ ?_); clear hK K)
            | (guard_target = wpList _ _ _ (⟨some 7, .alloc _, _, _, _, _⟩ :: _) _ _; refine wpl (o := ⟨some 7, .alloc _, _, _, _, _⟩) rfl fun K hK => ?_; go_must (refine op_alloc hs rfl _ zcell [Value.int .i64 0, .int .i64 0, .int .i64 0, .int .i64 0, .string ⟨#[]⟩] rfl fun b7 w1 h => hK _ _ ?_); clear hs hK K; have hs := h; clear h; try dsimp only [List.set] at hs)
            | (guard_target = wpList _ _ _ (⟨none, .store _ (.tmp 7) _, _, _, _, _⟩ :: _) _ _; refine wpl (o := ⟨none, .store _ (.tmp 7) _, _, _, _, _⟩) rfl fun K hK => ?_; go_must (refine op_store_whole hs (b := b7) rfl rfl (cC ⟨x.k, c.ts, x.v⟩) rfl (cC_one _) (by kernel_rfl) (k := 0) rfl rfl fun w3 h => hK _ _ ?_); clear hs hK K; have hs := h; clear h; try dsimp only [List.set] at hs)
            | (guard_target = wpList _ _ _ (⟨some 28, .load _ _, _, _, _, _⟩ :: _) _ _; refine wpl (o := ⟨some 28, .load _ _, _, _, _, _⟩) rfl fun K hK => op_load rfl (ad := ⟨b2, 3, none⟩) rfl (by kernel_rfl) (hs.cell (l := rowR s.last s.epoch s.low (.slice (some ⟨bo, 0, none⟩) l.length c')) (t := 43) (by (try dsimp only [List.set]); repeat (first | with_reducible exact List.mem_cons_self | with_reducible apply List.mem_cons_of_mem)) rfl) (hK _ _ ?_); clear hK K)
            | (go_at_call 56; go_must (refine (HI.out _ _ b6 _ hs (show row b6 (wC x) 61 ∈ _ from (by (try dsimp only [List.set]); repeat (first | with_reducible exact List.mem_cons_self | with_reducible apply List.mem_cons_of_mem))) (Has.of (A := own (.slice (some ⟨bo, 0, none⟩) l.length c') 59 l.length 5 (csC l)) (by (try dsimp only [List.set]); repeat (first | with_reducible exact List.mem_cons_self | with_reducible apply List.mem_cons_of_mem)) own_sliceAt)).mono ?_); clear hs; rintro e w1 ⟨rfl, hs⟩))
          have h42 : ∀ w, ap9S b2 (.slice (some ⟨bo, 0, none⟩) l.length c') bo (j * 5) (kC y.k) b6 (kC x.k) w → w.cell? ⟨b2, 3, none⟩ = some (.slice (some ⟨bo, 0, none⟩) l.length c') := fun w h => h.1
          have h46 : ∀ w, ap9S b2 (.slice (some ⟨bo, 0, none⟩) l.length c') bo (j * 5) (kC y.k) b6 (kC x.k) w → w.rangeAt bo (j * 5) (kC y.k) := fun w h => h.2.1
          have h48 : ∀ w, ap9S b2 (.slice (some ⟨bo, 0, none⟩) l.length c') bo (j * 5) (kC y.k) b6 (kC x.k) w → w.rangeAt b6 0 (kC x.k) := fun w h => h.2.2
          have HK9 : ∀ w M, Sat W w M → own (.slice (some ⟨bo, 0, none⟩) l.length c') 59 l.length 5 (csC l) ∈ M → w.rangeAt bo (j * 5) (kC y.k) := fun w M h hM => range_pre (by have := HRY.out w M h hM; rw [Nat.zero_add] at this; exact this)
          have cS9 : ∀ w M, Sat W w M → row b2 (rowR s.last s.epoch s.low (.slice (some ⟨bo, 0, none⟩) l.length c')) 43 ∈ M → own (.slice (some ⟨bo, 0, none⟩) l.length c') 59 l.length 5 (csC l) ∈ M → row b6 (wC x) 61 ∈ M → ap9S b2 (.slice (some ⟨bo, 0, none⟩) l.length c') bo (j * 5) (kC y.k) b6 (kC x.k) w := fun w M h h1 h2 h3 => ⟨h.cell h1 rfl, HK9 w M h h2, range_pre (ds := [(.string ⟨(x.v).toArray⟩)]) (range_whole h h3)⟩
          have hS0 := cS9 _ _ hs.drew (by (try dsimp only [List.set]); repeat (first | with_reducible exact List.mem_cons_self | with_reducible apply List.mem_cons_of_mem)) (by (try dsimp only [List.set]); repeat (first | with_reducible exact List.mem_cons_self | with_reducible apply List.mem_cons_of_mem)) (by (try dsimp only [List.set]); repeat (first | with_reducible exact List.mem_cons_self | with_reducible apply List.mem_cons_of_mem))
          refine wp_region_tree ((ap9S b2 (.slice (some ⟨bo, 0, none⟩) l.length c') bo (j * 5) (kC y.k) b6 (kC x.k))) (.take 0 (.take 1 (.take 2 (.take 3 (.take 4 (.take 5 (.take 6 (.take 7 (.take 8 (.take 9 (DTree.done))))))))))) (by kernel_rfl) (by kernel_rfl) (by kernel_rfl) (fun _ _ d _ _ h => by cases d <;> exact h) hS0 ?_
          have hs' := hs.drew
          clear hs
          have hs := hs'
          clear hs'
          have hq := fun p : Prop => class_const hS0 p
          clear hS0
          repeat (first
            | (with_reducible refine tree_load (o := ⟨some 42, .load _ _, _, _, _, _⟩) rfl rfl rfl rfl rfl h42 ?_)
            | (with_reducible refine tree_load_agg (o := ⟨some 46, .load _ _, _, _, _, _⟩) (kC y.k) rfl rfl rfl rfl ?_ ?_ h46 ?_; (kernel_rfl); (kernel_rfl))
            | (with_reducible refine tree_load_agg (o := ⟨some 48, .load _ _, _, _, _, _⟩) (kC x.k) rfl rfl rfl rfl ?_ ?_ h48 ?_; (kernel_rfl); (kernel_rfl))
            | (refine tree_take rfl (fun K hK => ?_); go_simp; (first | with_reducible refine hK _ ?_ | (rw [if_neg (by decide)]; with_reducible refine hK _ ?_)); clear hK K))
          refine tree_done ?_
          clear hq
          go_wp2_with (first
            | (guard_target = wpList _ _ _ (⟨some 51, .load _ _, _, _, _, _⟩ :: _) _ _; refine wpl (o := ⟨some 51, .load _ _, _, _, _, _⟩) rfl fun K hK => op_load rfl (ad := ⟨b2, 3, none⟩) rfl (by kernel_rfl) (hs.cell (l := rowR s.last s.epoch s.low (.slice (some ⟨bo, 0, none⟩) l.length c')) (t := 43) (by (try dsimp only [List.set]); repeat (first | with_reducible exact List.mem_cons_self | with_reducible apply List.mem_cons_of_mem)) rfl) (hK _ _ ?_); clear hK K)
            | (guard_target = wpList _ _ _ (⟨some 53, .load _ _, _, _, _, _⟩ :: _) _ _; refine wpl (o := ⟨some 53, .load _ _, _, _, _, _⟩) rfl fun K hK => op_load_agg rfl (b := b7) (i := 0) rfl ((cC ⟨x.k, c.ts, x.v⟩)) (range_whole hs (by (try dsimp only [List.set]); repeat (first | with_reducible exact List.mem_cons_self | with_reducible apply List.mem_cons_of_mem))) (by kernel_rfl) (by kernel_rfl) (hK _ _ ?_); clear hK K)
            | (guard_target = wpList _ _ _ (⟨some 54, .buildSlice _ _ _, _, _, _, _⟩ :: _) _ _; refine wpl (o := ⟨some 54, .buildSlice _ _ _, _, _, _, _⟩) rfl fun K hK => ?_; go_must (refine op_lit_agg1x hs rfl Tryd.underlying41 info_cell (cC ⟨x.k, c.ts, x.v⟩) rfl rfl (by omega) (by omega) fun b54 w1 h hfx => hK _ _ ?_); clear hs hK K; have hs := h; clear h)
            | (go_at_call 59; go_must (refine (HIN.out _ _ b54 _ (hs.pick (A := own (.slice (some ⟨bo, 0, none⟩) l.length c') 59 l.length 5 (csC l)) (by repeat (first | with_reducible exact Pick.here | with_reducible apply Pick.there))) hfx).mono ?_); clear hs hfx; rintro e w1 ⟨v55, rfl, hs⟩
               obtain ⟨A55, c55, rfl, _, _⟩ := own_slice hs (i := 0) rfl)
            | (guard_target = wpList _ _ _ (⟨none, .store _ (.tmp 56) _, _, _, _, _⟩ :: _) _ _; refine wpl (o := ⟨none, .store _ (.tmp 56) _, _, _, _, _⟩) rfl fun K hK => ?_; go_must (refine op_store (hs.pick (A := row b2 (rowR s.last s.epoch s.low (.slice (some ⟨bo, 0, none⟩) l.length c')) 43) (by repeat (first | with_reducible exact Pick.here | with_reducible apply Pick.there))) rfl (b := b2) (i := 3) (v := .slice A55 (l.length + 1) c55) rfl rfl rfl (by kernel_rfl) (k := 0) rfl (by simp [rowR]) fun w7 h => hK _ _ ?_); clear hs hK K; have hs := h; clear h; change Sat W _ (row b2 (rowR s.last s.epoch s.low (.slice A55 (l.length + 1) c55)) 43 :: _) at hs))
          refine ⟨⟨i + 1, .slice A55 (l.length + 1) c55, by omega, by go_num, ?_⟩, by simp only [intOf]; omega⟩
          rw [HSN.out, show (l.take j ++ (⟨x.k, c.ts, x.v⟩ : RCl) :: l.drop j).length = l.length + 1 by simp; omega]
          exact hs.pack (by repeat (first | with_reducible exact Pack.refl | with_reducible exact Pack.nil | with_reducible refine Pack.cons (by repeat (first | with_reducible exact Pick.here | with_reducible apply Pick.there)) ?_ | with_reducible apply Pack.drop))
        · by_cases hts : y.ts ≤ c.ts
          · have HTS : Box (y.ts ≤ c.ts) := ⟨hts⟩
            rw [if_pos rfl, if_pos hts] at hsn
            have HSN := Box.mk hsn
            clear hsn
            go_wp2_with (first
              | (guard_target = wpList _ _ _ (⟨some 19, .load _ _, _, _, _, _⟩ :: _) _ _; refine wpl (o := ⟨some 19, .load _ _, _, _, _, _⟩) rfl fun K hK => op_load_agg rfl (b := bw) (i := ow + i * 4) rfl (wC x) hr (by kernel_rfl) (by kernel_rfl) (hK _ _ ?_); clear hK K)
              | (guard_target = wpList _ _ _ (⟨some 6, .alloc _, _, _, _, _⟩ :: _) _ _; refine wpl (o := ⟨some 6, .alloc _, _, _, _, _⟩) rfl fun K hK => ?_; go_must (refine op_alloc hs rfl _ zwrite [Value.int .i64 0, .int .i64 0, .int .i64 0, .string ⟨#[]⟩] rfl fun b6 w1 h => hK _ _ ?_); clear hs hK K; have hs := h; clear h; try dsimp only [List.set] at hs)
              | (guard_target = wpList _ _ _ (⟨none, .store _ (.tmp 6) _, _, _, _, _⟩ :: _) _ _; refine wpl (o := ⟨none, .store _ (.tmp 6) _, _, _, _, _⟩) rfl fun K hK => ?_; go_must (refine op_store_whole hs (b := b6) rfl rfl (wC x) rfl (wC_one x) (by kernel_rfl) (k := 0) rfl rfl fun w3 h => hK _ _ ?_); clear hs hK K; have hs := h; clear h; try dsimp only [List.set] at hs)
              | (guard_target = wpList _ _ _ (⟨some 21, .load _ _, _, _, _, _⟩ :: _) _ _; refine wpl (o := ⟨some 21, .load _ _, _, _, _, _⟩) rfl fun K hK => op_load_agg rfl (b := b6) (i := 0) rfl [.int .i64 x.k.kind, .int .i64 x.k.a, .int .i64 x.k.b] (range_pre (ds := [(.string ⟨(x.v).toArray⟩)]) (range_whole hs (show row b6 (wC x) 61 ∈ _ from (by (try dsimp only [List.set]); repeat (first | with_reducible exact List.mem_cons_self | with_reducible apply List.mem_cons_of_mem))))) (by kernel_rfl) (by kernel_rfl) (hK _ _ ?_); clear hK K)
              | (guard_target = wpList _ _ _ (⟨some 23, .load _ _, _, _, _, _⟩ :: _) _ _; refine wpl (o := ⟨some 23, .load _ _, _, _, _, _⟩) rfl fun K hK => op_load rfl (ad := ⟨b3, 0, none⟩) rfl (by kernel_rfl) (hs.cell (l := cmC c (.slice (some ⟨bw, ow, none⟩) c.W.length cw)) (t := 24) (by (try dsimp only [List.set]); repeat (first | with_reducible exact List.mem_cons_self | with_reducible apply List.mem_cons_of_mem)) rfl) (hK _ _ ?_); clear hK K)
              | (guard_target = wpList _ _ _ (⟨some 25, .load _ _, _, _, _, _⟩ :: _) _ _; refine wpl (o := ⟨some 25, .load _ _, _, _, _, _⟩) rfl fun K hK => op_load rfl (ad := ⟨b6, 3, none⟩) rfl (by kernel_rfl) (hs.cell (l := wC x) (t := 61) (by (try dsimp only [List.set]); repeat (first | with_reducible exact List.mem_cons_self | with_reducible apply List.mem_cons_of_mem)) rfl) (hK _ _ ?_); clear hK K)
              | (guard_target = wpList _ _ _ (⟨some 7, .alloc _, _, _, _, _⟩ :: _) _ _; refine wpl (o := ⟨some 7, .alloc _, _, _, _, _⟩) rfl fun K hK => ?_; go_must (refine op_alloc hs rfl _ zcell [Value.int .i64 0, .int .i64 0, .int .i64 0, .int .i64 0, .string ⟨#[]⟩] rfl fun b7 w1 h => hK _ _ ?_); clear hs hK K; have hs := h; clear h; try dsimp only [List.set] at hs)
              | (guard_target = wpList _ _ _ (⟨none, .store _ (.tmp 7) _, _, _, _, _⟩ :: _) _ _; refine wpl (o := ⟨none, .store _ (.tmp 7) _, _, _, _, _⟩) rfl fun K hK => ?_; go_must (refine op_store_whole hs (b := b7) rfl rfl (cC ⟨x.k, c.ts, x.v⟩) rfl (cC_one _) (by kernel_rfl) (k := 0) rfl rfl fun w3 h => hK _ _ ?_); clear hs hK K; have hs := h; clear h; try dsimp only [List.set] at hs)
              | (guard_target = wpList _ _ _ (⟨some 28, .load _ _, _, _, _, _⟩ :: _) _ _; refine wpl (o := ⟨some 28, .load _ _, _, _, _, _⟩) rfl fun K hK => op_load rfl (ad := ⟨b2, 3, none⟩) rfl (by kernel_rfl) (hs.cell (l := rowR s.last s.epoch s.low (.slice (some ⟨bo, 0, none⟩) l.length c')) (t := 43) (by (try dsimp only [List.set]); repeat (first | with_reducible exact List.mem_cons_self | with_reducible apply List.mem_cons_of_mem)) rfl) (hK _ _ ?_); clear hK K)
              | (go_at_call 56; go_must (refine (HI.out _ _ b6 _ hs (show row b6 (wC x) 61 ∈ _ from (by (try dsimp only [List.set]); repeat (first | with_reducible exact List.mem_cons_self | with_reducible apply List.mem_cons_of_mem))) (Has.of (A := own (.slice (some ⟨bo, 0, none⟩) l.length c') 59 l.length 5 (csC l)) (by (try dsimp only [List.set]); repeat (first | with_reducible exact List.mem_cons_self | with_reducible apply List.mem_cons_of_mem)) own_sliceAt)).mono ?_); clear hs; rintro e w1 ⟨rfl, hs⟩))
            have h42 : ∀ w, ap9S b2 (.slice (some ⟨bo, 0, none⟩) l.length c') bo (j * 5) (kC y.k) b6 (kC x.k) w → w.cell? ⟨b2, 3, none⟩ = some (.slice (some ⟨bo, 0, none⟩) l.length c') := fun w h => h.1
            have h46 : ∀ w, ap9S b2 (.slice (some ⟨bo, 0, none⟩) l.length c') bo (j * 5) (kC y.k) b6 (kC x.k) w → w.rangeAt bo (j * 5) (kC y.k) := fun w h => h.2.1
            have h48 : ∀ w, ap9S b2 (.slice (some ⟨bo, 0, none⟩) l.length c') bo (j * 5) (kC y.k) b6 (kC x.k) w → w.rangeAt b6 0 (kC x.k) := fun w h => h.2.2
            have HK9 : ∀ w M, Sat W w M → own (.slice (some ⟨bo, 0, none⟩) l.length c') 59 l.length 5 (csC l) ∈ M → w.rangeAt bo (j * 5) (kC y.k) := fun w M h hM => range_pre (by have := HRY.out w M h hM; rw [Nat.zero_add] at this; exact this)
            have cS9 : ∀ w M, Sat W w M → row b2 (rowR s.last s.epoch s.low (.slice (some ⟨bo, 0, none⟩) l.length c')) 43 ∈ M → own (.slice (some ⟨bo, 0, none⟩) l.length c') 59 l.length 5 (csC l) ∈ M → row b6 (wC x) 61 ∈ M → ap9S b2 (.slice (some ⟨bo, 0, none⟩) l.length c') bo (j * 5) (kC y.k) b6 (kC x.k) w := fun w M h h1 h2 h3 => ⟨h.cell h1 rfl, HK9 w M h h2, range_pre (ds := [(.string ⟨(x.v).toArray⟩)]) (range_whole h h3)⟩
            have h59 : ∀ w, ap11S b2 (.slice (some ⟨bo, 0, none⟩) l.length c') bo (j * 5 + 3) y.ts b3 c.ts w → w.cell? ⟨b2, 3, none⟩ = some (.slice (some ⟨bo, 0, none⟩) l.length c') := fun w h => h.1
            have h63 : ∀ w, ap11S b2 (.slice (some ⟨bo, 0, none⟩) l.length c') bo (j * 5 + 3) y.ts b3 c.ts w → w.cell? ⟨bo, j * 5 + 3, none⟩ = some (.int .i64 y.ts) := fun w h => h.2.1
            have h65 : ∀ w, ap11S b2 (.slice (some ⟨bo, 0, none⟩) l.length c') bo (j * 5 + 3) y.ts b3 c.ts w → w.cell? ⟨b3, 0, none⟩ = some (.int .i64 c.ts) := fun w h => h.2.2
            have HK11 : ∀ w M, Sat W w M → own (.slice (some ⟨bo, 0, none⟩) l.length c') 59 l.length 5 (csC l) ∈ M → w.cell? ⟨bo, j * 5 + 3, none⟩ = some (.int .i64 y.ts) := fun w M h hM => by have := HRY.out w M h hM 3 (.int .i64 y.ts) rfl; rw [Nat.zero_add] at this; exact this
            have cS11 : ∀ w M, Sat W w M → row b2 (rowR s.last s.epoch s.low (.slice (some ⟨bo, 0, none⟩) l.length c')) 43 ∈ M → own (.slice (some ⟨bo, 0, none⟩) l.length c') 59 l.length 5 (csC l) ∈ M → row b3 (cmC c (.slice (some ⟨bw, ow, none⟩) c.W.length cw)) 24 ∈ M → ap11S b2 (.slice (some ⟨bo, 0, none⟩) l.length c') bo (j * 5 + 3) y.ts b3 c.ts w := fun w M h h1 h2 h3 => ⟨h.cell h1 rfl, HK11 w M h h2, h.cell h3 rfl⟩
            have hS0 := cS9 _ _ hs.drew (by (try dsimp only [List.set]); repeat (first | with_reducible exact List.mem_cons_self | with_reducible apply List.mem_cons_of_mem)) (by (try dsimp only [List.set]); repeat (first | with_reducible exact List.mem_cons_self | with_reducible apply List.mem_cons_of_mem)) (by (try dsimp only [List.set]); repeat (first | with_reducible exact List.mem_cons_self | with_reducible apply List.mem_cons_of_mem))
            refine wp_region_tree ((ap9S b2 (.slice (some ⟨bo, 0, none⟩) l.length c') bo (j * 5) (kC y.k) b6 (kC x.k))) (.take 0 (.take 1 (.take 2 (.take 3 (.take 4 (.take 5 (.take 6 (.take 7 (.take 8 (.take 9 (DTree.done))))))))))) (by kernel_rfl) (by kernel_rfl) (by kernel_rfl) (fun _ _ d _ _ h => by cases d <;> exact h) hS0 ?_
            have hs' := hs.drew
            clear hs
            have hs := hs'
            clear hs'
            have hq := fun p : Prop => class_const hS0 p
            clear hS0
            repeat (first
              | (with_reducible refine tree_load (o := ⟨some 42, .load _ _, _, _, _, _⟩) rfl rfl rfl rfl rfl h42 ?_)
              | (with_reducible refine tree_load_agg (o := ⟨some 46, .load _ _, _, _, _, _⟩) (kC y.k) rfl rfl rfl rfl ?_ ?_ h46 ?_; (kernel_rfl); (kernel_rfl))
              | (with_reducible refine tree_load_agg (o := ⟨some 48, .load _ _, _, _, _, _⟩) (kC x.k) rfl rfl rfl rfl ?_ ?_ h48 ?_; (kernel_rfl); (kernel_rfl))
              | (refine tree_take rfl (fun K hK => ?_); go_simp; (first | with_reducible refine hK _ ?_ | (rw [if_neg (by decide)]; with_reducible refine hK _ ?_)); clear hK K))
            refine tree_done ?_
            clear hq
            go_wp2_with fail
            have hS0 := cS11 _ _ hs.drew (by (try dsimp only [List.set]); repeat (first | with_reducible exact List.mem_cons_self | with_reducible apply List.mem_cons_of_mem)) (by (try dsimp only [List.set]); repeat (first | with_reducible exact List.mem_cons_self | with_reducible apply List.mem_cons_of_mem)) (by (try dsimp only [List.set]); repeat (first | with_reducible exact List.mem_cons_self | with_reducible apply List.mem_cons_of_mem))
            refine wp_region_tree ((ap11S b2 (.slice (some ⟨bo, 0, none⟩) l.length c') bo (j * 5 + 3) y.ts b3 c.ts)) (.take 0 (.take 1 (.take 2 (.take 3 (.take 4 (.take 5 (.take 6 (.take 7 (.take 8 (.take 9 (DTree.done))))))))))) (by kernel_rfl) (by kernel_rfl) (by kernel_rfl) (fun _ _ d _ _ h => by cases d <;> exact h) hS0 ?_
            have hs' := hs.drew
            clear hs
            have hs := hs'
            clear hs'
            have hq := fun p : Prop => class_const hS0 p
            clear hS0
            repeat (first
              | (with_reducible refine tree_load (o := ⟨some 59, .load _ _, _, _, _, _⟩) rfl rfl rfl rfl rfl h59 ?_)
              | (with_reducible refine tree_load (o := ⟨some 63, .load _ _, _, _, _, _⟩) rfl rfl rfl rfl rfl h63 ?_)
              | (with_reducible refine tree_load (o := ⟨some 65, .load _ _, _, _, _, _⟩) rfl rfl rfl rfl rfl h65 ?_)
              | (refine tree_take rfl (fun K hK => ?_); go_simp; (first | with_reducible refine hK _ ?_ | (rw [if_neg (by decide)]; with_reducible refine hK _ ?_)); clear hK K))
            refine tree_done ?_
            clear hq
            go_wp2_with (first
              | (guard_target = wpList _ _ _ (⟨some 68, .load _ _, _, _, _, _⟩ :: _) _ _; refine wpl (o := ⟨some 68, .load _ _, _, _, _, _⟩) rfl fun K hK => op_load rfl (ad := ⟨b2, 3, none⟩) rfl (by kernel_rfl) (hs.cell (l := rowR s.last s.epoch s.low (.slice (some ⟨bo, 0, none⟩) l.length c')) (t := 43) (by (try dsimp only [List.set]); repeat (first | with_reducible exact List.mem_cons_self | with_reducible apply List.mem_cons_of_mem)) rfl) (hK _ _ ?_); clear hK K)
              | (guard_target = wpList _ _ _ (⟨some 70, .load _ _, _, _, _, _⟩ :: _) _ _; refine wpl (o := ⟨some 70, .load _ _, _, _, _, _⟩) rfl fun K hK => op_load_agg rfl (b := b7) (i := 0) rfl ((cC ⟨x.k, c.ts, x.v⟩)) (range_whole hs (by (try dsimp only [List.set]); repeat (first | with_reducible exact List.mem_cons_self | with_reducible apply List.mem_cons_of_mem))) (by kernel_rfl) (by kernel_rfl) (hK _ _ ?_); clear hK K)
              | (guard_target = wpList _ _ _ (⟨none, .store _ (.tmp 71) _, _, _, _, _⟩ :: _) _ _; refine wpl (o := ⟨none, .store _ (.tmp 71) _, _, _, _, _⟩) rfl fun K hK => ?_; go_must (refine op_store_own (hs.pick (A := own (.slice (some ⟨bo, 0, none⟩) l.length c') 59 l.length 5 (csC l)) (by repeat (first | with_reducible exact Pick.here | with_reducible apply Pick.there))) rfl (b := bo) (i := j * 5) 0 rfl hpos rfl (cC ⟨x.k, c.ts, x.v⟩) rfl (cC_one _) (by kernel_rfl) (by rw [csC_len, cC_length]; omega) _ (csC_set l j ⟨x.k, c.ts, x.v⟩ hj) fun w7 h => hK _ _ ?_); clear hs hK K; have hs := h; clear h; try dsimp only [List.set] at hs))
            refine ⟨⟨i + 1, (.slice (some ⟨bo, 0, none⟩) l.length c'), by omega, by go_num, ?_⟩, by simp only [intOf]; omega⟩
            rw [HSN.out, List.length_set]
            exact hs.pack (by repeat (first | with_reducible exact Pack.refl | with_reducible exact Pack.nil | with_reducible refine Pack.cons (by repeat (first | with_reducible exact Pick.here | with_reducible apply Pick.there)) ?_ | with_reducible apply Pack.drop))
          · rw [if_pos rfl, if_neg hts] at hsn
            have HSN := Box.mk hsn
            clear hsn
            go_wp2_with (first
              | (guard_target = wpList _ _ _ (⟨some 19, .load _ _, _, _, _, _⟩ :: _) _ _; refine wpl (o := ⟨some 19, .load _ _, _, _, _, _⟩) rfl fun K hK => op_load_agg rfl (b := bw) (i := ow + i * 4) rfl (wC x) hr (by kernel_rfl) (by kernel_rfl) (hK _ _ ?_); clear hK K)
              | (guard_target = wpList _ _ _ (⟨some 6, .alloc _, _, _, _, _⟩ :: _) _ _; refine wpl (o := ⟨some 6, .alloc _, _, _, _, _⟩) rfl fun K hK => ?_; go_must (refine op_alloc hs rfl _ zwrite [Value.int .i64 0, .int .i64 0, .int .i64 0, .string ⟨#[]⟩] rfl fun b6 w1 h => hK _ _ ?_); clear hs hK K; have hs := h; clear h; try dsimp only [List.set] at hs)
              | (guard_target = wpList _ _ _ (⟨none, .store _ (.tmp 6) _, _, _, _, _⟩ :: _) _ _; refine wpl (o := ⟨none, .store _ (.tmp 6) _, _, _, _, _⟩) rfl fun K hK => ?_; go_must (refine op_store_whole hs (b := b6) rfl rfl (wC x) rfl (wC_one x) (by kernel_rfl) (k := 0) rfl rfl fun w3 h => hK _ _ ?_); clear hs hK K; have hs := h; clear h; try dsimp only [List.set] at hs)
              | (guard_target = wpList _ _ _ (⟨some 21, .load _ _, _, _, _, _⟩ :: _) _ _; refine wpl (o := ⟨some 21, .load _ _, _, _, _, _⟩) rfl fun K hK => op_load_agg rfl (b := b6) (i := 0) rfl [.int .i64 x.k.kind, .int .i64 x.k.a, .int .i64 x.k.b] (range_pre (ds := [(.string ⟨(x.v).toArray⟩)]) (range_whole hs (show row b6 (wC x) 61 ∈ _ from (by (try dsimp only [List.set]); repeat (first | with_reducible exact List.mem_cons_self | with_reducible apply List.mem_cons_of_mem))))) (by kernel_rfl) (by kernel_rfl) (hK _ _ ?_); clear hK K)
              | (guard_target = wpList _ _ _ (⟨some 23, .load _ _, _, _, _, _⟩ :: _) _ _; refine wpl (o := ⟨some 23, .load _ _, _, _, _, _⟩) rfl fun K hK => op_load rfl (ad := ⟨b3, 0, none⟩) rfl (by kernel_rfl) (hs.cell (l := cmC c (.slice (some ⟨bw, ow, none⟩) c.W.length cw)) (t := 24) (by (try dsimp only [List.set]); repeat (first | with_reducible exact List.mem_cons_self | with_reducible apply List.mem_cons_of_mem)) rfl) (hK _ _ ?_); clear hK K)
              | (guard_target = wpList _ _ _ (⟨some 25, .load _ _, _, _, _, _⟩ :: _) _ _; refine wpl (o := ⟨some 25, .load _ _, _, _, _, _⟩) rfl fun K hK => op_load rfl (ad := ⟨b6, 3, none⟩) rfl (by kernel_rfl) (hs.cell (l := wC x) (t := 61) (by (try dsimp only [List.set]); repeat (first | with_reducible exact List.mem_cons_self | with_reducible apply List.mem_cons_of_mem)) rfl) (hK _ _ ?_); clear hK K)
              | (guard_target = wpList _ _ _ (⟨some 7, .alloc _, _, _, _, _⟩ :: _) _ _; refine wpl (o := ⟨some 7, .alloc _, _, _, _, _⟩) rfl fun K hK => ?_; go_must (refine op_alloc hs rfl _ zcell [Value.int .i64 0, .int .i64 0, .int .i64 0, .int .i64 0, .string ⟨#[]⟩] rfl fun b7 w1 h => hK _ _ ?_); clear hs hK K; have hs := h; clear h; try dsimp only [List.set] at hs)
              | (guard_target = wpList _ _ _ (⟨none, .store _ (.tmp 7) _, _, _, _, _⟩ :: _) _ _; refine wpl (o := ⟨none, .store _ (.tmp 7) _, _, _, _, _⟩) rfl fun K hK => ?_; go_must (refine op_store_whole hs (b := b7) rfl rfl (cC ⟨x.k, c.ts, x.v⟩) rfl (cC_one _) (by kernel_rfl) (k := 0) rfl rfl fun w3 h => hK _ _ ?_); clear hs hK K; have hs := h; clear h; try dsimp only [List.set] at hs)
              | (guard_target = wpList _ _ _ (⟨some 28, .load _ _, _, _, _, _⟩ :: _) _ _; refine wpl (o := ⟨some 28, .load _ _, _, _, _, _⟩) rfl fun K hK => op_load rfl (ad := ⟨b2, 3, none⟩) rfl (by kernel_rfl) (hs.cell (l := rowR s.last s.epoch s.low (.slice (some ⟨bo, 0, none⟩) l.length c')) (t := 43) (by (try dsimp only [List.set]); repeat (first | with_reducible exact List.mem_cons_self | with_reducible apply List.mem_cons_of_mem)) rfl) (hK _ _ ?_); clear hK K)
              | (go_at_call 56; go_must (refine (HI.out _ _ b6 _ hs (show row b6 (wC x) 61 ∈ _ from (by (try dsimp only [List.set]); repeat (first | with_reducible exact List.mem_cons_self | with_reducible apply List.mem_cons_of_mem))) (Has.of (A := own (.slice (some ⟨bo, 0, none⟩) l.length c') 59 l.length 5 (csC l)) (by (try dsimp only [List.set]); repeat (first | with_reducible exact List.mem_cons_self | with_reducible apply List.mem_cons_of_mem)) own_sliceAt)).mono ?_); clear hs; rintro e w1 ⟨rfl, hs⟩))
            have h42 : ∀ w, ap9S b2 (.slice (some ⟨bo, 0, none⟩) l.length c') bo (j * 5) (kC y.k) b6 (kC x.k) w → w.cell? ⟨b2, 3, none⟩ = some (.slice (some ⟨bo, 0, none⟩) l.length c') := fun w h => h.1
            have h46 : ∀ w, ap9S b2 (.slice (some ⟨bo, 0, none⟩) l.length c') bo (j * 5) (kC y.k) b6 (kC x.k) w → w.rangeAt bo (j * 5) (kC y.k) := fun w h => h.2.1
            have h48 : ∀ w, ap9S b2 (.slice (some ⟨bo, 0, none⟩) l.length c') bo (j * 5) (kC y.k) b6 (kC x.k) w → w.rangeAt b6 0 (kC x.k) := fun w h => h.2.2
            have HK9 : ∀ w M, Sat W w M → own (.slice (some ⟨bo, 0, none⟩) l.length c') 59 l.length 5 (csC l) ∈ M → w.rangeAt bo (j * 5) (kC y.k) := fun w M h hM => range_pre (by have := HRY.out w M h hM; rw [Nat.zero_add] at this; exact this)
            have cS9 : ∀ w M, Sat W w M → row b2 (rowR s.last s.epoch s.low (.slice (some ⟨bo, 0, none⟩) l.length c')) 43 ∈ M → own (.slice (some ⟨bo, 0, none⟩) l.length c') 59 l.length 5 (csC l) ∈ M → row b6 (wC x) 61 ∈ M → ap9S b2 (.slice (some ⟨bo, 0, none⟩) l.length c') bo (j * 5) (kC y.k) b6 (kC x.k) w := fun w M h h1 h2 h3 => ⟨h.cell h1 rfl, HK9 w M h h2, range_pre (ds := [(.string ⟨(x.v).toArray⟩)]) (range_whole h h3)⟩
            have h59 : ∀ w, ap11S b2 (.slice (some ⟨bo, 0, none⟩) l.length c') bo (j * 5 + 3) y.ts b3 c.ts w → w.cell? ⟨b2, 3, none⟩ = some (.slice (some ⟨bo, 0, none⟩) l.length c') := fun w h => h.1
            have h63 : ∀ w, ap11S b2 (.slice (some ⟨bo, 0, none⟩) l.length c') bo (j * 5 + 3) y.ts b3 c.ts w → w.cell? ⟨bo, j * 5 + 3, none⟩ = some (.int .i64 y.ts) := fun w h => h.2.1
            have h65 : ∀ w, ap11S b2 (.slice (some ⟨bo, 0, none⟩) l.length c') bo (j * 5 + 3) y.ts b3 c.ts w → w.cell? ⟨b3, 0, none⟩ = some (.int .i64 c.ts) := fun w h => h.2.2
            have HK11 : ∀ w M, Sat W w M → own (.slice (some ⟨bo, 0, none⟩) l.length c') 59 l.length 5 (csC l) ∈ M → w.cell? ⟨bo, j * 5 + 3, none⟩ = some (.int .i64 y.ts) := fun w M h hM => by have := HRY.out w M h hM 3 (.int .i64 y.ts) rfl; rw [Nat.zero_add] at this; exact this
            have cS11 : ∀ w M, Sat W w M → row b2 (rowR s.last s.epoch s.low (.slice (some ⟨bo, 0, none⟩) l.length c')) 43 ∈ M → own (.slice (some ⟨bo, 0, none⟩) l.length c') 59 l.length 5 (csC l) ∈ M → row b3 (cmC c (.slice (some ⟨bw, ow, none⟩) c.W.length cw)) 24 ∈ M → ap11S b2 (.slice (some ⟨bo, 0, none⟩) l.length c') bo (j * 5 + 3) y.ts b3 c.ts w := fun w M h h1 h2 h3 => ⟨h.cell h1 rfl, HK11 w M h h2, h.cell h3 rfl⟩
            have hS0 := cS9 _ _ hs.drew (by (try dsimp only [List.set]); repeat (first | with_reducible exact List.mem_cons_self | with_reducible apply List.mem_cons_of_mem)) (by (try dsimp only [List.set]); repeat (first | with_reducible exact List.mem_cons_self | with_reducible apply List.mem_cons_of_mem)) (by (try dsimp only [List.set]); repeat (first | with_reducible exact List.mem_cons_self | with_reducible apply List.mem_cons_of_mem))
            refine wp_region_tree ((ap9S b2 (.slice (some ⟨bo, 0, none⟩) l.length c') bo (j * 5) (kC y.k) b6 (kC x.k))) (.take 0 (.take 1 (.take 2 (.take 3 (.take 4 (.take 5 (.take 6 (.take 7 (.take 8 (.take 9 (DTree.done))))))))))) (by kernel_rfl) (by kernel_rfl) (by kernel_rfl) (fun _ _ d _ _ h => by cases d <;> exact h) hS0 ?_
            have hs' := hs.drew
            clear hs
            have hs := hs'
            clear hs'
            have hq := fun p : Prop => class_const hS0 p
            clear hS0
            repeat (first
              | (with_reducible refine tree_load (o := ⟨some 42, .load _ _, _, _, _, _⟩) rfl rfl rfl rfl rfl h42 ?_)
              | (with_reducible refine tree_load_agg (o := ⟨some 46, .load _ _, _, _, _, _⟩) (kC y.k) rfl rfl rfl rfl ?_ ?_ h46 ?_; (kernel_rfl); (kernel_rfl))
              | (with_reducible refine tree_load_agg (o := ⟨some 48, .load _ _, _, _, _, _⟩) (kC x.k) rfl rfl rfl rfl ?_ ?_ h48 ?_; (kernel_rfl); (kernel_rfl))
              | (refine tree_take rfl (fun K hK => ?_); go_simp; (first | with_reducible refine hK _ ?_ | (rw [if_neg (by decide)]; with_reducible refine hK _ ?_)); clear hK K))
            refine tree_done ?_
            clear hq
            go_wp2_with fail
            have hS0 := cS11 _ _ hs.drew (by (try dsimp only [List.set]); repeat (first | with_reducible exact List.mem_cons_self | with_reducible apply List.mem_cons_of_mem)) (by (try dsimp only [List.set]); repeat (first | with_reducible exact List.mem_cons_self | with_reducible apply List.mem_cons_of_mem)) (by (try dsimp only [List.set]); repeat (first | with_reducible exact List.mem_cons_self | with_reducible apply List.mem_cons_of_mem))
            refine wp_region_tree ((ap11S b2 (.slice (some ⟨bo, 0, none⟩) l.length c') bo (j * 5 + 3) y.ts b3 c.ts)) (.take 0 (.take 1 (.take 2 (.take 3 (.take 4 (.take 5 (.take 6 (.take 7 (.take 8 (.take 9 (DTree.done))))))))))) (by kernel_rfl) (by kernel_rfl) (by kernel_rfl) (fun _ _ d _ _ h => by cases d <;> exact h) hS0 ?_
            have hs' := hs.drew
            clear hs
            have hs := hs'
            clear hs'
            have hq := fun p : Prop => class_const hS0 p
            clear hS0
            repeat (first
              | (with_reducible refine tree_load (o := ⟨some 59, .load _ _, _, _, _, _⟩) rfl rfl rfl rfl rfl h59 ?_)
              | (with_reducible refine tree_load (o := ⟨some 63, .load _ _, _, _, _, _⟩) rfl rfl rfl rfl rfl h63 ?_)
              | (with_reducible refine tree_load (o := ⟨some 65, .load _ _, _, _, _, _⟩) rfl rfl rfl rfl rfl h65 ?_)
              | (refine tree_take rfl (fun K hK => ?_); go_simp; (first | with_reducible refine hK _ ?_ | (rw [if_neg (by decide)]; with_reducible refine hK _ ?_)); clear hK K))
            refine tree_done ?_
            clear hq
            go_wp2_with fail
            refine ⟨⟨i + 1, (.slice (some ⟨bo, 0, none⟩) l.length c'), by omega, by go_num, ?_⟩, by simp only [intOf]; omega⟩
            rw [HSN.out]
            exact hs.pack (by repeat (first | with_reducible exact Pack.refl | with_reducible exact Pack.nil | with_reducible refine Pack.cons (by repeat (first | with_reducible exact Pick.here | with_reducible apply Pick.there)) ?_ | with_reducible apply Pack.drop))
      · rw [if_neg hj] at HI
        rw [putK_new (by rw [hj0]; exact hj)] at hsn
        obtain ⟨A', c', rfl, _, _⟩ := own_slice hs (i := 1) rfl
        have HSN := Box.mk hsn
        clear hsn hj hj0
        go_wp2_with (first
          | (guard_target = wpList _ _ _ (⟨some 19, .load _ _, _, _, _, _⟩ :: _) _ _; refine wpl (o := ⟨some 19, .load _ _, _, _, _, _⟩) rfl fun K hK => op_load_agg rfl (b := bw) (i := ow + i * 4) rfl (wC x) hr (by kernel_rfl) (by kernel_rfl) (hK _ _ ?_); clear hK K)
          | (guard_target = wpList _ _ _ (⟨some 6, .alloc _, _, _, _, _⟩ :: _) _ _; refine wpl (o := ⟨some 6, .alloc _, _, _, _, _⟩) rfl fun K hK => ?_; go_must (refine op_alloc hs rfl _ zwrite [Value.int .i64 0, .int .i64 0, .int .i64 0, .string ⟨#[]⟩] rfl fun b6 w1 h => hK _ _ ?_); clear hs hK K; have hs := h; clear h; try dsimp only [List.set] at hs)
          | (guard_target = wpList _ _ _ (⟨none, .store _ (.tmp 6) _, _, _, _, _⟩ :: _) _ _; refine wpl (o := ⟨none, .store _ (.tmp 6) _, _, _, _, _⟩) rfl fun K hK => ?_; go_must (refine op_store_whole hs (b := b6) rfl rfl (wC x) rfl (wC_one x) (by kernel_rfl) (k := 0) rfl rfl fun w3 h => hK _ _ ?_); clear hs hK K; have hs := h; clear h; try dsimp only [List.set] at hs)
          | (guard_target = wpList _ _ _ (⟨some 21, .load _ _, _, _, _, _⟩ :: _) _ _; refine wpl (o := ⟨some 21, .load _ _, _, _, _, _⟩) rfl fun K hK => op_load_agg rfl (b := b6) (i := 0) rfl [.int .i64 x.k.kind, .int .i64 x.k.a, .int .i64 x.k.b] (range_pre (ds := [(.string ⟨(x.v).toArray⟩)]) (range_whole hs (show row b6 (wC x) 61 ∈ _ from (by (try dsimp only [List.set]); repeat (first | with_reducible exact List.mem_cons_self | with_reducible apply List.mem_cons_of_mem))))) (by kernel_rfl) (by kernel_rfl) (hK _ _ ?_); clear hK K)
          | (guard_target = wpList _ _ _ (⟨some 23, .load _ _, _, _, _, _⟩ :: _) _ _; refine wpl (o := ⟨some 23, .load _ _, _, _, _, _⟩) rfl fun K hK => op_load rfl (ad := ⟨b3, 0, none⟩) rfl (by kernel_rfl) (hs.cell (l := cmC c (.slice (some ⟨bw, ow, none⟩) c.W.length cw)) (t := 24) (by (try dsimp only [List.set]); repeat (first | with_reducible exact List.mem_cons_self | with_reducible apply List.mem_cons_of_mem)) rfl) (hK _ _ ?_); clear hK K)
          | (guard_target = wpList _ _ _ (⟨some 25, .load _ _, _, _, _, _⟩ :: _) _ _; refine wpl (o := ⟨some 25, .load _ _, _, _, _, _⟩) rfl fun K hK => op_load rfl (ad := ⟨b6, 3, none⟩) rfl (by kernel_rfl) (hs.cell (l := wC x) (t := 61) (by (try dsimp only [List.set]); repeat (first | with_reducible exact List.mem_cons_self | with_reducible apply List.mem_cons_of_mem)) rfl) (hK _ _ ?_); clear hK K)
          | (guard_target = wpList _ _ _ (⟨some 7, .alloc _, _, _, _, _⟩ :: _) _ _; refine wpl (o := ⟨some 7, .alloc _, _, _, _, _⟩) rfl fun K hK => ?_; go_must (refine op_alloc hs rfl _ zcell [Value.int .i64 0, .int .i64 0, .int .i64 0, .int .i64 0, .string ⟨#[]⟩] rfl fun b7 w1 h => hK _ _ ?_); clear hs hK K; have hs := h; clear h; try dsimp only [List.set] at hs)
          | (guard_target = wpList _ _ _ (⟨none, .store _ (.tmp 7) _, _, _, _, _⟩ :: _) _ _; refine wpl (o := ⟨none, .store _ (.tmp 7) _, _, _, _, _⟩) rfl fun K hK => ?_; go_must (refine op_store_whole hs (b := b7) rfl rfl (cC ⟨x.k, c.ts, x.v⟩) rfl (cC_one _) (by kernel_rfl) (k := 0) rfl rfl fun w3 h => hK _ _ ?_); clear hs hK K; have hs := h; clear h; try dsimp only [List.set] at hs)
          | (guard_target = wpList _ _ _ (⟨some 28, .load _ _, _, _, _, _⟩ :: _) _ _; refine wpl (o := ⟨some 28, .load _ _, _, _, _, _⟩) rfl fun K hK => op_load rfl (ad := ⟨b2, 3, none⟩) rfl (by kernel_rfl) (hs.cell (l := rowR s.last s.epoch s.low (.slice A' l.length c')) (t := 43) (by (try dsimp only [List.set]); repeat (first | with_reducible exact List.mem_cons_self | with_reducible apply List.mem_cons_of_mem)) rfl) (hK _ _ ?_); clear hK K)
          | (go_at_call 56; go_must (refine (HI.out _ _ b6 _ hs (show row b6 (wC x) 61 ∈ _ from (by (try dsimp only [List.set]); repeat (first | with_reducible exact List.mem_cons_self | with_reducible apply List.mem_cons_of_mem))) (Has.of (A := own (.slice A' l.length c') 59 l.length 5 (csC l)) (by (try dsimp only [List.set]); repeat (first | with_reducible exact List.mem_cons_self | with_reducible apply List.mem_cons_of_mem)) own_sliceAt)).mono ?_); clear hs; rintro e w1 ⟨rfl, hs⟩)
          | (guard_target = wpList _ _ _ (⟨some 35, .load _ _, _, _, _, _⟩ :: _) _ _; refine wpl (o := ⟨some 35, .load _ _, _, _, _, _⟩) rfl fun K hK => op_load rfl (ad := ⟨b2, 3, none⟩) rfl (by kernel_rfl) (hs.cell (l := rowR s.last s.epoch s.low (.slice A' l.length c')) (t := 43) (by (try dsimp only [List.set]); repeat (first | with_reducible exact List.mem_cons_self | with_reducible apply List.mem_cons_of_mem)) rfl) (hK _ _ ?_); clear hK K)
          | (guard_target = wpList _ _ _ (⟨some 36, .load _ _, _, _, _, _⟩ :: _) _ _; refine wpl (o := ⟨some 36, .load _ _, _, _, _, _⟩) rfl fun K hK => op_load_agg rfl (b := b7) (i := 0) rfl ((cC ⟨x.k, c.ts, x.v⟩)) (range_whole hs (by (try dsimp only [List.set]); repeat (first | with_reducible exact List.mem_cons_self | with_reducible apply List.mem_cons_of_mem))) (by kernel_rfl) (by kernel_rfl) (hK _ _ ?_); clear hK K)
          | (guard_target = wpList _ _ _ (⟨some 37, .buildSlice _ _ _, _, _, _, _⟩ :: _) _ _; refine wpl (o := ⟨some 37, .buildSlice _ _ _, _, _, _, _⟩) rfl fun K hK => ?_; go_must (refine op_lit_agg1 hs rfl Tryd.underlying41 info_cell (cC ⟨x.k, c.ts, x.v⟩) rfl rfl (by omega) (by omega) fun b37 w1 h => hK _ _ ?_); clear hs hK K; have hs := h; clear h; try dsimp only [List.set] at hs)
          | (guard_target = wpList _ _ _ (⟨some 38, .call _, _, _, _, _⟩ :: _) _ _; refine wpl (o := ⟨some 38, .call _, _, _, _, _⟩) rfl fun K hK => ?_; go_must (refine op_append (hs.pick (A := own (.slice A' l.length c') 59 l.length 5 (csC l)) (by repeat (first | with_reducible exact Pick.here | with_reducible apply Pick.there))) rfl Tryd.underlying41 Tryd.underlying41 info_cell rfl (by omega) (k := 0) rfl rfl rfl (Has.of (A := row b37 (cC ⟨x.k, c.ts, x.v⟩) 59) (by (try dsimp only [List.set]); repeat (first | with_reducible exact List.mem_cons_self | with_reducible apply List.mem_cons_of_mem)) fun F hF => own_sliceAt F (own_exact (n := 1) (sz := 5) rfl (by omega) F hF)) (cC_one _) (by omega) (by omega) fun v38 w2 h => hK _ _ ?_); clear hs hK K; have hs := h; clear h; try dsimp only [List.set] at hs
             obtain ⟨A38, c38, rfl, _, _⟩ := own_slice hs (i := 0) rfl)
          | (guard_target = wpList _ _ _ (⟨none, .store _ (.tmp 39) _, _, _, _, _⟩ :: _) _ _; refine wpl (o := ⟨none, .store _ (.tmp 39) _, _, _, _, _⟩) rfl fun K hK => ?_; go_must (refine op_store (hs.pick (A := row b2 (rowR s.last s.epoch s.low (.slice A' l.length c')) 43) (by repeat (first | with_reducible exact Pick.here | with_reducible apply Pick.there))) rfl (b := b2) (i := 3) (v := .slice A38 (l.length + 1) c38) rfl rfl rfl (by kernel_rfl) (k := 0) rfl (by simp [rowR]) fun w7 h => hK _ _ ?_); clear hs hK K; have hs := h; clear h; change Sat W _ (row b2 (rowR s.last s.epoch s.low (.slice A38 (l.length + 1) c38)) 43 :: _) at hs))
        refine ⟨⟨i + 1, .slice A38 (l.length + 1) c38, by omega, by go_num, ?_⟩, by simp only [intOf]; omega⟩
        rw [HSN.out, List.length_append, List.length_singleton, csC_snoc]
        exact hs.pack (by repeat (first | with_reducible exact Pack.refl | with_reducible exact Pack.nil | with_reducible refine Pack.cons (by repeat (first | with_reducible exact Pick.here | with_reducible apply Pick.there)) ?_ | with_reducible apply Pack.drop))
    · have hltI : ¬ (i : Int) < (c.W.length : Int) := by omega
      have hin : i = c.W.length := by omega
      subst hin
      rw [List.take_length] at hs
      generalize hl : applyL s.L c.ts c.W = l at hs
      obtain ⟨A', c', rfl, _, _⟩ := own_slice hs (i := 1) rfl
      have hRl : R = ⟨max s.last c.ts, s.epoch, s.low, l⟩ := by rw [← hR.out, applyR, hl]
      subst hRl
      clear hl hR
      go_wp2_with (first
        | (guard_target = wpList _ _ _ (⟨some 74, .load _ _, _, _, _, _⟩ :: _) _ _; refine wpl (o := ⟨some 74, .load _ _, _, _, _, _⟩) rfl fun K hK => op_load rfl (ad := ⟨b2, 0, none⟩) rfl (by kernel_rfl) (hs.cell (l := rowR s.last s.epoch s.low (.slice A' l.length c')) (t := 43) (by (try dsimp only [List.set]); repeat (first | with_reducible exact List.mem_cons_self | with_reducible apply List.mem_cons_of_mem)) rfl) (hK _ _ ?_); clear hK K)
        | (guard_target = wpList _ _ _ (⟨some 76, .load _ _, _, _, _, _⟩ :: _) _ _; refine wpl (o := ⟨some 76, .load _ _, _, _, _, _⟩) rfl fun K hK => op_load rfl (ad := ⟨b3, 0, none⟩) rfl (by kernel_rfl) (hs.cell (l := cmC c (.slice Aw c.W.length cw)) (t := 24) (by (try dsimp only [List.set]); repeat (first | with_reducible exact List.mem_cons_self | with_reducible apply List.mem_cons_of_mem)) rfl) (hK _ _ ?_); clear hK K)
        | (guard_target = wpList _ _ _ (⟨none, .store _ (.tmp 78) _, _, _, _, _⟩ :: _) _ _; refine wpl (o := ⟨none, .store _ (.tmp 78) _, _, _, _, _⟩) rfl fun K hK => ?_; go_must (refine op_store (hs.pick (A := row b2 (rowR s.last s.epoch s.low (.slice A' l.length c')) 43) (by repeat (first | with_reducible exact Pick.here | with_reducible apply Pick.there))) rfl (b := b2) (i := 0) (v := .int .i64 (max s.last c.ts)) rfl rfl rfl (by kernel_rfl) (k := 0) rfl (by simp [rowR]) fun w7 h => hK _ _ ?_); clear hs hK K; have hs := h; clear h; change Sat W _ (row b2 (rowR (max s.last c.ts) s.epoch s.low (.slice A' l.length c')) 43 :: _) at hs)
        | (guard_target = wpList _ _ _ (⟨some 79, .load _ _, _, _, _, _⟩ :: _) _ _; refine wpl (o := ⟨some 79, .load _ _, _, _, _, _⟩) rfl fun K hK => op_load_agg rfl (b := b2) (i := 0) rfl ((rowR (max s.last c.ts) s.epoch s.low (.slice A' l.length c'))) (range_whole hs (by (try dsimp only [List.set]); repeat (first | with_reducible exact List.mem_cons_self | with_reducible apply List.mem_cons_of_mem))) (by kernel_rfl) (by kernel_rfl) (hK _ _ ?_); clear hK K)
        | (guard_target = wpList _ _ _ (⟨none, .store _ (.tmp 4) _, _, _, _, _⟩ :: _) _ _; refine wpl (o := ⟨none, .store _ (.tmp 4) _, _, _, _, _⟩) rfl fun K hK => ?_; go_must (refine op_store_whole (hs.pick (A := row b4 [Value.int .i64 0, .int .u32 0, .int .u32 0, .slice none 0 0] 43) (by repeat (first | with_reducible exact Pick.here | with_reducible apply Pick.there))) (b := b4) rfl rfl (rowR (max s.last c.ts) s.epoch s.low (.slice A' l.length c')) rfl (by simp [rowR, Value.oneCell']) (by kernel_rfl) (k := 0) rfl rfl fun w9 h => hK _ _ ?_); clear hs hK K; have hs := h; clear h; dsimp only [List.set] at hs))
      exact bodyPost_ret (run_results_cell rfl (b := b4) rfl (rowR (max s.last c.ts) s.epoch s.low (.slice A' l.length c')) (range_whole hs m0) (by kernel_rfl) (by kernel_rfl)) rfl ⟨.slice A' l.length c', rfl, hs.pack (by repeat (first | with_reducible exact Pack.refl | with_reducible exact Pack.nil | with_reducible refine Pack.cons (by repeat (first | with_reducible exact Pick.here | with_reducible apply Pick.there)) ?_ | with_reducible apply Pack.drop))⟩
end Go.Proofs.YthjnefpnnifjiaaDoor
