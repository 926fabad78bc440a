/- ogiveref20.Apply and Same. -/
import Derived.Test.YthjnefpnnifjiaaDoorRdOne
set_option linter.unusedVariables false
set_option linter.unusedSimpArgs false
namespace Go.Proofs.YthjnefpnnifjiaaDoor
open Go.RowKit
theorem zrcell : (Tryd.prog.info? 107).bind (·.zero) = some (.agg [Value.int .i64 0, .int .i64 0, .int .i64 0, .int .i64 0, .string ⟨#[]⟩].toArray) := by kernel_rfl
def rapS (b3 : Nat) (vw : Value) (bw o : Nat) (x : RWr) (t : Int) (w : World) : Prop := w.cell? ⟨b3, 1, none⟩ = some vw ∧ w.cell? ⟨b3, 0, none⟩ = some (.int .i64 t) ∧ w.rangeAt bw o (wC x)
def rapPost (s : RSt) (W : World) (L : List HP) (e : Ending) (w' : World) : Prop := ∃ v', e = .returned (.agg (stC s v').toArray) ∧ ∃ M, Has (M ++ L) (sliceAt v' s.L.length 5 (csC s.L)) ∧ Sat W w' (M ++ L)
set_option maxRecDepth 100000 in
set_option maxHeartbeats 16000000 in
theorem rapply_spec (W w : World) (L : List HP) (hs : Sat W w L) (s : RSt) (c : RCm) (vs vw : Value) (hvs : Has L (sliceAt vs s.L.length 5 (csC s.L))) (hvw : Has L (sliceAt vw c.W.length 4 (wsC c.W))) (hn : s.L.length + c.W.length ≤ 900000) :
    Calls Tryd.prog 20 #[.agg (stC s vs).toArray, .agg (cmC c vw).toArray] w (rapPost (applyR s c) W L) := by
  obtain ⟨As, cs, rfl, _, _⟩ := slice_form (hs.slice hvs)
  obtain ⟨Aw, cw, rfl, _, _⟩ := slice_form (hs.slice hvw)
  have HV := Box.mk hvs
  have HW := Box.mk hvw
  have hzc := run_zero (P := Tryd.prog) zrcell
  obtain ⟨R, hR0⟩ : ∃ R, applyR s c = R := ⟨_, rfl⟩
  rw [hR0]
  have hR := Box.mk hR0
  clear hvs hvw hR0
  unfold rapPost
  go_enter Tryd.func20, Tryd.ntmps20
  go_wp2_with (first
    | (guard_target = wpList _ _ _ (⟨some 2, .box _ _, _, _, _, _⟩ :: _) _ _; refine wpl (o := ⟨some 2, .box _ _, _, _, _, _⟩) rfl fun K hK => ?_; go_must (refine op_box hs rfl _ rfl (stC s (.slice As s.L.length cs)) rfl fun b2 w1 h => hK _ _ ?_); clear hs hK K; have hs := h; clear h; try dsimp only [List.set] at hs)
    | (guard_target = wpList _ _ _ (⟨some 3, .box _ _, _, _, _, _⟩ :: _) _ _; refine wpl (o := ⟨some 3, .box _ _, _, _, _, _⟩) rfl fun K hK => ?_; go_must (refine op_box hs rfl _ rfl (cmC c (.slice Aw c.W.length cw)) rfl fun b3 w1 h => hK _ _ ?_); clear hs hK K; have hs := h; clear h; try dsimp only [List.set] at hs)
    | (guard_target = wpList _ _ _ (⟨some 4, .alloc _, _, _, _, _⟩ :: _) _ _; refine wpl (o := ⟨some 4, .alloc _, _, _, _, _⟩) rfl fun K hK => ?_; go_must (refine op_alloc hs rfl _ zrstate [Value.int .i64 0, .int .u32 0, .int .u32 0, .slice none 0 0] rfl fun b4 w1 h => hK _ _ ?_); clear hs hK K; have hs := h; clear h; try dsimp only [List.set] at hs))
  go_loopw [5] (fun v5 wr => ∃ (i : Nat) (v' : Value) (M : List HP), i ≤ c.W.length ∧ v5 = .int .i64 (i : Nat) ∧ Box (Has (M ++ L) (sliceAt v' (applyL s.L c.ts (c.W.take i)).length 5 (csC (applyL s.L c.ts (c.W.take i))))) ∧ Sat W wr (row b2 (rowR s.last s.epoch s.low v') 39 :: row b3 (cmC c (.slice Aw c.W.length cw)) 24 :: row b4 [Value.int .i64 0, .int .u32 0, .int .u32 0, .slice none 0 0] 39 :: (M ++ L))) (fun v5 _ => c.W.length - (intOf v5).toNat)
  case atStart => exact ⟨0, .slice As s.L.length cs, [], by omega, rfl, HV, hs.pack (L := row b2 (stC s (.slice As s.L.length cs)) 39 :: row b3 (cmC c (.slice Aw c.W.length cw)) 24 :: row b4 [Value.int .i64 0, .int .u32 0, .int .u32 0, .slice none 0 0] 39 :: L) (by repeat (first | with_reducible exact Pack.refl | with_reducible exact Pack.nil | with_reducible refine Pack.cons (by repeat (first | with_reducible exact Pick.here | with_reducible apply Pick.there)) ?_ | with_reducible apply Pack.drop))⟩
  case round =>
    clear hs
    obtain ⟨i, v', M, hi, rfl, HM, hs⟩ := hrel
    by_cases hlt : i < c.W.length
    · have hltI : (i : Int) < (c.W.length : Int) := by omega
      have hwi : IntKind.i64.wrap ((i : Int) + 1) = (i : Int) + 1 := by rw [IntKind.wrap_i64]; omega
      have hW2 : Has (M ++ L) (sliceAt (.slice Aw c.W.length cw) c.W.length 4 (wsC c.W)) := HW.out.app
      have HW2 := Box.mk hW2
      clear hW2
      obtain ⟨bw, ow, cw', e⟩ := slice_part wC 4 wC_length (by omega) hs (show Has _ (sliceAt (.slice Aw c.W.length cw) c.W.length 4 (wsC c.W)) from (by (try dsimp only [List.set]); repeat (first | exact HW2.out | apply Has.tail))) (by omega)
      cases e
      have hrw := fun w (M2 : List HP) (h : Sat W w M2) (hM : Has M2 (sliceAt (.slice (some ⟨bw, ow, none⟩) c.W.length cw) c.W.length 4 (wsC c.W))) => slice_range wC 4 wC_length h hM i hlt
      have hall := applyL_len s.L c.ts c.W i hi
      have hsn := applyL_snoc s.L c.ts c.W i hlt
      generalize applyL s.L c.ts (c.W.take i) = l at HM hall hsn
      generalize c.W[i] = x at hrw hsn
      have hln : l.length ≤ 900000 := by omega
      have HSN := Box.mk hsn
      have HRW := Box.mk hrw
      clear hall hsn hrw
      obtain ⟨As, cs, rfl, _, _⟩ := slice_form (hs.slice (show Has _ (sliceAt v' l.length 5 (csC l)) from (by (try dsimp only [List.set]); repeat (first | exact HM.out | apply Has.tail))))
      have HO := Box.mk (fun w (L : List HP) hs hv => one_spec W w L hs (.slice As l.length cs) l ⟨x.k, c.ts, x.v⟩ hv (by omega))
      rw [oneL_eq] at HO
      have cS : ∀ w M2, Sat W w M2 → row b3 (cmC c (.slice (some ⟨bw, ow, none⟩) c.W.length cw)) 24 ∈ M2 → Has M2 (sliceAt (.slice (some ⟨bw, ow, none⟩) c.W.length cw) c.W.length 4 (wsC c.W)) → (rapS b3 (.slice (some ⟨bw, ow, none⟩) c.W.length cw) bw (ow + i * 4) x c.ts) w := fun w M2 h h2 h3 => ⟨h.cell h2 rfl, h.cell h2 rfl, HRW.out w M2 h h3⟩
      have h16 : ∀ w, (rapS b3 (.slice (some ⟨bw, ow, none⟩) c.W.length cw) bw (ow + i * 4) x c.ts) w → w.cell? ⟨b3, 1, none⟩ = some (.slice (some ⟨bw, ow, none⟩) c.W.length cw) := fun w h => h.1
      have h22 : ∀ w, (rapS b3 (.slice (some ⟨bw, ow, none⟩) c.W.length cw) bw (ow + i * 4) x c.ts) w → w.cell? ⟨b3, 0, none⟩ = some (.int .i64 c.ts) := fun w h => h.2.1
      have h20 : ∀ w, (rapS b3 (.slice (some ⟨bw, ow, none⟩) c.W.length cw) bw (ow + i * 4) x c.ts) w → w.rangeAt bw (ow + i * 4) [.int .i64 x.k.kind, .int .i64 x.k.a, .int .i64 x.k.b] := fun w h => range_pre (ds := [(.string ⟨(x.v).toArray⟩)]) h.2.2
      have h28 : ∀ w, (rapS b3 (.slice (some ⟨bw, ow, none⟩) c.W.length cw) bw (ow + i * 4) x c.ts) w → w.cell? ⟨bw, ow + i * 4 + 3, none⟩ = some (.string ⟨(x.v).toArray⟩) := fun w h => h.2.2 3 _ rfl
      go_wp2_with (first
        | (guard_target = wpList _ _ _ (⟨some 8, .load _ _, _, _, _, _⟩ :: _) _ _; refine wpl (o := ⟨some 8, .load _ _, _, _, _, _⟩) rfl fun K hK => op_load rfl (ad := ⟨b3, 1, none⟩) rfl (by kernel_rfl) (hs.cell (l := cmC c (.slice (some ⟨bw, ow, none⟩) c.W.length cw)) (t := 24) (by (try dsimp only [List.set]); repeat (first | with_reducible exact List.mem_cons_self | with_reducible apply List.mem_cons_of_mem)) rfl) (hK _ _ ?_); clear hK K))
      have hS0 := cS _ _ hs.drew (by (try dsimp only [List.set]); repeat (first | with_reducible exact List.mem_cons_self | with_reducible apply List.mem_cons_of_mem)) (show Has _ (sliceAt (.slice (some ⟨bw, ow, none⟩) c.W.length cw) c.W.length 4 (wsC c.W)) from (by (try dsimp only [List.set]); repeat (first | exact HW2.out | apply Has.tail)))
      refine wp_region_tree ((rapS b3 (.slice (some ⟨bw, ow, none⟩) c.W.length cw) bw (ow + i * 4) x c.ts)) (.take 0 (.take 2 (.take 3 (.take 4 (.take 5 (.take 6 (.take 7 (.take 8 (.take 9 (.take 10 (.take 11 (.take 12 (.take 13 (.take 14 (.take 15 (.take 16 (.all [(1, .all [(17, .take 18 (.all [(19, DTree.done)]))])]))))))))))))))))) (by kernel_rfl) (by kernel_rfl) (by kernel_rfl) (fun _ _ d _ _ h => by cases d <;> exact h) hS0 ?_
      have hs' := hs.drew
      clear hs
      have hs := hs'
      clear hs'
      have hq := fun p : Prop => class_const hS0 p
      clear hS0
      repeat (first
        | (with_reducible refine tree_load (o := ⟨some 16, .load _ _, _, _, _, _⟩) rfl rfl rfl rfl rfl h16 ?_)
        | (with_reducible refine tree_load_agg (o := ⟨some 20, .load _ _, _, _, _, _⟩) [.int .i64 x.k.kind, .int .i64 x.k.a, .int .i64 x.k.b] rfl rfl rfl rfl ?_ ?_ h20 ?_; (kernel_rfl); (kernel_rfl))
        | (with_reducible refine tree_load (o := ⟨some 22, .load _ _, _, _, _, _⟩) rfl rfl rfl rfl rfl h22 ?_)
        | (with_reducible refine tree_load (o := ⟨some 24, .load _ _, _, _, _, _⟩) rfl rfl rfl rfl rfl h16 ?_)
        | (with_reducible refine tree_load (o := ⟨some 28, .load _ _, _, _, _, _⟩) rfl rfl rfl rfl rfl h28 ?_)
        | (refine tree_take rfl (fun K hK => ?_); go_simp; (first | with_reducible refine hK _ ?_ | (rw [if_neg (by decide)]; with_reducible refine hK _ ?_)); clear hK K))
      refine tree_one_yes (o := _) rfl rfl (fun K hK => ?_) (cS _ _ hs (by (try dsimp only [List.set]); repeat (first | with_reducible exact List.mem_cons_self | with_reducible apply List.mem_cons_of_mem)) (show Has _ (sliceAt (.slice (some ⟨bw, ow, none⟩) c.W.length cw) c.W.length 4 (wsC c.W)) from (by (try dsimp only [List.set]); repeat (first | exact HW2.out | apply Has.tail))))
      refine op_load rfl (ad := ⟨b2, 3, none⟩) rfl (by kernel_rfl) (hs.cell (l := rowR s.last s.epoch s.low (.slice As l.length cs)) (t := 39) (by (try dsimp only [List.set]); repeat (first | with_reducible exact List.mem_cons_self | with_reducible apply List.mem_cons_of_mem)) rfl) (hK _ _ (cS _ _ hs (by (try dsimp only [List.set]); repeat (first | with_reducible exact List.mem_cons_self | with_reducible apply List.mem_cons_of_mem)) (show Has _ (sliceAt (.slice (some ⟨bw, ow, none⟩) c.W.length cw) c.W.length 4 (wsC c.W)) from (by (try dsimp only [List.set]); repeat (first | exact HW2.out | apply Has.tail)))) ?_)
      clear hK K
      try go_simp
      refine tree_one_yes (o := _) rfl rfl (fun K hK => ?_) (cS _ _ hs (by (try dsimp only [List.set]); repeat (first | with_reducible exact List.mem_cons_self | with_reducible apply List.mem_cons_of_mem)) (show Has _ (sliceAt (.slice (some ⟨bw, ow, none⟩) c.W.length cw) c.W.length 4 (wsC c.W)) from (by (try dsimp only [List.set]); repeat (first | exact HW2.out | apply Has.tail))))
      try go_simp
      go_at_call 60
      refine (HO.out _ _ hs (show Has _ (sliceAt (.slice As l.length cs) l.length 5 (csC l)) from (by (try dsimp only [List.set]); repeat (first | exact HM.out | apply Has.tail)))).mono ?_
      clear hs
      rintro e w5 ⟨v30, rfl, hs⟩
      obtain ⟨A30, c30, rfl, _, _⟩ := own_slice hs (i := 0) rfl
      try go_simp
      refine hK _ _ (cS _ _ hs (by (try dsimp only [List.set]); repeat (first | with_reducible exact List.mem_cons_self | with_reducible apply List.mem_cons_of_mem)) (show Has _ (sliceAt (.slice (some ⟨bw, ow, none⟩) c.W.length cw) c.W.length 4 (wsC c.W)) from (by (try dsimp only [List.set]); repeat (first | exact HW2.out | apply Has.tail)))) ?_
      clear hK K
      repeat (first
        | (with_reducible refine tree_load (o := ⟨some 16, .load _ _, _, _, _, _⟩) rfl rfl rfl rfl rfl h16 ?_)
        | (with_reducible refine tree_load_agg (o := ⟨some 20, .load _ _, _, _, _, _⟩) [.int .i64 x.k.kind, .int .i64 x.k.a, .int .i64 x.k.b] rfl rfl rfl rfl ?_ ?_ h20 ?_; (kernel_rfl); (kernel_rfl))
        | (with_reducible refine tree_load (o := ⟨some 22, .load _ _, _, _, _, _⟩) rfl rfl rfl rfl rfl h22 ?_)
        | (with_reducible refine tree_load (o := ⟨some 24, .load _ _, _, _, _, _⟩) rfl rfl rfl rfl rfl h16 ?_)
        | (with_reducible refine tree_load (o := ⟨some 28, .load _ _, _, _, _, _⟩) rfl rfl rfl rfl rfl h28 ?_)
        | (refine tree_take rfl (fun K hK => ?_); go_simp; (first | with_reducible refine hK _ ?_ | (rw [if_neg (by decide)]; with_reducible refine hK _ ?_)); clear hK K))
      refine tree_one_yes (o := _) rfl rfl (fun K hK => ?_) (cS _ _ hs (by (try dsimp only [List.set]); repeat (first | with_reducible exact List.mem_cons_self | with_reducible apply List.mem_cons_of_mem)) (show Has _ (sliceAt (.slice (some ⟨bw, ow, none⟩) c.W.length cw) c.W.length 4 (wsC c.W)) from (by (try dsimp only [List.set]); repeat (first | exact HW2.out | apply Has.tail))))
      refine op_store (hs.pick (A := row b2 (rowR s.last s.epoch s.low (.slice As l.length cs)) 39) (by repeat (first | with_reducible exact Pick.here | with_reducible apply Pick.there))) rfl (b := b2) (i := 3) (v := .slice A30 (putK l ⟨x.k, c.ts, x.v⟩).length c30) rfl rfl rfl (by kernel_rfl) (k := 0) rfl (by simp [rowR]) fun w7 h => hK _ _ (cS _ _ h (by (try dsimp only [List.set]); repeat (first | with_reducible exact List.mem_cons_self | with_reducible apply List.mem_cons_of_mem)) (show Has _ (sliceAt (.slice (some ⟨bw, ow, none⟩) c.W.length cw) c.W.length 4 (wsC c.W)) from (by (try dsimp only [List.set]); repeat (first | exact HW2.out | apply Has.tail)))) ?_
      clear hs hK K
      have hs := h
      clear h
      try dsimp only [List.set] at hs
      change Sat W _ (row b2 (rowR s.last s.epoch s.low (.slice A30 (putK l ⟨x.k, c.ts, x.v⟩).length c30)) 39 :: _) at hs
      try go_simp
      refine tree_done ?_
      clear hq
      go_wp2_with fail
      refine ⟨⟨i + 1, .slice A30 (putK l ⟨x.k, c.ts, x.v⟩).length c30, own (.slice A30 (putK l ⟨x.k, c.ts, x.v⟩).length c30) 107 (putK l ⟨x.k, c.ts, x.v⟩).length 5 (csC (putK l ⟨x.k, c.ts, x.v⟩)) :: M, by omega, by go_num, ⟨?_⟩, ?_⟩, by simp only [intOf]; omega⟩
      · rw [HSN.out]
        exact Has.head own_sliceAt
      · exact hs.pack (L := row b2 (rowR s.last s.epoch s.low (.slice A30 (putK l ⟨x.k, c.ts, x.v⟩).length c30)) 39 :: row b3 (cmC c (.slice (some ⟨bw, ow, none⟩) c.W.length cw)) 24 :: row b4 [Value.int .i64 0, .int .u32 0, .int .u32 0, .slice none 0 0] 39 :: own (.slice A30 (putK l ⟨x.k, c.ts, x.v⟩).length c30) 107 (putK l ⟨x.k, c.ts, x.v⟩).length 5 (csC (putK l ⟨x.k, c.ts, x.v⟩)) :: (M ++ L)) (by repeat (first | with_reducible exact Pack.refl | with_reducible exact Pack.nil | with_reducible refine Pack.cons (by repeat (first | with_reducible exact Pick.here | with_reducible apply Pick.there)) ?_ | with_reducible apply Pack.drop))
    · have hltI : ¬ (i : Int) < (c.W.length : Int) := by omega
      have hin : i = c.W.length := by omega
      subst hin
      rw [List.take_length] at HM
      generalize hl : applyL s.L c.ts c.W = l at HM
      obtain ⟨A', c', rfl, _, _⟩ := slice_form (hs.slice (show Has _ (sliceAt v' l.length 5 (csC l)) from (by (try dsimp only [List.set]); repeat (first | exact HM.out | apply Has.tail))))
      have hRl : R = ⟨max s.last c.ts, s.epoch, s.low, l⟩ := by rw [← hR.out, applyR, hl]
      subst hRl
      clear hl hR
      go_wp2_with (first
        | (guard_target = wpList _ _ _ (⟨some 8, .load _ _, _, _, _, _⟩ :: _) _ _; refine wpl (o := ⟨some 8, .load _ _, _, _, _, _⟩) rfl fun K hK => op_load rfl (ad := ⟨b3, 1, none⟩) rfl (by kernel_rfl) (hs.cell (l := cmC c (.slice Aw c.W.length cw)) (t := 24) (by (try dsimp only [List.set]); repeat (first | with_reducible exact List.mem_cons_self | with_reducible apply List.mem_cons_of_mem)) rfl) (hK _ _ ?_); clear hK K)
        | (guard_target = wpList _ _ _ (⟨some 33, .load _ _, _, _, _, _⟩ :: _) _ _; refine wpl (o := ⟨some 33, .load _ _, _, _, _, _⟩) rfl fun K hK => op_load rfl (ad := ⟨b2, 0, none⟩) rfl (by kernel_rfl) (hs.cell (l := rowR s.last s.epoch s.low (.slice A' l.length c')) (t := 39) (by (try dsimp only [List.set]); repeat (first | with_reducible exact List.mem_cons_self | with_reducible apply List.mem_cons_of_mem)) rfl) (hK _ _ ?_); clear hK K)
        | (guard_target = wpList _ _ _ (⟨some 35, .load _ _, _, _, _, _⟩ :: _) _ _; refine wpl (o := ⟨some 35, .load _ _, _, _, _, _⟩) rfl fun K hK => op_load rfl (ad := ⟨b3, 0, none⟩) rfl (by kernel_rfl) (hs.cell (l := cmC c (.slice Aw c.W.length cw)) (t := 24) (by (try dsimp only [List.set]); repeat (first | with_reducible exact List.mem_cons_self | with_reducible apply List.mem_cons_of_mem)) rfl) (hK _ _ ?_); clear hK K)
        | (guard_target = wpList _ _ _ (⟨none, .store _ (.tmp 37) _, _, _, _, _⟩ :: _) _ _; refine wpl (o := ⟨none, .store _ (.tmp 37) _, _, _, _, _⟩) rfl fun K hK => ?_; go_must (refine op_store (hs.pick (A := row b2 (rowR s.last s.epoch s.low (.slice A' l.length c')) 39) (by repeat (first | with_reducible exact Pick.here | with_reducible apply Pick.there))) rfl (b := b2) (i := 0) (v := .int .i64 (max s.last c.ts)) rfl rfl rfl (by kernel_rfl) (k := 0) rfl (by simp [rowR]) fun w7 h => hK _ _ ?_); clear hs hK K; have hs := h; clear h; change Sat W _ (row b2 (rowR (max s.last c.ts) s.epoch s.low (.slice A' l.length c')) 39 :: _) at hs)
        | (guard_target = wpList _ _ _ (⟨some 38, .load _ _, _, _, _, _⟩ :: _) _ _; refine wpl (o := ⟨some 38, .load _ _, _, _, _, _⟩) rfl fun K hK => op_load_agg rfl (b := b2) (i := 0) rfl ((rowR (max s.last c.ts) s.epoch s.low (.slice A' l.length c'))) (range_whole hs (by (try dsimp only [List.set]); repeat (first | with_reducible exact List.mem_cons_self | with_reducible apply List.mem_cons_of_mem))) (by kernel_rfl) (by kernel_rfl) (hK _ _ ?_); clear hK K)
        | (guard_target = wpList _ _ _ (⟨none, .store _ (.tmp 4) _, _, _, _, _⟩ :: _) _ _; refine wpl (o := ⟨none, .store _ (.tmp 4) _, _, _, _, _⟩) rfl fun K hK => ?_; go_must (refine op_store_whole (hs.pick (A := row b4 [Value.int .i64 0, .int .u32 0, .int .u32 0, .slice none 0 0] 39) (by repeat (first | with_reducible exact Pick.here | with_reducible apply Pick.there))) (b := b4) rfl rfl (rowR (max s.last c.ts) s.epoch s.low (.slice A' l.length c')) rfl (by simp [rowR, Value.oneCell']) (by kernel_rfl) (k := 0) rfl rfl fun w9 h => hK _ _ ?_); clear hs hK K; have hs := h; clear h; dsimp only [List.set] at hs))
      exact bodyPost_ret (run_results_cell rfl (b := b4) rfl (rowR (max s.last c.ts) s.epoch s.low (.slice A' l.length c')) (range_whole hs m0) (by kernel_rfl) (by kernel_rfl)) rfl ⟨.slice A' l.length c', rfl, M, HM.out, hs.pack (by repeat (first | with_reducible exact Pack.refl | with_reducible exact Pack.nil | with_reducible refine Pack.cons (by repeat (first | with_reducible exact Pick.here | with_reducible apply Pick.there)) ?_ | with_reducible apply Pack.drop))⟩
def rsmS (b2 : Nat) (u : Value) (b3 : Nat) (v : Value) (bu ou bv ov : Nat) (y : RCl) (w : World) : Prop := w.cell? ⟨b2, 3, none⟩ = some u ∧ w.cell? ⟨b3, 3, none⟩ = some v ∧ w.rangeAt bu ou (cC y) ∧ w.rangeAt bv ov (cC y)
set_option maxRecDepth 100000 in
set_option maxHeartbeats 1000000 in
theorem run_equal_rcell (y : RCl) (w : World) : (Op.equalIn 10000 107 (.agg (cC y).toArray) (.agg (cC y).toArray)).run Tryd.prog w = .ok true w := by
  rw [show (10000 : Nat) = 9999 + 1 from rfl, run_equalIn_struct w 9999 _ _ _ (by kernel_rfl) (by kernel_rfl)]
  obtain ⟨⟨a, b, c⟩, ts, v⟩ := y
  simp only [cC]
  have hk : ∀ w, (Op.equalIn 9999 57 (.agg (kC ⟨a, b, c⟩).toArray) (.agg (kC ⟨a, b, c⟩).toArray)).run Tryd.prog w = .ok true w := fun w => by
    rw [show (9999 : Nat) = 9998 + 1 from rfl, run_equalIn_struct w 9998 _ _ _ (by kernel_rfl) (by kernel_rfl)]
    simp only [kC]
    go_simp
  simp only [kC] at hk
  go_simp
set_option maxRecDepth 100000 in
set_option maxHeartbeats 8000000 in
theorem rsame_spec (W w : World) (L : List HP) (hs : Sat W w L) (s : RSt) (u v : Value) (hu : Has L (sliceAt u s.L.length 5 (csC s.L))) (hv : Has L (sliceAt v s.L.length 5 (csC s.L))) (hn : s.L.length ≤ 1000000) :
    Calls Tryd.prog 17 #[.agg (stC s u).toArray, .agg (stC s v).toArray] w fun e w' => e = .returned (.bool true) ∧ Sat W w' L := by
  obtain ⟨Au, cu, rfl, _, _⟩ := slice_form (hs.slice hu)
  obtain ⟨Av, cv, rfl, _, _⟩ := slice_form (hs.slice hv)
  have HU := Box.mk hu
  have HV := Box.mk hv
  clear hu hv
  go_enter Tryd.func17, Tryd.ntmps17
  go_wp2_with (first
    | (guard_target = wpList _ _ _ (⟨some 2, .box _ _, _, _, _, _⟩ :: _) _ _; refine wpl (o := ⟨some 2, .box _ _, _, _, _, _⟩) rfl fun K hK => ?_; go_must (refine op_box hs rfl _ rfl (stC s (.slice Au s.L.length cu)) rfl fun b2 w1 h => hK _ _ ?_); clear hs hK K; have hs := h; clear h; try dsimp only [List.set] at hs)
    | (guard_target = wpList _ _ _ (⟨some 3, .box _ _, _, _, _, _⟩ :: _) _ _; refine wpl (o := ⟨some 3, .box _ _, _, _, _, _⟩) rfl fun K hK => ?_; go_must (refine op_box hs rfl _ rfl (stC s (.slice Av s.L.length cv)) rfl fun b3 w1 h => hK _ _ ?_); clear hs hK K; have hs := h; clear h; try dsimp only [List.set] at hs)
    | (guard_target = wpList _ _ _ (⟨some 7, .load _ _, _, _, _, _⟩ :: _) _ _; refine wpl (o := ⟨some 7, .load _ _, _, _, _, _⟩) rfl fun K hK => op_load rfl (ad := ⟨b2, 0, none⟩) rfl (by kernel_rfl) (hs.cell (l := stC s (.slice Au s.L.length cu)) (t := 39) (by (try dsimp only [List.set]); repeat (first | with_reducible exact List.mem_cons_self | with_reducible apply List.mem_cons_of_mem)) rfl) (hK _ _ ?_); clear hK K)
    | (guard_target = wpList _ _ _ (⟨some 9, .load _ _, _, _, _, _⟩ :: _) _ _; refine wpl (o := ⟨some 9, .load _ _, _, _, _, _⟩) rfl fun K hK => op_load rfl (ad := ⟨b3, 0, none⟩) rfl (by kernel_rfl) (hs.cell (l := stC s (.slice Av s.L.length cv)) (t := 39) (by (try dsimp only [List.set]); repeat (first | with_reducible exact List.mem_cons_self | with_reducible apply List.mem_cons_of_mem)) rfl) (hK _ _ ?_); clear hK K)
    | (guard_target = wpList _ _ _ (⟨some 13, .load _ _, _, _, _, _⟩ :: _) _ _; refine wpl (o := ⟨some 13, .load _ _, _, _, _, _⟩) rfl fun K hK => op_load rfl (ad := ⟨b2, 1, none⟩) rfl (by kernel_rfl) (hs.cell (l := stC s (.slice Au s.L.length cu)) (t := 39) (by (try dsimp only [List.set]); repeat (first | with_reducible exact List.mem_cons_self | with_reducible apply List.mem_cons_of_mem)) rfl) (hK _ _ ?_); clear hK K)
    | (guard_target = wpList _ _ _ (⟨some 15, .load _ _, _, _, _, _⟩ :: _) _ _; refine wpl (o := ⟨some 15, .load _ _, _, _, _, _⟩) rfl fun K hK => op_load rfl (ad := ⟨b3, 1, none⟩) rfl (by kernel_rfl) (hs.cell (l := stC s (.slice Av s.L.length cv)) (t := 39) (by (try dsimp only [List.set]); repeat (first | with_reducible exact List.mem_cons_self | with_reducible apply List.mem_cons_of_mem)) rfl) (hK _ _ ?_); clear hK K)
    | (guard_target = wpList _ _ _ (⟨some 20, .load _ _, _, _, _, _⟩ :: _) _ _; refine wpl (o := ⟨some 20, .load _ _, _, _, _, _⟩) rfl fun K hK => op_load rfl (ad := ⟨b2, 2, none⟩) rfl (by kernel_rfl) (hs.cell (l := stC s (.slice Au s.L.length cu)) (t := 39) (by (try dsimp only [List.set]); repeat (first | with_reducible exact List.mem_cons_self | with_reducible apply List.mem_cons_of_mem)) rfl) (hK _ _ ?_); clear hK K)
    | (guard_target = wpList _ _ _ (⟨some 22, .load _ _, _, _, _, _⟩ :: _) _ _; refine wpl (o := ⟨some 22, .load _ _, _, _, _, _⟩) rfl fun K hK => op_load rfl (ad := ⟨b3, 2, none⟩) rfl (by kernel_rfl) (hs.cell (l := stC s (.slice Av s.L.length cv)) (t := 39) (by (try dsimp only [List.set]); repeat (first | with_reducible exact List.mem_cons_self | with_reducible apply List.mem_cons_of_mem)) rfl) (hK _ _ ?_); clear hK K)
    | (guard_target = wpList _ _ _ (⟨some 27, .load _ _, _, _, _, _⟩ :: _) _ _; refine wpl (o := ⟨some 27, .load _ _, _, _, _, _⟩) rfl fun K hK => op_load rfl (ad := ⟨b2, 3, none⟩) rfl (by kernel_rfl) (hs.cell (l := stC s (.slice Au s.L.length cu)) (t := 39) (by (try dsimp only [List.set]); repeat (first | with_reducible exact List.mem_cons_self | with_reducible apply List.mem_cons_of_mem)) rfl) (hK _ _ ?_); clear hK K)
    | (guard_target = wpList _ _ _ (⟨some 30, .load _ _, _, _, _, _⟩ :: _) _ _; refine wpl (o := ⟨some 30, .load _ _, _, _, _, _⟩) rfl fun K hK => op_load rfl (ad := ⟨b3, 3, none⟩) rfl (by kernel_rfl) (hs.cell (l := stC s (.slice Av s.L.length cv)) (t := 39) (by (try dsimp only [List.set]); repeat (first | with_reducible exact List.mem_cons_self | with_reducible apply List.mem_cons_of_mem)) rfl) (hK _ _ ?_); clear hK K))
  go_loopw [5] (fun v5 wr => ∃ i : Nat, i ≤ s.L.length ∧ v5 = .int .i64 (i : Nat) ∧ Sat W wr (row b3 (stC s (.slice Av s.L.length cv)) 39 :: row b2 (stC s (.slice Au s.L.length cu)) 39 :: L)) (fun v5 _ => s.L.length - (intOf v5).toNat)
  case atStart => exact ⟨0, by omega, rfl, hs⟩
  case round =>
    clear hs
    obtain ⟨i, hi, rfl, hs⟩ := hrel
    by_cases hlt : i < s.L.length
    · have hltI : (i : Int) < (s.L.length : Int) := by omega
      have hwi : IntKind.i64.wrap ((i : Int) + 1) = (i : Int) + 1 := by rw [IntKind.wrap_i64]; omega
      obtain ⟨bu, ou, _, e⟩ := slice_part cC 5 cC_length (by omega) hs (show Has _ (sliceAt (.slice Au s.L.length cu) s.L.length 5 (csC s.L)) from (by (try dsimp only [List.set]); repeat (first | exact HU.out | apply Has.tail))) (by omega)
      cases e
      obtain ⟨bv, ov, _, e⟩ := slice_part cC 5 cC_length (by omega) hs (show Has _ (sliceAt (.slice Av s.L.length cv) s.L.length 5 (csC s.L)) from (by (try dsimp only [List.set]); repeat (first | exact HV.out | apply Has.tail))) (by omega)
      cases e
      have hru := fun w (M : List HP) (h : Sat W w M) (hM : ∃ M0, M = M0 ++ L) => slice_range cC 5 cC_length h (show Has M (sliceAt (.slice (some ⟨bu, ou, none⟩) s.L.length cu) s.L.length 5 (csC s.L)) from by obtain ⟨M0, e⟩ := hM; rw [e]; exact HU.out.app) i hlt
      have hrv := fun w (M : List HP) (h : Sat W w M) (hM : ∃ M0, M = M0 ++ L) => slice_range cC 5 cC_length h (show Has M (sliceAt (.slice (some ⟨bv, ov, none⟩) s.L.length cv) s.L.length 5 (csC s.L)) from by obtain ⟨M0, e⟩ := hM; rw [e]; exact HV.out.app) i hlt
      generalize s.L[i] = y at hru hrv
      have heq := run_equal_rcell y
      have HRU := Box.mk hru
      have HRV := Box.mk hrv
      clear hru hrv
      have cS : ∀ w M2, Sat W w M2 → row b2 (stC s (.slice (some ⟨bu, ou, none⟩) s.L.length cu)) 39 ∈ M2 → row b3 (stC s (.slice (some ⟨bv, ov, none⟩) s.L.length cv)) 39 ∈ M2 → (∃ M0, M2 = M0 ++ L) → (rsmS b2 (.slice (some ⟨bu, ou, none⟩) s.L.length cu) b3 (.slice (some ⟨bv, ov, none⟩) s.L.length cv) bu (ou + i * 5) bv (ov + i * 5) y) w := fun w M2 h h1 h2 h3 => ⟨h.cell h1 rfl, h.cell h2 rfl, HRU.out w M2 h h3, HRV.out w M2 h h3⟩
      have h42 : ∀ w, (rsmS b2 (.slice (some ⟨bu, ou, none⟩) s.L.length cu) b3 (.slice (some ⟨bv, ov, none⟩) s.L.length cv) bu (ou + i * 5) bv (ov + i * 5) y) w → w.cell? ⟨b2, 3, none⟩ = some (.slice (some ⟨bu, ou, none⟩) s.L.length cu) := fun w h => h.1
      have h47 : ∀ w, (rsmS b2 (.slice (some ⟨bu, ou, none⟩) s.L.length cu) b3 (.slice (some ⟨bv, ov, none⟩) s.L.length cv) bu (ou + i * 5) bv (ov + i * 5) y) w → w.cell? ⟨b3, 3, none⟩ = some (.slice (some ⟨bv, ov, none⟩) s.L.length cv) := fun w h => h.2.1
      have h45 : ∀ w, (rsmS b2 (.slice (some ⟨bu, ou, none⟩) s.L.length cu) b3 (.slice (some ⟨bv, ov, none⟩) s.L.length cv) bu (ou + i * 5) bv (ov + i * 5) y) w → w.rangeAt bu (ou + i * 5) (cC y) := fun w h => h.2.2.1
      have h50 : ∀ w, (rsmS b2 (.slice (some ⟨bu, ou, none⟩) s.L.length cu) b3 (.slice (some ⟨bv, ov, none⟩) s.L.length cv) bu (ou + i * 5) bv (ov + i * 5) y) w → w.rangeAt bv (ov + i * 5) (cC y) := fun w h => h.2.2.2
      go_wp2_with (first
        | (guard_target = wpList _ _ _ (⟨some 36, .load _ _, _, _, _, _⟩ :: _) _ _; refine wpl (o := ⟨some 36, .load _ _, _, _, _, _⟩) rfl fun K hK => op_load rfl (ad := ⟨b2, 3, none⟩) rfl (by kernel_rfl) (hs.cell (l := stC s (.slice (some ⟨bu, ou, none⟩) s.L.length cu)) (t := 39) (by (try dsimp only [List.set]); repeat (first | with_reducible exact List.mem_cons_self | with_reducible apply List.mem_cons_of_mem)) rfl) (hK _ _ ?_); clear hK K))
      have hS0 := cS _ _ hs.drew (by (try dsimp only [List.set]); repeat (first | with_reducible exact List.mem_cons_self | with_reducible apply List.mem_cons_of_mem)) (by (try dsimp only [List.set]); repeat (first | with_reducible exact List.mem_cons_self | with_reducible apply List.mem_cons_of_mem)) ⟨[_, _], rfl⟩
      refine wp_region_tree ((rsmS b2 (.slice (some ⟨bu, ou, none⟩) s.L.length cu) b3 (.slice (some ⟨bv, ov, none⟩) s.L.length cv) bu (ou + i * 5) bv (ov + i * 5) y)) (.take 0 (.take 1 (.take 2 (.take 3 (.take 4 (.take 5 (.take 6 (.take 7 (.take 8 (.take 9 (.take 10 (DTree.done)))))))))))) (by kernel_rfl) (by kernel_rfl) (by kernel_rfl) (fun _ _ d _ _ h => by cases d <;> exact h) hS0 ?_
      have hs' := hs.drew
      clear hs
      have hs := hs'
      clear hs'
      have hq := fun p : Prop => class_const hS0 p
      clear hS0
      repeat (first
        | (with_reducible refine tree_load (o := ⟨some 42, .load _ _, _, _, _, _⟩) rfl rfl rfl rfl rfl h42 ?_)
        | (with_reducible refine tree_load_agg (o := ⟨some 45, .load _ _, _, _, _, _⟩) (cC y) rfl rfl rfl rfl ?_ ?_ h45 ?_; (kernel_rfl); (kernel_rfl))
        | (with_reducible refine tree_load (o := ⟨some 47, .load _ _, _, _, _, _⟩) rfl rfl rfl rfl rfl h47 ?_)
        | (with_reducible refine tree_load_agg (o := ⟨some 50, .load _ _, _, _, _, _⟩) (cC y) rfl rfl rfl rfl ?_ ?_ h50 ?_; (kernel_rfl); (kernel_rfl))
        | (refine tree_take rfl (fun K hK => ?_); go_simp; (first | with_reducible refine hK _ ?_ | (rw [if_neg (by decide)]; with_reducible refine hK _ ?_)); clear hK K))
      refine tree_done ?_
      clear hq
      go_wp2_with fail
      exact ⟨⟨i + 1, by omega, by go_num, hs⟩, by simp only [intOf]; omega⟩
    · have hltI : ¬ (i : Int) < (s.L.length : Int) := by omega
      go_wp2_with (first
        | (guard_target = wpList _ _ _ (⟨some 36, .load _ _, _, _, _, _⟩ :: _) _ _; refine wpl (o := ⟨some 36, .load _ _, _, _, _, _⟩) rfl fun K hK => op_load rfl (ad := ⟨b2, 3, none⟩) rfl (by kernel_rfl) (hs.cell (l := stC s (.slice Au s.L.length cu)) (t := 39) (by (try dsimp only [List.set]); repeat (first | with_reducible exact List.mem_cons_self | with_reducible apply List.mem_cons_of_mem)) rfl) (hK _ _ ?_); clear hK K))
      go_ret
      exact ⟨rfl, hs.pack (by repeat (first | with_reducible exact Pack.refl | with_reducible exact Pack.nil | with_reducible refine Pack.cons (by repeat (first | with_reducible exact Pick.here | with_reducible apply Pick.there)) ?_ | with_reducible apply Pack.drop))⟩
end Go.Proofs.YthjnefpnnifjiaaDoor
