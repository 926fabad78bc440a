/- redo.Graph and Fresh. -/
import Derived.Test.YthjnefpnnifjiaaDoorRdRef2
set_option linter.unusedVariables false
set_option linter.unusedSimpArgs false
namespace Go.Proofs.YthjnefpnnifjiaaDoor
open Go.RowKit
def graphL (l : List RCl) : List RWr := (l.filter fun x => !(x.v == ([] : List UInt8))).map fun x => ⟨x.k, x.v⟩
def freshL (l : List RCl) : List RCl := (graphL l).map fun w => ⟨w.k, 0, w.v⟩
def fresh (s : RSt) : RSt := ⟨s.last, s.epoch, s.low, freshL s.L⟩
theorem graphL_snoc (l : List RCl) (i : Nat) (h : i < l.length) : graphL (l.take (i + 1)) = graphL (l.take i) ++ (if (l[i].v == ([] : List UInt8)) = true then [] else [⟨l[i].k, l[i].v⟩]) := by
  rw [List.take_succ_eq_append_getElem h]
  unfold graphL
  by_cases e : (l[i].v == ([] : List UInt8)) = true
  · rw [if_pos e, List.filter_append, List.map_append, List.filter_cons, List.filter_nil, e]; rfl
  · have e2 : (l[i].v == ([] : List UInt8)) = false := by simpa using e
    rw [if_neg e, List.filter_append, List.map_append, List.filter_cons, List.filter_nil, e2]; rfl
theorem graphL_len (l : List RCl) : (graphL l).length ≤ l.length := by
  unfold graphL; rw [List.length_map]; exact List.length_filter_le _ _
theorem graphL_take (l : List RCl) (i : Nat) : (graphL (l.take i)).length ≤ l.length := by
  have := graphL_len (l.take i); rw [List.length_take] at this; omega
set_option maxRecDepth 100000 in
set_option maxHeartbeats 8000000 in
theorem graph_spec (W w : World) (L : List HP) (hs : Sat W w L) (s : RSt) (v : Value) (hv : Has L (sliceAt v s.L.length 5 (csC s.L))) (hn : s.L.length ≤ 1000000) :
    Calls Tryd.prog 27 #[.agg (stC s v).toArray] w fun e w' => ∃ v', e = .returned v' ∧ Sat W w' (own v' 61 (graphL s.L).length 4 (wsC (graphL s.L)) :: L) := by
  obtain ⟨A, ca, rfl, _, _⟩ := slice_form (hs.slice hv)
  have HV := Box.mk hv
  have hzw := run_zero (P := Tryd.prog) zwrite
  clear hv
  go_enter Tryd.func27, Tryd.ntmps27
  go_wp2_with (first
    | (guard_target = wpList _ _ _ (⟨some 1, .box _ _, _, _, _, _⟩ :: _) _ _; refine wpl (o := ⟨some 1, .box _ _, _, _, _, _⟩) rfl fun K hK => ?_; go_must (refine op_box hs rfl _ rfl (stC s (.slice A s.L.length ca)) rfl fun b1 w1 h => hK _ _ ?_); clear hs hK K; have hs := h; clear h; try dsimp only [List.set] at hs)
    | (guard_target = wpList _ _ _ (⟨some 7, .load _ _, _, _, _, _⟩ :: _) _ _; refine wpl (o := ⟨some 7, .load _ _, _, _, _, _⟩) rfl fun K hK => op_load rfl (ad := ⟨b1, 3, none⟩) rfl (by kernel_rfl) (hs.cell (l := stC s (.slice A s.L.length ca)) (t := 43) (by (try dsimp only [List.set]); repeat (first | with_reducible exact List.mem_cons_self | with_reducible apply List.mem_cons_of_mem)) rfl) (hK _ _ ?_); clear hK K))
  go_loopw [3, 9] (fun v3 v9 wr => ∃ i : Nat, i ≤ s.L.length ∧ v9 = .int .i64 (i : Nat) ∧ Sat W wr (own v3 61 (graphL (s.L.take i)).length 4 (wsC (graphL (s.L.take i))) :: L)) (fun _ v9 _ => s.L.length - (intOf v9).toNat)
  case atStart => exact ⟨0, by omega, rfl, (hs.addNil none 61 4).pack (L := own (.slice none 0 0) 61 0 4 [] :: L) (by repeat (first | with_reducible exact Pack.refl | with_reducible exact Pack.nil | with_reducible refine Pack.cons (by repeat (first | with_reducible exact Pick.here | with_reducible apply Pick.there)) ?_ | with_reducible apply Pack.drop))⟩
  case round =>
    clear hs
    obtain ⟨i, hi, rfl, hs⟩ := hrel
    have hgl := graphL_take s.L i
    obtain ⟨A3, c3, rfl, _, _⟩ := own_slice hs (i := 0) rfl
    by_cases hlt : i < s.L.length
    · have hltI : (i : Int) < (s.L.length : Int) := by omega
      have hwi : IntKind.i64.wrap ((i : Int) + 1) = (i : Int) + 1 := by rw [IntKind.wrap_i64]; omega
      obtain ⟨ba, oa, _, e⟩ := slice_part cC 5 cC_length (by omega) hs (show Has _ (sliceAt (.slice A s.L.length ca) s.L.length 5 (csC s.L)) from (by (try dsimp only [List.set]); repeat (first | exact HV.out | apply Has.tail))) (by omega)
      cases e
      have hr := slice_range cC 5 cC_length hs (show Has _ (sliceAt (.slice (some ⟨ba, oa, none⟩) s.L.length ca) s.L.length 5 (csC s.L)) from (by (try dsimp only [List.set]); repeat (first | exact HV.out | apply Has.tail))) i hlt
      have hsn := graphL_snoc s.L i hlt
      generalize graphL (s.L.take i) = g at hs hsn hgl
      generalize s.L[i] = y at hr hsn
      obtain ⟨q, hq1⟩ : ∃ q, (y.v == ([] : List UInt8)) = q := ⟨_, rfl⟩
      rw [hq1] at hsn
      have HSN := Box.mk hsn
      clear hsn
      cases q with
      | true =>
        go_wp2_with (first
          | (guard_target = wpList _ _ _ (⟨some 12, .load _ _, _, _, _, _⟩ :: _) _ _; refine wpl (o := ⟨some 12, .load _ _, _, _, _, _⟩) rfl fun K hK => op_load_agg rfl (b := ba) (i := oa + i * 5) rfl (cC y) hr (by kernel_rfl) (by kernel_rfl) (hK _ _ ?_); clear hK K)
          | (guard_target = wpList _ _ _ (⟨some 5, .alloc _, _, _, _, _⟩ :: _) _ _; refine wpl (o := ⟨some 5, .alloc _, _, _, _, _⟩) rfl fun K hK => ?_; go_must (refine op_alloc hs rfl _ zcell [Value.int .i64 0, .int .i64 0, .int .i64 0, .int .i64 0, .string ⟨#[]⟩] rfl fun b5 w1 h => hK _ _ ?_); clear hs hK K; have hs := h; clear h; try dsimp only [List.set] at hs)
          | (guard_target = wpList _ _ _ (⟨none, .store _ (.tmp 5) _, _, _, _, _⟩ :: _) _ _; refine wpl (o := ⟨none, .store _ (.tmp 5) _, _, _, _, _⟩) rfl fun K hK => ?_; go_must (refine op_store_whole hs (b := b5) rfl rfl (cC y) rfl (cC_one y) (by kernel_rfl) (k := 0) rfl rfl fun w3 h => hK _ _ ?_); clear hs hK K; have hs := h; clear h; try dsimp only [List.set] at hs)
          | (guard_target = wpList _ _ _ (⟨some 14, .load _ _, _, _, _, _⟩ :: _) _ _; refine wpl (o := ⟨some 14, .load _ _, _, _, _, _⟩) rfl fun K hK => op_load rfl (ad := ⟨b5, 4, none⟩) rfl (by kernel_rfl) (hs.cell (l := cC y) (t := 59) (by (try dsimp only [List.set]); repeat (first | with_reducible exact List.mem_cons_self | with_reducible apply List.mem_cons_of_mem)) rfl) (hK _ _ ?_); clear hK K))
        refine ⟨⟨i + 1, by omega, by go_num, ?_⟩, by simp only [intOf]; omega⟩
        rw [HSN.out, if_pos rfl, List.append_nil]
        exact hs.pack (by repeat (first | with_reducible exact Pack.refl | with_reducible exact Pack.nil | with_reducible refine Pack.cons (by repeat (first | with_reducible exact Pick.here | with_reducible apply Pick.there)) ?_ | with_reducible apply Pack.drop))
      | false =>
        go_wp2_with (first
          | (guard_target = wpList _ _ _ (⟨some 12, .load _ _, _, _, _, _⟩ :: _) _ _; refine wpl (o := ⟨some 12, .load _ _, _, _, _, _⟩) rfl fun K hK => op_load_agg rfl (b := ba) (i := oa + i * 5) rfl (cC y) hr (by kernel_rfl) (by kernel_rfl) (hK _ _ ?_); clear hK K)
          | (guard_target = wpList _ _ _ (⟨some 5, .alloc _, _, _, _, _⟩ :: _) _ _; refine wpl (o := ⟨some 5, .alloc _, _, _, _, _⟩) rfl fun K hK => ?_; go_must (refine op_alloc hs rfl _ zcell [Value.int .i64 0, .int .i64 0, .int .i64 0, .int .i64 0, .string ⟨#[]⟩] rfl fun b5 w1 h => hK _ _ ?_); clear hs hK K; have hs := h; clear h; try dsimp only [List.set] at hs)
          | (guard_target = wpList _ _ _ (⟨none, .store _ (.tmp 5) _, _, _, _, _⟩ :: _) _ _; refine wpl (o := ⟨none, .store _ (.tmp 5) _, _, _, _, _⟩) rfl fun K hK => ?_; go_must (refine op_store_whole hs (b := b5) rfl rfl (cC y) rfl (cC_one y) (by kernel_rfl) (k := 0) rfl rfl fun w3 h => hK _ _ ?_); clear hs hK K; have hs := h; clear h; try dsimp only [List.set] at hs)
          | (guard_target = wpList _ _ _ (⟨some 14, .load _ _, _, _, _, _⟩ :: _) _ _; refine wpl (o := ⟨some 14, .load _ _, _, _, _, _⟩) rfl fun K hK => op_load rfl (ad := ⟨b5, 4, none⟩) rfl (by kernel_rfl) (hs.cell (l := cC y) (t := 59) (by (try dsimp only [List.set]); repeat (first | with_reducible exact List.mem_cons_self | with_reducible apply List.mem_cons_of_mem)) rfl) (hK _ _ ?_); clear hK K)
          | (guard_target = wpList _ _ _ (⟨some 18, .load _ _, _, _, _, _⟩ :: _) _ _; refine wpl (o := ⟨some 18, .load _ _, _, _, _, _⟩) rfl fun K hK => op_load_agg rfl (b := b5) (i := 0) rfl [.int .i64 y.k.kind, .int .i64 y.k.a, .int .i64 y.k.b] (range_pre (ds := [.int .i64 y.ts, (.string ⟨(y.v).toArray⟩)]) (range_whole hs (show row b5 (cC y) 59 ∈ _ from (by (try dsimp only [List.set]); repeat (first | with_reducible exact List.mem_cons_self | with_reducible apply List.mem_cons_of_mem))))) (by kernel_rfl) (by kernel_rfl) (hK _ _ ?_); clear hK K)
          | (guard_target = wpList _ _ _ (⟨some 20, .load _ _, _, _, _, _⟩ :: _) _ _; refine wpl (o := ⟨some 20, .load _ _, _, _, _, _⟩) rfl fun K hK => op_load rfl (ad := ⟨b5, 4, none⟩) rfl (by kernel_rfl) (hs.cell (l := cC y) (t := 59) (by (try dsimp only [List.set]); repeat (first | with_reducible exact List.mem_cons_self | with_reducible apply List.mem_cons_of_mem)) rfl) (hK _ _ ?_); clear hK K)
          | (guard_target = wpList _ _ _ (⟨some 22, .buildSlice _ _ _, _, _, _, _⟩ :: _) _ _; refine wpl (o := ⟨some 22, .buildSlice _ _ _, _, _, _, _⟩) rfl fun K hK => ?_; go_must (refine op_lit_agg1 hs rfl Tryd.underlying22 info_write (wC ⟨y.k, y.v⟩) rfl rfl (by omega) (by omega) fun b22 w1 h => hK _ _ ?_); clear hs hK K; have hs := h; clear h; try dsimp only [List.set] at hs)
          | (guard_target = wpList _ _ _ (⟨some 23, .call _, _, _, _, _⟩ :: _) _ _; refine wpl (o := ⟨some 23, .call _, _, _, _, _⟩) rfl fun K hK => ?_; go_must (refine op_append (hs.pick (A := own (.slice A3 g.length c3) 61 (g.length) 4 (wsC g)) (by repeat (first | with_reducible exact Pick.here | with_reducible apply Pick.there))) rfl Tryd.underlying22 Tryd.underlying22 info_write rfl (by omega) (k := 0) rfl rfl rfl (Has.of (A := row b22 (wC ⟨y.k, y.v⟩) 61) (by (try dsimp only [List.set]); repeat (first | with_reducible exact List.mem_cons_self | with_reducible apply List.mem_cons_of_mem)) fun F hF => own_sliceAt F (own_exact (n := 1) (sz := 4) rfl (by omega) F hF)) (by simp [wC, cC, Value.oneCell']) (by omega) (by omega) fun v23 w2 h => hK _ _ ?_); clear hs hK K; have hs := h; clear h; try dsimp only [List.set] at hs))
        refine ⟨⟨i + 1, by omega, by go_num, ?_⟩, by simp only [intOf]; omega⟩
        rw [HSN.out, if_neg (by simp), wsC_snoc, List.length_append, List.length_singleton]
        exact hs.pack (by repeat (first | with_reducible exact Pack.refl | with_reducible exact Pack.nil | with_reducible refine Pack.cons (by repeat (first | with_reducible exact Pick.here | with_reducible apply Pick.there)) ?_ | with_reducible apply Pack.drop))
    · have hltI : ¬ (i : Int) < (s.L.length : Int) := by omega
      have hin : i = s.L.length := by omega
      subst hin
      rw [List.take_length] at hs
      go_wp2_with fail
      go_ret
      exact ⟨_, rfl, hs⟩
theorem freshL_len (l : List RCl) : (freshL l).length = (graphL l).length := by unfold freshL; rw [List.length_map]
def frsh (l : List RWr) : List RCl := l.map fun w => ⟨w.k, 0, w.v⟩
theorem frsh_snoc (l : List RWr) (i : Nat) (h : i < l.length) : frsh (l.take (i + 1)) = frsh (l.take i) ++ [⟨l[i].k, 0, l[i].v⟩] := by
  unfold frsh
  rw [List.take_succ_eq_append_getElem h, List.map_append]; rfl
def freshPost (s : RSt) (T : TypeId) (W : World) (L : List HP) (e : Ending) (w' : World) : Prop := ∃ v', e = .returned (.agg (stC s v').toArray) ∧ Sat W w' (own v' T s.L.length 5 (csC s.L) :: L)
set_option maxRecDepth 100000 in
set_option maxHeartbeats 8000000 in
theorem fresh_spec (W w : World) (L : List HP) (hs : Sat W w L) (s : RSt) (v : Value) (hv : Has L (sliceAt v s.L.length 5 (csC s.L))) (hn : s.L.length ≤ 1000000) :
    Calls Tryd.prog 29 #[.agg (stC s v).toArray] w (freshPost (fresh s) 59 W L) := by
  obtain ⟨A, ca, rfl, _, _⟩ := slice_form (hs.slice hv)
  have HG := Box.mk (fun w (L : List HP) hs hv => graph_spec W w L hs s (.slice A s.L.length ca) hv hn)
  have HV := Box.mk hv
  obtain ⟨R, hR0⟩ : ∃ R, fresh s = R := ⟨_, rfl⟩
  rw [hR0]
  have hgl := graphL_len s.L
  have hR1 : R = ⟨s.last, s.epoch, s.low, frsh (graphL s.L)⟩ := hR0.symm
  generalize graphL s.L = g at HG hR1 hgl
  have hR := Box.mk hR1
  have hzc := run_zero (P := Tryd.prog) zcell
  clear hv hR0 hR1
  unfold freshPost
  go_enter Tryd.func29, Tryd.ntmps29
  go_wp2_with (first
    | (guard_target = wpList _ _ _ (⟨some 1, .box _ _, _, _, _, _⟩ :: _) _ _; refine wpl (o := ⟨some 1, .box _ _, _, _, _, _⟩) rfl fun K hK => ?_; go_must (refine op_box hs rfl _ rfl (stC s (.slice A s.L.length ca)) rfl fun b1 w1 h => hK _ _ ?_); clear hs hK K; have hs := h; clear h; try dsimp only [List.set] at hs)
    | (guard_target = wpList _ _ _ (⟨some 2, .alloc _, _, _, _, _⟩ :: _) _ _; refine wpl (o := ⟨some 2, .alloc _, _, _, _, _⟩) rfl fun K hK => ?_; go_must (refine op_alloc hs rfl _ zstateR [Value.int .i64 0, .int .u32 0, .int .u32 0, .slice none 0 0] rfl fun b2 w1 h => hK _ _ ?_); clear hs hK K; have hs := h; clear h; try dsimp only [List.set] at hs)
    | (guard_target = wpList _ _ _ (⟨some 6, .load _ _, _, _, _, _⟩ :: _) _ _; refine wpl (o := ⟨some 6, .load _ _, _, _, _, _⟩) rfl fun K hK => op_load_agg rfl (b := b1) (i := 0) rfl ((stC s (.slice A s.L.length ca))) (range_whole hs (by (try dsimp only [List.set]); repeat (first | with_reducible exact List.mem_cons_self | with_reducible apply List.mem_cons_of_mem))) (by kernel_rfl) (by kernel_rfl) (hK _ _ ?_); clear hK K)
    | (go_at_call 27; go_must (refine (HG.out _ _ hs (show Has _ (sliceAt (.slice A s.L.length ca) s.L.length 5 (csC s.L)) from (by (try dsimp only [List.set]); repeat (first | exact HV.out | apply Has.tail)))).mono ?_); clear hs; rintro e w1 ⟨v7, rfl, hs⟩
       obtain ⟨A7, c7, rfl, _, _⟩ := own_slice hs (i := 0) rfl))
  go_loopw [3, 9] (fun v3 v9 wr => ∃ i : Nat, i ≤ g.length ∧ v9 = .int .i64 (i : Nat) ∧ Sat W wr (own v3 59 i 5 (csC (frsh (g.take i))) :: own (.slice A7 g.length c7) 61 g.length 4 (wsC g) :: row b1 (stC s (.slice A s.L.length ca)) 43 :: row b2 [Value.int .i64 0, .int .u32 0, .int .u32 0, .slice none 0 0] 43 :: L)) (fun _ v9 _ => g.length - (intOf v9).toNat)
  case atStart => exact ⟨0, by omega, rfl, (hs.addNil none 59 5).pack (L := own (.slice none 0 0) 59 0 5 [] :: own (.slice A7 g.length c7) 61 g.length 4 (wsC g) :: row b1 (stC s (.slice A s.L.length ca)) 43 :: row b2 [Value.int .i64 0, .int .u32 0, .int .u32 0, .slice none 0 0] 43 :: L) (by repeat (first | with_reducible exact Pack.refl | with_reducible exact Pack.nil | with_reducible refine Pack.cons (by repeat (first | with_reducible exact Pick.here | with_reducible apply Pick.there)) ?_ | with_reducible apply Pack.drop))⟩
  case round =>
    clear hs
    obtain ⟨i, hi, rfl, hs⟩ := hrel
    obtain ⟨A3, c3, rfl, _, _⟩ := own_slice hs (i := 0) rfl
    by_cases hlt : i < g.length
    · have hltI : (i : Int) < (g.length : Int) := by omega
      have hwi : IntKind.i64.wrap ((i : Int) + 1) = (i : Int) + 1 := by rw [IntKind.wrap_i64]; omega
      obtain ⟨ba, oa, _, e⟩ := slice_part wC 4 wC_length (by omega) hs (Has.of (A := own (.slice A7 g.length c7) 61 g.length 4 (wsC g)) (by (try dsimp only [List.set]); repeat (first | with_reducible exact List.mem_cons_self | with_reducible apply List.mem_cons_of_mem)) own_sliceAt) (by omega)
      cases e
      have hr := slice_range wC 4 wC_length hs (Has.of (A := own (.slice (some ⟨ba, oa, none⟩) g.length c7) 61 g.length 4 (wsC g)) (by (try dsimp only [List.set]); repeat (first | with_reducible exact List.mem_cons_self | with_reducible apply List.mem_cons_of_mem)) own_sliceAt) i hlt
      have hsn := frsh_snoc g i hlt
      generalize frsh (g.take i) = fr at hs hsn
      generalize g[i] = y at hr hsn
      have HSN := Box.mk hsn
      clear hsn
      go_wp2_with (first
        | (guard_target = wpList _ _ _ (⟨some 12, .load _ _, _, _, _, _⟩ :: _) _ _; refine wpl (o := ⟨some 12, .load _ _, _, _, _, _⟩) rfl fun K hK => op_load_agg rfl (b := ba) (i := oa + i * 4) rfl (wC y) hr (by kernel_rfl) (by kernel_rfl) (hK _ _ ?_); clear hK K)
        | (guard_target = wpList _ _ _ (⟨some 5, .alloc _, _, _, _, _⟩ :: _) _ _; refine wpl (o := ⟨some 5, .alloc _, _, _, _, _⟩) rfl fun K hK => ?_; go_must (refine op_alloc hs rfl _ zwrite [Value.int .i64 0, .int .i64 0, .int .i64 0, .string ⟨#[]⟩] rfl fun b5 w1 h => hK _ _ ?_); clear hs hK K; have hs := h; clear h; try dsimp only [List.set] at hs)
        | (guard_target = wpList _ _ _ (⟨none, .store _ (.tmp 5) _, _, _, _, _⟩ :: _) _ _; refine wpl (o := ⟨none, .store _ (.tmp 5) _, _, _, _, _⟩) rfl fun K hK => ?_; go_must (refine op_store_whole hs (b := b5) rfl rfl (wC y) rfl (wC_one y) (by kernel_rfl) (k := 0) rfl rfl fun w3 h => hK _ _ ?_); clear hs hK K; have hs := h; clear h; try dsimp only [List.set] at hs)
        | (guard_target = wpList _ _ _ (⟨some 15, .load _ _, _, _, _, _⟩ :: _) _ _; refine wpl (o := ⟨some 15, .load _ _, _, _, _, _⟩) rfl fun K hK => op_load_agg rfl (b := b5) (i := 0) rfl [.int .i64 y.k.kind, .int .i64 y.k.a, .int .i64 y.k.b] (range_pre (ds := [(.string ⟨(y.v).toArray⟩)]) (range_whole hs (show row b5 (wC y) 61 ∈ _ from (by (try dsimp only [List.set]); repeat (first | with_reducible exact List.mem_cons_self | with_reducible apply List.mem_cons_of_mem))))) (by kernel_rfl) (by kernel_rfl) (hK _ _ ?_); clear hK K)
        | (guard_target = wpList _ _ _ (⟨some 17, .load _ _, _, _, _, _⟩ :: _) _ _; refine wpl (o := ⟨some 17, .load _ _, _, _, _, _⟩) rfl fun K hK => op_load rfl (ad := ⟨b5, 3, none⟩) rfl (by kernel_rfl) (hs.cell (l := wC y) (t := 61) (by (try dsimp only [List.set]); repeat (first | with_reducible exact List.mem_cons_self | with_reducible apply List.mem_cons_of_mem)) rfl) (hK _ _ ?_); clear hK K)
        | (guard_target = wpList _ _ _ (⟨some 19, .buildSlice _ _ _, _, _, _, _⟩ :: _) _ _; refine wpl (o := ⟨some 19, .buildSlice _ _ _, _, _, _, _⟩) rfl fun K hK => ?_; go_must (refine op_lit_agg1 hs rfl Tryd.underlying41 info_cell (cC ⟨y.k, 0, y.v⟩) rfl rfl (by omega) (by omega) fun b19 w1 h => hK _ _ ?_); clear hs hK K; have hs := h; clear h; try dsimp only [List.set] at hs)
        | (guard_target = wpList _ _ _ (⟨some 20, .call _, _, _, _, _⟩ :: _) _ _; refine wpl (o := ⟨some 20, .call _, _, _, _, _⟩) rfl fun K hK => ?_; go_must (refine op_append (hs.pick (A := own (.slice A3 i c3) 59 (i) 5 (csC fr)) (by repeat (first | with_reducible exact Pick.here | with_reducible apply Pick.there))) rfl Tryd.underlying41 Tryd.underlying41 info_cell rfl (by omega) (k := 0) rfl rfl rfl (Has.of (A := row b19 (cC ⟨y.k, 0, y.v⟩) 59) (by (try dsimp only [List.set]); repeat (first | with_reducible exact List.mem_cons_self | with_reducible apply List.mem_cons_of_mem)) fun F hF => own_sliceAt F (own_exact (n := 1) (sz := 5) rfl (by omega) F hF)) (by simp [wC, cC, Value.oneCell']) (by omega) (by omega) fun v20 w2 h => hK _ _ ?_); clear hs hK K; have hs := h; clear h; try dsimp only [List.set] at hs))
      refine ⟨⟨i + 1, by omega, by go_num, ?_⟩, by simp only [intOf]; omega⟩
      rw [HSN.out, csC_snoc]
      exact hs.pack (by repeat (first | with_reducible exact Pack.refl | with_reducible exact Pack.nil | with_reducible refine Pack.cons (by repeat (first | with_reducible exact Pick.here | with_reducible apply Pick.there)) ?_ | with_reducible apply Pack.drop))
    · have hltI : ¬ (i : Int) < (g.length : Int) := by omega
      have hin : i = g.length := by omega
      subst hin
      rw [List.take_length] at hs
      have hR2 := hR.out
      have hfl : (frsh g).length = g.length := by unfold frsh; rw [List.length_map]
      have hFL := Box.mk hfl
      subst hR2
      clear hR hfl
      go_wp2_with (first
        | (guard_target = wpList _ _ _ (⟨none, .store _ (.tmp 23) _, _, _, _, _⟩ :: _) _ _; refine wpl (o := ⟨none, .store _ (.tmp 23) _, _, _, _, _⟩) rfl fun K hK => ?_; go_must (refine op_store (hs.pick (A := row b1 (stC s (.slice A s.L.length ca)) 43) (by repeat (first | with_reducible exact Pick.here | with_reducible apply Pick.there))) rfl (b := b1) (i := 3) (v := .slice A3 g.length c3) rfl rfl rfl (by kernel_rfl) (k := 0) rfl (by simp [stC]) fun w7 h => hK _ _ ?_); clear hs hK K; have hs := h; clear h; change Sat W _ (row b1 (rowR s.last s.epoch s.low (.slice A3 g.length c3)) 43 :: _) at hs)
        | (guard_target = wpList _ _ _ (⟨some 24, .load _ _, _, _, _, _⟩ :: _) _ _; refine wpl (o := ⟨some 24, .load _ _, _, _, _, _⟩) rfl fun K hK => op_load_agg rfl (b := b1) (i := 0) rfl ((rowR s.last s.epoch s.low (.slice A3 g.length c3))) (range_whole hs (by (try dsimp only [List.set]); repeat (first | with_reducible exact List.mem_cons_self | with_reducible apply List.mem_cons_of_mem))) (by kernel_rfl) (by kernel_rfl) (hK _ _ ?_); clear hK K)
        | (guard_target = wpList _ _ _ (⟨none, .store _ (.tmp 2) _, _, _, _, _⟩ :: _) _ _; refine wpl (o := ⟨none, .store _ (.tmp 2) _, _, _, _, _⟩) rfl fun K hK => ?_; go_must (refine op_store_whole (hs.pick (A := row b2 [Value.int .i64 0, .int .u32 0, .int .u32 0, .slice none 0 0] 43) (by repeat (first | with_reducible exact Pick.here | with_reducible apply Pick.there))) (b := b2) rfl rfl (rowR s.last s.epoch s.low (.slice A3 g.length c3)) rfl (by simp [rowR, Value.oneCell']) (by kernel_rfl) (k := 0) rfl rfl fun w9 h => hK _ _ ?_); clear hs hK K; have hs := h; clear h; dsimp only [List.set] at hs))
      refine bodyPost_ret (run_results_cell rfl (b := b2) rfl (rowR s.last s.epoch s.low (.slice A3 g.length c3)) (range_whole hs m0) (by kernel_rfl) (by kernel_rfl)) rfl ⟨.slice A3 g.length c3, rfl, ?_⟩
      rw [hFL.out]
      exact hs.pack (by repeat (first | with_reducible exact Pack.refl | with_reducible exact Pack.nil | with_reducible refine Pack.cons (by repeat (first | with_reducible exact Pick.here | with_reducible apply Pick.there)) ?_ | with_reducible apply Pack.drop))
end Go.Proofs.YthjnefpnnifjiaaDoor
