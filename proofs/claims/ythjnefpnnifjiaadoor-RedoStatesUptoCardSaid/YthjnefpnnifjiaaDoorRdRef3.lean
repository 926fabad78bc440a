/- ogiveref11.Writes, the law's same, ogiveref20.Graph and Fresh. -/
import Derived.Test.YthjnefpnnifjiaaDoorRdAwake
set_option linter.unusedVariables false
set_option linter.unusedSimpArgs false
namespace Go.Proofs.YthjnefpnnifjiaaDoor
open Go.RowKit
def two2S (bu ou bv ov : Nat) (cs : List Value) (w : World) : Prop := w.rangeAt bu ou cs ∧ w.rangeAt bv ov cs
set_option maxRecDepth 100000 in
set_option maxHeartbeats 4000000 in
theorem writes_spec (W w : World) (L : List HP) (hs : Sat W w L) (l : List RWr) (u v : Value) (hu : Has L (sliceAt u l.length 4 (wsC l))) (hv : Has L (sliceAt v l.length 4 (wsC l))) (hn : l.length ≤ 1000000) :
    Calls Tryd.prog 26 #[u, v] w fun e w' => e = .returned (.bool true) ∧ Sat W w' L := by
  obtain ⟨Au, cu, rfl, _, _⟩ := slice_form (hs.slice hu)
  obtain ⟨Av, cv, rfl, _, _⟩ := slice_form (hs.slice hv)
  have HU := Box.mk hu
  have HV := Box.mk hv
  clear hu hv
  go_enter Tryd.func26, Tryd.ntmps26
  go_wp2_with fail
  go_loopw [5] (fun v5 wr => ∃ i : Nat, i ≤ l.length ∧ v5 = .int .i64 (i : Nat) ∧ Sat W wr L) (fun v5 _ => l.length - (intOf v5).toNat)
  case atStart => exact ⟨0, by omega, rfl, hs⟩
  case round =>
    clear hs
    obtain ⟨i, hi, rfl, hs⟩ := hrel
    by_cases hlt : i < l.length
    · have hltI : (i : Int) < (l.length : Int) := by omega
      have hwi : IntKind.i64.wrap ((i : Int) + 1) = (i : Int) + 1 := by rw [IntKind.wrap_i64]; omega
      obtain ⟨bu, ou, _, e⟩ := slice_part wC 4 wC_length (by omega) hs (show Has _ (sliceAt (.slice Au l.length cu) l.length 4 (wsC l)) from (by (try dsimp only [List.set]); repeat (first | exact HU.out | apply Has.tail))) (by omega)
      cases e
      obtain ⟨bv, ov, _, e⟩ := slice_part wC 4 wC_length (by omega) hs (show Has _ (sliceAt (.slice Av l.length cv) l.length 4 (wsC l)) from (by (try dsimp only [List.set]); repeat (first | exact HV.out | apply Has.tail))) (by omega)
      cases e
      have cS0 : ∀ w, Sat W w L → two2S bu (ou + i * 4) bv (ov + i * 4) (wC l[i]) w := fun w h => ⟨slice_range wC 4 wC_length h HU.out i hlt, slice_range wC 4 wC_length h HV.out i hlt⟩
      generalize l[i] = y at cS0
      have heq := run_equal_write y
      have r1 : ∀ w, (two2S bu (ou + i * 4) bv (ov + i * 4) (wC y)) w → w.rangeAt bu (ou + i * 4) (wC y) := fun w h => h.1
      have r2 : ∀ w, (two2S bu (ou + i * 4) bv (ov + i * 4) (wC y)) w → w.rangeAt bv (ov + i * 4) (wC y) := fun w h => h.2
      go_wp2_with fail
      have hS0 := cS0 _ hs.drew
      refine wp_region_tree ((two2S bu (ou + i * 4) bv (ov + i * 4) (wC y))) (.take 0 (.take 1 (.take 2 (.take 3 (.take 4 (.take 5 (.take 6 (.take 7 (.take 8 (DTree.done)))))))))) (by kernel_rfl) (by kernel_rfl) (by kernel_rfl) (fun _ _ d _ _ h => by cases d <;> exact h) hS0 ?_
      have hs' := hs.drew
      clear hs
      have hs := hs'
      clear hs'
      have hq := fun p : Prop => class_const hS0 p
      clear hS0
      repeat (first
        | (with_reducible refine tree_load_agg (o := ⟨some 20, .load _ _, _, _, _, _⟩) (wC y) rfl rfl rfl rfl ?_ ?_ r1 ?_; (kernel_rfl); (kernel_rfl))
        | (with_reducible refine tree_load_agg (o := ⟨some 24, .load _ _, _, _, _, _⟩) (wC y) rfl rfl rfl rfl ?_ ?_ r2 ?_; (kernel_rfl); (kernel_rfl))
        | (refine tree_take rfl (fun K hK => ?_); go_simp; (first | with_reducible refine hK _ ?_ | (rw [if_neg (by decide)]; with_reducible refine hK _ ?_)); clear hK K))
      refine tree_done ?_
      clear hq
      go_wp2_with fail
      exact ⟨⟨i + 1, by omega, by go_num, hs⟩, by simp only [intOf]; omega⟩
    · have hltI : ¬ (i : Int) < (l.length : Int) := by omega
      go_wp2_with fail
      go_ret
      exact ⟨rfl, hs⟩
set_option maxRecDepth 100000 in
set_option maxHeartbeats 2000000 in
theorem same_spec (W w : World) (L : List HP) (hs : Sat W w L) (c : RCm) (u v : Value) (hu : Has L (sliceAt u c.W.length 4 (wsC c.W))) (hv : Has L (sliceAt v c.W.length 4 (wsC c.W))) (hn : c.W.length ≤ 1000000) :
    Calls Tryd.prog 14 #[.agg (cmC c u).toArray, .agg (cmC c v).toArray] w fun e w' => e = .returned (.bool true) ∧ Sat W w' L := by
  obtain ⟨Au, cu, rfl, _, _⟩ := slice_form (hs.slice hu)
  obtain ⟨Av, cv, rfl, _, _⟩ := slice_form (hs.slice hv)
  have HU := Box.mk hu
  have HV := Box.mk hv
  have HS := Box.mk (fun w (L : List HP) hs hu hv => writes_spec W w L hs c.W (.slice Au c.W.length cu) (.slice Av c.W.length cv) hu hv hn)
  clear hu hv
  go_enter Tryd.func14, Tryd.ntmps14
  go_wp2_with (first
    | (guard_target = wpList _ _ _ (⟨some 2, .box _ _, _, _, _, _⟩ :: _) _ _; refine wpl (o := ⟨some 2, .box _ _, _, _, _, _⟩) rfl fun K hK => ?_; go_must (refine op_box hs rfl _ rfl (cmC c (.slice Au c.W.length cu)) rfl fun b2 w1 h => hK _ _ ?_); clear hs hK K; have hs := h; clear h; try dsimp only [List.set] at hs)
    | (guard_target = wpList _ _ _ (⟨some 3, .box _ _, _, _, _, _⟩ :: _) _ _; refine wpl (o := ⟨some 3, .box _ _, _, _, _, _⟩) rfl fun K hK => ?_; go_must (refine op_box hs rfl _ rfl (cmC c (.slice Av c.W.length cv)) rfl fun b3 w1 h => hK _ _ ?_); clear hs hK K; have hs := h; clear h
       have k6 : w1.cell? ⟨b2, 0, none⟩ = some (.int .i64 c.ts) := hs.cell (l := cmC c (.slice Au c.W.length cu)) (t := 24) (by (try dsimp only [List.set]); repeat (first | with_reducible exact List.mem_cons_self | with_reducible apply List.mem_cons_of_mem)) rfl
       have k8 : w1.cell? ⟨b3, 0, none⟩ = some (.int .i64 c.ts) := hs.cell (l := cmC c (.slice Av c.W.length cv)) (t := 24) (by (try dsimp only [List.set]); repeat (first | with_reducible exact List.mem_cons_self | with_reducible apply List.mem_cons_of_mem)) rfl
       have k12 : w1.cell? ⟨b2, 1, none⟩ = some (.slice Au c.W.length cu) := hs.cell (l := cmC c (.slice Au c.W.length cu)) (t := 24) (by (try dsimp only [List.set]); repeat (first | with_reducible exact List.mem_cons_self | with_reducible apply List.mem_cons_of_mem)) rfl
       have k14 : w1.cell? ⟨b3, 1, none⟩ = some (.slice Av c.W.length cv) := hs.cell (l := cmC c (.slice Av c.W.length cv)) (t := 24) (by (try dsimp only [List.set]); repeat (first | with_reducible exact List.mem_cons_self | with_reducible apply List.mem_cons_of_mem)) rfl)
    | (guard_target = wpList _ _ _ (⟨some 6, .load _ _, _, _, _, _⟩ :: _) _ _; refine wpl (o := ⟨some 6, .load _ _, _, _, _, _⟩) rfl fun K hK => op_load rfl (ad := ⟨b2, 0, none⟩) rfl (by kernel_rfl) k6 (hK _ _ ?_); clear hK K)
    | (guard_target = wpList _ _ _ (⟨some 8, .load _ _, _, _, _, _⟩ :: _) _ _; refine wpl (o := ⟨some 8, .load _ _, _, _, _, _⟩) rfl fun K hK => op_load rfl (ad := ⟨b3, 0, none⟩) rfl (by kernel_rfl) k8 (hK _ _ ?_); clear hK K)
    | (guard_target = wpList _ _ _ (⟨some 12, .load _ _, _, _, _, _⟩ :: _) _ _; refine wpl (o := ⟨some 12, .load _ _, _, _, _, _⟩) rfl fun K hK => op_load rfl (ad := ⟨b2, 1, none⟩) rfl (by kernel_rfl) k12 (hK _ _ ?_); clear hK K)
    | (guard_target = wpList _ _ _ (⟨some 14, .load _ _, _, _, _, _⟩ :: _) _ _; refine wpl (o := ⟨some 14, .load _ _, _, _, _, _⟩) rfl fun K hK => op_load rfl (ad := ⟨b3, 1, none⟩) rfl (by kernel_rfl) k14 (hK _ _ ?_); clear hK K)
    | (go_at_call 26; go_must (refine (HS.out _ _ hs (show Has _ (sliceAt (.slice Au c.W.length cu) c.W.length 4 (wsC c.W)) from (by (try dsimp only [List.set]); repeat (first | exact HU.out | apply Has.tail))) (show Has _ (sliceAt (.slice Av c.W.length cv) c.W.length 4 (wsC c.W)) from (by (try dsimp only [List.set]); repeat (first | exact HV.out | apply Has.tail)))).mono ?_); clear hs; rintro e w1 ⟨rfl, hs⟩))
  go_ret
  exact ⟨rfl, hs.pack (by repeat (first | with_reducible exact Pack.refl | with_reducible exact Pack.nil | with_reducible refine Pack.cons (by repeat (first | with_reducible exact Pick.here | with_reducible apply Pick.there)) ?_ | with_reducible apply Pack.drop))⟩
def rgS (b1 : Nat) (v : Value) (ba o : Nat) (cs : List Value) (w : World) : Prop := w.cell? ⟨b1, 3, none⟩ = some v ∧ w.rangeAt ba o cs
set_option maxRecDepth 100000 in
set_option maxHeartbeats 8000000 in
theorem rgraph_spec (W w : World) (L : List HP) (hs : Sat W w L) (s : RSt) (v : Value) (hv : Has L (sliceAt v s.L.length 5 (csC s.L))) (hn : s.L.length ≤ 1000000) :
    Calls Tryd.prog 28 #[.agg (stC s v).toArray] w fun e w' => ∃ v', e = .returned v' ∧ Sat W w' (own v' 61 (graphL s.L).length 4 (wsC (graphL s.L)) :: L) := by
  obtain ⟨A, ca, rfl, _, _⟩ := slice_form (hs.slice hv)
  have HV := Box.mk hv
  clear hv
  go_enter Tryd.func28, Tryd.ntmps28
  go_wp2_with (first
    | (guard_target = wpList _ _ _ (⟨some 1, .box _ _, _, _, _, _⟩ :: _) _ _; refine wpl (o := ⟨some 1, .box _ _, _, _, _, _⟩) rfl fun K hK => ?_; go_must (refine op_box hs rfl _ rfl (stC s (.slice A s.L.length ca)) rfl fun b1 w1 h => hK _ _ ?_); clear hs hK K; have hs := h; clear h; try dsimp only [List.set] at hs))
  go_loopw [3, 4] (fun v3 v4 wr => ∃ i : Nat, i ≤ s.L.length ∧ v4 = .int .i64 (i : Nat) ∧ Sat W wr (own v3 61 (graphL (s.L.take i)).length 4 (wsC (graphL (s.L.take i))) :: row b1 (stC s (.slice A s.L.length ca)) 39 :: L)) (fun _ v4 _ => s.L.length - (intOf v4).toNat)
  case atStart => exact ⟨0, by omega, rfl, (hs.addNil none 61 4).pack (L := own (.slice none 0 0) 61 0 4 [] :: row b1 (stC s (.slice A s.L.length ca)) 39 :: L) (by repeat (first | with_reducible exact Pack.refl | with_reducible exact Pack.nil | with_reducible refine Pack.cons (by repeat (first | with_reducible exact Pick.here | with_reducible apply Pick.there)) ?_ | with_reducible apply Pack.drop))⟩
  case round =>
    clear hs
    obtain ⟨i, hi, rfl, hs⟩ := hrel
    have hgl : (graphL (s.L.take i)).length ≤ s.L.length := graphL_take s.L i
    obtain ⟨A3, c3, rfl, _, _⟩ := own_slice hs (i := 0) rfl
    by_cases hlt : i < s.L.length
    · have hltI : (i : Int) < (s.L.length : Int) := by omega
      have hwi : IntKind.i64.wrap ((i : Int) + 1) = (i : Int) + 1 := by rw [IntKind.wrap_i64]; omega
      obtain ⟨ba, oa, _, e⟩ := slice_part cC 5 cC_length (by omega) hs (show Has _ (sliceAt (.slice A s.L.length ca) s.L.length 5 (csC s.L)) from (by (try dsimp only [List.set]); repeat (first | exact HV.out | apply Has.tail))) (by omega)
      cases e
      have hr := fun w (M : List HP) (h : Sat W w M) (hM : ∃ M0, M = M0 ++ L) => slice_range cC 5 cC_length h (show Has M (sliceAt (.slice (some ⟨ba, oa, none⟩) s.L.length ca) s.L.length 5 (csC s.L)) from by obtain ⟨M0, e⟩ := hM; rw [e]; exact HV.out.app) i hlt
      have hsn := graphL_snoc s.L i hlt
      generalize graphL (s.L.take i) = g at hs hsn hgl
      generalize s.L[i] = y at hr hsn
      obtain ⟨q, hq1⟩ : ∃ q, (y.v == ([] : List UInt8)) = q := ⟨_, rfl⟩
      rw [hq1] at hsn
      have HSN := Box.mk hsn
      have HR := Box.mk hr
      clear hsn hr
      have k17 : ∀ w M, Sat W w M → (∃ M0, M = M0 ++ L) → w.cell? ⟨ba, oa + i * 5 + 4, none⟩ = some (.string ⟨(y.v).toArray⟩) := fun w M h hM => HR.out w M h hM 4 _ rfl
      cases q with
      | true =>
        go_wp2_with (first
          | (guard_target = wpList _ _ _ (⟨some 7, .load _ _, _, _, _, _⟩ :: _) _ _; refine wpl (o := ⟨some 7, .load _ _, _, _, _, _⟩) rfl fun K hK => op_load rfl (ad := ⟨b1, 3, none⟩) rfl (by kernel_rfl) (hs.cell (l := stC s (.slice (some ⟨ba, oa, none⟩) s.L.length ca)) (t := 39) (by (try dsimp only [List.set]); repeat (first | with_reducible exact List.mem_cons_self | with_reducible apply List.mem_cons_of_mem)) rfl) (hK _ _ ?_); clear hK K)
          | (guard_target = wpList _ _ _ (⟨some 13, .load _ _, _, _, _, _⟩ :: _) _ _; refine wpl (o := ⟨some 13, .load _ _, _, _, _, _⟩) rfl fun K hK => op_load rfl (ad := ⟨b1, 3, none⟩) rfl (by kernel_rfl) (hs.cell (l := stC s (.slice (some ⟨ba, oa, none⟩) s.L.length ca)) (t := 39) (by (try dsimp only [List.set]); repeat (first | with_reducible exact List.mem_cons_self | with_reducible apply List.mem_cons_of_mem)) rfl) (hK _ _ ?_); clear hK K)
          | (guard_target = wpList _ _ _ (⟨some 17, .load _ _, _, _, _, _⟩ :: _) _ _; refine wpl (o := ⟨some 17, .load _ _, _, _, _, _⟩) rfl fun K hK => op_load rfl (ad := ⟨ba, oa + i * 5 + 4, none⟩) rfl (by kernel_rfl) (k17 _ _ hs ⟨[_, _], rfl⟩) (hK _ _ ?_); clear hK K))
        refine ⟨⟨i + 1, by omega, by go_num, ?_⟩, by simp only [intOf]; omega⟩
        rw [HSN.out, if_pos rfl, List.append_nil]
        exact hs.pack (by repeat (first | with_reducible exact Pack.refl | with_reducible exact Pack.nil | with_reducible refine Pack.cons (by repeat (first | with_reducible exact Pick.here | with_reducible apply Pick.there)) ?_ | with_reducible apply Pack.drop))
      | false =>
        have cS : ∀ w M, Sat W w M → row b1 (stC s (.slice (some ⟨ba, oa, none⟩) s.L.length ca)) 39 ∈ M → (∃ M0, M = M0 ++ L) → (rgS b1 (.slice (some ⟨ba, oa, none⟩) s.L.length ca) ba (oa + i * 5) (cC y)) w := fun w M h h1 h2 => ⟨h.cell h1 rfl, HR.out w M h h2⟩
        have h21 : ∀ w, (rgS b1 (.slice (some ⟨ba, oa, none⟩) s.L.length ca) ba (oa + i * 5) (cC y)) w → w.cell? ⟨b1, 3, none⟩ = some (.slice (some ⟨ba, oa, none⟩) s.L.length ca) := fun w h => h.1
        have h25 : ∀ w, (rgS b1 (.slice (some ⟨ba, oa, none⟩) s.L.length ca) ba (oa + i * 5) (cC y)) w → w.rangeAt ba (oa + i * 5) [.int .i64 y.k.kind, .int .i64 y.k.a, .int .i64 y.k.b] := fun w h => range_pre (ds := [.int .i64 y.ts, (.string ⟨(y.v).toArray⟩)]) h.2
        have h31 : ∀ w, (rgS b1 (.slice (some ⟨ba, oa, none⟩) s.L.length ca) ba (oa + i * 5) (cC y)) w → w.cell? ⟨ba, oa + i * 5 + 4, none⟩ = some (.string ⟨(y.v).toArray⟩) := fun w h => h.2 4 _ rfl
        go_wp2_with (first
          | (guard_target = wpList _ _ _ (⟨some 7, .load _ _, _, _, _, _⟩ :: _) _ _; refine wpl (o := ⟨some 7, .load _ _, _, _, _, _⟩) rfl fun K hK => op_load rfl (ad := ⟨b1, 3, none⟩) rfl (by kernel_rfl) (hs.cell (l := stC s (.slice (some ⟨ba, oa, none⟩) s.L.length ca)) (t := 39) (by (try dsimp only [List.set]); repeat (first | with_reducible exact List.mem_cons_self | with_reducible apply List.mem_cons_of_mem)) rfl) (hK _ _ ?_); clear hK K)
          | (guard_target = wpList _ _ _ (⟨some 13, .load _ _, _, _, _, _⟩ :: _) _ _; refine wpl (o := ⟨some 13, .load _ _, _, _, _, _⟩) rfl fun K hK => op_load rfl (ad := ⟨b1, 3, none⟩) rfl (by kernel_rfl) (hs.cell (l := stC s (.slice (some ⟨ba, oa, none⟩) s.L.length ca)) (t := 39) (by (try dsimp only [List.set]); repeat (first | with_reducible exact List.mem_cons_self | with_reducible apply List.mem_cons_of_mem)) rfl) (hK _ _ ?_); clear hK K)
          | (guard_target = wpList _ _ _ (⟨some 17, .load _ _, _, _, _, _⟩ :: _) _ _; refine wpl (o := ⟨some 17, .load _ _, _, _, _, _⟩) rfl fun K hK => op_load rfl (ad := ⟨ba, oa + i * 5 + 4, none⟩) rfl (by kernel_rfl) (k17 _ _ hs ⟨[_, _], rfl⟩) (hK _ _ ?_); clear hK K))
        have hS0 := cS _ _ hs.drew (by (try dsimp only [List.set]); repeat (first | with_reducible exact List.mem_cons_self | with_reducible apply List.mem_cons_of_mem)) (by (try dsimp only [List.set]); first | exact ⟨[_, _], rfl⟩ | exact ⟨[_, _, _], rfl⟩ | exact ⟨[_, _, _, _], rfl⟩ | exact ⟨[_, _, _, _, _], rfl⟩)
        refine wp_region_tree ((rgS b1 (.slice (some ⟨ba, oa, none⟩) s.L.length ca) ba (oa + i * 5) (cC y))) (.take 0 (.take 1 (.take 2 (.take 3 (.take 4 (.take 5 (.take 6 (.take 7 (.take 8 (.take 9 (.take 10 (.take 11 (.take 12 (.take 13 (.all [(14, .all [(15, .take 16 (DTree.done))])]))))))))))))))) (by kernel_rfl) (by kernel_rfl) (by kernel_rfl) (fun _ _ d _ _ h => by cases d <;> exact h) hS0 ?_
        have hs' := hs.drew
        clear hs
        have hs := hs'
        clear hs'
        have hq := fun p : Prop => class_const hS0 p
        clear hS0
        repeat (first
          | (with_reducible refine tree_load (o := ⟨some 21, .load _ _, _, _, _, _⟩) rfl rfl rfl rfl rfl h21 ?_)
          | (with_reducible refine tree_load_agg (o := ⟨some 25, .load _ _, _, _, _, _⟩) [.int .i64 y.k.kind, .int .i64 y.k.a, .int .i64 y.k.b] rfl rfl rfl rfl ?_ ?_ h25 ?_; (kernel_rfl); (kernel_rfl))
          | (with_reducible refine tree_load (o := ⟨some 27, .load _ _, _, _, _, _⟩) rfl rfl rfl rfl rfl h21 ?_)
          | (with_reducible refine tree_load (o := ⟨some 31, .load _ _, _, _, _, _⟩) rfl rfl rfl rfl rfl h31 ?_)
          | (refine tree_take rfl (fun K hK => ?_); go_simp; (first | with_reducible refine hK _ ?_ | (rw [if_neg (by decide)]; with_reducible refine hK _ ?_)); clear hK K))
        refine tree_one_yes (o := _) rfl rfl (fun K hK => ?_) (cS _ _ hs (by (try dsimp only [List.set]); repeat (first | with_reducible exact List.mem_cons_self | with_reducible apply List.mem_cons_of_mem)) (by (try dsimp only [List.set]); first | exact ⟨[_, _], rfl⟩ | exact ⟨[_, _, _], rfl⟩ | exact ⟨[_, _, _, _], rfl⟩ | exact ⟨[_, _, _, _, _], rfl⟩))
        refine op_lit_agg1 hs rfl Tryd.underlying22 info_write (wC ⟨y.k, y.v⟩) rfl rfl (by omega) (by omega) fun b33 w1 h => hK _ _ (cS _ _ h (by (try dsimp only [List.set]); repeat (first | with_reducible exact List.mem_cons_self | with_reducible apply List.mem_cons_of_mem)) (by (try dsimp only [List.set]); first | exact ⟨[_, _], rfl⟩ | exact ⟨[_, _, _], rfl⟩ | exact ⟨[_, _, _, _], rfl⟩ | exact ⟨[_, _, _, _, _], rfl⟩)) ?_
        clear hs hK K
        have hs := h
        clear h
        try dsimp only [List.set] at hs
        try go_simp
        refine tree_one_yes (o := _) rfl rfl (fun K hK => ?_) (cS _ _ hs (by (try dsimp only [List.set]); repeat (first | with_reducible exact List.mem_cons_self | with_reducible apply List.mem_cons_of_mem)) (by (try dsimp only [List.set]); first | exact ⟨[_, _], rfl⟩ | exact ⟨[_, _, _], rfl⟩ | exact ⟨[_, _, _, _], rfl⟩ | exact ⟨[_, _, _, _, _], rfl⟩))
        refine op_append (hs.pick (A := own (.slice A3 g.length c3) 61 g.length 4 (wsC g)) (by repeat (first | with_reducible exact Pick.here | with_reducible apply Pick.there))) rfl Tryd.underlying22 Tryd.underlying22 info_write rfl (by omega) (k := 0) rfl rfl rfl (Has.of (A := row b33 (wC ⟨y.k, y.v⟩) 61) (by (try dsimp only [List.set]); repeat (first | with_reducible exact List.mem_cons_self | with_reducible apply List.mem_cons_of_mem)) fun F hF => own_sliceAt F (own_exact (n := 1) (sz := 4) rfl (by omega) F hF)) (wC_one _) (by omega) (by omega) fun v34 w2 h => hK _ _ (cS _ _ h (by (try dsimp only [List.set]); repeat (first | with_reducible exact List.mem_cons_self | with_reducible apply List.mem_cons_of_mem)) (by (try dsimp only [List.set]); first | exact ⟨[_, _], rfl⟩ | exact ⟨[_, _, _], rfl⟩ | exact ⟨[_, _, _, _], rfl⟩ | exact ⟨[_, _, _, _, _], rfl⟩)) ?_
        clear hs hK K
        have hs := h
        clear h
        try dsimp only [List.set] at hs
        try go_simp
        repeat (first
          | (with_reducible refine tree_load (o := ⟨some 21, .load _ _, _, _, _, _⟩) rfl rfl rfl rfl rfl h21 ?_)
          | (with_reducible refine tree_load_agg (o := ⟨some 25, .load _ _, _, _, _, _⟩) [.int .i64 y.k.kind, .int .i64 y.k.a, .int .i64 y.k.b] rfl rfl rfl rfl ?_ ?_ h25 ?_; (kernel_rfl); (kernel_rfl))
          | (with_reducible refine tree_load (o := ⟨some 27, .load _ _, _, _, _, _⟩) rfl rfl rfl rfl rfl h21 ?_)
          | (with_reducible refine tree_load (o := ⟨some 31, .load _ _, _, _, _, _⟩) rfl rfl rfl rfl rfl h31 ?_)
          | (refine tree_take rfl (fun K hK => ?_); go_simp; (first | with_reducible refine hK _ ?_ | (rw [if_neg (by decide)]; with_reducible refine hK _ ?_)); clear hK K))
        refine tree_done ?_
        clear hq
        go_wp2_with fail
        refine ⟨⟨i + 1, by omega, by go_num, ?_⟩, by simp only [intOf]; omega⟩
        rw [HSN.out, if_neg (by simp), wsC_snoc, List.length_append, List.length_singleton]
        exact hs.pack (by repeat (first | with_reducible exact Pack.refl | with_reducible exact Pack.nil | with_reducible refine Pack.cons (by repeat (first | with_reducible exact Pick.here | with_reducible apply Pick.there)) ?_ | with_reducible apply Pack.drop))
    · have hltI : ¬ (i : Int) < (s.L.length : Int) := by omega
      have hin : i = s.L.length := by omega
      subst hin
      rw [List.take_length] at hs
      go_wp2_with (first
        | (guard_target = wpList _ _ _ (⟨some 7, .load _ _, _, _, _, _⟩ :: _) _ _; refine wpl (o := ⟨some 7, .load _ _, _, _, _, _⟩) rfl fun K hK => op_load rfl (ad := ⟨b1, 3, none⟩) rfl (by kernel_rfl) (hs.cell (l := stC s (.slice A s.L.length ca)) (t := 39) (by (try dsimp only [List.set]); repeat (first | with_reducible exact List.mem_cons_self | with_reducible apply List.mem_cons_of_mem)) rfl) (hK _ _ ?_); clear hK K))
      go_ret
      exact ⟨.slice A3 (graphL s.L).length c3, rfl, hs.pack (L := own (.slice A3 (graphL s.L).length c3) 61 (graphL s.L).length 4 (wsC (graphL s.L)) :: L) (by repeat (first | with_reducible exact Pack.refl | with_reducible exact Pack.nil | with_reducible refine Pack.cons (by repeat (first | with_reducible exact Pick.here | with_reducible apply Pick.there)) ?_ | with_reducible apply Pack.drop))⟩
theorem freshL_snoc (l : List RCl) (i : Nat) (h : i < l.length) : freshL (l.take (i + 1)) = freshL (l.take i) ++ (if (l[i].v == ([] : List UInt8)) = true then [] else [⟨l[i].k, 0, l[i].v⟩]) := by
  unfold freshL
  rw [graphL_snoc l i h, List.map_append]
  split <;> rfl
set_option maxRecDepth 100000 in
set_option maxHeartbeats 8000000 in
theorem rfresh_spec (W w : World) (L : List HP) (hs : Sat W w L) (s : RSt) (v : Value) (hv : Has L (sliceAt v s.L.length 5 (csC s.L))) (hn : s.L.length ≤ 1000000) :
    Calls Tryd.prog 30 #[.agg (stC s v).toArray] w (freshPost (fresh s) 107 W L) := by
  unfold freshPost
  obtain ⟨R, hR0⟩ : ∃ R, fresh s = R := ⟨_, rfl⟩
  rw [hR0]
  have hR := Box.mk hR0
  clear hR0
  obtain ⟨A, ca, rfl, _, _⟩ := slice_form (hs.slice hv)
  have HV := Box.mk hv
  have hz := run_zero (P := Tryd.prog) zrstate
  clear hv
  go_enter Tryd.func30, Tryd.ntmps30
  go_wp2_with (first
    | (guard_target = wpList _ _ _ (⟨some 1, .box _ _, _, _, _, _⟩ :: _) _ _; refine wpl (o := ⟨some 1, .box _ _, _, _, _, _⟩) rfl fun K hK => ?_; go_must (refine op_box hs rfl _ rfl (stC s (.slice A s.L.length ca)) rfl fun b1 w1 h => hK _ _ ?_); clear hs hK K; have hs := h; clear h; try dsimp only [List.set] at hs)
    | (guard_target = wpList _ _ _ (⟨some 2, .alloc _, _, _, _, _⟩ :: _) _ _; refine wpl (o := ⟨some 2, .alloc _, _, _, _, _⟩) rfl fun K hK => ?_; go_must (refine op_alloc hs rfl _ zrstate [Value.int .i64 0, .int .u32 0, .int .u32 0, .slice none 0 0] rfl fun b2 w1 h => hK _ _ ?_); clear hs hK K; have hs := h; clear h; try dsimp only [List.set] at hs))
  go_loopw [3, 4] (fun v3 v4 wr => ∃ i : Nat, i ≤ s.L.length ∧ v4 = .int .i64 (i : Nat) ∧ Sat W wr (own v3 107 (freshL (s.L.take i)).length 5 (csC (freshL (s.L.take i))) :: row b1 (stC s (.slice A s.L.length ca)) 39 :: row b2 [Value.int .i64 0, .int .u32 0, .int .u32 0, .slice none 0 0] 39 :: L)) (fun _ v4 _ => s.L.length - (intOf v4).toNat)
  case atStart => exact ⟨0, by omega, rfl, (hs.addNil none 107 5).pack (L := own (.slice none 0 0) 107 0 5 [] :: row b1 (stC s (.slice A s.L.length ca)) 39 :: row b2 [Value.int .i64 0, .int .u32 0, .int .u32 0, .slice none 0 0] 39 :: L) (by repeat (first | with_reducible exact Pack.refl | with_reducible exact Pack.nil | with_reducible refine Pack.cons (by repeat (first | with_reducible exact Pick.here | with_reducible apply Pick.there)) ?_ | with_reducible apply Pack.drop))⟩
  case round =>
    clear hs
    obtain ⟨i, hi, rfl, hs⟩ := hrel
    have hgl : (freshL (s.L.take i)).length ≤ s.L.length := (by rw [freshL_len]; exact graphL_take s.L i)
    obtain ⟨A3, c3, rfl, _, _⟩ := own_slice hs (i := 0) rfl
    by_cases hlt : i < s.L.length
    · have hltI : (i : Int) < (s.L.length : Int) := by omega
      have hwi : IntKind.i64.wrap ((i : Int) + 1) = (i : Int) + 1 := by rw [IntKind.wrap_i64]; omega
      obtain ⟨ba, oa, _, e⟩ := slice_part cC 5 cC_length (by omega) hs (show Has _ (sliceAt (.slice A s.L.length ca) s.L.length 5 (csC s.L)) from (by (try dsimp only [List.set]); repeat (first | exact HV.out | apply Has.tail))) (by omega)
      cases e
      have hr := fun w (M : List HP) (h : Sat W w M) (hM : ∃ M0, M = M0 ++ L) => slice_range cC 5 cC_length h (show Has M (sliceAt (.slice (some ⟨ba, oa, none⟩) s.L.length ca) s.L.length 5 (csC s.L)) from by obtain ⟨M0, e⟩ := hM; rw [e]; exact HV.out.app) i hlt
      have hsn := freshL_snoc s.L i hlt
      generalize freshL (s.L.take i) = g at hs hsn hgl
      generalize s.L[i] = y at hr hsn
      obtain ⟨q, hq1⟩ : ∃ q, (y.v == ([] : List UInt8)) = q := ⟨_, rfl⟩
      rw [hq1] at hsn
      have HSN := Box.mk hsn
      have HR := Box.mk hr
      clear hsn hr
      have k17 : ∀ w M, Sat W w M → (∃ M0, M = M0 ++ L) → w.cell? ⟨ba, oa + i * 5 + 4, none⟩ = some (.string ⟨(y.v).toArray⟩) := fun w M h hM => HR.out w M h hM 4 _ rfl
      cases q with
      | true =>
        go_wp2_with (first
          | (guard_target = wpList _ _ _ (⟨some 7, .load _ _, _, _, _, _⟩ :: _) _ _; refine wpl (o := ⟨some 7, .load _ _, _, _, _, _⟩) rfl fun K hK => op_load rfl (ad := ⟨b1, 3, none⟩) rfl (by kernel_rfl) (hs.cell (l := stC s (.slice (some ⟨ba, oa, none⟩) s.L.length ca)) (t := 39) (by (try dsimp only [List.set]); repeat (first | with_reducible exact List.mem_cons_self | with_reducible apply List.mem_cons_of_mem)) rfl) (hK _ _ ?_); clear hK K)
          | (guard_target = wpList _ _ _ (⟨some 13, .load _ _, _, _, _, _⟩ :: _) _ _; refine wpl (o := ⟨some 13, .load _ _, _, _, _, _⟩) rfl fun K hK => op_load rfl (ad := ⟨b1, 3, none⟩) rfl (by kernel_rfl) (hs.cell (l := stC s (.slice (some ⟨ba, oa, none⟩) s.L.length ca)) (t := 39) (by (try dsimp only [List.set]); repeat (first | with_reducible exact List.mem_cons_self | with_reducible apply List.mem_cons_of_mem)) rfl) (hK _ _ ?_); clear hK K)
          | (guard_target = wpList _ _ _ (⟨some 17, .load _ _, _, _, _, _⟩ :: _) _ _; refine wpl (o := ⟨some 17, .load _ _, _, _, _, _⟩) rfl fun K hK => op_load rfl (ad := ⟨ba, oa + i * 5 + 4, none⟩) rfl (by kernel_rfl) (k17 _ _ hs ⟨[_, _, _], rfl⟩) (hK _ _ ?_); clear hK K))
        refine ⟨⟨i + 1, by omega, by go_num, ?_⟩, by simp only [intOf]; omega⟩
        rw [HSN.out, if_pos rfl, List.append_nil]
        exact hs.pack (by repeat (first | with_reducible exact Pack.refl | with_reducible exact Pack.nil | with_reducible refine Pack.cons (by repeat (first | with_reducible exact Pick.here | with_reducible apply Pick.there)) ?_ | with_reducible apply Pack.drop))
      | false =>
        have cS : ∀ w M, Sat W w M → row b1 (stC s (.slice (some ⟨ba, oa, none⟩) s.L.length ca)) 39 ∈ M → (∃ M0, M = M0 ++ L) → (rgS b1 (.slice (some ⟨ba, oa, none⟩) s.L.length ca) ba (oa + i * 5) (cC y)) w := fun w M h h1 h2 => ⟨h.cell h1 rfl, HR.out w M h h2⟩
        have h21 : ∀ w, (rgS b1 (.slice (some ⟨ba, oa, none⟩) s.L.length ca) ba (oa + i * 5) (cC y)) w → w.cell? ⟨b1, 3, none⟩ = some (.slice (some ⟨ba, oa, none⟩) s.L.length ca) := fun w h => h.1
        have h25 : ∀ w, (rgS b1 (.slice (some ⟨ba, oa, none⟩) s.L.length ca) ba (oa + i * 5) (cC y)) w → w.rangeAt ba (oa + i * 5) [.int .i64 y.k.kind, .int .i64 y.k.a, .int .i64 y.k.b] := fun w h => range_pre (ds := [.int .i64 y.ts, (.string ⟨(y.v).toArray⟩)]) h.2
        have h31 : ∀ w, (rgS b1 (.slice (some ⟨ba, oa, none⟩) s.L.length ca) ba (oa + i * 5) (cC y)) w → w.cell? ⟨ba, oa + i * 5 + 4, none⟩ = some (.string ⟨(y.v).toArray⟩) := fun w h => h.2 4 _ rfl
        go_wp2_with (first
          | (guard_target = wpList _ _ _ (⟨some 7, .load _ _, _, _, _, _⟩ :: _) _ _; refine wpl (o := ⟨some 7, .load _ _, _, _, _, _⟩) rfl fun K hK => op_load rfl (ad := ⟨b1, 3, none⟩) rfl (by kernel_rfl) (hs.cell (l := stC s (.slice (some ⟨ba, oa, none⟩) s.L.length ca)) (t := 39) (by (try dsimp only [List.set]); repeat (first | with_reducible exact List.mem_cons_self | with_reducible apply List.mem_cons_of_mem)) rfl) (hK _ _ ?_); clear hK K)
          | (guard_target = wpList _ _ _ (⟨some 13, .load _ _, _, _, _, _⟩ :: _) _ _; refine wpl (o := ⟨some 13, .load _ _, _, _, _, _⟩) rfl fun K hK => op_load rfl (ad := ⟨b1, 3, none⟩) rfl (by kernel_rfl) (hs.cell (l := stC s (.slice (some ⟨ba, oa, none⟩) s.L.length ca)) (t := 39) (by (try dsimp only [List.set]); repeat (first | with_reducible exact List.mem_cons_self | with_reducible apply List.mem_cons_of_mem)) rfl) (hK _ _ ?_); clear hK K)
          | (guard_target = wpList _ _ _ (⟨some 17, .load _ _, _, _, _, _⟩ :: _) _ _; refine wpl (o := ⟨some 17, .load _ _, _, _, _, _⟩) rfl fun K hK => op_load rfl (ad := ⟨ba, oa + i * 5 + 4, none⟩) rfl (by kernel_rfl) (k17 _ _ hs ⟨[_, _, _], rfl⟩) (hK _ _ ?_); clear hK K))
        have hS0 := cS _ _ hs.drew (by (try dsimp only [List.set]); repeat (first | with_reducible exact List.mem_cons_self | with_reducible apply List.mem_cons_of_mem)) (by (try dsimp only [List.set]); first | exact ⟨[_, _], rfl⟩ | exact ⟨[_, _, _], rfl⟩ | exact ⟨[_, _, _, _], rfl⟩ | exact ⟨[_, _, _, _, _], rfl⟩)
        refine wp_region_tree ((rgS b1 (.slice (some ⟨ba, oa, none⟩) s.L.length ca) ba (oa + i * 5) (cC y))) (.take 0 (.take 1 (.take 2 (.take 3 (.take 4 (.take 5 (.take 6 (.take 7 (.take 8 (.take 9 (.take 10 (.take 11 (.take 12 (.take 13 (.all [(14, .all [(15, .take 16 (DTree.done))])]))))))))))))))) (by kernel_rfl) (by kernel_rfl) (by kernel_rfl) (fun _ _ d _ _ h => by cases d <;> exact h) hS0 ?_
        have hs' := hs.drew
        clear hs
        have hs := hs'
        clear hs'
        have hq := fun p : Prop => class_const hS0 p
        clear hS0
        repeat (first
          | (with_reducible refine tree_load (o := ⟨some 21, .load _ _, _, _, _, _⟩) rfl rfl rfl rfl rfl h21 ?_)
          | (with_reducible refine tree_load_agg (o := ⟨some 25, .load _ _, _, _, _, _⟩) [.int .i64 y.k.kind, .int .i64 y.k.a, .int .i64 y.k.b] rfl rfl rfl rfl ?_ ?_ h25 ?_; (kernel_rfl); (kernel_rfl))
          | (with_reducible refine tree_load (o := ⟨some 27, .load _ _, _, _, _, _⟩) rfl rfl rfl rfl rfl h21 ?_)
          | (with_reducible refine tree_load (o := ⟨some 31, .load _ _, _, _, _, _⟩) rfl rfl rfl rfl rfl h31 ?_)
          | (refine tree_take rfl (fun K hK => ?_); go_simp; (first | with_reducible refine hK _ ?_ | (rw [if_neg (by decide)]; with_reducible refine hK _ ?_)); clear hK K))
        refine tree_one_yes (o := _) rfl rfl (fun K hK => ?_) (cS _ _ hs (by (try dsimp only [List.set]); repeat (first | with_reducible exact List.mem_cons_self | with_reducible apply List.mem_cons_of_mem)) (by (try dsimp only [List.set]); first | exact ⟨[_, _], rfl⟩ | exact ⟨[_, _, _], rfl⟩ | exact ⟨[_, _, _, _], rfl⟩ | exact ⟨[_, _, _, _, _], rfl⟩))
        refine op_lit_agg1 hs rfl Tryd.underlying37 info_rcell (cC ⟨y.k, 0, y.v⟩) rfl rfl (by omega) (by omega) fun b33 w1 h => hK _ _ (cS _ _ h (by (try dsimp only [List.set]); repeat (first | with_reducible exact List.mem_cons_self | with_reducible apply List.mem_cons_of_mem)) (by (try dsimp only [List.set]); first | exact ⟨[_, _], rfl⟩ | exact ⟨[_, _, _], rfl⟩ | exact ⟨[_, _, _, _], rfl⟩ | exact ⟨[_, _, _, _, _], rfl⟩)) ?_
        clear hs hK K
        have hs := h
        clear h
        try dsimp only [List.set] at hs
        try go_simp
        refine tree_one_yes (o := _) rfl rfl (fun K hK => ?_) (cS _ _ hs (by (try dsimp only [List.set]); repeat (first | with_reducible exact List.mem_cons_self | with_reducible apply List.mem_cons_of_mem)) (by (try dsimp only [List.set]); first | exact ⟨[_, _], rfl⟩ | exact ⟨[_, _, _], rfl⟩ | exact ⟨[_, _, _, _], rfl⟩ | exact ⟨[_, _, _, _, _], rfl⟩))
        refine op_append (hs.pick (A := own (.slice A3 g.length c3) 107 g.length 5 (csC g)) (by repeat (first | with_reducible exact Pick.here | with_reducible apply Pick.there))) rfl Tryd.underlying37 Tryd.underlying37 info_rcell rfl (by omega) (k := 0) rfl rfl rfl (Has.of (A := row b33 (cC ⟨y.k, 0, y.v⟩) 107) (by (try dsimp only [List.set]); repeat (first | with_reducible exact List.mem_cons_self | with_reducible apply List.mem_cons_of_mem)) fun F hF => own_sliceAt F (own_exact (n := 1) (sz := 5) rfl (by omega) F hF)) (cC_one _) (by omega) (by omega) fun v34 w2 h => hK _ _ (cS _ _ h (by (try dsimp only [List.set]); repeat (first | with_reducible exact List.mem_cons_self | with_reducible apply List.mem_cons_of_mem)) (by (try dsimp only [List.set]); first | exact ⟨[_, _], rfl⟩ | exact ⟨[_, _, _], rfl⟩ | exact ⟨[_, _, _, _], rfl⟩ | exact ⟨[_, _, _, _, _], rfl⟩)) ?_
        clear hs hK K
        have hs := h
        clear h
        try dsimp only [List.set] at hs
        try go_simp
        repeat (first
          | (with_reducible refine tree_load (o := ⟨some 21, .load _ _, _, _, _, _⟩) rfl rfl rfl rfl rfl h21 ?_)
          | (with_reducible refine tree_load_agg (o := ⟨some 25, .load _ _, _, _, _, _⟩) [.int .i64 y.k.kind, .int .i64 y.k.a, .int .i64 y.k.b] rfl rfl rfl rfl ?_ ?_ h25 ?_; (kernel_rfl); (kernel_rfl))
          | (with_reducible refine tree_load (o := ⟨some 27, .load _ _, _, _, _, _⟩) rfl rfl rfl rfl rfl h21 ?_)
          | (with_reducible refine tree_load (o := ⟨some 31, .load _ _, _, _, _, _⟩) rfl rfl rfl rfl rfl h31 ?_)
          | (refine tree_take rfl (fun K hK => ?_); go_simp; (first | with_reducible refine hK _ ?_ | (rw [if_neg (by decide)]; with_reducible refine hK _ ?_)); clear hK K))
        refine tree_done ?_
        clear hq
        go_wp2_with fail
        refine ⟨⟨i + 1, by omega, by go_num, ?_⟩, by simp only [intOf]; omega⟩
        rw [HSN.out, if_neg (by simp), csC_snoc, List.length_append, List.length_singleton]
        exact hs.pack (by repeat (first | with_reducible exact Pack.refl | with_reducible exact Pack.nil | with_reducible refine Pack.cons (by repeat (first | with_reducible exact Pick.here | with_reducible apply Pick.there)) ?_ | with_reducible apply Pack.drop))
    · have hltI : ¬ (i : Int) < (s.L.length : Int) := by omega
      have hin : i = s.L.length := by omega
      subst hin
      rw [List.take_length] at hs
      have e : R = ⟨s.last, s.epoch, s.low, freshL s.L⟩ := hR.out.symm
      subst e
      clear hR hgl
      have hgl : (freshL s.L).length ≤ s.L.length := by rw [freshL_len]; exact graphL_len s.L
      go_wp2_with (first
        | (guard_target = wpList _ _ _ (⟨some 7, .load _ _, _, _, _, _⟩ :: _) _ _; refine wpl (o := ⟨some 7, .load _ _, _, _, _, _⟩) rfl fun K hK => op_load rfl (ad := ⟨b1, 3, none⟩) rfl (by kernel_rfl) (hs.cell (l := stC s (.slice A s.L.length ca)) (t := 39) (by (try dsimp only [List.set]); repeat (first | with_reducible exact List.mem_cons_self | with_reducible apply List.mem_cons_of_mem)) rfl) (hK _ _ ?_); clear hK K)
        | (guard_target = wpList _ _ _ (⟨none, .store _ (.tmp 36) _, _, _, _, _⟩ :: _) _ _; refine wpl (o := ⟨none, .store _ (.tmp 36) _, _, _, _, _⟩) rfl fun K hK => ?_; go_must (refine op_store (hs.pick (A := row b1 (stC s (.slice A s.L.length ca)) 39) (by repeat (first | with_reducible exact Pick.here | with_reducible apply Pick.there))) rfl (b := b1) (i := 3) (v := .slice A3 (freshL s.L).length c3) rfl rfl rfl (by kernel_rfl) (k := 0) rfl (by simp [stC]) fun w7 h => hK _ _ ?_); clear hs hK K; have hs := h; clear h; change Sat W _ (row b1 (rowR s.last s.epoch s.low (.slice A3 (freshL s.L).length c3)) 39 :: _) at hs)
        | (guard_target = wpList _ _ _ (⟨some 37, .load _ _, _, _, _, _⟩ :: _) _ _; refine wpl (o := ⟨some 37, .load _ _, _, _, _, _⟩) rfl fun K hK => op_load_agg rfl (b := b1) (i := 0) rfl ((rowR s.last s.epoch s.low (.slice A3 (freshL s.L).length c3))) (range_whole hs (by (try dsimp only [List.set]); repeat (first | with_reducible exact List.mem_cons_self | with_reducible apply List.mem_cons_of_mem))) (by kernel_rfl) (by kernel_rfl) (hK _ _ ?_); clear hK K)
        | (guard_target = wpList _ _ _ (⟨none, .store _ (.tmp 2) _, _, _, _, _⟩ :: _) _ _; refine wpl (o := ⟨none, .store _ (.tmp 2) _, _, _, _, _⟩) rfl fun K hK => ?_; go_must (refine op_store_whole (hs.pick (A := row b2 [Value.int .i64 0, .int .u32 0, .int .u32 0, .slice none 0 0] 39) (by repeat (first | with_reducible exact Pick.here | with_reducible apply Pick.there))) (b := b2) rfl rfl (rowR s.last s.epoch s.low (.slice A3 (freshL s.L).length c3)) rfl (by simp [rowR, Value.oneCell']) (by kernel_rfl) (k := 0) rfl rfl fun w9 h => hK _ _ ?_); clear hs hK K; have hs := h; clear h; dsimp only [List.set] at hs))
      exact bodyPost_ret (run_results_cell rfl (b := b2) rfl (rowR s.last s.epoch s.low (.slice A3 (freshL s.L).length c3)) (range_whole hs m0) (by kernel_rfl) (by kernel_rfl)) rfl ⟨.slice A3 (freshL s.L).length c3, rfl, hs.pack (L := own (.slice A3 (freshL s.L).length c3) 107 (freshL s.L).length 5 (csC (freshL s.L)) :: L) (by repeat (first | with_reducible exact Pack.refl | with_reducible exact Pack.nil | with_reducible refine Pack.cons (by repeat (first | with_reducible exact Pick.here | with_reducible apply Pick.there)) ?_ | with_reducible apply Pack.drop))⟩
end Go.Proofs.YthjnefpnnifjiaaDoor
