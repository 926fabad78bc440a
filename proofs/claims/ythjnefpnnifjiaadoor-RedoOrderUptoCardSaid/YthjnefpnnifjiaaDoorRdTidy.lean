/- The law's tidy. -/
import Derived.Test.YthjnefpnnifjiaaDoorRdTakeR
import Derived.Test.YthjnefpnnifjiaaDoorRdOrdP
set_option linter.unusedVariables false
set_option linter.unusedSimpArgs false
namespace Go.Proofs.YthjnefpnnifjiaaDoor
open Go.RowKit
theorem lastLess_get' {acc : List RWr} {i : Nat} (h : acc.length = i + 1) (k : RKey) : lastLess acc k = lessK acc[i].k k := by
  unfold lastLess
  rw [List.getLast?_eq_getElem?, show acc.length - 1 = i by omega, List.getElem?_eq_getElem (by omega)]
theorem lastLess_nil' {acc : List RWr} (h : acc.length = 0) (k : RKey) : lastLess acc k = true := by
  rw [List.eq_nil_of_length_eq_zero h]; rfl
theorem zcommit' : (Tryd.prog.info? 24).bind (·.zero) = some (.agg [Value.int .i64 0, .slice none 0 0].toArray) := by kernel_rfl
def tidS (b1 : Nat) (v : Value) (bw o : Nat) (cs : List Value) (w : World) : Prop := w.cell? ⟨b1, 1, none⟩ = some v ∧ w.rangeAt bw o cs
def tidT (b1 : Nat) (v : Value) (bw o : Nat) (cs : List Value) (b3 : Nat) (u : Value) (ba p : Nat) (ds : List Value) (w : World) : Prop := w.cell? ⟨b1, 1, none⟩ = some v ∧ w.rangeAt bw o cs ∧ w.cell? ⟨b3, 1, none⟩ = some u ∧ w.rangeAt ba p ds
def tidyPost (c : RCm) (W : World) (L : List HP) (e : Ending) (w' : World) : Prop := ∃ v', e = .returned (.agg (cmC c v').toArray) ∧ Sat W w' (own v' 61 c.W.length 4 (wsC c.W) :: L)
set_option maxRecDepth 100000 in
set_option maxHeartbeats 16000000 in
theorem tidy_spec (W w : World) (L : List HP) (hs : Sat W w L) (c : RCm) (v : Value) (hv : Has L (sliceAt v c.W.length 4 (wsC c.W))) (hn : c.W.length ≤ 1000000) :
    Calls Tryd.prog 21 #[.agg (cmC c v).toArray] w (tidyPost (tidyC c) W L) := by
  obtain ⟨Aw, cw, rfl, _, _⟩ := slice_form (hs.slice hv)
  have HV := Box.mk hv
  obtain ⟨R, hR0⟩ : ∃ R, tidyC c = R := ⟨_, rfl⟩
  rw [hR0]
  unfold tidyPost
  have hR := Box.mk hR0
  have hz := run_zero (P := Tryd.prog) zcommit'
  clear hv hR0
  go_enter Tryd.func21, Tryd.ntmps21
  go_wp2_with (first
    | (guard_target = wpList _ _ _ (⟨some 1, .box _ _, _, _, _, _⟩ :: _) _ _; refine wpl (o := ⟨some 1, .box _ _, _, _, _, _⟩) rfl fun K hK => ?_; go_must (refine op_box hs rfl _ rfl (cmC c (.slice Aw c.W.length cw)) rfl fun b1 w1 h => hK _ _ ?_); clear hs hK K; have hs := h; clear h; try dsimp only [List.set] at hs)
    | (guard_target = wpList _ _ _ (⟨some 2, .alloc _, _, _, _, _⟩ :: _) _ _; refine wpl (o := ⟨some 2, .alloc _, _, _, _, _⟩) rfl fun K hK => ?_; go_must (refine op_alloc hs rfl _ zcommit' [Value.int .i64 0, .slice none 0 0] rfl fun b2 w1 h => hK _ _ ?_); clear hs hK K; have hs := h; clear h; try dsimp only [List.set] at hs)
    | (guard_target = wpList _ _ _ (⟨some 7, .load _ _, _, _, _, _⟩ :: _) _ _; refine wpl (o := ⟨some 7, .load _ _, _, _, _, _⟩) rfl fun K hK => op_load rfl (ad := ⟨b1, 0, none⟩) rfl (by kernel_rfl) (hs.cell (l := cmC c (.slice Aw c.W.length cw)) (t := 24) (by (try dsimp only [List.set]); repeat (first | with_reducible exact List.mem_cons_self | with_reducible apply List.mem_cons_of_mem)) rfl) (hK _ _ ?_); clear hK K)
    | (guard_target = wpList _ _ _ (⟨some 3, .alloc _, _, _, _, _⟩ :: _) _ _; refine wpl (o := ⟨some 3, .alloc _, _, _, _, _⟩) rfl fun K hK => ?_; go_must (refine op_alloc hs rfl _ zcommit' [Value.int .i64 0, .slice none 0 0] rfl fun b3 w1 h => hK _ _ ?_); clear hs hK K; have hs := h; clear h; try dsimp only [List.set] at hs)
    | (guard_target = wpList _ _ _ (⟨none, .store _ (.tmp 3) _, _, _, _, _⟩ :: _) _ _; refine wpl (o := ⟨none, .store _ (.tmp 3) _, _, _, _, _⟩) rfl fun K hK => ?_; go_must (refine op_store_whole hs (b := b3) rfl rfl [Value.int .i64 (max c.ts 1), .slice none 0 0] rfl (by simp [Value.oneCell']) (by kernel_rfl) (k := 0) rfl rfl fun w3 h => hK _ _ ?_); clear hs hK K; have hs := h; clear h; try dsimp only [List.set] at hs))
  go_loopw [4] (fun v4 wr => ∃ (i n : Nat) (acc : List RWr) (A : Option Addr) (ca : Nat), i ≤ c.W.length ∧ n ≤ i ∧ v4 = .int .i64 (i : Nat) ∧ Box (tidyW (c.W.take i) = acc) ∧ Box (acc.length = n) ∧ Sat W wr (own (.slice A n ca) 61 n 4 (wsC acc) :: row b3 [Value.int .i64 (max c.ts 1), .slice A n ca] 24 :: row b2 [Value.int .i64 0, .slice none 0 0] 24 :: row b1 (cmC c (.slice Aw c.W.length cw)) 24 :: L)) (fun v4 _ => c.W.length - (intOf v4).toNat)
  case atStart => exact ⟨0, 0, [], none, 0, by omega, by omega, rfl, ⟨rfl⟩, ⟨rfl⟩, (hs.addNil none 61 4).pack (L := own (.slice none 0 0) 61 0 4 [] :: row b3 [Value.int .i64 (max c.ts 1), .slice none 0 0] 24 :: row b2 [Value.int .i64 0, .slice none 0 0] 24 :: row b1 (cmC c (.slice Aw c.W.length cw)) 24 :: L) (by repeat (first | with_reducible exact Pack.refl | with_reducible exact Pack.nil | with_reducible refine Pack.cons (by repeat (first | with_reducible exact Pick.here | with_reducible apply Pick.there)) ?_ | with_reducible apply Pack.drop))⟩
  case round =>
    clear hs
    obtain ⟨i, n, acc, A, ca, hi, hni, rfl, HACC, HAL, hs⟩ := hrel
    by_cases hlt : i < c.W.length
    · have hltI : (i : Int) < (c.W.length : Int) := by omega
      have hwi : IntKind.i64.wrap ((i : Int) + 1) = (i : Int) + 1 := by rw [IntKind.wrap_i64]; omega
      obtain ⟨bw, ow, _, e⟩ := slice_part wC 4 wC_length (by omega) hs (show Has _ (sliceAt (.slice Aw c.W.length cw) c.W.length 4 (wsC c.W)) from (by (try dsimp only [List.set]); repeat (first | exact HV.out | apply Has.tail))) (by omega)
      cases e
      have HRW := Box.mk (fun w (M : List HP) (h : Sat W w M) (hM : ∃ M0, M = M0 ++ L) => slice_range wC 4 wC_length h (show Has M (sliceAt (.slice (some ⟨bw, ow, none⟩) c.W.length cw) c.W.length 4 (wsC c.W)) from by obtain ⟨M0, e⟩ := hM; rw [e]; exact HV.out.app) i hlt)
      have hsn := tidyW_snoc c.W i hlt
      rw [HACC.out] at hsn
      generalize c.W[i] = x at HRW hsn
      have HRI := Box.mk (fun w (L : List HP) hs => right_spec W w L hs x.k)
      unfold tidy1 at hsn
      obtain ⟨q1, hq1⟩ : ∃ q, rightB x.k = q := ⟨_, rfl⟩
      rw [hq1] at HRI hsn
      clear hq1
      cases q1 with
      | false =>
        rw [Bool.false_and, if_neg (by decide)] at hsn
        have HSN := Box.mk hsn
        clear hsn
        have cS : ∀ w M, Sat W w M → row b1 (cmC c (.slice (some ⟨bw, ow, none⟩) c.W.length cw)) 24 ∈ M → (∃ M0, M = M0 ++ L) → (tidS b1 (.slice (some ⟨bw, ow, none⟩) c.W.length cw) bw (ow + i * 4) (wC x)) w := fun w M h h1 h2 => ⟨h.cell h1 rfl, HRW.out w M h h2⟩
        have h21 : ∀ w, (tidS b1 (.slice (some ⟨bw, ow, none⟩) c.W.length cw) bw (ow + i * 4) (wC x)) w → w.cell? ⟨b1, 1, none⟩ = some (.slice (some ⟨bw, ow, none⟩) c.W.length cw) := fun w h => h.1
        have h25 : ∀ w, (tidS b1 (.slice (some ⟨bw, ow, none⟩) c.W.length cw) bw (ow + i * 4) (wC x)) w → w.rangeAt bw (ow + i * 4) (kC x.k) := fun w h => range_pre (ds := [(.string ⟨(x.v).toArray⟩)]) h.2
        have h53 : ∀ w, (tidS b1 (.slice (some ⟨bw, ow, none⟩) c.W.length cw) bw (ow + i * 4) (wC x)) w → w.rangeAt bw (ow + i * 4) (wC x) := fun w h => h.2
        go_wp2_with (first
          | (guard_target = wpList _ _ _ (⟨some 12, .load _ _, _, _, _, _⟩ :: _) _ _; refine wpl (o := ⟨some 12, .load _ _, _, _, _, _⟩) rfl fun K hK => op_load rfl (ad := ⟨b1, 1, none⟩) rfl (by kernel_rfl) (hs.cell (l := (cmC c (.slice (some ⟨bw, ow, none⟩) c.W.length cw))) (t := 24) (by (try dsimp only [List.set]); repeat (first | with_reducible exact List.mem_cons_self | with_reducible apply List.mem_cons_of_mem)) rfl) (hK _ _ ?_); clear hK K)
          | (guard_target = wpList _ _ _ (⟨some 18, .load _ _, _, _, _, _⟩ :: _) _ _; refine wpl (o := ⟨some 18, .load _ _, _, _, _, _⟩) rfl fun K hK => op_load rfl (ad := ⟨b3, 1, none⟩) rfl (by kernel_rfl) (hs.cell (l := [Value.int .i64 (max c.ts 1), .slice A n ca]) (t := 24) (by (try dsimp only [List.set]); repeat (first | with_reducible exact List.mem_cons_self | with_reducible apply List.mem_cons_of_mem)) rfl) (hK _ _ ?_); clear hK K))
        have hS0 := cS _ _ hs.drew (by (try dsimp only [List.set]); repeat (first | with_reducible exact List.mem_cons_self | with_reducible apply List.mem_cons_of_mem)) (by (try dsimp only [List.set]); first | exact ⟨[_, _, _], rfl⟩ | exact ⟨[_, _, _, _], rfl⟩ | exact ⟨[_, _, _, _, _], rfl⟩ | exact ⟨[_, _], rfl⟩)
        refine wp_region_tree ((tidS b1 (.slice (some ⟨bw, ow, none⟩) c.W.length cw) bw (ow + i * 4) (wC x))) (.take 0 (.take 1 (.take 2 (.take 3 (.take 4 (.take 5 (.all [(6, .take 7 (.take 8 (.take 9 (.take 10 (.take 11 (.take 12 (.take 13 (.take 14 (.take 15 (.take 16 (.take 17 (.take 18 (.take 19 (.take 20 (.take 21 (.take 22 (.take 23 (.all [(24, .take 25 (.take 26 (DTree.done)))]))))))))))))))))))]))))))) (by kernel_rfl) (by kernel_rfl) (by kernel_rfl) (fun _ _ d _ _ h => by cases d <;> exact h) hS0 ?_
        have hs' := hs.drew
        clear hs
        have hs := hs'
        clear hs'
        have hq := fun p : Prop => class_const hS0 p
        clear hS0
        repeat (first
          | (with_reducible refine tree_load (o := ⟨some 21, .load _ _, _, _, _, _⟩) rfl rfl rfl rfl rfl h21 ?_)
          | (with_reducible refine tree_load_agg (o := ⟨some 25, .load _ _, _, _, _, _⟩) (kC x.k) rfl rfl rfl rfl ?_ ?_ h25 ?_; (kernel_rfl); (kernel_rfl))
          | (refine tree_take rfl (fun K hK => ?_); go_simp; (first | with_reducible refine hK _ ?_ | (rw [if_neg (by decide)]; with_reducible refine hK _ ?_)); clear hK K))
        refine tree_one_yes (o := _) rfl rfl (fun K hK => ?_) (cS _ _ hs (by (try dsimp only [List.set]); repeat (first | with_reducible exact List.mem_cons_self | with_reducible apply List.mem_cons_of_mem)) (by (try dsimp only [List.set]); first | exact ⟨[_, _, _], rfl⟩ | exact ⟨[_, _, _, _], rfl⟩ | exact ⟨[_, _, _, _, _], rfl⟩ | exact ⟨[_, _], rfl⟩))
        try go_simp
        go_at_call 61
        refine (HRI.out _ _ hs).mono ?_
        clear hs
        rintro e w5 ⟨rfl, hs⟩
        try go_simp
        refine hK _ _ (cS _ _ hs (by (try dsimp only [List.set]); repeat (first | with_reducible exact List.mem_cons_self | with_reducible apply List.mem_cons_of_mem)) (by (try dsimp only [List.set]); first | exact ⟨[_, _, _], rfl⟩ | exact ⟨[_, _, _, _], rfl⟩ | exact ⟨[_, _, _, _, _], rfl⟩ | exact ⟨[_, _], rfl⟩)) ?_
        clear hK K
        repeat (first
          | (with_reducible refine tree_load (o := ⟨some 21, .load _ _, _, _, _, _⟩) rfl rfl rfl rfl rfl h21 ?_)
          | (with_reducible refine tree_load_agg (o := ⟨some 25, .load _ _, _, _, _, _⟩) (kC x.k) rfl rfl rfl rfl ?_ ?_ h25 ?_; (kernel_rfl); (kernel_rfl))
          | (refine tree_take rfl (fun K hK => ?_); go_simp; (first | with_reducible refine hK _ ?_ | (rw [if_neg (by decide)]; with_reducible refine hK _ ?_)); clear hK K))
        refine tree_one (o := _) rfl (fun K hK => ?_) (cS _ _ hs (by (try dsimp only [List.set]); repeat (first | with_reducible exact List.mem_cons_self | with_reducible apply List.mem_cons_of_mem)) (by (try dsimp only [List.set]); first | exact ⟨[_, _, _], rfl⟩ | exact ⟨[_, _, _, _], rfl⟩ | exact ⟨[_, _, _, _, _], rfl⟩ | exact ⟨[_, _], rfl⟩))
        go_simp
        try rw [if_neg (by decide)]
        intro hS9
        refine hK _ _ hS9 ?_
        clear hS9 hK K
        repeat (first
          | (with_reducible refine tree_load (o := ⟨some 21, .load _ _, _, _, _, _⟩) rfl rfl rfl rfl rfl h21 ?_)
          | (with_reducible refine tree_load_agg (o := ⟨some 25, .load _ _, _, _, _, _⟩) (kC x.k) rfl rfl rfl rfl ?_ ?_ h25 ?_; (kernel_rfl); (kernel_rfl))
          | (refine tree_take rfl (fun K hK => ?_); go_simp; (first | with_reducible refine hK _ ?_ | (rw [if_neg (by decide)]; with_reducible refine hK _ ?_)); clear hK K))
        refine tree_done ?_
        clear hq
        go_wp2_with fail
        refine ⟨⟨i + 1, n, acc, A, ca, by omega, by omega, by go_num, ⟨HSN.out⟩, HAL, ?_⟩, by simp only [intOf]; omega⟩
        exact hs.pack (by repeat (first | with_reducible exact Pack.refl | with_reducible exact Pack.nil | with_reducible refine Pack.cons (by repeat (first | with_reducible exact Pick.here | with_reducible apply Pick.there)) ?_ | with_reducible apply Pack.drop))
      | true =>
        rw [Bool.true_and] at hsn
        by_cases h0 : n = 0
        · rw [lastLess_nil' (HAL.out.trans h0), if_pos rfl] at hsn
          have HSN := Box.mk hsn
          have h0I : (n : Int) = 0 := by omega
          clear hsn h0
          have cS : ∀ w M, Sat W w M → row b1 (cmC c (.slice (some ⟨bw, ow, none⟩) c.W.length cw)) 24 ∈ M → (∃ M0, M = M0 ++ L) → (tidS b1 (.slice (some ⟨bw, ow, none⟩) c.W.length cw) bw (ow + i * 4) (wC x)) w := fun w M h h1 h2 => ⟨h.cell h1 rfl, HRW.out w M h h2⟩
          have h21 : ∀ w, (tidS b1 (.slice (some ⟨bw, ow, none⟩) c.W.length cw) bw (ow + i * 4) (wC x)) w → w.cell? ⟨b1, 1, none⟩ = some (.slice (some ⟨bw, ow, none⟩) c.W.length cw) := fun w h => h.1
          have h25 : ∀ w, (tidS b1 (.slice (some ⟨bw, ow, none⟩) c.W.length cw) bw (ow + i * 4) (wC x)) w → w.rangeAt bw (ow + i * 4) (kC x.k) := fun w h => range_pre (ds := [(.string ⟨(x.v).toArray⟩)]) h.2
          have h53 : ∀ w, (tidS b1 (.slice (some ⟨bw, ow, none⟩) c.W.length cw) bw (ow + i * 4) (wC x)) w → w.rangeAt bw (ow + i * 4) (wC x) := fun w h => h.2
          go_wp2_with (first
            | (guard_target = wpList _ _ _ (⟨some 12, .load _ _, _, _, _, _⟩ :: _) _ _; refine wpl (o := ⟨some 12, .load _ _, _, _, _, _⟩) rfl fun K hK => op_load rfl (ad := ⟨b1, 1, none⟩) rfl (by kernel_rfl) (hs.cell (l := (cmC c (.slice (some ⟨bw, ow, none⟩) c.W.length cw))) (t := 24) (by (try dsimp only [List.set]); repeat (first | with_reducible exact List.mem_cons_self | with_reducible apply List.mem_cons_of_mem)) rfl) (hK _ _ ?_); clear hK K)
            | (guard_target = wpList _ _ _ (⟨some 18, .load _ _, _, _, _, _⟩ :: _) _ _; refine wpl (o := ⟨some 18, .load _ _, _, _, _, _⟩) rfl fun K hK => op_load rfl (ad := ⟨b3, 1, none⟩) rfl (by kernel_rfl) (hs.cell (l := [Value.int .i64 (max c.ts 1), .slice A n ca]) (t := 24) (by (try dsimp only [List.set]); repeat (first | with_reducible exact List.mem_cons_self | with_reducible apply List.mem_cons_of_mem)) rfl) (hK _ _ ?_); clear hK K))
          have hS0 := cS _ _ hs.drew (by (try dsimp only [List.set]); repeat (first | with_reducible exact List.mem_cons_self | with_reducible apply List.mem_cons_of_mem)) (by (try dsimp only [List.set]); first | exact ⟨[_, _, _], rfl⟩ | exact ⟨[_, _, _, _], rfl⟩ | exact ⟨[_, _, _, _, _], rfl⟩ | exact ⟨[_, _], rfl⟩)
          refine wp_region_tree ((tidS b1 (.slice (some ⟨bw, ow, none⟩) c.W.length cw) bw (ow + i * 4) (wC x))) (.take 0 (.take 1 (.take 2 (.take 3 (.take 4 (.take 5 (.all [(6, .take 7 (.take 8 (.take 9 (.take 10 (.take 11 (.take 12 (.take 13 (.take 14 (.take 15 (.take 16 (.take 17 (.take 18 (.take 19 (.take 20 (.take 21 (.take 22 (.take 23 (.all [(24, .take 25 (.take 26 (DTree.done)))]))))))))))))))))))]))))))) (by kernel_rfl) (by kernel_rfl) (by kernel_rfl) (fun _ _ d _ _ h => by cases d <;> exact h) hS0 ?_
          have hs' := hs.drew
          clear hs
          have hs := hs'
          clear hs'
          have hq := fun p : Prop => class_const hS0 p
          clear hS0
          repeat (first
            | (with_reducible refine tree_load (o := ⟨some 21, .load _ _, _, _, _, _⟩) rfl rfl rfl rfl rfl h21 ?_)
            | (with_reducible refine tree_load_agg (o := ⟨some 25, .load _ _, _, _, _, _⟩) (kC x.k) rfl rfl rfl rfl ?_ ?_ h25 ?_; (kernel_rfl); (kernel_rfl))
            | (refine tree_take rfl (fun K hK => ?_); go_simp; (first | with_reducible refine hK _ ?_ | (rw [if_neg (by decide)]; with_reducible refine hK _ ?_)); clear hK K))
          refine tree_one_yes (o := _) rfl rfl (fun K hK => ?_) (cS _ _ hs (by (try dsimp only [List.set]); repeat (first | with_reducible exact List.mem_cons_self | with_reducible apply List.mem_cons_of_mem)) (by (try dsimp only [List.set]); first | exact ⟨[_, _, _], rfl⟩ | exact ⟨[_, _, _, _], rfl⟩ | exact ⟨[_, _, _, _, _], rfl⟩ | exact ⟨[_, _], rfl⟩))
          try go_simp
          go_at_call 61
          refine (HRI.out _ _ hs).mono ?_
          clear hs
          rintro e w5 ⟨rfl, hs⟩
          try go_simp
          refine hK _ _ (cS _ _ hs (by (try dsimp only [List.set]); repeat (first | with_reducible exact List.mem_cons_self | with_reducible apply List.mem_cons_of_mem)) (by (try dsimp only [List.set]); first | exact ⟨[_, _, _], rfl⟩ | exact ⟨[_, _, _, _], rfl⟩ | exact ⟨[_, _, _, _, _], rfl⟩ | exact ⟨[_, _], rfl⟩)) ?_
          clear hK K
          repeat (first
            | (with_reducible refine tree_load (o := ⟨some 21, .load _ _, _, _, _, _⟩) rfl rfl rfl rfl rfl h21 ?_)
            | (with_reducible refine tree_load_agg (o := ⟨some 25, .load _ _, _, _, _, _⟩) (kC x.k) rfl rfl rfl rfl ?_ ?_ h25 ?_; (kernel_rfl); (kernel_rfl))
            | (refine tree_take rfl (fun K hK => ?_); go_simp; (first | with_reducible refine hK _ ?_ | (rw [if_neg (by decide)]; with_reducible refine hK _ ?_)); clear hK K))
          refine tree_one (o := _) rfl (fun K hK => ?_) (cS _ _ hs (by (try dsimp only [List.set]); repeat (first | with_reducible exact List.mem_cons_self | with_reducible apply List.mem_cons_of_mem)) (by (try dsimp only [List.set]); first | exact ⟨[_, _, _], rfl⟩ | exact ⟨[_, _, _, _], rfl⟩ | exact ⟨[_, _, _, _, _], rfl⟩ | exact ⟨[_, _], rfl⟩))
          go_simp
          try rw [if_neg (by decide)]
          intro hS9
          refine hK _ _ hS9 ?_
          clear hS9 hK K
          repeat (first
            | (with_reducible refine tree_load (o := ⟨some 21, .load _ _, _, _, _, _⟩) rfl rfl rfl rfl rfl h21 ?_)
            | (with_reducible refine tree_load_agg (o := ⟨some 25, .load _ _, _, _, _, _⟩) (kC x.k) rfl rfl rfl rfl ?_ ?_ h25 ?_; (kernel_rfl); (kernel_rfl))
            | (refine tree_take rfl (fun K hK => ?_); go_simp; (first | with_reducible refine hK _ ?_ | (rw [if_neg (by decide)]; with_reducible refine hK _ ?_)); clear hK K))
          refine tree_done ?_
          clear hq h0I
          go_wp2_with fail
          have hS0 := cS _ _ hs.drew (by (try dsimp only [List.set]); repeat (first | with_reducible exact List.mem_cons_self | with_reducible apply List.mem_cons_of_mem)) (by (try dsimp only [List.set]); first | exact ⟨[_, _, _], rfl⟩ | exact ⟨[_, _, _, _], rfl⟩ | exact ⟨[_, _, _, _, _], rfl⟩ | exact ⟨[_, _], rfl⟩)
          refine wp_region_tree ((tidS b1 (.slice (some ⟨bw, ow, none⟩) c.W.length cw) bw (ow + i * 4) (wC x))) (.take 0 (.take 2 (.take 3 (.take 4 (.take 5 (.take 6 (.all [(1, .all [(7, .all [(8, .take 9 (.all [(10, DTree.done)]))])]), (7, .all [(1, .all [(8, .take 9 (.all [(10, DTree.done)]))])])]))))))) (by kernel_rfl) (by kernel_rfl) (by kernel_rfl) (fun _ _ d _ _ h => by cases d <;> exact h) hS0 ?_
          have hs' := hs.drew
          clear hs
          have hs := hs'
          clear hs'
          have hq := fun p : Prop => class_const hS0 p
          clear hS0
          repeat (first
            | (with_reducible refine tree_load (o := ⟨some 50, .load _ _, _, _, _, _⟩) rfl rfl rfl rfl rfl h21 ?_)
            | (with_reducible refine tree_load_agg (o := ⟨some 53, .load _ _, _, _, _, _⟩) (wC x) rfl rfl rfl rfl ?_ ?_ h53 ?_; (kernel_rfl); (kernel_rfl))
            | (refine tree_take rfl (fun K hK => ?_); go_simp; (first | with_reducible refine hK _ ?_ | (rw [if_neg (by decide)]; with_reducible refine hK _ ?_)); clear hK K))
          refine tree_all (trees_cons_yes (o := _) rfl rfl (fun K hK => ?_) (cS _ _ hs (by (try dsimp only [List.set]); repeat (first | with_reducible exact List.mem_cons_self | with_reducible apply List.mem_cons_of_mem)) (by (try dsimp only [List.set]); first | exact ⟨[_, _, _], rfl⟩ | exact ⟨[_, _, _, _], rfl⟩ | exact ⟨[_, _, _, _, _], rfl⟩ | exact ⟨[_, _], rfl⟩)) (trees_cons_yes (o := _) rfl rfl (fun K hK => ?_) (cS _ _ hs (by (try dsimp only [List.set]); repeat (first | with_reducible exact List.mem_cons_self | with_reducible apply List.mem_cons_of_mem)) (by (try dsimp only [List.set]); first | exact ⟨[_, _, _], rfl⟩ | exact ⟨[_, _, _, _], rfl⟩ | exact ⟨[_, _, _, _, _], rfl⟩ | exact ⟨[_, _], rfl⟩)) trees_nil))
          · refine op_load rfl (ad := ⟨b3, 1, none⟩) rfl (by kernel_rfl) (hs.cell (l := [Value.int .i64 (max c.ts 1), .slice A n ca]) (t := 24) (by (try dsimp only [List.set]); repeat (first | with_reducible exact List.mem_cons_self | with_reducible apply List.mem_cons_of_mem)) rfl) (hK _ _ (cS _ _ hs (by (try dsimp only [List.set]); repeat (first | with_reducible exact List.mem_cons_self | with_reducible apply List.mem_cons_of_mem)) (by (try dsimp only [List.set]); first | exact ⟨[_, _, _], rfl⟩ | exact ⟨[_, _, _, _], rfl⟩ | exact ⟨[_, _, _, _, _], rfl⟩ | exact ⟨[_, _], rfl⟩)) ?_)
            clear hK K
            try go_simp
            refine tree_one_yes (o := _) rfl rfl (fun K hK => ?_) (cS _ _ hs (by (try dsimp only [List.set]); repeat (first | with_reducible exact List.mem_cons_self | with_reducible apply List.mem_cons_of_mem)) (by (try dsimp only [List.set]); first | exact ⟨[_, _, _], rfl⟩ | exact ⟨[_, _, _, _], rfl⟩ | exact ⟨[_, _, _, _, _], rfl⟩ | exact ⟨[_, _], rfl⟩))
            refine op_lit_agg1 hs rfl Tryd.underlying22 info_write (wC x) rfl rfl (by omega) (by omega) fun b54 w1 h => hK _ _ (cS _ _ h (by (try dsimp only [List.set]); repeat (first | with_reducible exact List.mem_cons_self | with_reducible apply List.mem_cons_of_mem)) (by (try dsimp only [List.set]); first | exact ⟨[_, _, _], rfl⟩ | exact ⟨[_, _, _, _], rfl⟩ | exact ⟨[_, _, _, _, _], rfl⟩ | exact ⟨[_, _], rfl⟩)) ?_
            clear hs hK K
            have hs := h
            clear h
            try dsimp only [List.set] at hs
            try go_simp
            refine tree_one_yes (o := _) rfl rfl (fun K hK => ?_) (cS _ _ hs (by (try dsimp only [List.set]); repeat (first | with_reducible exact List.mem_cons_self | with_reducible apply List.mem_cons_of_mem)) (by (try dsimp only [List.set]); first | exact ⟨[_, _, _], rfl⟩ | exact ⟨[_, _, _, _], rfl⟩ | exact ⟨[_, _, _, _, _], rfl⟩ | exact ⟨[_, _], rfl⟩))
            refine op_append (hs.pick (A := own (.slice A n ca) 61 n 4 (wsC acc)) (by repeat (first | with_reducible exact Pick.here | with_reducible apply Pick.there))) rfl Tryd.underlying22 Tryd.underlying22 info_write rfl (by omega) (k := 0) rfl rfl rfl (Has.of (A := row b54 (wC x) 61) (by (try dsimp only [List.set]); repeat (first | with_reducible exact List.mem_cons_self | with_reducible apply List.mem_cons_of_mem)) fun F hF => own_sliceAt F (own_exact (n := 1) (sz := 4) rfl (by omega) F hF)) (wC_one _) (by omega) (by omega) fun v55 w2 h => hK _ _ (cS _ _ h (by (try dsimp only [List.set]); repeat (first | with_reducible exact List.mem_cons_self | with_reducible apply List.mem_cons_of_mem)) (by (try dsimp only [List.set]); first | exact ⟨[_, _, _], rfl⟩ | exact ⟨[_, _, _, _], rfl⟩ | exact ⟨[_, _, _, _, _], rfl⟩ | exact ⟨[_, _], rfl⟩)) ?_
            clear hs hK K
            have hs := h
            clear h
            try dsimp only [List.set] at hs
            obtain ⟨A55, c55, rfl, _, _⟩ := own_slice hs (i := 0) rfl
            try go_simp
            repeat (first
              | (with_reducible refine tree_load (o := ⟨some 50, .load _ _, _, _, _, _⟩) rfl rfl rfl rfl rfl h21 ?_)
              | (with_reducible refine tree_load_agg (o := ⟨some 53, .load _ _, _, _, _, _⟩) (wC x) rfl rfl rfl rfl ?_ ?_ h53 ?_; (kernel_rfl); (kernel_rfl))
              | (refine tree_take rfl (fun K hK => ?_); go_simp; (first | with_reducible refine hK _ ?_ | (rw [if_neg (by decide)]; with_reducible refine hK _ ?_)); clear hK K))
            refine tree_one_yes (o := _) rfl rfl (fun K hK => ?_) (cS _ _ hs (by (try dsimp only [List.set]); repeat (first | with_reducible exact List.mem_cons_self | with_reducible apply List.mem_cons_of_mem)) (by (try dsimp only [List.set]); first | exact ⟨[_, _, _], rfl⟩ | exact ⟨[_, _, _, _], rfl⟩ | exact ⟨[_, _, _, _, _], rfl⟩ | exact ⟨[_, _], rfl⟩))
            refine op_store (hs.pick (A := row b3 [Value.int .i64 (max c.ts 1), .slice A n ca] 24) (by repeat (first | with_reducible exact Pick.here | with_reducible apply Pick.there))) rfl (b := b3) (i := 1) (v := .slice A55 (n + 1) c55) rfl rfl rfl (by kernel_rfl) (k := 0) rfl (by simp) fun w7 h => hK _ _ (cS _ _ h (by (try dsimp only [List.set]); repeat (first | with_reducible exact List.mem_cons_self | with_reducible apply List.mem_cons_of_mem)) (by (try dsimp only [List.set]); first | exact ⟨[_, _, _], rfl⟩ | exact ⟨[_, _, _, _], rfl⟩ | exact ⟨[_, _, _, _, _], rfl⟩ | exact ⟨[_, _], rfl⟩)) ?_
            clear hs hK K
            have hs := h
            clear h
            try dsimp only [List.set] at hs
            try go_simp
            refine tree_done ?_
            clear hq
            go_wp2_with fail
            refine ⟨⟨i + 1, n + 1, acc ++ [x], A55, c55, by omega, by omega, by go_num, ⟨HSN.out⟩, ⟨by rw [List.length_append, List.length_singleton, HAL.out]⟩, ?_⟩, by simp only [intOf]; omega⟩
            rw [wsC_snoc]
            exact hs.pack (by repeat (first | with_reducible exact Pack.refl | with_reducible exact Pack.nil | with_reducible refine Pack.cons (by repeat (first | with_reducible exact Pick.here | with_reducible apply Pick.there)) ?_ | with_reducible apply Pack.drop))
          · refine op_lit_agg1 hs rfl Tryd.underlying22 info_write (wC x) rfl rfl (by omega) (by omega) fun b54 w1 h => hK _ _ (cS _ _ h (by (try dsimp only [List.set]); repeat (first | with_reducible exact List.mem_cons_self | with_reducible apply List.mem_cons_of_mem)) (by (try dsimp only [List.set]); first | exact ⟨[_, _, _], rfl⟩ | exact ⟨[_, _, _, _], rfl⟩ | exact ⟨[_, _, _, _, _], rfl⟩ | exact ⟨[_, _], rfl⟩)) ?_
            clear hs hK K
            have hs := h
            clear h
            try dsimp only [List.set] at hs
            try go_simp
            refine tree_one_yes (o := _) rfl rfl (fun K hK => ?_) (cS _ _ hs (by (try dsimp only [List.set]); repeat (first | with_reducible exact List.mem_cons_self | with_reducible apply List.mem_cons_of_mem)) (by (try dsimp only [List.set]); first | exact ⟨[_, _, _], rfl⟩ | exact ⟨[_, _, _, _], rfl⟩ | exact ⟨[_, _, _, _, _], rfl⟩ | exact ⟨[_, _], rfl⟩))
            refine op_load rfl (ad := ⟨b3, 1, none⟩) rfl (by kernel_rfl) (hs.cell (l := [Value.int .i64 (max c.ts 1), .slice A n ca]) (t := 24) (by (try dsimp only [List.set]); repeat (first | with_reducible exact List.mem_cons_self | with_reducible apply List.mem_cons_of_mem)) rfl) (hK _ _ (cS _ _ hs (by (try dsimp only [List.set]); repeat (first | with_reducible exact List.mem_cons_self | with_reducible apply List.mem_cons_of_mem)) (by (try dsimp only [List.set]); first | exact ⟨[_, _, _], rfl⟩ | exact ⟨[_, _, _, _], rfl⟩ | exact ⟨[_, _, _, _, _], rfl⟩ | exact ⟨[_, _], rfl⟩)) ?_)
            clear hK K
            try go_simp
            refine tree_one_yes (o := _) rfl rfl (fun K hK => ?_) (cS _ _ hs (by (try dsimp only [List.set]); repeat (first | with_reducible exact List.mem_cons_self | with_reducible apply List.mem_cons_of_mem)) (by (try dsimp only [List.set]); first | exact ⟨[_, _, _], rfl⟩ | exact ⟨[_, _, _, _], rfl⟩ | exact ⟨[_, _, _, _, _], rfl⟩ | exact ⟨[_, _], rfl⟩))
            refine op_append (hs.pick (A := own (.slice A n ca) 61 n 4 (wsC acc)) (by repeat (first | with_reducible exact Pick.here | with_reducible apply Pick.there))) rfl Tryd.underlying22 Tryd.underlying22 info_write rfl (by omega) (k := 0) rfl rfl rfl (Has.of (A := row b54 (wC x) 61) (by (try dsimp only [List.set]); repeat (first | with_reducible exact List.mem_cons_self | with_reducible apply List.mem_cons_of_mem)) fun F hF => own_sliceAt F (own_exact (n := 1) (sz := 4) rfl (by omega) F hF)) (wC_one _) (by omega) (by omega) fun v55 w2 h => hK _ _ (cS _ _ h (by (try dsimp only [List.set]); repeat (first | with_reducible exact List.mem_cons_self | with_reducible apply List.mem_cons_of_mem)) (by (try dsimp only [List.set]); first | exact ⟨[_, _, _], rfl⟩ | exact ⟨[_, _, _, _], rfl⟩ | exact ⟨[_, _, _, _, _], rfl⟩ | exact ⟨[_, _], rfl⟩)) ?_
            clear hs hK K
            have hs := h
            clear h
            try dsimp only [List.set] at hs
            obtain ⟨A55, c55, rfl, _, _⟩ := own_slice hs (i := 0) rfl
            try go_simp
            repeat (first
              | (with_reducible refine tree_load (o := ⟨some 50, .load _ _, _, _, _, _⟩) rfl rfl rfl rfl rfl h21 ?_)
              | (with_reducible refine tree_load_agg (o := ⟨some 53, .load _ _, _, _, _, _⟩) (wC x) rfl rfl rfl rfl ?_ ?_ h53 ?_; (kernel_rfl); (kernel_rfl))
              | (refine tree_take rfl (fun K hK => ?_); go_simp; (first | with_reducible refine hK _ ?_ | (rw [if_neg (by decide)]; with_reducible refine hK _ ?_)); clear hK K))
            refine tree_one_yes (o := _) rfl rfl (fun K hK => ?_) (cS _ _ hs (by (try dsimp only [List.set]); repeat (first | with_reducible exact List.mem_cons_self | with_reducible apply List.mem_cons_of_mem)) (by (try dsimp only [List.set]); first | exact ⟨[_, _, _], rfl⟩ | exact ⟨[_, _, _, _], rfl⟩ | exact ⟨[_, _, _, _, _], rfl⟩ | exact ⟨[_, _], rfl⟩))
            refine op_store (hs.pick (A := row b3 [Value.int .i64 (max c.ts 1), .slice A n ca] 24) (by repeat (first | with_reducible exact Pick.here | with_reducible apply Pick.there))) rfl (b := b3) (i := 1) (v := .slice A55 (n + 1) c55) rfl rfl rfl (by kernel_rfl) (k := 0) rfl (by simp) fun w7 h => hK _ _ (cS _ _ h (by (try dsimp only [List.set]); repeat (first | with_reducible exact List.mem_cons_self | with_reducible apply List.mem_cons_of_mem)) (by (try dsimp only [List.set]); first | exact ⟨[_, _, _], rfl⟩ | exact ⟨[_, _, _, _], rfl⟩ | exact ⟨[_, _, _, _, _], rfl⟩ | exact ⟨[_, _], rfl⟩)) ?_
            clear hs hK K
            have hs := h
            clear h
            try dsimp only [List.set] at hs
            try go_simp
            refine tree_done ?_
            clear hq
            go_wp2_with fail
            refine ⟨⟨i + 1, n + 1, acc ++ [x], A55, c55, by omega, by omega, by go_num, ⟨HSN.out⟩, ⟨by rw [List.length_append, List.length_singleton, HAL.out]⟩, ?_⟩, by simp only [intOf]; omega⟩
            rw [wsC_snoc]
            exact hs.pack (by repeat (first | with_reducible exact Pack.refl | with_reducible exact Pack.nil | with_reducible refine Pack.cons (by repeat (first | with_reducible exact Pick.here | with_reducible apply Pick.there)) ?_ | with_reducible apply Pack.drop))
        · obtain ⟨im, hi2⟩ : ∃ im, n = im + 1 := ⟨n - 1, by omega⟩
          have hml : im < acc.length := by rw [HAL.out]; omega
          rw [lastLess_get' (HAL.out.trans hi2)] at hsn
          have h0I : ¬ (n : Int) = 0 := by omega
          have h0B : ((n : Int) == 0) = false := by rw [beq_eq_false_iff_ne]; omega
          have hwm : IntKind.i64.wrap ((n : Int) - 1) = (im : Int) := by rw [IntKind.wrap_i64]; omega
          have hmlt : im < n := by omega
          have hmltI : (im : Int) < (n : Int) := by omega
          obtain ⟨ba, ca', e, _, _⟩ := own_formR hs (v := .slice A n ca) (e := 61) (n := n) (sz := 4) (vs := wsC acc) (by (try dsimp only [List.set]); repeat (first | with_reducible exact List.mem_cons_self | with_reducible apply List.mem_cons_of_mem)) (by omega)
          cases e
          have HRA := Box.mk (fun w (M : List HP) (h : Sat W w M) (hm : own (.slice (some ⟨ba, 0, none⟩) n ca) 61 n 4 (wsC acc) ∈ M) => own_partR (c := ca) (e := 61) wC 4 wC_length h (l := acc) (by rw [HAL.out]; exact hm) im hml)
          have HL := Box.mk (fun w (L : List HP) hs => rless_spec W w L hs acc[im].k x.k)
          generalize hy : acc[im] = y at *
          clear hy
          obtain ⟨q, hq1⟩ : ∃ q, lessK y.k x.k = q := ⟨_, rfl⟩
          rw [hq1] at HL hsn
          clear hq1 hi2 hml
          cases q with
          | false =>
            rw [if_neg (by decide)] at hsn
            have HSN := Box.mk hsn
            clear hsn
            have cT : ∀ w M, Sat W w M → row b1 (cmC c (.slice (some ⟨bw, ow, none⟩) c.W.length cw)) 24 ∈ M → row b3 [Value.int .i64 (max c.ts 1), .slice (some ⟨ba, 0, none⟩) n ca] 24 ∈ M → own (.slice (some ⟨ba, 0, none⟩) n ca) 61 n 4 (wsC acc) ∈ M → (∃ M0, M = M0 ++ L) → (tidT b1 (.slice (some ⟨bw, ow, none⟩) c.W.length cw) bw (ow + i * 4) (wC x) b3 (.slice (some ⟨ba, 0, none⟩) n ca) ba (im * 4) (wC y)) w := fun w M h h1 h2 h3 h4 => ⟨h.cell h1 rfl, HRW.out w M h h4, h.cell h2 rfl, HRA.out w M h h3⟩
            have g21 : ∀ w, (tidT b1 (.slice (some ⟨bw, ow, none⟩) c.W.length cw) bw (ow + i * 4) (wC x) b3 (.slice (some ⟨ba, 0, none⟩) n ca) ba (im * 4) (wC y)) w → w.cell? ⟨b1, 1, none⟩ = some (.slice (some ⟨bw, ow, none⟩) c.W.length cw) := fun w h => h.1
            have g25 : ∀ w, (tidT b1 (.slice (some ⟨bw, ow, none⟩) c.W.length cw) bw (ow + i * 4) (wC x) b3 (.slice (some ⟨ba, 0, none⟩) n ca) ba (im * 4) (wC y)) w → w.rangeAt bw (ow + i * 4) (kC x.k) := fun w h => range_pre (ds := [(.string ⟨(x.v).toArray⟩)]) h.2.1
            have g32 : ∀ w, (tidT b1 (.slice (some ⟨bw, ow, none⟩) c.W.length cw) bw (ow + i * 4) (wC x) b3 (.slice (some ⟨ba, 0, none⟩) n ca) ba (im * 4) (wC y)) w → w.cell? ⟨b3, 1, none⟩ = some (.slice (some ⟨ba, 0, none⟩) n ca) := fun w h => h.2.2.1
            have g37 : ∀ w, (tidT b1 (.slice (some ⟨bw, ow, none⟩) c.W.length cw) bw (ow + i * 4) (wC x) b3 (.slice (some ⟨ba, 0, none⟩) n ca) ba (im * 4) (wC y)) w → w.rangeAt ba (im * 4) (kC y.k) := fun w h => range_pre (ds := [(.string ⟨(y.v).toArray⟩)]) h.2.2.2
            go_wp2_with (first
              | (guard_target = wpList _ _ _ (⟨some 12, .load _ _, _, _, _, _⟩ :: _) _ _; refine wpl (o := ⟨some 12, .load _ _, _, _, _, _⟩) rfl fun K hK => op_load rfl (ad := ⟨b1, 1, none⟩) rfl (by kernel_rfl) (hs.cell (l := (cmC c (.slice (some ⟨bw, ow, none⟩) c.W.length cw))) (t := 24) (by (try dsimp only [List.set]); repeat (first | with_reducible exact List.mem_cons_self | with_reducible apply List.mem_cons_of_mem)) rfl) (hK _ _ ?_); clear hK K)
              | (guard_target = wpList _ _ _ (⟨some 18, .load _ _, _, _, _, _⟩ :: _) _ _; refine wpl (o := ⟨some 18, .load _ _, _, _, _, _⟩) rfl fun K hK => op_load rfl (ad := ⟨b3, 1, none⟩) rfl (by kernel_rfl) (hs.cell (l := [Value.int .i64 (max c.ts 1), .slice (some ⟨ba, 0, none⟩) n ca]) (t := 24) (by (try dsimp only [List.set]); repeat (first | with_reducible exact List.mem_cons_self | with_reducible apply List.mem_cons_of_mem)) rfl) (hK _ _ ?_); clear hK K))
            have hS0 := cT _ _ hs.drew (by (try dsimp only [List.set]); repeat (first | with_reducible exact List.mem_cons_self | with_reducible apply List.mem_cons_of_mem)) (by (try dsimp only [List.set]); repeat (first | with_reducible exact List.mem_cons_self | with_reducible apply List.mem_cons_of_mem)) (by (try dsimp only [List.set]); repeat (first | with_reducible exact List.mem_cons_self | with_reducible apply List.mem_cons_of_mem)) (by (try dsimp only [List.set]); first | exact ⟨[_, _, _], rfl⟩ | exact ⟨[_, _, _, _], rfl⟩ | exact ⟨[_, _, _, _, _], rfl⟩ | exact ⟨[_, _], rfl⟩)
            refine wp_region_tree ((tidT b1 (.slice (some ⟨bw, ow, none⟩) c.W.length cw) bw (ow + i * 4) (wC x) b3 (.slice (some ⟨ba, 0, none⟩) n ca) ba (im * 4) (wC y))) (.take 0 (.take 1 (.take 2 (.take 3 (.take 4 (.take 5 (.all [(6, .take 7 (.take 8 (.take 9 (.take 10 (.take 11 (.take 12 (.take 13 (.take 14 (.take 15 (.take 16 (.take 17 (.take 18 (.take 19 (.take 20 (.take 21 (.take 22 (.take 23 (.all [(24, .take 25 (.take 26 (DTree.done)))]))))))))))))))))))]))))))) (by kernel_rfl) (by kernel_rfl) (by kernel_rfl) (fun _ _ d _ _ h => by cases d <;> exact h) hS0 ?_
            have hs' := hs.drew
            clear hs
            have hs := hs'
            clear hs'
            have hq := fun p : Prop => class_const hS0 p
            clear hS0
            repeat (first
              | (with_reducible refine tree_load (o := ⟨some 21, .load _ _, _, _, _, _⟩) rfl rfl rfl rfl rfl g21 ?_)
              | (with_reducible refine tree_load_agg (o := ⟨some 25, .load _ _, _, _, _, _⟩) (kC x.k) rfl rfl rfl rfl ?_ ?_ g25 ?_; (kernel_rfl); (kernel_rfl))
              | (with_reducible refine tree_load (o := ⟨some 32, .load _ _, _, _, _, _⟩) rfl rfl rfl rfl rfl g32 ?_)
              | (with_reducible refine tree_load_agg (o := ⟨some 37, .load _ _, _, _, _, _⟩) (kC y.k) rfl rfl rfl rfl ?_ ?_ g37 ?_; (kernel_rfl); (kernel_rfl))
              | (with_reducible refine tree_load (o := ⟨some 39, .load _ _, _, _, _, _⟩) rfl rfl rfl rfl rfl g21 ?_)
              | (with_reducible refine tree_load_agg (o := ⟨some 43, .load _ _, _, _, _, _⟩) (kC x.k) rfl rfl rfl rfl ?_ ?_ g25 ?_; (kernel_rfl); (kernel_rfl))
              | (refine tree_take rfl (fun K hK => ?_); go_simp; (first | with_reducible refine hK _ ?_ | (rw [if_neg (by decide)]; with_reducible refine hK _ ?_)); clear hK K))
            refine tree_one_yes (o := _) rfl rfl (fun K hK => ?_) (cT _ _ hs (by (try dsimp only [List.set]); repeat (first | with_reducible exact List.mem_cons_self | with_reducible apply List.mem_cons_of_mem)) (by (try dsimp only [List.set]); repeat (first | with_reducible exact List.mem_cons_self | with_reducible apply List.mem_cons_of_mem)) (by (try dsimp only [List.set]); repeat (first | with_reducible exact List.mem_cons_self | with_reducible apply List.mem_cons_of_mem)) (by (try dsimp only [List.set]); first | exact ⟨[_, _, _], rfl⟩ | exact ⟨[_, _, _, _], rfl⟩ | exact ⟨[_, _, _, _, _], rfl⟩ | exact ⟨[_, _], rfl⟩))
            try go_simp
            go_at_call 61
            refine (HRI.out _ _ hs).mono ?_
            clear hs
            rintro e w5 ⟨rfl, hs⟩
            try go_simp
            refine hK _ _ (cT _ _ hs (by (try dsimp only [List.set]); repeat (first | with_reducible exact List.mem_cons_self | with_reducible apply List.mem_cons_of_mem)) (by (try dsimp only [List.set]); repeat (first | with_reducible exact List.mem_cons_self | with_reducible apply List.mem_cons_of_mem)) (by (try dsimp only [List.set]); repeat (first | with_reducible exact List.mem_cons_self | with_reducible apply List.mem_cons_of_mem)) (by (try dsimp only [List.set]); first | exact ⟨[_, _, _], rfl⟩ | exact ⟨[_, _, _, _], rfl⟩ | exact ⟨[_, _, _, _, _], rfl⟩ | exact ⟨[_, _], rfl⟩)) ?_
            clear hK K
            repeat (first
              | (with_reducible refine tree_load (o := ⟨some 21, .load _ _, _, _, _, _⟩) rfl rfl rfl rfl rfl g21 ?_)
              | (with_reducible refine tree_load_agg (o := ⟨some 25, .load _ _, _, _, _, _⟩) (kC x.k) rfl rfl rfl rfl ?_ ?_ g25 ?_; (kernel_rfl); (kernel_rfl))
              | (with_reducible refine tree_load (o := ⟨some 32, .load _ _, _, _, _, _⟩) rfl rfl rfl rfl rfl g32 ?_)
              | (with_reducible refine tree_load_agg (o := ⟨some 37, .load _ _, _, _, _, _⟩) (kC y.k) rfl rfl rfl rfl ?_ ?_ g37 ?_; (kernel_rfl); (kernel_rfl))
              | (with_reducible refine tree_load (o := ⟨some 39, .load _ _, _, _, _, _⟩) rfl rfl rfl rfl rfl g21 ?_)
              | (with_reducible refine tree_load_agg (o := ⟨some 43, .load _ _, _, _, _, _⟩) (kC x.k) rfl rfl rfl rfl ?_ ?_ g25 ?_; (kernel_rfl); (kernel_rfl))
              | (refine tree_take rfl (fun K hK => ?_); go_simp; (first | with_reducible refine hK _ ?_ | (rw [if_neg (by decide)]; with_reducible refine hK _ ?_)); clear hK K))
            refine tree_one_yes (o := _) rfl rfl (fun K hK => ?_) (cT _ _ hs (by (try dsimp only [List.set]); repeat (first | with_reducible exact List.mem_cons_self | with_reducible apply List.mem_cons_of_mem)) (by (try dsimp only [List.set]); repeat (first | with_reducible exact List.mem_cons_self | with_reducible apply List.mem_cons_of_mem)) (by (try dsimp only [List.set]); repeat (first | with_reducible exact List.mem_cons_self | with_reducible apply List.mem_cons_of_mem)) (by (try dsimp only [List.set]); first | exact ⟨[_, _, _], rfl⟩ | exact ⟨[_, _, _, _], rfl⟩ | exact ⟨[_, _, _, _, _], rfl⟩ | exact ⟨[_, _], rfl⟩))
            try go_simp
            go_at_call 44
            refine (HL.out _ _ hs).mono ?_
            clear hs
            rintro e w5 ⟨rfl, hs⟩
            try go_simp
            refine hK _ _ (cT _ _ hs (by (try dsimp only [List.set]); repeat (first | with_reducible exact List.mem_cons_self | with_reducible apply List.mem_cons_of_mem)) (by (try dsimp only [List.set]); repeat (first | with_reducible exact List.mem_cons_self | with_reducible apply List.mem_cons_of_mem)) (by (try dsimp only [List.set]); repeat (first | with_reducible exact List.mem_cons_self | with_reducible apply List.mem_cons_of_mem)) (by (try dsimp only [List.set]); first | exact ⟨[_, _, _], rfl⟩ | exact ⟨[_, _, _, _], rfl⟩ | exact ⟨[_, _, _, _, _], rfl⟩ | exact ⟨[_, _], rfl⟩)) ?_
            clear hK K
            repeat (first
              | (with_reducible refine tree_load (o := ⟨some 21, .load _ _, _, _, _, _⟩) rfl rfl rfl rfl rfl g21 ?_)
              | (with_reducible refine tree_load_agg (o := ⟨some 25, .load _ _, _, _, _, _⟩) (kC x.k) rfl rfl rfl rfl ?_ ?_ g25 ?_; (kernel_rfl); (kernel_rfl))
              | (with_reducible refine tree_load (o := ⟨some 32, .load _ _, _, _, _, _⟩) rfl rfl rfl rfl rfl g32 ?_)
              | (with_reducible refine tree_load_agg (o := ⟨some 37, .load _ _, _, _, _, _⟩) (kC y.k) rfl rfl rfl rfl ?_ ?_ g37 ?_; (kernel_rfl); (kernel_rfl))
              | (with_reducible refine tree_load (o := ⟨some 39, .load _ _, _, _, _, _⟩) rfl rfl rfl rfl rfl g21 ?_)
              | (with_reducible refine tree_load_agg (o := ⟨some 43, .load _ _, _, _, _, _⟩) (kC x.k) rfl rfl rfl rfl ?_ ?_ g25 ?_; (kernel_rfl); (kernel_rfl))
              | (refine tree_take rfl (fun K hK => ?_); go_simp; (first | with_reducible refine hK _ ?_ | (rw [if_neg (by decide)]; with_reducible refine hK _ ?_)); clear hK K))
            refine tree_done ?_
            clear hq
            go_wp2_with fail
            refine ⟨⟨i + 1, n, acc, (some ⟨ba, 0, none⟩), ca, by omega, by omega, by go_num, ⟨HSN.out⟩, HAL, ?_⟩, by simp only [intOf]; omega⟩
            exact hs.pack (by repeat (first | with_reducible exact Pack.refl | with_reducible exact Pack.nil | with_reducible refine Pack.cons (by repeat (first | with_reducible exact Pick.here | with_reducible apply Pick.there)) ?_ | with_reducible apply Pack.drop))
          | true =>
            rw [if_pos rfl] at hsn
            have HSN := Box.mk hsn
            clear hsn
            have cS : ∀ w M, Sat W w M → row b1 (cmC c (.slice (some ⟨bw, ow, none⟩) c.W.length cw)) 24 ∈ M → (∃ M0, M = M0 ++ L) → (tidS b1 (.slice (some ⟨bw, ow, none⟩) c.W.length cw) bw (ow + i * 4) (wC x)) w := fun w M h h1 h2 => ⟨h.cell h1 rfl, HRW.out w M h h2⟩
            have h21 : ∀ w, (tidS b1 (.slice (some ⟨bw, ow, none⟩) c.W.length cw) bw (ow + i * 4) (wC x)) w → w.cell? ⟨b1, 1, none⟩ = some (.slice (some ⟨bw, ow, none⟩) c.W.length cw) := fun w h => h.1
            have h25 : ∀ w, (tidS b1 (.slice (some ⟨bw, ow, none⟩) c.W.length cw) bw (ow + i * 4) (wC x)) w → w.rangeAt bw (ow + i * 4) (kC x.k) := fun w h => range_pre (ds := [(.string ⟨(x.v).toArray⟩)]) h.2
            have h53 : ∀ w, (tidS b1 (.slice (some ⟨bw, ow, none⟩) c.W.length cw) bw (ow + i * 4) (wC x)) w → w.rangeAt bw (ow + i * 4) (wC x) := fun w h => h.2
            have cT : ∀ w M, Sat W w M → row b1 (cmC c (.slice (some ⟨bw, ow, none⟩) c.W.length cw)) 24 ∈ M → row b3 [Value.int .i64 (max c.ts 1), .slice (some ⟨ba, 0, none⟩) n ca] 24 ∈ M → own (.slice (some ⟨ba, 0, none⟩) n ca) 61 n 4 (wsC acc) ∈ M → (∃ M0, M = M0 ++ L) → (tidT b1 (.slice (some ⟨bw, ow, none⟩) c.W.length cw) bw (ow + i * 4) (wC x) b3 (.slice (some ⟨ba, 0, none⟩) n ca) ba (im * 4) (wC y)) w := fun w M h h1 h2 h3 h4 => ⟨h.cell h1 rfl, HRW.out w M h h4, h.cell h2 rfl, HRA.out w M h h3⟩
            have g21 : ∀ w, (tidT b1 (.slice (some ⟨bw, ow, none⟩) c.W.length cw) bw (ow + i * 4) (wC x) b3 (.slice (some ⟨ba, 0, none⟩) n ca) ba (im * 4) (wC y)) w → w.cell? ⟨b1, 1, none⟩ = some (.slice (some ⟨bw, ow, none⟩) c.W.length cw) := fun w h => h.1
            have g25 : ∀ w, (tidT b1 (.slice (some ⟨bw, ow, none⟩) c.W.length cw) bw (ow + i * 4) (wC x) b3 (.slice (some ⟨ba, 0, none⟩) n ca) ba (im * 4) (wC y)) w → w.rangeAt bw (ow + i * 4) (kC x.k) := fun w h => range_pre (ds := [(.string ⟨(x.v).toArray⟩)]) h.2.1
            have g32 : ∀ w, (tidT b1 (.slice (some ⟨bw, ow, none⟩) c.W.length cw) bw (ow + i * 4) (wC x) b3 (.slice (some ⟨ba, 0, none⟩) n ca) ba (im * 4) (wC y)) w → w.cell? ⟨b3, 1, none⟩ = some (.slice (some ⟨ba, 0, none⟩) n ca) := fun w h => h.2.2.1
            have g37 : ∀ w, (tidT b1 (.slice (some ⟨bw, ow, none⟩) c.W.length cw) bw (ow + i * 4) (wC x) b3 (.slice (some ⟨ba, 0, none⟩) n ca) ba (im * 4) (wC y)) w → w.rangeAt ba (im * 4) (kC y.k) := fun w h => range_pre (ds := [(.string ⟨(y.v).toArray⟩)]) h.2.2.2
            go_wp2_with (first
              | (guard_target = wpList _ _ _ (⟨some 12, .load _ _, _, _, _, _⟩ :: _) _ _; refine wpl (o := ⟨some 12, .load _ _, _, _, _, _⟩) rfl fun K hK => op_load rfl (ad := ⟨b1, 1, none⟩) rfl (by kernel_rfl) (hs.cell (l := (cmC c (.slice (some ⟨bw, ow, none⟩) c.W.length cw))) (t := 24) (by (try dsimp only [List.set]); repeat (first | with_reducible exact List.mem_cons_self | with_reducible apply List.mem_cons_of_mem)) rfl) (hK _ _ ?_); clear hK K)
              | (guard_target = wpList _ _ _ (⟨some 18, .load _ _, _, _, _, _⟩ :: _) _ _; refine wpl (o := ⟨some 18, .load _ _, _, _, _, _⟩) rfl fun K hK => op_load rfl (ad := ⟨b3, 1, none⟩) rfl (by kernel_rfl) (hs.cell (l := [Value.int .i64 (max c.ts 1), .slice (some ⟨ba, 0, none⟩) n ca]) (t := 24) (by (try dsimp only [List.set]); repeat (first | with_reducible exact List.mem_cons_self | with_reducible apply List.mem_cons_of_mem)) rfl) (hK _ _ ?_); clear hK K))
            have hS0 := cT _ _ hs.drew (by (try dsimp only [List.set]); repeat (first | with_reducible exact List.mem_cons_self | with_reducible apply List.mem_cons_of_mem)) (by (try dsimp only [List.set]); repeat (first | with_reducible exact List.mem_cons_self | with_reducible apply List.mem_cons_of_mem)) (by (try dsimp only [List.set]); repeat (first | with_reducible exact List.mem_cons_self | with_reducible apply List.mem_cons_of_mem)) (by (try dsimp only [List.set]); first | exact ⟨[_, _, _], rfl⟩ | exact ⟨[_, _, _, _], rfl⟩ | exact ⟨[_, _, _, _, _], rfl⟩ | exact ⟨[_, _], rfl⟩)
            refine wp_region_tree ((tidT b1 (.slice (some ⟨bw, ow, none⟩) c.W.length cw) bw (ow + i * 4) (wC x) b3 (.slice (some ⟨ba, 0, none⟩) n ca) ba (im * 4) (wC y))) (.take 0 (.take 1 (.take 2 (.take 3 (.take 4 (.take 5 (.all [(6, .take 7 (.take 8 (.take 9 (.take 10 (.take 11 (.take 12 (.take 13 (.take 14 (.take 15 (.take 16 (.take 17 (.take 18 (.take 19 (.take 20 (.take 21 (.take 22 (.take 23 (.all [(24, .take 25 (.take 26 (DTree.done)))]))))))))))))))))))]))))))) (by kernel_rfl) (by kernel_rfl) (by kernel_rfl) (fun _ _ d _ _ h => by cases d <;> exact h) hS0 ?_
            have hs' := hs.drew
            clear hs
            have hs := hs'
            clear hs'
            have hq := fun p : Prop => class_const hS0 p
            clear hS0
            repeat (first
              | (with_reducible refine tree_load (o := ⟨some 21, .load _ _, _, _, _, _⟩) rfl rfl rfl rfl rfl g21 ?_)
              | (with_reducible refine tree_load_agg (o := ⟨some 25, .load _ _, _, _, _, _⟩) (kC x.k) rfl rfl rfl rfl ?_ ?_ g25 ?_; (kernel_rfl); (kernel_rfl))
              | (with_reducible refine tree_load (o := ⟨some 32, .load _ _, _, _, _, _⟩) rfl rfl rfl rfl rfl g32 ?_)
              | (with_reducible refine tree_load_agg (o := ⟨some 37, .load _ _, _, _, _, _⟩) (kC y.k) rfl rfl rfl rfl ?_ ?_ g37 ?_; (kernel_rfl); (kernel_rfl))
              | (with_reducible refine tree_load (o := ⟨some 39, .load _ _, _, _, _, _⟩) rfl rfl rfl rfl rfl g21 ?_)
              | (with_reducible refine tree_load_agg (o := ⟨some 43, .load _ _, _, _, _, _⟩) (kC x.k) rfl rfl rfl rfl ?_ ?_ g25 ?_; (kernel_rfl); (kernel_rfl))
              | (refine tree_take rfl (fun K hK => ?_); go_simp; (first | with_reducible refine hK _ ?_ | (rw [if_neg (by decide)]; with_reducible refine hK _ ?_)); clear hK K))
            refine tree_one_yes (o := _) rfl rfl (fun K hK => ?_) (cT _ _ hs (by (try dsimp only [List.set]); repeat (first | with_reducible exact List.mem_cons_self | with_reducible apply List.mem_cons_of_mem)) (by (try dsimp only [List.set]); repeat (first | with_reducible exact List.mem_cons_self | with_reducible apply List.mem_cons_of_mem)) (by (try dsimp only [List.set]); repeat (first | with_reducible exact List.mem_cons_self | with_reducible apply List.mem_cons_of_mem)) (by (try dsimp only [List.set]); first | exact ⟨[_, _, _], rfl⟩ | exact ⟨[_, _, _, _], rfl⟩ | exact ⟨[_, _, _, _, _], rfl⟩ | exact ⟨[_, _], rfl⟩))
            try go_simp
            go_at_call 61
            refine (HRI.out _ _ hs).mono ?_
            clear hs
            rintro e w5 ⟨rfl, hs⟩
            try go_simp
            refine hK _ _ (cT _ _ hs (by (try dsimp only [List.set]); repeat (first | with_reducible exact List.mem_cons_self | with_reducible apply List.mem_cons_of_mem)) (by (try dsimp only [List.set]); repeat (first | with_reducible exact List.mem_cons_self | with_reducible apply List.mem_cons_of_mem)) (by (try dsimp only [List.set]); repeat (first | with_reducible exact List.mem_cons_self | with_reducible apply List.mem_cons_of_mem)) (by (try dsimp only [List.set]); first | exact ⟨[_, _, _], rfl⟩ | exact ⟨[_, _, _, _], rfl⟩ | exact ⟨[_, _, _, _, _], rfl⟩ | exact ⟨[_, _], rfl⟩)) ?_
            clear hK K
            repeat (first
              | (with_reducible refine tree_load (o := ⟨some 21, .load _ _, _, _, _, _⟩) rfl rfl rfl rfl rfl g21 ?_)
              | (with_reducible refine tree_load_agg (o := ⟨some 25, .load _ _, _, _, _, _⟩) (kC x.k) rfl rfl rfl rfl ?_ ?_ g25 ?_; (kernel_rfl); (kernel_rfl))
              | (with_reducible refine tree_load (o := ⟨some 32, .load _ _, _, _, _, _⟩) rfl rfl rfl rfl rfl g32 ?_)
              | (with_reducible refine tree_load_agg (o := ⟨some 37, .load _ _, _, _, _, _⟩) (kC y.k) rfl rfl rfl rfl ?_ ?_ g37 ?_; (kernel_rfl); (kernel_rfl))
              | (with_reducible refine tree_load (o := ⟨some 39, .load _ _, _, _, _, _⟩) rfl rfl rfl rfl rfl g21 ?_)
              | (with_reducible refine tree_load_agg (o := ⟨some 43, .load _ _, _, _, _, _⟩) (kC x.k) rfl rfl rfl rfl ?_ ?_ g25 ?_; (kernel_rfl); (kernel_rfl))
              | (refine tree_take rfl (fun K hK => ?_); go_simp; (first | with_reducible refine hK _ ?_ | (rw [if_neg (by decide)]; with_reducible refine hK _ ?_)); clear hK K))
            refine tree_one_yes (o := _) rfl rfl (fun K hK => ?_) (cT _ _ hs (by (try dsimp only [List.set]); repeat (first | with_reducible exact List.mem_cons_self | with_reducible apply List.mem_cons_of_mem)) (by (try dsimp only [List.set]); repeat (first | with_reducible exact List.mem_cons_self | with_reducible apply List.mem_cons_of_mem)) (by (try dsimp only [List.set]); repeat (first | with_reducible exact List.mem_cons_self | with_reducible apply List.mem_cons_of_mem)) (by (try dsimp only [List.set]); first | exact ⟨[_, _, _], rfl⟩ | exact ⟨[_, _, _, _], rfl⟩ | exact ⟨[_, _, _, _, _], rfl⟩ | exact ⟨[_, _], rfl⟩))
            try go_simp
            go_at_call 44
            refine (HL.out _ _ hs).mono ?_
            clear hs
            rintro e w5 ⟨rfl, hs⟩
            try go_simp
            refine hK _ _ (cT _ _ hs (by (try dsimp only [List.set]); repeat (first | with_reducible exact List.mem_cons_self | with_reducible apply List.mem_cons_of_mem)) (by (try dsimp only [List.set]); repeat (first | with_reducible exact List.mem_cons_self | with_reducible apply List.mem_cons_of_mem)) (by (try dsimp only [List.set]); repeat (first | with_reducible exact List.mem_cons_self | with_reducible apply List.mem_cons_of_mem)) (by (try dsimp only [List.set]); first | exact ⟨[_, _, _], rfl⟩ | exact ⟨[_, _, _, _], rfl⟩ | exact ⟨[_, _, _, _, _], rfl⟩ | exact ⟨[_, _], rfl⟩)) ?_
            clear hK K
            repeat (first
              | (with_reducible refine tree_load (o := ⟨some 21, .load _ _, _, _, _, _⟩) rfl rfl rfl rfl rfl g21 ?_)
              | (with_reducible refine tree_load_agg (o := ⟨some 25, .load _ _, _, _, _, _⟩) (kC x.k) rfl rfl rfl rfl ?_ ?_ g25 ?_; (kernel_rfl); (kernel_rfl))
              | (with_reducible refine tree_load (o := ⟨some 32, .load _ _, _, _, _, _⟩) rfl rfl rfl rfl rfl g32 ?_)
              | (with_reducible refine tree_load_agg (o := ⟨some 37, .load _ _, _, _, _, _⟩) (kC y.k) rfl rfl rfl rfl ?_ ?_ g37 ?_; (kernel_rfl); (kernel_rfl))
              | (with_reducible refine tree_load (o := ⟨some 39, .load _ _, _, _, _, _⟩) rfl rfl rfl rfl rfl g21 ?_)
              | (with_reducible refine tree_load_agg (o := ⟨some 43, .load _ _, _, _, _, _⟩) (kC x.k) rfl rfl rfl rfl ?_ ?_ g25 ?_; (kernel_rfl); (kernel_rfl))
              | (refine tree_take rfl (fun K hK => ?_); go_simp; (first | with_reducible refine hK _ ?_ | (rw [if_neg (by decide)]; with_reducible refine hK _ ?_)); clear hK K))
            refine tree_done ?_
            clear hq cT g21 g25 g32 g37
            go_wp2_with fail
            have hS0 := cS _ _ hs.drew (by (try dsimp only [List.set]); repeat (first | with_reducible exact List.mem_cons_self | with_reducible apply List.mem_cons_of_mem)) (by (try dsimp only [List.set]); first | exact ⟨[_, _, _], rfl⟩ | exact ⟨[_, _, _, _], rfl⟩ | exact ⟨[_, _, _, _, _], rfl⟩ | exact ⟨[_, _], rfl⟩)
            refine wp_region_tree ((tidS b1 (.slice (some ⟨bw, ow, none⟩) c.W.length cw) bw (ow + i * 4) (wC x))) (.take 0 (.take 2 (.take 3 (.take 4 (.take 5 (.take 6 (.all [(1, .all [(7, .all [(8, .take 9 (.all [(10, DTree.done)]))])]), (7, .all [(1, .all [(8, .take 9 (.all [(10, DTree.done)]))])])]))))))) (by kernel_rfl) (by kernel_rfl) (by kernel_rfl) (fun _ _ d _ _ h => by cases d <;> exact h) hS0 ?_
            have hs' := hs.drew
            clear hs
            have hs := hs'
            clear hs'
            have hq := fun p : Prop => class_const hS0 p
            clear hS0
            repeat (first
              | (with_reducible refine tree_load (o := ⟨some 50, .load _ _, _, _, _, _⟩) rfl rfl rfl rfl rfl h21 ?_)
              | (with_reducible refine tree_load_agg (o := ⟨some 53, .load _ _, _, _, _, _⟩) (wC x) rfl rfl rfl rfl ?_ ?_ h53 ?_; (kernel_rfl); (kernel_rfl))
              | (refine tree_take rfl (fun K hK => ?_); go_simp; (first | with_reducible refine hK _ ?_ | (rw [if_neg (by decide)]; with_reducible refine hK _ ?_)); clear hK K))
            refine tree_all (trees_cons_yes (o := _) rfl rfl (fun K hK => ?_) (cS _ _ hs (by (try dsimp only [List.set]); repeat (first | with_reducible exact List.mem_cons_self | with_reducible apply List.mem_cons_of_mem)) (by (try dsimp only [List.set]); first | exact ⟨[_, _, _], rfl⟩ | exact ⟨[_, _, _, _], rfl⟩ | exact ⟨[_, _, _, _, _], rfl⟩ | exact ⟨[_, _], rfl⟩)) (trees_cons_yes (o := _) rfl rfl (fun K hK => ?_) (cS _ _ hs (by (try dsimp only [List.set]); repeat (first | with_reducible exact List.mem_cons_self | with_reducible apply List.mem_cons_of_mem)) (by (try dsimp only [List.set]); first | exact ⟨[_, _, _], rfl⟩ | exact ⟨[_, _, _, _], rfl⟩ | exact ⟨[_, _, _, _, _], rfl⟩ | exact ⟨[_, _], rfl⟩)) trees_nil))
            · refine op_load rfl (ad := ⟨b3, 1, none⟩) rfl (by kernel_rfl) (hs.cell (l := [Value.int .i64 (max c.ts 1), .slice (some ⟨ba, 0, none⟩) n ca]) (t := 24) (by (try dsimp only [List.set]); repeat (first | with_reducible exact List.mem_cons_self | with_reducible apply List.mem_cons_of_mem)) rfl) (hK _ _ (cS _ _ hs (by (try dsimp only [List.set]); repeat (first | with_reducible exact List.mem_cons_self | with_reducible apply List.mem_cons_of_mem)) (by (try dsimp only [List.set]); first | exact ⟨[_, _, _], rfl⟩ | exact ⟨[_, _, _, _], rfl⟩ | exact ⟨[_, _, _, _, _], rfl⟩ | exact ⟨[_, _], rfl⟩)) ?_)
              clear hK K
              try go_simp
              refine tree_one_yes (o := _) rfl rfl (fun K hK => ?_) (cS _ _ hs (by (try dsimp only [List.set]); repeat (first | with_reducible exact List.mem_cons_self | with_reducible apply List.mem_cons_of_mem)) (by (try dsimp only [List.set]); first | exact ⟨[_, _, _], rfl⟩ | exact ⟨[_, _, _, _], rfl⟩ | exact ⟨[_, _, _, _, _], rfl⟩ | exact ⟨[_, _], rfl⟩))
              refine op_lit_agg1 hs rfl Tryd.underlying22 info_write (wC x) rfl rfl (by omega) (by omega) fun b54 w1 h => hK _ _ (cS _ _ h (by (try dsimp only [List.set]); repeat (first | with_reducible exact List.mem_cons_self | with_reducible apply List.mem_cons_of_mem)) (by (try dsimp only [List.set]); first | exact ⟨[_, _, _], rfl⟩ | exact ⟨[_, _, _, _], rfl⟩ | exact ⟨[_, _, _, _, _], rfl⟩ | exact ⟨[_, _], rfl⟩)) ?_
              clear hs hK K
              have hs := h
              clear h
              try dsimp only [List.set] at hs
              try go_simp
              refine tree_one_yes (o := _) rfl rfl (fun K hK => ?_) (cS _ _ hs (by (try dsimp only [List.set]); repeat (first | with_reducible exact List.mem_cons_self | with_reducible apply List.mem_cons_of_mem)) (by (try dsimp only [List.set]); first | exact ⟨[_, _, _], rfl⟩ | exact ⟨[_, _, _, _], rfl⟩ | exact ⟨[_, _, _, _, _], rfl⟩ | exact ⟨[_, _], rfl⟩))
              refine op_append (hs.pick (A := own (.slice (some ⟨ba, 0, none⟩) n ca) 61 n 4 (wsC acc)) (by repeat (first | with_reducible exact Pick.here | with_reducible apply Pick.there))) rfl Tryd.underlying22 Tryd.underlying22 info_write rfl (by omega) (k := 0) rfl rfl rfl (Has.of (A := row b54 (wC x) 61) (by (try dsimp only [List.set]); repeat (first | with_reducible exact List.mem_cons_self | with_reducible apply List.mem_cons_of_mem)) fun F hF => own_sliceAt F (own_exact (n := 1) (sz := 4) rfl (by omega) F hF)) (wC_one _) (by omega) (by omega) fun v55 w2 h => hK _ _ (cS _ _ h (by (try dsimp only [List.set]); repeat (first | with_reducible exact List.mem_cons_self | with_reducible apply List.mem_cons_of_mem)) (by (try dsimp only [List.set]); first | exact ⟨[_, _, _], rfl⟩ | exact ⟨[_, _, _, _], rfl⟩ | exact ⟨[_, _, _, _, _], rfl⟩ | exact ⟨[_, _], rfl⟩)) ?_
              clear hs hK K
              have hs := h
              clear h
              try dsimp only [List.set] at hs
              obtain ⟨A55, c55, rfl, _, _⟩ := own_slice hs (i := 0) rfl
              try go_simp
              repeat (first
                | (with_reducible refine tree_load (o := ⟨some 50, .load _ _, _, _, _, _⟩) rfl rfl rfl rfl rfl h21 ?_)
                | (with_reducible refine tree_load_agg (o := ⟨some 53, .load _ _, _, _, _, _⟩) (wC x) rfl rfl rfl rfl ?_ ?_ h53 ?_; (kernel_rfl); (kernel_rfl))
                | (refine tree_take rfl (fun K hK => ?_); go_simp; (first | with_reducible refine hK _ ?_ | (rw [if_neg (by decide)]; with_reducible refine hK _ ?_)); clear hK K))
              refine tree_one_yes (o := _) rfl rfl (fun K hK => ?_) (cS _ _ hs (by (try dsimp only [List.set]); repeat (first | with_reducible exact List.mem_cons_self | with_reducible apply List.mem_cons_of_mem)) (by (try dsimp only [List.set]); first | exact ⟨[_, _, _], rfl⟩ | exact ⟨[_, _, _, _], rfl⟩ | exact ⟨[_, _, _, _, _], rfl⟩ | exact ⟨[_, _], rfl⟩))
              refine op_store (hs.pick (A := row b3 [Value.int .i64 (max c.ts 1), .slice (some ⟨ba, 0, none⟩) n ca] 24) (by repeat (first | with_reducible exact Pick.here | with_reducible apply Pick.there))) rfl (b := b3) (i := 1) (v := .slice A55 (n + 1) c55) rfl rfl rfl (by kernel_rfl) (k := 0) rfl (by simp) fun w7 h => hK _ _ (cS _ _ h (by (try dsimp only [List.set]); repeat (first | with_reducible exact List.mem_cons_self | with_reducible apply List.mem_cons_of_mem)) (by (try dsimp only [List.set]); first | exact ⟨[_, _, _], rfl⟩ | exact ⟨[_, _, _, _], rfl⟩ | exact ⟨[_, _, _, _, _], rfl⟩ | exact ⟨[_, _], rfl⟩)) ?_
              clear hs hK K
              have hs := h
              clear h
              try dsimp only [List.set] at hs
              try go_simp
              refine tree_done ?_
              clear hq
              go_wp2_with fail
              refine ⟨⟨i + 1, n + 1, acc ++ [x], A55, c55, by omega, by omega, by go_num, ⟨HSN.out⟩, ⟨by rw [List.length_append, List.length_singleton, HAL.out]⟩, ?_⟩, by simp only [intOf]; omega⟩
              rw [wsC_snoc]
              exact hs.pack (by repeat (first | with_reducible exact Pack.refl | with_reducible exact Pack.nil | with_reducible refine Pack.cons (by repeat (first | with_reducible exact Pick.here | with_reducible apply Pick.there)) ?_ | with_reducible apply Pack.drop))
            · refine op_lit_agg1 hs rfl Tryd.underlying22 info_write (wC x) rfl rfl (by omega) (by omega) fun b54 w1 h => hK _ _ (cS _ _ h (by (try dsimp only [List.set]); repeat (first | with_reducible exact List.mem_cons_self | with_reducible apply List.mem_cons_of_mem)) (by (try dsimp only [List.set]); first | exact ⟨[_, _, _], rfl⟩ | exact ⟨[_, _, _, _], rfl⟩ | exact ⟨[_, _, _, _, _], rfl⟩ | exact ⟨[_, _], rfl⟩)) ?_
              clear hs hK K
              have hs := h
              clear h
              try dsimp only [List.set] at hs
              try go_simp
              refine tree_one_yes (o := _) rfl rfl (fun K hK => ?_) (cS _ _ hs (by (try dsimp only [List.set]); repeat (first | with_reducible exact List.mem_cons_self | with_reducible apply List.mem_cons_of_mem)) (by (try dsimp only [List.set]); first | exact ⟨[_, _, _], rfl⟩ | exact ⟨[_, _, _, _], rfl⟩ | exact ⟨[_, _, _, _, _], rfl⟩ | exact ⟨[_, _], rfl⟩))
              refine op_load rfl (ad := ⟨b3, 1, none⟩) rfl (by kernel_rfl) (hs.cell (l := [Value.int .i64 (max c.ts 1), .slice (some ⟨ba, 0, none⟩) n ca]) (t := 24) (by (try dsimp only [List.set]); repeat (first | with_reducible exact List.mem_cons_self | with_reducible apply List.mem_cons_of_mem)) rfl) (hK _ _ (cS _ _ hs (by (try dsimp only [List.set]); repeat (first | with_reducible exact List.mem_cons_self | with_reducible apply List.mem_cons_of_mem)) (by (try dsimp only [List.set]); first | exact ⟨[_, _, _], rfl⟩ | exact ⟨[_, _, _, _], rfl⟩ | exact ⟨[_, _, _, _, _], rfl⟩ | exact ⟨[_, _], rfl⟩)) ?_)
              clear hK K
              try go_simp
              refine tree_one_yes (o := _) rfl rfl (fun K hK => ?_) (cS _ _ hs (by (try dsimp only [List.set]); repeat (first | with_reducible exact List.mem_cons_self | with_reducible apply List.mem_cons_of_mem)) (by (try dsimp only [List.set]); first | exact ⟨[_, _, _], rfl⟩ | exact ⟨[_, _, _, _], rfl⟩ | exact ⟨[_, _, _, _, _], rfl⟩ | exact ⟨[_, _], rfl⟩))
              refine op_append (hs.pick (A := own (.slice (some ⟨ba, 0, none⟩) n ca) 61 n 4 (wsC acc)) (by repeat (first | with_reducible exact Pick.here | with_reducible apply Pick.there))) rfl Tryd.underlying22 Tryd.underlying22 info_write rfl (by omega) (k := 0) rfl rfl rfl (Has.of (A := row b54 (wC x) 61) (by (try dsimp only [List.set]); repeat (first | with_reducible exact List.mem_cons_self | with_reducible apply List.mem_cons_of_mem)) fun F hF => own_sliceAt F (own_exact (n := 1) (sz := 4) rfl (by omega) F hF)) (wC_one _) (by omega) (by omega) fun v55 w2 h => hK _ _ (cS _ _ h (by (try dsimp only [List.set]); repeat (first | with_reducible exact List.mem_cons_self | with_reducible apply List.mem_cons_of_mem)) (by (try dsimp only [List.set]); first | exact ⟨[_, _, _], rfl⟩ | exact ⟨[_, _, _, _], rfl⟩ | exact ⟨[_, _, _, _, _], rfl⟩ | exact ⟨[_, _], rfl⟩)) ?_
              clear hs hK K
              have hs := h
              clear h
              try dsimp only [List.set] at hs
              obtain ⟨A55, c55, rfl, _, _⟩ := own_slice hs (i := 0) rfl
              try go_simp
              repeat (first
                | (with_reducible refine tree_load (o := ⟨some 50, .load _ _, _, _, _, _⟩) rfl rfl rfl rfl rfl h21 ?_)
                | (with_reducible refine tree_load_agg (o := ⟨some 53, .load _ _, _, _, _, _⟩) (wC x) rfl rfl rfl rfl ?_ ?_ h53 ?_; (kernel_rfl); (kernel_rfl))
                | (refine tree_take rfl (fun K hK => ?_); go_simp; (first | with_reducible refine hK _ ?_ | (rw [if_neg (by decide)]; with_reducible refine hK _ ?_)); clear hK K))
              refine tree_one_yes (o := _) rfl rfl (fun K hK => ?_) (cS _ _ hs (by (try dsimp only [List.set]); repeat (first | with_reducible exact List.mem_cons_self | with_reducible apply List.mem_cons_of_mem)) (by (try dsimp only [List.set]); first | exact ⟨[_, _, _], rfl⟩ | exact ⟨[_, _, _, _], rfl⟩ | exact ⟨[_, _, _, _, _], rfl⟩ | exact ⟨[_, _], rfl⟩))
              refine op_store (hs.pick (A := row b3 [Value.int .i64 (max c.ts 1), .slice (some ⟨ba, 0, none⟩) n ca] 24) (by repeat (first | with_reducible exact Pick.here | with_reducible apply Pick.there))) rfl (b := b3) (i := 1) (v := .slice A55 (n + 1) c55) rfl rfl rfl (by kernel_rfl) (k := 0) rfl (by simp) fun w7 h => hK _ _ (cS _ _ h (by (try dsimp only [List.set]); repeat (first | with_reducible exact List.mem_cons_self | with_reducible apply List.mem_cons_of_mem)) (by (try dsimp only [List.set]); first | exact ⟨[_, _, _], rfl⟩ | exact ⟨[_, _, _, _], rfl⟩ | exact ⟨[_, _, _, _, _], rfl⟩ | exact ⟨[_, _], rfl⟩)) ?_
              clear hs hK K
              have hs := h
              clear h
              try dsimp only [List.set] at hs
              try go_simp
              refine tree_done ?_
              clear hq
              go_wp2_with fail
              refine ⟨⟨i + 1, n + 1, acc ++ [x], A55, c55, by omega, by omega, by go_num, ⟨HSN.out⟩, ⟨by rw [List.length_append, List.length_singleton, HAL.out]⟩, ?_⟩, by simp only [intOf]; omega⟩
              rw [wsC_snoc]
              exact hs.pack (by repeat (first | with_reducible exact Pack.refl | with_reducible exact Pack.nil | with_reducible refine Pack.cons (by repeat (first | with_reducible exact Pick.here | with_reducible apply Pick.there)) ?_ | with_reducible apply Pack.drop))
    · have hltI : ¬ (i : Int) < (c.W.length : Int) := by omega
      have he : R = ⟨max c.ts 1, acc⟩ := by
        rw [← hR.out]
        unfold tidyC
        rw [← HACC.out, List.take_of_length_le (by omega)]
      subst he
      clear hR HACC
      go_wp2_with (first
        | (guard_target = wpList _ _ _ (⟨some 12, .load _ _, _, _, _, _⟩ :: _) _ _; refine wpl (o := ⟨some 12, .load _ _, _, _, _, _⟩) rfl fun K hK => op_load rfl (ad := ⟨b1, 1, none⟩) rfl (by kernel_rfl) (hs.cell (l := cmC c (.slice Aw c.W.length cw)) (t := 24) (by (try dsimp only [List.set]); repeat (first | with_reducible exact List.mem_cons_self | with_reducible apply List.mem_cons_of_mem)) rfl) (hK _ _ ?_); clear hK K)
        | (guard_target = wpList _ _ _ (⟨some 57, .load _ _, _, _, _, _⟩ :: _) _ _; refine wpl (o := ⟨some 57, .load _ _, _, _, _, _⟩) rfl fun K hK => op_load_agg rfl (b := b3) (i := 0) rfl ([Value.int .i64 (max c.ts 1), .slice A n ca]) (range_whole hs (by (try dsimp only [List.set]); repeat (first | with_reducible exact List.mem_cons_self | with_reducible apply List.mem_cons_of_mem))) (by kernel_rfl) (by kernel_rfl) (hK _ _ ?_); clear hK K)
        | (guard_target = wpList _ _ _ (⟨none, .store _ (.tmp 2) _, _, _, _, _⟩ :: _) _ _; refine wpl (o := ⟨none, .store _ (.tmp 2) _, _, _, _, _⟩) rfl fun K hK => ?_; go_must (refine op_store_whole (hs.pick (A := row b2 [Value.int .i64 0, .slice none 0 0] 24) (by repeat (first | with_reducible exact Pick.here | with_reducible apply Pick.there))) (b := b2) rfl rfl [Value.int .i64 (max c.ts 1), .slice A n ca] rfl (by simp [Value.oneCell']) (by kernel_rfl) (k := 0) rfl rfl fun w9 h => hK _ _ ?_); clear hs hK K; have hs := h; clear h; dsimp only [List.set] at hs))
      exact bodyPost_ret (run_results_cell rfl (b := b2) rfl [Value.int .i64 (max c.ts 1), .slice A n ca] (range_whole hs m0) (by kernel_rfl) (by kernel_rfl)) rfl ⟨.slice A n ca, rfl, by show Sat W _ (own (.slice A n ca) 61 acc.length 4 (wsC acc) :: L); rw [HAL.out]; exact hs.pack (L := own (.slice A n ca) 61 n 4 (wsC acc) :: L) (by repeat (first | with_reducible exact Pack.refl | with_reducible exact Pack.nil | with_reducible refine Pack.cons (by repeat (first | with_reducible exact Pick.here | with_reducible apply Pick.there)) ?_ | with_reducible apply Pack.drop))⟩
end Go.Proofs.YthjnefpnnifjiaaDoor
