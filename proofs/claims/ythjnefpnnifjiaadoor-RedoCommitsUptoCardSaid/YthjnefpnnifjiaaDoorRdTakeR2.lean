/- The contract of ogiveref20.Take. -/
import Derived.Test.YthjnefpnnifjiaaDoorRdTakeRP
import Derived.Test.YthjnefpnnifjiaaDoorRdTake
set_option linter.unusedVariables false
set_option linter.unusedSimpArgs false
namespace Go.Proofs.YthjnefpnnifjiaaDoor
open Go.RowKit
theorem rti (W w : World) (L : List HP) (hs : Sat W w L) (l : List UInt8) (hl : l.length ≤ 1073741824) :
    Calls Tryd.prog 40 #[(.string ⟨(l).toArray⟩)] w fun e w' => e = .returned (.tuple #[.int .i64 (tiA l), (.string ⟨(tiB l).toArray⟩), .int .i64 (tiC l : Nat)]) ∧ Sat W w' L := by
  rw [← takeIV_eq]
  exact rtakeInt_spec W w L hs l hl
theorem rtt (W w : World) (L : List HP) (hs : Sat W w L) (l : List UInt8) (hl : l.length ≤ 1073741824) :
    Calls Tryd.prog 43 #[(.string ⟨(l).toArray⟩)] w fun e w' => e = .returned (.tuple #[(.string ⟨(ttA (takeT l)).toArray⟩), (.string ⟨(ttB (takeT l)).toArray⟩), .int .i64 (ttC (takeT l) : Nat)]) ∧ Sat W w' L := by
  rw [← takeTV_eq]
  exact rtakeText_spec W w L hs l hl
theorem tiB_len (s : List UInt8) : (tiB s).length ≤ s.length := by unfold tiB; split <;> simp
theorem ttB_len (s : List UInt8) : (ttB (takeT s)).length ≤ s.length := (⟨s, false⟩ : Rd).text_len.1
def rtS (b10 : Nat) (v : Value) (ba o : Nat) (ks : List Value) (b12 : Nat) (ds : List Value) (w : World) : Prop := w.cell? ⟨b10, 1, none⟩ = some v ∧ w.rangeAt ba o ks ∧ w.rangeAt b12 0 ds
set_option maxRecDepth 100000 in
set_option maxHeartbeats 16000000 in
theorem rtake_spec (W w : World) (L : List HP) (hs : Sat W w L) (l : List UInt8) (hl : l.length ≤ 1073741824) :
    Calls Tryd.prog 11 #[(.string ⟨(l).toArray⟩)] w (takePost (takeCm l) W L) := by
  have l1 := tiB_len l
  have l2 := tnB_len (tiB l)
  have H1 := Box.mk (fun w (L : List HP) hs => rti W w L hs l hl)
  have H2 := Box.mk (fun w (L : List HP) hs => rtn W w L hs (tiB l) (by omega))
  have hhead := Box.mk (@cm_head l)
  have hstart := Box.mk (@cm_start l)
  have hround := Box.mk (@cm_round l)
  have hend := Box.mk (@cm_end l)
  have z1 := tiC_cases l
  have z2 := tnC_cases (tiB l)
  have nb := tnA_lt (tiB l)
  obtain ⟨O, hO⟩ : ∃ O, takeCm l = O := ⟨_, rfl⟩
  rw [hO]
  unfold takePost
  have hs0 : (tnB (tiB l)).length ≤ 1073741824 := by omega
  generalize tnB (tiB l) = s0 at *
  generalize tnA (tiB l) = n at *
  generalize tnC (tiB l) = c2 at *
  generalize tiB l = r1 at *
  generalize tiC l = c1 at *
  generalize tiA l = ts at *
  clear l1 l2
  have hzc := run_zero (P := Tryd.prog) zcommit
  have hzk := run_zero (P := Tryd.prog) zkey
  have wn : IntKind.i64.wrap (n : Int) = n := by rw [IntKind.wrap_i64]; omega
  rcases z1 with rfl | rfl
  · rcases z2 with rfl | rfl
    · by_cases hts : ts < 1
      · have he := hhead.out (.inr (.inr (.inl hts)))
        rw [he] at hO
        subst hO
        clear he hhead
        go_enter Tryd.func11, Tryd.ntmps11
        go_wp2_with (first
          | (guard_target = wpList _ _ _ (⟨some 2, .alloc _, _, _, _, _⟩ :: _) _ _; refine wpl (o := ⟨some 2, .alloc _, _, _, _, _⟩) rfl fun K hK => ?_; go_must (refine op_alloc hs rfl _ zcommit [Value.int .i64 0, .slice none 0 0] rfl fun b2 w1 h => hK _ _ ?_); clear hs hK K; have hs := h; clear h; try dsimp only [List.set] at hs)
          | (go_at_call 40; go_must (refine (H1.out _ _ hs).mono ?_); clear hs; rintro e w1 ⟨rfl, hs⟩)
          | (go_at_call 41; go_must (refine (H2.out _ _ hs).mono ?_); clear hs; rintro e w1 ⟨rfl, hs⟩)
          | (guard_target = wpList _ _ _ (⟨none, .store _ (.tmp 2) _, _, _, _, _⟩ :: _) _ _; refine wpl (o := ⟨none, .store _ (.tmp 2) _, _, _, _, _⟩) rfl fun K hK => ?_; go_must (refine op_store_whole (hs.pick (A := row b2 [Value.int .i64 0, .slice none 0 0] 24) (by repeat (first | with_reducible exact Pick.here | with_reducible apply Pick.there))) (b := b2) rfl rfl [Value.int .i64 0, .slice none 0 0] rfl (by simp [Value.oneCell']) (by kernel_rfl) (k := 0) rfl rfl fun w9 h => hK _ _ ?_); clear hs hK K; have hs := h; clear h; try dsimp only [List.set] at hs))
        refine bodyPost_ret (run_results_cell_tmp rfl (b := b2) rfl [.int .i64 0, .slice none 0 0] (range_whole hs m0) (by kernel_rfl) (by kernel_rfl)) rfl ⟨.slice none 0 0, rfl, ?_⟩
        have hs2 := hs.addNil none 61 4
        show Sat W _ (own (.slice none 0 0) 61 0 4 [] :: L)
        exact hs2.pack (by repeat (first | with_reducible exact Pack.refl | with_reducible exact Pack.nil | with_reducible refine Pack.cons (by repeat (first | with_reducible exact Pick.here | with_reducible apply Pick.there)) ?_ | with_reducible apply Pack.drop))
      · by_cases hnl : l.length < n
        · have hnlI : (l.length : Int) < (n : Int) := by omega
          have he := hhead.out (.inr (.inr (.inr hnl)))
          rw [he] at hO
          subst hO
          clear he hhead
          go_enter Tryd.func11, Tryd.ntmps11
          go_wp2_with (first
            | (guard_target = wpList _ _ _ (⟨some 2, .alloc _, _, _, _, _⟩ :: _) _ _; refine wpl (o := ⟨some 2, .alloc _, _, _, _, _⟩) rfl fun K hK => ?_; go_must (refine op_alloc hs rfl _ zcommit [Value.int .i64 0, .slice none 0 0] rfl fun b2 w1 h => hK _ _ ?_); clear hs hK K; have hs := h; clear h; try dsimp only [List.set] at hs)
            | (go_at_call 40; go_must (refine (H1.out _ _ hs).mono ?_); clear hs; rintro e w1 ⟨rfl, hs⟩)
            | (go_at_call 41; go_must (refine (H2.out _ _ hs).mono ?_); clear hs; rintro e w1 ⟨rfl, hs⟩)
            | (guard_target = wpList _ _ _ (⟨none, .store _ (.tmp 2) _, _, _, _, _⟩ :: _) _ _; refine wpl (o := ⟨none, .store _ (.tmp 2) _, _, _, _, _⟩) rfl fun K hK => ?_; go_must (refine op_store_whole (hs.pick (A := row b2 [Value.int .i64 0, .slice none 0 0] 24) (by repeat (first | with_reducible exact Pick.here | with_reducible apply Pick.there))) (b := b2) rfl rfl [Value.int .i64 0, .slice none 0 0] rfl (by simp [Value.oneCell']) (by kernel_rfl) (k := 0) rfl rfl fun w9 h => hK _ _ ?_); clear hs hK K; have hs := h; clear h; try dsimp only [List.set] at hs))
          refine bodyPost_ret (run_results_cell_tmp rfl (b := b2) rfl [.int .i64 0, .slice none 0 0] (range_whole hs m0) (by kernel_rfl) (by kernel_rfl)) rfl ⟨.slice none 0 0, rfl, ?_⟩
          have hs2 := hs.addNil none 61 4
          show Sat W _ (own (.slice none 0 0) 61 0 4 [] :: L)
          exact hs2.pack (by repeat (first | with_reducible exact Pack.refl | with_reducible exact Pack.nil | with_reducible refine Pack.cons (by repeat (first | with_reducible exact Pick.here | with_reducible apply Pick.there)) ?_ | with_reducible apply Pack.drop))
        · have hnlI : ¬ (l.length : Int) < (n : Int) := by omega
          have hX0 := hstart.out rfl rfl
          have HO := Box.mk hO
          generalize cmX l = X at hX0 hround hend
          have HX := Box.mk hX0
          clear hO hX0 hhead hstart
          go_enter Tryd.func11, Tryd.ntmps11
          go_wp2_with (first
            | (guard_target = wpList _ _ _ (⟨some 2, .alloc _, _, _, _, _⟩ :: _) _ _; refine wpl (o := ⟨some 2, .alloc _, _, _, _, _⟩) rfl fun K hK => ?_; go_must (refine op_alloc hs rfl _ zcommit [Value.int .i64 0, .slice none 0 0] rfl fun b2 w1 h => hK _ _ ?_); clear hs hK K; have hs := h; clear h; try dsimp only [List.set] at hs)
            | (go_at_call 40; go_must (refine (H1.out _ _ hs).mono ?_); clear hs; rintro e w1 ⟨rfl, hs⟩)
            | (go_at_call 41; go_must (refine (H2.out _ _ hs).mono ?_); clear hs; rintro e w1 ⟨rfl, hs⟩)
            | (guard_target = wpList _ _ _ (⟨none, .store _ (.tmp 2) _, _, _, _, _⟩ :: _) _ _; refine wpl (o := ⟨none, .store _ (.tmp 2) _, _, _, _, _⟩) rfl fun K hK => ?_; go_must (refine op_store_whole (hs.pick (A := row b2 [Value.int .i64 0, .slice none 0 0] 24) (by repeat (first | with_reducible exact Pick.here | with_reducible apply Pick.there))) (b := b2) rfl rfl [Value.int .i64 0, .slice none 0 0] rfl (by simp [Value.oneCell']) (by kernel_rfl) (k := 0) rfl rfl fun w9 h => hK _ _ ?_); clear hs hK K; have hs := h; clear h; try dsimp only [List.set] at hs)
            | (guard_target = wpList _ _ _ (⟨some 10, .alloc _, _, _, _, _⟩ :: _) _ _; refine wpl (o := ⟨some 10, .alloc _, _, _, _, _⟩) rfl fun K hK => ?_; go_must (refine op_alloc hs rfl _ zcommit [Value.int .i64 0, .slice none 0 0] rfl fun b10 w1 h => hK _ _ ?_); clear hs hK K; have hs := h; clear h; try dsimp only [List.set] at hs)
            | (guard_target = wpList _ _ _ (⟨none, .store _ (.tmp 10) _, _, _, _, _⟩ :: _) _ _; refine wpl (o := ⟨none, .store _ (.tmp 10) _, _, _, _, _⟩) rfl fun K hK => ?_; go_must (refine op_store_whole hs (b := b10) rfl rfl [Value.int .i64 ts, .slice none 0 0] rfl (by simp [Value.oneCell']) (by kernel_rfl) (k := 0) rfl rfl fun w3 h => hK _ _ ?_); clear hs hK K; have hs := h; clear h; try dsimp only [List.set] at hs))
          go_loopw [8, 11] (fun v8 v11 wr => ∃ (i : Nat) (s1 : List UInt8) (acc : List RWr) (A : Option Addr) (ca : Nat), i ≤ n ∧ v8 = (.string ⟨(s1).toArray⟩) ∧ v11 = .int .i64 (i : Nat) ∧ s1.length ≤ 1073741824 ∧ Box (acc.length = i) ∧ Box (rdWs (n - i) ⟨s1, false⟩ acc = X) ∧ Box (Rise (acc.map (·.k))) ∧ Sat W wr (row b10 [Value.int .i64 ts, .slice A i ca] 24 :: own (.slice A i ca) 61 i 4 (wsC acc) :: row b2 [Value.int .i64 0, .slice none 0 0] 24 :: L)) (fun _ v11 _ => n - (intOf v11).toNat)
          case atStart => exact ⟨0, s0, [], none, 0, by omega, rfl, rfl, hs0, ⟨rfl⟩, HX, ⟨List.Pairwise.nil⟩, (hs.addNil none 61 4).pack (L := row b10 [Value.int .i64 ts, .slice none 0 0] 24 :: own (.slice none 0 0) 61 0 4 [] :: row b2 [Value.int .i64 0, .slice none 0 0] 24 :: L) (by repeat (first | with_reducible exact Pack.refl | with_reducible exact Pack.nil | with_reducible refine Pack.cons (by repeat (first | with_reducible exact Pick.here | with_reducible apply Pick.there)) ?_ | with_reducible apply Pack.drop))⟩
          case round =>
            clear hs HX
            obtain ⟨i, s1, acc, A, ca, hi, rfl, rfl, hs1, HAL, HX, HRI, hs⟩ := hrel
            by_cases hlt : i < n
            · have hltI : (i : Int) < (n : Int) := by omega
              have hwi : IntKind.i64.wrap ((i : Int) + 1) = (i : Int) + 1 := by rw [IntKind.wrap_i64]; omega
              obtain ⟨m, hm⟩ : ∃ m, n - i = m + 1 := ⟨n - i - 1, by omega⟩
              have hm2 : n - (i + 1) = m := by omega
              have R := hround.out (m := m) (s1 := s1) (acc := acc) (by rw [← hm]; exact HX.out)
              have HK := Box.mk (fun w (L : List HP) hs => takeKey_spec W w L hs s1 hs1)
              have q1 := tkRest_len s1
              have HT := Box.mk (fun w (L : List HP) hs => rtt W w L hs (tkRest s1) (by omega))
              have q2 := ttB_len (tkRest s1)
              have z3 := tkBad_cases s1
              have z4 := ttC_cases (takeT (tkRest s1))
              have hs3 : (ttB (takeT (tkRest s1))).length ≤ 1073741824 := by omega
              generalize ttB (takeT (tkRest s1)) = s3 at *
              generalize ttA (takeT (tkRest s1)) = tx at *
              generalize ttC (takeT (tkRest s1)) = tb at *
              generalize tkRest s1 = r at *
              generalize tkKey s1 = k at *
              generalize tkBad s1 = kb at *
              clear q1 q2 hm
              rcases z3 with rfl | rfl
              · rcases z4 with rfl | rfl
                · obtain ⟨hnx, hno⟩ := R.2.2 rfl rfl
                  have HNX := Box.mk hnx
                  have HNO := Box.mk hno
                  clear R hnx hno
                  by_cases h0 : i = 0
                  · have hle := lastLess_nil (HAL.out.trans h0) k
                    have h0I : ¬ (0 : Int) < (i : Int) := by omega
                    have h0N : ¬ 0 < i := by omega
                    have HRI2 := Box.mk (rise_snoc (w := ⟨k, tx⟩) HRI.out hle)
                    clear HRI hle h0
                    go_wp2_with (first
                      | (go_at_call 42; go_must (refine (HK.out _ _ hs).mono ?_); clear hs; rintro e w1 ⟨rfl, hs⟩)
                      | (guard_target = wpList _ _ _ (⟨some 12, .alloc _, _, _, _, _⟩ :: _) _ _; refine wpl (o := ⟨some 12, .alloc _, _, _, _, _⟩) rfl fun K hK => ?_; go_must (refine op_alloc hs rfl _ zkey [Value.int .i64 0, .int .i64 0, .int .i64 0] rfl fun b12 w1 h => hK _ _ ?_); clear hs hK K; have hs := h; clear h; try dsimp only [List.set] at hs)
                      | (guard_target = wpList _ _ _ (⟨none, .store _ (.tmp 12) _, _, _, _, _⟩ :: _) _ _; refine wpl (o := ⟨none, .store _ (.tmp 12) _, _, _, _, _⟩) rfl fun K hK => ?_; go_must (refine op_store_whole hs (b := b12) rfl rfl [Value.int .i64 k.kind, .int .i64 k.a, .int .i64 k.b] rfl (by simp [Value.oneCell']) (by kernel_rfl) (k := 0) rfl rfl fun w3 h => hK _ _ ?_); clear hs hK K; have hs := h; clear h; try dsimp only [List.set] at hs)
                      | (go_at_call 43; go_must (refine (HT.out _ _ hs).mono ?_); clear hs; rintro e w1 ⟨rfl, hs⟩))
                    have hS0 := Sat.trueS hs.drew
                    refine wp_region_tree (trueS) (.take 0 (.take 1 (.take 2 (.take 3 (.take 4 (.take 5 (.take 6 (.take 7 (.take 8 (.take 9 (.take 10 (.take 11 (.take 12 (.take 13 (.take 14 (.take 15 (.take 16 (.take 17 (.all [(18, .take 19 (.take 20 (.take 21 (DTree.done))))]))))))))))))))))))) (by kernel_rfl) (by kernel_rfl) (by kernel_rfl) (fun _ _ d _ _ h => by cases d <;> exact h) hS0 ?_
                    have hs' := hs.drew
                    clear hs
                    have hs := hs'
                    clear hs'
                    have hq := fun p : Prop => class_const hS0 p
                    clear hS0
                    repeat (first
                      | (refine tree_take rfl (fun K hK => ?_); go_simp; (first | with_reducible refine hK _ ?_ | (rw [if_neg (by decide)]; with_reducible refine hK _ ?_)); clear hK K))
                    refine tree_one (o := _) rfl (fun K hK => ?_) (Sat.trueS hs)
                    go_simp
                    try rw [if_neg (by decide)]
                    intro hS9
                    refine hK _ _ hS9 ?_
                    clear hS9 hK K
                    repeat (first
                      | (refine tree_take rfl (fun K hK => ?_); go_simp; (first | with_reducible refine hK _ ?_ | (rw [if_neg (by decide)]; with_reducible refine hK _ ?_)); clear hK K))
                    refine tree_done ?_
                    clear hq
                    go_wp2_with (first
                      | (guard_target = wpList _ _ _ (⟨some 92, .load _ _, _, _, _, _⟩ :: _) _ _; refine wpl (o := ⟨some 92, .load _ _, _, _, _, _⟩) rfl fun K hK => op_load rfl (ad := ⟨b10, 1, none⟩) rfl (by kernel_rfl) (hs.cell (l := [Value.int .i64 ts, .slice A i ca]) (t := 24) (by (try dsimp only [List.set]); repeat (first | with_reducible exact List.mem_cons_self | with_reducible apply List.mem_cons_of_mem)) rfl) (hK _ _ ?_); clear hK K)
                      | (guard_target = wpList _ _ _ (⟨some 93, .load _ _, _, _, _, _⟩ :: _) _ _; refine wpl (o := ⟨some 93, .load _ _, _, _, _, _⟩) rfl fun K hK => op_load_agg rfl (b := b12) (i := 0) rfl ([Value.int .i64 k.kind, .int .i64 k.a, .int .i64 k.b]) (range_whole hs (by (try dsimp only [List.set]); repeat (first | with_reducible exact List.mem_cons_self | with_reducible apply List.mem_cons_of_mem))) (by kernel_rfl) (by kernel_rfl) (hK _ _ ?_); clear hK K)
                      | (guard_target = wpList _ _ _ (⟨some 96, .buildSlice _ _ _, _, _, _, _⟩ :: _) _ _; refine wpl (o := ⟨some 96, .buildSlice _ _ _, _, _, _, _⟩) rfl fun K hK => ?_; go_must (refine op_lit_agg1 hs rfl Tryd.underlying22 info_write (wC ⟨k, tx⟩) rfl rfl (by omega) (by omega) fun b96 w1 h => hK _ _ ?_); clear hs hK K; have hs := h; clear h; try dsimp only [List.set] at hs)
                      | (guard_target = wpList _ _ _ (⟨some 97, .call _, _, _, _, _⟩ :: _) _ _; refine wpl (o := ⟨some 97, .call _, _, _, _, _⟩) rfl fun K hK => ?_; go_must (refine op_append (hs.pick (A := own (.slice A i ca) 61 i 4 (wsC acc)) (by repeat (first | with_reducible exact Pick.here | with_reducible apply Pick.there))) rfl Tryd.underlying22 Tryd.underlying22 info_write rfl (by omega) (k := 0) rfl rfl rfl (Has.of (A := row b96 (wC ⟨k, tx⟩) 61) (by (try dsimp only [List.set]); repeat (first | with_reducible exact List.mem_cons_self | with_reducible apply List.mem_cons_of_mem)) fun F hF => own_sliceAt F (own_exact (n := 1) (sz := 4) rfl (by omega) F hF)) (wC_one _) (by omega) (by omega) fun v97 w2 h => hK _ _ ?_); clear hs hK K; have hs := h; clear h; try dsimp only [List.set] at hs
                         obtain ⟨A97, c97, rfl, _, _⟩ := own_slice hs (i := 0) rfl)
                      | (guard_target = wpList _ _ _ (⟨none, .store _ (.tmp 98) _, _, _, _, _⟩ :: _) _ _; refine wpl (o := ⟨none, .store _ (.tmp 98) _, _, _, _, _⟩) rfl fun K hK => ?_; go_must (refine op_store (hs.pick (A := row b10 [Value.int .i64 ts, .slice A i ca] 24) (by repeat (first | with_reducible exact Pick.here | with_reducible apply Pick.there))) rfl (b := b10) (i := 1) (v := .slice A97 (i + 1) c97) rfl rfl rfl (by kernel_rfl) (k := 0) rfl (by simp) fun w7 h => hK _ _ ?_); clear hs hK K; have hs := h; clear h; try dsimp only [List.set] at hs))
                    refine ⟨⟨i + 1, s3, acc ++ [⟨k, tx⟩], A97, c97, by omega, rfl, by go_num, hs3, ⟨by rw [List.length_append, List.length_singleton, HAL.out]⟩, ⟨by rw [hm2]; exact HNX.out⟩, HRI2, ?_⟩, by simp only [intOf]; omega⟩
                    rw [wsC_snoc]
                    exact hs.pack (by repeat (first | with_reducible exact Pack.refl | with_reducible exact Pack.nil | with_reducible refine Pack.cons (by repeat (first | with_reducible exact Pick.here | with_reducible apply Pick.there)) ?_ | with_reducible apply Pack.drop))
                  · obtain ⟨im, hi2⟩ : ∃ im, i = im + 1 := ⟨i - 1, by omega⟩
                    have hml : im < acc.length := by rw [HAL.out]; omega
                    have hle := lastLess_get (HAL.out.trans hi2) k
                    have h0I : (0 : Int) < (i : Int) := by omega
                    have h0N : 0 < i := by omega
                    have hwm : IntKind.i64.wrap ((i : Int) - 1) = (im : Int) := by rw [IntKind.wrap_i64]; omega
                    have hmlt : im < i := by omega
                    have hmltI : (im : Int) < (i : Int) := by omega
                    obtain ⟨ba, ca', e, _, _⟩ := own_formR hs (v := .slice A i ca) (e := 61) (n := i) (sz := 4) (vs := wsC acc) (by (try dsimp only [List.set]); repeat (first | with_reducible exact List.mem_cons_self | with_reducible apply List.mem_cons_of_mem)) (by omega)
                    cases e
                    have HR := Box.mk (fun w (M : List HP) (h : Sat W w M) (hm : own (.slice (some ⟨ba, 0, none⟩) i ca) 61 i 4 (wsC acc) ∈ M) => own_partR (c := ca) (e := 61) wC 4 wC_length h (l := acc) (by rw [HAL.out]; exact hm) im hml)
                    have HL := Box.mk (fun w (L : List HP) hs => rless_spec W w L hs acc[im].k k)
                    have HRS := Box.mk (@rise_snoc acc ⟨k, tx⟩ HRI.out)
                    generalize hy : acc[im] = y at *
                    clear hy
                    obtain ⟨q, hq1⟩ : ∃ q, lessK y.k k = q := ⟨_, rfl⟩
                    rw [hq1] at HL hle
                    rw [hle] at HNO
                    dsimp only at HRS
                    rw [hle] at HRS
                    clear hq1 hle hi2 h0 HRI hml
                    have cS : ∀ w M, Sat W w M → row b10 [Value.int .i64 ts, .slice (some ⟨ba, 0, none⟩) i ca] 24 ∈ M → own (.slice (some ⟨ba, 0, none⟩) i ca) 61 i 4 (wsC acc) ∈ M → (∃ b12, row b12 [Value.int .i64 k.kind, .int .i64 k.a, .int .i64 k.b] 57 ∈ M) → True := fun _ _ _ _ _ _ => trivial
                    clear cS
                    cases q with
                    | false =>
                      go_wp2_with (first
                        | (go_at_call 42; go_must (refine (HK.out _ _ hs).mono ?_); clear hs; rintro e w1 ⟨rfl, hs⟩)
                        | (guard_target = wpList _ _ _ (⟨some 12, .alloc _, _, _, _, _⟩ :: _) _ _; refine wpl (o := ⟨some 12, .alloc _, _, _, _, _⟩) rfl fun K hK => ?_; go_must (refine op_alloc hs rfl _ zkey [Value.int .i64 0, .int .i64 0, .int .i64 0] rfl fun b12 w1 h => hK _ _ ?_); clear hs hK K; have hs := h; clear h; try dsimp only [List.set] at hs)
                        | (guard_target = wpList _ _ _ (⟨none, .store _ (.tmp 12) _, _, _, _, _⟩ :: _) _ _; refine wpl (o := ⟨none, .store _ (.tmp 12) _, _, _, _, _⟩) rfl fun K hK => ?_; go_must (refine op_store_whole hs (b := b12) rfl rfl [Value.int .i64 k.kind, .int .i64 k.a, .int .i64 k.b] rfl (by simp [Value.oneCell']) (by kernel_rfl) (k := 0) rfl rfl fun w3 h => hK _ _ ?_); clear hs hK K; have hs := h; clear h; try dsimp only [List.set] at hs)
                        | (go_at_call 43; go_must (refine (HT.out _ _ hs).mono ?_); clear hs; rintro e w1 ⟨rfl, hs⟩))
                      have cS : ∀ w M, Sat W w M → row b10 [Value.int .i64 ts, .slice (some ⟨ba, 0, none⟩) i ca] 24 ∈ M → own (.slice (some ⟨ba, 0, none⟩) i ca) 61 i 4 (wsC acc) ∈ M → row b12 [Value.int .i64 k.kind, .int .i64 k.a, .int .i64 k.b] 57 ∈ M → (rtS b10 (.slice (some ⟨ba, 0, none⟩) i ca) ba (im * 4) (kC y.k) b12 (kC k)) w := fun w M h h1 h2 h3 => ⟨h.cell h1 rfl, range_pre (ds := [(.string ⟨(y.v).toArray⟩)]) (HR.out w M h h2), range_whole h h3⟩
                      have h79 : ∀ w, (rtS b10 (.slice (some ⟨ba, 0, none⟩) i ca) ba (im * 4) (kC y.k) b12 (kC k)) w → w.cell? ⟨b10, 1, none⟩ = some (.slice (some ⟨ba, 0, none⟩) i ca) := fun w h => h.1
                      have h84 : ∀ w, (rtS b10 (.slice (some ⟨ba, 0, none⟩) i ca) ba (im * 4) (kC y.k) b12 (kC k)) w → w.rangeAt ba (im * 4) (kC y.k) := fun w h => h.2.1
                      have h85 : ∀ w, (rtS b10 (.slice (some ⟨ba, 0, none⟩) i ca) ba (im * 4) (kC y.k) b12 (kC k)) w → w.rangeAt b12 0 (kC k) := fun w h => h.2.2
                      have hS0 := cS _ _ hs.drew (by (try dsimp only [List.set]); repeat (first | with_reducible exact List.mem_cons_self | with_reducible apply List.mem_cons_of_mem)) (by (try dsimp only [List.set]); repeat (first | with_reducible exact List.mem_cons_self | with_reducible apply List.mem_cons_of_mem)) (by (try dsimp only [List.set]); repeat (first | with_reducible exact List.mem_cons_self | with_reducible apply List.mem_cons_of_mem))
                      refine wp_region_tree ((rtS b10 (.slice (some ⟨ba, 0, none⟩) i ca) ba (im * 4) (kC y.k) b12 (kC k))) (.take 0 (.take 1 (.take 2 (.take 3 (.take 4 (.take 5 (.take 6 (.take 7 (.take 8 (.take 9 (.take 10 (.take 11 (.take 12 (.take 13 (.take 14 (.take 15 (.take 16 (.take 17 (.all [(18, .take 19 (.take 20 (.take 21 (DTree.done))))]))))))))))))))))))) (by kernel_rfl) (by kernel_rfl) (by kernel_rfl) (fun _ _ d _ _ h => by cases d <;> exact h) hS0 ?_
                      have hs' := hs.drew
                      clear hs
                      have hs := hs'
                      clear hs'
                      have hq := fun p : Prop => class_const hS0 p
                      clear hS0
                      repeat (first
                        | (with_reducible refine tree_load (o := ⟨some 79, .load _ _, _, _, _, _⟩) rfl rfl rfl rfl rfl h79 ?_)
                        | (with_reducible refine tree_load_agg (o := ⟨some 84, .load _ _, _, _, _, _⟩) (kC y.k) rfl rfl rfl rfl ?_ ?_ h84 ?_; (kernel_rfl); (kernel_rfl))
                        | (with_reducible refine tree_load_agg (o := ⟨some 85, .load _ _, _, _, _, _⟩) (kC k) rfl rfl rfl rfl ?_ ?_ h85 ?_; (kernel_rfl); (kernel_rfl))
                        | (refine tree_take rfl (fun K hK => ?_); go_simp; (first | with_reducible refine hK _ ?_ | (rw [if_neg (by decide)]; with_reducible refine hK _ ?_)); clear hK K))
                      refine tree_one_yes (o := _) rfl rfl (fun K hK => ?_) (cS _ _ hs (by (try dsimp only [List.set]); repeat (first | with_reducible exact List.mem_cons_self | with_reducible apply List.mem_cons_of_mem)) (by (try dsimp only [List.set]); repeat (first | with_reducible exact List.mem_cons_self | with_reducible apply List.mem_cons_of_mem)) (by (try dsimp only [List.set]); repeat (first | with_reducible exact List.mem_cons_self | with_reducible apply List.mem_cons_of_mem)))
                      try go_simp
                      go_at_call 44
                      refine (HL.out _ _ hs).mono ?_
                      clear hs
                      rintro e w5 ⟨rfl, hs⟩
                      try go_simp
                      refine hK _ _ (cS _ _ hs (by (try dsimp only [List.set]); repeat (first | with_reducible exact List.mem_cons_self | with_reducible apply List.mem_cons_of_mem)) (by (try dsimp only [List.set]); repeat (first | with_reducible exact List.mem_cons_self | with_reducible apply List.mem_cons_of_mem)) (by (try dsimp only [List.set]); repeat (first | with_reducible exact List.mem_cons_self | with_reducible apply List.mem_cons_of_mem))) ?_
                      clear hK K
                      repeat (first
                        | (with_reducible refine tree_load (o := ⟨some 79, .load _ _, _, _, _, _⟩) rfl rfl rfl rfl rfl h79 ?_)
                        | (with_reducible refine tree_load_agg (o := ⟨some 84, .load _ _, _, _, _, _⟩) (kC y.k) rfl rfl rfl rfl ?_ ?_ h84 ?_; (kernel_rfl); (kernel_rfl))
                        | (with_reducible refine tree_load_agg (o := ⟨some 85, .load _ _, _, _, _, _⟩) (kC k) rfl rfl rfl rfl ?_ ?_ h85 ?_; (kernel_rfl); (kernel_rfl))
                        | (refine tree_take rfl (fun K hK => ?_); go_simp; (first | with_reducible refine hK _ ?_ | (rw [if_neg (by decide)]; with_reducible refine hK _ ?_)); clear hK K))
                      refine tree_done ?_
                      clear hq
                      have he := HNO.out (by trivial)
                      rw [he] at HO
                      obtain rfl := HO.out
                      clear he HO
                      go_wp2_with (first
                        | (guard_target = wpList _ _ _ (⟨none, .store _ (.tmp 2) _, _, _, _, _⟩ :: _) _ _; refine wpl (o := ⟨none, .store _ (.tmp 2) _, _, _, _, _⟩) rfl fun K hK => ?_; go_must (refine op_store_whole (hs.pick (A := row b2 [Value.int .i64 0, .slice none 0 0] 24) (by repeat (first | with_reducible exact Pick.here | with_reducible apply Pick.there))) (b := b2) rfl rfl [Value.int .i64 0, .slice none 0 0] rfl (by simp [Value.oneCell']) (by kernel_rfl) (k := 0) rfl rfl fun w9 h => hK _ _ ?_); clear hs hK K; have hs := h; clear h; try dsimp only [List.set] at hs))
                      refine bodyPost_ret (run_results_cell_tmp rfl (b := b2) rfl [.int .i64 0, .slice none 0 0] (range_whole hs m0) (by kernel_rfl) (by kernel_rfl)) rfl ⟨.slice none 0 0, rfl, ?_⟩
                      have hs2 := hs.addNil none 61 4
                      show Sat W _ (own (.slice none 0 0) 61 0 4 [] :: L)
                      exact hs2.pack (by repeat (first | with_reducible exact Pack.refl | with_reducible exact Pack.nil | with_reducible refine Pack.cons (by repeat (first | with_reducible exact Pick.here | with_reducible apply Pick.there)) ?_ | with_reducible apply Pack.drop))
                    | true =>
                      go_wp2_with (first
                        | (go_at_call 42; go_must (refine (HK.out _ _ hs).mono ?_); clear hs; rintro e w1 ⟨rfl, hs⟩)
                        | (guard_target = wpList _ _ _ (⟨some 12, .alloc _, _, _, _, _⟩ :: _) _ _; refine wpl (o := ⟨some 12, .alloc _, _, _, _, _⟩) rfl fun K hK => ?_; go_must (refine op_alloc hs rfl _ zkey [Value.int .i64 0, .int .i64 0, .int .i64 0] rfl fun b12 w1 h => hK _ _ ?_); clear hs hK K; have hs := h; clear h; try dsimp only [List.set] at hs)
                        | (guard_target = wpList _ _ _ (⟨none, .store _ (.tmp 12) _, _, _, _, _⟩ :: _) _ _; refine wpl (o := ⟨none, .store _ (.tmp 12) _, _, _, _, _⟩) rfl fun K hK => ?_; go_must (refine op_store_whole hs (b := b12) rfl rfl [Value.int .i64 k.kind, .int .i64 k.a, .int .i64 k.b] rfl (by simp [Value.oneCell']) (by kernel_rfl) (k := 0) rfl rfl fun w3 h => hK _ _ ?_); clear hs hK K; have hs := h; clear h; try dsimp only [List.set] at hs)
                        | (go_at_call 43; go_must (refine (HT.out _ _ hs).mono ?_); clear hs; rintro e w1 ⟨rfl, hs⟩))
                      have cS : ∀ w M, Sat W w M → row b10 [Value.int .i64 ts, .slice (some ⟨ba, 0, none⟩) i ca] 24 ∈ M → own (.slice (some ⟨ba, 0, none⟩) i ca) 61 i 4 (wsC acc) ∈ M → row b12 [Value.int .i64 k.kind, .int .i64 k.a, .int .i64 k.b] 57 ∈ M → (rtS b10 (.slice (some ⟨ba, 0, none⟩) i ca) ba (im * 4) (kC y.k) b12 (kC k)) w := fun w M h h1 h2 h3 => ⟨h.cell h1 rfl, range_pre (ds := [(.string ⟨(y.v).toArray⟩)]) (HR.out w M h h2), range_whole h h3⟩
                      have h79 : ∀ w, (rtS b10 (.slice (some ⟨ba, 0, none⟩) i ca) ba (im * 4) (kC y.k) b12 (kC k)) w → w.cell? ⟨b10, 1, none⟩ = some (.slice (some ⟨ba, 0, none⟩) i ca) := fun w h => h.1
                      have h84 : ∀ w, (rtS b10 (.slice (some ⟨ba, 0, none⟩) i ca) ba (im * 4) (kC y.k) b12 (kC k)) w → w.rangeAt ba (im * 4) (kC y.k) := fun w h => h.2.1
                      have h85 : ∀ w, (rtS b10 (.slice (some ⟨ba, 0, none⟩) i ca) ba (im * 4) (kC y.k) b12 (kC k)) w → w.rangeAt b12 0 (kC k) := fun w h => h.2.2
                      have hS0 := cS _ _ hs.drew (by (try dsimp only [List.set]); repeat (first | with_reducible exact List.mem_cons_self | with_reducible apply List.mem_cons_of_mem)) (by (try dsimp only [List.set]); repeat (first | with_reducible exact List.mem_cons_self | with_reducible apply List.mem_cons_of_mem)) (by (try dsimp only [List.set]); repeat (first | with_reducible exact List.mem_cons_self | with_reducible apply List.mem_cons_of_mem))
                      refine wp_region_tree ((rtS b10 (.slice (some ⟨ba, 0, none⟩) i ca) ba (im * 4) (kC y.k) b12 (kC k))) (.take 0 (.take 1 (.take 2 (.take 3 (.take 4 (.take 5 (.take 6 (.take 7 (.take 8 (.take 9 (.take 10 (.take 11 (.take 12 (.take 13 (.take 14 (.take 15 (.take 16 (.take 17 (.all [(18, .take 19 (.take 20 (.take 21 (DTree.done))))]))))))))))))))))))) (by kernel_rfl) (by kernel_rfl) (by kernel_rfl) (fun _ _ d _ _ h => by cases d <;> exact h) hS0 ?_
                      have hs' := hs.drew
                      clear hs
                      have hs := hs'
                      clear hs'
                      have hq := fun p : Prop => class_const hS0 p
                      clear hS0
                      repeat (first
                        | (with_reducible refine tree_load (o := ⟨some 79, .load _ _, _, _, _, _⟩) rfl rfl rfl rfl rfl h79 ?_)
                        | (with_reducible refine tree_load_agg (o := ⟨some 84, .load _ _, _, _, _, _⟩) (kC y.k) rfl rfl rfl rfl ?_ ?_ h84 ?_; (kernel_rfl); (kernel_rfl))
                        | (with_reducible refine tree_load_agg (o := ⟨some 85, .load _ _, _, _, _, _⟩) (kC k) rfl rfl rfl rfl ?_ ?_ h85 ?_; (kernel_rfl); (kernel_rfl))
                        | (refine tree_take rfl (fun K hK => ?_); go_simp; (first | with_reducible refine hK _ ?_ | (rw [if_neg (by decide)]; with_reducible refine hK _ ?_)); clear hK K))
                      refine tree_one_yes (o := _) rfl rfl (fun K hK => ?_) (cS _ _ hs (by (try dsimp only [List.set]); repeat (first | with_reducible exact List.mem_cons_self | with_reducible apply List.mem_cons_of_mem)) (by (try dsimp only [List.set]); repeat (first | with_reducible exact List.mem_cons_self | with_reducible apply List.mem_cons_of_mem)) (by (try dsimp only [List.set]); repeat (first | with_reducible exact List.mem_cons_self | with_reducible apply List.mem_cons_of_mem)))
                      try go_simp
                      go_at_call 44
                      refine (HL.out _ _ hs).mono ?_
                      clear hs
                      rintro e w5 ⟨rfl, hs⟩
                      try go_simp
                      refine hK _ _ (cS _ _ hs (by (try dsimp only [List.set]); repeat (first | with_reducible exact List.mem_cons_self | with_reducible apply List.mem_cons_of_mem)) (by (try dsimp only [List.set]); repeat (first | with_reducible exact List.mem_cons_self | with_reducible apply List.mem_cons_of_mem)) (by (try dsimp only [List.set]); repeat (first | with_reducible exact List.mem_cons_self | with_reducible apply List.mem_cons_of_mem))) ?_
                      clear hK K
                      repeat (first
                        | (with_reducible refine tree_load (o := ⟨some 79, .load _ _, _, _, _, _⟩) rfl rfl rfl rfl rfl h79 ?_)
                        | (with_reducible refine tree_load_agg (o := ⟨some 84, .load _ _, _, _, _, _⟩) (kC y.k) rfl rfl rfl rfl ?_ ?_ h84 ?_; (kernel_rfl); (kernel_rfl))
                        | (with_reducible refine tree_load_agg (o := ⟨some 85, .load _ _, _, _, _, _⟩) (kC k) rfl rfl rfl rfl ?_ ?_ h85 ?_; (kernel_rfl); (kernel_rfl))
                        | (refine tree_take rfl (fun K hK => ?_); go_simp; (first | with_reducible refine hK _ ?_ | (rw [if_neg (by decide)]; with_reducible refine hK _ ?_)); clear hK K))
                      refine tree_done ?_
                      clear hq cS h79 h84 h85
                      have HRI2 := Box.mk (HRS.out (by trivial))
                      go_wp2_with (first
                        | (guard_target = wpList _ _ _ (⟨some 92, .load _ _, _, _, _, _⟩ :: _) _ _; refine wpl (o := ⟨some 92, .load _ _, _, _, _, _⟩) rfl fun K hK => op_load rfl (ad := ⟨b10, 1, none⟩) rfl (by kernel_rfl) (hs.cell (l := [Value.int .i64 ts, .slice (some ⟨ba, 0, none⟩) i ca]) (t := 24) (by (try dsimp only [List.set]); repeat (first | with_reducible exact List.mem_cons_self | with_reducible apply List.mem_cons_of_mem)) rfl) (hK _ _ ?_); clear hK K)
                        | (guard_target = wpList _ _ _ (⟨some 93, .load _ _, _, _, _, _⟩ :: _) _ _; refine wpl (o := ⟨some 93, .load _ _, _, _, _, _⟩) rfl fun K hK => op_load_agg rfl (b := b12) (i := 0) rfl ([Value.int .i64 k.kind, .int .i64 k.a, .int .i64 k.b]) (range_whole hs (by (try dsimp only [List.set]); repeat (first | with_reducible exact List.mem_cons_self | with_reducible apply List.mem_cons_of_mem))) (by kernel_rfl) (by kernel_rfl) (hK _ _ ?_); clear hK K)
                        | (guard_target = wpList _ _ _ (⟨some 96, .buildSlice _ _ _, _, _, _, _⟩ :: _) _ _; refine wpl (o := ⟨some 96, .buildSlice _ _ _, _, _, _, _⟩) rfl fun K hK => ?_; go_must (refine op_lit_agg1 hs rfl Tryd.underlying22 info_write (wC ⟨k, tx⟩) rfl rfl (by omega) (by omega) fun b96 w1 h => hK _ _ ?_); clear hs hK K; have hs := h; clear h; try dsimp only [List.set] at hs)
                        | (guard_target = wpList _ _ _ (⟨some 97, .call _, _, _, _, _⟩ :: _) _ _; refine wpl (o := ⟨some 97, .call _, _, _, _, _⟩) rfl fun K hK => ?_; go_must (refine op_append (hs.pick (A := own (.slice (some ⟨ba, 0, none⟩) i ca) 61 i 4 (wsC acc)) (by repeat (first | with_reducible exact Pick.here | with_reducible apply Pick.there))) rfl Tryd.underlying22 Tryd.underlying22 info_write rfl (by omega) (k := 0) rfl rfl rfl (Has.of (A := row b96 (wC ⟨k, tx⟩) 61) (by (try dsimp only [List.set]); repeat (first | with_reducible exact List.mem_cons_self | with_reducible apply List.mem_cons_of_mem)) fun F hF => own_sliceAt F (own_exact (n := 1) (sz := 4) rfl (by omega) F hF)) (wC_one _) (by omega) (by omega) fun v97 w2 h => hK _ _ ?_); clear hs hK K; have hs := h; clear h; try dsimp only [List.set] at hs
                           obtain ⟨A97, c97, rfl, _, _⟩ := own_slice hs (i := 0) rfl)
                        | (guard_target = wpList _ _ _ (⟨none, .store _ (.tmp 98) _, _, _, _, _⟩ :: _) _ _; refine wpl (o := ⟨none, .store _ (.tmp 98) _, _, _, _, _⟩) rfl fun K hK => ?_; go_must (refine op_store (hs.pick (A := row b10 [Value.int .i64 ts, .slice (some ⟨ba, 0, none⟩) i ca] 24) (by repeat (first | with_reducible exact Pick.here | with_reducible apply Pick.there))) rfl (b := b10) (i := 1) (v := .slice A97 (i + 1) c97) rfl rfl rfl (by kernel_rfl) (k := 0) rfl (by simp) fun w7 h => hK _ _ ?_); clear hs hK K; have hs := h; clear h; try dsimp only [List.set] at hs))
                      refine ⟨⟨i + 1, s3, acc ++ [⟨k, tx⟩], A97, c97, by omega, rfl, by go_num, hs3, ⟨by rw [List.length_append, List.length_singleton, HAL.out]⟩, ⟨by rw [hm2]; exact HNX.out⟩, HRI2, ?_⟩, by simp only [intOf]; omega⟩
                      rw [wsC_snoc]
                      exact hs.pack (by repeat (first | with_reducible exact Pack.refl | with_reducible exact Pack.nil | with_reducible refine Pack.cons (by repeat (first | with_reducible exact Pick.here | with_reducible apply Pick.there)) ?_ | with_reducible apply Pack.drop))
                · have he := R.2.1 rfl rfl
                  rw [he] at HO
                  obtain rfl := HO.out
                  clear he HO R
                  go_wp2_with (first
                    | (go_at_call 42; go_must (refine (HK.out _ _ hs).mono ?_); clear hs; rintro e w1 ⟨rfl, hs⟩)
                    | (guard_target = wpList _ _ _ (⟨some 12, .alloc _, _, _, _, _⟩ :: _) _ _; refine wpl (o := ⟨some 12, .alloc _, _, _, _, _⟩) rfl fun K hK => ?_; go_must (refine op_alloc hs rfl _ zkey [Value.int .i64 0, .int .i64 0, .int .i64 0] rfl fun b12 w1 h => hK _ _ ?_); clear hs hK K; have hs := h; clear h; try dsimp only [List.set] at hs)
                    | (guard_target = wpList _ _ _ (⟨none, .store _ (.tmp 12) _, _, _, _, _⟩ :: _) _ _; refine wpl (o := ⟨none, .store _ (.tmp 12) _, _, _, _, _⟩) rfl fun K hK => ?_; go_must (refine op_store_whole hs (b := b12) rfl rfl [Value.int .i64 k.kind, .int .i64 k.a, .int .i64 k.b] rfl (by simp [Value.oneCell']) (by kernel_rfl) (k := 0) rfl rfl fun w3 h => hK _ _ ?_); clear hs hK K; have hs := h; clear h; try dsimp only [List.set] at hs)
                    | (go_at_call 43; go_must (refine (HT.out _ _ hs).mono ?_); clear hs; rintro e w1 ⟨rfl, hs⟩))
                  have hS0 := Sat.trueS hs.drew
                  refine wp_region_tree (trueS) (.take 0 (.take 1 (.take 2 (.take 3 (.take 4 (.take 5 (.take 6 (.take 7 (.take 8 (.take 9 (.take 10 (.take 11 (.take 12 (.take 13 (.take 14 (.take 15 (.take 16 (.take 17 (.all [(18, .take 19 (.take 20 (.take 21 (DTree.done))))]))))))))))))))))))) (by kernel_rfl) (by kernel_rfl) (by kernel_rfl) (fun _ _ d _ _ h => by cases d <;> exact h) hS0 ?_
                  have hs' := hs.drew
                  clear hs
                  have hs := hs'
                  clear hs'
                  have hq := fun p : Prop => class_const hS0 p
                  clear hS0
                  repeat (first
                    | (refine tree_take rfl (fun K hK => ?_); go_simp; (first | with_reducible refine hK _ ?_ | (rw [if_neg (by decide)]; with_reducible refine hK _ ?_)); clear hK K))
                  refine tree_one (o := _) rfl (fun K hK => ?_) (Sat.trueS hs)
                  go_simp
                  try rw [if_neg (by decide)]
                  intro hS9
                  refine hK _ _ hS9 ?_
                  clear hS9 hK K
                  repeat (first
                    | (refine tree_take rfl (fun K hK => ?_); go_simp; (first | with_reducible refine hK _ ?_ | (rw [if_neg (by decide)]; with_reducible refine hK _ ?_)); clear hK K))
                  refine tree_done ?_
                  clear hq
                  go_wp2_with (first
                    | (guard_target = wpList _ _ _ (⟨none, .store _ (.tmp 2) _, _, _, _, _⟩ :: _) _ _; refine wpl (o := ⟨none, .store _ (.tmp 2) _, _, _, _, _⟩) rfl fun K hK => ?_; go_must (refine op_store_whole (hs.pick (A := row b2 [Value.int .i64 0, .slice none 0 0] 24) (by repeat (first | with_reducible exact Pick.here | with_reducible apply Pick.there))) (b := b2) rfl rfl [Value.int .i64 0, .slice none 0 0] rfl (by simp [Value.oneCell']) (by kernel_rfl) (k := 0) rfl rfl fun w9 h => hK _ _ ?_); clear hs hK K; have hs := h; clear h; try dsimp only [List.set] at hs))
                  refine bodyPost_ret (run_results_cell_tmp rfl (b := b2) rfl [.int .i64 0, .slice none 0 0] (range_whole hs m0) (by kernel_rfl) (by kernel_rfl)) rfl ⟨.slice none 0 0, rfl, ?_⟩
                  have hs2 := hs.addNil none 61 4
                  show Sat W _ (own (.slice none 0 0) 61 0 4 [] :: L)
                  exact hs2.pack (by repeat (first | with_reducible exact Pack.refl | with_reducible exact Pack.nil | with_reducible refine Pack.cons (by repeat (first | with_reducible exact Pick.here | with_reducible apply Pick.there)) ?_ | with_reducible apply Pack.drop))
              · have he := R.1 rfl
                rw [he] at HO
                obtain rfl := HO.out
                clear he HO R
                go_wp2_with (first
                  | (go_at_call 42; go_must (refine (HK.out _ _ hs).mono ?_); clear hs; rintro e w1 ⟨rfl, hs⟩)
                  | (guard_target = wpList _ _ _ (⟨some 12, .alloc _, _, _, _, _⟩ :: _) _ _; refine wpl (o := ⟨some 12, .alloc _, _, _, _, _⟩) rfl fun K hK => ?_; go_must (refine op_alloc hs rfl _ zkey [Value.int .i64 0, .int .i64 0, .int .i64 0] rfl fun b12 w1 h => hK _ _ ?_); clear hs hK K; have hs := h; clear h; try dsimp only [List.set] at hs)
                  | (guard_target = wpList _ _ _ (⟨none, .store _ (.tmp 12) _, _, _, _, _⟩ :: _) _ _; refine wpl (o := ⟨none, .store _ (.tmp 12) _, _, _, _, _⟩) rfl fun K hK => ?_; go_must (refine op_store_whole hs (b := b12) rfl rfl [Value.int .i64 k.kind, .int .i64 k.a, .int .i64 k.b] rfl (by simp [Value.oneCell']) (by kernel_rfl) (k := 0) rfl rfl fun w3 h => hK _ _ ?_); clear hs hK K; have hs := h; clear h; try dsimp only [List.set] at hs)
                  | (go_at_call 43; go_must (refine (HT.out _ _ hs).mono ?_); clear hs; rintro e w1 ⟨rfl, hs⟩))
                have hS0 := Sat.trueS hs.drew
                refine wp_region_tree (trueS) (.take 0 (.take 1 (.take 2 (.take 3 (.take 4 (.take 5 (.take 6 (.take 7 (.take 8 (.take 9 (.take 10 (.take 11 (.take 12 (.take 13 (.take 14 (.take 15 (.take 16 (.take 17 (.all [(18, .take 19 (.take 20 (.take 21 (DTree.done))))]))))))))))))))))))) (by kernel_rfl) (by kernel_rfl) (by kernel_rfl) (fun _ _ d _ _ h => by cases d <;> exact h) hS0 ?_
                have hs' := hs.drew
                clear hs
                have hs := hs'
                clear hs'
                have hq := fun p : Prop => class_const hS0 p
                clear hS0
                repeat (first
                  | (refine tree_take rfl (fun K hK => ?_); go_simp; (first | with_reducible refine hK _ ?_ | (rw [if_neg (by decide)]; with_reducible refine hK _ ?_)); clear hK K))
                refine tree_one (o := _) rfl (fun K hK => ?_) (Sat.trueS hs)
                go_simp
                try rw [if_neg (by decide)]
                intro hS9
                refine hK _ _ hS9 ?_
                clear hS9 hK K
                repeat (first
                  | (refine tree_take rfl (fun K hK => ?_); go_simp; (first | with_reducible refine hK _ ?_ | (rw [if_neg (by decide)]; with_reducible refine hK _ ?_)); clear hK K))
                refine tree_done ?_
                clear hq
                go_wp2_with (first
                  | (guard_target = wpList _ _ _ (⟨none, .store _ (.tmp 2) _, _, _, _, _⟩ :: _) _ _; refine wpl (o := ⟨none, .store _ (.tmp 2) _, _, _, _, _⟩) rfl fun K hK => ?_; go_must (refine op_store_whole (hs.pick (A := row b2 [Value.int .i64 0, .slice none 0 0] 24) (by repeat (first | with_reducible exact Pick.here | with_reducible apply Pick.there))) (b := b2) rfl rfl [Value.int .i64 0, .slice none 0 0] rfl (by simp [Value.oneCell']) (by kernel_rfl) (k := 0) rfl rfl fun w9 h => hK _ _ ?_); clear hs hK K; have hs := h; clear h; try dsimp only [List.set] at hs))
                refine bodyPost_ret (run_results_cell_tmp rfl (b := b2) rfl [.int .i64 0, .slice none 0 0] (range_whole hs m0) (by kernel_rfl) (by kernel_rfl)) rfl ⟨.slice none 0 0, rfl, ?_⟩
                have hs2 := hs.addNil none 61 4
                show Sat W _ (own (.slice none 0 0) 61 0 4 [] :: L)
                exact hs2.pack (by repeat (first | with_reducible exact Pack.refl | with_reducible exact Pack.nil | with_reducible refine Pack.cons (by repeat (first | with_reducible exact Pick.here | with_reducible apply Pick.there)) ?_ | with_reducible apply Pack.drop))
            · have hltI : ¬ (i : Int) < (n : Int) := by omega
              have hE := hend.out (s1 := s1) (acc := acc) (by have := HX.out; rw [show n - i = 0 by omega] at this; exact this) HRI.out (by omega)
              clear HX HRI
              by_cases hre : s1 = []
              · subst hre
                have he := hE.2 rfl
                rw [he] at HO
                obtain rfl := HO.out
                clear he HO hE
                go_wp2_with (first
                  | (guard_target = wpList _ _ _ (⟨some 103, .load _ _, _, _, _, _⟩ :: _) _ _; refine wpl (o := ⟨some 103, .load _ _, _, _, _, _⟩) rfl fun K hK => op_load_agg rfl (b := b10) (i := 0) rfl ([Value.int .i64 ts, .slice A i ca]) (range_whole hs (by (try dsimp only [List.set]); repeat (first | with_reducible exact List.mem_cons_self | with_reducible apply List.mem_cons_of_mem))) (by kernel_rfl) (by kernel_rfl) (hK _ _ ?_); clear hK K)
                  | (guard_target = wpList _ _ _ (⟨none, .store _ (.tmp 2) _, _, _, _, _⟩ :: _) _ _; refine wpl (o := ⟨none, .store _ (.tmp 2) _, _, _, _, _⟩) rfl fun K hK => ?_; go_must (refine op_store_whole (hs.pick (A := row b2 [Value.int .i64 0, .slice none 0 0] 24) (by repeat (first | with_reducible exact Pick.here | with_reducible apply Pick.there))) (b := b2) rfl rfl [Value.int .i64 ts, .slice A i ca] rfl (by simp [Value.oneCell']) (by kernel_rfl) (k := 0) rfl rfl fun w9 h => hK _ _ ?_); clear hs hK K; have hs := h; clear h; try dsimp only [List.set] at hs))
                exact bodyPost_ret (run_results_cell_tmp rfl (b := b2) rfl [Value.int .i64 ts, .slice A i ca] (range_whole hs m0) (by kernel_rfl) (by kernel_rfl)) rfl ⟨.slice A i ca, rfl, by show Sat W _ (own (.slice A i ca) 61 acc.length 4 (wsC acc) :: L); rw [HAL.out]; exact hs.pack (L := own (.slice A i ca) 61 i 4 (wsC acc) :: L) (by repeat (first | with_reducible exact Pack.refl | with_reducible exact Pack.nil | with_reducible refine Pack.cons (by repeat (first | with_reducible exact Pick.here | with_reducible apply Pick.there)) ?_ | with_reducible apply Pack.drop))⟩
              · have he := hE.1 hre
                rw [he] at HO
                obtain rfl := HO.out
                clear he HO hE
                have hne : (s1 == ([] : List UInt8)) = false := by rw [beq_eq_false_iff_ne]; exact hre
                go_wp2_with (first
                  | (guard_target = wpList _ _ _ (⟨none, .store _ (.tmp 2) _, _, _, _, _⟩ :: _) _ _; refine wpl (o := ⟨none, .store _ (.tmp 2) _, _, _, _, _⟩) rfl fun K hK => ?_; go_must (refine op_store_whole (hs.pick (A := row b2 [Value.int .i64 0, .slice none 0 0] 24) (by repeat (first | with_reducible exact Pick.here | with_reducible apply Pick.there))) (b := b2) rfl rfl [Value.int .i64 0, .slice none 0 0] rfl (by simp [Value.oneCell']) (by kernel_rfl) (k := 0) rfl rfl fun w9 h => hK _ _ ?_); clear hs hK K; have hs := h; clear h; try dsimp only [List.set] at hs))
                refine bodyPost_ret (run_results_cell_tmp rfl (b := b2) rfl [.int .i64 0, .slice none 0 0] (range_whole hs m0) (by kernel_rfl) (by kernel_rfl)) rfl ⟨.slice none 0 0, rfl, ?_⟩
                have hs2 := hs.addNil none 61 4
                show Sat W _ (own (.slice none 0 0) 61 0 4 [] :: L)
                exact hs2.pack (by repeat (first | with_reducible exact Pack.refl | with_reducible exact Pack.nil | with_reducible refine Pack.cons (by repeat (first | with_reducible exact Pick.here | with_reducible apply Pick.there)) ?_ | with_reducible apply Pack.drop))
    · have he := hhead.out (.inr (.inl rfl))
      rw [he] at hO
      subst hO
      clear he hhead
      go_enter Tryd.func11, Tryd.ntmps11
      go_wp2_with (first
        | (guard_target = wpList _ _ _ (⟨some 2, .alloc _, _, _, _, _⟩ :: _) _ _; refine wpl (o := ⟨some 2, .alloc _, _, _, _, _⟩) rfl fun K hK => ?_; go_must (refine op_alloc hs rfl _ zcommit [Value.int .i64 0, .slice none 0 0] rfl fun b2 w1 h => hK _ _ ?_); clear hs hK K; have hs := h; clear h; try dsimp only [List.set] at hs)
        | (go_at_call 40; go_must (refine (H1.out _ _ hs).mono ?_); clear hs; rintro e w1 ⟨rfl, hs⟩)
        | (go_at_call 41; go_must (refine (H2.out _ _ hs).mono ?_); clear hs; rintro e w1 ⟨rfl, hs⟩)
        | (guard_target = wpList _ _ _ (⟨none, .store _ (.tmp 2) _, _, _, _, _⟩ :: _) _ _; refine wpl (o := ⟨none, .store _ (.tmp 2) _, _, _, _, _⟩) rfl fun K hK => ?_; go_must (refine op_store_whole (hs.pick (A := row b2 [Value.int .i64 0, .slice none 0 0] 24) (by repeat (first | with_reducible exact Pick.here | with_reducible apply Pick.there))) (b := b2) rfl rfl [Value.int .i64 0, .slice none 0 0] rfl (by simp [Value.oneCell']) (by kernel_rfl) (k := 0) rfl rfl fun w9 h => hK _ _ ?_); clear hs hK K; have hs := h; clear h; try dsimp only [List.set] at hs))
      refine bodyPost_ret (run_results_cell_tmp rfl (b := b2) rfl [.int .i64 0, .slice none 0 0] (range_whole hs m0) (by kernel_rfl) (by kernel_rfl)) rfl ⟨.slice none 0 0, rfl, ?_⟩
      have hs2 := hs.addNil none 61 4
      show Sat W _ (own (.slice none 0 0) 61 0 4 [] :: L)
      exact hs2.pack (by repeat (first | with_reducible exact Pack.refl | with_reducible exact Pack.nil | with_reducible refine Pack.cons (by repeat (first | with_reducible exact Pick.here | with_reducible apply Pick.there)) ?_ | with_reducible apply Pack.drop))
  · have he := hhead.out (.inl rfl)
    rw [he] at hO
    subst hO
    clear he hhead
    go_enter Tryd.func11, Tryd.ntmps11
    go_wp2_with (first
      | (guard_target = wpList _ _ _ (⟨some 2, .alloc _, _, _, _, _⟩ :: _) _ _; refine wpl (o := ⟨some 2, .alloc _, _, _, _, _⟩) rfl fun K hK => ?_; go_must (refine op_alloc hs rfl _ zcommit [Value.int .i64 0, .slice none 0 0] rfl fun b2 w1 h => hK _ _ ?_); clear hs hK K; have hs := h; clear h; try dsimp only [List.set] at hs)
      | (go_at_call 40; go_must (refine (H1.out _ _ hs).mono ?_); clear hs; rintro e w1 ⟨rfl, hs⟩)
      | (go_at_call 41; go_must (refine (H2.out _ _ hs).mono ?_); clear hs; rintro e w1 ⟨rfl, hs⟩)
      | (guard_target = wpList _ _ _ (⟨none, .store _ (.tmp 2) _, _, _, _, _⟩ :: _) _ _; refine wpl (o := ⟨none, .store _ (.tmp 2) _, _, _, _, _⟩) rfl fun K hK => ?_; go_must (refine op_store_whole (hs.pick (A := row b2 [Value.int .i64 0, .slice none 0 0] 24) (by repeat (first | with_reducible exact Pick.here | with_reducible apply Pick.there))) (b := b2) rfl rfl [Value.int .i64 0, .slice none 0 0] rfl (by simp [Value.oneCell']) (by kernel_rfl) (k := 0) rfl rfl fun w9 h => hK _ _ ?_); clear hs hK K; have hs := h; clear h; try dsimp only [List.set] at hs))
    refine bodyPost_ret (run_results_cell_tmp rfl (b := b2) rfl [.int .i64 0, .slice none 0 0] (range_whole hs m0) (by kernel_rfl) (by kernel_rfl)) rfl ⟨.slice none 0 0, rfl, ?_⟩
    have hs2 := hs.addNil none 61 4
    show Sat W _ (own (.slice none 0 0) 61 0 4 [] :: L)
    exact hs2.pack (by repeat (first | with_reducible exact Pack.refl | with_reducible exact Pack.nil | with_reducible refine Pack.cons (by repeat (first | with_reducible exact Pick.here | with_reducible apply Pick.there)) ?_ | with_reducible apply Pack.drop))
end Go.Proofs.YthjnefpnnifjiaaDoor
