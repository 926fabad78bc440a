/- The contract of ogiveref20.TakeState. -/
import Derived.Test.YthjnefpnnifjiaaDoorRdTakeRP
import Derived.Test.YthjnefpnnifjiaaDoorRdTakeS
set_option linter.unusedVariables false
set_option linter.unusedSimpArgs false
namespace Go.Proofs.YthjnefpnnifjiaaDoor
open Go.RowKit
theorem rti (W w : World) (L : List HP) (hs : Sat W w L) (l : List UInt8) (hl : l.length ≤ 1073741824) :
    Calls Tryd.prog 40 #[(.string ⟨(l).toArray⟩)] w fun e w' => e = .returned (.tuple #[.int .i64 (tiA l), (.string ⟨(tiB l).toArray⟩), .int .i64 (tiC l : Nat)]) ∧ Sat W w' L := by
  rw [← takeIV_eq]
  exact rtakeInt_spec W w L hs l hl
theorem rtt (W w : World) (L : List HP) (hs : Sat W w L) (l : List UInt8) (hl : l.length ≤ 1073741824) :
    Calls Tryd.prog 43 #[(.string ⟨(l).toArray⟩)] w fun e w' => e = .returned (.tuple #[(.string ⟨(ttA (takeT l)).toArray⟩), (.string ⟨(ttB (takeT l)).toArray⟩), .int .i64 (ttC (takeT l) : Nat)]) ∧ Sat W w' L := by
  rw [← takeTV_eq]
  exact rtakeText_spec W w L hs l hl
theorem tiB_len (s : List UInt8) : (tiB s).length ≤ s.length := by unfold tiB; split <;> simp
theorem ttB_len (s : List UInt8) : (ttB (takeT s)).length ≤ s.length := (⟨s, false⟩ : Rd).text_len.1
section
variable {P : Program} {ops : Array Oper} {Q : Exit → Act → World → Prop} {S : World → Prop}
theorem tree_skip {i : Nat} {t : DTree} {o : Oper} {a : Act} {w : World} (ho : ops[i]? = some o) (hw : Region.wanted o (yielded ops a.tmps) = false) (h : wpTree P ops Q S t (a.put o.dst undef) w) : wpTree P ops Q S (.take i t) a w :=
  tree_take ho (fun K hK => by rw [if_neg (by simp [hw])]; exact hK _ h)
theorem tree_one_skip {i : Nat} {t : DTree} {o : Oper} {a : Act} {w : World} (ho : ops[i]? = some o) (hw : Region.wanted o (yielded ops a.tmps) = false) (hS : S w) (h : wpTree P ops Q S t (a.put o.dst undef) w) : wpTree P ops Q S (.all [(i, t)]) a w :=
  tree_one ho (fun K hK => by rw [if_neg (by simp [hw])]; exact fun _ => hK _ _ hS h) hS
end
def rt3S (b16 : Nat) (v : Value) (ba o : Nat) (ks : List Value) (b18 : Nat) (ds : List Value) (w : World) : Prop := w.cell? ⟨b16, 3, none⟩ = some v ∧ w.rangeAt ba o ks ∧ w.rangeAt b18 0 ds
def rtStPost (o : Option RSt) (W : World) (M : List HP) (e : Ending) (w' : World) : Prop :=
  ∃ v, e = .returned (.tuple #[.agg (stC (stOf o) v).toArray, .int .i64 (codeOf o : Nat)]) ∧ Sat W w' (own v 107 (stOf o).L.length 5 (csC (stOf o).L) :: M)
/-- A leaf of a walk that is cut into several declarations. -/
structure Leaf (p : Prop) : Prop where
  out : p
structure TakeStCut (M : Prop) where
  p_t0 : Prop
  p_tl : Prop
  p_i0 : Prop
  p_less : Prop
  p_tb : Prop
  p_ib : Prop
  p_kb : Prop
  p_e1 : Prop
  p_e2 : Prop
  go : Leaf p_t0 → Leaf p_tl → Leaf p_i0 → Leaf p_less → Leaf p_tb → Leaf p_ib → Leaf p_kb → Leaf p_e1 → Leaf p_e2 → M
set_option maxRecDepth 100000 in
set_option maxHeartbeats 30000000 in
noncomputable def takeStCut : TakeStCut (∀ (W w : World) (L : List HP) (hs : Sat W w L) (l : List UInt8) (hl : l.length ≤ 1073741824), Calls Tryd.prog 24 #[(.string ⟨(l).toArray⟩)] w (rtStPost (takeSt l) W L)) := by
  apply TakeStCut.mk
  intro K_t0 K_tl K_i0 K_less K_tb K_ib K_kb K_e1 K_e2 W w L hs l hl
  have l1 := tiB_len l
  have l2 := tnB_len (tiB l)
  have l3 := tnB_len (tnB (tiB l))
  have l4 := tnB_len (tnB (tnB (tiB l)))
  have H1 := Box.mk (fun w (L : List HP) hs => rti W w L hs l hl)
  have H2 := Box.mk (fun w (L : List HP) hs => rtn W w L hs (tiB l) (by omega))
  have H3 := Box.mk (fun w (L : List HP) hs => rtn W w L hs (tnB (tiB l)) (by omega))
  have H4 := Box.mk (fun w (L : List HP) hs => rtn W w L hs (tnB (tnB (tiB l))) (by omega))
  have hhead := Box.mk (@st_head l)
  have hstart := Box.mk (@st_start l)
  have hround := Box.mk (@st_round l)
  have hend := Box.mk (@st_end l)
  have z1 := tiC_cases l
  have z2 := tnC_cases (tiB l)
  have z3 := tnC_cases (tnB (tiB l))
  have z4 := tnC_cases (tnB (tnB (tiB l)))
  have nb := tnA_lt (tnB (tnB (tiB l)))
  obtain ⟨O, hO⟩ : ∃ O, takeSt l = O := ⟨_, rfl⟩
  rw [hO]
  unfold rtStPost
  have hs0 : (tnB (tnB (tnB (tiB l)))).length ≤ 1073741824 := by omega
  generalize tnB (tnB (tnB (tiB l))) = s0 at *
  generalize tnA (tnB (tnB (tiB l))) = n at *
  generalize tnC (tnB (tnB (tiB l))) = c4 at *
  generalize tnB (tnB (tiB l)) = r3 at *
  generalize tnA (tnB (tiB l)) = lo at *
  generalize tnC (tnB (tiB l)) = c3 at *
  generalize tnB (tiB l) = r2 at *
  generalize tnA (tiB l) = ep at *
  generalize tnC (tiB l) = c2 at *
  generalize tiB l = r1 at *
  generalize tiC l = c1 at *
  generalize tiA l = last at *
  clear l1 l2 l3 l4
  have hzc := run_zero (P := Tryd.prog) zrstate
  have hzk := run_zero (P := Tryd.prog) zkey
  have wn : IntKind.i64.wrap (n : Int) = n := by rw [IntKind.wrap_i64]; omega
  rcases z1 with rfl | rfl
  · rcases z2 with rfl | rfl
    · rcases z3 with rfl | rfl
      · rcases z4 with rfl | rfl
        · by_cases hts : last < 0
          · have he := hhead.out (.inr (.inr (.inr (.inr (.inl hts)))))
            rw [he] at hO
            subst hO
            clear he hhead
            go_enter Tryd.func24, Tryd.ntmps24
            go_wp2_with (first
              | (guard_target = wpList _ _ _ (⟨some 2, .alloc _, _, _, _, _⟩ :: _) _ _; refine wpl (o := ⟨some 2, .alloc _, _, _, _, _⟩) rfl fun K hK => ?_; go_must (refine op_alloc hs rfl _ zrstate [Value.int .i64 0, .int .u32 0, .int .u32 0, .slice none 0 0] rfl fun b2 w1 h => hK _ _ ?_); clear hs hK K; have hs := h; clear h; try dsimp only [List.set] at hs)
              | (go_at_call 40; go_must (refine (H1.out _ _ hs).mono ?_); clear hs; rintro e w1 ⟨rfl, hs⟩)
              | (have hh : g3 = g3 := rfl; clear hh; go_at_call 41; go_must (refine (H4.out _ _ hs).mono ?_); clear hs; rintro e w1 ⟨rfl, hs⟩)
              | (have hh : g2 = g2 := rfl; clear hh; go_at_call 41; go_must (refine (H3.out _ _ hs).mono ?_); clear hs; rintro e w1 ⟨rfl, hs⟩; have g3 : Box True := ⟨trivial⟩)
              | (go_at_call 41; go_must (refine (H2.out _ _ hs).mono ?_); clear hs; rintro e w1 ⟨rfl, hs⟩; have g2 : Box True := ⟨trivial⟩)
              | (guard_target = wpList _ _ _ (⟨none, .store _ (.tmp 2) _, _, _, _, _⟩ :: _) _ _; refine wpl (o := ⟨none, .store _ (.tmp 2) _, _, _, _, _⟩) rfl fun K hK => ?_; go_must (refine op_store_whole (hs.pick (A := row b2 [Value.int .i64 0, .int .u32 0, .int .u32 0, .slice none 0 0] 39) (by repeat (first | with_reducible exact Pick.here | with_reducible apply Pick.there))) (b := b2) rfl rfl [Value.int .i64 0, .int .u32 0, .int .u32 0, .slice none 0 0] rfl (by simp [Value.oneCell']) (by kernel_rfl) (k := 0) rfl rfl fun w9 h => hK _ _ ?_); clear hs hK K; have hs := h; clear h; try dsimp only [List.set] at hs))
            refine bodyPost_ret (run_results_cell_tmp rfl (b := b2) rfl [Value.int .i64 0, .int .u32 0, .int .u32 0, .slice none 0 0] (range_whole hs m0) (by kernel_rfl) (by kernel_rfl)) rfl ⟨.slice none 0 0, rfl, ?_⟩
            have hs2 := hs.addNil none 107 5
            show Sat W _ (own (.slice none 0 0) 107 0 5 [] :: L)
            exact hs2.pack (by repeat (first | with_reducible exact Pack.refl | with_reducible exact Pack.nil | with_reducible refine Pack.cons (by repeat (first | with_reducible exact Pick.here | with_reducible apply Pick.there)) ?_ | with_reducible apply Pack.drop))
          · by_cases hnl : l.length < n
            · have hnlI : (l.length : Int) < (n : Int) := by omega
              have he := hhead.out (.inr (.inr (.inr (.inr (.inr hnl)))))
              rw [he] at hO
              subst hO
              clear he hhead
              go_enter Tryd.func24, Tryd.ntmps24
              go_wp2_with (first
                | (guard_target = wpList _ _ _ (⟨some 2, .alloc _, _, _, _, _⟩ :: _) _ _; refine wpl (o := ⟨some 2, .alloc _, _, _, _, _⟩) rfl fun K hK => ?_; go_must (refine op_alloc hs rfl _ zrstate [Value.int .i64 0, .int .u32 0, .int .u32 0, .slice none 0 0] rfl fun b2 w1 h => hK _ _ ?_); clear hs hK K; have hs := h; clear h; try dsimp only [List.set] at hs)
                | (go_at_call 40; go_must (refine (H1.out _ _ hs).mono ?_); clear hs; rintro e w1 ⟨rfl, hs⟩)
                | (have hh : g3 = g3 := rfl; clear hh; go_at_call 41; go_must (refine (H4.out _ _ hs).mono ?_); clear hs; rintro e w1 ⟨rfl, hs⟩)
                | (have hh : g2 = g2 := rfl; clear hh; go_at_call 41; go_must (refine (H3.out _ _ hs).mono ?_); clear hs; rintro e w1 ⟨rfl, hs⟩; have g3 : Box True := ⟨trivial⟩)
                | (go_at_call 41; go_must (refine (H2.out _ _ hs).mono ?_); clear hs; rintro e w1 ⟨rfl, hs⟩; have g2 : Box True := ⟨trivial⟩)
                | (guard_target = wpList _ _ _ (⟨none, .store _ (.tmp 2) _, _, _, _, _⟩ :: _) _ _; refine wpl (o := ⟨none, .store _ (.tmp 2) _, _, _, _, _⟩) rfl fun K hK => ?_; go_must (refine op_store_whole (hs.pick (A := row b2 [Value.int .i64 0, .int .u32 0, .int .u32 0, .slice none 0 0] 39) (by repeat (first | with_reducible exact Pick.here | with_reducible apply Pick.there))) (b := b2) rfl rfl [Value.int .i64 0, .int .u32 0, .int .u32 0, .slice none 0 0] rfl (by simp [Value.oneCell']) (by kernel_rfl) (k := 0) rfl rfl fun w9 h => hK _ _ ?_); clear hs hK K; have hs := h; clear h; try dsimp only [List.set] at hs))
              refine bodyPost_ret (run_results_cell_tmp rfl (b := b2) rfl [Value.int .i64 0, .int .u32 0, .int .u32 0, .slice none 0 0] (range_whole hs m0) (by kernel_rfl) (by kernel_rfl)) rfl ⟨.slice none 0 0, rfl, ?_⟩
              have hs2 := hs.addNil none 107 5
              show Sat W _ (own (.slice none 0 0) 107 0 5 [] :: L)
              exact hs2.pack (by repeat (first | with_reducible exact Pack.refl | with_reducible exact Pack.nil | with_reducible refine Pack.cons (by repeat (first | with_reducible exact Pick.here | with_reducible apply Pick.there)) ?_ | with_reducible apply Pack.drop))
            · have hnlI : ¬ (l.length : Int) < (n : Int) := by omega
              have hX0 := hstart.out rfl rfl rfl rfl
              have HO := Box.mk hO
              generalize stX l = X at hX0 hround hend
              have HX := Box.mk hX0
              clear hO hX0 hhead hstart
              go_enter Tryd.func24, Tryd.ntmps24
              go_wp2_with (first
                | (guard_target = wpList _ _ _ (⟨some 2, .alloc _, _, _, _, _⟩ :: _) _ _; refine wpl (o := ⟨some 2, .alloc _, _, _, _, _⟩) rfl fun K hK => ?_; go_must (refine op_alloc hs rfl _ zrstate [Value.int .i64 0, .int .u32 0, .int .u32 0, .slice none 0 0] rfl fun b2 w1 h => hK _ _ ?_); clear hs hK K; have hs := h; clear h; try dsimp only [List.set] at hs)
                | (go_at_call 40; go_must (refine (H1.out _ _ hs).mono ?_); clear hs; rintro e w1 ⟨rfl, hs⟩)
                | (have hh : g3 = g3 := rfl; clear hh; go_at_call 41; go_must (refine (H4.out _ _ hs).mono ?_); clear hs; rintro e w1 ⟨rfl, hs⟩)
                | (have hh : g2 = g2 := rfl; clear hh; go_at_call 41; go_must (refine (H3.out _ _ hs).mono ?_); clear hs; rintro e w1 ⟨rfl, hs⟩; have g3 : Box True := ⟨trivial⟩)
                | (go_at_call 41; go_must (refine (H2.out _ _ hs).mono ?_); clear hs; rintro e w1 ⟨rfl, hs⟩; have g2 : Box True := ⟨trivial⟩)
                | (guard_target = wpList _ _ _ (⟨none, .store _ (.tmp 2) _, _, _, _, _⟩ :: _) _ _; refine wpl (o := ⟨none, .store _ (.tmp 2) _, _, _, _, _⟩) rfl fun K hK => ?_; go_must (refine op_store_whole (hs.pick (A := row b2 [Value.int .i64 0, .int .u32 0, .int .u32 0, .slice none 0 0] 39) (by repeat (first | with_reducible exact Pick.here | with_reducible apply Pick.there))) (b := b2) rfl rfl [Value.int .i64 0, .int .u32 0, .int .u32 0, .slice none 0 0] rfl (by simp [Value.oneCell']) (by kernel_rfl) (k := 0) rfl rfl fun w9 h => hK _ _ ?_); clear hs hK K; have hs := h; clear h; try dsimp only [List.set] at hs)
                | (guard_target = wpList _ _ _ (⟨some 16, .alloc _, _, _, _, _⟩ :: _) _ _; refine wpl (o := ⟨some 16, .alloc _, _, _, _, _⟩) rfl fun K hK => ?_; go_must (refine op_alloc hs rfl _ zrstate [Value.int .i64 0, .int .u32 0, .int .u32 0, .slice none 0 0] rfl fun b16 w1 h => hK _ _ ?_); clear hs hK K; have hs := h; clear h; try dsimp only [List.set] at hs)
                | (guard_target = wpList _ _ _ (⟨none, .store _ (.tmp 16) _, _, _, _, _⟩ :: _) _ _; refine wpl (o := ⟨none, .store _ (.tmp 16) _, _, _, _, _⟩) rfl fun K hK => ?_; go_must (refine op_store_whole hs (b := b16) rfl rfl [Value.int .i64 last, .int .u32 (ep : Nat), .int .u32 (lo : Nat), .slice none 0 0] rfl (by simp [Value.oneCell']) (by kernel_rfl) (k := 0) rfl rfl fun w3 h => hK _ _ ?_); clear hs hK K; have hs := h; clear h; try dsimp only [List.set] at hs))
              go_loopw [14, 17] (fun v14 v17 wr => ∃ (i : Nat) (s1 : List UInt8) (acc : List RCl) (A : Option Addr) (ca : Nat), i ≤ n ∧ v14 = (.string ⟨(s1).toArray⟩) ∧ v17 = .int .i64 (i : Nat) ∧ s1.length ≤ 1073741824 ∧ Box (acc.length = i) ∧ Box (rdCs last (n - i) ⟨s1, false⟩ acc = X) ∧ Box (Rise (acc.map (·.k))) ∧ Sat W wr (row b16 [Value.int .i64 last, .int .u32 (ep : Nat), .int .u32 (lo : Nat), .slice A i ca] 39 :: own (.slice A i ca) 107 i 5 (csC acc) :: row b2 [Value.int .i64 0, .int .u32 0, .int .u32 0, .slice none 0 0] 39 :: L)) (fun _ v17 _ => n - (intOf v17).toNat)
              case atStart => exact ⟨0, s0, [], none, 0, by omega, rfl, rfl, hs0, ⟨rfl⟩, HX, ⟨List.Pairwise.nil⟩, (hs.addNil none 107 5).pack (L := row b16 [Value.int .i64 last, .int .u32 (ep : Nat), .int .u32 (lo : Nat), .slice none 0 0] 39 :: own (.slice none 0 0) 107 0 5 [] :: row b2 [Value.int .i64 0, .int .u32 0, .int .u32 0, .slice none 0 0] 39 :: L) (by repeat (first | with_reducible exact Pack.refl | with_reducible exact Pack.nil | with_reducible refine Pack.cons (by repeat (first | with_reducible exact Pick.here | with_reducible apply Pick.there)) ?_ | with_reducible apply Pack.drop))⟩
              case round =>
                clear hs HX
                obtain ⟨i, s1, acc, A, ca, hi, rfl, rfl, hs1, HAL, HX, HRI, hs⟩ := hrel
                by_cases hlt : i < n
                · have hltI : (i : Int) < (n : Int) := by omega
                  have hwi : IntKind.i64.wrap ((i : Int) + 1) = (i : Int) + 1 := by rw [IntKind.wrap_i64]; omega
                  obtain ⟨m, hm⟩ : ∃ m, n - i = m + 1 := ⟨n - i - 1, by omega⟩
                  have hm2 : n - (i + 1) = m := by omega
                  have R := hround.out (m := m) (s1 := s1) (acc := acc) (by rw [← hm]; exact HX.out)
                  have HK := Box.mk (fun w (L : List HP) hs => takeKey_spec W w L hs s1 hs1)
                  have q1 := tkRest_len s1
                  have HI := Box.mk (fun w (L : List HP) hs => rti W w L hs (tkRest s1) (by omega))
                  have q2 := tiB_len (tkRest s1)
                  have HT := Box.mk (fun w (L : List HP) hs => rtt W w L hs (tiB (tkRest s1)) (by omega))
                  have q3 := ttB_len (tiB (tkRest s1))
                  have z5 := tkBad_cases s1
                  have z6 := tiC_cases (tkRest s1)
                  have z7 := ttC_cases (takeT (tiB (tkRest s1)))
                  have hs3 : (ttB (takeT (tiB (tkRest s1)))).length ≤ 1073741824 := by omega
                  generalize ttB (takeT (tiB (tkRest s1))) = s3 at *
                  generalize ttA (takeT (tiB (tkRest s1))) = tx at *
                  generalize ttC (takeT (tiB (tkRest s1))) = tb at *
                  generalize tiB (tkRest s1) = ri at *
                  generalize tiA (tkRest s1) = ti at *
                  generalize tiC (tkRest s1) = ib at *
                  generalize tkRest s1 = r at *
                  generalize tkKey s1 = k at *
                  generalize tkBad s1 = kb at *
                  clear q1 q2 q3 hm
                  rcases z5 with rfl | rfl
                  · rcases z6 with rfl | rfl
                    · rcases z7 with rfl | rfl
                      · by_cases ht0 : ti < 0
                        ·
                          rename_i x1 x2 x3 x4 x5 x6 x7 x8 x9
                          revert W w L l hl O s0 hs0 n nb r3 lo r2 ep r1 last hzc hzk wn H1 H2 H3 H4 hnl HO X hend x1 b2 x2 x3 hts hnlI hround x4 g2 x5 g3 x6 x7 b16 w1 w3 x8 x9 wr u3 u18 u19 u20 u21 u22 u23 u24 u25 u26 u81 u82 u83 u84 u85 u86 u87 u88 u89 u90 u91 u92 u93 u94 u95 u96 u97 u98 u99 u100 u101 u102 u103 u104 u105 u106 u107 u108 u109 u110 u111 u112 u113 u114 u115 u116 u117 u118 u119 u120 u121 u122 u123 u124 u125 u126 u127 u128 u129 u130 u131 u132 u133 u134 u135 u136 u137 u138 u139 u140 u141 u142 u143 u144 u145 u146 u147 u148 u149 u150 i s1 acc A ca hi hs1 HAL HX HRI hs hlt hltI hwi m hm2 s3 hs3 tx ri ti r k HK HI HT R ht0
                          exact K_t0.out
                        · by_cases htl : last < ti
                          ·
                            rename_i x1 x2 x3 x4 x5 x6 x7 x8 x9
                            revert W w L l hl O s0 hs0 n nb r3 lo r2 ep r1 last hzc hzk wn H1 H2 H3 H4 hnl HO X hend x1 b2 x2 x3 hts hnlI hround x4 g2 x5 g3 x6 x7 b16 w1 w3 x8 x9 wr u3 u18 u19 u20 u21 u22 u23 u24 u25 u26 u81 u82 u83 u84 u85 u86 u87 u88 u89 u90 u91 u92 u93 u94 u95 u96 u97 u98 u99 u100 u101 u102 u103 u104 u105 u106 u107 u108 u109 u110 u111 u112 u113 u114 u115 u116 u117 u118 u119 u120 u121 u122 u123 u124 u125 u126 u127 u128 u129 u130 u131 u132 u133 u134 u135 u136 u137 u138 u139 u140 u141 u142 u143 u144 u145 u146 u147 u148 u149 u150 i s1 acc A ca hi hs1 HAL HX HRI hs hlt hltI hwi m hm2 s3 hs3 tx ri ti r k HK HI HT R ht0 htl
                            exact K_tl.out
                          · obtain ⟨hnx, hno⟩ := R.2.2.2 rfl rfl (by omega) (by omega) rfl
                            have HNX := Box.mk hnx
                            have HNO := Box.mk hno
                            clear R hnx hno
                            by_cases h0 : i = 0
                            ·
                              rename_i x1 x2 x3 x4 x5 x6 x7 x8 x9
                              revert W w L l hl O s0 hs0 n nb r3 lo r2 ep r1 last hzc hzk wn H1 H2 H3 H4 hnl HO X hend x1 b2 x2 x3 hts hnlI hround x4 g2 x5 g3 x6 x7 b16 w1 w3 x8 x9 wr u3 u18 u19 u20 u21 u22 u23 u24 u25 u26 u81 u82 u83 u84 u85 u86 u87 u88 u89 u90 u91 u92 u93 u94 u95 u96 u97 u98 u99 u100 u101 u102 u103 u104 u105 u106 u107 u108 u109 u110 u111 u112 u113 u114 u115 u116 u117 u118 u119 u120 u121 u122 u123 u124 u125 u126 u127 u128 u129 u130 u131 u132 u133 u134 u135 u136 u137 u138 u139 u140 u141 u142 u143 u144 u145 u146 u147 u148 u149 u150 i s1 acc A ca hi hs1 HAL HX HRI hs hlt hltI hwi m hm2 s3 hs3 tx ri ti r k HK HI HT ht0 htl HNX HNO h0
                              exact K_i0.out
                            ·
                              rename_i x1 x2 x3 x4 x5 x6 x7 x8 x9
                              revert W w L l hl O s0 hs0 n nb r3 lo r2 ep r1 last hzc hzk wn H1 H2 H3 H4 hnl HO X hend x1 b2 x2 x3 hts hnlI hround x4 g2 x5 g3 x6 x7 b16 w1 w3 x8 x9 wr u3 u18 u19 u20 u21 u22 u23 u24 u25 u26 u81 u82 u83 u84 u85 u86 u87 u88 u89 u90 u91 u92 u93 u94 u95 u96 u97 u98 u99 u100 u101 u102 u103 u104 u105 u106 u107 u108 u109 u110 u111 u112 u113 u114 u115 u116 u117 u118 u119 u120 u121 u122 u123 u124 u125 u126 u127 u128 u129 u130 u131 u132 u133 u134 u135 u136 u137 u138 u139 u140 u141 u142 u143 u144 u145 u146 u147 u148 u149 u150 i s1 acc A ca hi hs1 HAL HX HRI hs hlt hltI hwi m hm2 s3 hs3 tx ri ti r k HK HI HT ht0 htl HNX HNO h0
                              exact K_less.out
                      ·
                        rename_i x1 x2 x3 x4 x5 x6 x7 x8 x9
                        revert W w L l hl O s0 hs0 n nb r3 lo r2 ep r1 last hzc hzk wn H1 H2 H3 H4 hnl HO X hend x1 b2 x2 x3 hts hnlI hround x4 g2 x5 g3 x6 x7 b16 w1 w3 x8 x9 wr u3 u18 u19 u20 u21 u22 u23 u24 u25 u26 u81 u82 u83 u84 u85 u86 u87 u88 u89 u90 u91 u92 u93 u94 u95 u96 u97 u98 u99 u100 u101 u102 u103 u104 u105 u106 u107 u108 u109 u110 u111 u112 u113 u114 u115 u116 u117 u118 u119 u120 u121 u122 u123 u124 u125 u126 u127 u128 u129 u130 u131 u132 u133 u134 u135 u136 u137 u138 u139 u140 u141 u142 u143 u144 u145 u146 u147 u148 u149 u150 i s1 acc A ca hi hs1 HAL HX HRI hs hlt hltI hwi m hm2 s3 hs3 tx ri ti r k HK HI HT R
                        exact K_tb.out
                    ·
                      rename_i x1 x2 x3 x4 x5 x6 x7 x8 x9
                      revert W w L l hl O s0 hs0 n nb r3 lo r2 ep r1 last hzc hzk wn H1 H2 H3 H4 hnl HO X hend x1 b2 x2 x3 hts hnlI hround x4 g2 x5 g3 x6 x7 b16 w1 w3 x8 x9 wr u3 u18 u19 u20 u21 u22 u23 u24 u25 u26 u81 u82 u83 u84 u85 u86 u87 u88 u89 u90 u91 u92 u93 u94 u95 u96 u97 u98 u99 u100 u101 u102 u103 u104 u105 u106 u107 u108 u109 u110 u111 u112 u113 u114 u115 u116 u117 u118 u119 u120 u121 u122 u123 u124 u125 u126 u127 u128 u129 u130 u131 u132 u133 u134 u135 u136 u137 u138 u139 u140 u141 u142 u143 u144 u145 u146 u147 u148 u149 u150 i s1 acc A ca hi hs1 HAL HX HRI hs hlt hltI hwi m hm2 s3 hs3 tx tb z7 ri HT ti r k HK HI R
                      exact K_ib.out
                  ·
                    rename_i x1 x2 x3 x4 x5 x6 x7 x8 x9
                    revert W w L l hl O s0 hs0 n nb r3 lo r2 ep r1 last hzc hzk wn H1 H2 H3 H4 hnl HO X hend x1 b2 x2 x3 hts hnlI hround x4 g2 x5 g3 x6 x7 b16 w1 w3 x8 x9 wr u3 u18 u19 u20 u21 u22 u23 u24 u25 u26 u81 u82 u83 u84 u85 u86 u87 u88 u89 u90 u91 u92 u93 u94 u95 u96 u97 u98 u99 u100 u101 u102 u103 u104 u105 u106 u107 u108 u109 u110 u111 u112 u113 u114 u115 u116 u117 u118 u119 u120 u121 u122 u123 u124 u125 u126 u127 u128 u129 u130 u131 u132 u133 u134 u135 u136 u137 u138 u139 u140 u141 u142 u143 u144 u145 u146 u147 u148 u149 u150 i s1 acc A ca hi hs1 HAL HX HRI hs hlt hltI hwi m hm2 s3 hs3 tx tb z7 ri HT ti ib z6 r HI k R HK
                    exact K_kb.out
                · have hltI : ¬ (i : Int) < (n : Int) := by omega
                  have hE := hend.out (s1 := s1) (acc := acc) (by have := HX.out; rw [show n - i = 0 by omega] at this; exact this) HRI.out (by omega)
                  clear HX HRI
                  by_cases hre : s1 = []
                  ·
                    rename_i x1 x2 x3 x4 x5 x6 x7 x8 x9
                    revert W w L l hl O s0 hs0 n nb r3 lo r2 ep r1 last hzc hzk wn H1 H2 H3 H4 hnl HO X hend x1 b2 x2 x3 hts hnlI hround x4 g2 x5 g3 x6 x7 b16 w1 w3 x8 x9 wr u3 u18 u19 u20 u21 u22 u23 u24 u25 u26 u81 u82 u83 u84 u85 u86 u87 u88 u89 u90 u91 u92 u93 u94 u95 u96 u97 u98 u99 u100 u101 u102 u103 u104 u105 u106 u107 u108 u109 u110 u111 u112 u113 u114 u115 u116 u117 u118 u119 u120 u121 u122 u123 u124 u125 u126 u127 u128 u129 u130 u131 u132 u133 u134 u135 u136 u137 u138 u139 u140 u141 u142 u143 u144 u145 u146 u147 u148 u149 u150 i s1 acc A ca hi hs1 HAL hs hlt hltI hE hre
                    exact K_e1.out
                  ·
                    rename_i x1 x2 x3 x4 x5 x6 x7 x8 x9
                    revert W w L l hl O s0 hs0 n nb r3 lo r2 ep r1 last hzc hzk wn H1 H2 H3 H4 hnl HO X hend x1 b2 x2 x3 hts hnlI hround x4 g2 x5 g3 x6 x7 b16 w1 w3 x8 x9 wr u3 u18 u19 u20 u21 u22 u23 u24 u25 u26 u81 u82 u83 u84 u85 u86 u87 u88 u89 u90 u91 u92 u93 u94 u95 u96 u97 u98 u99 u100 u101 u102 u103 u104 u105 u106 u107 u108 u109 u110 u111 u112 u113 u114 u115 u116 u117 u118 u119 u120 u121 u122 u123 u124 u125 u126 u127 u128 u129 u130 u131 u132 u133 u134 u135 u136 u137 u138 u139 u140 u141 u142 u143 u144 u145 u146 u147 u148 u149 u150 i s1 acc A ca hi hs1 HAL hs hlt hltI hE hre
                    exact K_e2.out
        · have he := hhead.out (.inr (.inr (.inr (.inl rfl))))
          rw [he] at hO
          subst hO
          clear he hhead
          go_enter Tryd.func24, Tryd.ntmps24
          go_wp2_with (first
            | (guard_target = wpList _ _ _ (⟨some 2, .alloc _, _, _, _, _⟩ :: _) _ _; refine wpl (o := ⟨some 2, .alloc _, _, _, _, _⟩) rfl fun K hK => ?_; go_must (refine op_alloc hs rfl _ zrstate [Value.int .i64 0, .int .u32 0, .int .u32 0, .slice none 0 0] rfl fun b2 w1 h => hK _ _ ?_); clear hs hK K; have hs := h; clear h; try dsimp only [List.set] at hs)
            | (go_at_call 40; go_must (refine (H1.out _ _ hs).mono ?_); clear hs; rintro e w1 ⟨rfl, hs⟩)
            | (have hh : g3 = g3 := rfl; clear hh; go_at_call 41; go_must (refine (H4.out _ _ hs).mono ?_); clear hs; rintro e w1 ⟨rfl, hs⟩)
            | (have hh : g2 = g2 := rfl; clear hh; go_at_call 41; go_must (refine (H3.out _ _ hs).mono ?_); clear hs; rintro e w1 ⟨rfl, hs⟩; have g3 : Box True := ⟨trivial⟩)
            | (go_at_call 41; go_must (refine (H2.out _ _ hs).mono ?_); clear hs; rintro e w1 ⟨rfl, hs⟩; have g2 : Box True := ⟨trivial⟩)
            | (guard_target = wpList _ _ _ (⟨none, .store _ (.tmp 2) _, _, _, _, _⟩ :: _) _ _; refine wpl (o := ⟨none, .store _ (.tmp 2) _, _, _, _, _⟩) rfl fun K hK => ?_; go_must (refine op_store_whole (hs.pick (A := row b2 [Value.int .i64 0, .int .u32 0, .int .u32 0, .slice none 0 0] 39) (by repeat (first | with_reducible exact Pick.here | with_reducible apply Pick.there))) (b := b2) rfl rfl [Value.int .i64 0, .int .u32 0, .int .u32 0, .slice none 0 0] rfl (by simp [Value.oneCell']) (by kernel_rfl) (k := 0) rfl rfl fun w9 h => hK _ _ ?_); clear hs hK K; have hs := h; clear h; try dsimp only [List.set] at hs))
          refine bodyPost_ret (run_results_cell_tmp rfl (b := b2) rfl [Value.int .i64 0, .int .u32 0, .int .u32 0, .slice none 0 0] (range_whole hs m0) (by kernel_rfl) (by kernel_rfl)) rfl ⟨.slice none 0 0, rfl, ?_⟩
          have hs2 := hs.addNil none 107 5
          show Sat W _ (own (.slice none 0 0) 107 0 5 [] :: L)
          exact hs2.pack (by repeat (first | with_reducible exact Pack.refl | with_reducible exact Pack.nil | with_reducible refine Pack.cons (by repeat (first | with_reducible exact Pick.here | with_reducible apply Pick.there)) ?_ | with_reducible apply Pack.drop))
      · have he := hhead.out (.inr (.inr (.inl rfl)))
        rw [he] at hO
        subst hO
        clear he hhead
        go_enter Tryd.func24, Tryd.ntmps24
        go_wp2_with (first
          | (guard_target = wpList _ _ _ (⟨some 2, .alloc _, _, _, _, _⟩ :: _) _ _; refine wpl (o := ⟨some 2, .alloc _, _, _, _, _⟩) rfl fun K hK => ?_; go_must (refine op_alloc hs rfl _ zrstate [Value.int .i64 0, .int .u32 0, .int .u32 0, .slice none 0 0] rfl fun b2 w1 h => hK _ _ ?_); clear hs hK K; have hs := h; clear h; try dsimp only [List.set] at hs)
          | (go_at_call 40; go_must (refine (H1.out _ _ hs).mono ?_); clear hs; rintro e w1 ⟨rfl, hs⟩)
          | (have hh : g3 = g3 := rfl; clear hh; go_at_call 41; go_must (refine (H4.out _ _ hs).mono ?_); clear hs; rintro e w1 ⟨rfl, hs⟩)
          | (have hh : g2 = g2 := rfl; clear hh; go_at_call 41; go_must (refine (H3.out _ _ hs).mono ?_); clear hs; rintro e w1 ⟨rfl, hs⟩; have g3 : Box True := ⟨trivial⟩)
          | (go_at_call 41; go_must (refine (H2.out _ _ hs).mono ?_); clear hs; rintro e w1 ⟨rfl, hs⟩; have g2 : Box True := ⟨trivial⟩)
          | (guard_target = wpList _ _ _ (⟨none, .store _ (.tmp 2) _, _, _, _, _⟩ :: _) _ _; refine wpl (o := ⟨none, .store _ (.tmp 2) _, _, _, _, _⟩) rfl fun K hK => ?_; go_must (refine op_store_whole (hs.pick (A := row b2 [Value.int .i64 0, .int .u32 0, .int .u32 0, .slice none 0 0] 39) (by repeat (first | with_reducible exact Pick.here | with_reducible apply Pick.there))) (b := b2) rfl rfl [Value.int .i64 0, .int .u32 0, .int .u32 0, .slice none 0 0] rfl (by simp [Value.oneCell']) (by kernel_rfl) (k := 0) rfl rfl fun w9 h => hK _ _ ?_); clear hs hK K; have hs := h; clear h; try dsimp only [List.set] at hs))
        refine bodyPost_ret (run_results_cell_tmp rfl (b := b2) rfl [Value.int .i64 0, .int .u32 0, .int .u32 0, .slice none 0 0] (range_whole hs m0) (by kernel_rfl) (by kernel_rfl)) rfl ⟨.slice none 0 0, rfl, ?_⟩
        have hs2 := hs.addNil none 107 5
        show Sat W _ (own (.slice none 0 0) 107 0 5 [] :: L)
        exact hs2.pack (by repeat (first | with_reducible exact Pack.refl | with_reducible exact Pack.nil | with_reducible refine Pack.cons (by repeat (first | with_reducible exact Pick.here | with_reducible apply Pick.there)) ?_ | with_reducible apply Pack.drop))
    · have he := hhead.out (.inr (.inl rfl))
      rw [he] at hO
      subst hO
      clear he hhead
      go_enter Tryd.func24, Tryd.ntmps24
      go_wp2_with (first
        | (guard_target = wpList _ _ _ (⟨some 2, .alloc _, _, _, _, _⟩ :: _) _ _; refine wpl (o := ⟨some 2, .alloc _, _, _, _, _⟩) rfl fun K hK => ?_; go_must (refine op_alloc hs rfl _ zrstate [Value.int .i64 0, .int .u32 0, .int .u32 0, .slice none 0 0] rfl fun b2 w1 h => hK _ _ ?_); clear hs hK K; have hs := h; clear h; try dsimp only [List.set] at hs)
        | (go_at_call 40; go_must (refine (H1.out _ _ hs).mono ?_); clear hs; rintro e w1 ⟨rfl, hs⟩)
        | (have hh : g3 = g3 := rfl; clear hh; go_at_call 41; go_must (refine (H4.out _ _ hs).mono ?_); clear hs; rintro e w1 ⟨rfl, hs⟩)
        | (have hh : g2 = g2 := rfl; clear hh; go_at_call 41; go_must (refine (H3.out _ _ hs).mono ?_); clear hs; rintro e w1 ⟨rfl, hs⟩; have g3 : Box True := ⟨trivial⟩)
        | (go_at_call 41; go_must (refine (H2.out _ _ hs).mono ?_); clear hs; rintro e w1 ⟨rfl, hs⟩; have g2 : Box True := ⟨trivial⟩)
        | (guard_target = wpList _ _ _ (⟨none, .store _ (.tmp 2) _, _, _, _, _⟩ :: _) _ _; refine wpl (o := ⟨none, .store _ (.tmp 2) _, _, _, _, _⟩) rfl fun K hK => ?_; go_must (refine op_store_whole (hs.pick (A := row b2 [Value.int .i64 0, .int .u32 0, .int .u32 0, .slice none 0 0] 39) (by repeat (first | with_reducible exact Pick.here | with_reducible apply Pick.there))) (b := b2) rfl rfl [Value.int .i64 0, .int .u32 0, .int .u32 0, .slice none 0 0] rfl (by simp [Value.oneCell']) (by kernel_rfl) (k := 0) rfl rfl fun w9 h => hK _ _ ?_); clear hs hK K; have hs := h; clear h; try dsimp only [List.set] at hs))
      refine bodyPost_ret (run_results_cell_tmp rfl (b := b2) rfl [Value.int .i64 0, .int .u32 0, .int .u32 0, .slice none 0 0] (range_whole hs m0) (by kernel_rfl) (by kernel_rfl)) rfl ⟨.slice none 0 0, rfl, ?_⟩
      have hs2 := hs.addNil none 107 5
      show Sat W _ (own (.slice none 0 0) 107 0 5 [] :: L)
      exact hs2.pack (by repeat (first | with_reducible exact Pack.refl | with_reducible exact Pack.nil | with_reducible refine Pack.cons (by repeat (first | with_reducible exact Pick.here | with_reducible apply Pick.there)) ?_ | with_reducible apply Pack.drop))
  · have he := hhead.out (.inl rfl)
    rw [he] at hO
    subst hO
    clear he hhead
    go_enter Tryd.func24, Tryd.ntmps24
    go_wp2_with (first
      | (guard_target = wpList _ _ _ (⟨some 2, .alloc _, _, _, _, _⟩ :: _) _ _; refine wpl (o := ⟨some 2, .alloc _, _, _, _, _⟩) rfl fun K hK => ?_; go_must (refine op_alloc hs rfl _ zrstate [Value.int .i64 0, .int .u32 0, .int .u32 0, .slice none 0 0] rfl fun b2 w1 h => hK _ _ ?_); clear hs hK K; have hs := h; clear h; try dsimp only [List.set] at hs)
      | (go_at_call 40; go_must (refine (H1.out _ _ hs).mono ?_); clear hs; rintro e w1 ⟨rfl, hs⟩)
      | (have hh : g3 = g3 := rfl; clear hh; go_at_call 41; go_must (refine (H4.out _ _ hs).mono ?_); clear hs; rintro e w1 ⟨rfl, hs⟩)
      | (have hh : g2 = g2 := rfl; clear hh; go_at_call 41; go_must (refine (H3.out _ _ hs).mono ?_); clear hs; rintro e w1 ⟨rfl, hs⟩; have g3 : Box True := ⟨trivial⟩)
      | (go_at_call 41; go_must (refine (H2.out _ _ hs).mono ?_); clear hs; rintro e w1 ⟨rfl, hs⟩; have g2 : Box True := ⟨trivial⟩)
      | (guard_target = wpList _ _ _ (⟨none, .store _ (.tmp 2) _, _, _, _, _⟩ :: _) _ _; refine wpl (o := ⟨none, .store _ (.tmp 2) _, _, _, _, _⟩) rfl fun K hK => ?_; go_must (refine op_store_whole (hs.pick (A := row b2 [Value.int .i64 0, .int .u32 0, .int .u32 0, .slice none 0 0] 39) (by repeat (first | with_reducible exact Pick.here | with_reducible apply Pick.there))) (b := b2) rfl rfl [Value.int .i64 0, .int .u32 0, .int .u32 0, .slice none 0 0] rfl (by simp [Value.oneCell']) (by kernel_rfl) (k := 0) rfl rfl fun w9 h => hK _ _ ?_); clear hs hK K; have hs := h; clear h; try dsimp only [List.set] at hs))
    refine bodyPost_ret (run_results_cell_tmp rfl (b := b2) rfl [Value.int .i64 0, .int .u32 0, .int .u32 0, .slice none 0 0] (range_whole hs m0) (by kernel_rfl) (by kernel_rfl)) rfl ⟨.slice none 0 0, rfl, ?_⟩
    have hs2 := hs.addNil none 107 5
    show Sat W _ (own (.slice none 0 0) 107 0 5 [] :: L)
    exact hs2.pack (by repeat (first | with_reducible exact Pack.refl | with_reducible exact Pack.nil | with_reducible refine Pack.cons (by repeat (first | with_reducible exact Pick.here | with_reducible apply Pick.there)) ?_ | with_reducible apply Pack.drop))
end Go.Proofs.YthjnefpnnifjiaaDoor
