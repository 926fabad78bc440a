/- The law RedoOrder. -/
import Derived.Test.YthjnefpnnifjiaaDoorRdOrderP
set_option linter.unusedVariables false
set_option linter.unusedSimpArgs false
namespace Go.Proofs.YthjnefpnnifjiaaDoor
open Go.RowKit
def ordS (b13 : Nat) (vx : Value) (bw o : Nat) (cx : List Value) (b7 : Nat) (vc : Value) (ba q : Nat) (cc : List Value) (w : World) : Prop := w.cell? ⟨b13, 1, none⟩ = some vx ∧ w.rangeAt bw o cx ∧ w.cell? ⟨b7, 3, none⟩ = some vc ∧ w.rangeAt ba q cc
def frsS2 (b7 : Nat) (c7 : List Value) (b8 : Nat) (c8 : List Value) (w : World) : Prop := w.rangeAt b7 0 c7 ∧ w.rangeAt b8 0 c8
def or19S (W : World) (b7 : Nat) (vc : Value) (ba q : Nat) (t : Int) (w : World) : Prop := oldS W w ∧ w.cell? ⟨b7, 3, none⟩ = some vc ∧ w.cell? ⟨ba, q, none⟩ = some (.int .i64 t)
/-- A leaf of a walk that is cut into several declarations. -/
structure RdOrderLeaf (p : Prop) : Prop where
  out : p
structure RdOrderCut1 (M : Prop) where
  p1 : Prop
  go : RdOrderLeaf p1 → M
structure RdOrderCut2 (M : Prop) where
  p1 : Prop
  p2 : Prop
  go : RdOrderLeaf p1 → RdOrderLeaf p2 → M
structure RdOrderCut3 (M : Prop) where
  p1 : Prop
  p2 : Prop
  p3 : Prop
  go : RdOrderLeaf p1 → RdOrderLeaf p2 → RdOrderLeaf p3 → M
set_option maxRecDepth 100000 in
set_option maxHeartbeats 30000000 in
noncomputable def redoOrder_walk_cut : RdOrderCut1 (∀ (W w : World) (L : List HP) (hs : Sat W w L) (hold : old W ∈ L) (hm : maxLenIs W) (l : List (List RWr)) (v : Value) (hv : wssKin.K (hp W) l [v]) (y : UInt8), Calls Tryd.prog 6 #[v, .int .u8 y.toNat] w fun e w' => e = .returned (.bool true) ∧ Sat W w' L) := by
  apply RdOrderCut1.mk
  case go =>
    intro K_redoOrder_walk_a W w L hs hold hm l v hv y
    obtain ⟨Av, cv, rfl, _, hcv, hl24⟩ := wss_form hv
    have HVV := Box.mk hv
    have HA := Box.mk (fun w (L : List HP) hs ho => awake20_spec W w L hs ho hm)
    obtain ⟨n, hn⟩ : ∃ n, min l.length 40 = n := ⟨_, rfl⟩
    have hnl : n ≤ l.length := by omega
    have hn40 : n ≤ 40 := by omega
    have hmin : min (l.length : Int) 40 = (n : Int) := by omega
    have hy := y.toNat_lt
    have hzs := run_zero (P := Tryd.prog) zstateR
    have hzc := run_zero (P := Tryd.prog) zcommit'
    generalize y.toNat = yy at *
    clear hv hm hn
    go_enter Tryd.func6, Tryd.ntmps6
    go_wp2_with (first
      | (go_at_call 9; go_must (refine (HA.out _ _ hs (by (try dsimp only [List.set]); repeat (first | exact hold | apply List.mem_cons_of_mem))).mono ?_); clear hs; rintro e w1 ⟨rfl, hs⟩)
      | (guard_target = wpList _ _ _ (⟨some 7, .alloc _, _, _, _, _⟩ :: _) _ _; refine wpl (o := ⟨some 7, .alloc _, _, _, _, _⟩) rfl fun K hK => ?_; go_must (refine op_alloc hs rfl _ zstateR [Value.int .i64 0, .int .u32 0, .int .u32 0, .slice none 0 0] rfl fun b7 w1 h => hK _ _ ?_); clear hs hK K; have hs := h; clear h; try dsimp only [List.set] at hs)
      | (guard_target = wpList _ _ _ (⟨none, .store _ (.tmp 7) _, _, _, _, _⟩ :: _) _ _; refine wpl (o := ⟨none, .store _ (.tmp 7) _, _, _, _, _⟩) rfl fun K hK => ?_; go_must (refine op_store_whole hs (b := b7) rfl rfl [Value.int .i64 0, .int .u32 0, .int .u32 0, .slice none 0 0] rfl (by simp [Value.oneCell']) (by kernel_rfl) (k := 0) rfl rfl fun w3 h => hK _ _ ?_); clear hs hK K; have hs := h; clear h; try dsimp only [List.set] at hs)
      | (guard_target = wpList _ _ _ (⟨some 8, .alloc _, _, _, _, _⟩ :: _) _ _; refine wpl (o := ⟨some 8, .alloc _, _, _, _, _⟩) rfl fun K hK => ?_; go_must (refine op_alloc hs rfl _ zstateR [Value.int .i64 0, .int .u32 0, .int .u32 0, .slice none 0 0] rfl fun b8 w1 h => hK _ _ ?_); clear hs hK K; have hs := h; clear h; try dsimp only [List.set] at hs)
      | (guard_target = wpList _ _ _ (⟨none, .store _ (.tmp 8) _, _, _, _, _⟩ :: _) _ _; refine wpl (o := ⟨none, .store _ (.tmp 8) _, _, _, _, _⟩) rfl fun K hK => ?_; go_must (refine op_store_whole hs (b := b8) rfl rfl [Value.int .i64 0, .int .u32 0, .int .u32 0, .slice none 0 0] rfl (by simp [Value.oneCell']) (by kernel_rfl) (k := 0) rfl rfl fun w3 h => hK _ _ ?_); clear hs hK K; have hs := h; clear h; try dsimp only [List.set] at hs))
    go_loopw [9] (fun v9 wr => ∃ i : Nat, i ≤ n ∧ v9 = .int .i64 (i : Nat) ∧ Box (∀ j (h : j < l.length), j < i → l[j].length ≤ 20) ∧ Sat W wr (row b8 [Value.int .i64 0, .int .u32 0, .int .u32 0, .slice none 0 0] 43 :: row b7 [Value.int .i64 0, .int .u32 0, .int .u32 0, .slice none 0 0] 43 :: L)) (fun v9 _ => n - (intOf v9).toNat)
    case atStart => exact ⟨0, by omega, rfl, ⟨fun j _ h => by omega⟩, hs⟩
    case round =>
      rename_i x1_1 x1_2 x1_3 x1_4 x1_5 x1_6 x1_7
      revert W w L hold l y Av cv x1_1 hcv hl24 HVV HA n hnl hn40 hmin hzs hzc yy hy x1_2 x1_3 b7 x1_4 x1_5 b8 w1 w3 hs x1_6 x1_7 wr u4 u9 u22 u23 u24 u25 u26 u27 u28 u29 u30 u31 u32 u33 hrel
      exact K_redoOrder_walk_a.out
set_option maxRecDepth 100000 in
set_option maxHeartbeats 30000000 in
noncomputable def redoOrder_walk_a_cut : RdOrderCut1 (redoOrder_walk_cut.p1) := by
  apply RdOrderCut1.mk
  case go =>
    intro K_redoOrder_walk_a_b W w L hold l y Av cv x1_1 hcv hl24 HVV HA n hnl hn40 hmin hzs hzc yy hy x1_2 x1_3 b7 x1_4 x1_5 b8 w1 w3 hs x1_6 x1_7 wr u4 u9 u22 u23 u24 u25 u26 u27 u28 u29 u30 u31 u32 u33 hrel
    clear hs
    obtain ⟨i, hi, rfl, HALL, hs⟩ := hrel
    by_cases hlt : i < n
    · have hltI : (i : Int) < (n : Int) := by omega
      have hil : i < l.length := by omega
      have hilI : (i : Int) < (l.length : Int) := by omega
      have hwi : IntKind.i64.wrap ((i : Int) + 1) = (i : Int) + 1 := by rw [IntKind.wrap_i64]; omega
      obtain ⟨bv, ov, _, Ab, cb, e, hc, hb, hsm⟩ := wss_get HVV.out i hil
      cases e
      have HNX := Box.mk (fun (h20 : l[i].length ≤ 20) => show ∀ j (h : j < l.length), j < i + 1 → l[j].length ≤ 20 from fun j h hj => by
        by_cases e : j = i
        · subst e; exact h20
        · exact HALL.out j h (by omega))
      clear hb hsm
      generalize hgm : l[i].length = m at *
      have k30 : ∀ w M, Sat W w M → old W ∈ M → w.cell? ⟨bv, ov + i, none⟩ = some (.slice Ab m cb) := fun w M h ho => (h.oldS ho).cell hc
      clear hc hgm
      by_cases h20 : m ≤ 20
      · have h20I : ¬ (20 : Int) < (m : Int) := by omega
        go_wp2_with (first
          | (guard_target = wpList _ _ _ (⟨some 30, .load _ _, _, _, _, _⟩ :: _) _ _; refine wpl (o := ⟨some 30, .load _ _, _, _, _, _⟩) rfl fun K hK => op_load rfl (ad := ⟨bv, ov + i, none⟩) rfl (by kernel_rfl) (k30 _ _ hs (by (try dsimp only [List.set]); repeat (first | exact hold | apply List.mem_cons_of_mem))) (hK _ _ ?_); clear hK K))
        exact ⟨⟨i + 1, by omega, by go_num, ⟨HNX.out h20⟩, hs⟩, by simp only [intOf]; omega⟩
      · have h20I : (20 : Int) < (m : Int) := by omega
        go_wp2_with (first
          | (guard_target = wpList _ _ _ (⟨some 30, .load _ _, _, _, _, _⟩ :: _) _ _; refine wpl (o := ⟨some 30, .load _ _, _, _, _, _⟩) rfl fun K hK => op_load rfl (ad := ⟨bv, ov + i, none⟩) rfl (by kernel_rfl) (k30 _ _ hs (by (try dsimp only [List.set]); repeat (first | exact hold | apply List.mem_cons_of_mem))) (hK _ _ ?_); clear hK K))
        go_ret
        exact ⟨rfl, hs.pack (by repeat (first | with_reducible exact Pack.refl | with_reducible exact Pack.nil | with_reducible refine Pack.cons (by repeat (first | with_reducible exact Pick.here | with_reducible apply Pick.there)) ?_ | with_reducible apply Pack.drop))⟩
    · have hltI : ¬ (i : Int) < (n : Int) := by omega
      revert W w L hold l y Av cv x1_1 hcv hl24 HVV HA n hnl hn40 hmin hzs hzc yy hy x1_2 x1_3 b7 x1_4 x1_5 b8 w1 w3 x1_6 x1_7 wr u4 u22 u23 u24 u25 u26 u27 u28 u29 u30 u31 u32 u33 i hi HALL hs hlt hltI
      exact K_redoOrder_walk_a_b.out
set_option maxRecDepth 100000 in
set_option maxHeartbeats 30000000 in
noncomputable def redoOrder_walk_a_b_cut : RdOrderCut1 (redoOrder_walk_a_cut.p1) := by
  apply RdOrderCut1.mk
  case go =>
    intro K_redoOrder_walk_a_b_c W w L hold l y Av cv x1_1 hcv hl24 HVV HA n hnl hn40 hmin hzs hzc yy hy x1_2 x1_3 b7 x1_4 x1_5 b8 w1 w3 x1_6 x1_7 wr u4 u22 u23 u24 u25 u26 u27 u28 u29 u30 u31 u32 u33 i hi HALL hs hlt hltI
    obtain rfl : i = n := by omega
    have HL20 := Box.mk (fun j (h : j < l.length) (hj : j < i) => HALL.out j h hj)
    have HS := Box.mk (len_range (cmN l) 20 i (fun a ha => cmN_len (by omega) (HALL.out a (by omega) ha)))
    have HT := Box.mk (len_range (fun a => cmN l (turn i yy a)) 20 i (fun a ha => cmN_len (by have := turn_lt (y := yy) ha; omega) (HALL.out _ (by have := turn_lt (y := yy) ha; omega) (turn_lt ha))))
    have HC20 := Box.mk (fun j (hj : j < i) => cmN_len (l := l) (j := j) (by omega) (HALL.out j (by omega) hj))
    clear HALL hlt hi
    generalize hni : i = n at *
    clear hni
    go_wp2_with fail
    go_loopw [10] (fun v10 wr => ∃ (i : Nat) (v7 v8 : Value), i ≤ n ∧ v10 = .int .i64 (i : Nat) ∧ Sat W wr (row b7 (stC (runC ((List.range i).map (cmN l))) v7) 43 :: row b8 (stC (runC ((List.range i).map fun a => cmN l (turn n yy a))) v8) 43 :: own v7 59 (runC ((List.range i).map (cmN l))).L.length 5 (csC (runC ((List.range i).map (cmN l))).L) :: own v8 59 (runC ((List.range i).map fun a => cmN l (turn n yy a))).L.length 5 (csC (runC ((List.range i).map fun a => cmN l (turn n yy a))).L) :: L)) (fun v10 _ => n - (intOf v10).toNat)
    case atStart => exact ⟨0, .slice none 0 0, .slice none 0 0, by omega, rfl, ((hs.addNil none 59 5).addNil none 59 5).pack (L := row b7 [Value.int .i64 0, .int .u32 0, .int .u32 0, .slice none 0 0] 43 :: row b8 [Value.int .i64 0, .int .u32 0, .int .u32 0, .slice none 0 0] 43 :: own (.slice none 0 0) 59 0 5 [] :: own (.slice none 0 0) 59 0 5 [] :: L) (by repeat (first | with_reducible exact Pack.refl | with_reducible exact Pack.nil | with_reducible refine Pack.cons (by repeat (first | with_reducible exact Pick.here | with_reducible apply Pick.there)) ?_ | with_reducible apply Pack.drop))⟩
    case round =>
      rename_i x3_1 x3_2 x3_3 x3_4 x3_5 x3_6
      revert W w L hold l y Av cv x1_1 hcv hl24 HVV HA hzs hzc yy hy x1_2 x1_3 b7 x1_4 x1_5 b8 w1 w3 x1_6 x3_1 u4 u22 u23 u24 u25 u26 u27 u28 u29 u30 u31 u32 u33 i hs n hnl hn40 hmin HL20 HS HT HC20 x3_2 x3_3 x3_4 x3_5 x3_6 hltI wr u10 u11 u34 u35 u36 u37 u38 u39 u40 u41 u42 u43 u44 u45 u46 u47 u48 u49 u50 u51 u52 u53 u54 u55 u56 u57 u58 u59 u60 u61 u62 u63 u64 u65 u66 u67 hrel
      exact K_redoOrder_walk_a_b_c.out
set_option maxRecDepth 100000 in
set_option maxHeartbeats 30000000 in
noncomputable def redoOrder_walk_a_b_c_cut : RdOrderCut2 (redoOrder_walk_a_b_cut.p1) := by
  apply RdOrderCut2.mk
  case go =>
    intro K_redoOrder_walk_a_b_c_d K_redoOrder_walk_a_b_c_e W w L hold l y Av cv x1_1 hcv hl24 HVV HA hzs hzc yy hy x1_2 x1_3 b7 x1_4 x1_5 b8 w1 w3 x1_6 x3_1 u4 u22 u23 u24 u25 u26 u27 u28 u29 u30 u31 u32 u33 i hs n hnl hn40 hmin HL20 HS HT HC20 x3_2 x3_3 x3_4 x3_5 x3_6 hltI wr u10 u11 u34 u35 u36 u37 u38 u39 u40 u41 u42 u43 u44 u45 u46 u47 u48 u49 u50 u51 u52 u53 u54 u55 u56 u57 u58 u59 u60 u61 u62 u63 u64 u65 u66 u67 hrel
    clear hs
    obtain ⟨i, v7, v8, hi, rfl, hs⟩ := hrel
    by_cases hlt : i < n
    · have hltI : (i : Int) < (n : Int) := by omega
      rename_i x4_1 x4_2
      revert W w L hold l y Av cv x1_1 hcv hl24 HVV HA hzs hzc yy hy x1_2 x1_3 b7 x1_4 x1_5 b8 w1 w3 x1_6 x3_1 u4 u22 u23 u24 u25 u26 u27 u28 u29 u30 u31 u32 u33 x4_1 n hnl hn40 hmin HL20 HS HT HC20 x3_2 x3_3 x3_4 x3_5 x3_6 x4_2 wr u11 u34 u35 u36 u37 u38 u39 u40 u41 u42 u43 u44 u45 u46 u47 u48 u49 u50 u51 u52 u53 u54 u55 u56 u57 u58 u59 u60 u61 u62 u63 u64 u65 u66 u67 i v7 v8 hi hs hlt hltI
      exact K_redoOrder_walk_a_b_c_d.out
    · have hltI : ¬ (i : Int) < (n : Int) := by omega
      rename_i x4_1 x4_2
      revert W w L hold l y Av cv x1_1 hcv hl24 HVV HA hzs hzc yy hy x1_2 x1_3 b7 x1_4 x1_5 b8 w1 w3 x1_6 x3_1 u4 u22 u23 u24 u25 u26 u27 u28 u29 u30 u31 u32 u33 x4_1 n hnl hn40 hmin HL20 HS HT HC20 x3_2 x3_3 x3_4 x3_5 x3_6 x4_2 wr u11 u34 u35 u36 u37 u38 u39 u40 u41 u42 u43 u44 u45 u46 u47 u48 u49 u50 u51 u52 u53 u54 u55 u56 u57 u58 u59 u60 u61 u62 u63 u64 u65 u66 u67 i v7 v8 hi hs hlt hltI
      exact K_redoOrder_walk_a_b_c_e.out
set_option maxRecDepth 100000 in
set_option maxHeartbeats 30000000 in
theorem redoOrder_walk_a_b_c_d : redoOrder_walk_a_b_c_cut.p1 := by
  intro W w L hold l y Av cv x1_1 hcv hl24 HVV HA hzs hzc yy hy x1_2 x1_3 b7 x1_4 x1_5 b8 w1 w3 x1_6 x3_1 u4 u22 u23 u24 u25 u26 u27 u28 u29 u30 u31 u32 u33 x4_1 n hnl hn40 hmin HL20 HS HT HC20 x3_2 x3_3 x3_4 x3_5 x3_6 x4_2 wr u11 u34 u35 u36 u37 u38 u39 u40 u41 u42 u43 u44 u45 u46 u47 u48 u49 u50 u51 u52 u53 u54 u55 u56 u57 u58 u59 u60 u61 u62 u63 u64 u65 u66 u67 i v7 v8 hi hs hlt hltI
  have hil : i < l.length := by omega
  have hilI : (i : Int) < (l.length : Int) := by omega
  have hwi : IntKind.i64.wrap ((i : Int) + 1) = (i : Int) + 1 := by rw [IntKind.wrap_i64]; omega
  have hti := turn_int (y := yy) hlt
  have htl := turn_lt (y := yy) hlt
  have hn1 := runC_snoc (cmN l) i
  have hn2 := runC_snoc (fun a => cmN l (turn n yy a)) i
  have hl1 := HS.out i (by omega)
  have hl2 := HT.out i (by omega)
  have hq1 := HC20.out i hlt
  have hq2 := HC20.out (turn n yy i) htl
  try dsimp only at hn2
  generalize hk : turn n yy i = k at *
  clear hk
  have hkl : k < l.length := by omega
  have hklI : (k : Int) < (l.length : Int) := by omega
  obtain ⟨bv, ov, _, Ab, cb, e, hc1, hb1, _⟩ := wss_get HVV.out i hil
  cases e
  obtain ⟨_, _, _, Ak, ck, e, hc2, hb2, _⟩ := wss_get HVV.out k hkl
  cases e
  have hm1 := HL20.out i hil hlt
  have hm2 := HL20.out k hkl htl
  have HT1 := Box.mk (fun (w : World) (L : List HP) (hs : Sat W w L) (hv : Has L (sliceAt (.slice Ab l[i].length cb) l[i].length 4 (wsC l[i]))) => by have := tidy_spec W w L hs ⟨(i : Int) + 1, l[i]⟩ (.slice Ab l[i].length cb) hv (by show l[i].length ≤ _; omega); rw [← cmN_eq hil] at this; exact this)
  have HT2 := Box.mk (fun (w : World) (L : List HP) (hs : Sat W w L) (hv : Has L (sliceAt (.slice Ak l[k].length ck) l[k].length 4 (wsC l[k]))) => by have := tidy_spec W w L hs ⟨(k : Int) + 1, l[k]⟩ (.slice Ak l[k].length ck) hv (by show l[k].length ≤ _; omega); rw [← cmN_eq hkl] at this; exact this)
  have HB1 := Box.mk hb1
  have HB2 := Box.mk hb2
  unfold tidyPost at HT1 HT2
  generalize cmN l i = X1 at *
  generalize cmN l k = X2 at *
  generalize runC ((List.range i).map (cmN l)) = S at *
  generalize runC ((List.range i).map fun a => cmN l (turn n yy a)) = T at *
  have HP1 := Box.mk (fun w (L : List HP) hs v hv vw hvw => apply_spec W w L hs S X1 v vw hv hvw (by omega))
  have HP2 := Box.mk (fun w (L : List HP) hs v hv vw hvw => apply_spec W w L hs T X2 v vw hv hvw (by omega))
  unfold apPost at HP1 HP2
  rw [← hn1] at HP1
  rw [← hn2] at HP2
  generalize hS2 : runC ((List.range (i + 1)).map (cmN l)) = S2 at *
  generalize hT2 : runC ((List.range (i + 1)).map fun a => cmN l (turn n yy a)) = T2 at *
  have HS2 := Box.mk hS2
  have HT2' := Box.mk hT2
  have h54 : ∀ w, oldS W w → w.cell? ⟨bv, ov + i, none⟩ = some (.slice Ab l[i].length cb) := fun w h => h.cell hc1
  have h64 : ∀ w, oldS W w → w.cell? ⟨bv, ov + k, none⟩ = some (.slice Ak l[k].length ck) := fun w h => h.cell hc2
  obtain ⟨A7, c7, rfl, _, _⟩ := own_slice hs (i := 2) rfl
  obtain ⟨A8, c8, rfl, _, _⟩ := own_slice hs (i := 3) rfl
  have hwk : IntKind.i64.wrap ((k : Int) + 1) = (k : Int) + 1 := by rw [IntKind.wrap_i64]; omega
  have hwk2 : IntKind.i64.wrap (k : Int) = (k : Int) := by rw [IntKind.wrap_i64]; omega
  have hw40 : IntKind.i64.wrap ((n : Int) - 1) = (n : Int) - 1 := by rw [IntKind.wrap_i64]; omega
  have hw42 : IntKind.i64.wrap ((n : Int) - 1 - (i : Int)) = (n : Int) - 1 - (i : Int) := by rw [IntKind.wrap_i64]; omega
  have hw44 : IntKind.i64.wrap (yy : Int) = (yy : Int) := by rw [IntKind.wrap_i64]; omega
  have hw45 : IntKind.i64.wrap ((n : Int) - 1 - (i : Int) + (yy : Int)) = (n : Int) - 1 - (i : Int) + (yy : Int) := by rw [IntKind.wrap_i64]; omega
  have hn0 : ¬ (n : Int) = 0 := by omega
  have hn0B : ((n : Int) == 0) = false := by rw [beq_eq_false_iff_ne]; omega
  have hnN : ¬ n = 0 := by omega
  have hnm : ((n : Int) == -1) = false := by rw [beq_eq_false_iff_ne]; omega
  have hnm2 : ¬ (n : Int) = -1 := by omega
  clear hb1 hb2 hc1 hc2 hS2 hT2 hn1 hn2 hl1 hl2 hq1 hq2 hm1 hm2 HS HT HC20 HL20 htl
  go_wp2_with fail
  have hS0 := Sat.oldS hs.drew (by (try dsimp only [List.set]); repeat (first | exact hold | apply List.mem_cons_of_mem))
  refine wp_region_tree ((oldS W)) (.take 1 (.take 2 (.take 3 (.take 4 (.take 5 (.take 6 (.take 7 (.all [(0, .all [(8, .all [(9, .all [(10, DTree.done)])])]), (8, .all [(0, .all [(9, .all [(10, DTree.done)])])])])))))))) (by kernel_rfl) (by kernel_rfl) (by kernel_rfl) (fun _ _ d _ _ h => by cases d <;> exact h) hS0 ?_
  have hs' := hs.drew
  clear hs
  have hs := hs'
  clear hs'
  have hq := fun p : Prop => class_const hS0 p
  clear hS0
  repeat (first
    | (with_reducible refine tree_load (o := ⟨some 54, .load _ _, _, _, _, _⟩) rfl rfl rfl rfl rfl h54 ?_)
    | (refine tree_take rfl (fun K hK => ?_); go_simp; (first | with_reducible refine hK _ ?_ | (rw [if_neg (by decide)]; with_reducible refine hK _ ?_)); clear hK K))
  refine tree_all (trees_cons_yes (o := _) rfl rfl (fun K hK => ?_) (Sat.oldS hs (by (try dsimp only [List.set]); repeat (first | exact hold | apply List.mem_cons_of_mem))) (trees_cons_yes (o := _) rfl rfl (fun K hK => ?_) (Sat.oldS hs (by (try dsimp only [List.set]); repeat (first | exact hold | apply List.mem_cons_of_mem))) trees_nil))
  · refine op_load_agg rfl (b := b7) (i := 0) rfl (stC S (.slice A7 S.L.length c7)) (range_whole hs (show row b7 (stC S (.slice A7 S.L.length c7)) 43 ∈ _ from (by (try dsimp only [List.set]); repeat (first | with_reducible exact List.mem_cons_self | with_reducible apply List.mem_cons_of_mem)))) (by kernel_rfl) (by kernel_rfl) (hK _ _ (Sat.oldS hs (by (try dsimp only [List.set]); repeat (first | exact hold | apply List.mem_cons_of_mem))) ?_)
    clear hK K
    try go_simp
    refine tree_one_yes (o := _) rfl rfl (fun K hK => ?_) (Sat.oldS hs (by (try dsimp only [List.set]); repeat (first | exact hold | apply List.mem_cons_of_mem)))
    try go_simp
    go_at_call 21
    refine (HT1.out _ _ hs (hasW (by (try dsimp only [List.set]); repeat (first | exact hold | apply List.mem_cons_of_mem)) HB1.out)).mono ?_
    clear hs
    rintro e w5 ⟨v56, rfl, hs⟩
    obtain ⟨A56, c56, rfl, _, _⟩ := own_slice hs (i := 0) rfl
    try go_simp
    refine hK _ _ (Sat.oldS hs (by (try dsimp only [List.set]); repeat (first | exact hold | apply List.mem_cons_of_mem))) ?_
    clear hK K
    refine tree_one_yes (o := _) rfl rfl (fun K hK => ?_) (Sat.oldS hs (by (try dsimp only [List.set]); repeat (first | exact hold | apply List.mem_cons_of_mem)))
    try go_simp
    go_at_call 19
    refine (HP1.out _ _ hs (.slice A7 S.L.length c7) (Has.of (A := own (.slice A7 S.L.length c7) 59 S.L.length 5 (csC S.L)) (by (try dsimp only [List.set]); repeat (first | with_reducible exact List.mem_cons_self | with_reducible apply List.mem_cons_of_mem)) own_sliceAt) (.slice A56 X1.W.length c56) (Has.of (A := own (.slice A56 X1.W.length c56) 61 X1.W.length 4 (wsC X1.W)) (by (try dsimp only [List.set]); repeat (first | with_reducible exact List.mem_cons_self | with_reducible apply List.mem_cons_of_mem)) own_sliceAt)).mono ?_
    clear hs
    rintro e w5 ⟨v57, rfl, hs⟩
    obtain ⟨A57, c57, rfl, _, _⟩ := own_slice hs (i := 0) rfl
    try go_simp
    refine hK _ _ (Sat.oldS hs (by (try dsimp only [List.set]); repeat (first | exact hold | apply List.mem_cons_of_mem))) ?_
    clear hK K
    refine tree_one_yes (o := _) rfl rfl (fun K hK => ?_) (Sat.oldS hs (by (try dsimp only [List.set]); repeat (first | exact hold | apply List.mem_cons_of_mem)))
    refine op_store_whole (hs.pick (A := row b7 (stC S (.slice A7 S.L.length c7)) 43) (by repeat (first | with_reducible exact Pick.here | with_reducible apply Pick.there))) (b := b7) rfl rfl (stC S2 (.slice A57 S2.L.length c57)) rfl (by simp [stC, Value.oneCell']) (by kernel_rfl) (k := 0) rfl rfl fun w9 h => hK _ _ (Sat.oldS h (by (try dsimp only [List.set]); repeat (first | exact hold | apply List.mem_cons_of_mem))) ?_
    clear hs hK K
    have hs := h
    clear h
    try dsimp only [List.set] at hs
    try go_simp
    refine tree_done ?_
    clear hq
    go_wp2_with fail
    have hS0 := Sat.oldS hs.drew (by (try dsimp only [List.set]); repeat (first | exact hold | apply List.mem_cons_of_mem))
    refine wp_region_tree ((oldS W)) (.take 1 (.take 2 (.take 3 (.take 4 (.take 5 (.take 6 (.take 7 (.all [(0, .all [(8, .all [(9, .all [(10, DTree.done)])])]), (8, .all [(0, .all [(9, .all [(10, DTree.done)])])])])))))))) (by kernel_rfl) (by kernel_rfl) (by kernel_rfl) (fun _ _ d _ _ h => by cases d <;> exact h) hS0 ?_
    have hs' := hs.drew
    clear hs
    have hs := hs'
    clear hs'
    have hq := fun p : Prop => class_const hS0 p
    clear hS0
    repeat (first
      | (with_reducible refine tree_load (o := ⟨some 64, .load _ _, _, _, _, _⟩) rfl rfl rfl rfl rfl h64 ?_)
      | (refine tree_take rfl (fun K hK => ?_); go_simp; (first | with_reducible refine hK _ ?_ | (rw [if_neg (by decide)]; with_reducible refine hK _ ?_)); clear hK K))
    refine tree_all (trees_cons_yes (o := _) rfl rfl (fun K hK => ?_) (Sat.oldS hs (by (try dsimp only [List.set]); repeat (first | exact hold | apply List.mem_cons_of_mem))) (trees_cons_yes (o := _) rfl rfl (fun K hK => ?_) (Sat.oldS hs (by (try dsimp only [List.set]); repeat (first | exact hold | apply List.mem_cons_of_mem))) trees_nil))
    · refine op_load_agg rfl (b := b8) (i := 0) rfl (stC T (.slice A8 T.L.length c8)) (range_whole hs (show row b8 (stC T (.slice A8 T.L.length c8)) 43 ∈ _ from (by (try dsimp only [List.set]); repeat (first | with_reducible exact List.mem_cons_self | with_reducible apply List.mem_cons_of_mem)))) (by kernel_rfl) (by kernel_rfl) (hK _ _ (Sat.oldS hs (by (try dsimp only [List.set]); repeat (first | exact hold | apply List.mem_cons_of_mem))) ?_)
      clear hK K
      try go_simp
      refine tree_one_yes (o := _) rfl rfl (fun K hK => ?_) (Sat.oldS hs (by (try dsimp only [List.set]); repeat (first | exact hold | apply List.mem_cons_of_mem)))
      try go_simp
      go_at_call 21
      refine (HT2.out _ _ hs (hasW (by (try dsimp only [List.set]); repeat (first | exact hold | apply List.mem_cons_of_mem)) HB2.out)).mono ?_
      clear hs
      rintro e w5 ⟨v66, rfl, hs⟩
      obtain ⟨A66, c66, rfl, _, _⟩ := own_slice hs (i := 0) rfl
      try go_simp
      refine hK _ _ (Sat.oldS hs (by (try dsimp only [List.set]); repeat (first | exact hold | apply List.mem_cons_of_mem))) ?_
      clear hK K
      refine tree_one_yes (o := _) rfl rfl (fun K hK => ?_) (Sat.oldS hs (by (try dsimp only [List.set]); repeat (first | exact hold | apply List.mem_cons_of_mem)))
      try go_simp
      go_at_call 19
      refine (HP2.out _ _ hs (.slice A8 T.L.length c8) (Has.of (A := own (.slice A8 T.L.length c8) 59 T.L.length 5 (csC T.L)) (by (try dsimp only [List.set]); repeat (first | with_reducible exact List.mem_cons_self | with_reducible apply List.mem_cons_of_mem)) own_sliceAt) (.slice A66 X2.W.length c66) (Has.of (A := own (.slice A66 X2.W.length c66) 61 X2.W.length 4 (wsC X2.W)) (by (try dsimp only [List.set]); repeat (first | with_reducible exact List.mem_cons_self | with_reducible apply List.mem_cons_of_mem)) own_sliceAt)).mono ?_
      clear hs
      rintro e w5 ⟨v67, rfl, hs⟩
      obtain ⟨A67, c67, rfl, _, _⟩ := own_slice hs (i := 0) rfl
      try go_simp
      refine hK _ _ (Sat.oldS hs (by (try dsimp only [List.set]); repeat (first | exact hold | apply List.mem_cons_of_mem))) ?_
      clear hK K
      refine tree_one_yes (o := _) rfl rfl (fun K hK => ?_) (Sat.oldS hs (by (try dsimp only [List.set]); repeat (first | exact hold | apply List.mem_cons_of_mem)))
      refine op_store_whole (hs.pick (A := row b8 (stC T (.slice A8 T.L.length c8)) 43) (by repeat (first | with_reducible exact Pick.here | with_reducible apply Pick.there))) (b := b8) rfl rfl (stC T2 (.slice A67 T2.L.length c67)) rfl (by simp [stC, Value.oneCell']) (by kernel_rfl) (k := 0) rfl rfl fun w9 h => hK _ _ (Sat.oldS h (by (try dsimp only [List.set]); repeat (first | exact hold | apply List.mem_cons_of_mem))) ?_
      clear hs hK K
      have hs := h
      clear h
      try dsimp only [List.set] at hs
      try go_simp
      refine tree_done ?_
      clear hq
      go_wp2_with fail
      refine ⟨⟨i + 1, .slice A57 S2.L.length c57, .slice A67 T2.L.length c67, by omega, by go_num, ?_⟩, by simp only [intOf]; omega⟩
      rw [HS2.out, HT2'.out]
      exact hs.pack (L := row b7 (stC S2 (.slice A57 S2.L.length c57)) 43 :: row b8 (stC T2 (.slice A67 T2.L.length c67)) 43 :: own (.slice A57 S2.L.length c57) 59 S2.L.length 5 (csC S2.L) :: own (.slice A67 T2.L.length c67) 59 T2.L.length 5 (csC T2.L) :: L) (by repeat (first | with_reducible exact Pack.refl | with_reducible exact Pack.nil | with_reducible refine Pack.cons (by repeat (first | with_reducible exact Pick.here | with_reducible apply Pick.there)) ?_ | with_reducible apply Pack.drop))
    · try go_simp
      go_at_call 21
      refine (HT2.out _ _ hs (hasW (by (try dsimp only [List.set]); repeat (first | exact hold | apply List.mem_cons_of_mem)) HB2.out)).mono ?_
      clear hs
      rintro e w5 ⟨v66, rfl, hs⟩
      obtain ⟨A66, c66, rfl, _, _⟩ := own_slice hs (i := 0) rfl
      try go_simp
      refine hK _ _ (Sat.oldS hs (by (try dsimp only [List.set]); repeat (first | exact hold | apply List.mem_cons_of_mem))) ?_
      clear hK K
      refine tree_one_yes (o := _) rfl rfl (fun K hK => ?_) (Sat.oldS hs (by (try dsimp only [List.set]); repeat (first | exact hold | apply List.mem_cons_of_mem)))
      refine op_load_agg rfl (b := b8) (i := 0) rfl (stC T (.slice A8 T.L.length c8)) (range_whole hs (show row b8 (stC T (.slice A8 T.L.length c8)) 43 ∈ _ from (by (try dsimp only [List.set]); repeat (first | with_reducible exact List.mem_cons_self | with_reducible apply List.mem_cons_of_mem)))) (by kernel_rfl) (by kernel_rfl) (hK _ _ (Sat.oldS hs (by (try dsimp only [List.set]); repeat (first | exact hold | apply List.mem_cons_of_mem))) ?_)
      clear hK K
      try go_simp
      refine tree_one_yes (o := _) rfl rfl (fun K hK => ?_) (Sat.oldS hs (by (try dsimp only [List.set]); repeat (first | exact hold | apply List.mem_cons_of_mem)))
      try go_simp
      go_at_call 19
      refine (HP2.out _ _ hs (.slice A8 T.L.length c8) (Has.of (A := own (.slice A8 T.L.length c8) 59 T.L.length 5 (csC T.L)) (by (try dsimp only [List.set]); repeat (first | with_reducible exact List.mem_cons_self | with_reducible apply List.mem_cons_of_mem)) own_sliceAt) (.slice A66 X2.W.length c66) (Has.of (A := own (.slice A66 X2.W.length c66) 61 X2.W.length 4 (wsC X2.W)) (by (try dsimp only [List.set]); repeat (first | with_reducible exact List.mem_cons_self | with_reducible apply List.mem_cons_of_mem)) own_sliceAt)).mono ?_
      clear hs
      rintro e w5 ⟨v67, rfl, hs⟩
      obtain ⟨A67, c67, rfl, _, _⟩ := own_slice hs (i := 0) rfl
      try go_simp
      refine hK _ _ (Sat.oldS hs (by (try dsimp only [List.set]); repeat (first | exact hold | apply List.mem_cons_of_mem))) ?_
      clear hK K
      refine tree_one_yes (o := _) rfl rfl (fun K hK => ?_) (Sat.oldS hs (by (try dsimp only [List.set]); repeat (first | exact hold | apply List.mem_cons_of_mem)))
      refine op_store_whole (hs.pick (A := row b8 (stC T (.slice A8 T.L.length c8)) 43) (by repeat (first | with_reducible exact Pick.here | with_reducible apply Pick.there))) (b := b8) rfl rfl (stC T2 (.slice A67 T2.L.length c67)) rfl (by simp [stC, Value.oneCell']) (by kernel_rfl) (k := 0) rfl rfl fun w9 h => hK _ _ (Sat.oldS h (by (try dsimp only [List.set]); repeat (first | exact hold | apply List.mem_cons_of_mem))) ?_
      clear hs hK K
      have hs := h
      clear h
      try dsimp only [List.set] at hs
      try go_simp
      refine tree_done ?_
      clear hq
      go_wp2_with fail
      refine ⟨⟨i + 1, .slice A57 S2.L.length c57, .slice A67 T2.L.length c67, by omega, by go_num, ?_⟩, by simp only [intOf]; omega⟩
      rw [HS2.out, HT2'.out]
      exact hs.pack (L := row b7 (stC S2 (.slice A57 S2.L.length c57)) 43 :: row b8 (stC T2 (.slice A67 T2.L.length c67)) 43 :: own (.slice A57 S2.L.length c57) 59 S2.L.length 5 (csC S2.L) :: own (.slice A67 T2.L.length c67) 59 T2.L.length 5 (csC T2.L) :: L) (by repeat (first | with_reducible exact Pack.refl | with_reducible exact Pack.nil | with_reducible refine Pack.cons (by repeat (first | with_reducible exact Pick.here | with_reducible apply Pick.there)) ?_ | with_reducible apply Pack.drop))
  · try go_simp
    go_at_call 21
    refine (HT1.out _ _ hs (hasW (by (try dsimp only [List.set]); repeat (first | exact hold | apply List.mem_cons_of_mem)) HB1.out)).mono ?_
    clear hs
    rintro e w5 ⟨v56, rfl, hs⟩
    obtain ⟨A56, c56, rfl, _, _⟩ := own_slice hs (i := 0) rfl
    try go_simp
    refine hK _ _ (Sat.oldS hs (by (try dsimp only [List.set]); repeat (first | exact hold | apply List.mem_cons_of_mem))) ?_
    clear hK K
    refine tree_one_yes (o := _) rfl rfl (fun K hK => ?_) (Sat.oldS hs (by (try dsimp only [List.set]); repeat (first | exact hold | apply List.mem_cons_of_mem)))
    refine op_load_agg rfl (b := b7) (i := 0) rfl (stC S (.slice A7 S.L.length c7)) (range_whole hs (show row b7 (stC S (.slice A7 S.L.length c7)) 43 ∈ _ from (by (try dsimp only [List.set]); repeat (first | with_reducible exact List.mem_cons_self | with_reducible apply List.mem_cons_of_mem)))) (by kernel_rfl) (by kernel_rfl) (hK _ _ (Sat.oldS hs (by (try dsimp only [List.set]); repeat (first | exact hold | apply List.mem_cons_of_mem))) ?_)
    clear hK K
    try go_simp
    refine tree_one_yes (o := _) rfl rfl (fun K hK => ?_) (Sat.oldS hs (by (try dsimp only [List.set]); repeat (first | exact hold | apply List.mem_cons_of_mem)))
    try go_simp
    go_at_call 19
    refine (HP1.out _ _ hs (.slice A7 S.L.length c7) (Has.of (A := own (.slice A7 S.L.length c7) 59 S.L.length 5 (csC S.L)) (by (try dsimp only [List.set]); repeat (first | with_reducible exact List.mem_cons_self | with_reducible apply List.mem_cons_of_mem)) own_sliceAt) (.slice A56 X1.W.length c56) (Has.of (A := own (.slice A56 X1.W.length c56) 61 X1.W.length 4 (wsC X1.W)) (by (try dsimp only [List.set]); repeat (first | with_reducible exact List.mem_cons_self | with_reducible apply List.mem_cons_of_mem)) own_sliceAt)).mono ?_
    clear hs
    rintro e w5 ⟨v57, rfl, hs⟩
    obtain ⟨A57, c57, rfl, _, _⟩ := own_slice hs (i := 0) rfl
    try go_simp
    refine hK _ _ (Sat.oldS hs (by (try dsimp only [List.set]); repeat (first | exact hold | apply List.mem_cons_of_mem))) ?_
    clear hK K
    refine tree_one_yes (o := _) rfl rfl (fun K hK => ?_) (Sat.oldS hs (by (try dsimp only [List.set]); repeat (first | exact hold | apply List.mem_cons_of_mem)))
    refine op_store_whole (hs.pick (A := row b7 (stC S (.slice A7 S.L.length c7)) 43) (by repeat (first | with_reducible exact Pick.here | with_reducible apply Pick.there))) (b := b7) rfl rfl (stC S2 (.slice A57 S2.L.length c57)) rfl (by simp [stC, Value.oneCell']) (by kernel_rfl) (k := 0) rfl rfl fun w9 h => hK _ _ (Sat.oldS h (by (try dsimp only [List.set]); repeat (first | exact hold | apply List.mem_cons_of_mem))) ?_
    clear hs hK K
    have hs := h
    clear h
    try dsimp only [List.set] at hs
    try go_simp
    refine tree_done ?_
    clear hq
    go_wp2_with fail
    have hS0 := Sat.oldS hs.drew (by (try dsimp only [List.set]); repeat (first | exact hold | apply List.mem_cons_of_mem))
    refine wp_region_tree ((oldS W)) (.take 1 (.take 2 (.take 3 (.take 4 (.take 5 (.take 6 (.take 7 (.all [(0, .all [(8, .all [(9, .all [(10, DTree.done)])])]), (8, .all [(0, .all [(9, .all [(10, DTree.done)])])])])))))))) (by kernel_rfl) (by kernel_rfl) (by kernel_rfl) (fun _ _ d _ _ h => by cases d <;> exact h) hS0 ?_
    have hs' := hs.drew
    clear hs
    have hs := hs'
    clear hs'
    have hq := fun p : Prop => class_const hS0 p
    clear hS0
    repeat (first
      | (with_reducible refine tree_load (o := ⟨some 64, .load _ _, _, _, _, _⟩) rfl rfl rfl rfl rfl h64 ?_)
      | (refine tree_take rfl (fun K hK => ?_); go_simp; (first | with_reducible refine hK _ ?_ | (rw [if_neg (by decide)]; with_reducible refine hK _ ?_)); clear hK K))
    refine tree_all (trees_cons_yes (o := _) rfl rfl (fun K hK => ?_) (Sat.oldS hs (by (try dsimp only [List.set]); repeat (first | exact hold | apply List.mem_cons_of_mem))) (trees_cons_yes (o := _) rfl rfl (fun K hK => ?_) (Sat.oldS hs (by (try dsimp only [List.set]); repeat (first | exact hold | apply List.mem_cons_of_mem))) trees_nil))
    · refine op_load_agg rfl (b := b8) (i := 0) rfl (stC T (.slice A8 T.L.length c8)) (range_whole hs (show row b8 (stC T (.slice A8 T.L.length c8)) 43 ∈ _ from (by (try dsimp only [List.set]); repeat (first | with_reducible exact List.mem_cons_self | with_reducible apply List.mem_cons_of_mem)))) (by kernel_rfl) (by kernel_rfl) (hK _ _ (Sat.oldS hs (by (try dsimp only [List.set]); repeat (first | exact hold | apply List.mem_cons_of_mem))) ?_)
      clear hK K
      try go_simp
      refine tree_one_yes (o := _) rfl rfl (fun K hK => ?_) (Sat.oldS hs (by (try dsimp only [List.set]); repeat (first | exact hold | apply List.mem_cons_of_mem)))
      try go_simp
      go_at_call 21
      refine (HT2.out _ _ hs (hasW (by (try dsimp only [List.set]); repeat (first | exact hold | apply List.mem_cons_of_mem)) HB2.out)).mono ?_
      clear hs
      rintro e w5 ⟨v66, rfl, hs⟩
      obtain ⟨A66, c66, rfl, _, _⟩ := own_slice hs (i := 0) rfl
      try go_simp
      refine hK _ _ (Sat.oldS hs (by (try dsimp only [List.set]); repeat (first | exact hold | apply List.mem_cons_of_mem))) ?_
      clear hK K
      refine tree_one_yes (o := _) rfl rfl (fun K hK => ?_) (Sat.oldS hs (by (try dsimp only [List.set]); repeat (first | exact hold | apply List.mem_cons_of_mem)))
      try go_simp
      go_at_call 19
      refine (HP2.out _ _ hs (.slice A8 T.L.length c8) (Has.of (A := own (.slice A8 T.L.length c8) 59 T.L.length 5 (csC T.L)) (by (try dsimp only [List.set]); repeat (first | with_reducible exact List.mem_cons_self | with_reducible apply List.mem_cons_of_mem)) own_sliceAt) (.slice A66 X2.W.length c66) (Has.of (A := own (.slice A66 X2.W.length c66) 61 X2.W.length 4 (wsC X2.W)) (by (try dsimp only [List.set]); repeat (first | with_reducible exact List.mem_cons_self | with_reducible apply List.mem_cons_of_mem)) own_sliceAt)).mono ?_
      clear hs
      rintro e w5 ⟨v67, rfl, hs⟩
      obtain ⟨A67, c67, rfl, _, _⟩ := own_slice hs (i := 0) rfl
      try go_simp
      refine hK _ _ (Sat.oldS hs (by (try dsimp only [List.set]); repeat (first | exact hold | apply List.mem_cons_of_mem))) ?_
      clear hK K
      refine tree_one_yes (o := _) rfl rfl (fun K hK => ?_) (Sat.oldS hs (by (try dsimp only [List.set]); repeat (first | exact hold | apply List.mem_cons_of_mem)))
      refine op_store_whole (hs.pick (A := row b8 (stC T (.slice A8 T.L.length c8)) 43) (by repeat (first | with_reducible exact Pick.here | with_reducible apply Pick.there))) (b := b8) rfl rfl (stC T2 (.slice A67 T2.L.length c67)) rfl (by simp [stC, Value.oneCell']) (by kernel_rfl) (k := 0) rfl rfl fun w9 h => hK _ _ (Sat.oldS h (by (try dsimp only [List.set]); repeat (first | exact hold | apply List.mem_cons_of_mem))) ?_
      clear hs hK K
      have hs := h
      clear h
      try dsimp only [List.set] at hs
      try go_simp
      refine tree_done ?_
      clear hq
      go_wp2_with fail
      refine ⟨⟨i + 1, .slice A57 S2.L.length c57, .slice A67 T2.L.length c67, by omega, by go_num, ?_⟩, by simp only [intOf]; omega⟩
      rw [HS2.out, HT2'.out]
      exact hs.pack (L := row b7 (stC S2 (.slice A57 S2.L.length c57)) 43 :: row b8 (stC T2 (.slice A67 T2.L.length c67)) 43 :: own (.slice A57 S2.L.length c57) 59 S2.L.length 5 (csC S2.L) :: own (.slice A67 T2.L.length c67) 59 T2.L.length 5 (csC T2.L) :: L) (by repeat (first | with_reducible exact Pack.refl | with_reducible exact Pack.nil | with_reducible refine Pack.cons (by repeat (first | with_reducible exact Pick.here | with_reducible apply Pick.there)) ?_ | with_reducible apply Pack.drop))
    · try go_simp
      go_at_call 21
      refine (HT2.out _ _ hs (hasW (by (try dsimp only [List.set]); repeat (first | exact hold | apply List.mem_cons_of_mem)) HB2.out)).mono ?_
      clear hs
      rintro e w5 ⟨v66, rfl, hs⟩
      obtain ⟨A66, c66, rfl, _, _⟩ := own_slice hs (i := 0) rfl
      try go_simp
      refine hK _ _ (Sat.oldS hs (by (try dsimp only [List.set]); repeat (first | exact hold | apply List.mem_cons_of_mem))) ?_
      clear hK K
      refine tree_one_yes (o := _) rfl rfl (fun K hK => ?_) (Sat.oldS hs (by (try dsimp only [List.set]); repeat (first | exact hold | apply List.mem_cons_of_mem)))
      refine op_load_agg rfl (b := b8) (i := 0) rfl (stC T (.slice A8 T.L.length c8)) (range_whole hs (show row b8 (stC T (.slice A8 T.L.length c8)) 43 ∈ _ from (by (try dsimp only [List.set]); repeat (first | with_reducible exact List.mem_cons_self | with_reducible apply List.mem_cons_of_mem)))) (by kernel_rfl) (by kernel_rfl) (hK _ _ (Sat.oldS hs (by (try dsimp only [List.set]); repeat (first | exact hold | apply List.mem_cons_of_mem))) ?_)
      clear hK K
      try go_simp
      refine tree_one_yes (o := _) rfl rfl (fun K hK => ?_) (Sat.oldS hs (by (try dsimp only [List.set]); repeat (first | exact hold | apply List.mem_cons_of_mem)))
      try go_simp
      go_at_call 19
      refine (HP2.out _ _ hs (.slice A8 T.L.length c8) (Has.of (A := own (.slice A8 T.L.length c8) 59 T.L.length 5 (csC T.L)) (by (try dsimp only [List.set]); repeat (first | with_reducible exact List.mem_cons_self | with_reducible apply List.mem_cons_of_mem)) own_sliceAt) (.slice A66 X2.W.length c66) (Has.of (A := own (.slice A66 X2.W.length c66) 61 X2.W.length 4 (wsC X2.W)) (by (try dsimp only [List.set]); repeat (first | with_reducible exact List.mem_cons_self | with_reducible apply List.mem_cons_of_mem)) own_sliceAt)).mono ?_
      clear hs
      rintro e w5 ⟨v67, rfl, hs⟩
      obtain ⟨A67, c67, rfl, _, _⟩ := own_slice hs (i := 0) rfl
      try go_simp
      refine hK _ _ (Sat.oldS hs (by (try dsimp only [List.set]); repeat (first | exact hold | apply List.mem_cons_of_mem))) ?_
      clear hK K
      refine tree_one_yes (o := _) rfl rfl (fun K hK => ?_) (Sat.oldS hs (by (try dsimp only [List.set]); repeat (first | exact hold | apply List.mem_cons_of_mem)))
      refine op_store_whole (hs.pick (A := row b8 (stC T (.slice A8 T.L.length c8)) 43) (by repeat (first | with_reducible exact Pick.here | with_reducible apply Pick.there))) (b := b8) rfl rfl (stC T2 (.slice A67 T2.L.length c67)) rfl (by simp [stC, Value.oneCell']) (by kernel_rfl) (k := 0) rfl rfl fun w9 h => hK _ _ (Sat.oldS h (by (try dsimp only [List.set]); repeat (first | exact hold | apply List.mem_cons_of_mem))) ?_
      clear hs hK K
      have hs := h
      clear h
      try dsimp only [List.set] at hs
      try go_simp
      refine tree_done ?_
      clear hq
      go_wp2_with fail
      refine ⟨⟨i + 1, .slice A57 S2.L.length c57, .slice A67 T2.L.length c67, by omega, by go_num, ?_⟩, by simp only [intOf]; omega⟩
      rw [HS2.out, HT2'.out]
      exact hs.pack (L := row b7 (stC S2 (.slice A57 S2.L.length c57)) 43 :: row b8 (stC T2 (.slice A67 T2.L.length c67)) 43 :: own (.slice A57 S2.L.length c57) 59 S2.L.length 5 (csC S2.L) :: own (.slice A67 T2.L.length c67) 59 T2.L.length 5 (csC T2.L) :: L) (by repeat (first | with_reducible exact Pack.refl | with_reducible exact Pack.nil | with_reducible refine Pack.cons (by repeat (first | with_reducible exact Pick.here | with_reducible apply Pick.there)) ?_ | with_reducible apply Pack.drop))
set_option maxRecDepth 100000 in
set_option maxHeartbeats 30000000 in
noncomputable def redoOrder_walk_a_b_c_e_cut : RdOrderCut1 (redoOrder_walk_a_b_c_cut.p2) := by
  apply RdOrderCut1.mk
  case go =>
    intro K_redoOrder_walk_a_b_c_e_f W w L hold l y Av cv x1_1 hcv hl24 HVV HA hzs hzc yy hy x1_2 x1_3 b7 x1_4 x1_5 b8 w1 w3 x1_6 x3_1 u4 u22 u23 u24 u25 u26 u27 u28 u29 u30 u31 u32 u33 x4_1 n hnl hn40 hmin HL20 HS HT HC20 x3_2 x3_3 x3_4 x3_5 x3_6 x4_2 wr u11 u34 u35 u36 u37 u38 u39 u40 u41 u42 u43 u44 u45 u46 u47 u48 u49 u50 u51 u52 u53 u54 u55 u56 u57 u58 u59 u60 u61 u62 u63 u64 u65 u66 u67 i v7 v8 hi hs hlt hltI
    obtain rfl : i = n := by omega
    obtain ⟨o1, o2, o3⟩ := order_law l i yy
    have hSl := HS.out i (Nat.le_refl _)
    rw [← o1] at hs
    generalize runC ((List.range i).map (cmN l)) = S at *
    have HO3 := Box.mk o3
    have hlast : S.last = (i : Nat) := o2
    clear o1 o2 o3 HS HT hlt hi
    obtain ⟨A7, c7, rfl, _, _⟩ := own_slice hs (i := 2) rfl
    obtain ⟨A8, c8, rfl, _, _⟩ := own_slice hs (i := 3) rfl
    generalize hni : i = n at *
    clear hni
    have HRS := Box.mk (fun w (L : List HP) hs v hv => real_spec W w L hs S v hv (by omega))
    have HSM := Box.mk (fun w (L : List HP) hs u v hu hv => rsame_spec W w L hs S u v hu hv (by omega))
    have HLA := Box.mk hlast
    clear hlast
    go_wp2_with fail
    go_loopw [12] (fun v12 wr => ∃ i : Nat, i ≤ S.L.length ∧ v12 = .int .i64 (i : Nat) ∧ Sat W wr (row b7 (stC S (.slice A7 S.L.length c7)) 43 :: row b8 (stC S (.slice A8 S.L.length c8)) 43 :: own (.slice A7 S.L.length c7) 59 S.L.length 5 (csC S.L) :: own (.slice A8 S.L.length c8) 59 S.L.length 5 (csC S.L) :: L)) (fun v12 _ => S.L.length - (intOf v12).toNat)
    case atStart => exact ⟨0, by omega, rfl, hs⟩
    case round =>
      rename_i x5_1 x5_2 x5_3 x5_4 x5_5 x5_6 x5_7 x5_8 x5_9 x5_10 x5_11
      revert W w L hold l y Av cv x1_1 hcv hl24 HVV HA hzs hzc yy hy x1_2 x1_3 b7 x1_4 x1_5 b8 w1 w3 x1_6 x3_1 x5_1 u22 u23 u24 u25 u26 u27 u28 u29 u30 u31 u32 u33 x4_1 x3_3 x3_5 x5_2 u11 u34 u35 u36 u37 u38 u39 u40 u41 u42 u43 u44 u45 u46 u47 u48 u49 u50 u51 u52 u53 u54 u55 u56 u57 u58 u59 u60 u61 u62 u63 u64 u65 u66 u67 i x3_2 x3_4 S A7 c7 x5_3 x5_4 A8 c8 hs x5_5 x5_6 n hnl hn40 hmin HL20 HC20 x4_2 hSl HO3 HRS HSM HLA x5_7 x5_8 x5_9 x5_10 x5_11 hltI wr u4 u12 u13 u14 u15 u68 u69 u70 u71 u72 u73 u74 u75 u76 u77 u78 u79 u80 u81 u82 u83 u84 u85 u86 u87 u88 u89 u90 u91 u92 u93 u94 u95 u96 u97 u98 u99 u100 u101 u102 u103 u104 u105 u106 u107 u108 u109 u110 u111 u112 u113 u114 u115 u116 u117 u118 u119 u120 u121 u122 u123 u124 u125 u126 u127 u128 u129 u130 u131 u132 u133 hrel
      exact K_redoOrder_walk_a_b_c_e_f.out
set_option maxRecDepth 100000 in
set_option maxHeartbeats 30000000 in
noncomputable def redoOrder_walk_a_b_c_e_f_cut : RdOrderCut3 (redoOrder_walk_a_b_c_e_cut.p1) := by
  apply RdOrderCut3.mk
  case go =>
    intro K_redoOrder_walk_a_b_c_e_f_h K_redoOrder_walk_a_b_c_e_f_h_2 K_redoOrder_walk_a_b_c_e_f_g W w L hold l y Av cv x1_1 hcv hl24 HVV HA hzs hzc yy hy x1_2 x1_3 b7 x1_4 x1_5 b8 w1 w3 x1_6 x3_1 x5_1 u22 u23 u24 u25 u26 u27 u28 u29 u30 u31 u32 u33 x4_1 x3_3 x3_5 x5_2 u11 u34 u35 u36 u37 u38 u39 u40 u41 u42 u43 u44 u45 u46 u47 u48 u49 u50 u51 u52 u53 u54 u55 u56 u57 u58 u59 u60 u61 u62 u63 u64 u65 u66 u67 i x3_2 x3_4 S A7 c7 x5_3 x5_4 A8 c8 hs x5_5 x5_6 n hnl hn40 hmin HL20 HC20 x4_2 hSl HO3 HRS HSM HLA x5_7 x5_8 x5_9 x5_10 x5_11 hltI wr u4 u12 u13 u14 u15 u68 u69 u70 u71 u72 u73 u74 u75 u76 u77 u78 u79 u80 u81 u82 u83 u84 u85 u86 u87 u88 u89 u90 u91 u92 u93 u94 u95 u96 u97 u98 u99 u100 u101 u102 u103 u104 u105 u106 u107 u108 u109 u110 u111 u112 u113 u114 u115 u116 u117 u118 u119 u120 u121 u122 u123 u124 u125 u126 u127 u128 u129 u130 u131 u132 u133 hrel
    clear hs
    obtain ⟨i, hi, rfl, hs⟩ := hrel
    by_cases hlt : i < S.L.length
    · have hltI : (i : Int) < (S.L.length : Int) := by omega
      have hwi : IntKind.i64.wrap ((i : Int) + 1) = (i : Int) + 1 := by rw [IntKind.wrap_i64]; omega
      obtain ⟨j, hj, hcts, hmem⟩ := HO3.out S.L[i] (List.getElem_mem hlt)
      obtain ⟨ba, ca', e, _, _⟩ := own_formR hs (v := .slice A7 S.L.length c7) (e := 59) (n := S.L.length) (sz := 5) (vs := csC S.L) (by (try dsimp only [List.set]); repeat (first | with_reducible exact List.mem_cons_self | with_reducible apply List.mem_cons_of_mem)) (by omega)
      cases e
      have HRC := Box.mk (fun w (M : List HP) (h : Sat W w M) (hm : own (.slice (some ⟨ba, 0, none⟩) S.L.length c7) 59 S.L.length 5 (csC S.L) ∈ M) => own_partR cC 5 cC_length h hm i hlt)
      have hjl : j < l.length := by omega
      have hjlI : (j : Int) < (l.length : Int) := by omega
      obtain ⟨bv, ov, _, Ab, cb, e, hc1, hb1, _⟩ := wss_get HVV.out j hjl
      cases e
      have hm1 := HL20.out j hjl hj
      have HT1 := Box.mk (fun (w : World) (L : List HP) (hs : Sat W w L) (hv : Has L (sliceAt (.slice Ab l[j].length cb) l[j].length 4 (wsC l[j]))) => by have := tidy_spec W w L hs ⟨(j : Int) + 1, l[j]⟩ (.slice Ab l[j].length cb) hv (by show l[j].length ≤ _; omega); rw [← cmN_eq hjl] at this; exact this)
      have HB1 := Box.mk hb1
      unfold tidyPost at HT1
      have hfd := foundW_of hmem
      have hCl := HC20.out j hj
      have h91 : ∀ w, oldS W w → w.cell? ⟨bv, ov + j, none⟩ = some (.slice Ab l[j].length cb) := fun w h => h.cell hc1
      generalize cmN l j = C at *
      have hts : S.L[i].ts = (j : Int) + 1 := by rw [hcts]; omega
      have HCT : Box (∀ w M, Sat W w M → own (.slice (some ⟨ba, 0, none⟩) S.L.length c7) 59 S.L.length 5 (csC S.L) ∈ M → w.cell? ⟨ba, i * 5 + 3, none⟩ = some (.int .i64 ((j : Int) + 1))) := ⟨fun w M h hm => by rw [← hts]; exact HRC.out w M h hm 3 _ rfl⟩
      generalize S.L[i] = c at HRC hfd
      have HFD := Box.mk hfd
      have hmx : max ((j : Int) + 1) 1 = (j : Int) + 1 := by omega
      have hws : IntKind.i64.wrap ((j : Int) + 1 - 1) = (j : Int) := by rw [IntKind.wrap_i64]; omega
      have hws2 : IntKind.i64.wrap (j : Int) = (j : Int) := by rw [IntKind.wrap_i64]; omega
      clear hcts hmem hfd hts hm1 hb1 hc1 HO3
      go_wp2_with (first
        | (guard_target = wpList _ _ _ (⟨some 70, .load _ _, _, _, _, _⟩ :: _) _ _; refine wpl (o := ⟨some 70, .load _ _, _, _, _, _⟩) rfl fun K hK => op_load rfl (ad := ⟨b7, 3, none⟩) rfl (by kernel_rfl) (hs.cell (l := stC S (.slice (some ⟨ba, 0, none⟩) S.L.length c7)) (t := 43) (by (try dsimp only [List.set]); repeat (first | with_reducible exact List.mem_cons_self | with_reducible apply List.mem_cons_of_mem)) rfl) (hK _ _ ?_); clear hK K))
      have cS : ∀ w M, Sat W w M → old W ∈ M → row b7 (stC S (.slice (some ⟨ba, 0, none⟩) S.L.length c7)) 43 ∈ M → own (.slice (some ⟨ba, 0, none⟩) S.L.length c7) 59 S.L.length 5 (csC S.L) ∈ M → (or19S W b7 (.slice (some ⟨ba, 0, none⟩) S.L.length c7) ba (i * 5 + 3) ((j : Int) + 1)) w := fun w M h h1 h2 h3 => ⟨h.oldS h1, h.cell h2 rfl, HCT.out w M h h3⟩
      have h76 : ∀ w, (or19S W b7 (.slice (some ⟨ba, 0, none⟩) S.L.length c7) ba (i * 5 + 3) ((j : Int) + 1)) w → w.cell? ⟨b7, 3, none⟩ = some (.slice (some ⟨ba, 0, none⟩) S.L.length c7) := fun w h => h.2.1
      have h80 : ∀ w, (or19S W b7 (.slice (some ⟨ba, 0, none⟩) S.L.length c7) ba (i * 5 + 3) ((j : Int) + 1)) w → w.cell? ⟨ba, i * 5 + 3, none⟩ = some (.int .i64 ((j : Int) + 1)) := fun w h => h.2.2
      have g91 : ∀ w, (or19S W b7 (.slice (some ⟨ba, 0, none⟩) S.L.length c7) ba (i * 5 + 3) ((j : Int) + 1)) w → w.cell? ⟨bv, ov + j, none⟩ = some (.slice Ab l[j].length cb) := fun w h => h91 w h.1
      have hS0 := cS _ _ hs.drew (by (try dsimp only [List.set]); repeat (first | exact hold | apply List.mem_cons_of_mem)) (by (try dsimp only [List.set]); repeat (first | with_reducible exact List.mem_cons_self | with_reducible apply List.mem_cons_of_mem)) (by (try dsimp only [List.set]); repeat (first | with_reducible exact List.mem_cons_self | with_reducible apply List.mem_cons_of_mem))
      refine wp_region_tree ((or19S W b7 (.slice (some ⟨ba, 0, none⟩) S.L.length c7) ba (i * 5 + 3) ((j : Int) + 1))) (.take 0 (.take 1 (.take 2 (.take 3 (.take 4 (.take 5 (.take 6 (.take 7 (.take 8 (.take 9 (.take 10 (.take 11 (.take 12 (.take 13 (.take 14 (.take 15 (.take 16 (.take 17 (.all [(18, .all [(19, .all [(20, DTree.done)])]), (19, .all [(18, .all [(20, DTree.done)])])]))))))))))))))))))) (by kernel_rfl) (by kernel_rfl) (by kernel_rfl) (fun _ _ d _ _ h => by cases d <;> exact h) hS0 ?_
      have hs' := hs.drew
      clear hs
      have hs := hs'
      clear hs'
      have hq := fun p : Prop => class_const hS0 p
      clear hS0
      repeat (first
        | (with_reducible refine tree_load (o := ⟨some 76, .load _ _, _, _, _, _⟩) rfl rfl rfl rfl rfl h76 ?_)
        | (with_reducible refine tree_load (o := ⟨some 80, .load _ _, _, _, _, _⟩) rfl rfl rfl rfl rfl h80 ?_)
        | (with_reducible refine tree_load (o := ⟨some 83, .load _ _, _, _, _, _⟩) rfl rfl rfl rfl rfl h76 ?_)
        | (with_reducible refine tree_load (o := ⟨some 87, .load _ _, _, _, _, _⟩) rfl rfl rfl rfl rfl h80 ?_)
        | (with_reducible refine tree_load (o := ⟨some 91, .load _ _, _, _, _, _⟩) rfl rfl rfl rfl rfl g91 ?_)
        | (refine tree_take rfl (fun K hK => ?_); go_simp; (first | with_reducible refine hK _ ?_ | (rw [if_neg (by decide)]; with_reducible refine hK _ ?_)); clear hK K))
      refine tree_all (trees_cons_yes (o := _) rfl rfl (fun K hK => ?_) (cS _ _ hs (by (try dsimp only [List.set]); repeat (first | exact hold | apply List.mem_cons_of_mem)) (by (try dsimp only [List.set]); repeat (first | with_reducible exact List.mem_cons_self | with_reducible apply List.mem_cons_of_mem)) (by (try dsimp only [List.set]); repeat (first | with_reducible exact List.mem_cons_self | with_reducible apply List.mem_cons_of_mem))) (trees_cons_yes (o := _) rfl rfl (fun K hK => ?_) (cS _ _ hs (by (try dsimp only [List.set]); repeat (first | exact hold | apply List.mem_cons_of_mem)) (by (try dsimp only [List.set]); repeat (first | with_reducible exact List.mem_cons_self | with_reducible apply List.mem_cons_of_mem)) (by (try dsimp only [List.set]); repeat (first | with_reducible exact List.mem_cons_self | with_reducible apply List.mem_cons_of_mem))) trees_nil))
      · try go_simp
        go_at_call 21
        refine (HT1.out _ _ hs (hasW (by (try dsimp only [List.set]); repeat (first | exact hold | apply List.mem_cons_of_mem)) HB1.out)).mono ?_
        clear hs
        rintro e w5 ⟨v93, rfl, hs⟩
        obtain ⟨A93, c93, rfl, _, _⟩ := own_slice hs (i := 0) rfl
        try go_simp
        refine hK _ _ (cS _ _ hs (by (try dsimp only [List.set]); repeat (first | exact hold | apply List.mem_cons_of_mem)) (by (try dsimp only [List.set]); repeat (first | with_reducible exact List.mem_cons_self | with_reducible apply List.mem_cons_of_mem)) (by (try dsimp only [List.set]); repeat (first | with_reducible exact List.mem_cons_self | with_reducible apply List.mem_cons_of_mem))) ?_
        clear hK K
        refine tree_one_yes (o := _) rfl rfl (fun K hK => ?_) (cS _ _ hs (by (try dsimp only [List.set]); repeat (first | exact hold | apply List.mem_cons_of_mem)) (by (try dsimp only [List.set]); repeat (first | with_reducible exact List.mem_cons_self | with_reducible apply List.mem_cons_of_mem)) (by (try dsimp only [List.set]); repeat (first | with_reducible exact List.mem_cons_self | with_reducible apply List.mem_cons_of_mem)))
        refine op_alloc hs rfl _ zcommit' [Value.int .i64 0, .slice none 0 0] rfl fun b13 w1 h => hK _ _ (cS _ _ h (by (try dsimp only [List.set]); repeat (first | exact hold | apply List.mem_cons_of_mem)) (by (try dsimp only [List.set]); repeat (first | with_reducible exact List.mem_cons_self | with_reducible apply List.mem_cons_of_mem)) (by (try dsimp only [List.set]); repeat (first | with_reducible exact List.mem_cons_self | with_reducible apply List.mem_cons_of_mem))) ?_
        clear hs hK K
        have hs := h
        clear h
        try dsimp only [List.set] at hs
        try go_simp
        refine tree_one_yes (o := _) rfl rfl (fun K hK => ?_) (cS _ _ hs (by (try dsimp only [List.set]); repeat (first | exact hold | apply List.mem_cons_of_mem)) (by (try dsimp only [List.set]); repeat (first | with_reducible exact List.mem_cons_self | with_reducible apply List.mem_cons_of_mem)) (by (try dsimp only [List.set]); repeat (first | with_reducible exact List.mem_cons_self | with_reducible apply List.mem_cons_of_mem)))
        refine op_store_whole (hs.pick (A := row b13 [Value.int .i64 0, .slice none 0 0] 24) (by repeat (first | with_reducible exact Pick.here | with_reducible apply Pick.there))) (b := b13) rfl rfl (cmC C (.slice A93 C.W.length c93)) rfl (by simp [cmC, Value.oneCell']) (by kernel_rfl) (k := 0) rfl rfl fun w9 h => hK _ _ (cS _ _ h (by (try dsimp only [List.set]); repeat (first | exact hold | apply List.mem_cons_of_mem)) (by (try dsimp only [List.set]); repeat (first | with_reducible exact List.mem_cons_self | with_reducible apply List.mem_cons_of_mem)) (by (try dsimp only [List.set]); repeat (first | with_reducible exact List.mem_cons_self | with_reducible apply List.mem_cons_of_mem))) ?_
        clear hs hK K
        have hs := h
        clear h
        try dsimp only [List.set] at hs
        try go_simp
        refine tree_done ?_
        clear hq cS h76 h80 g91
        go_wp2_with fail
        go_loopw [14, 15] (fun v14 v15 wr => ∃ p : Nat, p ≤ C.W.length ∧ v14 = .bool (foundW c (C.W.take p)) ∧ v15 = .int .i64 (p : Nat) ∧ Sat W wr (row b13 (cmC C (.slice A93 C.W.length c93)) 24 :: own (.slice A93 C.W.length c93) 61 C.W.length 4 (wsC C.W) :: row b7 (stC S (.slice (some ⟨ba, 0, none⟩) S.L.length c7)) 43 :: row b8 (stC S (.slice A8 S.L.length c8)) 43 :: own (.slice (some ⟨ba, 0, none⟩) S.L.length c7) 59 S.L.length 5 (csC S.L) :: own (.slice A8 S.L.length c8) 59 S.L.length 5 (csC S.L) :: L)) (fun _ v15 _ => C.W.length - (intOf v15).toNat)
        case atStart => exact ⟨0, by omega, rfl, rfl, hs.pack (L := row b13 (cmC C (.slice A93 C.W.length c93)) 24 :: own (.slice A93 C.W.length c93) 61 C.W.length 4 (wsC C.W) :: row b7 (stC S (.slice (some ⟨ba, 0, none⟩) S.L.length c7)) 43 :: row b8 (stC S (.slice A8 S.L.length c8)) 43 :: own (.slice (some ⟨ba, 0, none⟩) S.L.length c7) 59 S.L.length 5 (csC S.L) :: own (.slice A8 S.L.length c8) 59 S.L.length 5 (csC S.L) :: L) (by repeat (first | with_reducible exact Pack.refl | with_reducible exact Pack.nil | with_reducible refine Pack.cons (by repeat (first | with_reducible exact Pick.here | with_reducible apply Pick.there)) ?_ | with_reducible apply Pack.drop))⟩
        case round =>
          rename_i x6_1 x6_2 x6_3 x6_4 x6_5 x6_6 x6_7 x6_8 x6_9 x6_10 x6_11 x6_12 x6_13 x6_14 x6_15 x6_16 x6_17 x6_18 x6_19 x6_20 x6_21 x6_22 x6_23 x6_24 x6_25 x6_26 x6_27 x6_28 x6_29 x6_30 x6_31 x6_32 x6_33 x6_34 x6_35 x6_36 x6_37 x6_38 x6_39 x6_40 x6_41 x6_42 x6_43 x6_44 x6_45 x6_46 x6_47 x6_48 x6_49 x6_50 x6_51 x6_52 x6_53 x6_54
          revert W w L hold l y cv x1_1 hcv hl24 HA hzs hzc yy hy x1_2 x1_3 b7 x1_4 x1_5 b8 x6_1 w3 x1_6 x3_1 x5_1 u22 u23 u24 u25 u26 u27 u28 u29 u30 u31 u32 u33 x4_1 x3_3 x3_5 x5_2 u11 u34 u35 u36 u37 u38 u39 u40 u41 u42 u43 u44 u45 u46 u47 u48 u49 u50 u51 u52 u53 u54 u55 u56 u57 u58 u59 u60 u61 u62 u63 u64 u65 u66 u67 x6_2 S c7 x5_3 x5_4 A8 c8 x5_5 x5_6 n hnl hn40 hmin HL20 HC20 x4_2 hSl HRS HSM HLA x5_8 x5_10 x5_11 x6_3 x6_4 u4 u13 x6_5 x6_6 u68 u69 u70 u71 u72 u73 u74 u75 u76 u77 u78 u79 u80 u81 u82 u83 u84 u85 u86 u87 u88 u89 u90 u91 u92 u93 x6_7 x6_8 x6_9 x6_10 x6_11 x6_12 x6_13 x6_14 x6_15 x6_16 x6_17 x6_18 x6_19 x6_20 x6_21 x6_22 x6_23 x6_24 x6_25 x6_26 x6_27 x6_28 x6_29 x6_30 x6_31 x6_32 x6_33 x6_34 x6_35 x6_36 x6_37 x6_38 x6_39 x6_40 x6_41 x6_42 x6_43 x6_44 u132 u133 i hi hlt hltI hwi j hj ba x6_45 x6_46 hjl hjlI bv ov Ab cb x6_47 HVV x3_2 x3_4 x5_7 x5_9 HB1 h91 C HT1 hCl HCT c HRC HFD hmx hws hws2 x6_48 x6_49 x6_50 w5 A93 c93 x6_51 x6_52 b13 w1 w9 hs x6_53 x6_54 wr u14 u15 u94 u95 u96 u97 u98 u99 u100 u101 u102 u103 u104 u105 u106 u107 u108 u109 u110 u111 u112 u113 u114 u115 u116 u117 u118 u119 u120 u121 u122 u123 u124 u125 u126 u127 u128 u129 u130 u131 hrel
          exact K_redoOrder_walk_a_b_c_e_f_h.out
      · refine op_alloc hs rfl _ zcommit' [Value.int .i64 0, .slice none 0 0] rfl fun b13 w1 h => hK _ _ (cS _ _ h (by (try dsimp only [List.set]); repeat (first | exact hold | apply List.mem_cons_of_mem)) (by (try dsimp only [List.set]); repeat (first | with_reducible exact List.mem_cons_self | with_reducible apply List.mem_cons_of_mem)) (by (try dsimp only [List.set]); repeat (first | with_reducible exact List.mem_cons_self | with_reducible apply List.mem_cons_of_mem))) ?_
        clear hs hK K
        have hs := h
        clear h
        try dsimp only [List.set] at hs
        try go_simp
        refine tree_one_yes (o := _) rfl rfl (fun K hK => ?_) (cS _ _ hs (by (try dsimp only [List.set]); repeat (first | exact hold | apply List.mem_cons_of_mem)) (by (try dsimp only [List.set]); repeat (first | with_reducible exact List.mem_cons_self | with_reducible apply List.mem_cons_of_mem)) (by (try dsimp only [List.set]); repeat (first | with_reducible exact List.mem_cons_self | with_reducible apply List.mem_cons_of_mem)))
        try go_simp
        go_at_call 21
        refine (HT1.out _ _ hs (hasW (by (try dsimp only [List.set]); repeat (first | exact hold | apply List.mem_cons_of_mem)) HB1.out)).mono ?_
        clear hs
        rintro e w5 ⟨v93, rfl, hs⟩
        obtain ⟨A93, c93, rfl, _, _⟩ := own_slice hs (i := 0) rfl
        try go_simp
        refine hK _ _ (cS _ _ hs (by (try dsimp only [List.set]); repeat (first | exact hold | apply List.mem_cons_of_mem)) (by (try dsimp only [List.set]); repeat (first | with_reducible exact List.mem_cons_self | with_reducible apply List.mem_cons_of_mem)) (by (try dsimp only [List.set]); repeat (first | with_reducible exact List.mem_cons_self | with_reducible apply List.mem_cons_of_mem))) ?_
        clear hK K
        refine tree_one_yes (o := _) rfl rfl (fun K hK => ?_) (cS _ _ hs (by (try dsimp only [List.set]); repeat (first | exact hold | apply List.mem_cons_of_mem)) (by (try dsimp only [List.set]); repeat (first | with_reducible exact List.mem_cons_self | with_reducible apply List.mem_cons_of_mem)) (by (try dsimp only [List.set]); repeat (first | with_reducible exact List.mem_cons_self | with_reducible apply List.mem_cons_of_mem)))
        refine op_store_whole (hs.pick (A := row b13 [Value.int .i64 0, .slice none 0 0] 24) (by repeat (first | with_reducible exact Pick.here | with_reducible apply Pick.there))) (b := b13) rfl rfl (cmC C (.slice A93 C.W.length c93)) rfl (by simp [cmC, Value.oneCell']) (by kernel_rfl) (k := 0) rfl rfl fun w9 h => hK _ _ (cS _ _ h (by (try dsimp only [List.set]); repeat (first | exact hold | apply List.mem_cons_of_mem)) (by (try dsimp only [List.set]); repeat (first | with_reducible exact List.mem_cons_self | with_reducible apply List.mem_cons_of_mem)) (by (try dsimp only [List.set]); repeat (first | with_reducible exact List.mem_cons_self | with_reducible apply List.mem_cons_of_mem))) ?_
        clear hs hK K
        have hs := h
        clear h
        try dsimp only [List.set] at hs
        try go_simp
        refine tree_done ?_
        clear hq cS h76 h80 g91
        go_wp2_with fail
        go_loopw [14, 15] (fun v14 v15 wr => ∃ p : Nat, p ≤ C.W.length ∧ v14 = .bool (foundW c (C.W.take p)) ∧ v15 = .int .i64 (p : Nat) ∧ Sat W wr (row b13 (cmC C (.slice A93 C.W.length c93)) 24 :: own (.slice A93 C.W.length c93) 61 C.W.length 4 (wsC C.W) :: row b7 (stC S (.slice (some ⟨ba, 0, none⟩) S.L.length c7)) 43 :: row b8 (stC S (.slice A8 S.L.length c8)) 43 :: own (.slice (some ⟨ba, 0, none⟩) S.L.length c7) 59 S.L.length 5 (csC S.L) :: own (.slice A8 S.L.length c8) 59 S.L.length 5 (csC S.L) :: L)) (fun _ v15 _ => C.W.length - (intOf v15).toNat)
        case atStart => exact ⟨0, by omega, rfl, rfl, hs.pack (L := row b13 (cmC C (.slice A93 C.W.length c93)) 24 :: own (.slice A93 C.W.length c93) 61 C.W.length 4 (wsC C.W) :: row b7 (stC S (.slice (some ⟨ba, 0, none⟩) S.L.length c7)) 43 :: row b8 (stC S (.slice A8 S.L.length c8)) 43 :: own (.slice (some ⟨ba, 0, none⟩) S.L.length c7) 59 S.L.length 5 (csC S.L) :: own (.slice A8 S.L.length c8) 59 S.L.length 5 (csC S.L) :: L) (by repeat (first | with_reducible exact Pack.refl | with_reducible exact Pack.nil | with_reducible refine Pack.cons (by repeat (first | with_reducible exact Pick.here | with_reducible apply Pick.there)) ?_ | with_reducible apply Pack.drop))⟩
        case round =>
          rename_i x6_1 x6_2 x6_3 x6_4 x6_5 x6_6 x6_7 x6_8 x6_9 x6_10 x6_11 x6_12 x6_13 x6_14 x6_15 x6_16 x6_17 x6_18 x6_19 x6_20 x6_21 x6_22 x6_23 x6_24 x6_25 x6_26 x6_27 x6_28 x6_29 x6_30 x6_31 x6_32 x6_33 x6_34 x6_35 x6_36 x6_37 x6_38 x6_39 x6_40 x6_41 x6_42 x6_43 x6_44 x6_45 x6_46 x6_47 x6_48 x6_49 x6_50 x6_51 x6_52 x6_53 x6_54
          revert W w L hold l y cv x1_1 hcv hl24 HA hzs hzc yy hy x1_2 x1_3 b7 x1_4 x1_5 b8 x6_1 w3 x1_6 x3_1 x5_1 u22 u23 u24 u25 u26 u27 u28 u29 u30 u31 u32 u33 x4_1 x3_3 x3_5 x5_2 u11 u34 u35 u36 u37 u38 u39 u40 u41 u42 u43 u44 u45 u46 u47 u48 u49 u50 u51 u52 u53 u54 u55 u56 u57 u58 u59 u60 u61 u62 u63 u64 u65 u66 u67 x6_2 S c7 x5_3 x5_4 A8 c8 x5_5 x5_6 n hnl hn40 hmin HL20 HC20 x4_2 hSl HRS HSM HLA x5_8 x5_10 x5_11 x6_3 x6_4 u4 u13 x6_5 x6_6 u68 u69 u70 u71 u72 u73 u74 u75 u76 u77 u78 u79 u80 u81 u82 u83 u84 u85 u86 u87 u88 u89 u90 u91 u92 u93 x6_7 x6_8 x6_9 x6_10 x6_11 x6_12 x6_13 x6_14 x6_15 x6_16 x6_17 x6_18 x6_19 x6_20 x6_21 x6_22 x6_23 x6_24 x6_25 x6_26 x6_27 x6_28 x6_29 x6_30 x6_31 x6_32 x6_33 x6_34 x6_35 x6_36 x6_37 x6_38 x6_39 x6_40 x6_41 x6_42 x6_43 x6_44 u132 u133 i hi hlt hltI hwi j hj ba x6_45 x6_46 hjl hjlI bv ov Ab cb x6_47 HVV x3_2 x3_4 x5_7 x5_9 HB1 h91 C HT1 hCl HCT c HRC HFD hmx hws hws2 x6_48 x6_49 x6_50 b13 w1 w5 A93 c93 x6_51 x6_52 w9 hs x6_53 x6_54 wr u14 u15 u94 u95 u96 u97 u98 u99 u100 u101 u102 u103 u104 u105 u106 u107 u108 u109 u110 u111 u112 u113 u114 u115 u116 u117 u118 u119 u120 u121 u122 u123 u124 u125 u126 u127 u128 u129 u130 u131 hrel
          exact K_redoOrder_walk_a_b_c_e_f_h_2.out
    · have hltI : ¬ (i : Int) < (S.L.length : Int) := by omega
      rename_i x6_1 x6_2
      revert W w L hold l y Av cv x1_1 hcv hl24 HVV HA hzs hzc yy hy x1_2 x1_3 b7 x1_4 x1_5 b8 w1 w3 x1_6 x3_1 x5_1 u22 u23 u24 u25 u26 u27 u28 u29 u30 u31 u32 u33 x4_1 x3_3 x3_5 x5_2 u11 u34 u35 u36 u37 u38 u39 u40 u41 u42 u43 u44 u45 u46 u47 u48 u49 u50 u51 u52 u53 u54 u55 u56 u57 u58 u59 u60 u61 u62 u63 u64 u65 u66 u67 x6_1 x3_2 x3_4 S A7 c7 x5_3 x5_4 A8 c8 x5_5 x5_6 n hnl hn40 hmin HL20 HC20 x4_2 hSl HO3 HRS HSM HLA x5_7 x5_8 x5_9 x5_10 x5_11 x6_2 wr u4 u13 u14 u15 u68 u69 u70 u71 u72 u73 u74 u75 u76 u77 u78 u79 u80 u81 u82 u83 u84 u85 u86 u87 u88 u89 u90 u91 u92 u93 u94 u95 u96 u97 u98 u99 u100 u101 u102 u103 u104 u105 u106 u107 u108 u109 u110 u111 u112 u113 u114 u115 u116 u117 u118 u119 u120 u121 u122 u123 u124 u125 u126 u127 u128 u129 u130 u131 u132 u133 i hi hs hlt hltI
      exact K_redoOrder_walk_a_b_c_e_f_g.out
set_option maxRecDepth 100000 in
set_option maxHeartbeats 30000000 in
theorem redoOrder_walk_a_b_c_e_f_h : redoOrder_walk_a_b_c_e_f_cut.p1 := by
  intro W w L hold l y cv x1_1 hcv hl24 HA hzs hzc yy hy x1_2 x1_3 b7 x1_4 x1_5 b8 x6_1 w3 x1_6 x3_1 x5_1 u22 u23 u24 u25 u26 u27 u28 u29 u30 u31 u32 u33 x4_1 x3_3 x3_5 x5_2 u11 u34 u35 u36 u37 u38 u39 u40 u41 u42 u43 u44 u45 u46 u47 u48 u49 u50 u51 u52 u53 u54 u55 u56 u57 u58 u59 u60 u61 u62 u63 u64 u65 u66 u67 x6_2 S c7 x5_3 x5_4 A8 c8 x5_5 x5_6 n hnl hn40 hmin HL20 HC20 x4_2 hSl HRS HSM HLA x5_8 x5_10 x5_11 x6_3 x6_4 u4 u13 x6_5 x6_6 u68 u69 u70 u71 u72 u73 u74 u75 u76 u77 u78 u79 u80 u81 u82 u83 u84 u85 u86 u87 u88 u89 u90 u91 u92 u93 x6_7 x6_8 x6_9 x6_10 x6_11 x6_12 x6_13 x6_14 x6_15 x6_16 x6_17 x6_18 x6_19 x6_20 x6_21 x6_22 x6_23 x6_24 x6_25 x6_26 x6_27 x6_28 x6_29 x6_30 x6_31 x6_32 x6_33 x6_34 x6_35 x6_36 x6_37 x6_38 x6_39 x6_40 x6_41 x6_42 x6_43 x6_44 u132 u133 i hi hlt hltI hwi j hj ba x6_45 x6_46 hjl hjlI bv ov Ab cb x6_47 HVV x3_2 x3_4 x5_7 x5_9 HB1 h91 C HT1 hCl HCT c HRC HFD hmx hws hws2 x6_48 x6_49 x6_50 w5 A93 c93 x6_51 x6_52 b13 w1 w9 hs x6_53 x6_54 wr u14 u15 u94 u95 u96 u97 u98 u99 u100 u101 u102 u103 u104 u105 u106 u107 u108 u109 u110 u111 u112 u113 u114 u115 u116 u117 u118 u119 u120 u121 u122 u123 u124 u125 u126 u127 u128 u129 u130 u131 hrel
  clear hs
  obtain ⟨p, hp, rfl, rfl, hs⟩ := hrel
  by_cases hpt : p < C.W.length
  · have hptI : (p : Int) < (C.W.length : Int) := by omega
    have hwp : IntKind.i64.wrap ((p : Int) + 1) = (p : Int) + 1 := by rw [IntKind.wrap_i64]; omega
    obtain ⟨bw, cw', e, _, _⟩ := own_formR hs (v := .slice A93 C.W.length c93) (e := 61) (n := C.W.length) (sz := 4) (vs := wsC C.W) (by (try dsimp only [List.set]); repeat (first | with_reducible exact List.mem_cons_self | with_reducible apply List.mem_cons_of_mem)) (by omega)
    cases e
    have HRX := Box.mk (fun w (M : List HP) (h : Sat W w M) (hm : own (.slice (some ⟨bw, 0, none⟩) C.W.length c93) 61 C.W.length 4 (wsC C.W) ∈ M) => own_partR wC 4 wC_length h hm p hpt)
    have hsn := foundW_snoc c C.W p hpt
    generalize C.W[p] = x at HRX hsn
    obtain ⟨q, hq1⟩ : ∃ q, foundW c (C.W.take p) = q := ⟨_, rfl⟩
    rw [hq1] at hsn ⊢
    unfold hitW at hsn
    obtain ⟨qk, hqk⟩ : ∃ q, keySame x.k c.k = q := ⟨_, rfl⟩
    obtain ⟨qv, hqv⟩ : ∃ q, (x.v == c.v) = q := ⟨_, rfl⟩
    rw [hqk, hqv] at hsn
    have heq : ∀ w, (Op.equalIn 10000 57 (.agg (kC x.k).toArray) (.agg (kC c.k).toArray)).run Tryd.prog w = .ok qk w := fun w => by rw [run_equal_key, hqk]
    have HSN := Box.mk hsn
    clear hsn hq1 hqk
    have cI : ∀ w M, Sat W w M → row b13 (cmC C (.slice (some ⟨bw, 0, none⟩) C.W.length c93)) 24 ∈ M → own (.slice (some ⟨bw, 0, none⟩) C.W.length c93) 61 C.W.length 4 (wsC C.W) ∈ M → row b7 (stC S (.slice (some ⟨ba, 0, none⟩) S.L.length c7)) 43 ∈ M → own (.slice (some ⟨ba, 0, none⟩) S.L.length c7) 59 S.L.length 5 (csC S.L) ∈ M → (ordS b13 (.slice (some ⟨bw, 0, none⟩) C.W.length c93) bw (p * 4) (wC x) b7 (.slice (some ⟨ba, 0, none⟩) S.L.length c7) ba (i * 5) (cC c)) w := fun w M h h1 h2 h3 h4 => ⟨h.cell h1 rfl, HRX.out w M h h2, h.cell h3 rfl, HRC.out w M h h4⟩
    have h104 : ∀ w, (ordS b13 (.slice (some ⟨bw, 0, none⟩) C.W.length c93) bw (p * 4) (wC x) b7 (.slice (some ⟨ba, 0, none⟩) S.L.length c7) ba (i * 5) (cC c)) w → w.cell? ⟨b13, 1, none⟩ = some (.slice (some ⟨bw, 0, none⟩) C.W.length c93) := fun w h => h.1
    have h108 : ∀ w, (ordS b13 (.slice (some ⟨bw, 0, none⟩) C.W.length c93) bw (p * 4) (wC x) b7 (.slice (some ⟨ba, 0, none⟩) S.L.length c7) ba (i * 5) (cC c)) w → w.rangeAt bw (p * 4) (kC x.k) := fun w h => range_pre (ds := [(.string ⟨(x.v).toArray⟩)]) h.2.1
    have h110 : ∀ w, (ordS b13 (.slice (some ⟨bw, 0, none⟩) C.W.length c93) bw (p * 4) (wC x) b7 (.slice (some ⟨ba, 0, none⟩) S.L.length c7) ba (i * 5) (cC c)) w → w.cell? ⟨b7, 3, none⟩ = some (.slice (some ⟨ba, 0, none⟩) S.L.length c7) := fun w h => h.2.2.1
    have h114 : ∀ w, (ordS b13 (.slice (some ⟨bw, 0, none⟩) C.W.length c93) bw (p * 4) (wC x) b7 (.slice (some ⟨ba, 0, none⟩) S.L.length c7) ba (i * 5) (cC c)) w → w.rangeAt ba (i * 5) (kC c.k) := fun w h => range_pre (ds := [.int .i64 c.ts, (.string ⟨(c.v).toArray⟩)]) h.2.2.2
    have h122 : ∀ w, (ordS b13 (.slice (some ⟨bw, 0, none⟩) C.W.length c93) bw (p * 4) (wC x) b7 (.slice (some ⟨ba, 0, none⟩) S.L.length c7) ba (i * 5) (cC c)) w → w.cell? ⟨bw, p * 4 + 3, none⟩ = some (.string ⟨(x.v).toArray⟩) := fun w h => h.2.1 3 _ rfl
    have h128 : ∀ w, (ordS b13 (.slice (some ⟨bw, 0, none⟩) C.W.length c93) bw (p * 4) (wC x) b7 (.slice (some ⟨ba, 0, none⟩) S.L.length c7) ba (i * 5) (cC c)) w → w.cell? ⟨ba, i * 5 + 4, none⟩ = some (.string ⟨(c.v).toArray⟩) := fun w h => h.2.2.2 4 _ rfl
    go_wp2_with (first
      | (guard_target = wpList _ _ _ (⟨some 96, .load _ _, _, _, _, _⟩ :: _) _ _; refine wpl (o := ⟨some 96, .load _ _, _, _, _, _⟩) rfl fun K hK => op_load rfl (ad := ⟨b13, 1, none⟩) rfl (by kernel_rfl) (hs.cell (l := cmC C (.slice (some ⟨bw, 0, none⟩) C.W.length c93)) (t := 24) (by (try dsimp only [List.set]); repeat (first | with_reducible exact List.mem_cons_self | with_reducible apply List.mem_cons_of_mem)) rfl) (hK _ _ ?_); clear hK K))
    cases q with
    | true =>
        clear hqv heq HRX
        have hS0 := cI _ _ hs.drew (by (try dsimp only [List.set]); repeat (first | with_reducible exact List.mem_cons_self | with_reducible apply List.mem_cons_of_mem)) (by (try dsimp only [List.set]); repeat (first | with_reducible exact List.mem_cons_self | with_reducible apply List.mem_cons_of_mem)) (by (try dsimp only [List.set]); repeat (first | with_reducible exact List.mem_cons_self | with_reducible apply List.mem_cons_of_mem)) (by (try dsimp only [List.set]); repeat (first | with_reducible exact List.mem_cons_self | with_reducible apply List.mem_cons_of_mem))
        refine wp_region_tree ((ordS b13 (.slice (some ⟨bw, 0, none⟩) C.W.length c93) bw (p * 4) (wC x) b7 (.slice (some ⟨ba, 0, none⟩) S.L.length c7) ba (i * 5) (cC c))) (.take 0 (.take 1 (.take 2 (.take 3 (.take 4 (.take 5 (.take 6 (.take 7 (.take 8 (.take 9 (.take 10 (.take 11 (.take 12 (.take 13 (.take 14 (.take 15 (.take 16 (.take 17 (.take 18 (.take 19 (.take 20 (.take 21 (.take 22 (.take 23 (.take 24 (.take 25 (.take 26 (.take 27 (.take 28 (.take 29 (.take 30 (.take 31 (DTree.done))))))))))))))))))))))))))))))))) (by kernel_rfl) (by kernel_rfl) (by kernel_rfl) (fun _ _ d _ _ h => by cases d <;> exact h) hS0 ?_
        have hs' := hs.drew
        clear hs
        have hs := hs'
        clear hs'
        have hq := fun p : Prop => class_const hS0 p
        clear hS0
        repeat (first
          | ((with_reducible refine tree_skip (o := ⟨some 103, _, _, _, _, _⟩) rfl ?_ ?_); (kernel_rfl))
          | ((with_reducible refine tree_skip (o := ⟨some 104, _, _, _, _, _⟩) rfl ?_ ?_); (kernel_rfl))
          | ((with_reducible refine tree_skip (o := ⟨some 105, _, _, _, _, _⟩) rfl ?_ ?_); (kernel_rfl))
          | ((with_reducible refine tree_skip (o := ⟨some 106, _, _, _, _, _⟩) rfl ?_ ?_); (kernel_rfl))
          | ((with_reducible refine tree_skip (o := ⟨some 107, _, _, _, _, _⟩) rfl ?_ ?_); (kernel_rfl))
          | ((with_reducible refine tree_skip (o := ⟨some 108, _, _, _, _, _⟩) rfl ?_ ?_); (kernel_rfl))
          | ((with_reducible refine tree_skip (o := ⟨some 109, _, _, _, _, _⟩) rfl ?_ ?_); (kernel_rfl))
          | ((with_reducible refine tree_skip (o := ⟨some 110, _, _, _, _, _⟩) rfl ?_ ?_); (kernel_rfl))
          | ((with_reducible refine tree_skip (o := ⟨some 111, _, _, _, _, _⟩) rfl ?_ ?_); (kernel_rfl))
          | ((with_reducible refine tree_skip (o := ⟨some 112, _, _, _, _, _⟩) rfl ?_ ?_); (kernel_rfl))
          | ((with_reducible refine tree_skip (o := ⟨some 113, _, _, _, _, _⟩) rfl ?_ ?_); (kernel_rfl))
          | ((with_reducible refine tree_skip (o := ⟨some 114, _, _, _, _, _⟩) rfl ?_ ?_); (kernel_rfl))
          | ((with_reducible refine tree_skip (o := ⟨some 115, _, _, _, _, _⟩) rfl ?_ ?_); (kernel_rfl))
          | ((with_reducible refine tree_skip (o := ⟨some 116, _, _, _, _, _⟩) rfl ?_ ?_); (kernel_rfl))
          | ((with_reducible refine tree_skip (o := ⟨some 117, _, _, _, _, _⟩) rfl ?_ ?_); (kernel_rfl))
          | ((with_reducible refine tree_skip (o := ⟨some 118, _, _, _, _, _⟩) rfl ?_ ?_); (kernel_rfl))
          | ((with_reducible refine tree_skip (o := ⟨some 119, _, _, _, _, _⟩) rfl ?_ ?_); (kernel_rfl))
          | ((with_reducible refine tree_skip (o := ⟨some 120, _, _, _, _, _⟩) rfl ?_ ?_); (kernel_rfl))
          | ((with_reducible refine tree_skip (o := ⟨some 121, _, _, _, _, _⟩) rfl ?_ ?_); (kernel_rfl))
          | ((with_reducible refine tree_skip (o := ⟨some 122, _, _, _, _, _⟩) rfl ?_ ?_); (kernel_rfl))
          | ((with_reducible refine tree_skip (o := ⟨some 123, _, _, _, _, _⟩) rfl ?_ ?_); (kernel_rfl))
          | ((with_reducible refine tree_skip (o := ⟨some 124, _, _, _, _, _⟩) rfl ?_ ?_); (kernel_rfl))
          | ((with_reducible refine tree_skip (o := ⟨some 125, _, _, _, _, _⟩) rfl ?_ ?_); (kernel_rfl))
          | ((with_reducible refine tree_skip (o := ⟨some 126, _, _, _, _, _⟩) rfl ?_ ?_); (kernel_rfl))
          | ((with_reducible refine tree_skip (o := ⟨some 127, _, _, _, _, _⟩) rfl ?_ ?_); (kernel_rfl))
          | ((with_reducible refine tree_skip (o := ⟨some 128, _, _, _, _, _⟩) rfl ?_ ?_); (kernel_rfl))
          | ((with_reducible refine tree_skip (o := ⟨some 129, _, _, _, _, _⟩) rfl ?_ ?_); (kernel_rfl))
          | ((with_reducible refine tree_skip (o := ⟨some 130, _, _, _, _, _⟩) rfl ?_ ?_); (kernel_rfl))
          | (refine tree_take rfl (fun K hK => ?_); go_simp; (first | with_reducible refine hK _ ?_ | (rw [if_neg (by decide)]; with_reducible refine hK _ ?_)); clear hK K))
        refine tree_done ?_
        clear hq
        go_wp2_with fail
        exact ⟨⟨p + 1, by omega, by rw [HSN.out]; rfl, by go_num, hs⟩, by simp only [intOf]; omega⟩
    | false =>
      cases qk with
      | false =>
          clear hqv
          have hS0 := cI _ _ hs.drew (by (try dsimp only [List.set]); repeat (first | with_reducible exact List.mem_cons_self | with_reducible apply List.mem_cons_of_mem)) (by (try dsimp only [List.set]); repeat (first | with_reducible exact List.mem_cons_self | with_reducible apply List.mem_cons_of_mem)) (by (try dsimp only [List.set]); repeat (first | with_reducible exact List.mem_cons_self | with_reducible apply List.mem_cons_of_mem)) (by (try dsimp only [List.set]); repeat (first | with_reducible exact List.mem_cons_self | with_reducible apply List.mem_cons_of_mem))
          refine wp_region_tree ((ordS b13 (.slice (some ⟨bw, 0, none⟩) C.W.length c93) bw (p * 4) (wC x) b7 (.slice (some ⟨ba, 0, none⟩) S.L.length c7) ba (i * 5) (cC c))) (.take 0 (.take 1 (.take 2 (.take 3 (.take 4 (.take 5 (.take 6 (.take 7 (.take 8 (.take 9 (.take 10 (.take 11 (.take 12 (.take 13 (.take 14 (.take 15 (.take 16 (.take 17 (.take 18 (.take 19 (.take 20 (.take 21 (.take 22 (.take 23 (.take 24 (.take 25 (.take 26 (.take 27 (.take 28 (.take 29 (.take 30 (.take 31 (DTree.done))))))))))))))))))))))))))))))))) (by kernel_rfl) (by kernel_rfl) (by kernel_rfl) (fun _ _ d _ _ h => by cases d <;> exact h) hS0 ?_
          have hs' := hs.drew
          clear hs
          have hs := hs'
          clear hs'
          have hq := fun p : Prop => class_const hS0 p
          clear hS0
          repeat (first
            | ((with_reducible refine tree_skip (o := ⟨some 117, _, _, _, _, _⟩) rfl ?_ ?_); (kernel_rfl))
            | ((with_reducible refine tree_skip (o := ⟨some 118, _, _, _, _, _⟩) rfl ?_ ?_); (kernel_rfl))
            | ((with_reducible refine tree_skip (o := ⟨some 119, _, _, _, _, _⟩) rfl ?_ ?_); (kernel_rfl))
            | ((with_reducible refine tree_skip (o := ⟨some 120, _, _, _, _, _⟩) rfl ?_ ?_); (kernel_rfl))
            | ((with_reducible refine tree_skip (o := ⟨some 121, _, _, _, _, _⟩) rfl ?_ ?_); (kernel_rfl))
            | ((with_reducible refine tree_skip (o := ⟨some 122, _, _, _, _, _⟩) rfl ?_ ?_); (kernel_rfl))
            | ((with_reducible refine tree_skip (o := ⟨some 123, _, _, _, _, _⟩) rfl ?_ ?_); (kernel_rfl))
            | ((with_reducible refine tree_skip (o := ⟨some 124, _, _, _, _, _⟩) rfl ?_ ?_); (kernel_rfl))
            | ((with_reducible refine tree_skip (o := ⟨some 125, _, _, _, _, _⟩) rfl ?_ ?_); (kernel_rfl))
            | ((with_reducible refine tree_skip (o := ⟨some 126, _, _, _, _, _⟩) rfl ?_ ?_); (kernel_rfl))
            | ((with_reducible refine tree_skip (o := ⟨some 127, _, _, _, _, _⟩) rfl ?_ ?_); (kernel_rfl))
            | ((with_reducible refine tree_skip (o := ⟨some 128, _, _, _, _, _⟩) rfl ?_ ?_); (kernel_rfl))
            | ((with_reducible refine tree_skip (o := ⟨some 129, _, _, _, _, _⟩) rfl ?_ ?_); (kernel_rfl))
            | (with_reducible refine tree_load (o := ⟨some 104, .load _ _, _, _, _, _⟩) rfl rfl rfl rfl rfl h104 ?_)
            | (with_reducible refine tree_load_agg (o := ⟨some 108, .load _ _, _, _, _, _⟩) (kC x.k) rfl rfl rfl rfl ?_ ?_ h108 ?_; (kernel_rfl); (kernel_rfl))
            | (with_reducible refine tree_load (o := ⟨some 110, .load _ _, _, _, _, _⟩) rfl rfl rfl rfl rfl h110 ?_)
            | (with_reducible refine tree_load_agg (o := ⟨some 114, .load _ _, _, _, _, _⟩) (kC c.k) rfl rfl rfl rfl ?_ ?_ h114 ?_; (kernel_rfl); (kernel_rfl))
            | (refine tree_take rfl (fun K hK => ?_); go_simp; (first | with_reducible refine hK _ ?_ | (rw [if_neg (by decide)]; with_reducible refine hK _ ?_)); clear hK K))
          refine tree_done ?_
          clear hq
          go_wp2_with fail
          exact ⟨⟨p + 1, by omega, by rw [HSN.out]; rfl, by go_num, hs⟩, by simp only [intOf]; omega⟩
      | true =>
          skip
          have hS0 := cI _ _ hs.drew (by (try dsimp only [List.set]); repeat (first | with_reducible exact List.mem_cons_self | with_reducible apply List.mem_cons_of_mem)) (by (try dsimp only [List.set]); repeat (first | with_reducible exact List.mem_cons_self | with_reducible apply List.mem_cons_of_mem)) (by (try dsimp only [List.set]); repeat (first | with_reducible exact List.mem_cons_self | with_reducible apply List.mem_cons_of_mem)) (by (try dsimp only [List.set]); repeat (first | with_reducible exact List.mem_cons_self | with_reducible apply List.mem_cons_of_mem))
          refine wp_region_tree ((ordS b13 (.slice (some ⟨bw, 0, none⟩) C.W.length c93) bw (p * 4) (wC x) b7 (.slice (some ⟨ba, 0, none⟩) S.L.length c7) ba (i * 5) (cC c))) (.take 0 (.take 1 (.take 2 (.take 3 (.take 4 (.take 5 (.take 6 (.take 7 (.take 8 (.take 9 (.take 10 (.take 11 (.take 12 (.take 13 (.take 14 (.take 15 (.take 16 (.take 17 (.take 18 (.take 19 (.take 20 (.take 21 (.take 22 (.take 23 (.take 24 (.take 25 (.take 26 (.take 27 (.take 28 (.take 29 (.take 30 (.take 31 (DTree.done))))))))))))))))))))))))))))))))) (by kernel_rfl) (by kernel_rfl) (by kernel_rfl) (fun _ _ d _ _ h => by cases d <;> exact h) hS0 ?_
          have hs' := hs.drew
          clear hs
          have hs := hs'
          clear hs'
          have hq := fun p : Prop => class_const hS0 p
          clear hS0
          repeat (first
            | ((with_reducible refine tree_skip (o := ⟨some 0, _, _, _, _, _⟩) rfl ?_ ?_); (kernel_rfl))
            | (with_reducible refine tree_load (o := ⟨some 104, .load _ _, _, _, _, _⟩) rfl rfl rfl rfl rfl h104 ?_)
            | (with_reducible refine tree_load_agg (o := ⟨some 108, .load _ _, _, _, _, _⟩) (kC x.k) rfl rfl rfl rfl ?_ ?_ h108 ?_; (kernel_rfl); (kernel_rfl))
            | (with_reducible refine tree_load (o := ⟨some 110, .load _ _, _, _, _, _⟩) rfl rfl rfl rfl rfl h110 ?_)
            | (with_reducible refine tree_load_agg (o := ⟨some 114, .load _ _, _, _, _, _⟩) (kC c.k) rfl rfl rfl rfl ?_ ?_ h114 ?_; (kernel_rfl); (kernel_rfl))
            | (with_reducible refine tree_load (o := ⟨some 118, .load _ _, _, _, _, _⟩) rfl rfl rfl rfl rfl h104 ?_)
            | (with_reducible refine tree_load (o := ⟨some 122, .load _ _, _, _, _, _⟩) rfl rfl rfl rfl rfl h122 ?_)
            | (with_reducible refine tree_load (o := ⟨some 124, .load _ _, _, _, _, _⟩) rfl rfl rfl rfl rfl h110 ?_)
            | (with_reducible refine tree_load (o := ⟨some 128, .load _ _, _, _, _, _⟩) rfl rfl rfl rfl rfl h128 ?_)
            | (refine tree_take rfl (fun K hK => ?_); go_simp; (first | with_reducible refine hK _ ?_ | (rw [if_neg (by decide)]; with_reducible refine hK _ ?_)); clear hK K))
          refine tree_done ?_
          clear hq
          go_wp2_with fail
          exact ⟨⟨p + 1, by omega, by rw [HSN.out]; cases qv <;> rfl, by go_num, hs⟩, by simp only [intOf]; omega⟩
  · have hptI : ¬ (p : Int) < (C.W.length : Int) := by omega
    have he : foundW c (C.W.take p) = true := by rw [List.take_of_length_le (by omega)]; exact HFD.out
    rw [he]
    clear he
    go_wp2_with (first
      | (guard_target = wpList _ _ _ (⟨some 96, .load _ _, _, _, _, _⟩ :: _) _ _; refine wpl (o := ⟨some 96, .load _ _, _, _, _, _⟩) rfl fun K hK => op_load rfl (ad := ⟨b13, 1, none⟩) rfl (by kernel_rfl) (hs.cell (l := cmC C (.slice A93 C.W.length c93)) (t := 24) (by (try dsimp only [List.set]); repeat (first | with_reducible exact List.mem_cons_self | with_reducible apply List.mem_cons_of_mem)) rfl) (hK _ _ ?_); clear hK K))
    exact ⟨⟨i + 1, by omega, by go_num, hs.pack (by repeat (first | with_reducible exact Pack.refl | with_reducible exact Pack.nil | with_reducible refine Pack.cons (by repeat (first | with_reducible exact Pick.here | with_reducible apply Pick.there)) ?_ | with_reducible apply Pack.drop))⟩, by simp only [intOf]; omega⟩
set_option maxRecDepth 100000 in
set_option maxHeartbeats 30000000 in
theorem redoOrder_walk_a_b_c_e_f_h_2 : redoOrder_walk_a_b_c_e_f_cut.p2 := by
  intro W w L hold l y cv x1_1 hcv hl24 HA hzs hzc yy hy x1_2 x1_3 b7 x1_4 x1_5 b8 x6_1 w3 x1_6 x3_1 x5_1 u22 u23 u24 u25 u26 u27 u28 u29 u30 u31 u32 u33 x4_1 x3_3 x3_5 x5_2 u11 u34 u35 u36 u37 u38 u39 u40 u41 u42 u43 u44 u45 u46 u47 u48 u49 u50 u51 u52 u53 u54 u55 u56 u57 u58 u59 u60 u61 u62 u63 u64 u65 u66 u67 x6_2 S c7 x5_3 x5_4 A8 c8 x5_5 x5_6 n hnl hn40 hmin HL20 HC20 x4_2 hSl HRS HSM HLA x5_8 x5_10 x5_11 x6_3 x6_4 u4 u13 x6_5 x6_6 u68 u69 u70 u71 u72 u73 u74 u75 u76 u77 u78 u79 u80 u81 u82 u83 u84 u85 u86 u87 u88 u89 u90 u91 u92 u93 x6_7 x6_8 x6_9 x6_10 x6_11 x6_12 x6_13 x6_14 x6_15 x6_16 x6_17 x6_18 x6_19 x6_20 x6_21 x6_22 x6_23 x6_24 x6_25 x6_26 x6_27 x6_28 x6_29 x6_30 x6_31 x6_32 x6_33 x6_34 x6_35 x6_36 x6_37 x6_38 x6_39 x6_40 x6_41 x6_42 x6_43 x6_44 u132 u133 i hi hlt hltI hwi j hj ba x6_45 x6_46 hjl hjlI bv ov Ab cb x6_47 HVV x3_2 x3_4 x5_7 x5_9 HB1 h91 C HT1 hCl HCT c HRC HFD hmx hws hws2 x6_48 x6_49 x6_50 b13 w1 w5 A93 c93 x6_51 x6_52 w9 hs x6_53 x6_54 wr u14 u15 u94 u95 u96 u97 u98 u99 u100 u101 u102 u103 u104 u105 u106 u107 u108 u109 u110 u111 u112 u113 u114 u115 u116 u117 u118 u119 u120 u121 u122 u123 u124 u125 u126 u127 u128 u129 u130 u131 hrel
  clear hs
  obtain ⟨p, hp, rfl, rfl, hs⟩ := hrel
  by_cases hpt : p < C.W.length
  · have hptI : (p : Int) < (C.W.length : Int) := by omega
    have hwp : IntKind.i64.wrap ((p : Int) + 1) = (p : Int) + 1 := by rw [IntKind.wrap_i64]; omega
    obtain ⟨bw, cw', e, _, _⟩ := own_formR hs (v := .slice A93 C.W.length c93) (e := 61) (n := C.W.length) (sz := 4) (vs := wsC C.W) (by (try dsimp only [List.set]); repeat (first | with_reducible exact List.mem_cons_self | with_reducible apply List.mem_cons_of_mem)) (by omega)
    cases e
    have HRX := Box.mk (fun w (M : List HP) (h : Sat W w M) (hm : own (.slice (some ⟨bw, 0, none⟩) C.W.length c93) 61 C.W.length 4 (wsC C.W) ∈ M) => own_partR wC 4 wC_length h hm p hpt)
    have hsn := foundW_snoc c C.W p hpt
    generalize C.W[p] = x at HRX hsn
    obtain ⟨q, hq1⟩ : ∃ q, foundW c (C.W.take p) = q := ⟨_, rfl⟩
    rw [hq1] at hsn ⊢
    unfold hitW at hsn
    obtain ⟨qk, hqk⟩ : ∃ q, keySame x.k c.k = q := ⟨_, rfl⟩
    obtain ⟨qv, hqv⟩ : ∃ q, (x.v == c.v) = q := ⟨_, rfl⟩
    rw [hqk, hqv] at hsn
    have heq : ∀ w, (Op.equalIn 10000 57 (.agg (kC x.k).toArray) (.agg (kC c.k).toArray)).run Tryd.prog w = .ok qk w := fun w => by rw [run_equal_key, hqk]
    have HSN := Box.mk hsn
    clear hsn hq1 hqk
    have cI : ∀ w M, Sat W w M → row b13 (cmC C (.slice (some ⟨bw, 0, none⟩) C.W.length c93)) 24 ∈ M → own (.slice (some ⟨bw, 0, none⟩) C.W.length c93) 61 C.W.length 4 (wsC C.W) ∈ M → row b7 (stC S (.slice (some ⟨ba, 0, none⟩) S.L.length c7)) 43 ∈ M → own (.slice (some ⟨ba, 0, none⟩) S.L.length c7) 59 S.L.length 5 (csC S.L) ∈ M → (ordS b13 (.slice (some ⟨bw, 0, none⟩) C.W.length c93) bw (p * 4) (wC x) b7 (.slice (some ⟨ba, 0, none⟩) S.L.length c7) ba (i * 5) (cC c)) w := fun w M h h1 h2 h3 h4 => ⟨h.cell h1 rfl, HRX.out w M h h2, h.cell h3 rfl, HRC.out w M h h4⟩
    have h104 : ∀ w, (ordS b13 (.slice (some ⟨bw, 0, none⟩) C.W.length c93) bw (p * 4) (wC x) b7 (.slice (some ⟨ba, 0, none⟩) S.L.length c7) ba (i * 5) (cC c)) w → w.cell? ⟨b13, 1, none⟩ = some (.slice (some ⟨bw, 0, none⟩) C.W.length c93) := fun w h => h.1
    have h108 : ∀ w, (ordS b13 (.slice (some ⟨bw, 0, none⟩) C.W.length c93) bw (p * 4) (wC x) b7 (.slice (some ⟨ba, 0, none⟩) S.L.length c7) ba (i * 5) (cC c)) w → w.rangeAt bw (p * 4) (kC x.k) := fun w h => range_pre (ds := [(.string ⟨(x.v).toArray⟩)]) h.2.1
    have h110 : ∀ w, (ordS b13 (.slice (some ⟨bw, 0, none⟩) C.W.length c93) bw (p * 4) (wC x) b7 (.slice (some ⟨ba, 0, none⟩) S.L.length c7) ba (i * 5) (cC c)) w → w.cell? ⟨b7, 3, none⟩ = some (.slice (some ⟨ba, 0, none⟩) S.L.length c7) := fun w h => h.2.2.1
    have h114 : ∀ w, (ordS b13 (.slice (some ⟨bw, 0, none⟩) C.W.length c93) bw (p * 4) (wC x) b7 (.slice (some ⟨ba, 0, none⟩) S.L.length c7) ba (i * 5) (cC c)) w → w.rangeAt ba (i * 5) (kC c.k) := fun w h => range_pre (ds := [.int .i64 c.ts, (.string ⟨(c.v).toArray⟩)]) h.2.2.2
    have h122 : ∀ w, (ordS b13 (.slice (some ⟨bw, 0, none⟩) C.W.length c93) bw (p * 4) (wC x) b7 (.slice (some ⟨ba, 0, none⟩) S.L.length c7) ba (i * 5) (cC c)) w → w.cell? ⟨bw, p * 4 + 3, none⟩ = some (.string ⟨(x.v).toArray⟩) := fun w h => h.2.1 3 _ rfl
    have h128 : ∀ w, (ordS b13 (.slice (some ⟨bw, 0, none⟩) C.W.length c93) bw (p * 4) (wC x) b7 (.slice (some ⟨ba, 0, none⟩) S.L.length c7) ba (i * 5) (cC c)) w → w.cell? ⟨ba, i * 5 + 4, none⟩ = some (.string ⟨(c.v).toArray⟩) := fun w h => h.2.2.2 4 _ rfl
    go_wp2_with (first
      | (guard_target = wpList _ _ _ (⟨some 96, .load _ _, _, _, _, _⟩ :: _) _ _; refine wpl (o := ⟨some 96, .load _ _, _, _, _, _⟩) rfl fun K hK => op_load rfl (ad := ⟨b13, 1, none⟩) rfl (by kernel_rfl) (hs.cell (l := cmC C (.slice (some ⟨bw, 0, none⟩) C.W.length c93)) (t := 24) (by (try dsimp only [List.set]); repeat (first | with_reducible exact List.mem_cons_self | with_reducible apply List.mem_cons_of_mem)) rfl) (hK _ _ ?_); clear hK K))
    cases q with
    | true =>
        clear hqv heq HRX
        have hS0 := cI _ _ hs.drew (by (try dsimp only [List.set]); repeat (first | with_reducible exact List.mem_cons_self | with_reducible apply List.mem_cons_of_mem)) (by (try dsimp only [List.set]); repeat (first | with_reducible exact List.mem_cons_self | with_reducible apply List.mem_cons_of_mem)) (by (try dsimp only [List.set]); repeat (first | with_reducible exact List.mem_cons_self | with_reducible apply List.mem_cons_of_mem)) (by (try dsimp only [List.set]); repeat (first | with_reducible exact List.mem_cons_self | with_reducible apply List.mem_cons_of_mem))
        refine wp_region_tree ((ordS b13 (.slice (some ⟨bw, 0, none⟩) C.W.length c93) bw (p * 4) (wC x) b7 (.slice (some ⟨ba, 0, none⟩) S.L.length c7) ba (i * 5) (cC c))) (.take 0 (.take 1 (.take 2 (.take 3 (.take 4 (.take 5 (.take 6 (.take 7 (.take 8 (.take 9 (.take 10 (.take 11 (.take 12 (.take 13 (.take 14 (.take 15 (.take 16 (.take 17 (.take 18 (.take 19 (.take 20 (.take 21 (.take 22 (.take 23 (.take 24 (.take 25 (.take 26 (.take 27 (.take 28 (.take 29 (.take 30 (.take 31 (DTree.done))))))))))))))))))))))))))))))))) (by kernel_rfl) (by kernel_rfl) (by kernel_rfl) (fun _ _ d _ _ h => by cases d <;> exact h) hS0 ?_
        have hs' := hs.drew
        clear hs
        have hs := hs'
        clear hs'
        have hq := fun p : Prop => class_const hS0 p
        clear hS0
        repeat (first
          | ((with_reducible refine tree_skip (o := ⟨some 103, _, _, _, _, _⟩) rfl ?_ ?_); (kernel_rfl))
          | ((with_reducible refine tree_skip (o := ⟨some 104, _, _, _, _, _⟩) rfl ?_ ?_); (kernel_rfl))
          | ((with_reducible refine tree_skip (o := ⟨some 105, _, _, _, _, _⟩) rfl ?_ ?_); (kernel_rfl))
          | ((with_reducible refine tree_skip (o := ⟨some 106, _, _, _, _, _⟩) rfl ?_ ?_); (kernel_rfl))
          | ((with_reducible refine tree_skip (o := ⟨some 107, _, _, _, _, _⟩) rfl ?_ ?_); (kernel_rfl))
          | ((with_reducible refine tree_skip (o := ⟨some 108, _, _, _, _, _⟩) rfl ?_ ?_); (kernel_rfl))
          | ((with_reducible refine tree_skip (o := ⟨some 109, _, _, _, _, _⟩) rfl ?_ ?_); (kernel_rfl))
          | ((with_reducible refine tree_skip (o := ⟨some 110, _, _, _, _, _⟩) rfl ?_ ?_); (kernel_rfl))
          | ((with_reducible refine tree_skip (o := ⟨some 111, _, _, _, _, _⟩) rfl ?_ ?_); (kernel_rfl))
          | ((with_reducible refine tree_skip (o := ⟨some 112, _, _, _, _, _⟩) rfl ?_ ?_); (kernel_rfl))
          | ((with_reducible refine tree_skip (o := ⟨some 113, _, _, _, _, _⟩) rfl ?_ ?_); (kernel_rfl))
          | ((with_reducible refine tree_skip (o := ⟨some 114, _, _, _, _, _⟩) rfl ?_ ?_); (kernel_rfl))
          | ((with_reducible refine tree_skip (o := ⟨some 115, _, _, _, _, _⟩) rfl ?_ ?_); (kernel_rfl))
          | ((with_reducible refine tree_skip (o := ⟨some 116, _, _, _, _, _⟩) rfl ?_ ?_); (kernel_rfl))
          | ((with_reducible refine tree_skip (o := ⟨some 117, _, _, _, _, _⟩) rfl ?_ ?_); (kernel_rfl))
          | ((with_reducible refine tree_skip (o := ⟨some 118, _, _, _, _, _⟩) rfl ?_ ?_); (kernel_rfl))
          | ((with_reducible refine tree_skip (o := ⟨some 119, _, _, _, _, _⟩) rfl ?_ ?_); (kernel_rfl))
          | ((with_reducible refine tree_skip (o := ⟨some 120, _, _, _, _, _⟩) rfl ?_ ?_); (kernel_rfl))
          | ((with_reducible refine tree_skip (o := ⟨some 121, _, _, _, _, _⟩) rfl ?_ ?_); (kernel_rfl))
          | ((with_reducible refine tree_skip (o := ⟨some 122, _, _, _, _, _⟩) rfl ?_ ?_); (kernel_rfl))
          | ((with_reducible refine tree_skip (o := ⟨some 123, _, _, _, _, _⟩) rfl ?_ ?_); (kernel_rfl))
          | ((with_reducible refine tree_skip (o := ⟨some 124, _, _, _, _, _⟩) rfl ?_ ?_); (kernel_rfl))
          | ((with_reducible refine tree_skip (o := ⟨some 125, _, _, _, _, _⟩) rfl ?_ ?_); (kernel_rfl))
          | ((with_reducible refine tree_skip (o := ⟨some 126, _, _, _, _, _⟩) rfl ?_ ?_); (kernel_rfl))
          | ((with_reducible refine tree_skip (o := ⟨some 127, _, _, _, _, _⟩) rfl ?_ ?_); (kernel_rfl))
          | ((with_reducible refine tree_skip (o := ⟨some 128, _, _, _, _, _⟩) rfl ?_ ?_); (kernel_rfl))
          | ((with_reducible refine tree_skip (o := ⟨some 129, _, _, _, _, _⟩) rfl ?_ ?_); (kernel_rfl))
          | ((with_reducible refine tree_skip (o := ⟨some 130, _, _, _, _, _⟩) rfl ?_ ?_); (kernel_rfl))
          | (refine tree_take rfl (fun K hK => ?_); go_simp; (first | with_reducible refine hK _ ?_ | (rw [if_neg (by decide)]; with_reducible refine hK _ ?_)); clear hK K))
        refine tree_done ?_
        clear hq
        go_wp2_with fail
        exact ⟨⟨p + 1, by omega, by rw [HSN.out]; rfl, by go_num, hs⟩, by simp only [intOf]; omega⟩
    | false =>
      cases qk with
      | false =>
          clear hqv
          have hS0 := cI _ _ hs.drew (by (try dsimp only [List.set]); repeat (first | with_reducible exact List.mem_cons_self | with_reducible apply List.mem_cons_of_mem)) (by (try dsimp only [List.set]); repeat (first | with_reducible exact List.mem_cons_self | with_reducible apply List.mem_cons_of_mem)) (by (try dsimp only [List.set]); repeat (first | with_reducible exact List.mem_cons_self | with_reducible apply List.mem_cons_of_mem)) (by (try dsimp only [List.set]); repeat (first | with_reducible exact List.mem_cons_self | with_reducible apply List.mem_cons_of_mem))
          refine wp_region_tree ((ordS b13 (.slice (some ⟨bw, 0, none⟩) C.W.length c93) bw (p * 4) (wC x) b7 (.slice (some ⟨ba, 0, none⟩) S.L.length c7) ba (i * 5) (cC c))) (.take 0 (.take 1 (.take 2 (.take 3 (.take 4 (.take 5 (.take 6 (.take 7 (.take 8 (.take 9 (.take 10 (.take 11 (.take 12 (.take 13 (.take 14 (.take 15 (.take 16 (.take 17 (.take 18 (.take 19 (.take 20 (.take 21 (.take 22 (.take 23 (.take 24 (.take 25 (.take 26 (.take 27 (.take 28 (.take 29 (.take 30 (.take 31 (DTree.done))))))))))))))))))))))))))))))))) (by kernel_rfl) (by kernel_rfl) (by kernel_rfl) (fun _ _ d _ _ h => by cases d <;> exact h) hS0 ?_
          have hs' := hs.drew
          clear hs
          have hs := hs'
          clear hs'
          have hq := fun p : Prop => class_const hS0 p
          clear hS0
          repeat (first
            | ((with_reducible refine tree_skip (o := ⟨some 117, _, _, _, _, _⟩) rfl ?_ ?_); (kernel_rfl))
            | ((with_reducible refine tree_skip (o := ⟨some 118, _, _, _, _, _⟩) rfl ?_ ?_); (kernel_rfl))
            | ((with_reducible refine tree_skip (o := ⟨some 119, _, _, _, _, _⟩) rfl ?_ ?_); (kernel_rfl))
            | ((with_reducible refine tree_skip (o := ⟨some 120, _, _, _, _, _⟩) rfl ?_ ?_); (kernel_rfl))
            | ((with_reducible refine tree_skip (o := ⟨some 121, _, _, _, _, _⟩) rfl ?_ ?_); (kernel_rfl))
            | ((with_reducible refine tree_skip (o := ⟨some 122, _, _, _, _, _⟩) rfl ?_ ?_); (kernel_rfl))
            | ((with_reducible refine tree_skip (o := ⟨some 123, _, _, _, _, _⟩) rfl ?_ ?_); (kernel_rfl))
            | ((with_reducible refine tree_skip (o := ⟨some 124, _, _, _, _, _⟩) rfl ?_ ?_); (kernel_rfl))
            | ((with_reducible refine tree_skip (o := ⟨some 125, _, _, _, _, _⟩) rfl ?_ ?_); (kernel_rfl))
            | ((with_reducible refine tree_skip (o := ⟨some 126, _, _, _, _, _⟩) rfl ?_ ?_); (kernel_rfl))
            | ((with_reducible refine tree_skip (o := ⟨some 127, _, _, _, _, _⟩) rfl ?_ ?_); (kernel_rfl))
            | ((with_reducible refine tree_skip (o := ⟨some 128, _, _, _, _, _⟩) rfl ?_ ?_); (kernel_rfl))
            | ((with_reducible refine tree_skip (o := ⟨some 129, _, _, _, _, _⟩) rfl ?_ ?_); (kernel_rfl))
            | (with_reducible refine tree_load (o := ⟨some 104, .load _ _, _, _, _, _⟩) rfl rfl rfl rfl rfl h104 ?_)
            | (with_reducible refine tree_load_agg (o := ⟨some 108, .load _ _, _, _, _, _⟩) (kC x.k) rfl rfl rfl rfl ?_ ?_ h108 ?_; (kernel_rfl); (kernel_rfl))
            | (with_reducible refine tree_load (o := ⟨some 110, .load _ _, _, _, _, _⟩) rfl rfl rfl rfl rfl h110 ?_)
            | (with_reducible refine tree_load_agg (o := ⟨some 114, .load _ _, _, _, _, _⟩) (kC c.k) rfl rfl rfl rfl ?_ ?_ h114 ?_; (kernel_rfl); (kernel_rfl))
            | (refine tree_take rfl (fun K hK => ?_); go_simp; (first | with_reducible refine hK _ ?_ | (rw [if_neg (by decide)]; with_reducible refine hK _ ?_)); clear hK K))
          refine tree_done ?_
          clear hq
          go_wp2_with fail
          exact ⟨⟨p + 1, by omega, by rw [HSN.out]; rfl, by go_num, hs⟩, by simp only [intOf]; omega⟩
      | true =>
          skip
          have hS0 := cI _ _ hs.drew (by (try dsimp only [List.set]); repeat (first | with_reducible exact List.mem_cons_self | with_reducible apply List.mem_cons_of_mem)) (by (try dsimp only [List.set]); repeat (first | with_reducible exact List.mem_cons_self | with_reducible apply List.mem_cons_of_mem)) (by (try dsimp only [List.set]); repeat (first | with_reducible exact List.mem_cons_self | with_reducible apply List.mem_cons_of_mem)) (by (try dsimp only [List.set]); repeat (first | with_reducible exact List.mem_cons_self | with_reducible apply List.mem_cons_of_mem))
          refine wp_region_tree ((ordS b13 (.slice (some ⟨bw, 0, none⟩) C.W.length c93) bw (p * 4) (wC x) b7 (.slice (some ⟨ba, 0, none⟩) S.L.length c7) ba (i * 5) (cC c))) (.take 0 (.take 1 (.take 2 (.take 3 (.take 4 (.take 5 (.take 6 (.take 7 (.take 8 (.take 9 (.take 10 (.take 11 (.take 12 (.take 13 (.take 14 (.take 15 (.take 16 (.take 17 (.take 18 (.take 19 (.take 20 (.take 21 (.take 22 (.take 23 (.take 24 (.take 25 (.take 26 (.take 27 (.take 28 (.take 29 (.take 30 (.take 31 (DTree.done))))))))))))))))))))))))))))))))) (by kernel_rfl) (by kernel_rfl) (by kernel_rfl) (fun _ _ d _ _ h => by cases d <;> exact h) hS0 ?_
          have hs' := hs.drew
          clear hs
          have hs := hs'
          clear hs'
          have hq := fun p : Prop => class_const hS0 p
          clear hS0
          repeat (first
            | ((with_reducible refine tree_skip (o := ⟨some 0, _, _, _, _, _⟩) rfl ?_ ?_); (kernel_rfl))
            | (with_reducible refine tree_load (o := ⟨some 104, .load _ _, _, _, _, _⟩) rfl rfl rfl rfl rfl h104 ?_)
            | (with_reducible refine tree_load_agg (o := ⟨some 108, .load _ _, _, _, _, _⟩) (kC x.k) rfl rfl rfl rfl ?_ ?_ h108 ?_; (kernel_rfl); (kernel_rfl))
            | (with_reducible refine tree_load (o := ⟨some 110, .load _ _, _, _, _, _⟩) rfl rfl rfl rfl rfl h110 ?_)
            | (with_reducible refine tree_load_agg (o := ⟨some 114, .load _ _, _, _, _, _⟩) (kC c.k) rfl rfl rfl rfl ?_ ?_ h114 ?_; (kernel_rfl); (kernel_rfl))
            | (with_reducible refine tree_load (o := ⟨some 118, .load _ _, _, _, _, _⟩) rfl rfl rfl rfl rfl h104 ?_)
            | (with_reducible refine tree_load (o := ⟨some 122, .load _ _, _, _, _, _⟩) rfl rfl rfl rfl rfl h122 ?_)
            | (with_reducible refine tree_load (o := ⟨some 124, .load _ _, _, _, _, _⟩) rfl rfl rfl rfl rfl h110 ?_)
            | (with_reducible refine tree_load (o := ⟨some 128, .load _ _, _, _, _, _⟩) rfl rfl rfl rfl rfl h128 ?_)
            | (refine tree_take rfl (fun K hK => ?_); go_simp; (first | with_reducible refine hK _ ?_ | (rw [if_neg (by decide)]; with_reducible refine hK _ ?_)); clear hK K))
          refine tree_done ?_
          clear hq
          go_wp2_with fail
          exact ⟨⟨p + 1, by omega, by rw [HSN.out]; cases qv <;> rfl, by go_num, hs⟩, by simp only [intOf]; omega⟩
  · have hptI : ¬ (p : Int) < (C.W.length : Int) := by omega
    have he : foundW c (C.W.take p) = true := by rw [List.take_of_length_le (by omega)]; exact HFD.out
    rw [he]
    clear he
    go_wp2_with (first
      | (guard_target = wpList _ _ _ (⟨some 96, .load _ _, _, _, _, _⟩ :: _) _ _; refine wpl (o := ⟨some 96, .load _ _, _, _, _, _⟩) rfl fun K hK => op_load rfl (ad := ⟨b13, 1, none⟩) rfl (by kernel_rfl) (hs.cell (l := cmC C (.slice A93 C.W.length c93)) (t := 24) (by (try dsimp only [List.set]); repeat (first | with_reducible exact List.mem_cons_self | with_reducible apply List.mem_cons_of_mem)) rfl) (hK _ _ ?_); clear hK K))
    exact ⟨⟨i + 1, by omega, by go_num, hs.pack (by repeat (first | with_reducible exact Pack.refl | with_reducible exact Pack.nil | with_reducible refine Pack.cons (by repeat (first | with_reducible exact Pick.here | with_reducible apply Pick.there)) ?_ | with_reducible apply Pack.drop))⟩, by simp only [intOf]; omega⟩
set_option maxRecDepth 100000 in
set_option maxHeartbeats 30000000 in
theorem redoOrder_walk_a_b_c_e_f_g : redoOrder_walk_a_b_c_e_f_cut.p3 := by
  intro W w L hold l y Av cv x1_1 hcv hl24 HVV HA hzs hzc yy hy x1_2 x1_3 b7 x1_4 x1_5 b8 w1 w3 x1_6 x3_1 x5_1 u22 u23 u24 u25 u26 u27 u28 u29 u30 u31 u32 u33 x4_1 x3_3 x3_5 x5_2 u11 u34 u35 u36 u37 u38 u39 u40 u41 u42 u43 u44 u45 u46 u47 u48 u49 u50 u51 u52 u53 u54 u55 u56 u57 u58 u59 u60 u61 u62 u63 u64 u65 u66 u67 x6_1 x3_2 x3_4 S A7 c7 x5_3 x5_4 A8 c8 x5_5 x5_6 n hnl hn40 hmin HL20 HC20 x4_2 hSl HO3 HRS HSM HLA x5_7 x5_8 x5_9 x5_10 x5_11 x6_2 wr u4 u13 u14 u15 u68 u69 u70 u71 u72 u73 u74 u75 u76 u77 u78 u79 u80 u81 u82 u83 u84 u85 u86 u87 u88 u89 u90 u91 u92 u93 u94 u95 u96 u97 u98 u99 u100 u101 u102 u103 u104 u105 u106 u107 u108 u109 u110 u111 u112 u113 u114 u115 u116 u117 u118 u119 u120 u121 u122 u123 u124 u125 u126 u127 u128 u129 u130 u131 u132 u133 i hi hs hlt hltI
  go_wp2_with (first
    | (guard_target = wpList _ _ _ (⟨some 70, .load _ _, _, _, _, _⟩ :: _) _ _; refine wpl (o := ⟨some 70, .load _ _, _, _, _, _⟩) rfl fun K hK => op_load rfl (ad := ⟨b7, 3, none⟩) rfl (by kernel_rfl) (hs.cell (l := stC S (.slice A7 S.L.length c7)) (t := 43) (by (try dsimp only [List.set]); repeat (first | with_reducible exact List.mem_cons_self | with_reducible apply List.mem_cons_of_mem)) rfl) (hK _ _ ?_); clear hK K))
  have cS : ∀ w M, Sat W w M → row b7 (stC S (.slice A7 S.L.length c7)) 43 ∈ M → row b8 (stC S (.slice A8 S.L.length c8)) 43 ∈ M → (frsS2 b7 (stC S (.slice A7 S.L.length c7)) b8 (stC S (.slice A8 S.L.length c8))) w := fun w M h h1 h2 => ⟨range_whole h h1, range_whole h h2⟩
  have r7 : ∀ w, (frsS2 b7 (stC S (.slice A7 S.L.length c7)) b8 (stC S (.slice A8 S.L.length c8))) w → w.rangeAt b7 0 (stC S (.slice A7 S.L.length c7)) := fun w h => h.1
  have r8 : ∀ w, (frsS2 b7 (stC S (.slice A7 S.L.length c7)) b8 (stC S (.slice A8 S.L.length c8))) w → w.rangeAt b8 0 (stC S (.slice A8 S.L.length c8)) := fun w h => h.2
  have h144 : ∀ w, (frsS2 b7 (stC S (.slice A7 S.L.length c7)) b8 (stC S (.slice A8 S.L.length c8))) w → w.cell? ⟨b7, 0, none⟩ = some (.int .i64 (n : Nat)) := fun w h => by rw [← HLA.out]; exact h.1 0 _ rfl
  have hS0 := cS _ _ hs.drew (by (try dsimp only [List.set]); repeat (first | with_reducible exact List.mem_cons_self | with_reducible apply List.mem_cons_of_mem)) (by (try dsimp only [List.set]); repeat (first | with_reducible exact List.mem_cons_self | with_reducible apply List.mem_cons_of_mem))
  refine wp_region_tree ((frsS2 b7 (stC S (.slice A7 S.L.length c7)) b8 (stC S (.slice A8 S.L.length c8)))) (.take 0 (.take 1 (.take 2 (.take 4 (.all [(3, .all [(5, .all [(6, .take 7 (.take 8 (.take 9 (.take 10 (.take 11 (.take 12 (.take 13 (.take 14 (DTree.done)))))))))])])]))))) (by kernel_rfl) (by kernel_rfl) (by kernel_rfl) (fun _ _ d _ _ h => by cases d <;> exact h) hS0 ?_
  have hs' := hs.drew
  clear hs
  have hs := hs'
  clear hs'
  have hq := fun p : Prop => class_const hS0 p
  clear hS0
  repeat (first
    | (with_reducible refine tree_load_agg (o := ⟨some 136, .load _ _, _, _, _, _⟩) (stC S (.slice A7 S.L.length c7)) rfl rfl rfl rfl ?_ ?_ r7 ?_; (kernel_rfl); (kernel_rfl))
    | (with_reducible refine tree_load_agg (o := ⟨some 138, .load _ _, _, _, _, _⟩) (stC S (.slice A8 S.L.length c8)) rfl rfl rfl rfl ?_ ?_ r8 ?_; (kernel_rfl); (kernel_rfl))
    | (with_reducible refine tree_load (o := ⟨some 144, .load _ _, _, _, _, _⟩) rfl rfl rfl rfl rfl h144 ?_)
    | (refine tree_take rfl (fun K hK => ?_); go_simp; (first | with_reducible refine hK _ ?_ | (rw [if_neg (by decide)]; with_reducible refine hK _ ?_)); clear hK K))
  refine tree_one_yes (o := _) rfl rfl (fun K hK => ?_) (cS _ _ hs (by (try dsimp only [List.set]); repeat (first | with_reducible exact List.mem_cons_self | with_reducible apply List.mem_cons_of_mem)) (by (try dsimp only [List.set]); repeat (first | with_reducible exact List.mem_cons_self | with_reducible apply List.mem_cons_of_mem)))
  try go_simp
  go_at_call 18
  refine (HRS.out _ _ hs (.slice A7 S.L.length c7) (Has.of (A := own (.slice A7 S.L.length c7) 59 S.L.length 5 (csC S.L)) (by (try dsimp only [List.set]); repeat (first | with_reducible exact List.mem_cons_self | with_reducible apply List.mem_cons_of_mem)) own_sliceAt)).mono ?_
  clear hs
  rintro e w5 ⟨v137, rfl, hs⟩
  try go_simp
  refine hK _ _ (cS _ _ hs (by (try dsimp only [List.set]); repeat (first | with_reducible exact List.mem_cons_self | with_reducible apply List.mem_cons_of_mem)) (by (try dsimp only [List.set]); repeat (first | with_reducible exact List.mem_cons_self | with_reducible apply List.mem_cons_of_mem))) ?_
  clear hK K
  refine tree_one_yes (o := _) rfl rfl (fun K hK => ?_) (cS _ _ hs (by (try dsimp only [List.set]); repeat (first | with_reducible exact List.mem_cons_self | with_reducible apply List.mem_cons_of_mem)) (by (try dsimp only [List.set]); repeat (first | with_reducible exact List.mem_cons_self | with_reducible apply List.mem_cons_of_mem)))
  try go_simp
  go_at_call 18
  refine (HRS.out _ _ hs (.slice A8 S.L.length c8) (Has.of (A := own (.slice A8 S.L.length c8) 59 S.L.length 5 (csC S.L)) (by (try dsimp only [List.set]); repeat (first | with_reducible exact List.mem_cons_self | with_reducible apply List.mem_cons_of_mem)) own_sliceAt)).mono ?_
  clear hs
  rintro e w5 ⟨v139, rfl, hs⟩
  try go_simp
  refine hK _ _ (cS _ _ hs (by (try dsimp only [List.set]); repeat (first | with_reducible exact List.mem_cons_self | with_reducible apply List.mem_cons_of_mem)) (by (try dsimp only [List.set]); repeat (first | with_reducible exact List.mem_cons_self | with_reducible apply List.mem_cons_of_mem))) ?_
  clear hK K
  refine tree_one_yes (o := _) rfl rfl (fun K hK => ?_) (cS _ _ hs (by (try dsimp only [List.set]); repeat (first | with_reducible exact List.mem_cons_self | with_reducible apply List.mem_cons_of_mem)) (by (try dsimp only [List.set]); repeat (first | with_reducible exact List.mem_cons_self | with_reducible apply List.mem_cons_of_mem)))
  try go_simp
  go_at_call 17
  refine (HSM.out _ _ hs v137 v139 (Has.of (A := own v137 107 S.L.length 5 (csC S.L)) (by (try dsimp only [List.set]); repeat (first | with_reducible exact List.mem_cons_self | with_reducible apply List.mem_cons_of_mem)) own_sliceAt) (Has.mem m0 own_sliceAt)).mono ?_
  clear hs
  rintro e w5 ⟨rfl, hs⟩
  try go_simp
  refine hK _ _ (cS _ _ hs (by (try dsimp only [List.set]); repeat (first | with_reducible exact List.mem_cons_self | with_reducible apply List.mem_cons_of_mem)) (by (try dsimp only [List.set]); repeat (first | with_reducible exact List.mem_cons_self | with_reducible apply List.mem_cons_of_mem))) ?_
  clear hK K
  repeat (first
    | (with_reducible refine tree_load_agg (o := ⟨some 136, .load _ _, _, _, _, _⟩) (stC S (.slice A7 S.L.length c7)) rfl rfl rfl rfl ?_ ?_ r7 ?_; (kernel_rfl); (kernel_rfl))
    | (with_reducible refine tree_load_agg (o := ⟨some 138, .load _ _, _, _, _, _⟩) (stC S (.slice A8 S.L.length c8)) rfl rfl rfl rfl ?_ ?_ r8 ?_; (kernel_rfl); (kernel_rfl))
    | (with_reducible refine tree_load (o := ⟨some 144, .load _ _, _, _, _, _⟩) rfl rfl rfl rfl rfl h144 ?_)
    | (refine tree_take rfl (fun K hK => ?_); go_simp; (first | with_reducible refine hK _ ?_ | (rw [if_neg (by decide)]; with_reducible refine hK _ ?_)); clear hK K))
  refine tree_done ?_
  clear hq
  go_wp2_with fail
  go_ret
  exact ⟨rfl, hs.pack (by repeat (first | with_reducible exact Pack.refl | with_reducible exact Pack.nil | with_reducible refine Pack.cons (by repeat (first | with_reducible exact Pick.here | with_reducible apply Pick.there)) ?_ | with_reducible apply Pack.drop))⟩
theorem redoOrder_walk_a_b_c_e_f : redoOrder_walk_a_b_c_e_cut.p1 :=
  redoOrder_walk_a_b_c_e_f_cut.go ⟨redoOrder_walk_a_b_c_e_f_h⟩ ⟨redoOrder_walk_a_b_c_e_f_h_2⟩ ⟨redoOrder_walk_a_b_c_e_f_g⟩
theorem redoOrder_walk_a_b_c_e : redoOrder_walk_a_b_c_cut.p2 :=
  redoOrder_walk_a_b_c_e_cut.go ⟨redoOrder_walk_a_b_c_e_f⟩
theorem redoOrder_walk_a_b_c : redoOrder_walk_a_b_cut.p1 :=
  redoOrder_walk_a_b_c_cut.go ⟨redoOrder_walk_a_b_c_d⟩ ⟨redoOrder_walk_a_b_c_e⟩
theorem redoOrder_walk_a_b : redoOrder_walk_a_cut.p1 :=
  redoOrder_walk_a_b_cut.go ⟨redoOrder_walk_a_b_c⟩
theorem redoOrder_walk_a : redoOrder_walk_cut.p1 :=
  redoOrder_walk_a_cut.go ⟨redoOrder_walk_a_b⟩
theorem redoOrder_walk (W w : World) (L : List HP) (hs : Sat W w L) (hold : old W ∈ L) (hm : maxLenIs W) (l : List (List RWr)) (v : Value) (hv : wssKin.K (hp W) l [v]) (y : UInt8) :
    Calls Tryd.prog 6 #[v, .int .u8 y.toNat] w fun e w' => e = .returned (.bool true) ∧ Sat W w' L :=
  redoOrder_walk_cut.go ⟨redoOrder_walk_a⟩ W w L hs hold hm l v hv y
theorem redoOrder_main (W : World) (hm : maxLenIs W) (l : List (List RWr)) (v : Value) (h0 : wssKin.K (hp W) l [v]) (y : UInt8) (v1 : Value) (h1 : Kin.u8.K (hp W) y [v1]) :
    Calls Tryd.prog 6 #[v, v1] W fun e w' => e = .returned (.bool true) ∧ Below W.heap.size W w' := by
  cases h1
  exact (redoOrder_walk W W _ (Sat.start W) m0 hm l v h0 y).mono fun e w' ⟨he, hs⟩ => ⟨he, hs.end_ m0⟩
end Go.Proofs.YthjnefpnnifjiaaDoor
