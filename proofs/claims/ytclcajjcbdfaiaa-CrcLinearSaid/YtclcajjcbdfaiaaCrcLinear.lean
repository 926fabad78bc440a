/- The walk of the law CrcLinear: it returns true; no conditions. -/
import Derived.Test.YtclcajjcbdfaiaaCrcL
import Derived.Test.YtclcajjcbdfaiaaLift
import Derived.Test.YtclcajjcbdfaiaaDir
set_option linter.unusedVariables false
set_option linter.unusedSimpArgs false
namespace Go.Proofs.Ytclcajjcbdfaiaa
open Go.RowKit
def xor3 (a b c : List UInt8) : List UInt8 := List.zipWith (· ^^^ ·) (List.zipWith (· ^^^ ·) a b) c
theorem zero34 : (Try.prog.info? 34).bind (·.zero) = some (.agg (u8s (List.replicate 9 0)).toArray) := by kernel_rfl
theorem u8_xor (a b : UInt8) : bits .xor .u8 (a.toNat : Int) (b.toNat : Int) = ((a ^^^ b).toNat : Int) := by
  rw [UInt8.toNat_xor]
  have := bits_xor8 a.toBitVec b.toBitVec
  rw [BitVec.toNat_xor] at this
  exact this
theorem xor3_get (a b c : List UInt8) (i : Nat) (ha : i < a.length) (hb : i < b.length) (hc : i < c.length) : (xor3 a b c)[i]? = some (a[i] ^^^ b[i] ^^^ c[i]) := by
  simp [xor3, List.getElem?_zipWith, ha, hb, hc]
theorem u8s_set (l : List UInt8) (i : Nat) (x : UInt8) : (u8s l).set i (.int .u8 x.toNat) = u8s (l.set i x) := by simp [u8s, List.map_set]
theorem u8s_cell (l : List UInt8) (i : Nat) (h : i < l.length) : (u8s l)[i]? = some (.int .u8 l[i].toNat) := by simp [u8s, h]
def linC (W : World) (b3 b4 b5 b8 : Nat) (a b c : List UInt8) (L : List HP) (w : World) : Prop :=
  ∃ l : List UInt8, l.length = 9 ∧ Sat W w (row b8 (u8s l) 34 :: row b5 (u8s c) 34 :: row b4 (u8s b) 34 :: row b3 (u8s a) 34 :: L)
set_option maxRecDepth 100000 in
set_option maxHeartbeats 1000000 in
theorem crcLinear_walk (W w : World) (L : List HP) (hs : Sat W w L) (a b c : List UInt8) (ha : a.length = 9) (hb : b.length = 9) (hc : c.length = 9) :
    Calls Try.prog 6 #[.agg (u8s a).toArray, .agg (u8s b).toArray, .agg (u8s c).toArray] w fun e w' => e = .returned (.bool true) ∧ Sat W w' L := by
  have hx : (xor3 a b c).length = 9 := by simp [xor3, ha, hb, hc]
  go_enter Try.func6, Try.ntmps6
  go_wp2_with (first
    | (refine wpl (o := ⟨some 3, .box _ _, _, _, _, _⟩) rfl fun K hK => ?_; go_must (refine op_box hs rfl _ rfl (u8s a) rfl fun b3 w1 h => hK _ _ ?_); clear hs hK K; have hs := h; clear h)
    | (refine wpl (o := ⟨some 4, .box _ _, _, _, _, _⟩) rfl fun K hK => ?_; go_must (refine op_box hs rfl _ rfl (u8s b) rfl fun b4 w2 h => hK _ _ ?_); clear hs hK K; have hs := h; clear h)
    | (refine wpl (o := ⟨some 5, .box _ _, _, _, _, _⟩) rfl fun K hK => ?_; go_must (refine op_box hs rfl _ rfl (u8s c) rfl fun b5 w3 h => hK _ _ ?_); clear hs hK K; have hs := h; clear h)
    | (go_at_call 15; go_must (refine (awake_spec W _ _ hs).mono ?_); clear hs; rintro e w4 ⟨rfl, hs⟩)
    | (refine wpl (o := ⟨some 8, .alloc _, _, _, _, _⟩) rfl fun K hK => ?_; go_must (refine op_alloc hs rfl _ zero34 (u8s (List.replicate 9 0)) rfl fun b8 w5 h => hK _ _ ?_); clear hs hK K; have hs := h; clear h))
  go_loopw [9] (fun v9 wr => ∃ (i : Nat) (l : List UInt8), i ≤ 9 ∧ v9 = .int .i64 i ∧ l.length = 9 ∧ (∀ j, j < i → l[j]? = (xor3 a b c)[j]?) ∧ Sat W wr (row b8 (u8s l) 34 :: row b5 (u8s c) 34 :: row b4 (u8s b) 34 :: row b3 (u8s a) 34 :: L)) (fun v9 _ => 9 - (intOf v9).toNat)
  case atStart => exact ⟨0, _, by omega, rfl, rfl, fun j hj => by omega, hs⟩
  case round =>
    clear hs
    obtain ⟨i, l, hi, rfl, hl, hlj, hs⟩ := hrel
    have HL := Box.mk hlj
    clear hlj
    by_cases hlt : i < 9
    · go_wp2_with fail
      have h1 : ∀ w0, linC W b3 b4 b5 b8 a b c L w0 → w0.cell? ⟨b3, i, none⟩ = some (.int .u8 (a[i]'(by omega)).toNat) := fun w0 ⟨l, hl, h⟩ => h.cell m3 (u8s_cell _ _ _)
      have h2 : ∀ w0, linC W b3 b4 b5 b8 a b c L w0 → w0.cell? ⟨b4, i, none⟩ = some (.int .u8 (b[i]'(by omega)).toNat) := fun w0 ⟨l, hl, h⟩ => h.cell m2 (u8s_cell _ _ _)
      have h3 : ∀ w0, linC W b3 b4 b5 b8 a b c L w0 → w0.cell? ⟨b5, i, none⟩ = some (.int .u8 (c[i]'(by omega)).toNat) := fun w0 ⟨l, hl, h⟩ => h.cell m1 (u8s_cell _ _ _)
      have hX := Box.mk (xor3_get a b c i (by omega) (by omega) (by omega))
      refine wp_region_tree (linC W b3 b4 b5 b8 a b c L) (.take 0 (.take 1 (.take 2 (.take 3 (.take 4 (.take 5 (.take 6 (.take 7 (.take 8 (.take 9 (.take 10 (.take 11 (.take 12 (.all [(13, DTree.done)])))))))))))))) (by kernel_rfl) (by kernel_rfl) (by kernel_rfl) (fun _ _ d _ _ h => by cases d <;> exact h) ⟨l, hl, hs.drew⟩ ?_
      have hC : linC W b3 b4 b5 b8 a b c L wr := ⟨l, hl, hs⟩
      have hq : ∀ p : Prop, (∀ w, linC W b3 b4 b5 b8 a b c L w → p) = p := fun p => propext ⟨fun h => h wr hC, fun h _ _ => h⟩
      generalize ea : (a[i]'(by omega)) = xa at h1 hX
      generalize eb : (b[i]'(by omega)) = xb at h2 hX
      generalize ec : (c[i]'(by omega)) = xc at h3 hX
      clear ea eb ec
      have hx1 := u8_xor xa xb
      have hx2 := u8_xor (xa ^^^ xb) xc
      generalize xa ^^^ xb = xab at hx1 hx2 hX
      generalize xab ^^^ xc = xabc at hx2 hX
      have hi' : (i : Int) < 9 := by omega
      repeat (first
        | (with_reducible refine tree_load (o := ⟨some 19, .load _ _, _, _, _, _⟩) rfl rfl rfl rfl rfl h1 ?_)
        | (with_reducible refine tree_load (o := ⟨some 22, .load _ _, _, _, _, _⟩) rfl rfl rfl rfl rfl h2 ?_)
        | (with_reducible refine tree_load (o := ⟨some 26, .load _ _, _, _, _, _⟩) rfl rfl rfl rfl rfl h3 ?_)
        | (refine tree_take rfl (fun K hK => ?_); go_simp; refine hK _ ?_; clear hK K))
      refine tree_one_yes (o := ⟨none, .store _ _ _, _, _, _, _⟩) rfl rfl (fun K hK => ?_) ⟨l, hl, hs.drew⟩
      refine op_store hs.drew (b := b8) (i := i) (v := .int .u8 xabc.toNat) rfl rfl rfl rfl (by kernel_rfl) (k := 0) rfl (by simp [hl]; omega) fun w' h => hK _ _ ⟨l.set i xabc, by simp [hl], by rw [← u8s_set]; exact h⟩ ?_
      clear hs hK K
      have hs := h
      clear h
      dsimp only [List.set] at hs
      rw [u8s_set] at hs
      refine tree_done ?_
      go_wp2_with fail
      go_roundw
      case measure => simp [intOf]; omega
      case rel =>
        refine ⟨i + 1, l.set i xabc, by omega, by go_num, by simp [hl], fun j hj => ?_, hs⟩
        rw [List.getElem?_set]
        by_cases e : i = j
        · subst e; simp [hl, hlt, hX.out]
        · rw [if_neg e]; exact HL.out j (by omega)
    · obtain rfl : i = 9 := by omega
      obtain rfl : l = xor3 a b c := List.ext_getElem? fun j => by
        by_cases hj : j < 9
        · exact HL.out j hj
        · rw [List.getElem?_eq_none (by omega), List.getElem?_eq_none (by omega)]
      clear HL
      have HO := Box.mk (crcOf_xor3 a b c (by omega) (by omega))
      have HT := Box.mk (ctab_xor (a[0]'(by omega)) (b[0]'(by omega)))
      have hrow : ∀ (b : Nat) (x : List UInt8) (M : List HP), x.length = 9 → row b (u8s x) 34 ∈ M → Has M (bytesAt (.slice (some ⟨b, 0, none⟩) 9 9) x) := fun b x M hl hm => Has.mem hm fun F hF => by
        refine ⟨by simp, _, 9, by rw [hl], by omega, by omega, .inr ⟨b, 0, rfl, cellsAt_row (fun j v hv => by rw [Nat.zero_add]; exact hv) F hF⟩⟩
      go_wp2_with (first
        | (go_at_call 20; go_must (refine (table_spec W _ _ hs).mono ?_); clear hs; rintro e w1 ⟨rfl, hs⟩)
        | (refine wpl (o := ⟨some 10, .alloc _, _, _, _, _⟩) rfl fun K hK => op_alloc hs rfl _ zero27 (zc 256) rfl fun b10 w2 h => hK _ _ ?_; clear hs hK K; have hs := h; clear h)
        | (refine wpl (o := ⟨none, .store _ _ _, _, _, _, _⟩) rfl fun K hK => ?_; go_must (refine op_store_whole hs (b := b10) rfl rfl (tabCells 256) rfl (tabCells_one 256) (by kernel_rfl) (k := 0) rfl (by simp [zc]) fun w3 h => hK _ _ ?_); clear hs hK K; have hs := h; clear h; dsimp only [List.set] at hs))
      generalize hM : (row b10 (tabCells 256) 27 :: row b8 (u8s (xor3 a b c)) 34 :: row b5 (u8s c) 34 :: row b4 (u8s b) 34 :: row b3 (u8s a) 34 :: L) = M at hs
      have hsub : ∀ w, Sat W w M → Sat W w L := fun w h => by rw [← hM] at h; exact h.tail.tail.tail.tail.tail
      have r10 : row b10 (tabCells 256) 27 ∈ M := by rw [← hM]; exact m0
      have r8 : row b8 (u8s (xor3 a b c)) 34 ∈ M := by rw [← hM]; exact m1
      have r5 : row b5 (u8s c) 34 ∈ M := by rw [← hM]; exact m2
      have r4 : row b4 (u8s b) 34 ∈ M := by rw [← hM]; exact m3
      have r3 : row b3 (u8s a) 34 ∈ M := by rw [← hM]; exact m4
      clear hM
      have ca : ∀ w0, Sat W w0 M → w0.cell? ⟨b3, 0, none⟩ = some (.int .u8 (a[0]'(by omega)).toNat) := fun w0 h => h.cell r3 (u8s_cell _ _ _)
      have cb : ∀ w0, Sat W w0 M → w0.cell? ⟨b4, 0, none⟩ = some (.int .u8 (b[0]'(by omega)).toNat) := fun w0 h => h.cell r4 (u8s_cell _ _ _)
      generalize ea : (a[0]'(by omega)) = xa at ca HT
      generalize eb : (b[0]'(by omega)) = xb at cb HT
      clear ea eb
      have hxab := u8_xor xa xb
      have tA := fun (w0 : World) (h : Sat W w0 M) => h.cell r10 (tabCells_get 256 xa.toNat xa.toNat_lt)
      have tB := fun (w0 : World) (h : Sat W w0 M) => h.cell r10 (tabCells_get 256 xb.toNat xb.toNat_lt)
      have tX := fun (w0 : World) (h : Sat W w0 M) => h.cell r10 (tabCells_get 256 (xa ^^^ xb).toNat (xa ^^^ xb).toNat_lt)
      have lA : (xa.toNat : Int) < 256 := by have := xa.toNat_lt; omega
      have lB : (xb.toNat : Int) < 256 := by have := xb.toNat_lt; omega
      have lX : ((xa ^^^ xb).toNat : Int) < 256 := by have := (xa ^^^ xb).toNat_lt; omega
      have xT := bits_xor32 (ctab xa.toNat) (ctab xb.toNat)
      rw [← HT.out] at xT
      have x1 := bits_xor32 (crcOf a) (crcOf b)
      have x2 := bits_xor32 (crcOf a ^^^ crcOf b) (crcOf c)
      rw [← HO.out] at x2
      clear HO HT
      generalize crcOf a ^^^ crcOf b = sab at x1 x2
      generalize xa ^^^ xb = xab at *
      have oA := fun (w0 : World) (h : Sat W w0 M) => of_spec W w0 M h _ a (hrow b3 a M ha r3) (by omega)
      have oB := fun (w0 : World) (h : Sat W w0 M) => of_spec W w0 M h _ b (hrow b4 b M hb r4) (by omega)
      have oC := fun (w0 : World) (h : Sat W w0 M) => of_spec W w0 M h _ c (hrow b5 c M hc r5) (by omega)
      have oX := fun (w0 : World) (h : Sat W w0 M) => of_spec W w0 M h _ (xor3 a b c) (hrow b8 (xor3 a b c) M hx r8) (by omega)
      unfold xor3 at oX
      generalize crcOf (List.zipWith (· ^^^ ·) (List.zipWith (· ^^^ ·) a b) c) = sx at *
      refine wp_region_quiet (C := fun w' => Sat W w' M) (by kernel_rfl) (by kernel_rfl) hs.drew ?_
      have hq := sat_const hs
      have OA := Box.mk oA
      have OB := Box.mk oB
      have OC := Box.mk oC
      have OX := Box.mk oX
      clear oA oB oC oX hrow
      repeat (first
        | (with_reducible refine quiet_load (o := ⟨some 33, .load _ _, _, _, _, _⟩) rfl rfl rfl rfl ca ?_)
        | (with_reducible refine quiet_load (o := ⟨some 35, .load _ _, _, _, _, _⟩) rfl rfl rfl rfl cb ?_)
        | (with_reducible refine quiet_load (o := ⟨some 38, .load _ _, _, _, _, _⟩) rfl rfl rfl rfl tX ?_)
        | (with_reducible refine quiet_load (o := ⟨some 40, .load _ _, _, _, _, _⟩) rfl rfl rfl rfl ca ?_)
        | (with_reducible refine quiet_load (o := ⟨some 42, .load _ _, _, _, _, _⟩) rfl rfl rfl rfl tA ?_)
        | (with_reducible refine quiet_load (o := ⟨some 44, .load _ _, _, _, _, _⟩) rfl rfl rfl rfl cb ?_)
        | (with_reducible refine quiet_load (o := ⟨some 46, .load _ _, _, _, _, _⟩) rfl rfl rfl rfl tB ?_)
        | (refine wpQuiet_step (fun K hK => ?_); go_simp; first
            | (refine hK _ ?_; clear hK K)
            | (apply Exists.intro; refine ⟨fun w5 h5 => ?_, hK _ ?_⟩; (first | with_reducible exact OA.out w5 h5 | with_reducible exact OB.out w5 h5 | with_reducible exact OC.out w5 h5 | with_reducible exact OX.out w5 h5); clear hK K)))
      refine wpQuiet_nil ?_
      intro w6 hs6
      go_wp2
      go_ret
      exact ⟨rfl, hsub _ hs6⟩
theorem crcLinear_main (W : World) (a : List UInt8) (c0 : List Value) (h0 : (Kin.arr 9 Kin.u8).K (hp W) a c0) (b : List UInt8) (c1 : List Value) (h1 : (Kin.arr 9 Kin.u8).K (hp W) b c1) (c : List UInt8) (c2 : List Value) (h2 : (Kin.arr 9 Kin.u8).K (hp W) c c2) :
    Calls Try.prog 6 #[.agg c0.toArray, .agg c1.toArray, .agg c2.toArray] W fun e w' => e = .returned (.bool true) ∧ Below W.heap.size W w' := by
  have e0 := rows_u8 h0.2
  have e1 := rows_u8 h1.2
  have e2 := rows_u8 h2.2
  subst e0 e1 e2
  exact (crcLinear_walk W W _ (Sat.start W) a b c h0.1 h1.1 h2.1).mono fun e w' ⟨he, hs⟩ => ⟨he, hs.end_ m0⟩
end Go.Proofs.Ytclcajjcbdfaiaa
