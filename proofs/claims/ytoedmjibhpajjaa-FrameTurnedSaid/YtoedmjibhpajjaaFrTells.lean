/- The walk of the law FrameTells. -/
import Derived.Test.YtoedmjibhpajjaaFrAwake
import Derived.Test.YtoedmjibhpajjaaFrEq
import Derived.Test.YtoedmjibhpajjaaFrRefP
import Derived.Test.YtoedmjibhpajjaaFrKin
set_option linter.unusedVariables false
set_option linter.unusedSimpArgs false
namespace Go.Proofs.Ytoedmjibhpajjaa
open Go.RowKit
/-- What Pack makes of any frame, and its code. -/
def Fr.sector (f : Fr) : List UInt8 := if f.body.length ≤ 50 then f.pack else []
def Fr.scode (f : Fr) : Nat := if f.body.length ≤ 50 then 0 else 3
theorem fpack_any (W w : World) (L : List HP) (hs : Sat W w L) (f : Fr) (ok : f.Ok) (vb : Value) (hb : Has L (bytesAt vb f.body)) :
    Calls Try.prog 16 #[.agg (frCells f vb).toArray] w fun e w' => ∃ v, e = .returned (.tuple #[v, .int .i64 (f.scode : Nat)]) ∧ Sat W w' (bytesH v f.sector :: L) := by
  by_cases h : f.body.length ≤ 50
  · refine (fpack_spec W w L hs f ok vb hb h).mono ?_
    rintro e w1 ⟨v, rfl, hs1⟩
    simp only [Fr.scode, Fr.sector, if_pos h]
    exact ⟨v, rfl, hs1.sub (i := 0) rfl (B := bytesH v f.pack) fun F hF => by have := own_sliceAt F hF; rw [← Fr.pack_length h] at this; exact this⟩
  · refine (fpack_full W w L hs f vb hb (by omega)).mono ?_
    rintro e w1 ⟨rfl, hs1⟩
    simp only [Fr.scode, Fr.sector, if_neg h]
    exact ⟨_, rfl, (hs1.addNil none 5 1).sub (i := 0) rfl (B := bytesH (.slice none 0 0) []) fun F hF => own_sliceAt F hF⟩
theorem rpack_any (W w : World) (L : List HP) (hs : Sat W w L) (f : Fr) (ok : f.Ok) :
    Calls Try.prog 17 #[.agg (rCells f).toArray] w fun e w' => e = .returned (.tuple #[(.string ⟨(f.sector).toArray⟩), .int .i64 (f.scode : Nat)]) ∧ Sat W w' L := by
  by_cases h : f.body.length ≤ 50
  · simp only [Fr.scode, Fr.sector, if_pos h]
    exact rpack_spec W w L hs f ok h
  · simp only [Fr.scode, Fr.sector, if_neg h]
    exact rpack_full W w L hs f (by omega)
set_option maxRecDepth 100000 in
set_option maxHeartbeats 4000000 in
theorem frameTells_walk (W w : World) (L : List HP) (hs : Sat W w L) (f : Fr) (ok : f.Ok) (vf : Value) (hf : Has L (bytesAt vf f.body)) (vl : Value) (l : List UInt8) (hl : Has L (bytesAt vl l)) :
    Calls Try.prog 3 #[.agg (frCells f vf).toArray, vl] w fun e w' => e = .returned (.bool true) ∧ Sat W w' L := by
  obtain ⟨Af, cf, rfl, _, _⟩ := slice_form (hs.bytes hf)
  obtain ⟨Al, cl, rfl, _, _⟩ := slice_form (hs.bytes hl)
  by_cases hbig : 200 < f.body.length
  · have hbigI : (200 : Int) < (f.body.length : Int) := by omega
    go_enter Try.func3, Try.ntmps3
    go_wp2_with (first
      | (refine wpl (o := ⟨some 2, .box _ _, _, _, _, _⟩) rfl fun K hK => ?_; go_must (refine op_box hs rfl _ rfl (frCells f (.slice Af f.body.length cf)) rfl fun b2 w1 h => hK _ _ ?_); clear hs hK K; have hs := h; clear h; try dsimp only [List.set] at hs)
      | (go_at_call 15; go_must (refine (awake5_spec W _ _ hs).mono ?_); clear hs; rintro e w1 ⟨rfl, hs⟩; have k16 : w1.cell? ⟨b2, 3, none⟩ = some (.slice Af f.body.length cf) := hs.cell m0 rfl)
      | (refine wpl (o := ⟨some 16, .load _ _, _, _, _, _⟩) rfl fun K hK => op_load rfl (ad := ⟨b2, 3, none⟩) rfl (by kernel_rfl) k16 (hK _ _ ?_); clear hK K))
    go_ret
    exact ⟨rfl, hs.tail⟩
  · have hbigI : ¬ (200 : Int) < (f.body.length : Int) := by omega
    by_cases hbig2 : 200 < l.length
    · have hbigI2 : (200 : Int) < (l.length : Int) := by omega
      go_enter Try.func3, Try.ntmps3
      go_wp2_with (first
        | (refine wpl (o := ⟨some 2, .box _ _, _, _, _, _⟩) rfl fun K hK => ?_; go_must (refine op_box hs rfl _ rfl (frCells f (.slice Af f.body.length cf)) rfl fun b2 w1 h => hK _ _ ?_); clear hs hK K; have hs := h; clear h; try dsimp only [List.set] at hs)
        | (go_at_call 15; go_must (refine (awake5_spec W _ _ hs).mono ?_); clear hs; rintro e w1 ⟨rfl, hs⟩; have k16 : w1.cell? ⟨b2, 3, none⟩ = some (.slice Af f.body.length cf) := hs.cell m0 rfl)
        | (refine wpl (o := ⟨some 16, .load _ _, _, _, _, _⟩) rfl fun K hK => op_load rfl (ad := ⟨b2, 3, none⟩) rfl (by kernel_rfl) k16 (hK _ _ ?_); clear hK K))
      go_ret
      exact ⟨rfl, hs.tail⟩
    · have hbigI2 : ¬ (200 : Int) < (l.length : Int) := by omega
      have hne := fun w => run_equal_rframe (Fr.parse l) (Fr.parse l) w
      rw [Fr.same_refl] at hne
      go_enter Try.func3, Try.ntmps3
      go_wp2_with (first
        | (refine wpl (o := ⟨some 2, .box _ _, _, _, _, _⟩) rfl fun K hK => ?_; go_must (refine op_box hs rfl _ rfl (frCells f (.slice Af f.body.length cf)) rfl fun b2 w1 h => hK _ _ ?_); clear hs hK K; have hs := h; clear h; try dsimp only [List.set] at hs)
        | (go_at_call 15; go_must (refine (awake5_spec W _ _ hs).mono ?_); clear hs; rintro e w1 ⟨rfl, hs⟩; have k16 : w1.cell? ⟨b2, 3, none⟩ = some (.slice Af f.body.length cf) := hs.cell m0 rfl)
        | (refine wpl (o := ⟨some 16, .load _ _, _, _, _, _⟩) rfl fun K hK => op_load rfl (ad := ⟨b2, 3, none⟩) rfl (by kernel_rfl) k16 (hK _ _ ?_); clear hK K)
        | (refine wpl (o := ⟨some 26, .load _ _, _, _, _, _⟩) rfl fun K hK => op_load_agg rfl (b := b2) (i := 0) rfl (frCells f (.slice Af f.body.length cf)) (range_whole hs (by (try dsimp only [List.set]); repeat (first | with_reducible exact List.mem_cons_self | with_reducible apply List.mem_cons_of_mem))) (by kernel_rfl) (by kernel_rfl) (hK _ _ ?_); clear hK K)
        | (go_at_call 16; go_must (refine (fpack_any W _ _ hs f ok _ hf.tail).mono ?_); clear hs; rintro e w1 ⟨v1, rfl, hs⟩
           obtain ⟨A1, c1, rfl, _, _⟩ := slice_form (hs.bytes (bytesH_has 0 rfl)))
        | (refine wpl (o := ⟨some 31, .load _ _, _, _, _, _⟩) rfl fun K hK => op_load_agg rfl (b := b2) (i := 0) rfl (frCells f (.slice Af f.body.length cf)) (range_whole hs (by (try dsimp only [List.set]); repeat (first | with_reducible exact List.mem_cons_self | with_reducible apply List.mem_cons_of_mem))) (by kernel_rfl) (by kernel_rfl) (hK _ _ ?_); clear hK K)
        | (go_at_call 18; go_must (refine (real_spec W _ _ hs f _ hf.tail.tail).mono ?_); clear hs; rintro e w1 ⟨rfl, hs⟩)
        | (go_at_call 17; go_must (refine (rpack_any W _ _ hs f ok).mono ?_); clear hs; rintro e w1 ⟨rfl, hs⟩)
        | (go_at_call 19; go_must (refine (fparse_spec W _ _ hs _ l hl.tail.tail (by omega)).mono ?_); clear hs; rintro e w1 ⟨vx, rfl, hs⟩
           obtain ⟨Ax, cx, rfl, _, _⟩ := slice_form (hs.bytes (bytesH_has 0 rfl)))
        | (refine wpl (o := ⟨some 10, .alloc _, _, _, _, _⟩) rfl fun K hK => ?_; go_must (refine op_alloc hs rfl _ zframe [.int .u32 0, .int .u32 0, .int .u8 0, .slice none 0 0] rfl fun b10 w1 h => hK _ _ ?_); clear hs hK K; have hs := h; clear h; try dsimp only [List.set] at hs)
        | (refine wpl (o := ⟨none, .store _ (.tmp 10) _, _, _, _, _⟩) rfl fun K hK => ?_; go_must (refine op_store_whole hs (b := b10) rfl rfl (frCells (Fr.parse l) (.slice Ax (Fr.parse l).body.length cx)) rfl (by simp [frCells, Value.oneCell']) (by kernel_rfl) (k := 0) rfl rfl fun w3 h => hK _ _ ?_); clear hs hK K; have hs := h; clear h; try dsimp only [List.set] at hs)
        | (refine wpl (o := ⟨some 43, .convert _ _ _, _, _, _, _⟩) rfl fun K hK => ?_; go_must (refine op_to_string rfl Try.underlying23 Try.underlying5 Try.underlying9 rfl (hs.bytes (hl.tail.tail.tail.tail)) (hK _ _ ?_)); clear hK K)
        | (go_at_call 20; go_must (refine (rparse_spec W _ _ hs l (by omega)).mono ?_); clear hs; rintro e w1 ⟨rfl, hs⟩)
        | (refine wpl (o := ⟨some 12, .alloc _, _, _, _, _⟩) rfl fun K hK => ?_; go_must (refine op_alloc hs rfl _ zrframe [.int .u32 0, .int .u32 0, .int .u8 0, .string ⟨#[]⟩] rfl fun b12 w1 h => hK _ _ ?_); clear hs hK K; have hs := h; clear h; try dsimp only [List.set] at hs)
        | (refine wpl (o := ⟨none, .store _ (.tmp 12) _, _, _, _, _⟩) rfl fun K hK => ?_; go_must (refine op_store_whole hs (b := b12) rfl rfl (rCells (Fr.parse l)) rfl (by simp [rCells, Value.oneCell']) (by kernel_rfl) (k := 0) rfl rfl fun w3 h => hK _ _ ?_); clear hs hK K; have hs := h; clear h; try dsimp only [List.set] at hs))
      obtain ⟨M, hM, hs⟩ : ∃ M, M = _ ∧ Sat W _ M := ⟨_, rfl, hs⟩
      have s1 : ∀ w, Sat W w M → bytesAt (.slice A1 f.sector.length c1) f.sector (hp w) := fun w h => h.bytes (by rw [hM]; exact bytesH_mem (by (try dsimp only [List.set]); repeat (first | with_reducible exact List.mem_cons_self | with_reducible apply List.mem_cons_of_mem)))
      have d1 : ∀ w, Sat W w M → w.rangeAt b10 0 (frCells (Fr.parse l) (.slice Ax (Fr.parse l).body.length cx)) := fun w h => range_whole h (by rw [hM]; exact (by (try dsimp only [List.set]); repeat (first | with_reducible exact List.mem_cons_self | with_reducible apply List.mem_cons_of_mem)))
      have d2 : ∀ w, Sat W w M → w.rangeAt b12 0 (rCells (Fr.parse l)) := fun w h => range_whole h (by rw [hM]; exact (by (try dsimp only [List.set]); repeat (first | with_reducible exact List.mem_cons_self | with_reducible apply List.mem_cons_of_mem)))
      have oF : ∀ w, Sat W w M → Calls Try.prog 18 #[.agg (frCells (Fr.parse l) (.slice Ax (Fr.parse l).body.length cx)).toArray] w fun e w' => e = .returned (.agg (rCells (Fr.parse l)).toArray) ∧ Sat W w' M := fun w h => real_spec W w M h (Fr.parse l) _ (by rw [hM]; exact bytesH_mem (by (try dsimp only [List.set]); repeat (first | with_reducible exact List.mem_cons_self | with_reducible apply List.mem_cons_of_mem)))
      have oF_ := Box.mk oF
      clear oF
      have oF := oF_
      clear oF_
      have hM_ := Box.mk hM
      clear hM
      have hM := hM_
      clear hM_
      refine wp_region_quiet (C := fun w' => Sat W w' M) (by kernel_rfl) (by kernel_rfl) hs.drew ?_
      have hq := sat_const hs
      repeat (first
        | ((with_reducible refine quiet_str (o := ⟨some 50, .convert _ _ _, _, _, _, _⟩) (f.sector) ?_ rfl Try.underlying23 Try.underlying5 Try.underlying9 ?_ s1 ?_); (rfl); (rfl))
        | ((with_reducible refine quiet_load_agg (o := ⟨some 60, .load _ _, _, _, _, _⟩) (frCells (Fr.parse l) (.slice Ax (Fr.parse l).body.length cx)) rfl rfl rfl ?_ ?_ d1 ?_); (kernel_rfl); (kernel_rfl))
        | ((with_reducible refine quiet_load_agg (o := ⟨some 62, .load _ _, _, _, _, _⟩) (rCells (Fr.parse l)) rfl rfl rfl ?_ ?_ d2 ?_); (kernel_rfl); (kernel_rfl))
        | (refine wpQuiet_step (fun K hK => ?_); go_simp; first
            | (with_reducible refine hK _ ?_; clear hK K)
            | (apply Exists.intro; refine ⟨fun w5 h5 => ?_, hK _ ?_⟩; (first | with_reducible exact oF.out w5 h5); clear hK K)))
      refine wpQuiet_nil ?_
      intro w8 hs8
      clear hs
      rw [hM.out] at hs8
      have hs := hs8
      clear hs8
      go_wp2_with fail
      go_ret
      exact ⟨rfl, hs.pack (by repeat (first | with_reducible exact Pack.refl | with_reducible exact Pack.nil | with_reducible refine Pack.cons (by repeat (first | with_reducible exact Pick.here | with_reducible apply Pick.there)) ?_ | with_reducible apply Pack.drop))⟩
theorem frameTells_main (W : World) (x0 : FrTup) (c0 : List Value) (h0 : frKin.K (hp W) x0 c0) (l : List UInt8) (v1 : Value) (h1 : (Kin.slice 1 Kin.u8).K (hp W) l [v1]) :
    Calls Try.prog 3 #[.agg c0.toArray, v1] W fun e w' => e = .returned (.bool true) ∧ Below W.heap.size W w' := by
  obtain ⟨f, vf, okf, rfl, hf, _⟩ := fr_cells h0
  exact (frameTells_walk W W _ (Sat.start W) f okf vf hf v1 l ((has_old h1).imp fun F hF => (kin_bytes hF).1)).mono fun e w' ⟨he, hs⟩ => ⟨he, hs.end_ m0⟩
end Go.Proofs.Ytoedmjibhpajjaa
