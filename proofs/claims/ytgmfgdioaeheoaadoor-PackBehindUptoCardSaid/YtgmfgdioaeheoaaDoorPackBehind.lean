/- The walk of the law PackBehind. -/
import Derived.Test.YtgmfgdioaeheoaaDoorPackOrder
set_option linter.unusedVariables false
set_option linter.unusedSimpArgs false
namespace Go.Proofs.YtgmfgdioaeheoaaDoor
open Go.RowKit
set_option maxRecDepth 100000 in
set_option maxHeartbeats 8000000 in
theorem packBehind_walk (W w : World) (L : List HP) (hs : Sat W w L) (hold : old W ∈ L) (hm : maxLenIs W) (x y p q : List UInt8) (hx : x.length ≤ 1048576) (hy : y.length ≤ 1048576) (hp1 : p.length ≤ 1048576) (hq1 : q.length ≤ 1048576) :
    Calls Tryd.prog 5 #[.agg #[(.string ⟨(x).toArray⟩), (.string ⟨(y).toArray⟩)], .agg #[(.string ⟨(p).toArray⟩), (.string ⟨(q).toArray⟩)]] w fun e w' => e = .returned (.bool true) ∧ Sat W w' L := by
  have HM := Box.mk hm
  clear hm
  have hlx : (text x).length ≤ 2097154 := by have := esc_len x; unfold text; rw [List.length_append, List.length_cons, List.length_cons, List.length_nil]; omega
  have hly : (text y).length ≤ 2097154 := by have := esc_len y; unfold text; rw [List.length_append, List.length_cons, List.length_cons, List.length_nil]; omega
  have eSame : x = y → Op.bytesLess (text x ++ p) (text y ++ q) = Op.bytesLess p q := fun h => by rw [h, less_app]
  have eOther : x ≠ y → Op.bytesLess (text x ++ p) (text y ++ q) = Op.bytesLess x y := fun h => less_text p q x y h
  obtain ⟨T1, hT1⟩ : ∃ z, text x = z := ⟨_, rfl⟩
  obtain ⟨T2, hT2⟩ : ∃ z, text y = z := ⟨_, rfl⟩
  rw [hT1] at hlx eSame eOther
  rw [hT2] at hly eSame eOther
  obtain ⟨K1, hK1⟩ : ∃ z, T1 ++ p = z := ⟨_, rfl⟩
  obtain ⟨K2, hK2⟩ : ∃ z, T2 ++ q = z := ⟨_, rfl⟩
  rw [hK1, hK2] at eSame eOther
  have c1 := str_app' T1 p K1 hK1
  have c2 := str_app' T2 q K2 hK2
  have b1 : ¬ 9223372036854775807 < T1.length + p.length := by omega
  have b2 : ¬ 9223372036854775807 < T2.length + q.length := by omega
  have HT1 := Box.mk hT1
  have HT2 := Box.mk hT2
  have HE1 := Box.mk eSame
  have HE2 := Box.mk eOther
  clear hT1 hT2 hK1 hK2 eSame eOther
  go_enter Tryd.func5, Tryd.ntmps5
  go_wp2_with (first
    | (guard_target = wpList _ _ _ (⟨some 2, .box _ _, _, _, _, _⟩ :: _) _ _; refine wpl (o := ⟨some 2, .box _ _, _, _, _, _⟩) rfl fun K hK => ?_; go_must (refine op_box hs rfl _ rfl [(.string ⟨(x).toArray⟩), (.string ⟨(y).toArray⟩)] rfl fun b5 w1 h => hK _ _ ?_); clear hs hK K; have hs := h; clear h; try dsimp only [List.set] at hs)
    | (guard_target = wpList _ _ _ (⟨some 3, .box _ _, _, _, _, _⟩ :: _) _ _; refine wpl (o := ⟨some 3, .box _ _, _, _, _, _⟩) rfl fun K hK => ?_; go_must (refine op_box hs rfl _ rfl [(.string ⟨(p).toArray⟩), (.string ⟨(q).toArray⟩)] rfl fun b6 w1 h => hK _ _ ?_); clear hs hK K; have hs := h; clear h; try dsimp only [List.set] at hs)
    | (go_at_call 15; go_must (refine (awake1_spec W _ _ hs (List.mem_cons_of_mem _ (List.mem_cons_of_mem _ hold)) HM.out).mono ?_); clear hs; rintro e w1 ⟨rfl, hs⟩))
  obtain ⟨M, hM, hs⟩ : ∃ M, M = _ ∧ Sat W _ M := ⟨_, rfl, hs⟩
  have d0 : ∀ w, Sat W w M → w.cell? ⟨b5, 0, none⟩ = some (.string ⟨(x).toArray⟩) := fun w h => by rw [hM] at h; exact h.cell m1 rfl
  have d1 : ∀ w, Sat W w M → w.cell? ⟨b6, 0, none⟩ = some (.string ⟨(p).toArray⟩) := fun w h => by rw [hM] at h; exact h.cell m0 rfl
  have hold' : old W ∈ M := by rw [hM]; exact List.mem_cons_of_mem _ (List.mem_cons_of_mem _ hold)
  have o5 : ∀ w, Sat W w M → Calls Tryd.prog 20 #[(.string ⟨(x).toArray⟩)] w fun e w' => e = .returned (.string ⟨(T1).toArray⟩) ∧ Sat W w' M := by rw [← HT1.out]; exact fun w h => text_spec W w _ h hold' HM.out x (by omega)
  have o5_ := Box.mk o5
  clear o5
  have o5 := o5_
  clear o5_
  have hM_ := Box.mk hM
  clear hM
  have hM := hM_
  clear hM_
  refine wp_region_quiet (C := fun w' => Sat W w' M) (by kernel_rfl) (by kernel_rfl) hs.drew ?_
  have hq := sat_const hs
  repeat (first
    | (with_reducible refine quiet_load (o := ⟨some 10, .load _ _, _, _, _, _⟩) rfl rfl rfl rfl d0 ?_)
    | (with_reducible refine quiet_load (o := ⟨some 13, .load _ _, _, _, _, _⟩) rfl rfl rfl rfl d1 ?_)
    | (refine wpQuiet_step (fun K hK => ?_); go_simp; first
        | (with_reducible refine hK _ ?_; clear hK K)
        | (apply Exists.intro; refine ⟨fun w5 h5 => ?_, hK _ ?_⟩; (first | with_reducible exact o5.out w5 h5); clear hK K)))
  refine wpQuiet_nil ?_
  intro w8 hs8
  clear hs
  rw [hM.out] at hs8
  have hs := hs8
  clear hs8
  go_wp2_with fail
  clear d0 d1 hold' o5 hM hq
  clear M
  obtain ⟨M, hM, hs⟩ : ∃ M, M = _ ∧ Sat W _ M := ⟨_, rfl, hs⟩
  have d0 : ∀ w, Sat W w M → w.cell? ⟨b5, 1, none⟩ = some (.string ⟨(y).toArray⟩) := fun w h => by rw [hM] at h; exact h.cell m1 rfl
  have d1 : ∀ w, Sat W w M → w.cell? ⟨b6, 1, none⟩ = some (.string ⟨(q).toArray⟩) := fun w h => by rw [hM] at h; exact h.cell m0 rfl
  have hold' : old W ∈ M := by rw [hM]; exact List.mem_cons_of_mem _ (List.mem_cons_of_mem _ hold)
  have o5 : ∀ w, Sat W w M → Calls Tryd.prog 20 #[(.string ⟨(y).toArray⟩)] w fun e w' => e = .returned (.string ⟨(T2).toArray⟩) ∧ Sat W w' M := by rw [← HT2.out]; exact fun w h => text_spec W w _ h hold' HM.out y (by omega)
  have o5_ := Box.mk o5
  clear o5
  have o5 := o5_
  clear o5_
  have hM_ := Box.mk hM
  clear hM
  have hM := hM_
  clear hM_
  refine wp_region_quiet (C := fun w' => Sat W w' M) (by kernel_rfl) (by kernel_rfl) hs.drew ?_
  have hq := sat_const hs
  repeat (first
    | (with_reducible refine quiet_load (o := ⟨some 16, .load _ _, _, _, _, _⟩) rfl rfl rfl rfl d0 ?_)
    | (with_reducible refine quiet_load (o := ⟨some 19, .load _ _, _, _, _, _⟩) rfl rfl rfl rfl d1 ?_)
    | (refine wpQuiet_step (fun K hK => ?_); go_simp; first
        | (with_reducible refine hK _ ?_; clear hK K)
        | (apply Exists.intro; refine ⟨fun w5 h5 => ?_, hK _ ?_⟩; (first | with_reducible exact o5.out w5 h5); clear hK K)))
  refine wpQuiet_nil ?_
  intro w8 hs8
  clear hs
  rw [hM.out] at hs8
  have hs := hs8
  clear hs8
  clear d0 d1 hold' o5 hM hq
  clear M
  have k0 := hs.cell (l := [(.string ⟨(x).toArray⟩), (.string ⟨(y).toArray⟩)]) (t := 28) (b := b5) (i := 0) m1 rfl
  have k1 := hs.cell (l := [(.string ⟨(x).toArray⟩), (.string ⟨(y).toArray⟩)]) (t := 28) (b := b5) (i := 1) m1 rfl
  have k2 := hs.cell (l := [(.string ⟨(p).toArray⟩), (.string ⟨(q).toArray⟩)]) (t := 28) (b := b6) (i := 0) m0 rfl
  have k3 := hs.cell (l := [(.string ⟨(p).toArray⟩), (.string ⟨(q).toArray⟩)]) (t := 28) (b := b6) (i := 1) m0 rfl
  by_cases hxy : x = y
  · have hE := HE1.out hxy
    have hz : (x == y) = true := by rw [hxy]; simp
    clear hxy
    go_wp2_with fail
    go_ret
    exact ⟨rfl, hs.pack (by repeat (first | with_reducible exact Pack.refl | with_reducible exact Pack.nil | with_reducible refine Pack.cons (by repeat (first | with_reducible exact Pick.here | with_reducible apply Pick.there)) ?_ | with_reducible apply Pack.drop))⟩
  · have hE := HE2.out hxy
    have hz : (x == y) = false := by simp [hxy]
    clear hxy
    go_wp2_with fail
    go_ret
    exact ⟨rfl, hs.pack (by repeat (first | with_reducible exact Pack.refl | with_reducible exact Pack.nil | with_reducible refine Pack.cons (by repeat (first | with_reducible exact Pick.here | with_reducible apply Pick.there)) ?_ | with_reducible apply Pack.drop))⟩
theorem packBehind_main (W : World) (hm : maxLenIs W) (ls : List (List UInt8)) (cs : List Value) (h0 : (Kin.arr 2 strU).K (hp W) ls cs) (ms : List (List UInt8)) (ds : List Value) (h1 : (Kin.arr 2 strU).K (hp W) ms ds) :
    Calls Tryd.prog 5 #[.agg cs.toArray, .agg ds.toArray] W fun e w' => e = .returned (.bool true) ∧ Below W.heap.size W w' := by
  obtain ⟨x, y, hx, hy, rfl⟩ := two_val h0
  obtain ⟨p, q, hp1, hq1, rfl⟩ := two_val h1
  exact (packBehind_walk W W _ (Sat.start W) m0 hm x y p q hx hy hp1 hq1).mono fun e w' ⟨he, hs⟩ => ⟨he, hs.end_ m0⟩
end Go.Proofs.YtgmfgdioaeheoaaDoor
