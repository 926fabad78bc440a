/- The walk of the law FrameCuts. -/
import Derived.Test.YtoedmjibhpajjaaFrAwake
import Derived.Test.YtoedmjibhpajjaaRCut
import Derived.Test.YtoedmjibhpajjaaKinW
import Derived.Test.YtoedmjibhpajjaaLift
import Derived.Test.YtoedmjibhpajjaaFrEq
set_option linter.unusedVariables false
set_option linter.unusedSimpArgs false
namespace Go.Proofs.Ytoedmjibhpajjaa
open Go.RowKit
theorem own_range {W w : World} {L : List HP} (hs : Sat W w L) {b n cap sz i : Nat} {e : TypeId} {vs cs : List Value} (hm : own (.slice (some ⟨b, 0, none⟩) n cap) e n sz vs ∈ L) (h : ∀ j v, cs[j]? = some v → vs[i + j]? = some v) : w.rangeAt b i cs := fun j v hv => own_cell hs hm (h j v hv)
theorem frs_part (l : List (Fr × Value)) (i : Nat) (h : i < l.length) : ∀ j v, (frCells l[i].1 l[i].2)[j]? = some v → (frsCells l)[i * 4 + j]? = some v := fun j v hv => by
  have hj : j < 4 := by
    have := (List.getElem?_eq_some_iff.1 hv).1
    simpa using this
  rw [frsCells_get l i h j hj]; exact hv
theorem rfs_part (l : List Fr) (i : Nat) (h : i < l.length) : ∀ j v, (rCells l[i])[j]? = some v → (rfs l)[i * 4 + j]? = some v := fun j v hv => by
  have hj : j < 4 := by
    have := (List.getElem?_eq_some_iff.1 hv).1
    simpa using this
  rw [rfs_get l i h j hj]; exact hv
def cutR (b i : Nat) (cs : List Value) (b' : Nat) (cs' : List Value) (w : World) : Prop := w.rangeAt b i cs ∧ w.rangeAt b' i cs'
set_option maxRecDepth 100000 in
set_option maxHeartbeats 4000000 in
theorem frameCuts_walk (W w : World) (L : List HP) (hs : Sat W w L) (epoch seq : Nat) (he : epoch < 4294967296) (hseq : seq < 4294967296) (v : Value) (rec : List UInt8) (hv : Has L (bytesAt v rec)) :
    Calls Try.prog 4 #[.int .u32 (epoch : Nat), .int .u32 (seq : Nat), v] w fun e w' => e = .returned (.bool true) ∧ Sat W w' L := by
  obtain ⟨A, cap, rfl, hc1, hc2⟩ := slice_form (hs.bytes hv)
  by_cases hbig : 2000 < rec.length
  · have hbigI : (2000 : Int) < (rec.length : Int) := by omega
    go_enter Try.func4, Try.ntmps4
    go_wp2_with (first
      | (go_at_call 15; go_must (refine (awake5_spec W _ _ hs).mono ?_); clear hs; rintro e w1 ⟨rfl, hs⟩))
    go_ret
    exact ⟨rfl, hs⟩
  · have hbigI : ¬ (2000 : Int) < (rec.length : Int) := by omega
    obtain ⟨n, hn⟩ : ∃ n, (cuts rec).length = n := ⟨_, rfl⟩
    have hcl : Box ((cutF epoch seq rec).length = n) := ⟨by rw [cutF_length, hn]⟩
    have hnb : 0 < n ∧ n ≤ 2001 := by
      have h1 := cuts_count rec
      have h2 := List.length_pos_iff.2 (cuts_ne rec)
      omega
    obtain ⟨hn0, hn1⟩ := hnb
    go_enter Try.func4, Try.ntmps4
    go_wp2_with (first
      | (go_at_call 15; go_must (refine (awake5_spec W _ _ hs).mono ?_); clear hs; rintro e w1 ⟨rfl, hs⟩)
      | (go_at_call 21; go_must (refine (cut_spec W _ _ hs epoch seq he hseq _ rec hv (by omega)).mono ?_); clear hs; rintro e w1 ⟨v8, l8, rfl, hl8, hs⟩; rw [hcl.out] at hs
         obtain ⟨b8, c8, sp, rfl, _, _, _, _⟩ := hs.ownOpen (i := 0) rfl hn0)
      | (refine wpl (o := ⟨some 23, .convert _ _ _, _, _, _, _⟩) rfl fun K hK => ?_; go_must (refine op_to_string rfl Try.underlying23 Try.underlying5 Try.underlying9 rfl (hs.bytes (hv.tail.tail)) (hK _ _ ?_)); clear hK K)
      | (go_at_call 22; go_must (refine (rcut_spec W _ _ hs epoch seq he hseq rec (by omega)).mono ?_); clear hs; rintro e w1 ⟨v9, rfl, hs⟩; rw [hn] at hs
         obtain ⟨b9, c9, sp9, rfl, _, _, _, _⟩ := hs.ownOpen (i := 0) rfl hn0))
    go_loopw [10] (fun v10 wr => ∃ i : Nat, i ≤ n ∧ v10 = .int .i64 (i : Nat) ∧ Sat W wr (own (.slice (some ⟨b9, 0, none⟩) n c9) 33 n 4 (rfs (cutF epoch seq rec)) :: own (.slice (some ⟨b8, 0, none⟩) n c8) 25 n 4 (frsCells l8) :: bods l8 :: L)) (fun v10 _ => n - (intOf v10).toNat)
    case atStart => exact ⟨0, by omega, rfl, hs⟩
    case round =>
      clear hs
      obtain ⟨i, hi, rfl, hs⟩ := hrel
      by_cases hin : i < n
      · have hinI : (i : Int) < (n : Int) := by omega
        have h8l : i < l8.length := by have := congrArg List.length hl8; simp at this; omega
        have h9l : i < (cutF epoch seq rec).length := by rw [hcl.out]; exact hin
        obtain ⟨f, y, hfy⟩ : ∃ f y, l8[i] = (f, y) := ⟨_, _, rfl⟩
        have hf9 : (cutF epoch seq rec)[i] = f := by
          have : (cutF epoch seq rec)[i]? = some f := by rw [← hl8]; simp [h8l, hfy]
          rw [List.getElem?_eq_getElem h9l] at this; exact Option.some.inj this
        have q8 := frs_part l8 i h8l
        rw [hfy] at q8
        have q9 := rfs_part (cutF epoch seq rec) i h9l
        rw [hf9] at q9
        have hb : ∀ F, bods l8 F → bytesAt y f.body F := fun F hF => by have := bods_has h8l F hF; rw [hfy] at this; exact this
        have cS : ∀ w M, Sat W w M → own (.slice (some ⟨b9, 0, none⟩) n c9) 33 n 4 (rfs (cutF epoch seq rec)) ∈ M → own (.slice (some ⟨b8, 0, none⟩) n c8) 25 n 4 (frsCells l8) ∈ M → cutR b8 (i * 4) (frCells f y) b9 (rCells f) w := fun w M h h1 h2 => ⟨own_range h h2 q8, own_range h h1 q9⟩
        have r8 : ∀ w, cutR b8 (i * 4) (frCells f y) b9 (rCells f) w → w.rangeAt b8 (i * 4) (frCells f y) := fun w h => h.1
        have r9 : ∀ w, cutR b8 (i * 4) (frCells f y) b9 (rCells f) w → w.rangeAt b9 (i * 4) (rCells f) := fun w h => h.2
        have hne := fun w => run_equal_rframe f f w
        rw [Fr.same_refl] at hne
        clear hf9 h9l h8l hfy
        go_wp2_with fail
        have hS0 := cS _ _ hs.drew (by (try dsimp only [List.set]); repeat (first | with_reducible exact List.mem_cons_self | with_reducible apply List.mem_cons_of_mem)) (by (try dsimp only [List.set]); repeat (first | with_reducible exact List.mem_cons_self | with_reducible apply List.mem_cons_of_mem))
        refine wp_region_tree (cutR b8 (i * 4) (frCells f y) b9 (rCells f)) (.take 0 (.take 1 (.take 2 (.take 3 (.take 5 (.take 6 (.take 7 (.take 8 (.all [(4, .take 9 (DTree.done))]))))))))) (by kernel_rfl) (by kernel_rfl) (by kernel_rfl) (fun _ _ d _ _ h => by cases d <;> exact h) hS0 ?_
        have hs' := hs.drew
        clear hs
        have hs := hs'
        clear hs'
        have hq := fun p : Prop => class_const hS0 p
        clear hS0
        repeat (first
          | (with_reducible refine tree_load_agg (o := ⟨some 39, .load _ _, _, _, _, _⟩) (frCells f y) rfl rfl rfl rfl ?_ ?_ r8 ?_; (kernel_rfl); (kernel_rfl))
          | (with_reducible refine tree_load_agg (o := ⟨some 44, .load _ _, _, _, _, _⟩) (rCells f) rfl rfl rfl rfl ?_ ?_ r9 ?_; (kernel_rfl); (kernel_rfl))
          | (refine tree_take rfl (fun K hK => ?_); go_simp; with_reducible refine hK _ ?_; clear hK K))
        refine tree_one_yes (o := _) rfl rfl (fun K hK => ?_) (cS _ _ hs (by (try dsimp only [List.set]); repeat (first | with_reducible exact List.mem_cons_self | with_reducible apply List.mem_cons_of_mem)) (by (try dsimp only [List.set]); repeat (first | with_reducible exact List.mem_cons_self | with_reducible apply List.mem_cons_of_mem)))
        try go_simp
        go_at_call 18
        refine (real_spec W _ _ hs f y (Has.mem (A := bods l8) (by (try dsimp only [List.set]); repeat (first | with_reducible exact List.mem_cons_self | with_reducible apply List.mem_cons_of_mem)) hb)).mono ?_
        clear hs
        rintro e w5 ⟨rfl, hs⟩
        try go_simp
        refine hK _ _ (cS _ _ hs (by (try dsimp only [List.set]); repeat (first | with_reducible exact List.mem_cons_self | with_reducible apply List.mem_cons_of_mem)) (by (try dsimp only [List.set]); repeat (first | with_reducible exact List.mem_cons_self | with_reducible apply List.mem_cons_of_mem))) ?_
        clear hK K
        repeat (first
          | (with_reducible refine tree_load_agg (o := ⟨some 39, .load _ _, _, _, _, _⟩) (frCells f y) rfl rfl rfl rfl ?_ ?_ r8 ?_; (kernel_rfl); (kernel_rfl))
          | (with_reducible refine tree_load_agg (o := ⟨some 44, .load _ _, _, _, _, _⟩) (rCells f) rfl rfl rfl rfl ?_ ?_ r9 ?_; (kernel_rfl); (kernel_rfl))
          | (refine tree_take rfl (fun K hK => ?_); go_simp; with_reducible refine hK _ ?_; clear hK K))
        refine tree_done ?_
        clear hq
        go_wp2_with fail
        exact ⟨⟨i + 1, by omega, rfl, hs.pack (by repeat (first | with_reducible exact Pack.refl | with_reducible exact Pack.nil | with_reducible refine Pack.cons (by repeat (first | with_reducible exact Pick.here | with_reducible apply Pick.there)) ?_ | with_reducible apply Pack.drop))⟩, by show n - ((i : Int) + 1).toNat < n - (i : Int).toNat; omega⟩
      · have hinI : ¬ (i : Int) < (n : Int) := by omega
        go_wp2_with fail
        go_ret
        exact ⟨rfl, hs.pack (by repeat (first | with_reducible exact Pack.refl | with_reducible exact Pack.nil | with_reducible refine Pack.cons (by repeat (first | with_reducible exact Pick.here | with_reducible apply Pick.there)) ?_ | with_reducible apply Pack.drop))⟩
theorem u32_arg {W : World} {n : Int} {v : Value} (h : (Kin.int .u32).K (hp W) n [v]) : ∃ m : Nat, m < 4294967296 ∧ v = .int .u32 (m : Nat) := by
  obtain ⟨e1, hn⟩ := h
  have hn' : 0 ≤ n ∧ n ≤ 4294967295 := by simpa [Lit.wf, IntKind.min, IntKind.max, IntKind.signed, IntKind.bits] using hn
  obtain ⟨m, rfl⟩ := Int.eq_ofNat_of_zero_le hn'.1
  cases e1
  exact ⟨m, by omega, rfl⟩
theorem frameCuts_main (W : World) (e : Int) (v0 : Value) (h0 : (Kin.int .u32).K (hp W) e [v0]) (s : Int) (v1 : Value) (h1 : (Kin.int .u32).K (hp W) s [v1]) (l : List UInt8) (v : Value) (h2 : (Kin.slice 1 Kin.u8).K (hp W) l [v]) :
    Calls Try.prog 4 #[v0, v1, v] W fun e w' => e = .returned (.bool true) ∧ Below W.heap.size W w' := by
  obtain ⟨e, he, rfl⟩ := u32_arg h0
  obtain ⟨s, hs, rfl⟩ := u32_arg h1
  obtain ⟨hb, hl⟩ := kin_bytes h2
  exact (frameCuts_walk W W _ (Sat.start W) e s he hs v l ((has_old h2).imp fun F hF => (kin_bytes hF).1)).mono fun e w' ⟨he, hs⟩ => ⟨he, hs.end_ m0⟩
end Go.Proofs.Ytoedmjibhpajjaa
