/- Towards the contract of ogiveref06.Append: no room. -/
import Derived.Test.YtoedmjibhpajjaaRgRef
import Derived.Test.YtoedmjibhpajjaaRgApp
import Derived.Test.YtoedmjibhpajjaaRCut
import Derived.Test.YtoedmjibhpajjaaVdRefW
set_option linter.unusedVariables false
set_option linter.unusedSimpArgs false
namespace Go.Proofs.Ytoedmjibhpajjaa
open Go.RowKit
theorem run_results_cell_tmp2 {P : Program} {w : World} {fn : Func} {p u v : Tmp} {ty : TypeId} (h : fn.results = #[.cell p ty, .tmp u, .tmp v]) {tmps : Array Value} {b : Nat} (hp : tmps.getD p undef = .pointer (some ⟨b, 0, none⟩)) (cs : List Value) (hc : w.rangeAt b 0 cs)
    (hd : ((P.underlying ty).map TypeDesc.isRow) = some true) (hi : (P.info? ty).map (·.size) = some cs.length) : (results fn tmps).run P w = .ok (.tuple #[.agg cs.toArray, tmps.getD u undef, tmps.getD v undef]) w := by
  cases hu : P.underlying ty with
  | none => simp [hu] at hd
  | some d =>
    have hp' : tmps[p]?.getD undef = .pointer (some ⟨b, 0, none⟩) := by simpa using hp
    simp [results, h, hp', asAddr, run_loadVar_mid w b 0 ty cs d hc hu (by simpa [hu] using hd) hi]
theorem rpack_row (W w : World) (L : List HP) (hs : Sat W w L) (f : Fr) (ok : f.Ok) (h50 : f.body.length ≤ 50) :
    Calls Try.prog 17 #[.agg (rCells f).toArray] w fun e w' => e = .returned (.tuple #[(.string ⟨(f.pack).toArray⟩), .int .i64 0]) ∧ Sat W w' L := rpack_spec W w L hs f ok h50
theorem rfs_prt (l : List Fr) (i : Nat) (h : i < l.length) : ∀ j v, (rCells l[i])[j]? = some v → (rfs l)[i * 4 + j]? = some v := fun j v hv => by
  have hj : j < 4 := by
    have := (List.getElem?_eq_some_iff.1 hv).1
    simpa using this
  rw [rfs_get l i h j hj]; exact hv
def cutS (b : Nat) (cs : List Value) (c i : Nat) (ds : List Value) (w : World) : Prop := w.rangeAt b 0 cs ∧ w.rangeAt c i ds
def zrCells : List Value := [.slice none 0 0, .slice none 0 0, .slice none 0 0, .int .i64 0, .int .i64 0, .int .u32 0, .int .u32 0, .int .u32 0]
set_option maxRecDepth 100000 in
set_option maxHeartbeats 8000000 in
theorem rappend_not (W w : World) (L : List HP) (vs va vr : Value) (R : Rg) (ok : R.Ok) (hs : Sat W w (ref vs va vr R.D :: L)) (rec : List UInt8) (hl : rec.length ≤ 100000) (hr : R.D.row.length ≤ 800000) (hno : R.free < (cuts rec).length ∨ 1073741824 < R.next + (cuts rec).length) :
    Calls Try.prog 54 #[.agg (rrCells vs va vr R).toArray, (.string ⟨(rec).toArray⟩)] w fun e w' => ∃ vs' va' vr', e = .returned (.tuple #[.agg (rrCells vs' va' vr' (R.append rec)).toArray, .int .u32 (R.told rec : Nat), .int .i64 (R.code rec : Nat)]) ∧ Sat W w' (ref vs' va' vr' (R.append rec).D :: L) := by
  obtain ⟨As, cs, rfl, _, _⟩ := slice_form (hs.slice (ref_secs m0))
  obtain ⟨Aa, ca, rfl, _, _⟩ := slice_form (hs.slice (ref_ats m0))
  obtain ⟨Ar, cr, rfl, _, _⟩ := slice_form (hs.slice (ref_row m0))
  obtain ⟨n, hn⟩ : ∃ n, (cuts rec).length = n := ⟨_, rfl⟩
  rw [hn] at hno
  have hcl : Box ((cutF R.epoch R.next rec).length = n) := ⟨by rw [cutF_length, hn]⟩
  have hnb : 0 < n ∧ n ≤ 100001 := by
    have h1 := cuts_count rec
    have h2 := List.length_pos_iff.2 (cuts_ne rec)
    omega
  obtain ⟨hn0, hn1⟩ := hnb
  have hnext := ok.top
  have hnextb : R.next < 4294967296 := by omega
  have hw2 : IntKind.i64.wrap (R.next : Int) = (R.next : Int) := by rw [IntKind.wrap_i64]; omega
  have hw5 : IntKind.i64.wrap ((R.next : Int) + (n : Int)) = (R.next : Int) + (n : Int) := by rw [IntKind.wrap_i64]; omega
  by_cases hfree : R.free < n
  · have hcode : R.code rec = 3 := by unfold Rg.code; rw [hn, if_pos hfree]
    have htold : R.told rec = 0 := by unfold Rg.told; rw [hcode]; rfl
    have happ : R.append rec = R := by unfold Rg.append; rw [hcode]; rfl
    rw [hcode, htold, happ]
    clear hcode htold happ
    have hfreeI : (R.free : Int) < (n : Int) := by omega
    go_enter Try.func54, Try.ntmps54
    go_wp2_with (first
      | (guard_target = wpList _ _ _ (⟨some 2, .box _ _, _, _, _, _⟩ :: _) _ _; refine wpl (o := ⟨some 2, .box _ _, _, _, _, _⟩) rfl fun K hK => ?_; go_must (refine op_box hs rfl _ rfl (rrCells (.slice As R.D.secs.length cs) (.slice Aa R.D.row.length ca) (.slice Ar R.D.row.length cr) R) rfl fun b2 w1 h => hK _ _ ?_); clear hs hK K; have hs := h; clear h; try dsimp only [List.set] at hs)
      | (guard_target = wpList _ _ _ (⟨some 4, .alloc _, _, _, _, _⟩ :: _) _ _; refine wpl (o := ⟨some 4, .alloc _, _, _, _, _⟩) rfl fun K hK => ?_; go_must (refine op_alloc hs rfl _ zrref zrCells rfl fun b4 w1 h => hK _ _ ?_); clear hs hK K; have hs := h; clear h; try dsimp only [List.set] at hs)
      | (guard_target = wpList _ _ _ (⟨some 14, .load _ _, _, _, _, _⟩ :: _) _ _; refine wpl (o := ⟨some 14, .load _ _, _, _, _, _⟩) rfl fun K hK => op_load rfl (ad := ⟨b2, 5, none⟩) rfl (by kernel_rfl) (hs.cell m1 rfl) (hK _ _ ?_); clear hK K)
      | (guard_target = wpList _ _ _ (⟨some 16, .load _ _, _, _, _, _⟩ :: _) _ _; refine wpl (o := ⟨some 16, .load _ _, _, _, _, _⟩) rfl fun K hK => op_load rfl (ad := ⟨b2, 7, none⟩) rfl (by kernel_rfl) (hs.cell m1 rfl) (hK _ _ ?_); clear hK K)
      | (go_at_call 22; go_must (refine (rcut_spec W _ _ hs R.epoch R.next ok.ep hnextb rec (by omega)).mono ?_); clear hs; rintro e w1 ⟨v7, rfl, hs⟩; rw [hn] at hs
         obtain ⟨A7, c7, rfl, _, _⟩ := own_slice hs (i := 0) rfl)
      | (guard_target = wpList _ _ _ (⟨some 21, .load _ _, _, _, _, _⟩ :: _) _ _; refine wpl (o := ⟨some 21, .load _ _, _, _, _, _⟩) rfl fun K hK => op_load_agg rfl (b := b2) (i := 0) rfl (rrCells (.slice As R.D.secs.length cs) (.slice Aa R.D.row.length ca) (.slice Ar R.D.row.length cr) R) (range_whole hs (by (try dsimp only [List.set]); repeat (first | with_reducible exact List.mem_cons_self | with_reducible apply List.mem_cons_of_mem))) (by kernel_rfl) (by kernel_rfl) (hK _ _ ?_); clear hK K)
      | (go_at_call 38; go_must (refine (rrfree_spec W _ _ hs _ _ _ R ok).mono ?_); clear hs; rintro e w1 ⟨rfl, hs⟩)
      | (guard_target = wpList _ _ _ (⟨some 24, .load _ _, _, _, _, _⟩ :: _) _ _; refine wpl (o := ⟨some 24, .load _ _, _, _, _, _⟩) rfl fun K hK => op_load_agg rfl (b := b2) (i := 0) rfl (rrCells (.slice As R.D.secs.length cs) (.slice Aa R.D.row.length ca) (.slice Ar R.D.row.length cr) R) (range_whole hs (by (try dsimp only [List.set]); repeat (first | with_reducible exact List.mem_cons_self | with_reducible apply List.mem_cons_of_mem))) (by kernel_rfl) (by kernel_rfl) (hK _ _ ?_); clear hK K)
      | (guard_target = wpList _ _ _ (⟨none, .store _ (.tmp 4) _, _, _, _, _⟩ :: _) _ _; refine wpl (o := ⟨none, .store _ (.tmp 4) _, _, _, _, _⟩) rfl fun K hK => ?_; go_must (refine op_store_whole hs (b := b4) rfl rfl (rrCells (.slice As R.D.secs.length cs) (.slice Aa R.D.row.length ca) (.slice Ar R.D.row.length cr) R) rfl (rri_one rfl rfl rfl _ _ _ _ _) (by kernel_rfl) (k := 1) rfl rfl fun w3 h => hK _ _ ?_); clear hs hK K; have hs := h; clear h; try dsimp only [List.set] at hs))
    refine bodyPost_ret (run_results_cell_tmp2 rfl (b := b4) rfl _ (range_whole hs m1) (by kernel_rfl) (by kernel_rfl)) rfl ⟨_, _, _, rfl, hs.pack (by repeat (first | with_reducible exact Pack.refl | with_reducible exact Pack.nil | with_reducible refine Pack.cons (by repeat (first | with_reducible exact Pick.here | with_reducible apply Pick.there)) ?_ | with_reducible apply Pack.drop))⟩
  have hfreeI : ¬ (R.free : Int) < (n : Int) := by omega
  by_cases hover : 1073741824 < R.next + n
  · have hcode : R.code rec = 10 := by unfold Rg.code; rw [hn, if_neg hfree, if_pos hover]
    have htold : R.told rec = 0 := by unfold Rg.told; rw [hcode]; rfl
    have happ : R.append rec = R := by unfold Rg.append; rw [hcode]; rfl
    rw [hcode, htold, happ]
    clear hcode htold happ
    have hoverI : (1073741824 : Int) < (R.next : Int) + (n : Int) := by omega
    go_enter Try.func54, Try.ntmps54
    go_wp2_with (first
      | (guard_target = wpList _ _ _ (⟨some 2, .box _ _, _, _, _, _⟩ :: _) _ _; refine wpl (o := ⟨some 2, .box _ _, _, _, _, _⟩) rfl fun K hK => ?_; go_must (refine op_box hs rfl _ rfl (rrCells (.slice As R.D.secs.length cs) (.slice Aa R.D.row.length ca) (.slice Ar R.D.row.length cr) R) rfl fun b2 w1 h => hK _ _ ?_); clear hs hK K; have hs := h; clear h; try dsimp only [List.set] at hs)
      | (guard_target = wpList _ _ _ (⟨some 4, .alloc _, _, _, _, _⟩ :: _) _ _; refine wpl (o := ⟨some 4, .alloc _, _, _, _, _⟩) rfl fun K hK => ?_; go_must (refine op_alloc hs rfl _ zrref zrCells rfl fun b4 w1 h => hK _ _ ?_); clear hs hK K; have hs := h; clear h; try dsimp only [List.set] at hs)
      | (guard_target = wpList _ _ _ (⟨some 14, .load _ _, _, _, _, _⟩ :: _) _ _; refine wpl (o := ⟨some 14, .load _ _, _, _, _, _⟩) rfl fun K hK => op_load rfl (ad := ⟨b2, 5, none⟩) rfl (by kernel_rfl) (hs.cell m1 rfl) (hK _ _ ?_); clear hK K)
      | (guard_target = wpList _ _ _ (⟨some 16, .load _ _, _, _, _, _⟩ :: _) _ _; refine wpl (o := ⟨some 16, .load _ _, _, _, _, _⟩) rfl fun K hK => op_load rfl (ad := ⟨b2, 7, none⟩) rfl (by kernel_rfl) (hs.cell m1 rfl) (hK _ _ ?_); clear hK K)
      | (go_at_call 22; go_must (refine (rcut_spec W _ _ hs R.epoch R.next ok.ep hnextb rec (by omega)).mono ?_); clear hs; rintro e w1 ⟨v7, rfl, hs⟩; rw [hn] at hs
         obtain ⟨A7, c7, rfl, _, _⟩ := own_slice hs (i := 0) rfl)
      | (guard_target = wpList _ _ _ (⟨some 21, .load _ _, _, _, _, _⟩ :: _) _ _; refine wpl (o := ⟨some 21, .load _ _, _, _, _, _⟩) rfl fun K hK => op_load_agg rfl (b := b2) (i := 0) rfl (rrCells (.slice As R.D.secs.length cs) (.slice Aa R.D.row.length ca) (.slice Ar R.D.row.length cr) R) (range_whole hs (by (try dsimp only [List.set]); repeat (first | with_reducible exact List.mem_cons_self | with_reducible apply List.mem_cons_of_mem))) (by kernel_rfl) (by kernel_rfl) (hK _ _ ?_); clear hK K)
      | (go_at_call 38; go_must (refine (rrfree_spec W _ _ hs _ _ _ R ok).mono ?_); clear hs; rintro e w1 ⟨rfl, hs⟩)
      | (guard_target = wpList _ _ _ (⟨some 26, .load _ _, _, _, _, _⟩ :: _) _ _; refine wpl (o := ⟨some 26, .load _ _, _, _, _, _⟩) rfl fun K hK => op_load rfl (ad := ⟨b2, 7, none⟩) rfl (by kernel_rfl) (hs.cell m2 rfl) (hK _ _ ?_); clear hK K)
      | (guard_target = wpList _ _ _ (⟨some 32, .load _ _, _, _, _, _⟩ :: _) _ _; refine wpl (o := ⟨some 32, .load _ _, _, _, _, _⟩) rfl fun K hK => op_load_agg rfl (b := b2) (i := 0) rfl (rrCells (.slice As R.D.secs.length cs) (.slice Aa R.D.row.length ca) (.slice Ar R.D.row.length cr) R) (range_whole hs (by (try dsimp only [List.set]); repeat (first | with_reducible exact List.mem_cons_self | with_reducible apply List.mem_cons_of_mem))) (by kernel_rfl) (by kernel_rfl) (hK _ _ ?_); clear hK K)
      | (guard_target = wpList _ _ _ (⟨none, .store _ (.tmp 4) _, _, _, _, _⟩ :: _) _ _; refine wpl (o := ⟨none, .store _ (.tmp 4) _, _, _, _, _⟩) rfl fun K hK => ?_; go_must (refine op_store_whole hs (b := b4) rfl rfl (rrCells (.slice As R.D.secs.length cs) (.slice Aa R.D.row.length ca) (.slice Ar R.D.row.length cr) R) rfl (rri_one rfl rfl rfl _ _ _ _ _) (by kernel_rfl) (k := 1) rfl rfl fun w3 h => hK _ _ ?_); clear hs hK K; have hs := h; clear h; try dsimp only [List.set] at hs))
    refine bodyPost_ret (run_results_cell_tmp2 rfl (b := b4) rfl _ (range_whole hs m1) (by kernel_rfl) (by kernel_rfl)) rfl ⟨_, _, _, rfl, hs.pack (by repeat (first | with_reducible exact Pack.refl | with_reducible exact Pack.nil | with_reducible refine Pack.cons (by repeat (first | with_reducible exact Pick.here | with_reducible apply Pick.there)) ?_ | with_reducible apply Pack.drop))⟩
  exfalso
  omega
end Go.Proofs.Ytoedmjibhpajjaa
