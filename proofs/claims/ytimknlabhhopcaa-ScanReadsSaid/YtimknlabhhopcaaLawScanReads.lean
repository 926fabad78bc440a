/- For every slice of slices of bytes, every place and every number of 32 bits the law ScanReads returns true, and the arguments read as before; no conditions. -/
import Derived.Test.YtimknlabhhopcaaLift
import Derived.Test.YtimknlabhhopcaaScReads
set_option linter.unusedVariables false
namespace Go.Proofs.Ytimknlabhhopcaa.lawScanReads
open Go.ChangeShapes Go.WideShapes Go.ChangeAt Go.RowKit
theorem fits0 : Fits Try.prog 22 (Kin.slice 24 (Kin.slice 1 Kin.u8)) := fits_olds
theorem fits1 : Fits Try.prog 25 (plKin) := fits_place
theorem fits2 : Fits Try.prog 23 (Kin.int .u32) := fits_int Try.underlying23 (by kernel_rfl)
set_option maxRecDepth 100000 in
theorem lifted (os : Os) (started : os.Started) (H : Type) (enc : TypeId × Value → H) :
    ReturnsInHanded {} Try.checked os 3 .any (Rows.scanReadsSpec.pre6 enc Try.prog Try.f3 Rows.scanReadsRow.domain false) (Rows.scanReadsSpec.post enc Try.prog Try.f3 false true false false) := by
  refine returnsInHanded_of_change_sized (C := Try.checked) own_knob started (by kernel_rfl) Try.func3
    (ChangeSpec.witness6 (enc := enc) (C := Try.checked) false ⟨#[], #[.slice none 0 0, .agg #[.int .i64 0, .int .i64 0, .int .u32 0], .int .u32 0], []⟩ 8 (by kernel_rfl) (by kernel_rfl) (by kernel_rfl) (by kernel_rfl)) ?_
  intro W base args ds gs before hval0 hW hcnd hsz0 _
  have hsz : (DataW.weightsEach Try.prog (Try.f3.params.toList ++ Rows.scanReadsSpec.plain.varTypes Try.prog) (ds ++ gs)).all (· ≤ reachBytes) = true := hsz0
  have hval : ∀ (j : Nat) t v, Try.f3.params[j]? = some t → args[j]? = some v → Value.okWide Try.prog W .any base t v := hval0
  have hW' := hW
  obtain ⟨p, q, hA0, hV, rfl, hfz, hnd⟩ := hW
  have hA : DataW.TrodAll enc Try.prog W 0 (fun _ => true) true Try.f3.params.toList args.toList ds p := hA0
  rw [Try.params3] at hA hval hsz
  obtain ⟨v0, vs0, d0, ds0, p0, q0, hargs, rfl, rfl, h0, r0⟩ := trodAll_cons hA
  obtain ⟨v1, vs1, d1, ds1, p1, q1, rfl, rfl, rfl, h1, r1⟩ := trodAll_cons r0
  obtain ⟨v2, vs2, d2, ds2, p2, q2, rfl, rfl, rfl, h2, r2⟩ := trodAll_cons r1
  obtain ⟨rfl, rfl, rfl⟩ := trodAll_nil r2
  obtain rfl : args = #[v0, v1, v2] := by cases args; simp_all
  obtain ⟨rfl, rfl⟩ := trodVars_none hV
  obtain ⟨x0, k0⟩ := arg_read fits0 h0 hsz (j := 0) rfl rfl
  have lt0 : ∀ x ∈ p0, x.block < W.heap.size := by obtain ⟨m, hm⟩ := h0; exact DataW.trod_lt m _ _ _ hm
  rw [arg_single (by kernel_rfl) (hval 0 22 v0 rfl rfl)] at k0
  obtain ⟨x1, k1⟩ := arg_read fits1 h1 hsz (j := 1) rfl rfl
  have lt1 : ∀ x ∈ p1, x.block < W.heap.size := by obtain ⟨m, hm⟩ := h1; exact DataW.trod_lt m _ _ _ hm
  obtain ⟨c1, rfl⟩ := arg_agg (by kernel_rfl) (hval 1 25 v1 rfl rfl)
  simp only [Value.cells, List.toList_toArray] at k1
  obtain ⟨x2, k2⟩ := arg_read fits2 h2 hsz (j := 2) rfl rfl
  have lt2 : ∀ x ∈ p2, x.block < W.heap.size := by obtain ⟨m, hm⟩ := h2; exact DataW.trod_lt m _ _ _ hm
  rw [arg_single (by kernel_rfl) (hval 2 23 v2 rfl rfl)] at k2
  clear hA0 hval0 hsz0 hsz hval
  refine (scanReads_main W x0 v0 k0 x1 c1 k1 x2 v2 k2).mono fun e W' ⟨he, bel⟩ => ?_
  subst he
  exact ⟨_, rfl, _, _, _, [], _, [], hW', trodAll_mk1 (shut_bool Try.underlying4 _), (trodAll_cons_mk (Below.trod laid_out (by kernel_rfl) (of_decide_eq_true (by kernel_rfl)) h0 bel lt0) (trodAll_cons_mk (Below.trod laid_out (by kernel_rfl) (of_decide_eq_true (by kernel_rfl)) h1 bel lt1) (trodAll_cons_mk (Below.trod laid_out (by kernel_rfl) (of_decide_eq_true (by kernel_rfl)) h2 bel lt2) trodAll_mk0))), rfl, bel.frame _, fun h => by cases h⟩
theorem over : Rows.scanReadsRow.holds Try.pinned (OpenSpec.ofChange Rows.scanReadsSpec) :=
  OpenClaim.holds_of_wide 3 Try.f3 rfl rfl rfl rfl rfl rfl rfl ⟨rfl, rfl, rfl, rfl, rfl⟩ rfl rfl rfl rfl rfl (by kernel_rfl) Try.func3 (by kernel_rfl)
    (of_decide_eq_true (by kernel_rfl)) (by unfold Func.isWrapper; first | (rw [if_pos (by decide +kernel)]; kernel_rfl) | (rw [if_neg (by decide +kernel)]; exact ⟨rfl, rfl⟩))
    (fun os started H enc _ => lifted os started H enc)
theorem proved : Rows.ScanReadsSaid := over
#print axioms proved
end Go.Proofs.Ytimknlabhhopcaa.lawScanReads
