/- For every state and all bytes the law RedoStates returns true, and the arguments read as before, where the arguments are together of bulk at most 1048576, and MaxLen holds whatever integer, and the listed variables lie as the library lays them; the claim is the card of the bounded statement, tied to the text of this pruned copy. -/
import Derived.Test.YthjnefpnnifjiaaDoorTiedE
import Derived.Test.YthjnefpnnifjiaaDoorRdStates
set_option linter.unusedVariables false
namespace Go.Proofs.YthjnefpnnifjiaaDoor.lawRedoStates
open Go.ChangeShapes Go.WideShapes Go.ChangeAt Go.RowKit
theorem fits0 : FitsU Tryd.prog 39 (stKin) := fits_st
theorem fits1 : FitsU Tryd.prog 25 (Kin.slice 1 Kin.u8) := fitsU_of (fits_slice Tryd.underlying25 (by kernel_rfl) (fits_u8 Tryd.underlying5 (by kernel_rfl)) (by decide) (by kernel_rfl))
theorem laid_met (os : Os) : laidMet Tryd.prog Rows.redoStatesUptoRow.laid ((laidWorld os).forCall (fun _ _ => 0) ⟨#[], #[.agg #[.int .i64 0, .int .u32 0, .int .u32 0, .slice none 0 0], .slice none 0 0], []⟩).memory :=
  laidMet_laidAll _ (by kernel_rfl) (by kernel_rfl)
set_option maxRecDepth 100000 in
theorem lifted (os : Os) (started : os.Started) (H : Type) (enc : TypeId × Value → H) (F : Stop.Interp) :
    ReturnsInHanded {} Tryd.checked os 7 .any ((Rows.OpenSpec.upto Rows.redoStatesSpec).preRow enc Tryd.prog Tryd.f7 Rows.redoStatesUptoRow.domain false Rows.redoStatesUptoRow.laid) (((Rows.OpenSpec.upto Rows.redoStatesSpec).at F).post enc Tryd.prog Tryd.f7 false true false false) := by
  refine returnsInHanded_of_row (C := Tryd.checked) (s := (Rows.OpenSpec.upto Rows.redoStatesSpec)) own_knob started (by kernel_rfl) Tryd.func7
    (witness_row_at (enc := enc) (C := Tryd.checked) false (laidWorld os) #[.agg #[.int .i64 0, .int .u32 0, .int .u32 0, .slice none 0 0], .slice none 0 0] rfl (by kernel_rfl) (by kernel_rfl) (by kernel_rfl)
      (OpenSpec.preRow_of_cond 8 (x := ([.agg [.lit (.int .i64 0), .lit (.int .u32 0), .lit (.int .u32 0), .nil], .nil], [], [])) (by kernel_rfl) (by kernel_rfl) (fun k hk => by cases hk; kernel_rfl) (by kernel_rfl) (laid_met os))) ?_
  intro W base args ds gs before hval0 hW _ hcond hsz0 hL hsh _
  have hb := hcond _ rfl
  obtain ⟨mx, hmx⟩ := maxLen_shaped hsh
  have hsz : (DataW.weightsEach Tryd.prog (Tryd.f7.params.toList ++ Rows.redoStatesSpec.plain.varTypes Tryd.prog) (ds ++ gs)).all (· ≤ reachBytes) = true := hsz0
  have hval : ∀ (j : Nat) t v, Tryd.f7.params[j]? = some t → args[j]? = some v → Value.okWide Tryd.prog W .any base t v := hval0
  have hW' := hW
  obtain ⟨p, q, hA0, hV, rfl, hfz, hnd⟩ := hW
  have hA : DataW.TrodAll enc Tryd.prog W 0 (fun _ => true) true Tryd.f7.params.toList args.toList ds p := hA0
  rw [Tryd.params7] at hA hval hsz
  obtain ⟨v0, vs0, d0, ds0, p0, q0, hargs, rfl, rfl, h0, r0⟩ := trodAll_cons hA
  obtain ⟨v1, vs1, d1, ds1, p1, q1, rfl, rfl, rfl, h1, r1⟩ := trodAll_cons r0
  obtain ⟨rfl, rfl, rfl⟩ := trodAll_nil r1
  obtain rfl : args = #[v0, v1] := by cases args; simp_all
  obtain ⟨rfl, rfl⟩ := trodVars_none hV
  obtain ⟨x0, k0⟩ := arg_readU fits0 h0 hsz hb (j := 0) rfl rfl
  have lt0 : ∀ x ∈ p0, x.block < W.heap.size := by obtain ⟨m, hm⟩ := h0; exact DataW.trod_lt m _ _ _ hm
  obtain ⟨c0, rfl⟩ := arg_agg (by kernel_rfl) (hval 0 39 v0 rfl rfl)
  simp only [Value.cells, List.toList_toArray] at k0
  obtain ⟨x1, k1⟩ := arg_readU fits1 h1 hsz hb (j := 1) rfl rfl
  have lt1 : ∀ x ∈ p1, x.block < W.heap.size := by obtain ⟨m, hm⟩ := h1; exact DataW.trod_lt m _ _ _ hm
  rw [arg_single (by kernel_rfl) (hval 1 25 v1 rfl rfl)] at k1
  clear hA0 hval0 hsz0 hsz hval hb hcond hL hsh
  refine (redoStates_main W ⟨mx, hmx⟩ x0 c0 k0 x1 v1 k1).mono fun e W' ⟨he, bel⟩ => ?_
  subst he
  exact ⟨_, rfl, _, _, _, [], _, [], hW', trodAll_mk1 (shut_bool Tryd.underlying4 _), (trodAll_cons_mk (Below.trod laid_out (by kernel_rfl) (of_decide_eq_true (by kernel_rfl)) h0 bel lt0) (trodAll_cons_mk (Below.trod laid_out (by kernel_rfl) (of_decide_eq_true (by kernel_rfl)) h1 bel lt1) trodAll_mk0)), rfl, bel.frame _, fun h => by cases h⟩
theorem said : Rows.RedoStatesUptoSaid :=
  OpenClaim.holds_of_cond 7 Tryd.f7 rfl rfl rfl rfl rfl rfl rfl ⟨rfl, rfl, rfl, rfl, rfl⟩ rfl rfl rfl rfl rfl (by kernel_rfl) Tryd.func7 (by kernel_rfl)
    (of_decide_eq_true (by kernel_rfl)) (by unfold Func.isWrapper; first | (rw [if_pos (by decide +kernel)]; kernel_rfl) | (rw [if_neg (by decide +kernel)]; exact ⟨rfl, rfl⟩))
    (fun os started H enc _ F => by rw [OpenClaim.pre_eq_preRow]; exact lifted os started H enc F)
theorem proved : Rows.RedoStatesUptoCardSaid :=
  Claim7.holds_tied_plain_at .later [] _ _ _ _ said (fun _ h => by cases h) (by kernel_rfl) (fun _ h => by cases h) redoStatesUpto_row_tie rfl ⟨rfl, rfl⟩ (by kernel_rfl) rfl
    (fun f fn hf hfn => by
      have e : some f = some 7 := hf.symm.trans (by kernel_rfl)
      obtain rfl : f = 7 := Option.some.inj e
      obtain rfl : fn = Tryd.f7 := (Option.some.inj (Tryd.func7.symm.trans hfn)).symm
      refine ⟨by kernel_rfl, fun j t ht => ?_⟩
      rw [Tryd.params7] at ht
      have hm := Array.mem_of_getElem? ht
      simp only [List.mem_toArray, List.mem_cons, List.not_mem_nil, or_false] at hm
      rcases hm with rfl | rfl
      · exact (show Tryd.prog.wantsStandIn 39 = false by kernel_rfl)
      · exact (show Tryd.prog.wantsStandIn 25 = false by kernel_rfl)) (by kernel_rfl)
#print axioms proved
end Go.Proofs.YthjnefpnnifjiaaDoor.lawRedoStates
