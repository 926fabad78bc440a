/- The example of the laws of layer 3; values as arguments. -/
import Derived.Test.YtgmfgdioaeheoaaDoorValT
import Derived.Test.YtgmfgdioaeheoaaDoorKinU
set_option linter.unusedVariables false
set_option linter.unusedSimpArgs false
namespace Go.Proofs.YtgmfgdioaeheoaaDoor
open Go.RowKit
def valKin : Kin Vl := (Kin.pair (Kin.int .i64) (Kin.pair (Kin.int .i64) (Kin.pair strU Kin.unit))).iso fun v => (v.t, v.n, v.s, ())
theorem fits_val : FitsU Tryd.prog 48 valKin :=
  fitsU_iso (fun x : Int × Int × List UInt8 × Unit => (⟨x.1, x.2.1, x.2.2.1⟩ : Vl)) (fun _ => rfl)
    (fitsU_struct Tryd.underlying48 (by kernel_rfl)
      (fitsUL_cons rfl (fitsU_of (fits_int Tryd.underlying3 (by kernel_rfl)))
        (fitsUL_cons rfl (fitsU_of (fits_int Tryd.underlying2 (by kernel_rfl)))
          (fitsUL_cons rfl (fitsU_str Tryd.underlying9 (by kernel_rfl))
            (fitsUL_nil _)))))
theorem val_val {W : World} {v : Vl} {cs : List Value} (h : valKin.K (hp W) v cs) : (-9223372036854775808 ≤ v.t ∧ v.t < 9223372036854775808) ∧ (-9223372036854775808 ≤ v.n ∧ v.n < 9223372036854775808) ∧ v.s.length ≤ 1048576 ∧ cs = [.int .i64 (v.t), .int .i64 (v.n), .string ⟨(v.s).toArray⟩] := by
  obtain ⟨c1, d1, rfl, h1, c2, d2, rfl, h2, c3, d3, rfl, h3, h4⟩ := h
  obtain ⟨e1, w1⟩ := h1
  obtain ⟨e2, w2⟩ := h2
  obtain ⟨e3, l3⟩ := h3
  cases h4
  have hb : ∀ n : Int, (Lit.int .i64 n).wf = true → -9223372036854775808 ≤ n ∧ n < 9223372036854775808 := fun n h => by
    have hn' : -9223372036854775808 ≤ n ∧ n ≤ 9223372036854775807 := by simpa [Lit.wf, IntKind.min, IntKind.max, IntKind.signed, IntKind.bits] using h
    omega
  refine ⟨hb _ w1, hb _ w2, l3, ?_⟩
  rw [e1, e2, e3]; rfl
theorem tvV_some (v : Vl) (x : List UInt8) : tvV (some (v, x)) = .tuple #[(.agg #[.int .i64 (v.t), .int .i64 (v.n), .string ⟨(v.s).toArray⟩]), (.string ⟨(x).toArray⟩), .int .i64 0] := rfl
theorem tvV_form (l : List UInt8) : ∃ (t n : Int) (s x : List UInt8) (c : Nat), tvV (takeV l) = .tuple #[(.agg #[.int .i64 (t), .int .i64 (n), .string ⟨(s).toArray⟩]), (.string ⟨(x).toArray⟩), .int .i64 (c : Nat)] := by
  cases h : takeV l with
  | none => exact ⟨0, 0, [], [], 2, rfl⟩
  | some p => exact ⟨p.1.t, p.1.n, p.1.s, p.2, 0, rfl⟩
theorem run_eql_val (t n t' n' : Int) (s s' : List UInt8) (w : World) : (Op.equalIn 10000 48 (.agg #[.int .i64 (t), .int .i64 (n), .string ⟨(s).toArray⟩]) (.agg #[.int .i64 (t'), .int .i64 (n'), .string ⟨(s').toArray⟩])).run Tryd.prog w = .ok ((⟨t, n, s⟩ : Vl).same ⟨t', n', s'⟩) w := run_equal_val t n t' n' s s' w
set_option maxRecDepth 100000 in
set_option maxHeartbeats 4000000 in
theorem awake3_spec (W w : World) (L : List HP) (hs : Sat W w L) (hold : old W ∈ L) (hm : maxLenIs W) :
    Calls Tryd.prog 28 #[] w fun e w' => e = .returned (.bool true) ∧ Sat W w' L := by
  have hz := run_zero (P := Tryd.prog) zval
  have HM := Box.mk hm
  clear hm
  have he := run_eql_val 2 0 2 0 [97, 98] [97, 98]
  rw [(Vl.same_iff _ _).2 rfl] at he
  have HP1 : Box (putB ⟨2, 0, [97, 98]⟩ = [2, 97, 98, 0, 1]) := ⟨by decide⟩
  have hcat : (⟨#[2, 97, 98, 0, 1]⟩ : ByteArray) ++ (⟨#[122]⟩ : ByteArray) = ⟨#[2, 97, 98, 0, 1, 122]⟩ := by decide
  have HT : Box (tvV (takeV [2, 97, 98, 0, 1, 122]) = .tuple #[(.agg #[.int .i64 (2), .int .i64 (0), .string ⟨([97, 98]).toArray⟩]), (.string ⟨([122]).toArray⟩), .int .i64 0]) := ⟨by
    rw [show takeV [2, 97, 98, 0, 1, 122] = some (⟨2, 0, [97, 98]⟩, [122]) from takeV_put (v := ⟨2, 0, [97, 98]⟩) ⟨⟨by decide, by decide⟩, ⟨by decide, by decide⟩, by decide⟩ (by decide) [122]]; rfl⟩
  have HMAY : Box (mayB ⟨2, 0, [97, 98]⟩ = true) := ⟨by decide⟩
  have HC : Box (cmpV ⟨1, 9, []⟩ ⟨2, 0, [97, 98]⟩ = -1) := ⟨by decide⟩
  go_enter Tryd.func28, Tryd.ntmps28
  go_wp2_with (first
    | (guard_target = wpList _ _ _ (⟨some 1, .alloc _, _, _, _, _⟩ :: _) _ _; refine wpl (o := ⟨some 1, .alloc _, _, _, _, _⟩) rfl fun K hK => ?_; go_must (refine op_alloc hs rfl _ zval [.int .i64 (0), .int .i64 (0), .string ⟨([]).toArray⟩] rfl fun b1 w1 h => hK _ _ ?_); clear hs hK K; have hs := h; clear h; try dsimp only [List.set] at hs)
    | (guard_target = wpList _ _ _ (⟨none, .store _ (.tmp 1) _, _, _, _, _⟩ :: _) _ _; refine wpl (o := ⟨none, .store _ (.tmp 1) _, _, _, _, _⟩) rfl fun K hK => ?_; go_must (refine op_store_whole (hs.pick (A := row b1 [.int .i64 (0), .int .i64 (0), .string ⟨([]).toArray⟩] 48) (by repeat (first | with_reducible exact Pick.here | with_reducible apply Pick.there))) (b := b1) rfl rfl [.int .i64 (2), .int .i64 (0), .string ⟨([97, 98]).toArray⟩] rfl (val_one _ _ _) (by kernel_rfl) (k := 0) rfl rfl fun w3 h => hK _ _ ?_); clear hs hK K; have hs := h; clear h; try dsimp only [List.set] at hs)
    | (guard_target = wpList _ _ _ (⟨some 7, .load _ _, _, _, _, _⟩ :: _) _ _; refine wpl (o := ⟨some 7, .load _ _, _, _, _, _⟩) rfl fun K hK => op_load_agg rfl (b := b1) (i := 0) rfl ([.int .i64 (2), .int .i64 (0), .string ⟨([97, 98]).toArray⟩]) (range_whole hs (by (try dsimp only [List.set]); repeat (first | with_reducible exact List.mem_cons_self | with_reducible apply List.mem_cons_of_mem))) (by kernel_rfl) (by kernel_rfl) (hK _ _ ?_); clear hK K)
    | (go_at_call 31; go_must (refine (put_spec W _ _ hs (by repeat (first | exact hold | apply List.mem_cons_of_mem)) HM.out 2 0 [97, 98] (by decide) (by decide) (by decide)).mono ?_); clear hs; rintro e w1 ⟨rfl, hs⟩; rw [HP1.out])
    | (go_at_call 35; go_must (refine (take_spec W _ _ hs (by repeat (first | exact hold | apply List.mem_cons_of_mem)) HM.out [2, 97, 98, 0, 1, 122] (by decide)).mono ?_); clear hs; rintro e w1 ⟨rfl, hs⟩; rw [HT.out])
    | (guard_target = wpList _ _ _ (⟨some 2, .alloc _, _, _, _, _⟩ :: _) _ _; refine wpl (o := ⟨some 2, .alloc _, _, _, _, _⟩) rfl fun K hK => ?_; go_must (refine op_alloc hs rfl _ zval [.int .i64 (0), .int .i64 (0), .string ⟨([]).toArray⟩] rfl fun b2 w1 h => hK _ _ ?_); clear hs hK K; have hs := h; clear h; try dsimp only [List.set] at hs)
    | (guard_target = wpList _ _ _ (⟨none, .store _ (.tmp 2) _, _, _, _, _⟩ :: _) _ _; refine wpl (o := ⟨none, .store _ (.tmp 2) _, _, _, _, _⟩) rfl fun K hK => ?_; go_must (refine op_store_whole (hs.pick (A := row b2 [.int .i64 (0), .int .i64 (0), .string ⟨([]).toArray⟩] 48) (by repeat (first | with_reducible exact Pick.here | with_reducible apply Pick.there))) (b := b2) rfl rfl [.int .i64 (2), .int .i64 (0), .string ⟨([97, 98]).toArray⟩] rfl (val_one _ _ _) (by kernel_rfl) (k := 0) rfl rfl fun w3 h => hK _ _ ?_); clear hs hK K; have hs := h; clear h; try dsimp only [List.set] at hs)
    | (guard_target = wpList _ _ _ (⟨some 14, .load _ _, _, _, _, _⟩ :: _) _ _; refine wpl (o := ⟨some 14, .load _ _, _, _, _, _⟩) rfl fun K hK => op_load_agg rfl (b := b1) (i := 0) rfl ([.int .i64 (2), .int .i64 (0), .string ⟨([97, 98]).toArray⟩]) (range_whole hs (by (try dsimp only [List.set]); repeat (first | with_reducible exact List.mem_cons_self | with_reducible apply List.mem_cons_of_mem))) (by kernel_rfl) (by kernel_rfl) (hK _ _ ?_); clear hK K)
    | (go_at_call 29; go_must (refine (may_spec W _ _ hs 2 0 [97, 98] (by decide) (by decide)).mono ?_); clear hs; rintro e w1 ⟨rfl, hs⟩; rw [HMAY.out])
    | (guard_target = wpList _ _ _ (⟨some 17, .load _ _, _, _, _, _⟩ :: _) _ _; refine wpl (o := ⟨some 17, .load _ _, _, _, _, _⟩) rfl fun K hK => op_load_agg rfl (b := b2) (i := 0) rfl ([.int .i64 (2), .int .i64 (0), .string ⟨([97, 98]).toArray⟩]) (range_whole hs (by (try dsimp only [List.set]); repeat (first | with_reducible exact List.mem_cons_self | with_reducible apply List.mem_cons_of_mem))) (by kernel_rfl) (by kernel_rfl) (hK _ _ ?_); clear hK K)
    | (guard_target = wpList _ _ _ (⟨some 18, .load _ _, _, _, _, _⟩ :: _) _ _; refine wpl (o := ⟨some 18, .load _ _, _, _, _, _⟩) rfl fun K hK => op_load_agg rfl (b := b1) (i := 0) rfl ([.int .i64 (2), .int .i64 (0), .string ⟨([97, 98]).toArray⟩]) (range_whole hs (by (try dsimp only [List.set]); repeat (first | with_reducible exact List.mem_cons_self | with_reducible apply List.mem_cons_of_mem))) (by kernel_rfl) (by kernel_rfl) (hK _ _ ?_); clear hK K)
    | (guard_target = wpList _ _ _ (⟨some 31, .load _ _, _, _, _, _⟩ :: _) _ _; refine wpl (o := ⟨some 31, .load _ _, _, _, _, _⟩) rfl fun K hK => op_load_agg rfl (b := b1) (i := 0) rfl ([.int .i64 (2), .int .i64 (0), .string ⟨([97, 98]).toArray⟩]) (range_whole hs (by (try dsimp only [List.set]); repeat (first | with_reducible exact List.mem_cons_self | with_reducible apply List.mem_cons_of_mem))) (by kernel_rfl) (by kernel_rfl) (hK _ _ ?_); clear hK K)
    | (go_at_call 33; go_must (refine (compare_spec W _ _ hs 1 9 [] 2 0 [97, 98]).mono ?_); clear hs; rintro e w1 ⟨rfl, hs⟩; rw [HC.out]))
  go_ret
  exact ⟨rfl, hs.pack (by repeat (first | with_reducible exact Pack.refl | with_reducible exact Pack.nil | with_reducible refine Pack.cons (by repeat (first | with_reducible exact Pick.here | with_reducible apply Pick.there)) ?_ | with_reducible apply Pack.drop))⟩
end Go.Proofs.YtgmfgdioaeheoaaDoor
