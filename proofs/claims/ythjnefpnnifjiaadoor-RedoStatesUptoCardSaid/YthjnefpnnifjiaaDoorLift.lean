/- From the row's reading of an argument to its kind. -/
import Derived.Test.YthjnefpnnifjiaaDoorRows
import Derived.Test.YthjnefpnnifjiaaDoorKin
import Derived.WalkKit
import Derived.ProofKit
import Derived.OpenShut
import Derived.ShutString
import Derived.ChangeOld
import Derived.Below
set_option linter.unusedVariables false
set_option linter.unusedSimpArgs false
namespace Go.Proofs.YthjnefpnnifjiaaDoor
open Go.RowKit
theorem arg_single {P : Program} {T : TypeId} (hT : single P T = true) {W : World} {base : Nat} {v : Value} (h : Value.okWide P W .any base T v) : v.cells.toList = [v] := by
  have hc : Cell.okWide P W .any base T v := by
    unfold single at hT
    unfold Value.okWide at h
    cases hu : P.underlying T with
    | none => simp [hu] at hT
    | some d => cases d <;> simp_all
  cases v <;> first
    | rfl
    | (exfalso
       unfold Cell.okWide Cell.ok at hc
       cases hu : P.underlying T with
       | none => simp [hu] at hc
       | some d => cases d <;> simp [hu] at hc)
theorem arg_agg {P : Program} {T : TypeId} (hT : ((P.underlying T).map TypeDesc.isRow) = some true) {W : World} {base : Nat} {v : Value} (h : Value.okWide P W .any base T v) : ∃ cs : List Value, v = .agg cs.toArray := by
  unfold Value.okWide at h
  cases hu : P.underlying T with
  | none => simp [hu] at hT
  | some d =>
    cases d <;> simp [hu, TypeDesc.isRow] at hT
    all_goals
      simp only [hu] at h
      obtain ⟨cs, rfl, _⟩ := h
      exact ⟨cs.toList, by simp⟩
theorem arg_read {α : Type} {P : Program} {T : TypeId} {k : Kin α} (hf : Fits P T k) {H : Type} {enc : TypeId × Value → H} {W : World} {v : Value} {d : DataW H} {ps : List MemPlace} (h : DataW.Trod enc P W 0 (fun _ => true) true T v d ps)
    {ts : List TypeId} {ds : List (DataW H)} (hsz : (DataW.weightsEach P ts ds).all (· ≤ reachBytes) = true) {j : Nat} (ht : ts[j]? = some T) (hd : ds[j]? = some d) : ∃ x, k.K (hp W) x v.cells.toList := by
  obtain ⟨fuel, hf'⟩ := h
  refine hf.2 H enc W fuel _ d ps hf' (fun n hn => ?_)
  have := List.all_eq_true.1 hsz _ (DataW.weights_mem_each ht hd n hn)
  simpa using this
/-- What an argument is, of the first world. -/
theorem has_old {α : Type} {k : Kin α} {W : World} {x : α} {cs : List Value} (h : k.K (hp W) x cs) : Has [old W] (fun F => k.K F x cs) := Has.head fun F hF => by cases hF; exact h
theorem rows_u8 {F : PH} {l : List UInt8} {vs : List Value} (h2 : Kin.u8.rows F l vs) : vs = u8s l := by
  apply List.ext_getElem?
  intro i
  have hl : vs.length = l.length := by simpa [Kin.u8] using h2.1
  by_cases hi : i < l.length
  · have := h2.2 i l[i] (by simp [hi])
    simp only [Kin.u8, Nat.mul_one] at this
    have h' : ((vs.drop i).take 1)[0]? = some (Value.int .u8 l[i].toNat) := by rw [this]; rfl
    simpa [u8s, hi] using h'
  · rw [List.getElem?_eq_none (by omega), List.getElem?_eq_none (by simp; omega)]
theorem kin_bytes {F : PH} {l : List UInt8} {v : Value} (h : (Kin.slice 1 Kin.u8).K F l [v]) : bytesAt v l F ∧ l.length ≤ 140737488351232 := by
  obtain ⟨v', vs, e, h1, h2, h3⟩ := h
  cases e
  have := rows_u8 h2
  subst this
  exact ⟨h1, by omega⟩
theorem u32_of {n : Int} (h : (Lit.int .u32 n).wf = true) : ∃ c : BitVec 32, n = (c.toNat : Int) := by
  have : 0 ≤ n ∧ n ≤ 4294967295 := by simpa [Lit.wf, IntKind.min, IntKind.max, IntKind.signed, IntKind.bits] using h
  exact ⟨BitVec.ofNat 32 n.toNat, by simp; omega⟩
theorem own_knob : ownKnob Tryd.prog.godebug = none := by kernel_rfl
theorem laid_out : laidOutB Tryd.prog = true := by kernel_rfl
end Go.Proofs.YthjnefpnnifjiaaDoor
