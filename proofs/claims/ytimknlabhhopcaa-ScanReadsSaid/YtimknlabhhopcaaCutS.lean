/- parts: the bodies of a record, handed on one by one. -/
import Derived.Test.YtimknlabhhopcaaCutP
import Derived.Test.YtimknlabhhopcaaFrW
import Derived.Test.YtimknlabhhopcaaInW
import Derived.RangeFuncGives
import Derived.TacticsInMore
import Derived.LoopIn
set_option linter.unusedVariables false
set_option linter.unusedSimpArgs false
namespace Go.Proofs.Ytimknlabhhopcaa
open Go.RowKit
/-- The length of the slice that a variable has. -/
def sliceLen (b : Nat) (w : World) : Nat := match w.cell? ⟨b, 0, none⟩ with | some (.slice _ n _) => n | _ => 0
theorem sliceLen_of {b : Nat} {w : World} {A : Option Addr} {n c : Nat} (h : w.cell? ⟨b, 0, none⟩ = some (.slice A n c)) : sliceLen b w = n := by unfold sliceLen; rw [h]
set_option maxRecDepth 100000 in
set_option maxHeartbeats 2000000 in
theorem parts1_spec (W : World) (b1 l : Nat) (X : List (List UInt8) → List HP) (rec : List UInt8) (vrec : Value) (M : List HP) (hM : ∀ done φ, Has M φ → Has (X done) φ) (hl : rec.length ≤ 140737488351232) (hrec : Has M (bytesAt vrec rec))
    (hY : ∀ (done : List (List UInt8)) (b : List UInt8) (v : Value) (w : World) (A : HP), Sat W w (A :: X done) → Has M (bytesAt v b) → b.length ≤ 50 → done.length ≤ 2814749767024 → YieldAt Fence.wide (0 - 1) Try.prog l #[v] w fun e w' => e = .returned (.bool true) ∧ Sat W w' (A :: X (done ++ [b])))
    (w : World) (hs : Sat W w (row b1 [vrec] 36 :: X [])) :
    CallsIn Fence.wide 0 Try.prog 80 #[.func (.yield l) #[] #[], .pointer (some ⟨b1, 0, none⟩)] w fun e w' => (∃ v, e = .returned v) ∧ ∃ v', Sat W w' (row b1 [v'] 36 :: X (cuts rec)) := by
  refine callsIn_of_wp Try.func80 rfl trivial ?_ rfl
  simp only [Try.ntmps80, List.size_toArray, List.length_cons, List.length_nil, Nat.reduceAdd, Nat.reduceSub, Array.replicate_succ, Array.replicate_zero, List.push_toArray, List.append_toArray, List.nil_append, List.cons_append]
  gi_wp2_with fail
  gi_loopw [] (fun wr => ∃ (done : List (List UInt8)) (rest : List UInt8) (v : Value), cuts rec = done ++ cuts rest ∧ done.length * 50 + rest.length = rec.length ∧ Box (Has M (bytesAt v rest)) ∧ wr.cell? ⟨b1, 0, none⟩ = some v ∧ Sat W wr (row b1 [v] 36 :: X done)) (fun wr => sliceLen b1 wr)
  case atStart => exact ⟨[], rec, vrec, rfl, by simp, ⟨hrec⟩, hs.cell m0 rfl, hs⟩
  case round =>
    clear hs
    obtain ⟨done, rest, v, hcut, hlen, hb, hcell, hs⟩ := hrel
    have HC := Box.mk hcut
    clear hcut
    by_cases hmore : 50 < rest.length
    · obtain ⟨b, o, cap, rfl, hc1, hc2, _⟩ := bytes_at hs (hM done _ hb.out).tail (by omega)
      have hmoreI : (50 : Int) < (rest.length : Int) := by omega
      have hchunk : Has M (bytesAt (.slice (some ⟨b, o, none⟩) 50 50) (rest.take 50)) := hb.out.imp fun F h => by
        have := bytes_sub (m := 50) (c := 50) h 0 (by omega) (by omega) (by omega)
        simpa using this
      obtain ⟨fn, tmps, assign, body, hy, hR⟩ := hY done (rest.take 50) _ wr _ hs hchunk (by simp; omega) (by omega)
      gi_wp2_with (first
        | (refine wplW (o := ⟨some 3, .load _ _, _, _, _, _⟩) rfl rfl fun K hK => op_load rfl (ad := ⟨b1, 0, none⟩) rfl (by kernel_rfl) (hs.cell m0 rfl) (hK _ _ ?_); clear hK K)
        | (refine wplW (o := ⟨some 7, .load _ _, _, _, _, _⟩) rfl rfl fun K hK => op_load rfl (ad := ⟨b1, 0, none⟩) rfl (by kernel_rfl) (hs.cell m0 rfl) (hK _ _ ?_); clear hK K))
      refine ⟨rfl, hR.mono ?_⟩
      clear hs hR hy
      rintro e w3 ⟨rfl, hs⟩
      have hcap : ¬ cap = 50 := by omega
      gi_wp2_with (first
        | (refine wplW (o := ⟨some 11, .load _ _, _, _, _, _⟩) rfl rfl fun K hK => op_load rfl (ad := ⟨b1, 0, none⟩) rfl (by kernel_rfl) (hs.cell m0 rfl) (hK _ _ ?_); clear hK K)
        | (refine wplW (o := ⟨none, .store _ _ _, _, _, _, _⟩) rfl rfl fun K hK => ?_; (refine op_store hs rfl (b := b1) (i := 0) (v := .slice (some ⟨b, o + 50, none⟩) (rest.length - 50) (cap - 50)) rfl rfl rfl (by kernel_rfl) (k := 0) rfl (by simp) fun w4 h => hK _ _ ?_); clear hs hK K; have hs := h; clear h; dsimp only [List.set] at hs))
      have hrest : Has M (bytesAt (.slice (some ⟨b, o + 50, none⟩) (rest.length - 50) (cap - 50)) (rest.drop 50)) := hb.out.imp fun F h => by
        have := bytes_sub (m := rest.length - 50) (c := cap - 50) h 50 (by omega) (by omega) (by omega)
        rw [List.take_of_length_le (by simp)] at this
        exact this
      have hcell2 := hs.cell m0 (i := 0) rfl
      go_roundw
      case rel => exact ⟨_, _, _, _, _, _, _, _, _, _, ⟨done ++ [rest.take 50], rest.drop 50, _, by rw [HC.out, cuts_more hmore]; simp, by simp; omega, ⟨hrest⟩, hcell2, hs⟩, rfl⟩
      case measure => rw [sliceLen_of hcell2, sliceLen_of hcell]; omega
    · obtain ⟨A, cap, rfl, hc1, hc2⟩ := slice_form (hs.bytes (hM done _ hb.out).tail)
      have hmoreI : ¬ (50 : Int) < (rest.length : Int) := by omega
      obtain ⟨fn, tmps, assign, body, hy, hR⟩ := hY done rest _ wr _ hs hb.out (by omega) (by omega)
      gi_wp2_with (first
        | (refine wplW (o := ⟨some 3, .load _ _, _, _, _, _⟩) rfl rfl fun K hK => op_load rfl (ad := ⟨b1, 0, none⟩) rfl (by kernel_rfl) (hs.cell m0 rfl) (hK _ _ ?_); clear hK K)
        | (refine wplW (o := ⟨some 14, .load _ _, _, _, _, _⟩) rfl rfl fun K hK => op_load rfl (ad := ⟨b1, 0, none⟩) rfl (by kernel_rfl) (hs.cell m0 rfl) (hK _ _ ?_); clear hK K))
      refine ⟨rfl, hR.mono ?_⟩
      clear hs hR hy
      rintro e w3 ⟨rfl, hs⟩
      gi_wp2_with fail
      go_end0
      refine ⟨⟨_, rfl⟩, .slice A rest.length cap, ?_⟩
      rw [HC.out, cuts_last hmore]
      exact hs
end Go.Proofs.Ytimknlabhhopcaa
