/- The reference's Full: bytes, and zeros behind them. -/
import Derived.Test.YtimknlabhhopcaaVd
import Derived.Test.YtimknlabhhopcaaStr
set_option linter.unusedVariables false
set_option linter.unusedSimpArgs false
namespace Go.Proofs.Ytimknlabhhopcaa
open Go.RowKit
set_option maxRecDepth 100000 in
set_option maxHeartbeats 800000 in
theorem full_spec (W w : World) (L : List HP) (hs : Sat W w L) (v : Value) (l : List UInt8) (hv : Has L (bytesAt v l)) (hl : l.length ≤ 1000000) :
    Calls Try.prog 46 #[v] w fun e w' => e = .returned (.string ⟨(pad l).toArray⟩) ∧ Sat W w' L := by
  go_enter Try.func46, Try.ntmps46
  go_wp2_with (first
    | (guard_target = wpList _ _ _ (⟨some 4, .buildSlice _ _ _, _, _, _, _⟩ :: _) _ _; refine wpl (o := ⟨some 4, .buildSlice _ _ _, _, _, _, _⟩) rfl fun K hK => ?_; go_must (refine op_lit hs rfl Try.underlying36 info_u8 [] (by omega) (by simp [Instr.fill]) fun b1 w1 h => hK _ _ ?_); clear hs hK K; have hs := h; clear h)
    | (guard_target = wpList _ _ _ (⟨some 6, .call _, _, _, _, _⟩ :: _) _ _; refine wpl (o := ⟨some 6, .call _, _, _, _, _⟩) rfl fun K hK => ?_; go_must (refine op_append_new hs rfl Try.underlying36 Try.underlying36 info_u8 rfl (by omega) rfl (slice_nil _ 1 (hv.tail.imp fun _ _ => trivial)) rfl hv.tail (.inr rfl) (by omega) (by omega) fun v3 w2 h => hK _ _ ?_); clear hs hK K; have hs := h; clear h))
  have hs0 : Sat W w2 (own v3 5 l.length 1 (u8s l) :: L) := by
    have := hs.perm (List.Perm.swap _ _ _)
    simpa using this.tail
  clear hs
  have hs := hs0
  clear hs0
  go_loopw [3] (fun v3 wr => ∃ k : Nat, (k = 0 ∨ l.length + k ≤ 64) ∧ Sat W wr (own v3 5 (l.length + k) 1 (u8s (l ++ List.replicate k 0)) :: L)) (fun v3 _ => match v3 with | .slice _ n _ => 64 - n | _ => 0)
  case atStart => exact ⟨0, .inl rfl, by simpa using hs⟩
  case round =>
    clear hs
    obtain ⟨k, hk, hs⟩ := hrel
    obtain ⟨A, cap, rfl, h1, h2⟩ := own_slice hs (i := 0) rfl
    by_cases hlt : l.length + k < 64
    · have hltI : (l.length : Int) + (k : Int) < 64 := by omega
      go_wp2_with (first
        | (guard_target = wpList _ _ _ (⟨some 11, .buildSlice _ _ _, _, _, _, _⟩ :: _) _ _; refine wpl (o := ⟨some 11, .buildSlice _ _ _, _, _, _, _⟩) rfl fun K hK => ?_; go_must (refine op_lit1 hs rfl Try.underlying36 info_u8 rfl (u8s [0]) (by omega) rfl (by simp [u8s, Value.oneCell']) (by simp [u8s, Act.eval]) fun b2 w3 h => hK _ _ ?_); clear hs hK K; have hs := h; clear h)
        | (guard_target = wpList _ _ _ (⟨some 12, .call _, _, _, _, _⟩ :: _) _ _; refine wpl (o := ⟨some 12, .call _, _, _, _, _⟩) rfl fun K hK => ?_; go_must (refine op_append hs rfl Try.underlying36 Try.underlying36 info_u8 rfl (by omega) (k := 1) rfl rfl rfl (lit_bytes (l := [0]) 0 rfl 1 rfl (by omega)) (by simp [u8s, Value.oneCell']) (by simp; omega) (by simp; omega) fun v12 w4 h => hK _ _ ?_); clear hs hK K; have hs := h; clear h))
      dsimp only [List.set] at hs
      have hs' := hs.tail
      clear hs
      have hs := hs'
      clear hs'
      obtain ⟨A', c', rfl, h3, h4⟩ := own_slice hs (i := 0) rfl
      refine ⟨⟨k + 1, .inr (by omega), ?_⟩, by simp; omega⟩
      have e : u8s (l ++ List.replicate k 0) ++ u8s [0] = u8s (l ++ List.replicate (k + 1) 0) := by rw [← u8s_append, List.append_assoc, List.replicate_succ']
      rw [← e]
      exact hs
    · have hltI : ¬ (l.length : Int) + (k : Int) < 64 := by omega
      have hk' : pad l = l ++ List.replicate k 0 := by
        unfold pad
        congr 2
        omega
      go_wp2_with (first
        | (guard_target = wpList _ _ _ (⟨some 14, .convert _ _ _, _, _, _, _⟩ :: _) _ _; refine wpl (o := ⟨some 14, .convert _ _ _, _, _, _, _⟩) rfl fun K hK => ?_; go_must (refine op_to_string rfl Try.underlying36 Try.underlying5 Try.underlying9 rfl (hs.bytes (own_bytes (l := l ++ List.replicate k 0) 0 rfl (by simp) rfl)) (hK _ _ ?_)); clear hK K))
      go_ret
      exact ⟨rfl, hs.tail⟩
end Go.Proofs.Ytimknlabhhopcaa
