/- A record cut into bodies, and its frames: plain functions; no Go in it. -/
import Derived.Test.YtimknlabhhopcaaFrP
set_option linter.unusedVariables false
set_option linter.unusedSimpArgs false
namespace Go.Proofs.Ytimknlabhhopcaa
/-- Bytes cut into bodies; of none one without bytes. -/
def cuts (l : List UInt8) : List (List UInt8) := if h : 50 < l.length then l.take 50 :: cuts (l.drop 50) else [l]
termination_by l.length
decreasing_by simp; omega
theorem cuts_more {l : List UInt8} (h : 50 < l.length) : cuts l = l.take 50 :: cuts (l.drop 50) := by rw [cuts, dif_pos h]
theorem cuts_last {l : List UInt8} (h : ¬ 50 < l.length) : cuts l = [l] := by rw [cuts, dif_neg h]
theorem cuts_ne (l : List UInt8) : cuts l ≠ [] := by
  by_cases h : 50 < l.length
  · rw [cuts_more h]; simp
  · rw [cuts_last h]; simp
theorem cuts_len : ∀ (n : Nat) (l : List UInt8), l.length ≤ n → ∀ b ∈ cuts l, b.length ≤ 50
  | n, l, hn, b, hb => by
    by_cases h : 50 < l.length
    · rw [cuts_more h] at hb
      rcases List.mem_cons.1 hb with rfl | hb
      · simp; omega
      · cases n with
        | zero => omega
        | succ n => exact cuts_len n (l.drop 50) (by simp; omega) b hb
    · rw [cuts_last h] at hb
      simp at hb; subst hb; omega
theorem cuts_count' : ∀ (n : Nat) (l : List UInt8), l.length ≤ n → (cuts l).length ≤ l.length + 1
  | n, l, hn => by
    by_cases h : 50 < l.length
    · rw [cuts_more h]
      cases n with
      | zero => omega
      | succ n =>
        have := cuts_count' n (l.drop 50) (by simp; omega)
        simp at this ⊢; omega
    · rw [cuts_last h]; simp
theorem cuts_count (l : List UInt8) : (cuts l).length ≤ l.length + 1 := cuts_count' _ l (Nat.le_refl _)
/-- A body's frame before the flags are laid. -/
def rawFr (epoch seq i : Nat) (b : List UInt8) : Fr := ⟨epoch, (seq + i) % 4294967296, 0, b⟩
def rawFrs (epoch seq : Nat) (bs : List (List UInt8)) : List Fr := bs.zipIdx.map fun x => rawFr epoch seq x.2 x.1
theorem rawFrs_snoc (epoch seq : Nat) (bs : List (List UInt8)) (b : List UInt8) : rawFrs epoch seq (bs ++ [b]) = rawFrs epoch seq bs ++ [rawFr epoch seq bs.length b] := by simp [rawFrs, List.zipIdx_append]
@[simp] theorem rawFrs_length (epoch seq : Nat) (bs : List (List UInt8)) : (rawFrs epoch seq bs).length = bs.length := by simp [rawFrs]
/-- The first one's flag, and the last one's. -/
def Fr.or (f : Fr) (x : UInt8) : Fr := { f with flag := f.flag ||| x }
def flagged (l : List Fr) : List Fr := (l.modify 0 (·.or 1)).modify (l.length - 1) (·.or 2)
def cutF (epoch seq : Nat) (l : List UInt8) : List Fr := flagged (rawFrs epoch seq (cuts l))
@[simp] theorem cutF_length (epoch seq : Nat) (l : List UInt8) : (cutF epoch seq l).length = (cuts l).length := by simp [cutF, flagged]
end Go.Proofs.Ytimknlabhhopcaa
