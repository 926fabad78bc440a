/- Plain laws of the disk that is data: what a sector has that nobody writes. -/
import Derived.Test.YtclcajjcbdfaiaaVdAny
set_option linter.unusedVariables false
set_option linter.unusedSimpArgs false
namespace Go.Proofs.Ytclcajjcbdfaiaa
namespace Dk
/-- Sector s has the bytes x, and no write that isn't synced is to it. -/
structure Pin (D : Dk) (s : Nat) (x : List UInt8) : Prop where
  at_ : D.secs[s]? = some x
  no : ∀ y ∈ D.row, y.1 ≠ s
theorem Pin.write {D : Dk} {s : Nat} {x : List UInt8} (h : D.Pin s x) {i : Nat} (hi : i ≠ s) (l : List UInt8) : (D.write i l).Pin s x := by
  refine ⟨h.at_, fun y hy => ?_⟩
  rcases List.mem_append.1 hy with hy | hy
  · exact h.no y hy
  · simp at hy; subst hy; exact hi
theorem Pin.wnext {D : Dk} {s : Nat} {x : List UInt8} (h : D.Pin s x) {i : Int} (hi : i ≠ s) (l : List UInt8) : (D.wnext i l).Pin s x := by
  unfold Dk.wnext
  split
  · rename_i hc
    cases ho : D.out i
    · obtain ⟨n, rfl, _⟩ := not_out ho
      exact h.write (by rw [Int.toNat_natCast]; exact fun e => hi (by rw [e])) l
    · simp [wcode, ho] at hc
  · exact h
theorem upTo_other {D : Dk} {s : Nat} (h : ∀ y ∈ D.row, y.1 ≠ s) (keep : Nat → Bool) : ∀ k, k ≤ D.row.length → (D.upTo keep k)[s]? = D.secs[s]?
  | 0, _ => rfl
  | k + 1, hk => by
    rw [upTo_succ D keep k hk]
    split
    · rw [List.getElem?_set, if_neg (h _ (List.getElem_mem hk))]
      exact upTo_other h keep k (by omega)
    · exact upTo_other h keep k (by omega)
theorem Pin.crash {D : Dk} {s : Nat} {x : List UInt8} (h : D.Pin s x) (keep : Nat → Bool) : (D.crash keep).Pin s x :=
  ⟨by rw [← h.at_]; exact upTo_other h.no keep _ (Nat.le_refl _), fun y hy => by simp at hy⟩
theorem Pin.seen {D : Dk} {s : Nat} {x : List UInt8} (h : D.Pin s x) : ∀ k, k ≤ D.row.length → D.seen s k = x
  | 0, _ => by rw [seen_zero, List.getD_eq_getElem?_getD, h.at_]; rfl
  | k + 1, hk => by rw [seen_succ D s k hk, if_neg (h.no _ (List.getElem_mem hk))]; exact h.seen k (by omega)
theorem Pin.read {D : Dk} {s : Nat} {x : List UInt8} (h : D.Pin s x) : D.read s = x := by rw [← seen_all]; exact h.seen _ (Nat.le_refl _)
/-- A write that is synced. -/
theorem pin_sync {D : Dk} {s : Nat} (hs : s < D.secs.length) (l : List UInt8) : ((D.write s l).sync).Pin s (pad l) := by
  refine ⟨?_, fun y hy => by simp at hy⟩
  show ((D.write s l).upTo (fun _ => true) (D.row ++ [(s, pad l)]).length)[s]? = _
  have hlen : (D.row ++ [(s, pad l)]).length = D.row.length + 1 := by simp
  rw [hlen, upTo_succ (D.write s l) _ D.row.length (by simp [Dk.write]), if_pos rfl]
  have e : (D.write s l).row[D.row.length]'(by simp [Dk.write]) = (s, pad l) := by simp [Dk.write]
  rw [e, List.getElem?_set, if_pos rfl, if_pos (by rw [upTo_length]; exact hs)]
end Dk
end Go.Proofs.Ytclcajjcbdfaiaa
