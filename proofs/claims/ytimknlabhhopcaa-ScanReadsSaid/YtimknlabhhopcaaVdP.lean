/- A disk that may crash, as plain data, and its laws: no Go in it. -/
import Derived.Test.YtimknlabhhopcaaFlat
set_option linter.unusedVariables false
set_option linter.unusedSimpArgs false
namespace Go.Proofs.Ytimknlabhhopcaa
/-- Bytes, and zeros behind them up to 64. -/
def pad (l : List UInt8) : List UInt8 := l ++ List.replicate (64 - l.length) 0
theorem pad_length {l : List UInt8} (h : l.length ≤ 64) : (pad l).length = 64 := by simp [pad]; omega
/-- Sectors, and writes that aren't synced. -/
structure Dk where
  secs : List (List UInt8)
  row : List (Nat × List UInt8)
namespace Dk
structure Ok (D : Dk) : Prop where
  len : ∀ s ∈ D.secs, s.length = 64
  few : D.secs.length ≤ 1024
  wlen : ∀ x ∈ D.row, x.2.length = 64
  wat : ∀ x ∈ D.row, x.1 < D.secs.length
def new (n : Nat) : Dk := ⟨List.replicate n (pad []), []⟩
theorem new_ok {n : Nat} (h : n ≤ 1024) : (new n).Ok := ⟨fun s hs => by simp [new] at hs; rw [hs.2]; exact pad_length (by simp), by simpa [new] using h, fun x hx => by simp [new] at hx, fun x hx => by simp [new] at hx⟩
def write (D : Dk) (i : Nat) (l : List UInt8) : Dk := ⟨D.secs, D.row ++ [(i, pad l)]⟩
theorem write_ok {D : Dk} (h : D.Ok) {i : Nat} (hi : i < D.secs.length) {l : List UInt8} (hl : l.length ≤ 64) : (D.write i l).Ok := by
  refine ⟨h.len, h.few, fun x hx => ?_, fun x hx => ?_⟩
  · rcases List.mem_append.1 hx with hx | hx
    · exact h.wlen x hx
    · simp at hx; subst hx; exact pad_length hl
  · rcases List.mem_append.1 hx with hx | hx
    · exact h.wat x hx
    · simp at hx; subst hx; exact hi
/-- What a read finds when it has looked at so many writes. -/
def seen (D : Dk) (i : Nat) (k : Nat) : List UInt8 := (D.row.take k).foldl (fun b x => if x.1 = i then x.2 else b) (D.secs.getD i [])
def read (D : Dk) (i : Nat) : List UInt8 := D.row.foldl (fun b x => if x.1 = i then x.2 else b) (D.secs.getD i [])
theorem seen_zero (D : Dk) (i : Nat) : D.seen i 0 = D.secs.getD i [] := rfl
theorem seen_succ (D : Dk) (i k : Nat) (h : k < D.row.length) : D.seen i (k + 1) = if D.row[k].1 = i then D.row[k].2 else D.seen i k := by
  unfold seen
  rw [List.take_succ_eq_append_getElem h, List.foldl_append]; rfl
theorem seen_all (D : Dk) (i : Nat) : D.seen i D.row.length = D.read i := by unfold seen read; rw [List.take_length]
theorem seen_len {D : Dk} (h : D.Ok) {i : Nat} (hi : i < D.secs.length) : ∀ k, k ≤ D.row.length → (D.seen i k).length = 64
  | 0, _ => by rw [seen_zero, List.getD_eq_getElem?_getD, List.getElem?_eq_getElem hi]; exact h.len _ (List.getElem_mem hi)
  | k + 1, hk => by
    rw [seen_succ D i k hk]
    split
    · exact h.wlen _ (List.getElem_mem hk)
    · exact seen_len h hi k (by omega)
theorem read_len {D : Dk} (h : D.Ok) {i : Nat} (hi : i < D.secs.length) : (D.read i).length = 64 := by rw [← seen_all]; exact seen_len h hi _ (Nat.le_refl _)
/-- The sectors when so many of the writes have been let stay, or not. -/
def upTo (D : Dk) (keep : Nat → Bool) : Nat → List (List UInt8)
  | 0 => D.secs
  | k + 1 => if keep k then (D.upTo keep k).set (D.row[k]?.map (·.1) |>.getD 0) (D.row[k]?.map (·.2) |>.getD []) else D.upTo keep k
theorem upTo_succ (D : Dk) (keep : Nat → Bool) (k : Nat) (h : k < D.row.length) : D.upTo keep (k + 1) = if keep k then (D.upTo keep k).set D.row[k].1 D.row[k].2 else D.upTo keep k := by
  rw [upTo]; simp [h]
theorem upTo_length (D : Dk) (keep : Nat → Bool) : ∀ k, (D.upTo keep k).length = D.secs.length
  | 0 => rfl
  | k + 1 => by rw [upTo]; split <;> simp [upTo_length D keep k]
theorem upTo_len {D : Dk} (h : D.Ok) (keep : Nat → Bool) : ∀ k, k ≤ D.row.length → ∀ s ∈ D.upTo keep k, s.length = 64
  | 0, _ => h.len
  | k + 1, hk => fun s hs => by
    rw [upTo_succ D keep k hk] at hs
    split at hs
    · rcases List.mem_or_eq_of_mem_set hs with hs | rfl
      · exact upTo_len h keep k (by omega) s hs
      · exact h.wlen _ (List.getElem_mem hk)
    · exact upTo_len h keep k (by omega) s hs
def crash (D : Dk) (keep : Nat → Bool) : Dk := ⟨D.upTo keep D.row.length, []⟩
def sync (D : Dk) : Dk := D.crash fun _ => true
theorem crash_ok {D : Dk} (h : D.Ok) (keep : Nat → Bool) : (D.crash keep).Ok := ⟨upTo_len h keep _ (Nat.le_refl _), by simpa [crash, upTo_length] using h.few, fun x hx => by simp [crash] at hx, fun x hx => by simp [crash] at hx⟩
theorem upTo_congr (D : Dk) {k1 k2 : Nat → Bool} : ∀ n, (∀ i, i < n → k1 i = k2 i) → D.upTo k1 n = D.upTo k2 n
  | 0, _ => rfl
  | n + 1, h => by rw [upTo, upTo, upTo_congr D n (fun i hi => h i (by omega)), h n (by omega)]
theorem crash_congr (D : Dk) {k1 k2 : Nat → Bool} (h : ∀ i, i < D.row.length → k1 i = k2 i) : D.crash k1 = D.crash k2 := by unfold crash; rw [upTo_congr D _ h]
@[simp] theorem crash_row (D : Dk) (keep : Nat → Bool) : (D.crash keep).row = [] := rfl
@[simp] theorem crash_size (D : Dk) (keep : Nat → Bool) : (D.crash keep).secs.length = D.secs.length := by simp [crash, upTo_length]
@[simp] theorem sync_row (D : Dk) : D.sync.row = [] := rfl
@[simp] theorem sync_size (D : Dk) : D.sync.secs.length = D.secs.length := by simp [sync]
@[simp] theorem write_size (D : Dk) (i : Nat) (l : List UInt8) : (D.write i l).secs.length = D.secs.length := rfl
end Dk
end Go.Proofs.Ytimknlabhhopcaa
