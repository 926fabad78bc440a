/- The contract of redo.Apply. -/
import Derived.Test.YthjnefpnnifjiaaDoorRdIns2
import Derived.Test.YthjnefpnnifjiaaDoorRdTakeS
set_option linter.unusedVariables false
set_option linter.unusedSimpArgs false
namespace Go.Proofs.YthjnefpnnifjiaaDoor
open Go.RowKit
def keySame (x y : RKey) : Bool := decide (x.kind = y.kind) && (decide (x.a = y.a) && decide (x.b = y.b))
theorem keySame_iff (x y : RKey) : keySame x y = true ↔ x = y := by
  obtain ⟨a, b, c⟩ := x
  obtain ⟨a', b', c'⟩ := y
  simp [keySame]
set_option maxRecDepth 100000 in
set_option maxHeartbeats 1000000 in
theorem run_equal_key (x y : RKey) (w : World) : (Op.equalIn 10000 57 (.agg (kC x).toArray) (.agg (kC y).toArray)).run Tryd.prog w = .ok (keySame x y) w := by
  rw [show (10000 : Nat) = 9999 + 1 from rfl, run_equalIn_struct w 9999 _ _ _ (by kernel_rfl) (by kernel_rfl)]
  obtain ⟨a, b, c⟩ := x
  obtain ⟨a', b', c'⟩ := y
  simp only [kC, keySame]
  go_simp
  by_cases h1 : a = a' <;> by_cases h2 : b = b' <;> by_cases h3 : c = c' <;> simp [h1, h2, h3]
/-! What one write does, and a commit. -/
def putK (l : List RCl) (c : RCl) : List RCl :=
  if h : idxK c.k l < l.length then
    (if keySame l[idxK c.k l].k c.k then (if l[idxK c.k l].ts ≤ c.ts then l.set (idxK c.k l) c else l) else l.take (idxK c.k l) ++ c :: l.drop (idxK c.k l))
  else l ++ [c]
def applyL (l : List RCl) (ts : Int) (ws : List RWr) : List RCl := ws.foldl (fun l w => putK l ⟨w.k, ts, w.v⟩) l
def applyR (s : RSt) (c : RCm) : RSt := ⟨max s.last c.ts, s.epoch, s.low, applyL s.L c.ts c.W⟩
theorem putK_len (l : List RCl) (c : RCl) : l.length ≤ (putK l c).length ∧ (putK l c).length ≤ l.length + 1 := by
  unfold putK
  split
  · split
    · split <;> simp
    · simp; omega
  · simp
theorem applyL_snoc (l : List RCl) (ts : Int) (ws : List RWr) (i : Nat) (h : i < ws.length) : applyL l ts (ws.take (i + 1)) = putK (applyL l ts (ws.take i)) ⟨ws[i].k, ts, ws[i].v⟩ := by
  unfold applyL
  rw [List.take_succ_eq_append_getElem h, List.foldl_append]; rfl
theorem applyL_len (l : List RCl) (ts : Int) (ws : List RWr) : ∀ i, i ≤ ws.length → (applyL l ts (ws.take i)).length ≤ l.length + i
  | 0, _ => by simp [applyL]
  | i + 1, h => by
    rw [applyL_snoc l ts ws i (by omega)]
    have h1 := applyL_len l ts ws i (by omega)
    have h2 := (putK_len (applyL l ts (ws.take i)) ⟨ws[i].k, ts, ws[i].v⟩).2
    omega
def apPost (s : RSt) (W : World) (L : List HP) (e : Ending) (w' : World) : Prop := ∃ v', e = .returned (.agg (stC s v').toArray) ∧ Sat W w' (own v' 59 s.L.length 5 (csC s.L) :: L)
def ap9S (b2 : Nat) (v : Value) (bo o : Nat) (ks : List Value) (b6 : Nat) (ds : List Value) (w : World) : Prop := w.cell? ⟨b2, 3, none⟩ = some v ∧ w.rangeAt bo o ks ∧ w.rangeAt b6 0 ds
def ap11S (b2 : Nat) (v : Value) (bo o : Nat) (t : Int) (b3 : Nat) (u : Int) (w : World) : Prop := w.cell? ⟨b2, 3, none⟩ = some v ∧ w.cell? ⟨bo, o, none⟩ = some (.int .i64 t) ∧ w.cell? ⟨b3, 0, none⟩ = some (.int .i64 u)
end Go.Proofs.YthjnefpnnifjiaaDoor
