/- The law RedoBack. -/
import Derived.Test.YthjnefpnnifjiaaDoorRdTidy
import Derived.Test.YthjnefpnnifjiaaDoorRdKin
import Derived.Test.YthjnefpnnifjiaaDoorRdRef3
set_option linter.unusedVariables false
set_option linter.unusedSimpArgs false
namespace Go.Proofs.YthjnefpnnifjiaaDoor
open Go.RowKit
theorem take_yes (W w : World) (M : List HP) (hs : Sat W w M) (hold : old W ∈ M) (hm : maxLenIs W) (v : Value) (l : List UInt8) (c : RCm) (he : takeCm l = some c) (hv : Has M (bytesAt v l)) (hl : l.length ≤ 1073741824) :
    Calls Tryd.prog 10 #[v] w fun e w' => ∃ v, e = .returned (.tuple #[.agg #[.int .i64 c.ts, v], .int .i64 0]) ∧ Sat W w' (own v 61 c.W.length 4 (wsC c.W) :: M) := by
  have := take_spec W w M hs hold hm v l hv hl
  rw [he] at this
  exact this
theorem take_no (W w : World) (M : List HP) (hs : Sat W w M) (hold : old W ∈ M) (hm : maxLenIs W) (v : Value) (l : List UInt8) (he : takeCm l = none) (hv : Has M (bytesAt v l)) (hl : l.length ≤ 1073741824) :
    Calls Tryd.prog 10 #[v] w fun e w' => ∃ v, e = .returned (.tuple #[.agg #[.int .i64 0, v], .int .i64 2]) ∧ Sat W w' (own v 61 0 4 [] :: M) := by
  have := take_spec W w M hs hold hm v l hv hl
  rw [he] at this
  exact this
theorem takeSt_yes (W w : World) (M : List HP) (hs : Sat W w M) (hold : old W ∈ M) (hm : maxLenIs W) (v : Value) (l : List UInt8) (s : RSt) (he : takeSt l = some s) (hv : Has M (bytesAt v l)) (hl : l.length ≤ 1073741824) :
    Calls Tryd.prog 23 #[v] w fun e w' => ∃ v, e = .returned (.tuple #[.agg (stC s v).toArray, .int .i64 0]) ∧ Sat W w' (own v 59 s.L.length 5 (csC s.L) :: M) := by
  have := takeState_spec W w M hs hold hm v l hv hl
  rw [he] at this
  exact this
theorem takeSt_no (W w : World) (M : List HP) (hs : Sat W w M) (hold : old W ∈ M) (hm : maxLenIs W) (v : Value) (l : List UInt8) (he : takeSt l = none) (hv : Has M (bytesAt v l)) (hl : l.length ≤ 1073741824) :
    Calls Tryd.prog 23 #[v] w fun e w' => ∃ v, e = .returned (.tuple #[.agg #[.int .i64 0, .int .u32 0, .int .u32 0, v], .int .i64 2]) ∧ Sat W w' (own v 59 0 5 [] :: M) := by
  have := takeState_spec W w M hs hold hm v l hv hl
  rw [he] at this
  exact this
theorem encWs_small {l : List RWr} (h : ∀ x ∈ l, x.Small) : (encWs l).length ≤ 2097166 * l.length := by
  unfold encWs
  induction l with
  | nil => simp
  | cons x l ih =>
    have h1 := (h x List.mem_cons_self).2
    have h2 := text_len x.v
    have h3 := encK_len x.k
    have h4 := ih fun y hy => h y (List.mem_cons_of_mem _ hy)
    simp only [List.map_cons, List.flatten_cons, List.length_append, List.length_cons, encW] at h4 ⊢
    omega
theorem encCs_small {l : List RCl} (h : ∀ x ∈ l, x.Small) : (encCs l).length ≤ 2097174 * l.length := by
  unfold encCs
  induction l with
  | nil => simp
  | cons x l ih =>
    have h1 := (h x List.mem_cons_self).2.2
    have h2 := text_len x.v
    have h3 := encK_len x.k
    have h4 := ih fun y hy => h y (List.mem_cons_of_mem _ hy)
    have h5 := be_length 8 (i63 x.ts)
    simp only [List.map_cons, List.flatten_cons, List.length_append, List.length_cons, encC] at h4 ⊢
    omega
theorem tidy_cells_small {x : RCm} (hx : x.Tidy) (ho : ∀ w ∈ x.W, w.Small) : ∀ y ∈ applyL [] x.ts x.W, y.Small := fun y hy => by
  have ht := told_apply told_nil x ((rise_iff _).1 hx.rise) (by simp)
  obtain ⟨⟨d, hd, h1, h2⟩, _⟩ := (ht.mem y).1 hy
  rw [List.nil_append, List.mem_singleton] at hd
  subst hd
  have := ho _ h2
  exact ⟨this.1, by rw [h1]; exact hx.ti, this.2⟩
def bkS (b6 : Nat) (c6 : List Value) (b8 : Nat) (c8 : List Value) (b10 : Nat) (c10 : List Value) (b12 : Nat) (c12 : List Value) (w : World) : Prop := w.rangeAt b6 0 c6 ∧ w.rangeAt b8 0 c8 ∧ w.rangeAt b10 0 c10 ∧ w.rangeAt b12 0 c12
def back0 : RSt := ⟨0, 3, 4, []⟩
/-- What the law needs of a commit: its tidy form, the bytes, and those of the state. -/
structure BackOk (X : RCm) (Y : RSt) (E D : List UInt8) : Prop where
  xok : X.Ok
  yok : Y.Ok
  xl : X.W.length ≤ 60
  yl : Y.L.length ≤ 60
  t1 : takeCm E = some X
  s1 : takeSt D = some Y
  e0 : 12 ≤ E.length
  e1 : E.length ≤ 200000000
  d0 : 20 ≤ D.length
  d1 : D.length ≤ 200000000
theorem back_ok (c : RCm) (hc : c.Small) (h60 : c.W.length ≤ 60) : BackOk (tidyC c) (applyR back0 (tidyC c)) (encCm (tidyC c)) (encSt (applyR back0 (tidyC c))) := by
  have hT := tidyC_tidy c hc.ts (by omega)
  have hl : (tidyC c).W.length ≤ 60 := by have := tidyW_len c.W; show (tidyW c.W).length ≤ 60; omega
  have hsm : ∀ w ∈ (tidyC c).W, w.Small := fun w hw => hc.ws w (tidyW_mem hw)
  have hY := one_tidy (s := back0) hT rfl rfl (by decide) (by decide)
  have hYL : (applyR back0 (tidyC c)).L = applyL [] (tidyC c).ts (tidyC c).W := rfl
  have hcs := tidy_cells_small hT hsm
  have hyl : (applyR back0 (tidyC c)).L.length ≤ 60 := by
    have := applyL_len [] (tidyC c).ts (tidyC c).W (tidyC c).W.length (Nat.le_refl _)
    rw [List.take_length] at this
    rw [hYL]
    simp only [List.length_nil] at this
    omega
  have h1 := encWs_small hsm
  have h2 := encCs_small hcs
  refine ⟨tidyC_ok hc.ok, ⟨hY.li, hY.epoch, hY.low, fun y hy => (hcs y hy).ok⟩, hl, hyl, takeCm_enc _ hT, takeSt_enc _ hY, ?_, ?_, ?_, ?_⟩
  · unfold encCm; simp; omega
  · unfold encCm; simp; omega
  · unfold encSt; simp; omega
  · unfold encSt; rw [hYL] at *; simp; omega
end Go.Proofs.YthjnefpnnifjiaaDoor
