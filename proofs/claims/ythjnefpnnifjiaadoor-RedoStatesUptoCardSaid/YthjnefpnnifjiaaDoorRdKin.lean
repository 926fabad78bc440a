/- Commits and states that the row hands to a law. -/
import Derived.Test.YthjnefpnnifjiaaDoorKinU
import Derived.Test.YthjnefpnnifjiaaDoorRdPut
import Derived.Test.YthjnefpnnifjiaaDoorRdRef1
set_option linter.unusedVariables false
set_option linter.unusedSimpArgs false
namespace Go.Proofs.YthjnefpnnifjiaaDoor
open Go.RowKit
/-- Numbers of 32 bits, as naturals. -/
def u32K : Kin Nat where
  sz := 1
  K := fun _ n cs => cs = [.int .u32 (n : Nat)] ∧ n < 4294967296
  mono := fun _ _ _ _ _ h => h
  len := by rintro _ _ _ ⟨rfl, _⟩; rfl
  one := by rintro _ _ _ ⟨rfl, _⟩; simp [Value.oneCell']
theorem fits_u32K {P : Program} {T : TypeId} (hu : P.underlying T = some (.int .u32)) (hc : P.cellsOf T = 1) : FitsU P T u32K :=
  ⟨hc, fun H enc W fuel cs d ps h _ _ => by
    obtain ⟨n, rfl, _, hw⟩ := DataW.trod_int hu h
    have hn' : 0 ≤ n ∧ n ≤ 4294967295 := by simpa [Lit.wf, IntKind.min, IntKind.max, IntKind.signed, IntKind.bits] using hw
    obtain ⟨m, rfl⟩ := Int.eq_ofNat_of_zero_le hn'.1
    exact ⟨m, rfl, by omega⟩⟩
def keyKin : Kin RKey := (Kin.pair (Kin.int .i64) (Kin.pair (Kin.int .i64) (Kin.pair (Kin.int .i64) Kin.unit))).iso fun k => (k.kind, k.a, k.b, ())
def wrKin : Kin RWr := (Kin.pair keyKin (Kin.pair strU Kin.unit)).iso fun x => (x.k, x.v, ())
def clKin : Kin RCl := (Kin.pair keyKin (Kin.pair (Kin.int .i64) (Kin.pair strU Kin.unit))).iso fun x => (x.k, x.ts, x.v, ())
def cmKin : Kin RCm := (Kin.pair (Kin.int .i64) (Kin.pair (Kin.slice 40 wrKin) Kin.unit)).iso fun c => (c.ts, c.W, ())
def stKin : Kin RSt := (Kin.pair (Kin.int .i64) (Kin.pair u32K (Kin.pair u32K (Kin.pair (Kin.slice 48 clKin) Kin.unit)))).iso fun s => (s.last, s.epoch, s.low, s.L, ())
theorem fits_key : FitsU Tryd.prog 57 keyKin :=
  fitsU_iso (fun x : Int × Int × Int × Unit => (⟨x.1, x.2.1, x.2.2.1⟩ : RKey)) (fun _ => rfl)
    (fitsU_struct Tryd.underlying57 (by kernel_rfl)
      (fitsUL_cons rfl (fitsU_of (fits_int Tryd.underlying3 (by kernel_rfl)))
        (fitsUL_cons rfl (fitsU_of (fits_int Tryd.underlying3 (by kernel_rfl)))
          (fitsUL_cons rfl (fitsU_of (fits_int Tryd.underlying3 (by kernel_rfl)))
            (fitsUL_nil _)))))
theorem fits_wr : FitsU Tryd.prog 61 wrKin :=
  fitsU_iso (fun x : RKey × List UInt8 × Unit => (⟨x.1, x.2.1⟩ : RWr)) (fun _ => rfl)
    (fitsU_struct Tryd.underlying61 (by kernel_rfl)
      (fitsUL_cons rfl fits_key
        (fitsUL_cons rfl (fitsU_str Tryd.underlying9 (by kernel_rfl))
          (fitsUL_nil _))))
theorem fits_cl : FitsU Tryd.prog 107 clKin :=
  fitsU_iso (fun x : RKey × Int × List UInt8 × Unit => (⟨x.1, x.2.1, x.2.2.1⟩ : RCl)) (fun _ => rfl)
    (fitsU_struct Tryd.underlying107 (by kernel_rfl)
      (fitsUL_cons rfl fits_key
        (fitsUL_cons rfl (fitsU_of (fits_int Tryd.underlying2 (by kernel_rfl)))
          (fitsUL_cons rfl (fitsU_str Tryd.underlying9 (by kernel_rfl))
            (fitsUL_nil _)))))
theorem fits_wrs : FitsU Tryd.prog 22 (Kin.slice 40 wrKin) := fitsU_slice Tryd.underlying22 (by kernel_rfl) fits_wr (by decide) (by kernel_rfl)
theorem fits_cm : FitsU Tryd.prog 24 cmKin :=
  fitsU_iso (fun x : Int × List RWr × Unit => (⟨x.1, x.2.1⟩ : RCm)) (fun _ => rfl)
    (fitsU_struct Tryd.underlying24 (by kernel_rfl)
      (fitsUL_cons rfl (fitsU_of (fits_int Tryd.underlying2 (by kernel_rfl)))
        (fitsUL_cons rfl fits_wrs
          (fitsUL_nil _))))
theorem fits_st : FitsU Tryd.prog 39 stKin :=
  fitsU_iso (fun x : Int × Nat × Nat × List RCl × Unit => (⟨x.1, x.2.1, x.2.2.1, x.2.2.2.1⟩ : RSt)) (fun _ => rfl)
    (fitsU_struct Tryd.underlying39 (by kernel_rfl)
      (fitsUL_cons rfl (fitsU_of (fits_int Tryd.underlying2 (by kernel_rfl)))
        (fitsUL_cons rfl (fits_u32K Tryd.underlying36 (by kernel_rfl))
          (fitsUL_cons rfl (fits_u32K Tryd.underlying36 (by kernel_rfl))
            (fitsUL_cons rfl (fitsU_slice Tryd.underlying37 (by kernel_rfl) fits_cl (by decide) (by kernel_rfl))
              (fitsUL_nil _))))))
theorem i64_lit {n : Int} (h : (Lit.int .i64 n).wf = true) : inI n := by
  have hn' : -9223372036854775808 ≤ n ∧ n ≤ 9223372036854775807 := by simpa [Lit.wf, IntKind.min, IntKind.max, IntKind.signed, IntKind.bits] using h
  unfold inI; omega
theorem key_val {F : PH} {k : RKey} {cs : List Value} (h : keyKin.K F k cs) : cs = kC k ∧ k.Ok := by
  obtain ⟨c1, d1, rfl, ⟨rfl, h1⟩, c2, d2, rfl, ⟨rfl, h2⟩, c3, d3, rfl, ⟨rfl, h3⟩, h4⟩ := h
  cases h4
  refine ⟨rfl, fun n hn => ?_⟩
  simp only [RKey.ints, List.mem_cons, List.not_mem_nil, or_false] at hn
  rcases hn with rfl | rfl | rfl
  · exact i64_lit h1
  · exact i64_lit h2
  · exact i64_lit h3
def RWr.Small (x : RWr) : Prop := x.k.Ok ∧ x.v.length ≤ 1048576
def RCl.Small (x : RCl) : Prop := x.k.Ok ∧ inI x.ts ∧ x.v.length ≤ 1048576
theorem RWr.Small.ok {x : RWr} (h : x.Small) : x.Ok := ⟨h.1, by have := h.2; unfold tMax; omega⟩
theorem RCl.Small.ok {x : RCl} (h : x.Small) : x.Ok := ⟨h.1, h.2.1, by have := h.2.2; unfold tMax; omega⟩
theorem wr_val {F : PH} {x : RWr} {cs : List Value} (h : wrKin.K F x cs) : cs = wC x ∧ x.Small := by
  obtain ⟨c1, d1, rfl, h1, c2, d2, rfl, ⟨h2, h3⟩, h4⟩ := h
  cases h4
  obtain ⟨e1, k1⟩ := key_val h1
  dsimp only at e1 k1 h2 h3
  subst e1
  subst h2
  exact ⟨rfl, k1, h3⟩
theorem cl_val {F : PH} {x : RCl} {cs : List Value} (h : clKin.K F x cs) : cs = cC x ∧ x.Small := by
  obtain ⟨c1, d1, rfl, h1, c2, d2, rfl, ⟨h2, h3⟩, c3, d3, rfl, ⟨h4, h5⟩, h6⟩ := h
  cases h6
  obtain ⟨e1, k1⟩ := key_val h1
  dsimp only at e1 k1 h2 h3 h4 h5
  subst e1
  subst h2
  subst h4
  exact ⟨rfl, k1, i64_lit h3, h5⟩
theorem rows_flat {α : Type} {a : Kin α} {F : PH} (f : α → List Value) (p : α → Prop) (h0 : ∀ x cs, a.K F x cs → cs = f x ∧ p x) : ∀ {xs : List α} {vs : List Value}, a.rows F xs vs → vs = xs.flatMap f ∧ ∀ x ∈ xs, p x
  | [], vs, h => by
    have : vs = [] := List.eq_nil_of_length_eq_zero (by simpa using h.1)
    subst this; exact ⟨rfl, by simp⟩
  | x :: xs, vs, h => by
    have h1 := h.2 0 x rfl
    simp only [Nat.zero_mul, List.drop_zero] at h1
    have hr : a.rows F xs (vs.drop a.sz) := by
      refine ⟨by rw [List.length_drop, h.1, List.length_cons, Nat.succ_mul]; omega, fun i y hy => ?_⟩
      have := h.2 (i + 1) y (by simpa using hy)
      rw [List.drop_drop, show a.sz + i * a.sz = (i + 1) * a.sz by rw [Nat.succ_mul]; omega]
      exact this
    obtain ⟨e1, p1⟩ := h0 x _ h1
    obtain ⟨e2, p2⟩ := rows_flat f p h0 hr
    refine ⟨?_, fun y hy => ?_⟩
    · rw [List.flatMap_cons, ← e1, ← e2, List.take_append_drop]
    · rw [List.mem_cons] at hy
      rcases hy with rfl | hy
      · exact p1
      · exact p2 y hy
theorem wrs_val {F : PH} {l : List RWr} {cs : List Value} (h : (Kin.slice 40 wrKin).K F l cs) : ∃ v, cs = [v] ∧ sliceAt v l.length 4 (wsC l) F ∧ (∀ x ∈ l, x.Small) ∧ l.length ≤ 140737488351232 := by
  obtain ⟨v, vs, rfl, h1, h2, h3⟩ := h
  obtain ⟨e, p⟩ := rows_flat wC RWr.Small (fun x cs h => wr_val h) h2
  subst e
  exact ⟨v, rfl, h1, p, by omega⟩
theorem cls_val {F : PH} {l : List RCl} {cs : List Value} (h : (Kin.slice 48 clKin).K F l cs) : ∃ v, cs = [v] ∧ sliceAt v l.length 5 (csC l) F ∧ (∀ x ∈ l, x.Small) ∧ l.length ≤ 140737488351232 := by
  obtain ⟨v, vs, rfl, h1, h2, h3⟩ := h
  obtain ⟨e, p⟩ := rows_flat cC RCl.Small (fun x cs h => cl_val h) h2
  subst e
  exact ⟨v, rfl, h1, p, by omega⟩
structure RCm.Small (c : RCm) : Prop where
  ts : inI c.ts
  ws : ∀ x ∈ c.W, x.Small
  len : c.W.length ≤ 140737488351232
structure RSt.Small (s : RSt) : Prop where
  last : inI s.last
  epoch : s.epoch < 4294967296
  low : s.low < 4294967296
  ls : ∀ x ∈ s.L, x.Small
  len : s.L.length ≤ 140737488351232
theorem RCm.Small.ok {c : RCm} (h : c.Small) : c.Ok := ⟨h.ts, fun x hx => (h.ws x hx).ok⟩
theorem RSt.Small.ok {s : RSt} (h : s.Small) : s.Ok := ⟨h.last, h.epoch, h.low, fun x hx => (h.ls x hx).ok⟩
theorem cm_val {F : PH} {c : RCm} {cs : List Value} (h : cmKin.K F c cs) : ∃ v, cs = cmC c v ∧ sliceAt v c.W.length 4 (wsC c.W) F ∧ c.Small := by
  obtain ⟨c1, d1, rfl, ⟨h1, h2⟩, c2, d2, rfl, h3, h4⟩ := h
  cases h4
  dsimp only at h1 h2 h3
  obtain ⟨v, rfl, h5, h6, h7⟩ := wrs_val h3
  subst h1
  exact ⟨v, rfl, h5, i64_lit h2, h6, h7⟩
theorem st_val {F : PH} {s : RSt} {cs : List Value} (h : stKin.K F s cs) : ∃ v, cs = stC s v ∧ sliceAt v s.L.length 5 (csC s.L) F ∧ s.Small := by
  obtain ⟨c1, d1, rfl, ⟨h1, h2⟩, c2, d2, rfl, ⟨h3, h4⟩, c3, d3, rfl, ⟨h5, h6⟩, c4, d4, rfl, h7, h8⟩ := h
  cases h8
  dsimp only at h1 h2 h3 h4 h5 h6 h7
  obtain ⟨v, rfl, h9, h10, h11⟩ := cls_val h7
  subst h1
  subst h3
  subst h5
  exact ⟨v, rfl, h9, i64_lit h2, h4, h6, h10, h11⟩
theorem hasW {W : World} {L : List HP} (hold : old W ∈ L) {φ : PH → Prop} (h : φ (hp W)) : Has L φ := Has.mem hold fun F hF => by cases hF; exact h
theorem Pack.drops {L M : List HP} : ∀ K : List HP, Pack L M → Pack L (K ++ M)
  | [], h => h
  | _ :: K, h => Pack.drop (Pack.drops K h)
end Go.Proofs.YthjnefpnnifjiaaDoor
