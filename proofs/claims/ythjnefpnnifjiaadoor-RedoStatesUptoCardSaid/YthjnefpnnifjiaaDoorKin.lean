/- How arguments are read as plain data: a kind for each type, and that the row's own reading gives what the kind says. -/
import Derived.Test.YthjnefpnnifjiaaDoorOp2
import Derived.ChangeArms
import Derived.Deep.Slices
import Derived.SizedLaws
set_option linter.unusedVariables false
set_option linter.unusedSimpArgs false
namespace Go.Proofs.YthjnefpnnifjiaaDoor
open Go.RowKit
/-- A kind of data: how many cells, and which cells (of a part of the heap) are which datum. -/
structure Kin (α : Type) where
  sz : Nat
  K : PH → α → List Value → Prop
  mono : ∀ F G x cs, PH.le F G → K F x cs → K G x cs
  len : ∀ F x cs, K F x cs → cs.length = sz
  one : ∀ F x cs, K F x cs → ∀ c ∈ cs, c.oneCell' = true
namespace Kin
def int (k : IntKind) : Kin Int where
  sz := 1
  K := fun _ n cs => cs = [.int k n] ∧ (Lit.int k n).wf = true
  mono := fun _ _ _ _ _ h => h
  len := by rintro _ _ _ ⟨rfl, _⟩; rfl
  one := by rintro _ _ _ ⟨rfl, _⟩; simp [Value.oneCell']
def u8 : Kin UInt8 where
  sz := 1
  K := fun _ n cs => cs = [.int .u8 n.toNat]
  mono := fun _ _ _ _ _ h => h
  len := by rintro _ _ _ rfl; rfl
  one := by rintro _ _ _ rfl; simp [Value.oneCell']
def bool : Kin Bool where
  sz := 1
  K := fun _ n cs => cs = [.bool n]
  mono := fun _ _ _ _ _ h => h
  len := by rintro _ _ _ rfl; rfl
  one := by rintro _ _ _ rfl; simp [Value.oneCell']
/-- Strings, as lists of bytes. -/
def str : Kin (List UInt8) where
  sz := 1
  K := fun _ l cs => cs = [.string ⟨l.toArray⟩] ∧ l.length ≤ 140737488351232
  mono := fun _ _ _ _ _ h => h
  len := by rintro _ _ _ ⟨rfl, _⟩; rfl
  one := by rintro _ _ _ ⟨rfl, _⟩; simp [Value.oneCell']
def unit : Kin Unit where
  sz := 0
  K := fun _ _ cs => cs = []
  mono := fun _ _ _ _ _ h => h
  len := by rintro _ _ _ rfl; rfl
  one := by rintro _ _ _ rfl; simp
def pair {α β : Type} (a : Kin α) (b : Kin β) : Kin (α × β) where
  sz := a.sz + b.sz
  K := fun F x cs => ∃ c d, cs = c ++ d ∧ a.K F x.1 c ∧ b.K F x.2 d
  mono := fun F G x cs h => fun ⟨c, d, e, h1, h2⟩ => ⟨c, d, e, a.mono _ _ _ _ h h1, b.mono _ _ _ _ h h2⟩
  len := by rintro F x cs ⟨c, d, rfl, h1, h2⟩; rw [List.length_append, a.len _ _ _ h1, b.len _ _ _ h2]
  one := by
    rintro F x cs ⟨c, d, rfl, h1, h2⟩ v hv
    rcases List.mem_append.1 hv with hv | hv
    · exact a.one _ _ _ h1 v hv
    · exact b.one _ _ _ h2 v hv
def iso {α β : Type} (a : Kin α) (f : β → α) : Kin β where
  sz := a.sz
  K := fun F x cs => a.K F (f x) cs
  mono := fun F G x cs h => a.mono F G (f x) cs h
  len := fun F x cs h => a.len F (f x) cs h
  one := fun F x cs h => a.one F (f x) cs h
/-- The cells of so many elements, one behind the other. -/
def rows {α : Type} (a : Kin α) (F : PH) (xs : List α) (vs : List Value) : Prop :=
  vs.length = xs.length * a.sz ∧ ∀ i x, xs[i]? = some x → a.K F x ((vs.drop (i * a.sz)).take a.sz)
theorem rows_mono {α : Type} {a : Kin α} {F G : PH} (h : PH.le F G) {xs : List α} {vs : List Value} (k : a.rows F xs vs) : a.rows G xs vs := ⟨k.1, fun i x hx => a.mono _ _ _ _ h (k.2 i x hx)⟩
theorem rows_one {α : Type} {a : Kin α} {F : PH} : ∀ {xs : List α} {vs : List Value}, a.rows F xs vs → ∀ c ∈ vs, c.oneCell' = true
  | [], vs, h, c, hc => by
    have : vs = [] := List.eq_nil_of_length_eq_zero (by simpa using h.1)
    subst this; cases hc
  | x :: xs, vs, h, c, hc => by
    have h0 := h.2 0 x rfl
    simp only [Nat.zero_mul, List.drop_zero] at h0
    have hr : a.rows F xs (vs.drop a.sz) := by
      refine ⟨by rw [List.length_drop, h.1, List.length_cons, Nat.succ_mul]; omega, fun i y hy => ?_⟩
      have := h.2 (i + 1) y (by simpa using hy)
      rw [List.drop_drop, show a.sz + i * a.sz = (i + 1) * a.sz by rw [Nat.succ_mul]; omega]
      exact this
    rw [← List.take_append_drop a.sz vs] at hc
    rcases List.mem_append.1 hc with hc | hc
    · exact a.one _ _ _ h0 c hc
    · exact rows_one hr c hc
/-- A slice that is read; B: bytes of an element. -/
def slice {α : Type} (B : Nat) (a : Kin α) : Kin (List α) where
  sz := 1
  K := fun F xs cs => ∃ v vs, cs = [v] ∧ sliceAt v xs.length a.sz vs F ∧ a.rows F xs vs ∧ xs.length * B ≤ 140737488351232
  mono := fun F G xs cs h => fun ⟨v, vs, e, h1, h2, h3⟩ => ⟨v, vs, e, sliceAt_mono h h1, rows_mono h h2, h3⟩
  len := by rintro _ _ _ ⟨v, vs, rfl, _⟩; rfl
  one := by rintro _ _ _ ⟨v, vs, rfl, ⟨_, A, cap, rfl, _⟩, _⟩; simp [Value.oneCell']
/-- An array. -/
def arr {α : Type} (n : Nat) (a : Kin α) : Kin (List α) where
  sz := n * a.sz
  K := fun F xs cs => xs.length = n ∧ a.rows F xs cs
  mono := fun F G xs cs h => fun ⟨h1, h2⟩ => ⟨h1, rows_mono h h2⟩
  len := by rintro F xs cs ⟨rfl, h⟩; exact h.1
  one := fun F xs cs h => rows_one h.2
end Kin

/-! ### That a type is read so -/
def Fits {α : Type} (P : Program) (T : TypeId) (k : Kin α) : Prop :=
  P.cellsOf T = k.sz ∧ ∀ (H : Type) (enc : TypeId × Value → H) (W : World) (fuel : Nat) (cs : List Value) (d : DataW H) (ps : List MemPlace),
    DataW.trod enc P W 0 (fun _ => true) true fuel T cs = some (d, ps) → (∀ n ∈ d.weights P T, n ≤ reachBytes) → ∃ x, k.K (hp W) x cs
section
variable {P : Program} {T : TypeId}
theorem fits_int {k : IntKind} (hu : P.underlying T = some (.int k)) (hc : P.cellsOf T = 1) : Fits P T (Kin.int k) :=
  ⟨hc, fun H enc W fuel cs d ps h _ => let ⟨n, e, _, hw⟩ := DataW.trod_int hu h; ⟨n, e, hw⟩⟩
theorem fits_u8 (hu : P.underlying T = some (.int .u8)) (hc : P.cellsOf T = 1) : Fits P T Kin.u8 :=
  ⟨hc, fun H enc W fuel cs d ps h _ => by
    obtain ⟨n, rfl, _, hw⟩ := DataW.trod_int hu h
    have : 0 ≤ n ∧ n ≤ 255 := by simpa [Lit.wf, IntKind.min, IntKind.max, IntKind.signed, IntKind.bits] using hw
    refine ⟨UInt8.ofNat n.toNat, ?_⟩
    show [Value.int .u8 n] = [.int .u8 ((UInt8.ofNat n.toNat).toNat : Nat)]
    rw [UInt8.toNat_ofNat']
    congr 2; omega⟩
theorem fits_bool (hu : P.underlying T = some .bool) (hc : P.cellsOf T = 1) : Fits P T Kin.bool :=
  ⟨hc, fun H enc W fuel cs d ps h _ => let ⟨b, e, _⟩ := DataW.trod_bool hu h; ⟨b, e⟩⟩
theorem fits_str (hu : P.underlying T = some .string) (hc : P.cellsOf T = 1) : Fits P T Kin.str :=
  ⟨hc, fun H enc W fuel cs d ps h hw => by
    obtain ⟨s, rfl, e, _⟩ := DataW.trod_string hu h
    cases e
    refine ⟨s.data.toList, rfl, ?_⟩
    have := hw s.data.toList.length (by simp [DataW.weights])
    exact this⟩
theorem cells?_some {W : World} {a : Addr} {n : Nat} {cs : List Value} (h : W.cells? 0 a n = some cs) : cs.length = n ∧ ∀ j v, cs[j]? = some v → W.cell? (a.add j) = some v := by
  unfold World.cells? at h
  simp only [Nat.zero_le, if_true] at h
  have hl : cs.length = n := by simpa using mapM_some_length h
  refine ⟨hl, fun j v hj => ?_⟩
  obtain ⟨hlt, _⟩ := List.getElem?_eq_some_iff.1 hj
  have hj' : j < n := by omega
  have := mapM_some_get h j j (by simp [hj'])
  rw [this]; exact hj
theorem fits_slice {α : Type} {e : TypeId} {k : Kin α} {B : Nat} (hu : P.underlying T = some (.slice e)) (hc : P.cellsOf T = 1) (hk : Fits P e k) (hpos : 0 < k.sz) (hB : P.bytesOf e = B) : Fits P T (Kin.slice B k) :=
  ⟨hc, fun H enc W fuel cs d ps h hw => by
    rcases Go.Deep.open_slice hu h with ⟨rfl, _⟩ | ⟨a, len, cap, m, n, D, Pl, rfl, _, hlc, hcm, hm, hx, hel⟩
    · exact ⟨[], .slice none 0 0, [], rfl, ⟨by simp, none, 0, rfl, Nat.le_refl _, by omega, .inl rfl⟩, ⟨by simp, fun i x hx => by simp at hx⟩, by simp⟩
    · simp only [if_true] at hm
      subst hm
      simp only [Prod.mk.injEq] at hx
      obtain ⟨rfl, _⟩ := hx
      rw [hk.1] at hel
      have hcap : m * B ≤ 140737488351232 := by
        have := hw ((len + (m - len)) * P.bytesOf e) (by simp [DataW.weights, hu])
        rw [hB, show len + (m - len) = m by omega] at this
        exact this
      have hwe : ∀ i, i < len → ∀ q ∈ (D i).weights P e, q ≤ reachBytes := fun i hi q hq => by
        refine hw q ?_
        simp only [DataW.weights, hu, List.mem_cons, List.mem_append]
        right; left
        have : ∀ (l : List Nat), i ∈ l → q ∈ DataW.weightsAll P e (l.map D) := by
          intro l
          induction l with
          | nil => intro h; cases h
          | cons j l ih =>
            intro hj
            simp only [List.map_cons, DataW.weightsAll, List.mem_append]
            rcases List.mem_cons.1 hj with rfl | hj
            · exact .inl hq
            · exact .inr (ih hj)
        exact this _ (by simpa using hi)
      -- the elements' cells, and what they are
      obtain ⟨C, hC⟩ := Go.Deep.choose_lt (n := len) (p := fun i cs' => W.cells? 0 (a.add (i * k.sz)) k.sz = some cs' ∧ DataW.trod enc P W 0 (fun _ => true) true n e cs' = some (D i, Pl i)) (fun i hi => hel i (by omega))
      have hX : ∀ i, i < len → ∃ x, k.K (hp W) x (C i) := fun i hi => hk.2 H enc W n _ _ _ (hC i hi).2 (hwe i hi)
      by_cases h0 : len = 0
      · subst h0
        refine ⟨[], .slice (some a) 0 m, [], rfl, ⟨by simp, some a, m, rfl, Nat.zero_le _, by simp only [maxLen] at hcm; omega, .inl rfl⟩, ⟨by simp, fun i x hx => by simp at hx⟩, by simp⟩
      · obtain ⟨x0, _⟩ := hX 0 (by omega)
        haveI : Inhabited α := ⟨x0⟩
        obtain ⟨X, hX'⟩ := Go.Deep.choose_lt hX
        have hCl : ∀ i, i < len → (C i).length = k.sz := fun i hi => (cells?_some (hC i hi).1).1
        have hvl : ∀ (q : Nat), q ≤ len → ((List.range q).flatMap C).length = q * k.sz := by
          intro q
          induction q with
          | zero => intro _; simp
          | succ q ih => intro hq; rw [List.range_succ, List.flatMap_append, List.length_append, ih (by omega)]; simp [hCl q (by omega), Nat.succ_mul]
        have hget : ∀ (q : Nat), q ≤ len → ∀ i, i < q → (((List.range q).flatMap C).drop (i * k.sz)).take k.sz = C i := by
          intro q
          induction q with
          | zero => intro _ i hi; omega
          | succ q ih =>
            intro hq i hi
            rw [List.range_succ, List.flatMap_append]
            by_cases hiq : i < q
            · have hle : (i + 1) * k.sz ≤ q * k.sz := Nat.mul_le_mul_right _ (by omega)
              rw [Nat.succ_mul] at hle
              rw [List.drop_append_of_le_length (by rw [hvl q (by omega)]; omega), List.take_append_of_le_length (by rw [List.length_drop, hvl q (by omega)]; omega)]
              exact ih (by omega) i hiq
            · obtain rfl : i = q := by omega
              rw [List.drop_append, List.drop_of_length_le (by rw [hvl i (by omega)]; omega), hvl i (by omega)]
              simp only [Nat.sub_self, List.drop_zero, List.nil_append, List.flatMap_cons, List.flatMap_nil, List.append_nil]
              exact List.take_of_length_le (by rw [hCl i (by omega)]; omega)
        -- the address
        have hcell : ∀ i, i < len → ∀ j v, (C i)[j]? = some v → W.cell? (a.add (i * k.sz + j)) = some v := fun i hi j v hj => by
          have := (cells?_some (hC i hi).1).2 j v hj
          rwa [Go.Deep.add_add] at this
        have hc0 : ∃ v, (C 0)[0]? = some v := ⟨_, List.getElem?_eq_getElem (by rw [hCl 0 (by omega)]; exact hpos)⟩
        obtain ⟨v0, hv0⟩ := hc0
        have h00 := hcell 0 (by omega) 0 v0 hv0
        have hspot : a.spot = none := by
          simp only [Nat.zero_mul, Nat.add_zero] at h00
          unfold Addr.add at h00
          simp only [if_true] at h00
          unfold World.cell? at h00
          cases hs : a.spot with
          | none => rfl
          | some s => simp [hs] at h00; split at h00 <;> simp at h00
        obtain ⟨b, o, sp⟩ := a
        simp only at hspot
        subst hspot
        have hrange : W.rangeAt b o ((List.range len).flatMap C) := by
          intro j v hj
          have hlt : j < len * k.sz := by
            obtain ⟨h', _⟩ := List.getElem?_eq_some_iff.1 hj
            rw [hvl len (Nat.le_refl _)] at h'; exact h'
          have hi : j / k.sz < len := Nat.div_lt_of_lt_mul (by rw [Nat.mul_comm]; exact hlt)
          have hm := Nat.div_add_mod j k.sz
          have hmod := Nat.mod_lt j hpos
          have h1 : (C (j / k.sz))[j % k.sz]? = some v := by
            rw [← hget len (Nat.le_refl _) _ hi, List.getElem?_take, if_pos hmod, List.getElem?_drop]
            rw [show j / k.sz * k.sz + j % k.sz = j by rw [Nat.mul_comm]; exact hm]
            exact hj
          have := hcell _ hi _ _ h1
          rw [add_plain, show j / k.sz * k.sz + j % k.sz = j by rw [Nat.mul_comm]; exact hm] at this
          exact this
        have hne : (List.range len).flatMap C ≠ [] := by
          intro e0
          have := hvl len (Nat.le_refl _)
          rw [e0, List.length_nil] at this
          have := Nat.mul_pos (show 0 < len by omega) hpos
          omega
        refine ⟨(List.range len).map X, .slice (some ⟨b, o, none⟩) len m, (List.range len).flatMap C, rfl, ⟨by simp [hvl len (Nat.le_refl _)], _, m, by simp, by simp; exact hlc, by simp only [maxLen] at hcm; omega, .inr ⟨b, o, rfl, cellsAt_old hrange hne _ rfl⟩⟩, ⟨by simp [hvl len (Nat.le_refl _)], fun i x hx => ?_⟩, ?_⟩
        · have hi : i < len := by
            obtain ⟨h', _⟩ := List.getElem?_eq_some_iff.1 hx
            simpa using h'
          rw [hget len (Nat.le_refl _) i hi]
          have : x = X i := by simpa [hi] using hx.symm
          rw [this]; exact hX' i hi
        · simp only [List.length_map, List.length_range]
          exact Nat.le_trans (Nat.mul_le_mul_right _ hlc) hcap⟩
/-! Structs, arrays. -/
def FitsL {α : Type} (P : Program) (fs : List Field) (off : Nat) (k : Kin α) : Prop :=
  ∀ (H : Type) (enc : TypeId × Value → H) (W : World) (fuel : Nat) (cs : List Value) (xs : List (DataW H × List MemPlace)), xs.length = fs.length → off + k.sz = cs.length →
    (∀ (i : Nat) (f : Field), fs[i]? = some f → DataW.trod enc P W 0 (fun _ => true) true fuel f.type ((cs.drop f.offset).take (P.cellsOf f.type)) = xs[i]?) →
    (∀ n ∈ DataW.weightsEach P (fs.map (·.type)) (xs.map (·.1)), n ≤ reachBytes) → ∃ x, k.K (hp W) x (cs.drop off)
theorem fitsL_nil (off : Nat) : FitsL P [] off Kin.unit := fun H enc W fuel cs xs hl ho _ _ => ⟨(), by
  show cs.drop off = []
  exact List.drop_of_length_le (by have : (Kin.unit).sz = 0 := rfl; omega)⟩
theorem fitsL_cons {α β : Type} {f : Field} {fs : List Field} {off : Nat} {a : Kin α} {b : Kin β} (ho : f.offset = off) (ha : Fits P f.type a) (hb : FitsL P fs (off + a.sz) b) : FitsL P (f :: fs) off (Kin.pair a b) := by
  intro H enc W fuel cs xs hl hlen hx hw
  cases xs with
  | nil => simp at hl
  | cons x xs =>
    have h0 := hx 0 f rfl
    simp only [List.getElem?_cons_zero, ho, ha.1] at h0
    have hsz : (Kin.pair a b).sz = a.sz + b.sz := rfl
    simp only [List.map_cons, DataW.weightsEach] at hw
    obtain ⟨d, ps⟩ := x
    obtain ⟨x1, h1⟩ := ha.2 H enc W fuel _ d ps h0 (fun n hn => hw n (List.mem_append_left _ hn))
    obtain ⟨x2, h2⟩ := hb H enc W fuel cs xs (by simpa using hl) (by omega) (fun i g hg => by have := hx (i + 1) g (by simpa using hg); simpa using this) (fun n hn => hw n (List.mem_append_right _ hn))
    refine ⟨(x1, x2), _, _, ?_, h1, h2⟩
    rw [← List.drop_drop, List.take_append_drop]
theorem fits_struct {α : Type} {fs : Array Field} {k : Kin α} (hu : P.underlying T = some (.struct fs)) (hc : P.cellsOf T = k.sz) (hk : FitsL P fs.toList 0 k) : Fits P T k :=
  ⟨hc, fun H enc W fuel cs d ps h hw => by
    obtain ⟨xs, n, _, e, hl, hxl, hx⟩ := DataW.trod_struct hu h
    cases e
    obtain ⟨x, hx'⟩ := hk H enc W n cs xs (by simpa using hxl) (by rw [hl, hc]; omega) (fun i f hf => hx i f (by simpa using hf)) (by
      intro q hq
      refine hw q ?_
      simp only [DataW.weights, hu]
      simpa using hq)
    exact ⟨x, by simpa using hx'⟩⟩
theorem fits_iso {α β : Type} {k : Kin α} {f : β → α} (g : α → β) (hfg : ∀ x, f (g x) = x) (h : Fits P T k) : Fits P T (k.iso f) :=
  ⟨h.1, fun H enc W fuel cs d ps ht hw => let ⟨x, hx⟩ := h.2 H enc W fuel cs d ps ht hw; ⟨g x, by show k.K (hp W) (f (g x)) cs; rw [hfg]; exact hx⟩⟩
theorem fits_array {α : Type} {e : TypeId} {n : Nat} {k : Kin α} (hu : P.underlying T = some (.array n e)) (hc : P.cellsOf T = n * k.sz) (hk : Fits P e k) : Fits P T (Kin.arr n k) :=
  ⟨hc, fun H enc W fuel cs d ps h hw => by
    cases fuel with
    | zero => simp [DataW.trod] at h
    | succ fuel =>
      obtain ⟨hlen, xs, hxs, rfl⟩ : cs.length = P.cellsOf T ∧ ∃ xs : List (DataW H × List MemPlace), (List.range n).mapM (fun i => DataW.trod enc P W 0 (fun _ => true) true fuel e ((cs.drop (i * P.cellsOf e)).take (P.cellsOf e))) = some xs ∧ d = .agg (xs.map (·.1)) := by
        unfold DataW.trod at h
        rw [hu] at h
        split at h <;> simp_all
        obtain ⟨hl, xs, hp, hd, _⟩ := h
        exact ⟨xs, hp, hd.symm⟩
      have hxl : xs.length = n := by simpa using mapM_some_length hxs
      have hwe : ∀ (l : List (DataW H)) (i : Nat) (x : DataW H), l[i]? = some x → ∀ q ∈ x.weights P e, q ∈ DataW.weightsAll P e l := by
        intro l
        induction l with
        | nil => intro i x hx; simp at hx
        | cons y l ih =>
          intro i x hx q hq
          simp only [DataW.weightsAll, List.mem_append]
          cases i with
          | zero => simp at hx; subst hx; exact .inl hq
          | succ i => exact .inr (ih i x (by simpa using hx) q hq)
      have hX : ∀ i, i < n → ∃ x, k.K (hp W) x ((cs.drop (i * k.sz)).take k.sz) := fun i hi => by
        have := mapM_some_get hxs i i (by simp [hi])
        rw [hk.1] at this
        have hlt : i < xs.length := by omega
        rw [List.getElem?_eq_getElem hlt] at this
        refine hk.2 H enc W fuel _ _ _ this (fun q hq => hw q ?_)
        simp only [DataW.weights, hu]
        exact hwe _ i (xs[i]).1 (by simp [hlt]) q hq
      by_cases h0 : n = 0
      · subst h0
        exact ⟨[], rfl, by simp at hc; rw [hlen, hc]; simp, fun i x hx => by simp at hx⟩
      · obtain ⟨x0, _⟩ := hX 0 (by omega)
        haveI : Inhabited α := ⟨x0⟩
        obtain ⟨X, hX'⟩ := Go.Deep.choose_lt hX
        refine ⟨(List.range n).map X, by simp, by simp [hlen, hc], fun i x hx => ?_⟩
        have hi : i < n := by
          obtain ⟨h', _⟩ := List.getElem?_eq_some_iff.1 hx
          simpa using h'
        have : x = X i := by simpa [hi] using hx.symm
        rw [this]; exact hX' i hi⟩
end
end Go.Proofs.YthjnefpnnifjiaaDoor
