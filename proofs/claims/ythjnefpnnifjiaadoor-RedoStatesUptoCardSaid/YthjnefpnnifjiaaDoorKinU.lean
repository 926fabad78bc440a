/- From the row's reading of an argument to its kind, where all arguments together are of bounded bulk. -/
import Derived.Test.YthjnefpnnifjiaaDoorLift
set_option linter.unusedVariables false
set_option linter.unusedSimpArgs false
namespace Go.Proofs.YthjnefpnnifjiaaDoor
open Go.RowKit
theorem bulk_part {H : Type} {d : DataW H} {l : List (DataW H)} (h : d ∈ l) : Rows.uptoBulk d ≤ Rows.uptoBulkAll l := by
  induction l with
  | nil => cases h
  | cons x r ih =>
    simp only [Rows.uptoBulkAll]
    rcases List.mem_cons.1 h with e | e
    · subst e; omega
    · have := ih e; omega
/-- Strings of bounded length. -/
def strU : Kin (List UInt8) where
  sz := 1
  K := fun _ l cs => cs = [.string ⟨l.toArray⟩] ∧ l.length ≤ 1048576
  mono := fun _ _ _ _ _ h => h
  len := by rintro _ _ _ ⟨rfl, _⟩; rfl
  one := by rintro _ _ _ ⟨rfl, _⟩; simp [Value.oneCell']
def FitsU {α : Type} (P : Program) (T : TypeId) (k : Kin α) : Prop :=
  P.cellsOf T = k.sz ∧ ∀ (H : Type) (enc : TypeId × Value → H) (W : World) (fuel : Nat) (cs : List Value) (d : DataW H) (ps : List MemPlace),
    DataW.trod enc P W 0 (fun _ => true) true fuel T cs = some (d, ps) → (∀ n ∈ d.weights P T, n ≤ reachBytes) → Rows.uptoBulk d ≤ 1048576 → ∃ x, k.K (hp W) x cs
section
variable {P : Program} {T : TypeId}
theorem fitsU_of {α : Type} {k : Kin α} (h : Fits P T k) : FitsU P T k := ⟨h.1, fun H enc W fuel cs d ps ht hw _ => h.2 H enc W fuel cs d ps ht hw⟩
theorem fitsU_str (hu : P.underlying T = some .string) (hc : P.cellsOf T = 1) : FitsU P T strU :=
  ⟨hc, fun H enc W fuel cs d ps h hw hb => by
    obtain ⟨s, rfl, e, _⟩ := DataW.trod_string hu h
    cases e
    refine ⟨s.data.toList, rfl, ?_⟩
    have : s.data.toList.length + 1 ≤ 1048576 := by simpa only [Rows.uptoBulk] using hb
    omega⟩
theorem fitsU_iso {α β : Type} {k : Kin α} {f : β → α} (g : α → β) (hfg : ∀ x, f (g x) = x) (h : FitsU P T k) : FitsU P T (k.iso f) :=
  ⟨h.1, fun H enc W fuel cs d ps ht hw hb => let ⟨x, hx⟩ := h.2 H enc W fuel cs d ps ht hw hb; ⟨g x, by show k.K (hp W) (f (g x)) cs; rw [hfg]; exact hx⟩⟩
theorem fitsU_slice {α : Type} {e : TypeId} {k : Kin α} {B : Nat} (hu : P.underlying T = some (.slice e)) (hc : P.cellsOf T = 1) (hk : FitsU P e k) (hpos : 0 < k.sz) (hB : P.bytesOf e = B) : FitsU P T (Kin.slice B k) :=
  ⟨hc, fun H enc W fuel cs d ps h hw hb => by
    rcases Go.Deep.open_slice hu h with ⟨rfl, _⟩ | ⟨a, len, cap, m, n, D, Pl, rfl, _, hlc, hcm, hm, hx, hel⟩
    · exact ⟨[], .slice none 0 0, [], rfl, ⟨by simp, none, 0, rfl, Nat.le_refl _, by omega, .inl rfl⟩, ⟨by simp, fun i x hx => by simp at hx⟩, by simp⟩
    · simp only [if_true] at hm
      subst hm
      simp only [Prod.mk.injEq] at hx
      obtain ⟨rfl, _⟩ := hx
      rw [hk.1] at hel
      have hcap : m * B ≤ 140737488351232 := by
        have := hw ((len + (m - len)) * P.bytesOf e) (by simp [DataW.weights, hu])
        rw [hB, show len + (m - len) = m by omega] at this
        exact this
      have hwe : ∀ i, i < len → ∀ q ∈ (D i).weights P e, q ≤ reachBytes := fun i hi q hq => by
        refine hw q ?_
        simp only [DataW.weights, hu, List.mem_cons, List.mem_append]
        right; left
        have : ∀ (l : List Nat), i ∈ l → q ∈ DataW.weightsAll P e (l.map D) := by
          intro l
          induction l with
          | nil => intro h; cases h
          | cons j l ih =>
            intro hj
            simp only [List.map_cons, DataW.weightsAll, List.mem_append]
            rcases List.mem_cons.1 hj with rfl | hj
            · exact .inl hq
            · exact .inr (ih hj)
        exact this _ (by simpa using hi)
      have hbe : ∀ i, i < len → Rows.uptoBulk (D i) ≤ 1048576 := fun i hi => by
        simp only [Rows.uptoBulk] at hb
        exact Nat.le_trans (bulk_part (l := (List.range len).map D) (List.mem_map.2 ⟨i, List.mem_range.2 hi, rfl⟩)) (by omega)
      obtain ⟨C, hC⟩ := Go.Deep.choose_lt (n := len) (p := fun i cs' => W.cells? 0 (a.add (i * k.sz)) k.sz = some cs' ∧ DataW.trod enc P W 0 (fun _ => true) true n e cs' = some (D i, Pl i)) (fun i hi => hel i (by omega))
      have hX : ∀ i, i < len → ∃ x, k.K (hp W) x (C i) := fun i hi => hk.2 H enc W n _ _ _ (hC i hi).2 (hwe i hi) (hbe i hi)
      by_cases h0 : len = 0
      · subst h0
        refine ⟨[], .slice (some a) 0 m, [], rfl, ⟨by simp, some a, m, rfl, Nat.zero_le _, by simp only [maxLen] at hcm; omega, .inl rfl⟩, ⟨by simp, fun i x hx => by simp at hx⟩, by simp⟩
      · obtain ⟨x0, _⟩ := hX 0 (by omega)
        haveI : Inhabited α := ⟨x0⟩
        obtain ⟨X, hX'⟩ := Go.Deep.choose_lt hX
        have hCl : ∀ i, i < len → (C i).length = k.sz := fun i hi => (cells?_some (hC i hi).1).1
        have hvl : ∀ (q : Nat), q ≤ len → ((List.range q).flatMap C).length = q * k.sz := by
          intro q
          induction q with
          | zero => intro _; simp
          | succ q ih => intro hq; rw [List.range_succ, List.flatMap_append, List.length_append, ih (by omega)]; simp [hCl q (by omega), Nat.succ_mul]
        have hget : ∀ (q : Nat), q ≤ len → ∀ i, i < q → (((List.range q).flatMap C).drop (i * k.sz)).take k.sz = C i := by
          intro q
          induction q with
          | zero => intro _ i hi; omega
          | succ q ih =>
            intro hq i hi
            rw [List.range_succ, List.flatMap_append]
            by_cases hiq : i < q
            · have hle : (i + 1) * k.sz ≤ q * k.sz := Nat.mul_le_mul_right _ (by omega)
              rw [Nat.succ_mul] at hle
              rw [List.drop_append_of_le_length (by rw [hvl q (by omega)]; omega), List.take_append_of_le_length (by rw [List.length_drop, hvl q (by omega)]; omega)]
              exact ih (by omega) i hiq
            · obtain rfl : i = q := by omega
              rw [List.drop_append, List.drop_of_length_le (by rw [hvl i (by omega)]; omega), hvl i (by omega)]
              simp only [Nat.sub_self, List.drop_zero, List.nil_append, List.flatMap_cons, List.flatMap_nil, List.append_nil]
              exact List.take_of_length_le (by rw [hCl i (by omega)]; omega)
        -- the address
        have hcell : ∀ i, i < len → ∀ j v, (C i)[j]? = some v → W.cell? (a.add (i * k.sz + j)) = some v := fun i hi j v hj => by
          have := (cells?_some (hC i hi).1).2 j v hj
          rwa [Go.Deep.add_add] at this
        have hc0 : ∃ v, (C 0)[0]? = some v := ⟨_, List.getElem?_eq_getElem (by rw [hCl 0 (by omega)]; exact hpos)⟩
        obtain ⟨v0, hv0⟩ := hc0
        have h00 := hcell 0 (by omega) 0 v0 hv0
        have hspot : a.spot = none := by
          simp only [Nat.zero_mul, Nat.add_zero] at h00
          unfold Addr.add at h00
          simp only [if_true] at h00
          unfold World.cell? at h00
          cases hs : a.spot with
          | none => rfl
          | some s => simp [hs] at h00; split at h00 <;> simp at h00
        obtain ⟨b, o, sp⟩ := a
        simp only at hspot
        subst hspot
        have hrange : W.rangeAt b o ((List.range len).flatMap C) := by
          intro j v hj
          have hlt : j < len * k.sz := by
            obtain ⟨h', _⟩ := List.getElem?_eq_some_iff.1 hj
            rw [hvl len (Nat.le_refl _)] at h'; exact h'
          have hi : j / k.sz < len := Nat.div_lt_of_lt_mul (by rw [Nat.mul_comm]; exact hlt)
          have hm := Nat.div_add_mod j k.sz
          have hmod := Nat.mod_lt j hpos
          have h1 : (C (j / k.sz))[j % k.sz]? = some v := by
            rw [← hget len (Nat.le_refl _) _ hi, List.getElem?_take, if_pos hmod, List.getElem?_drop]
            rw [show j / k.sz * k.sz + j % k.sz = j by rw [Nat.mul_comm]; exact hm]
            exact hj
          have := hcell _ hi _ _ h1
          rw [add_plain, show j / k.sz * k.sz + j % k.sz = j by rw [Nat.mul_comm]; exact hm] at this
          exact this
        have hne : (List.range len).flatMap C ≠ [] := by
          intro e0
          have := hvl len (Nat.le_refl _)
          rw [e0, List.length_nil] at this
          have := Nat.mul_pos (show 0 < len by omega) hpos
          omega
        refine ⟨(List.range len).map X, .slice (some ⟨b, o, none⟩) len m, (List.range len).flatMap C, rfl, ⟨by simp [hvl len (Nat.le_refl _)], _, m, by simp, by simp; exact hlc, by simp only [maxLen] at hcm; omega, .inr ⟨b, o, rfl, cellsAt_old hrange hne _ rfl⟩⟩, ⟨by simp [hvl len (Nat.le_refl _)], fun i x hx => ?_⟩, ?_⟩
        · have hi : i < len := by
            obtain ⟨h', _⟩ := List.getElem?_eq_some_iff.1 hx
            simpa using h'
          rw [hget len (Nat.le_refl _) i hi]
          have : x = X i := by simpa [hi] using hx.symm
          rw [this]; exact hX' i hi
        · simp only [List.length_map, List.length_range]
          exact Nat.le_trans (Nat.mul_le_mul_right _ hlc) hcap⟩
def FitsLU {α : Type} (P : Program) (fs : List Field) (off : Nat) (k : Kin α) : Prop :=
  ∀ (H : Type) (enc : TypeId × Value → H) (W : World) (fuel : Nat) (cs : List Value) (xs : List (DataW H × List MemPlace)), xs.length = fs.length → off + k.sz = cs.length →
    (∀ (i : Nat) (f : Field), fs[i]? = some f → DataW.trod enc P W 0 (fun _ => true) true fuel f.type ((cs.drop f.offset).take (P.cellsOf f.type)) = xs[i]?) →
    (∀ n ∈ DataW.weightsEach P (fs.map (·.type)) (xs.map (·.1)), n ≤ reachBytes) → (∀ x ∈ xs.map (·.1), Rows.uptoBulk x ≤ 1048576) → ∃ x, k.K (hp W) x (cs.drop off)
theorem fitsUL_nil (off : Nat) : FitsLU P [] off Kin.unit := fun H enc W fuel cs xs hl ho _ _ _ => ⟨(), by
  show cs.drop off = []
  exact List.drop_of_length_le (by have : (Kin.unit).sz = 0 := rfl; omega)⟩
theorem fitsUL_cons {α β : Type} {f : Field} {fs : List Field} {off : Nat} {a : Kin α} {b : Kin β} (ho : f.offset = off) (ha : FitsU P f.type a) (hb : FitsLU P fs (off + a.sz) b) : FitsLU P (f :: fs) off (Kin.pair a b) := by
  intro H enc W fuel cs xs hl hlen hx hw hbk
  cases xs with
  | nil => simp at hl
  | cons x xs =>
    have h0 := hx 0 f rfl
    simp only [List.getElem?_cons_zero, ho, ha.1] at h0
    have hsz : (Kin.pair a b).sz = a.sz + b.sz := rfl
    simp only [List.map_cons, DataW.weightsEach] at hw
    obtain ⟨d, ps⟩ := x
    obtain ⟨x1, h1⟩ := ha.2 H enc W fuel _ d ps h0 (fun n hn => hw n (List.mem_append_left _ hn)) (hbk d (by simp))
    obtain ⟨x2, h2⟩ := hb H enc W fuel cs xs (by simpa using hl) (by omega) (fun i g hg => by have := hx (i + 1) g (by simpa using hg); simpa using this) (fun n hn => hw n (List.mem_append_right _ hn)) (fun x hx => hbk x (by simp only [List.map_cons, List.mem_cons]; exact .inr hx))
    refine ⟨(x1, x2), _, _, ?_, h1, h2⟩
    rw [← List.drop_drop, List.take_append_drop]
theorem fitsU_struct {α : Type} {fs : Array Field} {k : Kin α} (hu : P.underlying T = some (.struct fs)) (hc : P.cellsOf T = k.sz) (hk : FitsLU P fs.toList 0 k) : FitsU P T k :=
  ⟨hc, fun H enc W fuel cs d ps h hw hb => by
    obtain ⟨xs, n, _, e, hl, hxl, hx⟩ := DataW.trod_struct hu h
    cases e
    obtain ⟨x, hx'⟩ := hk H enc W n cs xs (by simpa using hxl) (by rw [hl, hc]; omega) (fun i f hf => hx i f (by simpa using hf)) (by
      intro q hq
      refine hw q ?_
      simp only [DataW.weights, hu]
      simpa using hq) (fun y hy => Nat.le_trans (bulk_part hy) (by simp only [Rows.uptoBulk] at hb; omega))
    exact ⟨x, by simpa using hx'⟩⟩
theorem fitsU_array {α : Type} {e : TypeId} {n : Nat} {k : Kin α} (hu : P.underlying T = some (.array n e)) (hc : P.cellsOf T = n * k.sz) (hk : FitsU P e k) : FitsU P T (Kin.arr n k) :=
  ⟨hc, fun H enc W fuel cs d ps h hw hb => by
    cases fuel with
    | zero => simp [DataW.trod] at h
    | succ fuel =>
      obtain ⟨hlen, xs, hxs, rfl⟩ : cs.length = P.cellsOf T ∧ ∃ xs : List (DataW H × List MemPlace), (List.range n).mapM (fun i => DataW.trod enc P W 0 (fun _ => true) true fuel e ((cs.drop (i * P.cellsOf e)).take (P.cellsOf e))) = some xs ∧ d = .agg (xs.map (·.1)) := by
        unfold DataW.trod at h
        rw [hu] at h
        split at h <;> simp_all
        obtain ⟨hl, xs, hp, hd, _⟩ := h
        exact ⟨xs, hp, hd.symm⟩
      have hxl : xs.length = n := by simpa using mapM_some_length hxs
      have hwe : ∀ (l : List (DataW H)) (i : Nat) (x : DataW H), l[i]? = some x → ∀ q ∈ x.weights P e, q ∈ DataW.weightsAll P e l := by
        intro l
        induction l with
        | nil => intro i x hx; simp at hx
        | cons y l ih =>
          intro i x hx q hq
          simp only [DataW.weightsAll, List.mem_append]
          cases i with
          | zero => simp at hx; subst hx; exact .inl hq
          | succ i => exact .inr (ih i x (by simpa using hx) q hq)
      have hX : ∀ i, i < n → ∃ x, k.K (hp W) x ((cs.drop (i * k.sz)).take k.sz) := fun i hi => by
        have := mapM_some_get hxs i i (by simp [hi])
        rw [hk.1] at this
        have hlt : i < xs.length := by omega
        rw [List.getElem?_eq_getElem hlt] at this
        refine hk.2 H enc W fuel _ _ _ this (fun q hq => hw q ?_) (Nat.le_trans (bulk_part (l := xs.map (·.1)) (List.mem_map.2 ⟨xs[i], List.getElem_mem hlt, rfl⟩)) (by simp only [Rows.uptoBulk] at hb; omega))
        simp only [DataW.weights, hu]
        exact hwe _ i (xs[i]).1 (by simp [hlt]) q hq
      by_cases h0 : n = 0
      · subst h0
        exact ⟨[], rfl, by simp at hc; rw [hlen, hc]; simp, fun i x hx => by simp at hx⟩
      · obtain ⟨x0, _⟩ := hX 0 (by omega)
        haveI : Inhabited α := ⟨x0⟩
        obtain ⟨X, hX'⟩ := Go.Deep.choose_lt hX
        refine ⟨(List.range n).map X, by simp, by simp [hlen, hc], fun i x hx => ?_⟩
        have hi : i < n := by
          obtain ⟨h', _⟩ := List.getElem?_eq_some_iff.1 hx
          simpa using h'
        have : x = X i := by simpa [hi] using hx.symm
        rw [this]; exact hX' i hi⟩
theorem arg_readU {α : Type} {k : Kin α} (hf : FitsU P T k) {H : Type} {enc : TypeId × Value → H} {W : World} {v : Value} {d : DataW H} {ps : List MemPlace} (h : DataW.Trod enc P W 0 (fun _ => true) true T v d ps)
    {ts : List TypeId} {ds : List (DataW H)} (hsz : (DataW.weightsEach P ts ds).all (· ≤ reachBytes) = true) (hb : Rows.uptoSmall H ds = true) {j : Nat} (ht : ts[j]? = some T) (hd : ds[j]? = some d) : ∃ x, k.K (hp W) x v.cells.toList := by
  obtain ⟨fuel, hf'⟩ := h
  have hb' : Rows.uptoBulkAll ds ≤ 1048576 := of_decide_eq_true hb
  refine hf.2 H enc W fuel _ d ps hf' (fun n hn => ?_) (Nat.le_trans (bulk_part (List.mem_of_getElem? hd)) hb')
  have := List.all_eq_true.1 hsz _ (DataW.weights_mem_each ht hd n hn)
  simpa using this
end
end Go.Proofs.YthjnefpnnifjiaaDoor
