/- More operations: literals; regions whose order is open. -/
import Derived.Test.YthjnefpnnifjiaaDoorOp
set_option linter.unusedVariables false
set_option linter.unusedSimpArgs false
namespace Go.Proofs.YthjnefpnnifjiaaDoor
open Go.RowKit
section
variable {P : Program} {ops : Array Oper} {Q : Exit → Act → World → Prop} {a : Act} {W w : World} {rest : List Oper} {o : Oper} {K : Act → World → Prop} {L : List HP}
/-- A literal of a slice type. -/
theorem op_lit (hs : Sat W w L) {t e : TypeId} {n : Nat} {parts : Array (Nat × Operand)} (ho : o.op = .buildSlice t n parts) (ht : P.underlying t = some (.slice e)) {z : Value} {sz bytes : Nat} (hinfo : (P.info? e).map (fun i => (i.zero, i.size, i.bytes)) = some (some z, sz, bytes))
    (l : List Value) (hn : n * sz ≤ 16777216) (hl : Instr.fill (fun i => some (i * sz, sz)) (if n * sz = 0 then #[] else (Array.range (n * sz)).map (z.cells[· % z.cells.size]!)) (parts.map fun (i, x) => (i, a.eval x)).toList = some l.toArray)
    (h : ∀ b w', Sat W w' (row b l e :: L) → K (a.put o.dst (.slice (some ⟨b, 0, none⟩) n n)) w') : o.wp P a w K Q := by
  obtain ⟨i, hi, hz, rfl, rfl⟩ := info_of hinfo
  have hn' : ¬ (16777216 < n * i.size) := by omega
  have hrun : (execOp a.eval o).run P w = .ok (.value (.slice (some ⟨w.heap.size, 0, none⟩) n n)) (w.alloc (.cells l.toArray e)) := by
    by_cases h0 : n * i.size = 0
    · rw [if_pos h0] at hl
      simp only [execOp, ho, Instr.buildSlice, Sem.run_bind, run_underlying ht, Result.andThen_ok, sizeOf, typeInfo, run_program, hi, Sem.run_pure, hn', Sem.run_ite, if_false, h0, if_true, gt_iff_lt, Nat.reducePow]
      have e0 : ∀ f : Nat → Value, (Array.range 0).map f = #[] := fun f => by rw [Array.range_zero', Array.map_empty]
      have h00 : ¬ (16777216 < 0) := by omega
      simp only [e0, hl, newRow, Sem.run_bind, run_newObj, Result.andThen_ok, Sem.run_pure, World.alloc_eq, h00, if_false]
    · rw [if_neg h0] at hl
      simp only [execOp, ho, Instr.buildSlice, Sem.run_bind, run_underlying ht, Result.andThen_ok, sizeOf, typeInfo, run_program, hi, Sem.run_pure, hn', Sem.run_ite, if_false, h0, gt_iff_lt, Nat.reducePow, zeroValue, hz]
      simp only [hl, newRow, Sem.run_bind, run_newObj, Result.andThen_ok, Sem.run_pure, World.alloc_eq]
  unfold Oper.wp
  rw [hrun]
  exact h _ _ (hs.allocRow _ _)
theorem cells_one {v : Value} (h : v.oneCell' = true) : v.cells = #[v] := by cases v <;> first | rfl | simp [Value.oneCell'] at h
theorem fill_seq (l : List Value) (h1 : ∀ v ∈ l, v.oneCell' = true) : ∀ (k : Nat) (pre post : List Value), pre.length = k → post.length = l.length →
    Instr.fill (fun i => some (i * 1, 1)) (pre ++ post).toArray ((l.zipIdx k).map fun (v, i) => (i, v)) = some (pre ++ l).toArray := by
  induction l with
  | nil => intro k pre post _ hp; simp at hp; simp [Instr.fill, hp]
  | cons v l ih =>
    intro k pre post hk hp
    cases post with
    | nil => simp at hp
    | cons p post =>
      have hv := cells_one (h1 v (by simp))
      have := ih (fun u hu => h1 u (by simp [hu])) (k + 1) (pre ++ [v]) post (by simp [hk]) (by simpa using hp)
      simp only [List.zipIdx_cons, List.map_cons, Instr.fill, hv]
      have hsz : ¬ ((#[v] : Array Value).size ≠ 1) := by simp
      simp only [List.append_assoc, List.singleton_append] at this
      have hlen : ¬ (pre ++ p :: post).toArray.size < k * 1 + 1 := by simp; omega
      have e : ((#[v] : Array Value).zipIdx.foldl (fun cs (x : Value × Nat) => cs.setIfInBounds (k * 1 + x.2) x.1) (pre ++ p :: post).toArray) = (pre ++ v :: post).toArray := by
        subst hk
        simp
      simp only [e, this]
      simp
      omega
/-- A literal of one-cell elements, all of them given. -/
theorem op_lit1 (hs : Sat W w L) {t e : TypeId} {n : Nat} {parts : Array (Nat × Operand)} (ho : o.op = .buildSlice t n parts) (ht : P.underlying t = some (.slice e)) {z : Value} {bytes : Nat} (hinfo : (P.info? e).map (fun i => (i.zero, i.size, i.bytes)) = some (some z, 1, bytes)) (hz : z.cells = #[z])
    (l : List Value) (hn : n ≤ 16777216) (hln : l.length = n) (h1 : ∀ v ∈ l, v.oneCell' = true) (hl : (parts.map fun (i, x) => (i, a.eval x)).toList = l.zipIdx.map fun (v, i) => (i, v))
    (h : ∀ b w', Sat W w' (row b l e :: L) → K (a.put o.dst (.slice (some ⟨b, 0, none⟩) n n)) w') : o.wp P a w K Q := by
  refine op_lit hs ho ht hinfo l (by omega) ?_ h
  rw [hl, Nat.mul_one]
  have e1 : (if n = 0 then #[] else (Array.range n).map (z.cells[· % z.cells.size]!)) = (List.replicate n z).toArray := by
    split
    · rename_i h0; subst h0; rfl
    · rw [hz]
      apply Array.ext
      · simp
      · intro j h1 h2; simp [Nat.mod_one]
  rw [e1]
  have := fill_seq l h1 0 [] (List.replicate n z) rfl (by simp [hln])
  simpa using this
/-- An element of an array that is a value. -/
theorem run_index_array {T e : TypeId} {n : Nat} (hu : P.underlying T = some (.array n e)) (he : single P e = true) (hsz : (P.info? e).map (·.size) = some 1) (cs : List Value) {k : IntKind} (i : Int) (h0 : 0 ≤ i) (h1 : i < n) {v : Value} (hv : cs[i.toNat]? = some v) (w : World) :
    (Instr.index T (.agg cs.toArray) (.int k i)).run P w = .ok v w := by
  cases hq : P.info? e with
  | none => simp [hq] at hsz
  | some ti =>
    have hti : ti.size = 1 := by simpa [hq] using hsz
    have hag := run_isAgg_single he w
    simp [Instr.index, asIntOf, run_underlying hu, h0, h1, sizeOf, typeInfo, hq, hti, part, hag, hv]
/-! Parts of a slice of bytes. -/
theorem bytes_take {A : Option Addr} {n cap : Nat} {l : List UInt8} {F : PH} (h : bytesAt (.slice A n cap) l F) (k : Nat) (hk : k ≤ l.length) : bytesAt (.slice A k cap) (l.take k) F := by
  obtain ⟨hl, A', cap', e, hc, hcm, h0⟩ := h
  cases e
  refine ⟨by simp, A, cap, by simp [Nat.min_eq_left hk], by simp; omega, hcm, ?_⟩
  rcases h0 with h0 | ⟨b, o, rfl, ha⟩
  · left
    have : l = [] := by simpa [u8s] using h0
    subst this; simp [u8s]
  · right
    refine ⟨b, o, rfl, ?_⟩
    obtain ⟨c, t, fr, e, hcell⟩ := ha
    refine ⟨c, t, fr, e, fun j v hj => hcell j v ?_⟩
    simp only [u8s, List.map_take, List.getElem?_take] at hj
    split at hj
    · exact hj
    · cases hj
theorem bytes_drop {A : Option Addr} {n cap : Nat} {l : List UInt8} {F : PH} (h : bytesAt (.slice A n cap) l F) (k : Nat) (hk : k ≤ l.length) : bytesAt (.slice (if cap = k then A else A.map (·.add k)) (n - k) (cap - k)) (l.drop k) F := by
  obtain ⟨hl, A', cap', e, hc, hcm, h0⟩ := h
  cases e
  refine ⟨by simp, (if cap = k then A else A.map (·.add k)), cap - k, by simp, by simp; omega, by omega, ?_⟩
  rcases h0 with h0 | ⟨b, o, rfl, ha⟩
  · left
    have : l = [] := by simpa [u8s] using h0
    subst this; simp [u8s]
  · by_cases he : cap = k
    · left
      have : l.length ≤ k := by omega
      rw [List.drop_of_length_le this]; rfl
    · right
      refine ⟨b, o + k, by rw [if_neg he, Option.map_some, add_plain], ?_⟩
      obtain ⟨c, t, fr, e, hcell⟩ := ha
      refine ⟨c, t, fr, e, fun j v hj => ?_⟩
      rw [Nat.add_assoc]
      refine hcell (k + j) v ?_
      simpa [u8s] using hj
theorem bytes_nil (F : PH) : bytesAt (.slice none 0 0) [] F := ⟨rfl, none, 0, rfl, Nat.le_refl _, by omega, .inl rfl⟩
/-! Steps of the quiet walk that look at the world. -/
section
variable {C : World → Prop} {Qa : Act → Prop}
theorem quiet_val {v : Value} (hw : Region.wanted o (yielded ops a.tmps) = true) (hv : ∀ w, C w → (execOp a.eval o).run P w = .ok (.value v) w) (h : wpQuiet P ops C Qa rest (a.put o.dst v)) : wpQuiet P ops C Qa (o :: rest) a := by
  unfold wpQuiet
  rw [if_pos hw]
  refine ⟨v, fun w hC => ?_, h⟩
  unfold Oper.quietAt
  rw [hv w hC]
  exact ⟨rfl, rfl⟩
theorem quiet_load {v : Value} {T : TypeId} {x : Operand} {ad : Addr} (hw : Region.wanted o (yielded ops a.tmps) = true) (ho : o.op = .load T x) (hx : a.eval x = .pointer (some ad)) (hT : single P T = true) (hc : ∀ w, C w → w.cell? ad = some v)
    (h : wpQuiet P ops C Qa rest (a.put o.dst v)) : wpQuiet P ops C Qa (o :: rest) a :=
  quiet_val hw (fun w hC => by simp [execOp, ho, hx, Instr.loadAt, Instr.sureAddr, loadVar, run_isAgg_single hT, hc w hC]) h
theorem quiet_load_agg {T : TypeId} {x : Operand} {b i : Nat} (cs : List Value) (hw : Region.wanted o (yielded ops a.tmps) = true) (ho : o.op = .load T x) (hx : a.eval x = .pointer (some ⟨b, i, none⟩)) (hd : ((P.underlying T).map TypeDesc.isRow) = some true) (hi : (P.info? T).map (·.size) = some cs.length) (hc : ∀ w, C w → w.rangeAt b i cs)
    (h : wpQuiet P ops C Qa rest (a.put o.dst (.agg cs.toArray))) : wpQuiet P ops C Qa (o :: rest) a := by
  cases hu : P.underlying T with
  | none => simp [hu] at hd
  | some d =>
    refine quiet_val hw (fun w hC => ?_) h
    simp only [execOp, ho, hx, Sem.run_bind, run_loadAt_mid w b i T cs d (hc w hC) hu (by simpa [hu] using hd) hi, Result.andThen_ok, Sem.run_pure]
theorem quiet_str {src dst e : TypeId} {x : Operand} {v : Value} (l : List UInt8) (hw : Region.wanted o (yielded ops a.tmps) = true) (ho : o.op = .convert src dst x) (hs : P.underlying src = some (.slice e)) (he : P.underlying e = some (.int .u8)) (hd : P.underlying dst = some .string) (hx : a.eval x = v) (hc : ∀ w, C w → bytesAt v l (hp w))
    (h : wpQuiet P ops C Qa rest (a.put o.dst (.string ⟨l.toArray⟩))) : wpQuiet P ops C Qa (o :: rest) a :=
  quiet_val hw (fun w hC => by simp only [execOp, ho, hx, Sem.run_bind, run_to_string hs he hd (hc w hC), Result.andThen_ok, Sem.run_pure]) h
end
/-- In a class of worlds that is not empty a fact that names none is the fact itself. -/
theorem sat_const (hs : Sat W w L) (p : Prop) : (∀ w, Sat W w L → p) = p := propext ⟨fun h => h w hs, fun h _ _ => h⟩
end
end Go.Proofs.YthjnefpnnifjiaaDoor
