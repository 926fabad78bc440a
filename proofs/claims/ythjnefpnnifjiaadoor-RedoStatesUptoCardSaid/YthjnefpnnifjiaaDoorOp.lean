/- The operations that touch memory, as rules over lists of assertions. -/
import Derived.Test.YthjnefpnnifjiaaDoorSl
import Derived.Lib.ConvBytes
import Derived.Lib.AppendStr
import Derived.Laws.MakeOwn
import Derived.Deep.DeepMust
import Derived.WalkSpells
set_option linter.unusedVariables false
set_option linter.unusedSimpArgs false
namespace Go.Proofs.YthjnefpnnifjiaaDoor
open Go.RowKit
theorem add_plain (b o j : Nat) : (⟨b, o, none⟩ : Addr).add j = ⟨b, o + j, none⟩ := by unfold Addr.add; split <;> simp_all
theorem set_perm {α : Type} {L : List α} {k : Nat} {C : α} (hk : L[k]? = some C) (B : α) : (B :: L).Perm (C :: L.set k B) := by
  induction L generalizing k with
  | nil => simp at hk
  | cons D L ih =>
    cases k with
    | zero => simp at hk; subst hk; exact List.Perm.swap _ _ _
    | succ k =>
      simp only [List.set_cons_succ]
      exact ((List.Perm.swap D B L).trans ((ih (by simpa using hk)).cons D)).trans (List.Perm.swap _ _ _)
section
variable {P : Program} {ops : Array Oper} {Q : Exit → Act → World → Prop} {a : Act} {W w : World} {rest : List Oper} {o : Oper} {K : Act → World → Prop} {L : List HP}
/-- An operation of a plain region that is carried out. -/
theorem wpl (hwant : Region.wanted o (yielded ops a.tmps) = true)
    (h : ∀ K : Act → World → Prop, (∀ a w, wpList P ops Q rest a w → K a w) → o.wp P a w K Q) : wpList P ops Q (o :: rest) a w :=
  wpList_step fun K hK => by rw [if_pos hwant]; exact h K hK

/-! ### Variables -/
/-- Is a type's variable one cell? -/
def single (P : Program) (T : TypeId) : Bool := match P.underlying T with | some (.struct _) | some (.array _ _) => false | some _ => true | none => false
theorem run_isAgg_single {T : TypeId} (h : single P T = true) (w : World) : (isAgg T).run P w = .ok false w := by
  unfold single at h
  cases hu : P.underlying T with
  | none => simp [hu] at h
  | some d =>
    unfold isAgg
    rw [Sem.run_bind, run_underlying hu w]
    cases d <;> simp_all

theorem op_alloc (hs : Sat W w L) {T : TypeId} (ho : o.op = .alloc T) (z : Value) (hz : (P.info? T).bind (·.zero) = some z) (l : List Value) (hl : z.cells = l.toArray)
    (h : ∀ b w', Sat W w' (row b l T :: L) → K (a.put o.dst (.pointer (some ⟨b, 0, none⟩))) w') : o.wp P a w K Q := by
  have hrun : (execOp a.eval o).run P w = .ok (.value (.pointer (some ⟨w.heap.size, 0, none⟩))) (w.alloc (.cells l.toArray T)) := by
    cases hi : P.info? T with
    | none => simp [hi] at hz
    | some i =>
      have hz' : i.zero = some z := by simpa [hi] using hz
      simp [execOp, ho, Instr.alloc, zeroValue, typeInfo, hi, hz', newVar, newRow, hl]
  unfold Oper.wp
  rw [hrun]
  exact h _ _ (hs.allocRow _ _)

theorem op_box (hs : Sat W w L) {T : TypeId} {x : Operand} (ho : o.op = .box T x) (v : Value) (hx : a.eval x = v) (l : List Value) (hl : v.cells = l.toArray)
    (h : ∀ b w', Sat W w' (row b l T :: L) → K (a.put o.dst (.pointer (some ⟨b, 0, none⟩))) w') : o.wp P a w K Q := by
  have hrun : (execOp a.eval o).run P w = .ok (.value (.pointer (some ⟨w.heap.size, 0, none⟩))) (w.alloc (.cells l.toArray T)) := by
    simp [execOp, ho, Instr.box, hx, newVar, newRow, hl]
  unfold Oper.wp
  rw [hrun]
  exact h _ _ (hs.allocRow _ _)

theorem op_load {T : TypeId} {x : Operand} (ho : o.op = .load T x) {ad : Addr} (hx : a.eval x = .pointer (some ad)) (hT : single P T = true) {v : Value} (hc : w.cell? ad = some v)
    (h : K (a.put o.dst v) w) : o.wp P a w K Q := by
  have hrun : (execOp a.eval o).run P w = .ok (.value v) w := by
    simp [execOp, ho, hx, Instr.loadAt, Instr.sureAddr, loadVar, run_isAgg_single hT, hc]
  unfold Oper.wp
  rw [hrun]
  exact h
theorem op_load_agg {T : TypeId} {x : Operand} (ho : o.op = .load T x) {b i : Nat} (hx : a.eval x = .pointer (some ⟨b, i, none⟩)) (cs : List Value) (hc : w.rangeAt b i cs)
    (hd : ((P.underlying T).map TypeDesc.isRow) = some true) (hi : (P.info? T).map (·.size) = some cs.length)
    (h : K (a.put o.dst (.agg cs.toArray)) w) : o.wp P a w K Q := by
  cases hu : P.underlying T with
  | none => simp [hu] at hd
  | some d => exact wp_load_mid T x ho b i hx cs d hc hu (by simpa [hu] using hd) hi h
/-- The cells of a row, from a place on. -/
theorem range_row (hs : Sat W w L) {b : Nat} {l : List Value} {t : TypeId} (hm : row b l t ∈ L) (i : Nat) (cs : List Value) (h : ∀ j v, cs[j]? = some v → l[i + j]? = some v) : w.rangeAt b i cs :=
  fun j v hv => hs.cell hm (h j v hv)
theorem range_whole (hs : Sat W w L) {b : Nat} {l : List Value} {t : TypeId} (hm : row b l t ∈ L) : w.rangeAt b 0 l :=
  range_row hs hm 0 l fun j v h => by rw [Nat.zero_add]; exact h

theorem range_prefix (hs : Sat W w L) {b : Nat} {l : List Value} {t : TypeId} (cs r : List Value) (hl : l = cs ++ r) (hm : row b l t ∈ L) : w.rangeAt b 0 cs :=
  range_row hs hm 0 cs fun j v h => by
    obtain ⟨hlt, _⟩ := List.getElem?_eq_some_iff.1 h
    rw [Nat.zero_add, hl, List.getElem?_append_left hlt]; exact h

theorem op_store (hs : Sat W w L) {T : TypeId} {x y : Operand} (ho : o.op = .store T x y) {b i : Nat} (hx : a.eval x = .pointer (some ⟨b, i, none⟩)) {v : Value} (hy : a.eval y = v) (hv : v.oneCell' = true)
    (hsz : (P.info? T).map (·.size) = some 1) {k : Nat} {l : List Value} {t : TypeId} (hk : L[k]? = some (row b l t)) (hi : i < l.length)
    (h : ∀ w', Sat W w' (L.set k (row b (l.set i v) t)) → K (a.put o.dst undef) w') : o.wp P a w K Q := by
  have hm := List.mem_of_getElem? hk
  have hcell : w.cell? ⟨b, i, none⟩ = some l[i] := hs.cell hm (by simp [hi])
  have hfr : w.frozen? ⟨b, i, none⟩ = false := hs.free hm hi
  have hc : v.cells = #[v] := by cases v <;> first | rfl | simp [Value.oneCell'] at hv
  have hrun : (execOp a.eval o).run P w = .ok .skip (w.setCell ⟨b, i, none⟩ v) := by
    cases hq : P.info? T with
    | none => simp [hq] at hsz
    | some ti =>
      have hz : ti.size = 1 := by simpa [hq] using hsz
      have hst : (store ⟨b, i, none⟩ v).run P w = .ok () (w.setCell ⟨b, i, none⟩ v) := by rw [run_store P w _ v _ hv, hcell]; simp [hfr]
      simp [execOp, ho, hx, hy, Instr.storeAt, Instr.sureAddr, storeVar, sizeOf, typeInfo, hq, hz, hc, storeCells, hst, Addr.add]
  unfold Oper.wp
  rw [hrun]
  exact h _ (hs.setCell hk i v)
/-- What the stores of a row's cells need. -/
theorem there_row (hs : Sat W w L) {b : Nat} {l : List Value} {t : TypeId} (hm : row b l t ∈ L) (i n : Nat) (h : i + n ≤ l.length) : w.there b i n := fun j hj => by
  have hlt : i + j < l.length := by omega
  exact ⟨by rw [hs.cell hm (List.getElem?_eq_getElem hlt)]; rfl, hs.free hm hlt⟩
/-- A whole variable of several cells, in the middle of a row. -/
theorem op_store_agg (hs : Sat W w L) {T : TypeId} {x y : Operand} (ho : o.op = .store T x y) {b i : Nat} (hx : a.eval x = .pointer (some ⟨b, i, none⟩)) (cs : List Value) (hy : a.eval y = .agg cs.toArray) (hv : ∀ v ∈ cs, v.oneCell' = true)
    (hsz : (P.info? T).map (·.size) = some cs.length) {k : Nat} {l : List Value} {t : TypeId} (hk : L[k]? = some (row b l t)) (hi : i + cs.length ≤ l.length)
    (h : ∀ w', Sat W w' (L.set k (row b (l.take i ++ cs ++ l.drop (i + cs.length)) t)) → K (a.put o.dst undef) w') : o.wp P a w K Q := by
  have ht := there_row hs (List.mem_of_getElem? hk) i cs.length hi
  exact wp_store_mid T x y ho b i cs.toArray hx hy (by simpa using ht) (by simpa using hsz) (all_oneCell_toArray hv) (h _ (hs.setCells hk hi))
/-- .. of a whole row. -/
theorem op_store_whole (hs : Sat W w L) {T : TypeId} {x y : Operand} (ho : o.op = .store T x y) {b : Nat} (hx : a.eval x = .pointer (some ⟨b, 0, none⟩)) (cs : List Value) (hy : a.eval y = .agg cs.toArray) (hv : ∀ v ∈ cs, v.oneCell' = true)
    (hsz : (P.info? T).map (·.size) = some cs.length) {k : Nat} {l : List Value} {t : TypeId} (hk : L[k]? = some (row b l t)) (hi : cs.length = l.length)
    (h : ∀ w', Sat W w' (L.set k (row b cs t)) → K (a.put o.dst undef) w') : o.wp P a w K Q :=
  op_store_agg hs ho hx cs hy hv hsz hk (by omega) fun w' hs' => h w' (by simpa [hi] using hs')

/-! ### Slices: make, a literal, append, copy, conversions -/
theorem op_make (hs : Sat W w L) {t e : TypeId} {xl xc : Operand} (ho : o.op = .makeSlice t xl xc) (ht : P.underlying t = some (.slice e)) {kl kc : IntKind} {n c : Nat} (hl : a.eval xl = .int kl n) (hc : a.eval xc = .int kc c)
    {z : Value} {bytes : Nat} (hinfo : (P.info? e).map (fun i => (i.zero, i.size, i.bytes)) = some (some z, 1, bytes)) (hz : z.cells = #[z]) (hlc : n ≤ c) (hb : bytes * c ≤ 281474976710656) (h63 : c ≤ 9223372036854775807)
    (h : ∀ b w', Sat W w' (row b (List.replicate c z) e :: L) → K (a.put o.dst (.slice (some ⟨b, 0, none⟩) n c)) w') : o.wp P a w K Q := by
  cases hi : P.info? e with
  | none => simp [hi] at hinfo
  | some i =>
    simp [hi] at hinfo
    obtain ⟨h1, h2, h3⟩ := hinfo
    have hr := run_make (P := P) w t e i z ht hi h1 kl kc n c (by omega) (by omega) (by rw [h3]; omega) (by omega)
    have hcells : madeCells z.cells ((c : Int).toNat * i.size) = (List.replicate c z).toArray := by
      rw [h2, hz, Nat.mul_one, Int.toNat_natCast]
      apply Array.ext
      · simp [size_madeCells]
      · intro j h1 h2; simp [madeCells, Nat.mod_one]
    unfold Oper.wp
    rw [hcells] at hr
    have hrun : (execOp a.eval o).run P w = .ok (.value (.slice (some ⟨w.heap.size, 0, none⟩) n c)) (w.alloc (.cells (List.replicate c z).toArray e)) := by
      simp only [execOp, ho, hl, hc, Sem.run_bind, hr, Result.andThen_ok, Sem.run_pure, Int.toNat_natCast]
    rw [hrun]
    exact h _ _ (hs.allocRow _ _)

theorem run_first {v : Value} {n sz : Nat} {vs : List Value} (h : sliceAt v n sz vs (hp w)) : (Builtin.firstCells sz n v).run P w = .ok vs.toArray w := by
  obtain ⟨hl, A, cap, rfl, _, _, rfl | ⟨b, o, rfl, hc⟩⟩ := h
  · cases A with
    | none => exact run_firstCells_none w sz n n cap
    | some ad => exact run_firstCells_some w sz n ad n cap [] hl (by simp)
  · refine run_firstCells_some w sz n _ n cap vs hl (fun j u hj => ?_)
    rw [add_plain]; exact cellsAt_world hc j u hj
theorem run_lenOf {v : Value} {n sz : Nat} {vs : List Value} (h : sliceAt v n sz vs (hp w)) : (Builtin.lenOf v).run P w = .ok n w := by
  obtain ⟨_, A, cap, rfl, _⟩ := h; rfl

/-- append, to a slice that nobody else has: what is appended is given by its number and its cells. -/
theorem run_append (hs : Sat W w L) {t u ty e : TypeId} {i : TypeInfo} {z : Value} (ht : P.underlying t = some (.slice e)) (hi : P.info? e = some i) (hz : i.zero = some z) {d : TypeDesc} (hud : P.underlying u = some d) (hd : d = .string ∨ ∃ e', d = .slice e')
    (hzs : z.cells.size = i.size) (hsz : 0 < i.size)
    {k : Nat} {v : Value} {n : Nat} {vs : List Value} (hk : L[k]? = some (own v e n i.size vs)) {x : Value} {m : Nat} {xs : List Value} (hxl : xs.length = m * i.size)
    (hlen : ∀ w, (Builtin.lenOf x).run P w = .ok m w) (hfirst : (Builtin.firstCells i.size m x).run P w = .ok xs.toArray w) (hfirst' : (Builtin.firstCells i.size m x).run P w.drew = .ok xs.toArray w.drew) (h1 : ∀ c ∈ xs, c.oneCell' = true)
    (hb : (n + m) * i.bytes ≤ 140737488355328) (h63 : n + m ≤ 9223372036854775807) :
    ∃ v' w', (Builtin.append_ #[t, u] ty #[v, x]).run P w = .ok v' w' ∧ Sat W w' (L.set k (own v' e (n + m) i.size (vs ++ xs))) := by
  have hsl := hs.slice (Has.mem (List.mem_of_getElem? hk) own_sliceAt)
  have hdrew : sliceAt v n i.size vs (hp w.drew) := hsl
  have hfo := run_first (P := P) hdrew
  obtain ⟨hvl, A, cap, rfl, hnc, hcm, _⟩ := id hsl
  by_cases hroom : n + m ≤ cap
  · -- there is room
    obtain ⟨⟨b, cap', sp⟩, ⟨hA, hcap, hsp⟩, hs'⟩ | ⟨hn0, hm0⟩ : (∃ y : Nat × Nat × List Value, (A = some ⟨y.1, 0, none⟩ ∧ y.2.1 = cap ∧ y.2.2.length = (cap - n) * i.size) ∧ Sat W w (L.set k (row y.1 (vs ++ y.2.2) e))) ∨ (n = 0 ∧ cap = 0) := by
      by_cases h0 : cap = 0
      · exact .inr ⟨by omega, h0⟩
      · left
        refine hs.openAt (p := fun y : Nat × Nat × List Value => A = some ⟨y.1, 0, none⟩ ∧ y.2.1 = cap ∧ y.2.2.length = (cap - n) * i.size) (B := fun y => row y.1 (vs ++ y.2.2) e) hk ?_
        rintro F ⟨_, ⟨_, ⟨A', e1⟩, _⟩ | ⟨b, c, sp, e1, _, _, hsp, hr⟩⟩
        · cases e1; exact absurd rfl h0
        · cases e1; exact ⟨(b, cap, sp), ⟨rfl, rfl, hsp⟩, hr⟩
    · dsimp only at hA hcap hsp hs'
      subst hA
      have hk' : (L.set k (row b (vs ++ sp) e))[k]? = some (row b (vs ++ sp) e) := get_set hk
      have hfit : n * i.size + xs.length ≤ (vs ++ sp).length := by
        rw [List.length_append, hvl, hsp, hxl, ← Nat.add_mul, ← Nat.add_mul]
        exact Nat.mul_le_mul_right _ (by omega)
      have hth := there_row hs' (List.mem_of_getElem? hk') (n * i.size) xs.length hfit
      have hst := run_storeCells_cells (P := P) b (n * i.size) xs 0 w (fun j hj => (hth j hj).1) (fun j hj => (hth j hj).2) h1
      have hs2 := hs'.setCells hk' hfit
      rw [List.set_set] at hs2
      refine ⟨.slice (some ⟨b, 0, none⟩) (n + m) cap, w.setCells b (n * i.size) xs, ?_, ?_⟩
      · simp only [Nat.add_zero] at hst
        rcases hd with rfl | ⟨e', rfl⟩ <;> simp [Builtin.append_, run_underlying ht, run_underlying hud, sizeOf, typeInfo, hi, hlen, hroom, hfirst, add_plain, hst]
      · have e1 : (vs ++ sp).take (n * i.size) ++ xs ++ (vs ++ sp).drop (n * i.size + xs.length) = (vs ++ xs) ++ sp.drop xs.length := by
          rw [← hvl, List.take_left, List.drop_append, List.drop_of_length_le (by omega), Nat.add_sub_cancel_left, List.nil_append]
        rw [e1] at hs2
        have hk2 := get_set (B := row b (vs ++ xs ++ sp.drop xs.length) e) hk
        have hs3 := hs2.sub hk2 (own_row (n := n + m) (cap := cap) (sz := i.size) (by rw [List.length_append, hvl, hxl, Nat.add_mul]) hroom hcm (by rw [List.length_drop, hsp, hxl, ← Nat.sub_mul]; congr 1; omega))
        rw [List.set_set] at hs3
        exact hs3
    · subst hn0; subst hm0
      obtain rfl : m = 0 := by omega
      obtain rfl : xs = [] := List.eq_nil_of_length_eq_zero (by simpa using hxl)
      refine ⟨.slice A 0 0, w, ?_, ?_⟩
      · have hst : ∀ (ad : Addr), (storeCells ad []).run P w = .ok () w := fun _ => rfl
        rcases hd with rfl | ⟨e', rfl⟩ <;> cases A <;> simp [Builtin.append_, run_underlying ht, run_underlying hud, sizeOf, typeInfo, hi, hlen, hfirst, hst]
      · simp only [Nat.add_zero, List.append_nil]
        rw [set_same hk]; exact hs
  · -- a new row
    have hfits := growslice_fits (need := n + m) (old := cap) (bytes := i.bytes) (by omega) hb
    have h63' : ¬ (9223372036854775807 < ((n : Int) + (m : Int))) := by omega
    have h48' : ¬ (281474976710656 < Builtin.nextslicecap (n + m) cap * i.bytes) := by omega
    have hge := grownCap_ge w (n + m) cap e
    have hcm' : grownCap w (n + m) cap e ≤ maxLen := grownCap_le_maxLen w (n + m) cap e (by simp only [maxLen]; omega)
    refine ⟨.slice (some ⟨w.heap.size, 0, none⟩) (n + m) (grownCap w (n + m) cap e), (w.drew.alloc (.cells ((vs ++ xs) ++ (Builtin.zeroCells z.cells (grownCap w (n + m) cap e - (n + m))).toList).toArray e)), ?_, ?_⟩
    · have hfo' : (Builtin.firstCells i.size n (.slice A n cap)).run P w.drew = .ok vs.toArray w.drew := hfo
      rcases hd with rfl | ⟨e', rfl⟩ <;> simp [Builtin.append_, run_underlying ht, run_underlying hud, sizeOf, typeInfo, zeroValue, hi, hz, hlen, hroom, h63', h48', Question.forced, hfirst', hfo', newRow, grownCap] <;> (congr 2; apply Array.ext'; simp [List.append_assoc])
    · have hs1 := hs.drew.allocRow ((vs ++ xs) ++ (Builtin.zeroCells z.cells (grownCap w (n + m) cap e - (n + m))).toList) e
      have hsz0 : (Builtin.zeroCells z.cells (grownCap w (n + m) cap e - (n + m))).toList.length = (grownCap w (n + m) cap e - (n + m)) * i.size := by
        rw [Array.length_toList, size_zeroCells, hzs]
      have hs2 := hs1.sub (i := 0) rfl (own_row (n := n + m) (cap := grownCap w (n + m) cap e) (sz := i.size) (by rw [List.length_append, hvl, hxl, Nat.add_mul]) hge (by simp only [maxLen] at hcm'; omega) hsz0)
      have hk2 : (own (.slice (some ⟨w.heap.size, 0, none⟩) (n + m) (grownCap w (n + m) cap e)) e (n + m) i.size (vs ++ xs) :: L)[k + 1]? = some (own (.slice A n cap) e n i.size vs) := by simpa using hk
      -- the elder slice is let go, the new one takes its place
      exact (hs2.perm (set_perm hk _)).tail
/-- What a program's table says of an element type: its zero value, cells, bytes. -/
theorem info_of {e : TypeId} {z : Value} {sz bytes : Nat} (h : (P.info? e).map (fun i => (i.zero, i.size, i.bytes)) = some (some z, sz, bytes)) : ∃ i, P.info? e = some i ∧ i.zero = some z ∧ i.size = sz ∧ i.bytes = bytes := by
  cases hi : P.info? e with
  | none => simp [hi] at h
  | some i => simp [hi] at h; exact ⟨i, rfl, h.1, h.2.1, h.2.2⟩
theorem op_append (hs : Sat W w L) {t t' e e' : TypeId} {s x : Operand} (ho : o.op = .call { callee := .builtin .append, args := #[s, x], argTypes := #[t, t'] })
    (ht : P.underlying t = some (.slice e)) (ht' : P.underlying t' = some (.slice e')) {z : Value} {sz bytes : Nat} (hinfo : (P.info? e).map (fun i => (i.zero, i.size, i.bytes)) = some (some z, sz, bytes)) (hzs : z.cells.size = sz) (hsz : 0 < sz)
    {k : Nat} {v : Value} {n : Nat} {vs : List Value} (hv : a.eval s = v) (hk : L[k]? = some (own v e n sz vs)) {y : Value} {m : Nat} {xs : List Value} (hy : a.eval x = y) (hx : Has L (sliceAt y m sz xs)) (h1 : ∀ c ∈ xs, c.oneCell' = true)
    (hb : (n + m) * bytes ≤ 140737488355328) (h63 : n + m ≤ 9223372036854775807)
    (h : ∀ v' w', Sat W w' (L.set k (own v' e (n + m) sz (vs ++ xs))) → K (a.put o.dst v') w') : o.wp P a w K Q := by
  obtain ⟨i, hi, hz, rfl, rfl⟩ := info_of hinfo
  have hx1 := hs.slice hx
  obtain ⟨v', w', hr, hs'⟩ := run_append (P := P) hs (ty := o.type) ht hi hz ht' (.inr ⟨e', rfl⟩) hzs hsz hk hx1.1 (fun w0 => by obtain ⟨_, A, cap, rfl, _⟩ := hx1; rfl) (run_first hx1) (run_first (w := w.drew) hx1) h1 hb h63
  unfold Oper.wp execOp
  simp only [ho, resolve, invoke, builtin, Sem.run_bind, Sem.run_pure, Result.andThen_ok, List.map_toArray, List.map_cons, List.map_nil, hv, hy, hr]
  exact h v' w' hs'
/-- append of a string's bytes. -/
theorem op_append_str (hs : Sat W w L) {t t' e : TypeId} {s x : Operand} (ho : o.op = .call { callee := .builtin .append, args := #[s, x], argTypes := #[t, t'] })
    (ht : P.underlying t = some (.slice e)) (ht' : P.underlying t' = some .string) {z : Value} {bytes : Nat} (hinfo : (P.info? e).map (fun i => (i.zero, i.size, i.bytes)) = some (some z, 1, bytes)) (hzs : z.cells.size = 1)
    {k : Nat} {v : Value} {n : Nat} {vs : List Value} (hv : a.eval s = v) (hk : L[k]? = some (own v e n 1 vs)) {l : List UInt8} (hy : a.eval x = .string ⟨l.toArray⟩)
    (hb : (n + l.length) * bytes ≤ 140737488355328) (h63 : n + l.length ≤ 9223372036854775807)
    (h : ∀ v' w', Sat W w' (L.set k (own v' e (n + l.length) 1 (vs ++ u8s l))) → K (a.put o.dst v') w') : o.wp P a w K Q := by
  obtain ⟨i, hi, hz, h1, rfl⟩ := info_of hinfo
  have hfs : ∀ w : World, (Builtin.firstCells i.size l.length (.string ⟨l.toArray⟩)).run P w = .ok (u8s l).toArray w := fun w => by
    have := Lib.run_firstCells_string (P := P) w i.size ⟨l.toArray⟩
    simpa [Lib.strCells, u8s, ByteArray.size] using this
  obtain ⟨v', w', hr, hs'⟩ := run_append (P := P) hs (ty := o.type) (m := l.length) (xs := u8s l) (x := .string ⟨l.toArray⟩) ht hi hz ht' (.inl rfl) (by rw [h1]; exact hzs) (by omega) (by rw [h1]; exact hk) (by simp [h1]) (fun w0 => rfl) (hfs w) (hfs w.drew)
    (fun c hc => by simp only [u8s, List.mem_map] at hc; obtain ⟨b, _, rfl⟩ := hc; rfl) hb h63
  unfold Oper.wp execOp
  simp only [ho, resolve, invoke, builtin, Sem.run_bind, Sem.run_pure, Result.andThen_ok, List.map_toArray, List.map_cons, List.map_nil, hv, hy, hr]
  exact h v' w' (by rw [h1] at hs'; exact hs')
/-- append where a new row is made, whoever has the elder one. -/
theorem op_append_new (hs : Sat W w L) {t t' e e' : TypeId} {s x : Operand} (ho : o.op = .call { callee := .builtin .append, args := #[s, x], argTypes := #[t, t'] })
    (ht : P.underlying t = some (.slice e)) (ht' : P.underlying t' = some (.slice e')) {z : Value} {sz bytes : Nat} (hinfo : (P.info? e).map (fun i => (i.zero, i.size, i.bytes)) = some (some z, sz, bytes)) (hzs : z.cells.size = sz) (hsz : 0 < sz)
    {A : Option Addr} {n cap : Nat} {vs : List Value} (hv : a.eval s = .slice A n cap) (hx0 : Has L (sliceAt (.slice A n cap) n sz vs)) {y : Value} {m : Nat} {xs : List Value} (hy : a.eval x = y) (hx : Has L (sliceAt y m sz xs))
    (hroom : cap < n + m ∨ cap = 0) (hb : (n + m) * bytes ≤ 140737488355328) (h63 : n + m ≤ 9223372036854775807)
    (h : ∀ v' w', Sat W w' (own v' e (n + m) sz (vs ++ xs) :: L) → K (a.put o.dst v') w') : o.wp P a w K Q := by
  obtain ⟨i, hi, hz, rfl, rfl⟩ := info_of hinfo
  have hx1 := hs.slice hx
  have hx2 := hs.slice hx0
  have hvl := hx2.1
  have hxl := hx1.1
  have hnc : n ≤ cap := by obtain ⟨_, A', c', e1, h', _⟩ := hx2; cases e1; exact h'
  have hlen : (Builtin.lenOf y).run P w = .ok m w := run_lenOf hx1
  by_cases h0 : n + m ≤ cap
  · obtain rfl : cap = 0 := by omega
    obtain rfl : n = 0 := by omega
    obtain rfl : m = 0 := by omega
    obtain rfl : vs = [] := List.eq_nil_of_length_eq_zero (by simpa using hvl)
    obtain rfl : xs = [] := List.eq_nil_of_length_eq_zero (by simpa using hxl)
    have hst : ∀ (ad : Addr), (storeCells ad []).run P w = .ok () w := fun _ => rfl
    have hfirst := run_first (P := P) hx1
    have hr : (Builtin.append_ #[t, t'] o.type #[.slice A 0 0, y]).run P w = .ok (.slice A 0 0) w := by
      cases A <;> simp [Builtin.append_, run_underlying ht, run_underlying ht', sizeOf, typeInfo, hi, hlen, hfirst, hst]
    unfold Oper.wp execOp
    simp only [ho, resolve, invoke, builtin, Sem.run_bind, Sem.run_pure, Result.andThen_ok, List.map_toArray, List.map_cons, List.map_nil, hv, hy, hr]
    exact h _ _ (hs.addNil A e i.size)
  · have hfits := growslice_fits (need := n + m) (old := cap) (bytes := i.bytes) (by omega) hb
    have h63' : ¬ (9223372036854775807 < ((n : Int) + (m : Int))) := by omega
    have h48' : ¬ (281474976710656 < Builtin.nextslicecap (n + m) cap * i.bytes) := by omega
    have hge := grownCap_ge w (n + m) cap e
    have hcm' : grownCap w (n + m) cap e ≤ maxLen := grownCap_le_maxLen w (n + m) cap e (by simp only [maxLen]; omega)
    have hfo' : (Builtin.firstCells i.size n (.slice A n cap)).run P w.drew = .ok vs.toArray w.drew := run_first (w := w.drew) hx2
    have hfirst' : (Builtin.firstCells i.size m y).run P w.drew = .ok xs.toArray w.drew := run_first (w := w.drew) hx1
    have hr : (Builtin.append_ #[t, t'] o.type #[.slice A n cap, y]).run P w = .ok (.slice (some ⟨w.heap.size, 0, none⟩) (n + m) (grownCap w (n + m) cap e)) (w.drew.alloc (.cells ((vs ++ xs) ++ (Builtin.zeroCells z.cells (grownCap w (n + m) cap e - (n + m))).toList).toArray e)) := by
      simp [Builtin.append_, run_underlying ht, run_underlying ht', sizeOf, typeInfo, zeroValue, hi, hz, hlen, h0, h63', h48', Question.forced, hfirst', hfo', newRow, grownCap] <;> (congr 2; apply Array.ext'; simp [List.append_assoc])
    have hs1 := hs.drew.allocRow ((vs ++ xs) ++ (Builtin.zeroCells z.cells (grownCap w (n + m) cap e - (n + m))).toList) e
    have hsz0 : (Builtin.zeroCells z.cells (grownCap w (n + m) cap e - (n + m))).toList.length = (grownCap w (n + m) cap e - (n + m)) * i.size := by
      rw [Array.length_toList, size_zeroCells, hzs]
    have hs2 := hs1.sub (i := 0) rfl (own_row (n := n + m) (cap := grownCap w (n + m) cap e) (sz := i.size) (by rw [List.length_append, hvl, hxl, Nat.add_mul]) hge (by simp only [maxLen] at hcm'; omega) hsz0)
    unfold Oper.wp execOp
    simp only [ho, resolve, invoke, builtin, Sem.run_bind, Sem.run_pure, Result.andThen_ok, List.map_toArray, List.map_cons, List.map_nil, hv, hy, hr]
    exact h _ _ hs2

/-- copy into a row, from a place on. -/
theorem op_copy (hs : Sat W w L) {t t' e : TypeId} {d x : Operand} (ho : o.op = .call { callee := .builtin .copy, args := #[d, x], argTypes := #[t, t'] })
    (ht : P.underlying t = some (.slice e)) (hsz : (P.info? e).map (·.size) = some 1) {b i n cap : Nat} (hd : a.eval d = .slice (some ⟨b, i, none⟩) n cap)
    {k : Nat} {l : List Value} {T : TypeId} (hk : L[k]? = some (row b l T)) (hil : i + n ≤ l.length) {y : Value} {m : Nat} {xs : List Value} (hy : a.eval x = y)
    (hlen : (Builtin.lenOf y).run P w = .ok m w) (hfirst : (Builtin.firstCells 1 (Nat.min m n) y).run P w = .ok xs.toArray w) (hxl : xs.length = Nat.min m n) (h1 : ∀ c ∈ xs, c.oneCell' = true)
    (h : ∀ w', Sat W w' (L.set k (row b (l.take i ++ xs ++ l.drop (i + xs.length)) T)) → K (a.put o.dst (.int .i64 xs.length)) w') : o.wp P a w K Q := by
  have hfit : i + xs.length ≤ l.length := by rw [hxl]; have : Nat.min m n ≤ n := Nat.min_le_right _ _; omega
  have hth := there_row hs (List.mem_of_getElem? hk) i xs.length hfit
  have hst := run_storeCells_cells (P := P) b i xs 0 w (fun j hj => (hth j hj).1) (fun j hj => (hth j hj).2) h1
  simp only [Nat.add_zero] at hst
  cases hi : P.info? e with
  | none => simp [hi] at hsz
  | some ti =>
    have hti : ti.size = 1 := by simpa [hi] using hsz
    have hr : (Builtin.copy_ #[t, t'] o.type #[.slice (some ⟨b, i, none⟩) n cap, y]).run P w = .ok (.int .i64 xs.length) (w.setCells b i xs) := by
      simp [Builtin.copy_, run_underlying ht, hlen, sizeOf, typeInfo, hi, hti, hfirst, hst, goInt, hxl]
    unfold Oper.wp execOp
    simp only [ho, resolve, invoke, builtin, Sem.run_bind, Sem.run_pure, Result.andThen_ok, List.map_toArray, List.map_cons, List.map_nil, hd, hy, hr]
    exact h _ (hs.setCells hk hfit)
theorem take_sliceAt {v : Value} {n : Nat} {vs : List Value} {F : PH} (h : sliceAt v n 1 vs F) (m : Nat) (hm : m ≤ n) (w : World) (hF : F = hp w) : (Builtin.firstCells 1 m v).run P w = .ok (vs.take m).toArray w := by
  subst hF
  obtain ⟨hl, A, cap, rfl, hc, hcm, h0 | ⟨b, o, rfl, hc⟩⟩ := h
  · subst h0
    obtain rfl : n = 0 := by simpa using hl.symm
    obtain rfl : m = 0 := by omega
    cases A with
    | none => exact run_firstCells_none w 1 0 0 cap
    | some ad => exact run_firstCells_some w 1 0 ad 0 cap [] (by simp) (by simp)
  · refine run_firstCells_some w 1 m _ n cap (vs.take m) (by simp; omega) (fun j u hj => ?_)
    rw [add_plain]
    rw [List.getElem?_take] at hj
    split at hj
    · exact cellsAt_world hc j u hj
    · cases hj

/-! ### Conversions between bytes and strings -/
theorem strOfNums_u8s (l : List UInt8) : strOfNums (l.map fun x => (x.toNat : Int)) = ⟨l.toArray⟩ := by
  simp [strOfNums, Function.comp_def]
theorem run_to_string {src dst e : TypeId} (hs : P.underlying src = some (.slice e)) (he : P.underlying e = some (.int .u8)) (hd : P.underlying dst = some .string) {v : Value} {l : List UInt8} (h : bytesAt v l (hp w)) :
    (convert src dst v).run P w = .ok (.string ⟨l.toArray⟩) w := by
  obtain ⟨_, A, cap, rfl, _, _, h0 | ⟨b, o, rfl, hc⟩⟩ := h
  · obtain rfl : l = [] := by simpa [u8s] using h0
    cases A with
    | none => exact run_convert_bytes_nil w src e hs he 0 cap dst hd
    | some ad =>
      show (convert src dst (.slice (some ad) 0 cap)).run P w = _
      rw [run_convert_bytes_string w src dst e (some ad) 0 cap hs he hd, run_bytesToString w ad 0 cap [] (by simpa using run_loadCells_list (P := P) w ad [] (by simp))]
      rfl
  · rw [run_convert_bytes_arg w src e hs he b o l.length cap (l.map fun x => (x.toNat : Int)) (by simp) (fun i hi => ?_) dst hd, strOfNums_u8s]
    have := cellsAt_world hc i (.int .u8 l[i].toNat) (by simp [u8s, hi])
    rw [this]; simp [hi]
theorem op_to_string {src dst e : TypeId} {x : Operand} (ho : o.op = .convert src dst x) (hs : P.underlying src = some (.slice e)) (he : P.underlying e = some (.int .u8)) (hd : P.underlying dst = some .string) {v : Value} (hx : a.eval x = v) {l : List UInt8} (h : bytesAt v l (hp w))
    (hK : K (a.put o.dst (.string ⟨l.toArray⟩)) w) : o.wp P a w K Q := by
  unfold Oper.wp execOp
  simp only [ho, hx, Sem.run_bind, run_to_string hs he hd h, Result.andThen_ok, Sem.run_pure]
  exact hK
theorem op_to_bytes (hs : Sat W w L) {src dst e : TypeId} {x : Operand} (ho : o.op = .convert src dst x) {d : TypeDesc} (hsrc : P.underlying src = some d) (hd : P.underlying dst = some (.slice e)) (he : P.underlying e = some (.int .u8)) {l : List UInt8} (hx : a.eval x = .string ⟨l.toArray⟩) (hl : l.length ≤ 9223372036854775807)
    (h : ∀ v w', Sat W w' (own v e l.length 1 (u8s l) :: L) → K (a.put o.dst v) w') : o.wp P a w K Q := by
  have hr := Lib.run_convert_string_bytes (P := P) w src dst e ⟨l.toArray⟩ hsrc hd he
  unfold Oper.wp execOp
  simp only [ho, hx, Sem.run_bind, hr, Result.andThen_ok, Sem.run_pure]
  have hb : Below w.heap.size w (Lib.bytesWorld w e ⟨l.toArray⟩) := ⟨rfl, rfl, rfl, by rw [Lib.bytesWorld_size]; omega, fun k hk => Lib.bytesWorld_at_old w e _ k hk⟩
  have hn := Lib.bytesWorld_at_new w e ⟨l.toArray⟩
  have hcells : Lib.bytesCells w e ⟨l.toArray⟩ = (u8s l ++ List.replicate (grownCap w l.length 0 e - l.length) (Value.int .u8 0)).toArray := by
    simp [Lib.bytesCells, u8s, ByteArray.size]
  have hge := grownCap_ge w l.length 0 e
  have hcm := grownCap_le_maxLen w l.length 0 e (by simp only [maxLen]; omega)
  rw [hcells] at hn
  have h1 := (hs.new hb (Nat.le_refl _) hn).row_of_blk (.inr (by simp))
  have h2 := h1.sub (i := 0) rfl (own_row (n := l.length) (cap := grownCap w l.length 0 e) (sz := 1) (by simp) hge (by simp only [maxLen] at hcm; omega) (by simp))
  exact h _ _ h2
/-- A literal of constant bytes, marked as a string's. -/
theorem op_mark (hs : Sat W w L) {t e : TypeId} {x : Operand} (ho : o.op = .convert t t x) (hd : P.underlying t = some (.slice e)) (he : P.underlying e = some (.int .u8)) {b n cap : Nat} (hx : a.eval x = .slice (some ⟨b, 0, none⟩) n cap)
    {k : Nat} {l : List Value} {T : TypeId} (hk : L[k]? = some (row b l T))
    (h : ∀ w', Sat W w' L → K (a.put o.dst (.slice (some ⟨b, 0, none⟩) n cap)) w') : o.wp P a w K Q := by
  obtain ⟨h1, h2, h3, F, hF, hw⟩ := id hs
  obtain ⟨G, R, gd, rfl, ⟨fr, hfr, rfl⟩, hB⟩ := st_set hk hF
  have hg : w.heap[b]? = some (.cells l.toArray T fr) := hw b _ (by simp [PH.or, one])
  have hlt := lt_of_block hg
  have hget : w.heap[b] = .cells l.toArray T fr := by simpa [Array.getElem?_eq_getElem hlt] using hg
  have hsh : w.shape? b = some (T, l.length) := by simp [World.shape?, hg]
  have hrun : (convert t t (.slice (some ⟨b, 0, none⟩) n cap)).run P w = .ok (.slice (some ⟨b, 0, none⟩) n cap) (w.freeze ⟨b, l.length, none⟩ 1) := by
    simp [convert, run_underlying hd, run_underlying he, markStringish, hsh]
  unfold Oper.wp execOp
  simp only [ho, hx, Sem.run_bind, hrun, Result.andThen_ok, Sem.run_pure]
  refine h _ ⟨h1, h2, h3, (one b (.cells l.toArray T (if fr.1 == fr.2 then (l.length, l.length + 1) else (min fr.1 l.length, max fr.2 (l.length + 1))))).or R, ?_, fun c p ec => ?_⟩
  · have hR : R b = none := (gd b).resolve_left (by simp [one])
    have := hB (row b l T) (one b (.cells l.toArray T (if fr.1 == fr.2 then (l.length, l.length + 1) else (min fr.1 l.length, max fr.2 (l.length + 1))))) ⟨_, ?_, rfl⟩ (fun c => ?_)
    · rwa [set_same hk] at this
    · split
      · right; simp
      · rename_i hne
        have hne' : fr.1 ≠ fr.2 := by simpa using hne
        right; simp only; omega
    · by_cases hc : c = b
      · subst hc; exact .inr hR
      · left; simp [one, hc]
  · simp only [PH.or, one] at ec
    by_cases hc : c = b
    · subst hc
      simp at ec; subst ec
      simp [World.freeze, Array.getElem?_modify, hg]
    · simp [hc] at ec
      have hcb : b ≠ c := fun e => hc e.symm
      simp only [World.freeze, Nat.one_ne_zero, if_false, Array.getElem?_modify, if_neg hcb]
      exact hw c p (by simp only [PH.or, one, if_neg hc]; exact ec)
/-- The result that lies in a variable of several cells. -/
theorem run_results_cell {fn : Func} {p : Tmp} {ty : TypeId} (h : fn.results = #[.cell p ty]) {tmps : Array Value} {b : Nat} (hp : tmps.getD p undef = .pointer (some ⟨b, 0, none⟩)) (cs : List Value) (hc : w.rangeAt b 0 cs)
    (hd : ((P.underlying ty).map TypeDesc.isRow) = some true) (hi : (P.info? ty).map (·.size) = some cs.length) : (results fn tmps).run P w = .ok (.agg cs.toArray) w := by
  cases hu : P.underlying ty with
  | none => simp [hu] at hd
  | some d =>
    have hp' : tmps[p]?.getD undef = .pointer (some ⟨b, 0, none⟩) := by simpa using hp
    simp [results, h, hp', asAddr, run_loadVar_mid w b 0 ty cs d hc hu (by simpa [hu] using hd) hi]
end
end Go.Proofs.YthjnefpnnifjiaaDoor
