/- slices.Insert at cells: the operations that it wants, and its contract. -/
import Derived.Test.YthjnefpnnifjiaaDoorRdApp
import Derived.Lib.Overlaps
import Derived.Lib.AppendZeros
set_option linter.unusedVariables false
set_option linter.unusedSimpArgs false
namespace Go.Proofs.YthjnefpnnifjiaaDoor
open Go.RowKit
section
variable {P : Program} {Q : Exit → Act → World → Prop} {a : Act} {W w : World} {o : Oper} {K : Act → World → Prop} {L : List HP}
theorem op_copyN (hs : Sat W w L) {t t' e : TypeId} {d x : Operand} (ho : o.op = .call { callee := .builtin .copy, args := #[d, x], argTypes := #[t, t'] })
    (ht : P.underlying t = some (.slice e)) {sz : Nat} (hsz : (P.info? e).map (·.size) = some sz) {b i n cap : Nat} (hd : a.eval d = .slice (some ⟨b, i, none⟩) n cap)
    {k : Nat} {l : List Value} {T : TypeId} (hk : L[k]? = some (row b l T)) {y : Value} {m q : Nat} {xs : List Value} (hy : a.eval x = y) (hq : Nat.min m n = q)
    (hlen : (Builtin.lenOf y).run P w = .ok m w) (hfirst : (Builtin.firstCells sz q y).run P w = .ok xs.toArray w) (hil : i + xs.length ≤ l.length) (h1 : ∀ c ∈ xs, c.oneCell' = true)
    (h : ∀ w', Sat W w' (L.set k (row b (l.take i ++ xs ++ l.drop (i + xs.length)) T)) → K (a.put o.dst (.int .i64 q)) w') : o.wp P a w K Q := by
  have hth := there_row hs (List.mem_of_getElem? hk) i xs.length hil
  have hst := run_storeCells_cells (P := P) b i xs 0 w (fun j hj => (hth j hj).1) (fun j hj => (hth j hj).2) h1
  simp only [Nat.add_zero] at hst
  cases hi : P.info? e with
  | none => simp [hi] at hsz
  | some ti =>
    have hti : ti.size = sz := by simpa [hi] using hsz
    have hr : (Builtin.copy_ #[t, t'] o.type #[.slice (some ⟨b, i, none⟩) n cap, y]).run P w = .ok (.int .i64 q) (w.setCells b i xs) := by
      simp [Builtin.copy_, run_underlying ht, hlen, sizeOf, typeInfo, hi, hti, hq, hfirst, hst, goInt]
    unfold Oper.wp execOp
    simp only [ho, resolve, invoke, builtin, Sem.run_bind, Sem.run_pure, Result.andThen_ok, List.map_toArray, List.map_cons, List.map_nil, hd, hy, hr]
    exact h _ (hs.setCells hk hil)
/-- append(s, make(..)..), where there is no room. -/
theorem op_append_zeros (hs : Sat W w L) {t tn e : TypeId} {s x : Operand} (ho : o.op = .call { callee := .builtin .append, args := #[s, x], argTypes := #[t, tn] })
    (ht : P.underlying t = some (.slice e)) {kn : IntKind} (htn : P.underlying tn = some (.int kn)) {z : Value} {sz bytes : Nat} (hinfo : (P.info? e).map (fun i => (i.zero, i.size, i.bytes)) = some (some z, sz, bytes)) (hzs : z.cells.size = sz) (hsz : 0 < sz)
    {A : Option Addr} {n cap : Nat} {vs : List Value} (hv : a.eval s = .slice A n cap) (hx0 : Has L (sliceAt (.slice A n cap) n sz vs)) {k : IntKind} {m : Nat} (hy : a.eval x = .int k (m : Nat)) (hm0 : 0 < m)
    (hroom : cap < n + m) (hb : (n + m) * bytes ≤ 140737488355328) (h63 : n + m ≤ 9223372036854775807)
    (h : ∀ v' w' zs, zs.length = m * sz → Sat W w' (own v' e (n + m) sz (vs ++ zs) :: L) → K (a.put o.dst v') w') : o.wp P a w K Q := by
  obtain ⟨i, hi, hz, rfl, rfl⟩ := info_of hinfo
  have hx2 := hs.slice hx0
  have hvl := hx2.1
  have hfits := growslice_fits (need := n + m) (old := cap) (bytes := i.bytes) hroom hb
  have h63' : ¬ (9223372036854775807 < ((n : Int) + (m : Int))) := by omega
  have h48' : ¬ (281474976710656 < Builtin.nextslicecap (n + m) cap * i.bytes) := by omega
  have h48i : ¬ (281474976710656 < (m : Int) * (i.bytes : Int)) := by
    rw [← Int.natCast_mul]
    have : m * i.bytes ≤ (n + m) * i.bytes := Nat.mul_le_mul_right _ (by omega)
    omega
  have hneg : ¬ ((m : Int) < 0) := by omega
  have hw : IntKind.i64.wrap (m : Int) = m := by rw [IntKind.wrap_i64]; omega
  have hge := grownCap_ge w (n + m) cap e
  have hcm' : grownCap w (n + m) cap e ≤ maxLen := grownCap_le_maxLen w (n + m) cap e (by simp only [maxLen]; omega)
  have hfo' : (Builtin.firstCells i.size n (.slice A n cap)).run P w.drew = .ok vs.toArray w.drew := run_first (w := w.drew) hx2
  have hfo : (Builtin.firstCells i.size n (.slice A n cap)).run P w = .ok vs.toArray w := run_first (w := w) hx2
  have hroom' : ¬ (n + m ≤ cap) := by omega
  have hm1 : ¬ (m = 0) := by omega
  have hns : ¬ (m * i.size = 0) := Nat.mul_ne_zero hm1 (by omega)
  have hr : (Builtin.append_ #[t, tn] o.type #[.slice A n cap, .int k (m : Nat)]).run P w = .ok (.slice (some ⟨w.heap.size, 0, none⟩) (n + m) (grownCap w (n + m) cap e)) (w.drew.alloc (.cells ((vs ++ (Builtin.zeroCells z.cells m).toList) ++ (Builtin.zeroCells z.cells (grownCap w (n + m) cap e - (n + m))).toList).toArray e)) := by
    simp [Builtin.append_, run_underlying ht, run_underlying htn, sizeOf, typeInfo, zeroValue, hi, hz, asInt, asIntOf, hw, hm1, hneg, h63', h48', h48i, hns, hroom, hroom', Question.forced, hfo', hfo, newRow, grownCap] <;> first | (congr 2; apply Array.ext'; simp [List.append_assoc]; done) | (congr 3; apply Array.ext'; simp [List.append_assoc]; done) | (congr 4; apply Array.ext'; simp [List.append_assoc])
  have hs1 := hs.drew.allocRow ((vs ++ (Builtin.zeroCells z.cells m).toList) ++ (Builtin.zeroCells z.cells (grownCap w (n + m) cap e - (n + m))).toList) e
  have hsz0 : (Builtin.zeroCells z.cells (grownCap w (n + m) cap e - (n + m))).toList.length = (grownCap w (n + m) cap e - (n + m)) * i.size := by
    rw [Array.length_toList, size_zeroCells, hzs]
  have hsz1 : (Builtin.zeroCells z.cells m).toList.length = m * i.size := by rw [Array.length_toList, size_zeroCells, hzs]
  have hs2 := hs1.sub (i := 0) rfl (own_row (n := n + m) (cap := grownCap w (n + m) cap e) (sz := i.size) (by rw [List.length_append, hvl, hsz1, Nat.add_mul]) hge (by simp only [maxLen] at hcm'; omega) hsz0)
  unfold Oper.wp execOp
  simp only [ho, resolve, invoke, builtin, Sem.run_bind, Sem.run_pure, Result.andThen_ok, List.map_toArray, List.map_cons, List.map_nil, hv, hy, hr]
  exact h _ _ _ hsz1 hs2
theorem op_litx (hs : Sat W w L) {t e : TypeId} {n : Nat} {parts : Array (Nat × Operand)} (ho : o.op = .buildSlice t n parts) (ht : P.underlying t = some (.slice e)) {z : Value} {sz bytes : Nat} (hinfo : (P.info? e).map (fun i => (i.zero, i.size, i.bytes)) = some (some z, sz, bytes))
    (l : List Value) (hn : n * sz ≤ 16777216) (hl : Instr.fill (fun i => some (i * sz, sz)) (if n * sz = 0 then #[] else (Array.range (n * sz)).map (z.cells[· % z.cells.size]!)) (parts.map fun (i, x) => (i, a.eval x)).toList = some l.toArray)
    (h : ∀ b w', Sat W w' (row b l e :: L) → w'.heap[b]? = some (.cells l.toArray e (0, 0)) → K (a.put o.dst (.slice (some ⟨b, 0, none⟩) n n)) w') : o.wp P a w K Q := by
  obtain ⟨i, hi, hz, rfl, rfl⟩ := info_of hinfo
  have hn' : ¬ (16777216 < n * i.size) := by omega
  have hrun : (execOp a.eval o).run P w = .ok (.value (.slice (some ⟨w.heap.size, 0, none⟩) n n)) (w.alloc (.cells l.toArray e)) := by
    by_cases h0 : n * i.size = 0
    · rw [if_pos h0] at hl
      simp only [execOp, ho, Instr.buildSlice, Sem.run_bind, run_underlying ht, Result.andThen_ok, sizeOf, typeInfo, run_program, hi, Sem.run_pure, hn', Sem.run_ite, if_false, h0, if_true, gt_iff_lt, Nat.reducePow]
      have e0 : ∀ f : Nat → Value, (Array.range 0).map f = #[] := fun f => by rw [Array.range_zero', Array.map_empty]
      have h00 : ¬ (16777216 < 0) := by omega
      simp only [e0, hl, newRow, Sem.run_bind, run_newObj, Result.andThen_ok, Sem.run_pure, World.alloc_eq, h00, if_false]
    · rw [if_neg h0] at hl
      simp only [execOp, ho, Instr.buildSlice, Sem.run_bind, run_underlying ht, Result.andThen_ok, sizeOf, typeInfo, run_program, hi, Sem.run_pure, hn', Sem.run_ite, if_false, h0, gt_iff_lt, Nat.reducePow, zeroValue, hz]
      simp only [hl, newRow, Sem.run_bind, run_newObj, Result.andThen_ok, Sem.run_pure, World.alloc_eq]
  unfold Oper.wp
  rw [hrun]
  exact h _ _ (hs.allocRow _ _) (heap_alloc_new w _)
theorem op_lit_agg1x (hs : Sat W w L) {t e : TypeId} {x : Operand} (ho : o.op = .buildSlice t 1 #[(0, x)]) (ht : P.underlying t = some (.slice e)) {z : Value} {sz bytes : Nat} (hinfo : (P.info? e).map (fun i => (i.zero, i.size, i.bytes)) = some (some z, sz, bytes))
    (cs : List Value) (hx : a.eval x = .agg cs.toArray) (hcs : cs.length = sz) (h0 : 0 < sz) (hn : sz ≤ 16777216)
    (h : ∀ b w', Sat W w' (row b cs e :: L) → w'.heap[b]? = some (.cells cs.toArray e (0, 0)) → K (a.put o.dst (.slice (some ⟨b, 0, none⟩) 1 1)) w') : o.wp P a w K Q := by
  refine op_litx hs ho ht hinfo cs (by omega) ?_ h
  have h1 : ¬ (1 * sz = 0) := by omega
  rw [if_neg h1]
  have e0 : (Array.map (fun x => match x with | (i, x) => (i, a.eval x)) #[(0, x)]).toList = [(0, Value.agg cs.toArray)] := by simp [hx]
  rw [e0]
  generalize hI : ((Array.range (1 * sz)).map (z.cells[· % z.cells.size]!)) = init
  have hsize : init.size = cs.length := by rw [← hI]; simp [hcs]
  clear hI
  simp only [Instr.fill, Value.cells, Nat.zero_mul]
  have hc : ¬ (cs.toArray.size ≠ sz ∨ 0 + cs.toArray.size > init.size) := by simp [hcs, hsize]
  rw [if_neg (by simpa using hc)]
  have := fold_set cs 0 [] init.toList rfl (by simpa using hsize)
  have e1 : cs.toArray.zipIdx = (cs.zipIdx 0).toArray := by simp
  rw [e1, List.foldl_toArray']
  · simpa using this
  · simp
end
/-- Two slices in two rows don't overlap. -/
theorem op_overlaps {Q : Exit → Act → World → Prop} {a : Act} {W w : World} {o : Oper} {K : Act → World → Prop} {L : List HP} (hs : Sat W w L) {x y : Operand} {ts : Array TypeId} (ho : o.op = .call { callee := .value (.func 79), args := #[x, y], argTypes := ts })
    {bx bo oo la ca lb cb : Nat} {cs ds : List Value} {t1 t2 : TypeId} (hx : a.eval x = .slice (some ⟨bx, 0, none⟩) la ca) (hy : a.eval y = .slice (some ⟨bo, oo, none⟩) lb cb) (hne : bx ≠ bo)
    (h1 : w.heap[bx]? = some (.cells cs.toArray t1 (0, 0))) {fr2 : Nat × Nat} (h2 : w.heap[bo]? = some (.cells ds.toArray t2 fr2)) (hd : ds.length ≠ 0) (hc : cs.length ≠ 0)
    (h : K (a.put o.dst (.bool false)) w) : o.wp Tryd.prog a w K Q := by
  have hrun : (callFunc 79 #[.slice (some ⟨bx, 0, none⟩) la ca, .slice (some ⟨bo, oo, none⟩) lb cb]).run Tryd.prog w = .ok (.value (.bool false)) w := by
    rw [run_callFunc_extern Tryd.func79 (by kernel_rfl) (by kernel_rfl) (by kernel_rfl) (e := Extern.SlicesOverlaps.overlaps #[41, 41] #[4]) (by kernel_rfl)]
    rw [Lib.run_overlaps_apart w 41 4 59 Tryd.underlying41 5 Tryd.sizeOf59 ⟨bx, 0, none⟩ ⟨bo, oo, none⟩ la ca lb cb hne t1 t2 cs.length ds.length (by simp [World.shape?, h1]) (by simp [World.shape?, h2]) hd (by simp [World.frozen?, h1]) (by simp [World.frozen?, h1])]
    rfl
  have he : a.eval (.func 79) = .func (.func 79) #[] #[] := rfl
  unfold Oper.wp execOp
  simp only [ho, resolve, invoke, Sem.run_bind, Sem.run_pure, Result.andThen_ok, List.map_toArray, List.map_cons, List.map_nil, hx, hy, he]
  simp [Deferred.ofValue, hrun]
  exact h
theorem csC_take (l : List RCl) (i : Nat) (h : i ≤ l.length) : (csC (l.take i)).length = i * 5 := by rw [csC_len, List.length_take]; congr 1; omega
theorem csC_split (l : List RCl) (i : Nat) : csC l = csC (l.take i) ++ csC (l.drop i) := by
  unfold csC
  rw [← List.flatMap_append, List.take_append_drop]
theorem csC_drop_len (l : List RCl) (i : Nat) (h : i ≤ l.length) : (csC (l.drop i)).length = (l.length - i) * 5 := by rw [csC_len, List.length_drop]
theorem csC_ins (l : List RCl) (i : Nat) (x : RCl) : csC (l.take i ++ x :: l.drop i) = csC (l.take i) ++ (cC x ++ csC (l.drop i)) := by simp [csC]
/-- Where there is no room. -/
theorem lay_new (P zs sp X D : List Value) (i m d : Nat) (hP : P.length = i * 5) (hz : zs.length = m * 5) (hX : X.length = 5) (hD : D.length = d * 5) (hm : m = d + 1) :
    ((((P ++ zs) ++ sp).take (i * 5) ++ X ++ ((P ++ zs) ++ sp).drop (i * 5 + X.length)).take ((i + 1) * 5) ++ D ++ (((P ++ zs) ++ sp).take (i * 5) ++ X ++ ((P ++ zs) ++ sp).drop (i * 5 + X.length)).drop ((i + 1) * 5 + D.length)) = (P ++ (X ++ D)) ++ sp := by
  have e1 : ((P ++ zs) ++ sp).take (i * 5) = P := by rw [List.append_assoc, List.take_left' hP]
  have e2 : ((P ++ zs) ++ sp).drop (i * 5 + X.length) = (zs ++ sp).drop 5 := by
    rw [List.append_assoc, hX, ← hP, List.drop_length_add_append]
  rw [e1, e2]
  have e3 : (P ++ X ++ (zs ++ sp).drop 5).take ((i + 1) * 5) = P ++ X := List.take_left' (by simp [hP, hX]; omega)
  have e4 : (P ++ X ++ (zs ++ sp).drop 5).drop ((i + 1) * 5 + D.length) = ((zs ++ sp).drop 5).drop D.length := by
    rw [show (i + 1) * 5 = (P ++ X).length by simp [hP, hX]; omega, List.drop_length_add_append]
  rw [e3, e4, List.drop_drop]
  have e5 : (zs ++ sp).drop (5 + D.length) = sp := by rw [List.drop_left' (by rw [hz, hD]; omega)]
  rw [e5]
  simp only [List.append_assoc]
/-- Where there is room. -/
theorem lay_in (P D sp X : List Value) (i d : Nat) (hP : P.length = i * 5) (hX : X.length = 5) (hD : D.length = d * 5) (hs : 5 ≤ sp.length) :
    ((((P ++ D) ++ sp).take ((i + 1) * 5) ++ D ++ ((P ++ D) ++ sp).drop ((i + 1) * 5 + D.length)).take (i * 5) ++ X ++ (((P ++ D) ++ sp).take ((i + 1) * 5) ++ D ++ ((P ++ D) ++ sp).drop ((i + 1) * 5 + D.length)).drop (i * 5 + X.length)) = (P ++ (X ++ D)) ++ sp.drop 5 := by
  have e0 : ((P ++ D) ++ sp).take ((i + 1) * 5) = P ++ (D ++ sp).take 5 := by
    rw [List.append_assoc, show (i + 1) * 5 = P.length + 5 by rw [hP]; omega, List.take_length_add_append]
  have e1 : ((P ++ D) ++ sp).drop ((i + 1) * 5 + D.length) = sp.drop 5 := by
    rw [show (i + 1) * 5 + D.length = (P ++ D).length + 5 by rw [List.length_append, hP]; omega, List.drop_length_add_append]
  have h5 : ((D ++ sp).take 5).length = 5 := by simp; omega
  rw [e0, e1]
  have e2 : (P ++ (D ++ sp).take 5 ++ D ++ sp.drop 5).take (i * 5) = P := by
    rw [List.append_assoc, List.append_assoc, List.take_left' hP]
  have e3 : (P ++ (D ++ sp).take 5 ++ D ++ sp.drop 5).drop (i * 5 + X.length) = D ++ sp.drop 5 := by
    rw [hX, show i * 5 + 5 = (P ++ (D ++ sp).take 5).length by rw [List.length_append, h5, hP], List.append_assoc (P ++ (D ++ sp).take 5), List.drop_left' rfl]
  rw [e2, e3]
  simp only [List.append_assoc]
end Go.Proofs.YthjnefpnnifjiaaDoor
