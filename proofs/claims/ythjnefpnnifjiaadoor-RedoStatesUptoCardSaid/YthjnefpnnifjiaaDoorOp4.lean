/- Still more operations: a literal with one element of several cells; copy of bytes. -/
import Derived.Test.YthjnefpnnifjiaaDoorOp3
import Derived.Test.YthjnefpnnifjiaaDoorDir
import Derived.Laws.Cover3
import Derived.Laws.ResultCell
set_option linter.unusedVariables false
set_option linter.unusedSimpArgs false
namespace Go.Proofs.YthjnefpnnifjiaaDoor
open Go.RowKit
theorem fold_set (cs : List Value) : ∀ (k : Nat) (pre post : List Value), pre.length = k → post.length = cs.length →
    (cs.zipIdx k).foldl (fun (A : Array Value) (x : Value × Nat) => A.setIfInBounds (0 + x.2) x.1) (pre ++ post).toArray = (pre ++ cs).toArray := by
  induction cs with
  | nil => intro k pre post _ hp; simp at hp; simp [hp]
  | cons v l ih =>
    intro k pre post hk hp
    cases post with
    | nil => simp at hp
    | cons p post =>
      have := ih (k + 1) (pre ++ [v]) post (by simp [hk]) (by simpa using hp)
      subst hk
      simp only [List.zipIdx_cons, List.foldl_cons]
      have e : (pre ++ p :: post).toArray.setIfInBounds (0 + pre.length) v = (pre ++ [v] ++ post).toArray := by simp
      rw [e, this]
      simp
section
variable {P : Program} {Q : Exit → Act → World → Prop} {a : Act} {W w : World} {o : Oper} {K : Act → World → Prop} {L : List HP}
theorem op_lit_agg1 (hs : Sat W w L) {t e : TypeId} {x : Operand} (ho : o.op = .buildSlice t 1 #[(0, x)]) (ht : P.underlying t = some (.slice e)) {z : Value} {sz bytes : Nat} (hinfo : (P.info? e).map (fun i => (i.zero, i.size, i.bytes)) = some (some z, sz, bytes))
    (cs : List Value) (hx : a.eval x = .agg cs.toArray) (hcs : cs.length = sz) (h0 : 0 < sz) (hn : sz ≤ 16777216)
    (h : ∀ b w', Sat W w' (row b cs e :: L) → K (a.put o.dst (.slice (some ⟨b, 0, none⟩) 1 1)) w') : o.wp P a w K Q := by
  refine op_lit hs ho ht hinfo cs (by omega) ?_ h
  have h1 : ¬ (1 * sz = 0) := by omega
  rw [if_neg h1]
  have e0 : (Array.map (fun x => match x with | (i, x) => (i, a.eval x)) #[(0, x)]).toList = [(0, Value.agg cs.toArray)] := by simp [hx]
  rw [e0]
  generalize hI : ((Array.range (1 * sz)).map (z.cells[· % z.cells.size]!)) = init
  have hsize : init.size = cs.length := by rw [← hI]; simp [hcs]
  clear hI
  simp only [Instr.fill, Value.cells, Nat.zero_mul]
  have hc : ¬ (cs.toArray.size ≠ sz ∨ 0 + cs.toArray.size > init.size) := by simp [hcs, hsize]
  rw [if_neg (by simpa using hc)]
  have := fold_set cs 0 [] init.toList rfl (by simpa using hsize)
  have e1 : cs.toArray.zipIdx = (cs.zipIdx 0).toArray := by simp
  rw [e1, List.foldl_toArray']
  · simpa using this
  · simp
theorem run_zero {T : TypeId} {z : Value} (h : (P.info? T).bind (·.zero) = some z) (w : World) : (zeroValue T).run P w = .ok z w := by
  cases hi : P.info? T with
  | none => simp [hi] at h
  | some i =>
    have hz : i.zero = some z := by simpa [hi] using h
    simp only [zeroValue, typeInfo, Sem.run_bind, run_program, hi, Sem.run_pure, Result.andThen_ok, hz]
theorem op_copy_bytes (hs : Sat W w L) {t t' e : TypeId} {d x : Operand} (ho : o.op = .call { callee := .builtin .copy, args := #[d, x], argTypes := #[t, t'] })
    (ht : P.underlying t = some (.slice e)) (hsz : (P.info? e).map (·.size) = some 1) {b i n cap : Nat} (hd : a.eval d = .slice (some ⟨b, i, none⟩) n cap)
    {k : Nat} {l : List Value} {T : TypeId} (hk : L[k]? = some (row b l T)) (hil : i + n ≤ l.length) {y : Value} {xs : List UInt8} (hy : a.eval x = y)
    (hx : Has L (bytesAt y xs)) (hxn : xs.length ≤ n)
    (h : ∀ w', Sat W w' (L.set k (row b (l.take i ++ u8s xs ++ l.drop (i + xs.length)) T)) → K (a.put o.dst (.int .i64 xs.length)) w') : o.wp P a w K Q := by
  have hb := hs.bytes hx
  have hm : Nat.min xs.length n = xs.length := Nat.min_eq_left hxn
  refine op_copy hs ho ht hsz hd hk hil hy (run_lenOf hb) (xs := u8s xs) ?_ (by simp [hm]) (fun c hc => by simp only [u8s, List.mem_map] at hc; obtain ⟨_, _, rfl⟩ := hc; rfl) (fun w' hw => by
    have := h w' (by simpa using hw)
    simpa using this)
  rw [hm]
  have := take_sliceAt (P := P) hb xs.length (Nat.le_refl _) w rfl
  rw [this, List.take_of_length_le (by simp)]
end
section
variable {P : Program} {ops : Array Oper} {Q : Exit → Act → World → Prop} {S : World → Prop}
theorem tree_load_agg {i : Nat} {t : DTree} {o : Oper} {a : Act} {w : World} {T : TypeId} {x : Operand} {b j : Nat} (cs : List Value) (ho : ops[i]? = some o) (hw : Region.wanted o (yielded ops a.tmps) = true) (hop : o.op = .load T x) (hx : a.eval x = .pointer (some ⟨b, j, none⟩)) (hd : ((P.underlying T).map TypeDesc.isRow) = some true) (hi : (P.info? T).map (·.size) = some cs.length) (hc : ∀ w, S w → w.rangeAt b j cs)
    (h : wpTree P ops Q S t (a.put o.dst (.agg cs.toArray)) w) : wpTree P ops Q S (.take i t) a w := by
  cases hu : P.underlying T with
  | none => simp [hu] at hd
  | some d =>
    refine tree_take_val ho hw (fun w hC => ?_) h
    simp only [execOp, hop, hx, Sem.run_bind, run_loadAt_mid w b j T cs d (hc w hC) hu (by simpa [hu] using hd) hi, Result.andThen_ok, Sem.run_pure]
end
section
variable {P : Program} {Q : Exit → Act → World → Prop} {a : Act} {W w : World} {o : Oper} {K : Act → World → Prop} {L : List HP}
theorem own_back {W w : World} {L : List HP} {k : Nat} {b n cap sz : Nat} {e : TypeId} {vs sp : List Value} (hlt : k < L.length) (hs : Sat W w (L.set k (row b (vs ++ sp) e))) (hl : vs.length = n * sz) (hc : n ≤ cap) (hm : cap ≤ 9223372036854775807) (hsp : sp.length = (cap - n) * sz) : Sat W w (L.set k (own (.slice (some ⟨b, 0, none⟩) n cap) e n sz vs)) := by
  have := hs.sub (i := k) (by rw [List.getElem?_set_self hlt]) (own_row (n := n) (cap := cap) (sz := sz) hl hc hm hsp)
  rw [List.set_set] at this
  exact this
/-- Several cells stored into an owned slice. -/
theorem op_store_own (hs : Sat W w L) {T : TypeId} {x y : Operand} (ho : o.op = .store T x y) {b i n cap sz : Nat} {e : TypeId} {vs : List Value} (k : Nat) (hk : L[k]? = some (own (.slice (some ⟨b, 0, none⟩) n cap) e n sz vs)) (hn : 0 < n) (hx : a.eval x = .pointer (some ⟨b, i, none⟩)) (cs : List Value) (hy : a.eval y = .agg cs.toArray) (hv : ∀ v ∈ cs, v.oneCell' = true)
    (hsz : (P.info? T).map (·.size) = some cs.length) (hi : i + cs.length ≤ vs.length) (vs' : List Value) (hvs : vs.take i ++ cs ++ vs.drop (i + cs.length) = vs')
    (h : ∀ w', Sat W w' (L.set k (own (.slice (some ⟨b, 0, none⟩) n cap) e n sz vs')) → K (a.put o.dst undef) w') : o.wp P a w K Q := by
  have hlt : k < L.length := (List.getElem?_eq_some_iff.1 hk).1
  have hvl : vs.length = n * sz := (hs.slice (Has.mem (List.mem_of_getElem? hk) own_sliceAt)).1
  obtain ⟨b', cap', sp, e1, h1, h2, h3, h4⟩ := hs.ownOpen hk hn
  cases e1
  refine op_store_agg h4 ho hx cs hy hv hsz (k := k) (by rw [List.getElem?_set_self hlt]) (by rw [List.length_append]; omega) fun w' hw => ?_
  rw [List.set_set, List.take_append_of_le_length (by omega), List.drop_append_of_le_length (by omega), ← List.append_assoc, hvs] at hw
  refine h w' (own_back hlt hw ?_ h1 h2 h3)
  rw [← hvs, List.length_append, List.length_append, List.length_take, List.length_drop, Nat.min_eq_left (by omega)]
  omega
/-- One cell stored into an owned slice. -/
theorem op_store_own1 (hs : Sat W w L) {T : TypeId} {x y : Operand} (ho : o.op = .store T x y) {b i n cap sz : Nat} {e : TypeId} {vs : List Value} (k : Nat) (hk : L[k]? = some (own (.slice (some ⟨b, 0, none⟩) n cap) e n sz vs)) (hn : 0 < n) (hx : a.eval x = .pointer (some ⟨b, i, none⟩)) (v : Value) (hy : a.eval y = v) (hv : v.oneCell' = true)
    (hsz : (P.info? T).map (·.size) = some 1) (hi : i < vs.length)
    (h : ∀ w', Sat W w' (L.set k (own (.slice (some ⟨b, 0, none⟩) n cap) e n sz (vs.set i v))) → K (a.put o.dst undef) w') : o.wp P a w K Q := by
  have hlt : k < L.length := (List.getElem?_eq_some_iff.1 hk).1
  have hvl : vs.length = n * sz := (hs.slice (Has.mem (List.mem_of_getElem? hk) own_sliceAt)).1
  obtain ⟨b', cap', sp, e1, h1, h2, h3, h4⟩ := hs.ownOpen hk hn
  cases e1
  refine op_store h4 ho hx hy hv hsz (k := k) (by rw [List.getElem?_set_self hlt]) (by rw [List.length_append]; omega) fun w' hw => ?_
  rw [List.set_set, List.set_append_left _ _ hi] at hw
  exact h w' (own_back hlt hw (by rw [List.length_set]; exact hvl) h1 h2 h3)
end
theorem run_eql_nil {P : Program} {t e : TypeId} (h : P.underlying t = some (.slice e)) (a : Option Addr) (l c : Nat) (w : World) : (binOp .eql t (.slice a l c) (.slice none 0 0)).run P w = .ok (.bool a.isNone) w := by
  simp only [binOp]
  simp [run_equal_slice_nil w t e a l c h]
theorem Sat.keep {W w : World} {L M : List HP} (h : Sat W w M) (hs : L.Sublist M) : Sat W w L := by
  obtain ⟨R, hR⟩ := hs.exists_perm_append
  exact Sat.weaken (L' := R) (h.perm (hR.trans List.perm_append_comm))
theorem run_results_cell_tmp {P : Program} {w : World} {fn : Func} {p u : Tmp} {ty : TypeId} (h : fn.results = #[.cell p ty, .tmp u]) {tmps : Array Value} {b : Nat} (hp : tmps.getD p undef = .pointer (some ⟨b, 0, none⟩)) (cs : List Value) (hc : w.rangeAt b 0 cs)
    (hd : ((P.underlying ty).map TypeDesc.isRow) = some true) (hi : (P.info? ty).map (·.size) = some cs.length) : (results fn tmps).run P w = .ok (.tuple #[.agg cs.toArray, tmps.getD u undef]) w := by
  cases hu : P.underlying ty with
  | none => simp [hu] at hd
  | some d =>
    rw [results_cell_tmp h, hp]
    simp only [asAddr, Sem.run_pure, Result.andThen_ok, run_loadVar_mid w b 0 ty cs d hc hu (by simpa [hu] using hd) hi]
theorem class_const {S : World → Prop} {w : World} (h : S w) (p : Prop) : (∀ w, S w → p) = p := propext ⟨fun k => k w h, fun k _ _ => k⟩
theorem lit_slice {L : List HP} {b : Nat} {cs : List Value} {t : TypeId} (i : Nat) (hm : L[i]? = some (row b cs t)) (n sz : Nat) (hn : cs.length = n * sz) (h : n ≤ 9223372036854775807) : Has L (sliceAt (.slice (some ⟨b, 0, none⟩) n n) n sz cs) :=
  Has.mem (List.mem_of_getElem? hm) fun F hF => own_sliceAt F (own_exact hn h F hF)
end Go.Proofs.YthjnefpnnifjiaaDoor
