/- Owned slices laid open and shut; bytes of slices, cell by cell. Plain lemmas; no program in sight. -/
import Derived.Test.YthjnefpnnifjiaaDoorOp2
set_option linter.unusedVariables false
set_option linter.unusedSimpArgs false
namespace Go.Proofs.YthjnefpnnifjiaaDoor
open Go.RowKit
theorem Sat.ownOpen {W w : World} {L : List HP} (h : Sat W w L) {i : Nat} {v : Value} {e : TypeId} {n sz : Nat} {vs : List Value} (hi : L[i]? = some (own v e n sz vs)) (hn : 0 < n) :
    ∃ b cap sp, v = .slice (some ⟨b, 0, none⟩) n cap ∧ n ≤ cap ∧ cap ≤ 9223372036854775807 ∧ sp.length = (cap - n) * sz ∧ Sat W w (L.set i (row b (vs ++ sp) e)) := by
  obtain ⟨⟨b, cap, sp⟩, ⟨h1, h2, h3, h4⟩, h5⟩ := h.openAt hi (α := Nat × Nat × List Value) (p := fun x => v = .slice (some ⟨x.1, 0, none⟩) n x.2.1 ∧ n ≤ x.2.1 ∧ x.2.1 ≤ 9223372036854775807 ∧ x.2.2.length = (x.2.1 - n) * sz) (B := fun x => row x.1 (vs ++ x.2.2) e) (by
    rintro F ⟨hl, ⟨rfl, _⟩ | ⟨b, cap, sp, rfl, hc, hm, hsp, hr⟩⟩
    · omega
    · exact ⟨(b, cap, sp), ⟨rfl, hc, hm, hsp⟩, hr⟩)
  exact ⟨b, cap, sp, h1, h2, h3, h4, h5⟩
theorem own_exact {b : Nat} {e : TypeId} {n sz : Nat} {vs : List Value} (hl : vs.length = n * sz) (hm : n ≤ 9223372036854775807) : ∀ F, row b vs e F → own (.slice (some ⟨b, 0, none⟩) n n) e n sz vs F := fun F h =>
  own_row (sp := []) hl (Nat.le_refl _) hm (by simp) F (by rw [List.append_nil]; exact h)
theorem bytes_row {L : List HP} {b : Nat} {l : List UInt8} {sp : List Value} {t : TypeId} {cap : Nat} (hm : row b (u8s l ++ sp) t ∈ L) (hc : l.length ≤ cap) (h : cap ≤ 9223372036854775807) : Has L (bytesAt (.slice (some ⟨b, 0, none⟩) l.length cap) l) :=
  Has.mem hm fun F hF => ⟨by simp, _, cap, rfl, hc, h, .inr ⟨b, 0, rfl, cellsAt_row (fun j v hv => by
    obtain ⟨hlt, _⟩ := List.getElem?_eq_some_iff.1 hv
    rw [Nat.zero_add, List.getElem?_append_left hlt]; exact hv) F hF⟩⟩
theorem bytes_at {W w : World} {L : List HP} (hs : Sat W w L) {v : Value} {l : List UInt8} (hv : Has L (bytesAt v l)) (h0 : 0 < l.length) : ∃ b o cap, v = .slice (some ⟨b, o, none⟩) l.length cap ∧ l.length ≤ cap ∧ cap ≤ 9223372036854775807 ∧ ∀ i (h : i < l.length), w.cell? ⟨b, o + i, none⟩ = some (.int .u8 l[i].toNat) := by
  obtain ⟨_, A, cap, rfl, h1, h2, h3 | ⟨b, o, rfl, hc⟩⟩ := hs.bytes hv
  · rw [show l = [] by simpa [u8s] using h3] at h0; simp at h0
  · exact ⟨b, o, cap, rfl, h1, h2, fun i h => cellsAt_world hc i _ (by simp [u8s, h])⟩
theorem bytes_cell {W w : World} {L : List HP} (hs : Sat W w L) {b o n cap : Nat} {l : List UInt8} (hv : Has L (bytesAt (.slice (some ⟨b, o, none⟩) n cap) l)) (i : Nat) (h : i < l.length) : w.cell? ⟨b, o + i, none⟩ = some (.int .u8 l[i].toNat) := by
  obtain ⟨b', o', cap', e, _, _, hc⟩ := bytes_at hs hv (by omega)
  cases e
  exact hc i h
theorem u8s_set (l : List UInt8) (i : Nat) (x : UInt8) : (u8s l).set i (.int .u8 x.toNat) = u8s (l.set i x) := by simp [u8s, List.map_set]
theorem u8s_cell (l : List UInt8) (i : Nat) (h : i < l.length) : (u8s l)[i]? = some (.int .u8 l[i].toNat) := by simp [u8s, h]
theorem u8s_set_app (l : List UInt8) (sp : List Value) (i : Nat) (x : UInt8) (h : i < l.length) : (u8s l ++ sp).set i (.int .u8 x.toNat) = u8s (l.set i x) ++ sp := by
  rw [List.set_append_left _ _ (by simpa using h), u8s_set]
theorem u8s_cell_app (l : List UInt8) (sp : List Value) (i : Nat) (h : i < l.length) : (u8s l ++ sp)[i]? = some (.int .u8 l[i].toNat) := by
  rw [List.getElem?_append_left (by simpa using h), u8s_cell l i h]
theorem slice_nil {L : List HP} (A : Option Addr) (sz : Nat) (h : Has L fun _ => True) : Has L (sliceAt (.slice A 0 0) 0 sz []) := h.imp fun F _ => ⟨by simp, A, 0, rfl, Nat.le_refl _, by omega, .inl rfl⟩
theorem lit_bytes {L : List HP} {b : Nat} {l : List UInt8} {t : TypeId} (i : Nat) (hm : L[i]? = some (row b (u8s l) t)) (n : Nat) (hn : l.length = n) (h : n ≤ 9223372036854775807) : Has L (bytesAt (.slice (some ⟨b, 0, none⟩) n n) l) := by
  subst hn
  exact bytes_row (sp := []) (by rw [List.append_nil]; exact List.mem_of_getElem? hm) (Nat.le_refl _) h
theorem own_bytes {L : List HP} {v : Value} {l : List UInt8} {e : TypeId} {n : Nat} {vs : List Value} (i : Nat) (hm : L[i]? = some (own v e n 1 vs)) (hn : n = l.length) (hv : vs = u8s l) : Has L (bytesAt v l) := by
  subst hn hv
  exact Has.mem (List.mem_of_getElem? hm) own_sliceAt
section
variable {P : Program} {ops : Array Oper} {C : World → Prop} {Qa : Act → Prop} {rest : List Oper} {o : Oper} {a : Act}
/-- A step whose guard bars it. -/
theorem quiet_skip (hw : Region.wanted o (yielded ops a.tmps) = false) (h : wpQuiet P ops C Qa rest (a.put o.dst undef)) : wpQuiet P ops C Qa (o :: rest) a :=
  wpQuiet_step (fun K hK => by rw [if_neg (by simp [hw])]; exact hK _ h)
end
section
variable {P : Program} {Q : Exit → Act → World → Prop} {a : Act} {W w : World} {o : Oper} {K : Act → World → Prop} {L : List HP}
/-- make of elements of several cells. -/
theorem op_make_agg (hs : Sat W w L) {t e : TypeId} {xl xc : Operand} (ho : o.op = .makeSlice t xl xc) (ht : P.underlying t = some (.slice e)) {kl kc : IntKind} {n c : Nat} (hl : a.eval xl = .int kl n) (hc : a.eval xc = .int kc c)
    {z : Value} {sz bytes : Nat} (hinfo : (P.info? e).map (fun i => (i.zero, i.size, i.bytes)) = some (some z, sz, bytes)) (zs : List Value) (hz : z.cells = zs.toArray) (hzs : zs.length = sz) (hsz : 0 < sz) (hlc : n ≤ c) (hb : bytes * c ≤ 281474976710656) (h63 : c ≤ 9223372036854775807)
    (l : List Value) (hll : l.length = c * sz) (hlg : ∀ j, j < c * sz → l[j]? = zs[j % sz]?)
    (h : ∀ b w', Sat W w' (row b l e :: L) → K (a.put o.dst (.slice (some ⟨b, 0, none⟩) n c)) w') : o.wp P a w K Q := by
  obtain ⟨i, hi, h1, rfl, h3⟩ := info_of hinfo
  have hr := run_make (P := P) w t e i z ht hi h1 kl kc n c (by omega) (by omega) (by rw [h3]; omega) (by omega)
  have hcells : madeCells z.cells ((c : Int).toNat * i.size) = l.toArray := by
    rw [hz, Int.toNat_natCast]
    apply Array.ext
    · simp [size_madeCells, hll]
    · intro j h1 h2
      have hj : j < c * i.size := by simpa [size_madeCells] using h1
      have hm : j % i.size < zs.length := by rw [hzs]; exact Nat.mod_lt _ hsz
      have := hlg j hj
      rw [List.getElem?_eq_getElem (by omega), List.getElem?_eq_getElem hm] at this
      simp only [Option.some.injEq] at this
      simp [madeCells, hzs, this]
      rw [List.getElem?_eq_getElem hm]; rfl
  have hrun : (execOp a.eval o).run P w = .ok (.value (.slice (some ⟨w.heap.size, 0, none⟩) n c)) (w.alloc (.cells l.toArray e)) := by
    rw [hcells] at hr
    simp only [execOp, ho, hl, hc, Sem.run_bind, hr, Result.andThen_ok, Sem.run_pure, Int.toNat_natCast]
  unfold Oper.wp
  rw [hrun]
  exact h _ _ (hs.allocRow _ _)
end
end Go.Proofs.YthjnefpnnifjiaaDoor
