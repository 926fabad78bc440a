/- Frames in the heap: a slice of them, and their bodies. -/
import Derived.Test.YtimknlabhhopcaaCutP
import Derived.Test.YtimknlabhhopcaaFrW
set_option linter.unusedVariables false
set_option linter.unusedSimpArgs false
namespace Go.Proofs.Ytimknlabhhopcaa
open Go.RowKit
def bods (l : List (Fr × Value)) : HP := st (l.map fun x => bytesH x.2 x.1.body)
def frsCells (l : List (Fr × Value)) : List Value := l.flatMap fun x => frCells x.1 x.2
@[simp] theorem frCells_length (f : Fr) (v : Value) : (frCells f v).length = 4 := rfl
theorem frsCells_length (l : List (Fr × Value)) : (frsCells l).length = l.length * 4 := by
  induction l with
  | nil => rfl
  | cons x l ih => simp only [frsCells, List.flatMap_cons, List.length_append, List.length_cons] at ih ⊢; rw [ih]; simp; omega
theorem frsCells_snoc (l : List (Fr × Value)) (x : Fr × Value) : frsCells (l ++ [x]) = frsCells l ++ frCells x.1 x.2 := by simp [frsCells]
theorem frsCells_get (l : List (Fr × Value)) (i : Nat) (h : i < l.length) (j : Nat) (hj : j < 4) : (frsCells l)[i * 4 + j]? = (frCells l[i].1 l[i].2)[j]? := by
  induction l generalizing i with
  | nil => simp at h
  | cons x l ih =>
    simp only [frsCells, List.flatMap_cons]
    cases i with
    | zero => rw [List.getElem?_append_left (by simp; omega)]; simp
    | succ i =>
      rw [List.getElem?_append_right (by simp; omega)]
      have e : (i + 1) * 4 + j - (frCells x.1 x.2).length = i * 4 + j := by simp; omega
      rw [e]
      exact ih i (by simpa using h)
theorem frsCells_set (l : List (Fr × Value)) (i : Nat) (h : i < l.length) (x : UInt8) : (frsCells l).set (i * 4 + 2) (.int .u8 ((l[i].1.flag ||| x).toNat : Nat)) = frsCells (l.modify i fun y => (y.1.or x, y.2)) := by
  induction l generalizing i with
  | nil => simp at h
  | cons y l ih =>
    cases i with
    | zero => simp [frsCells, frCells, Fr.or, List.modify]
    | succ i =>
      have hi : i < l.length := by simpa using h
      have e : (frsCells (y :: l)).set ((i + 1) * 4 + 2) (.int .u8 (((y :: l)[i + 1].1.flag ||| x).toNat : Nat)) = frCells y.1 y.2 ++ (frsCells l).set (i * 4 + 2) (.int .u8 ((l[i].1.flag ||| x).toNat : Nat)) := by
        simp only [frsCells, List.flatMap_cons, List.getElem_cons_succ]
        rw [List.set_append_right _ _ (by simp; omega)]
        have : (i + 1) * 4 + 2 - (frCells y.1 y.2).length = i * 4 + 2 := by simp; omega
        rw [this]
      rw [e, ih i hi]
      simp [frsCells]
theorem bods_modify (l : List (Fr × Value)) (i : Nat) (x : UInt8) : bods (l.modify i fun y => (y.1.or x, y.2)) = bods l := by
  have : (l.modify i fun y => (y.1.or x, y.2)).map (fun y => bytesH y.2 y.1.body) = l.map fun y => bytesH y.2 y.1.body := by
    apply List.ext_getElem?
    intro j
    simp only [List.getElem?_map, List.getElem?_modify]
    cases l[j]? with
    | none => simp
    | some y => by_cases h : i = j <;> simp [h, Fr.or]
  simp [bods, this]
theorem map_modify_fst (l : List (Fr × Value)) (i : Nat) (x : UInt8) : (l.modify i fun y => (y.1.or x, y.2)).map (·.1) = (l.map (·.1)).modify i (·.or x) := by
  apply List.ext_getElem?
  intro j
  simp only [List.getElem?_map, List.getElem?_modify]
  cases l[j]? with
  | none => simp
  | some y => by_cases h : i = j <;> simp [h]
theorem Sat.bods_snoc {W w : World} {L : List HP} {v : Value} {f : Fr} {l : List (Fr × Value)} (h : Sat W w (bytesH v f.body :: bods l :: L)) : Sat W w (bods (l ++ [(f, v)]) :: L) := by
  refine Sat.shut (L' := [bytesH v f.body, bods l]) h fun F hF => ?_
  obtain ⟨F1, F2, hd, rfl, h1, F3, F4, hd2, rfl, h3, h4⟩ := hF
  cases h4
  unfold bods
  rw [List.map_append]
  have hd' := PH.dj_or.1 hd
  rw [PH.or_emp]
  exact st_append.2 ⟨F3, F1, PH.dj_comm (by have := hd'.1; exact this), by rw [PH.or_comm]; exact hd'.1, h3, F1, PH.emp, PH.dj_emp _, (PH.or_emp _).symm, h1, rfl⟩
theorem Sat.bods_nil {W w : World} {L : List HP} (h : Sat W w L) : Sat W w (bods [] :: L) := by
  obtain ⟨h1, h2, h3, F, hF, hw⟩ := h
  exact ⟨h1, h2, h3, F, ⟨PH.emp, F, PH.dj_comm (PH.dj_emp F), rfl, rfl, hF⟩, hw⟩
theorem bods_has {l : List (Fr × Value)} {i : Nat} (h : i < l.length) : ∀ F, bods l F → bytesAt l[i].2 l[i].1.body F := fun F hF => by
  have hm : bytesH l[i].2 l[i].1.body ∈ l.map fun x => bytesH x.2 x.1.body := List.mem_map.2 ⟨l[i], List.getElem_mem h, rfl⟩
  obtain ⟨G, hG, hle⟩ := st_mem hm hF
  exact bytesAt_mono _ _ hle hG
theorem own_cell {W w : World} {L : List HP} (hs : Sat W w L) {b n cap sz j : Nat} {e : TypeId} {vs : List Value} {v : Value} (hm : own (.slice (some ⟨b, 0, none⟩) n cap) e n sz vs ∈ L) (hv : vs[j]? = some v) : w.cell? ⟨b, j, none⟩ = some v := by
  obtain ⟨_, A, c, e1, _, _, h0 | ⟨b', o', e2, hc⟩⟩ := hs.slice (Has.mem hm own_sliceAt)
  · subst h0; simp at hv
  · cases e1
    cases e2
    have := cellsAt_world hc j v hv
    rwa [Nat.zero_add] at this
theorem or_u8 (x y : UInt8) : bits .or .u8 (x.toNat : Int) (y.toNat : Int) = (((x ||| y).toNat : Nat) : Int) := by
  have := (bits_nat .u8 8 (by decide) wraps_u8 x.toNat y.toNat x.toNat_lt y.toNat_lt).2
  rw [this, UInt8.toNat_or]
theorem info_frame : (Try.prog.info? 110).map (fun i => (i.zero, i.size, i.bytes)) = some (some (.agg #[Value.int .u32 0, .int .u32 0, .int .u8 0, .slice none 0 0]), 4, 40) := by kernel_rfl
end Go.Proofs.Ytimknlabhhopcaa
