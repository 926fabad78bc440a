/- A small separation logic over the model's heap: lists of assertions, each on blocks of its own; the world's other parts as they were. Plain definitions and theorems; no program in sight but its name. -/
import Derived.Test.YthjnefpnnifjiaaDoorProg
import Derived.WalkKit
import Derived.Deep.MidRow
import Derived.Deep.Quiet
import Derived.Deep.QuietTactic
import Derived.Deep.LoopGhost
import Derived.BigQuiet
import Derived.KernelRfl
set_option linter.unusedVariables false
set_option linter.unusedSimpArgs false
namespace Go.Proofs.YthjnefpnnifjiaaDoor
open Go.RowKit

/-- A fact that the walk's simp doesn't look into. -/
structure Box (p : Prop) : Prop where mk :: (out : p)

/-! ### 1. Parts of a heap, and assertions on them -/
/-- A part of a heap. -/
def PH := Nat → Option Obj
/-- What is said of a part of a heap. -/
def HP := PH → Prop
def PH.or (F G : PH) : PH := fun b => match F b with | some o => some o | none => G b
def PH.dj (F G : PH) : Prop := ∀ b, F b = none ∨ G b = none
def PH.emp : PH := fun _ => none
theorem PH.or_emp (F : PH) : F.or PH.emp = F := by funext b; simp only [PH.or, PH.emp]; cases F b <;> rfl
theorem PH.emp_or (F : PH) : PH.emp.or F = F := rfl
theorem PH.or_comm {F G : PH} (h : F.dj G) : F.or G = G.or F := by
  funext b; simp only [PH.or]; rcases h b with h | h <;> rw [h]
  · cases G b <;> rfl
  · cases F b <;> rfl
theorem PH.or_assoc (F G H : PH) : (F.or G).or H = F.or (G.or H) := by
  funext b; simp only [PH.or]; cases F b <;> rfl
theorem PH.dj_comm {F G : PH} (h : F.dj G) : G.dj F := fun b => (h b).symm
theorem PH.dj_or {F G H : PH} : F.dj (G.or H) ↔ F.dj G ∧ F.dj H := by
  constructor
  · intro h
    refine ⟨fun b => ?_, fun b => ?_⟩ <;> rcases h b with h | h
    · exact .inl h
    · simp only [PH.or] at h; cases hg : G b <;> simp_all
    · exact .inl h
    · simp only [PH.or] at h; cases hg : G b <;> simp_all
  · intro ⟨h1, h2⟩ b
    rcases h1 b with h1 | h1
    · exact .inl h1
    · rcases h2 b with h2 | h2
      · exact .inl h2
      · right; simp only [PH.or, h1, h2]
theorem PH.or_dj {F G H : PH} : (F.or G).dj H ↔ F.dj H ∧ G.dj H := by
  constructor
  · intro h; have := PH.dj_or.1 (PH.dj_comm h); exact ⟨PH.dj_comm this.1, PH.dj_comm this.2⟩
  · intro ⟨h1, h2⟩; exact PH.dj_comm (PH.dj_or.2 ⟨PH.dj_comm h1, PH.dj_comm h2⟩)
theorem PH.dj_emp (F : PH) : F.dj PH.emp := fun _ => .inr rfl
/-- One part lies in another. -/
def PH.le (F G : PH) : Prop := ∀ b o, F b = some o → G b = some o
theorem PH.le_refl (F : PH) : F.le F := fun _ _ h => h
theorem PH.le_trans {F G H : PH} (h : F.le G) (k : G.le H) : F.le H := fun b o e => k b o (h b o e)
theorem PH.le_or_left (F G : PH) : F.le (F.or G) := fun b o h => by simp only [PH.or, h]
theorem PH.le_or_right {F G : PH} (h : F.dj G) : G.le (F.or G) := fun b o e => by
  rcases h b with h | h
  · simp only [PH.or, h, e]
  · rw [h] at e; cases e
/-- A list of assertions, each on a part of its own. -/
def st : List HP → HP
  | [] => fun F => F = PH.emp
  | A :: L => fun F => ∃ F1 F2, F1.dj F2 ∧ F = F1.or F2 ∧ A F1 ∧ st L F2
/-- One block. -/
def one (b : Nat) (o : Obj) : PH := fun c => if c = b then some o else none
def blk (b : Nat) (o : Obj) : HP := fun F => F = one b o
/-- A block of cells that may be written: its cells as a list. -/
def row (b : Nat) (l : List Value) (t : TypeId) : HP := fun F => ∃ fr : Nat × Nat, (fr.1 = fr.2 ∨ l.length ≤ fr.1) ∧ F = one b (.cells l.toArray t fr)
/-- All that a world had. -/
def old (W : World) : HP := fun F => F = fun b => W.heap[b]?
/-- Several assertions as one. -/
def sep (L : List HP) : HP := st L
/-- A fact beside an assertion. -/
def pur (p : Prop) : HP := fun F => F = PH.emp ∧ p
/-- Something of which an assertion holds. -/
def ex {α : Type} (A : α → HP) : HP := fun F => ∃ x, A x F

/-! The places of a list. -/
theorem m0 {α : Type} {A : α} {L : List α} : A ∈ A :: L := by simp
theorem m1 {α : Type} {A X0 : α} {L : List α} : A ∈ X0 :: A :: L := by simp
theorem m2 {α : Type} {A X0 X1 : α} {L : List α} : A ∈ X0 :: X1 :: A :: L := by simp
theorem m3 {α : Type} {A X0 X1 X2 : α} {L : List α} : A ∈ X0 :: X1 :: X2 :: A :: L := by simp
theorem m4 {α : Type} {A X0 X1 X2 X3 : α} {L : List α} : A ∈ X0 :: X1 :: X2 :: X3 :: A :: L := by simp
theorem m5 {α : Type} {A X0 X1 X2 X3 X4 : α} {L : List α} : A ∈ X0 :: X1 :: X2 :: X3 :: X4 :: A :: L := by simp
theorem m6 {α : Type} {A X0 X1 X2 X3 X4 X5 : α} {L : List α} : A ∈ X0 :: X1 :: X2 :: X3 :: X4 :: X5 :: A :: L := by simp
theorem m7 {α : Type} {A X0 X1 X2 X3 X4 X5 X6 : α} {L : List α} : A ∈ X0 :: X1 :: X2 :: X3 :: X4 :: X5 :: X6 :: A :: L := by simp
theorem st_nil {F : PH} : st [] F ↔ F = PH.emp := Iff.rfl
theorem st_append {L M : List HP} : ∀ {F : PH}, st (L ++ M) F ↔ ∃ F1 F2, F1.dj F2 ∧ F = F1.or F2 ∧ st L F1 ∧ st M F2 := by
  induction L with
  | nil =>
    intro F
    refine ⟨fun h => ⟨PH.emp, F, PH.dj_comm (PH.dj_emp F), rfl, rfl, h⟩, ?_⟩
    rintro ⟨F1, F2, _, rfl, h1, h2⟩
    cases h1; exact h2
  | cons A L ih =>
    intro F
    constructor
    · rintro ⟨F1, F2, hd, rfl, ha, hr⟩
      obtain ⟨G1, G2, gd, rfl, h1, h2⟩ := ih.1 hr
      have hd' := PH.dj_or.1 hd
      exact ⟨F1.or G1, G2, PH.or_dj.2 ⟨hd'.2, gd⟩, (PH.or_assoc ..).symm, ⟨F1, G1, hd'.1, rfl, ha, h1⟩, h2⟩
    · rintro ⟨G1, G2, gd, rfl, ⟨F1, F2, hd, rfl, ha, hr⟩, h2⟩
      have gd' := PH.or_dj.1 gd
      exact ⟨F1, F2.or G2, PH.dj_or.2 ⟨hd, gd'.1⟩, PH.or_assoc .., ha, ih.2 ⟨F2, G2, gd'.2, rfl, hr, h2⟩⟩
theorem st_perm {L M : List HP} (h : L.Perm M) : ∀ {F : PH}, st L F → st M F := by
  induction h with
  | nil => intro F h; exact h
  | cons A _ ih =>
    rintro F ⟨F1, F2, hd, rfl, ha, hr⟩
    exact ⟨F1, F2, hd, rfl, ha, ih hr⟩
  | swap A B L =>
    rintro F ⟨F1, F2, hd, rfl, ha, G1, G2, gd, rfl, hb, hr⟩
    have hd' := PH.dj_or.1 hd
    refine ⟨G1, F1.or G2, PH.dj_or.2 ⟨PH.dj_comm hd'.1, gd⟩, ?_, hb, F1, G2, hd'.2, rfl, ha, hr⟩
    rw [← PH.or_assoc, ← PH.or_assoc, PH.or_comm hd'.1]
  | trans _ _ ih1 ih2 => intro F h; exact ih2 (ih1 h)
theorem st_mem {L : List HP} {A : HP} (h : A ∈ L) : ∀ {F : PH}, st L F → ∃ G, A G ∧ G.le F := by
  induction L with
  | nil => cases h
  | cons B L ih =>
    rintro F ⟨F1, F2, hd, rfl, ha, hr⟩
    rcases List.mem_cons.1 h with rfl | h
    · exact ⟨F1, ha, PH.le_or_left _ _⟩
    · obtain ⟨G, hG, hle⟩ := ih h hr
      exact ⟨G, hG, PH.le_trans hle (PH.le_or_right hd)⟩
theorem set_same {α : Type} {L : List α} {i : Nat} {A : α} (h : L[i]? = some A) : L.set i A = L := by
  obtain ⟨hlt, rfl⟩ := List.getElem?_eq_some_iff.1 h
  exact List.set_getElem_self hlt
theorem get_set {α : Type} {L : List α} {i : Nat} {A B : α} (h : L[i]? = some A) : (L.set i B)[i]? = some B := by
  obtain ⟨hlt, _⟩ := List.getElem?_eq_some_iff.1 h
  simp [List.getElem?_set, hlt]
/-- The assertion in place i is another one, of the same part or of one that lies apart from the rest. -/
theorem st_set {A : HP} : ∀ {L : List HP} {i : Nat} (_ : L[i]? = some A) {F : PH}, st L F → ∃ G R, G.dj R ∧ F = G.or R ∧ A G ∧ ∀ (B : HP) G', B G' → G'.dj R → st (L.set i B) (G'.or R)
  | [], i, h, F, _ => by simp at h
  | C :: L, 0, h, F, hF => by
    obtain ⟨F1, F2, hd, rfl, ha, hr⟩ := hF
    have : C = A := by simpa using h
    subst this
    exact ⟨F1, F2, hd, rfl, ha, fun B G' hb hg => ⟨G', F2, hg, rfl, hb, hr⟩⟩
  | C :: L, i + 1, h, F, hF => by
    obtain ⟨F1, F2, hd, rfl, ha, hr⟩ := hF
    obtain ⟨G, R, gd, rfl, hA, hB⟩ := st_set (by simpa using h) hr
    have hd' := PH.dj_or.1 hd
    refine ⟨G, F1.or R, PH.dj_or.2 ⟨PH.dj_comm hd'.1, gd⟩, ?_, hA, fun B G' hb hg => ?_⟩
    · rw [← PH.or_assoc, ← PH.or_assoc, PH.or_comm hd'.1]
    · have hg' := PH.dj_or.1 hg
      refine ⟨F1, G'.or R, PH.dj_or.2 ⟨PH.dj_comm hg'.1, hd'.2⟩, ?_, ha, hB B G' hb hg'.2⟩
      rw [← PH.or_assoc, ← PH.or_assoc, PH.or_comm hg'.1]

/-! ### 2. A world of which a list of assertions holds -/
structure Sat (W w : World) (L : List HP) : Prop where
  os : w.os = W.os
  tape : w.tape = W.tape
  output : w.output = W.output
  holds : ∃ F, st L F ∧ ∀ b o, F b = some o → w.heap[b]? = some o
namespace Sat
variable {W w w' : World} {L M : List HP}
theorem start (W : World) : Sat W W [old W] := ⟨rfl, rfl, rfl, (fun b => W.heap[b]?), ⟨_, PH.emp, PH.dj_emp _, (PH.or_emp _).symm, rfl, rfl⟩, fun _ _ h => h⟩
theorem perm (h : Sat W w L) (p : L.Perm M) : Sat W w M := ⟨h.os, h.tape, h.output, let ⟨F, hF, hw⟩ := h.holds; ⟨F, st_perm p hF, hw⟩⟩
theorem drew (h : Sat W w L) : Sat W w.drew L := ⟨h.os, h.tape, h.output, h.holds⟩
theorem drewN (h : Sat W w L) (n : Nat) : Sat W (w.drewN n) L := by
  refine ⟨?_, ?_, ?_, ?_⟩ <;> simp only [World.drewN] <;> first | exact h.os | exact h.tape | exact h.output | exact h.holds
theorem tail {A : HP} (h : Sat W w (A :: L)) : Sat W w L := by
  obtain ⟨h1, h2, h3, F, ⟨F1, F2, hd, rfl, _, hr⟩, hw⟩ := h
  exact ⟨h1, h2, h3, F2, hr, fun b o e => hw b o (PH.le_or_right hd b o e)⟩
theorem get {b : Nat} {o : Obj} (h : Sat W w L) (hm : blk b o ∈ L) : w.heap[b]? = some o := by
  obtain ⟨_, _, _, F, hF, hw⟩ := h
  obtain ⟨G, hG, hle⟩ := st_mem hm hF
  cases hG
  exact hw _ _ (hle b o (by simp [one]))
theorem getRow {b : Nat} {l : List Value} {t : TypeId} (h : Sat W w L) (hm : row b l t ∈ L) : ∃ fr : Nat × Nat, (fr.1 = fr.2 ∨ l.length ≤ fr.1) ∧ w.heap[b]? = some (.cells l.toArray t fr) := by
  obtain ⟨_, _, _, F, hF, hw⟩ := h
  obtain ⟨G, ⟨fr, hfr, rfl⟩, hle⟩ := st_mem hm hF
  exact ⟨fr, hfr, hw _ _ (hle b _ (by simp [one]))⟩
theorem cell {b : Nat} {l : List Value} {t : TypeId} (h : Sat W w L) (hm : row b l t ∈ L) {i : Nat} {v : Value} (hv : l[i]? = some v) : w.cell? ⟨b, i, none⟩ = some v := by
  obtain ⟨fr, _, hg⟩ := h.getRow hm
  rw [cell_of_row w b i _ t _ hg]; simpa using hv
theorem free {b : Nat} {l : List Value} {t : TypeId} (h : Sat W w L) (hm : row b l t ∈ L) {i : Nat} (hi : i < l.length) : w.frozen? ⟨b, i, none⟩ = false := by
  obtain ⟨fr, hfr, hg⟩ := h.getRow hm
  simp only [World.frozen?, hg]
  simp only [Bool.and_eq_false_iff, decide_eq_false_iff_not]
  omega
/-- A world that has all that w has. -/
theorem mono (h : Sat W w L) (ho : w'.os = w.os) (ht : w'.tape = w.tape) (hp : w'.output = w.output) (hb : ∀ (b : Nat) (o : Obj), w.heap[b]? = some o → w'.heap[b]? = some o) : Sat W w' L :=
  ⟨ho.trans h.os, ht.trans h.tape, hp.trans h.output, let ⟨F, hF, hw⟩ := h.holds; ⟨F, hF, fun b o e => hb b o (hw b o e)⟩⟩
theorem below (h : Sat W w L) (hb : Below w.heap.size w w') : Sat W w' L :=
  h.mono hb.os hb.tape hb.output fun b o e => (hb.block b (lt_of_block e)).trans e
/-- A new block, in a world that has all that w has. -/
theorem new (h : Sat W w L) (hb : Below w.heap.size w w') {b : Nat} {o : Obj} (hn : w.heap.size ≤ b) (he : w'.heap[b]? = some o) : Sat W w' (blk b o :: L) := by
  obtain ⟨h1, h2, h3, F, hF, hw⟩ := h
  refine ⟨hb.os.trans h1, hb.tape.trans h2, hb.output.trans h3, (one b o).or F, ⟨one b o, F, fun c => ?_, rfl, rfl, hF⟩, fun c p e => ?_⟩
  · by_cases hc : c = b
    · right
      subst hc
      cases hf : F c with
      | none => rfl
      | some p => have := lt_of_block (hw c p hf); omega
    · left; simp [one, hc]
  · simp only [PH.or, one] at e
    by_cases hc : c = b
    · subst hc; simp at e; subst e; exact he
    · simp [hc] at e
      have := hw c p e
      exact (hb.block c (lt_of_block this)).trans this
theorem alloc (h : Sat W w L) (o : Obj) : Sat W (w.alloc o) (blk w.heap.size o :: L) :=
  h.new ((Below.refl _ _).alloc (Nat.le_refl _) _) (Nat.le_refl _) (heap_alloc_new w o)
theorem row_of_blk {b : Nat} {l : List Value} {t : TypeId} {fr : Nat × Nat} (hfr : fr.1 = fr.2 ∨ l.length ≤ fr.1) (h : Sat W w (blk b (.cells l.toArray t fr) :: L)) : Sat W w (row b l t :: L) := by
  obtain ⟨h1, h2, h3, F, ⟨F1, F2, hd, rfl, ha, hr⟩, hw⟩ := h
  exact ⟨h1, h2, h3, _, ⟨F1, F2, hd, rfl, ⟨fr, hfr, ha⟩, hr⟩, hw⟩
theorem allocRow (h : Sat W w L) (l : List Value) (t : TypeId) : Sat W (w.alloc (.cells l.toArray t)) (row w.heap.size l t :: L) :=
  (h.alloc _).row_of_blk (.inl rfl)
/-- A row's cells are others. -/
theorem setRow (h : Sat W w L) {i b : Nat} {l : List Value} {t : TypeId} (hi : L[i]? = some (row b l t)) (l' : List Value) (hl : l'.length = l.length) : Sat W (w.setRow b l'.toArray) (L.set i (row b l' t)) := by
  obtain ⟨h1, h2, h3, F, hF, hw⟩ := h
  obtain ⟨G, R, gd, rfl, ⟨fr, hfr, rfl⟩, hB⟩ := st_set hi hF
  have hg : w.heap[b]? = some (.cells l.toArray t fr) := hw b _ (by simp [PH.or, one])
  have hR : R b = none := (gd b).resolve_left (by simp [one])
  refine ⟨h1, h2, h3, _, hB (row b l' t) _ ⟨fr, by rw [hl]; exact hfr, rfl⟩ (fun c => ?_), fun c p e => ?_⟩
  · by_cases hc : c = b
    · subst hc; exact .inr hR
    · left; simp [one, hc]
  · simp only [PH.or, one] at e
    by_cases hc : c = b
    · subst hc
      simp at e; subst e
      exact setRow_heap w c _ _ t _ hg
    · simp [hc] at e
      rw [setRow_other w b c _ hc]
      exact hw c p (by simp only [PH.or, one, if_neg hc]; exact e)
theorem setCell (h : Sat W w L) {i b : Nat} {l : List Value} {t : TypeId} (hi : L[i]? = some (row b l t)) (j : Nat) (v : Value) : Sat W (w.setCell ⟨b, j, none⟩ v) (L.set i (row b (l.set j v) t)) := by
  obtain ⟨fr, _, hg⟩ := h.getRow (List.mem_of_getElem? hi)
  rw [setCell_eq_setRow w b j _ t _ v hg]
  have := h.setRow hi (l.set j v) (by simp)
  have e : (l.toArray.setIfInBounds j v) = (l.set j v).toArray := by simp
  rw [e]; exact this
theorem setCells {b : Nat} {t : TypeId} {i : Nat} : ∀ {cs : List Value} {w : World} {L : List HP} {l : List Value} {o : Nat}, Sat W w L → L[i]? = some (row b l t) → o + cs.length ≤ l.length →
    Sat W (w.setCells b o cs) (L.set i (row b (l.take o ++ cs ++ l.drop (o + cs.length)) t))
  | [], w, L, l, o, h, hi, _ => by
    simp only [World.setCells, List.append_nil, List.length_nil, Nat.add_zero, List.take_append_drop]
    rw [set_same hi]; exact h
  | v :: cs, w, L, l, o, h, hi, hl => by
    simp only [List.length_cons] at hl
    have hlt : i < L.length := (List.getElem?_eq_some_iff.1 hi).1
    have h1 := h.setCell hi o v
    have h2 := setCells (cs := cs) (o := o + 1) h1 (get_set hi) (by simp; omega)
    rw [List.set_set] at h2
    have e : (l.set o v).take (o + 1) ++ cs ++ (l.set o v).drop (o + 1 + cs.length) = l.take o ++ (v :: cs) ++ l.drop (o + (v :: cs).length) := by
      rw [List.drop_set_of_lt (by omega), List.take_set]
      have ht : (l.take (o + 1)).set o v = l.take o ++ [v] := by
        have ho : o < l.length := by omega
        rw [List.take_succ_eq_append_getElem ho, List.set_append]
        have hm : min o l.length = o := by omega
        simp [hm]
      rw [ht]
      simp only [List.append_assoc, List.singleton_append, List.length_cons]
      rw [show o + 1 + cs.length = o + (cs.length + 1) by omega]
    rw [e] at h2
    exact h2
/-- An assertion for another that follows from it. -/
theorem sub (h : Sat W w L) {i : Nat} {A B : HP} (hi : L[i]? = some A) (hAB : ∀ F, A F → B F) : Sat W w (L.set i B) := by
  obtain ⟨h1, h2, h3, F, hF, hw⟩ := h
  obtain ⟨G, R, gd, rfl, hA, hB⟩ := st_set hi hF
  exact ⟨h1, h2, h3, _, hB B _ (hAB _ hA) gd, hw⟩
/-- The assertion in place i laid open. -/
theorem openAt (h : Sat W w L) {i : Nat} {A : HP} (hi : L[i]? = some A) {α : Type} {p : α → Prop} {B : α → HP} (hA : ∀ F, A F → ∃ x, p x ∧ B x F) : ∃ x, p x ∧ Sat W w (L.set i (B x)) := by
  obtain ⟨h1, h2, h3, F, hF, hw⟩ := h
  obtain ⟨G, R, gd, rfl, hA', hB⟩ := st_set hi hF
  obtain ⟨x, hp, hx⟩ := hA _ hA'
  exact ⟨x, hp, h1, h2, h3, _, hB (B x) _ hx gd, hw⟩
/-- The first assertion laid open. -/
theorem open_ {A : HP} {α : Type} {p : α → Prop} {L' : α → List HP} (h : Sat W w (A :: L)) (hA : ∀ F, A F → ∃ x, p x ∧ st (L' x) F) : ∃ x, p x ∧ Sat W w (L' x ++ L) := by
  obtain ⟨h1, h2, h3, F, ⟨F1, F2, hd, rfl, ha, hr⟩, hw⟩ := h
  obtain ⟨x, hp, hx⟩ := hA F1 ha
  exact ⟨x, hp, h1, h2, h3, _, st_append.2 ⟨F1, F2, hd, rfl, hx, hr⟩, hw⟩
/-- Several assertions as one. -/
theorem shut {A : HP} {L' : List HP} (h : Sat W w (L' ++ L)) (hA : ∀ F, st L' F → A F) : Sat W w (A :: L) := by
  obtain ⟨h1, h2, h3, F, hF, hw⟩ := h
  obtain ⟨F1, F2, hd, rfl, ha, hr⟩ := st_append.1 hF
  exact ⟨h1, h2, h3, _, ⟨F1, F2, hd, rfl, hA _ ha, hr⟩, hw⟩
/-- What follows from one of the assertions. -/
theorem fact (h : Sat W w L) {A : HP} (hm : A ∈ L) {p : Prop} (hA : ∀ F, A F → p) : p := by
  obtain ⟨_, _, _, F, hF, _⟩ := h
  obtain ⟨G, hG, _⟩ := st_mem hm hF
  exact hA G hG
theorem weaken {L' : List HP} (h : Sat W w (L' ++ L)) : Sat W w L := by
  induction L' with
  | nil => exact h
  | cons A L' ih => exact ih h.tail
/-- The end of a law's walk. -/
theorem end_ (h : Sat W w L) (hm : old W ∈ L) : Below W.heap.size W w := by
  obtain ⟨h1, h2, h3, F, hF, hw⟩ := h
  obtain ⟨G, hG, hle⟩ := st_mem hm hF
  cases hG
  have hb : ∀ b, b < W.heap.size → w.heap[b]? = W.heap[b]? := fun b hb => by
    have e : W.heap[b]? = some W.heap[b] := Array.getElem?_eq_getElem hb
    rw [hw b _ (hle b _ e), e]
  refine ⟨h1, h2, h3, ?_, hb⟩
  rcases Nat.eq_zero_or_pos W.heap.size with h0 | h0
  · omega
  · have hlt : W.heap.size - 1 < W.heap.size := by omega
    have := hb _ hlt
    rw [Array.getElem?_eq_getElem hlt] at this
    have := lt_of_block this
    omega
end Sat

/-! ### 3. What is read: facts that one assertion of the list bears out -/
/-- Some assertion of the list bears out what is said of a part; what is said is said of every greater part. -/
def Has (L : List HP) (φ : PH → Prop) : Prop := ∃ A ∈ L, ∀ F, A F → φ F
theorem Has.head {A : HP} {L : List HP} {φ : PH → Prop} (h : ∀ F, A F → φ F) : Has (A :: L) φ := ⟨A, List.mem_cons_self, h⟩
theorem Has.tail {A : HP} {L : List HP} {φ : PH → Prop} (h : Has L φ) : Has (A :: L) φ := let ⟨B, hm, h⟩ := h; ⟨B, List.mem_cons_of_mem _ hm, h⟩
theorem Has.app {L M : List HP} {φ : PH → Prop} (h : Has L φ) : Has (M ++ L) φ := let ⟨B, hm, h⟩ := h; ⟨B, List.mem_append_right _ hm, h⟩
theorem Has.imp {L : List HP} {φ ψ : PH → Prop} (h : Has L φ) (k : ∀ F, φ F → ψ F) : Has L ψ := let ⟨B, hm, h⟩ := h; ⟨B, hm, fun F hF => k F (h F hF)⟩
theorem Has.mem {A : HP} {L : List HP} {φ : PH → Prop} (hm : A ∈ L) (h : ∀ F, A F → φ F) : Has L φ := ⟨A, hm, h⟩
/-- The part of a heap that a world's whole heap is. -/
def hp (w : World) : PH := fun b => w.heap[b]?
theorem Has.world {W w : World} {L : List HP} {φ : PH → Prop} (h : Has L φ) (hs : Sat W w L) (mono : ∀ F G : PH, F.le G → φ F → φ G) : φ (hp w) := by
  obtain ⟨A, hm, hA⟩ := h
  obtain ⟨_, _, _, F, hF, hw⟩ := hs
  obtain ⟨G, hG, hle⟩ := st_mem hm hF
  exact mono G _ (fun b o e => hw b o (hle b o e)) (hA G hG)
/-- The cells vs lie at an address of a part. -/
def cellsAt (b o : Nat) (vs : List Value) (F : PH) : Prop := ∃ c t fr, F b = some (.cells c t fr) ∧ ∀ j v, vs[j]? = some v → c[o + j]? = some v
theorem cellsAt_mono {b o : Nat} {vs : List Value} {F G : PH} (h : F.le G) (k : cellsAt b o vs F) : cellsAt b o vs G := let ⟨c, t, fr, e, hc⟩ := k; ⟨c, t, fr, h _ _ e, hc⟩
theorem cellsAt_world {w : World} {b o : Nat} {vs : List Value} (h : cellsAt b o vs (hp w)) : w.rangeAt b o vs := fun j v hv => by
  obtain ⟨c, t, fr, e, hc⟩ := h
  rw [cell_of_row w b (o + j) c t fr e]; exact hc j v hv
theorem cellsAt_row {b : Nat} {l : List Value} {t : TypeId} {o : Nat} {vs : List Value} (h : ∀ j v, vs[j]? = some v → l[o + j]? = some v) : ∀ F, row b l t F → cellsAt b o vs F := by
  intro F hF
  obtain ⟨fr, _, rfl⟩ := hF
  exact ⟨l.toArray, t, fr, by simp [one], fun j v hv => by simpa using h j v hv⟩
theorem cellsAt_old {W : World} {b o : Nat} {vs : List Value} (h : W.rangeAt b o vs) (h0 : vs ≠ []) : ∀ F, old W F → cellsAt b o vs F := by
  intro F hF
  cases hF
  have h1 : 0 < vs.length := by cases vs <;> simp_all
  have := h 0 _ (List.getElem?_eq_getElem h1)
  unfold World.cell? at this
  cases hb : W.heap[b]? with
  | none => simp [hb] at this
  | some x =>
    cases x <;> simp [hb] at this
    case cells c t fr =>
      refine ⟨c, t, fr, hb, fun j v hv => ?_⟩
      have := h j v hv
      simpa [World.cell?, hb] using this
/-- A slice's value, and what its elements' cells are (of a part): n elements of so many cells each; a slice without cells may be any. -/
def sliceAt (v : Value) (n sz : Nat) (vs : List Value) (F : PH) : Prop :=
  vs.length = n * sz ∧ ∃ A cap, v = .slice A n cap ∧ n ≤ cap ∧ cap ≤ 9223372036854775807 ∧ (vs = [] ∨ ∃ b o, A = some ⟨b, o, none⟩ ∧ cellsAt b o vs F)
theorem sliceAt_mono {v : Value} {n sz : Nat} {vs : List Value} {F G : PH} (h : F.le G) (k : sliceAt v n sz vs F) : sliceAt v n sz vs G := by
  obtain ⟨h1, A, cap, h2, h3, h4, h5⟩ := k
  refine ⟨h1, A, cap, h2, h3, h4, h5.imp id ?_⟩
  rintro ⟨b, o, e, hc⟩
  exact ⟨b, o, e, cellsAt_mono h hc⟩
/-- Bytes as cells. -/
def u8s (l : List UInt8) : List Value := l.map fun x => .int .u8 x.toNat
@[simp] theorem u8s_length (l : List UInt8) : (u8s l).length = l.length := by simp [u8s]
theorem u8s_append (l m : List UInt8) : u8s (l ++ m) = u8s l ++ u8s m := by simp [u8s]
theorem u8s_get (l : List UInt8) (i : Nat) : (u8s l)[i]? = l[i]?.map fun x => .int .u8 x.toNat := by simp [u8s]
/-- A slice of bytes. -/
def bytesAt (v : Value) (l : List UInt8) (F : PH) : Prop := sliceAt v l.length 1 (u8s l) F
theorem bytesAt_mono {v : Value} {l : List UInt8} : ∀ F G : PH, F.le G → bytesAt v l F → bytesAt v l G := fun _ _ h k => sliceAt_mono h k
/-- A slice of n elements (sz cells each) that nobody else has, with spare room; its cells. -/
def own (v : Value) (e : TypeId) (n sz : Nat) (vs : List Value) : HP := fun F =>
  vs.length = n * sz ∧ ((n = 0 ∧ (∃ A, v = .slice A 0 0) ∧ F = PH.emp) ∨
    ∃ b cap sp, v = .slice (some ⟨b, 0, none⟩) n cap ∧ n ≤ cap ∧ cap ≤ 9223372036854775807 ∧ sp.length = (cap - n) * sz ∧ row b (vs ++ sp) e F)
theorem own_sliceAt {v : Value} {e : TypeId} {n sz : Nat} {vs : List Value} : ∀ F, own v e n sz vs F → sliceAt v n sz vs F := by
  rintro F ⟨hl, ⟨rfl, ⟨A, rfl⟩, rfl⟩ | ⟨b, cap, sp, rfl, hc, hm, hsp, hr⟩⟩
  · exact ⟨hl, A, 0, rfl, Nat.le_refl _, by omega, .inl (List.eq_nil_of_length_eq_zero (by simpa using hl))⟩
  · refine ⟨hl, _, cap, rfl, hc, hm, .inr ⟨b, 0, rfl, cellsAt_row (fun j u hj => ?_) F hr⟩⟩
    obtain ⟨hlt, _⟩ := List.getElem?_eq_some_iff.1 hj
    rw [Nat.zero_add, List.getElem?_append_left hlt]; exact hj
theorem own_nil {F : PH} (e : TypeId) (sz : Nat) (h : F = PH.emp) : own (.slice none 0 0) e 0 sz [] F := ⟨by simp, .inl ⟨rfl, ⟨none, rfl⟩, h⟩⟩
theorem own_nil' {F : PH} (e : TypeId) (sz : Nat) (A : Option Addr) (h : F = PH.emp) : own (.slice A 0 0) e 0 sz [] F := ⟨by simp, .inl ⟨rfl, ⟨A, rfl⟩, h⟩⟩
theorem own_row {b : Nat} {e : TypeId} {n cap sz : Nat} {vs sp : List Value} (hl : vs.length = n * sz) (hc : n ≤ cap) (hm : cap ≤ 9223372036854775807) (hs : sp.length = (cap - n) * sz) :
    ∀ F, row b (vs ++ sp) e F → own (.slice (some ⟨b, 0, none⟩) n cap) e n sz vs F := fun F h => ⟨hl, .inr ⟨b, cap, sp, rfl, hc, hm, hs, h⟩⟩
namespace Sat
variable {W w w' : World} {L M : List HP}
/-- An owned slice that nobody has yet: nil, or another one without cells. -/
theorem addNil (h : Sat W w L) (A : Option Addr) (e : TypeId) (sz : Nat) : Sat W w (own (.slice A 0 0) e 0 sz [] :: L) := by
  obtain ⟨h1, h2, h3, F, hF, hw⟩ := h
  exact ⟨h1, h2, h3, F, ⟨PH.emp, F, PH.dj_comm (PH.dj_emp F), rfl, own_nil' e sz A rfl, hF⟩, hw⟩
theorem has (h : Sat W w L) {φ : PH → Prop} (k : Has L φ) (mono : ∀ F G : PH, F.le G → φ F → φ G) : φ (hp w) := k.world h mono
theorem slice (h : Sat W w L) {v : Value} {n sz : Nat} {vs : List Value} (k : Has L (sliceAt v n sz vs)) : sliceAt v n sz vs (hp w) := k.world h fun _ _ => sliceAt_mono
theorem bytes (h : Sat W w L) {v : Value} {l : List UInt8} (k : Has L (bytesAt v l)) : bytesAt v l (hp w) := k.world h bytesAt_mono
end Sat
end Go.Proofs.YthjnefpnnifjiaaDoor
