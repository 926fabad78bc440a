/- What the reader of commits and states reads of bytes that go on, and of what was put: plain laws, no walk. -/
import Derived.Test.YthjnefpnnifjiaaDoorRdTakeS
set_option linter.unusedVariables false
set_option linter.unusedSimpArgs false
namespace Go.Proofs.YthjnefpnnifjiaaDoor
/-- The same with more bytes behind. -/
def Rd.more (s : Rd) (r : List UInt8) : Rd := ⟨s.rest ++ r, s.bad⟩
theorem tn_more (l r : List UInt8) (h : tnC l = 0) : tnA (l ++ r) = tnA l ∧ tnB (l ++ r) = tnB l ++ r ∧ tnC (l ++ r) = 0 := by
  have h4 : ¬ l.length < 4 := fun h' => by rw [tnC, if_pos h'] at h; cases h
  have h5 : ¬ (l ++ r).length < 4 := by rw [List.length_append]; omega
  unfold tnA tnB tnC
  rw [if_neg h5, if_neg h5, if_neg h5, if_neg h4, if_neg h4, List.take_append_of_le_length (by omega), List.drop_append_of_le_length (by omega)]
  exact ⟨rfl, rfl, rfl⟩
theorem ti_more (l r : List UInt8) (h : tiC l = 0) : tiA (l ++ r) = tiA l ∧ tiB (l ++ r) = tiB l ++ r ∧ tiC (l ++ r) = 0 := by
  have h4 : ¬ l.length < 8 := fun h' => by rw [tiC, if_pos h'] at h; cases h
  have h5 : ¬ (l ++ r).length < 8 := by rw [List.length_append]; omega
  unfold tiA tiB tiC
  rw [if_neg h5, if_neg h5, if_neg h5, if_neg h4, if_neg h4, List.drop_append_of_le_length (by omega)]
  refine ⟨?_, rfl, rfl⟩
  unfold takeI
  rw [List.take_append_of_le_length (by omega)]
theorem takeT_more (l r : List UInt8) (x : List UInt8 × List UInt8) (h : takeT l = some x) : takeT (l ++ r) = some (x.1, x.2 ++ r) := by
  have := takeT_very _ l x.1 x.2 (Nat.le_refl _) h
  rw [this, List.append_assoc, takeT_text]
theorem Rd.num_ok {s : Rd} (h : s.num.2.bad = false) : s.bad = false ∧ tnC s.rest = 0 := by
  have : (s.bad || decide (tnC s.rest ≠ 0)) = false := h
  rw [Bool.or_eq_false_iff, decide_eq_false_iff_not] at this
  exact ⟨this.1, by have := this.2; omega⟩
theorem Rd.int_ok {s : Rd} (h : s.int.2.bad = false) : s.bad = false ∧ tiC s.rest = 0 := by
  have : (s.bad || decide (tiC s.rest ≠ 0)) = false := h
  rw [Bool.or_eq_false_iff, decide_eq_false_iff_not] at this
  exact ⟨this.1, by have := this.2; omega⟩
theorem Rd.text_ok {s : Rd} (h : s.text.2.bad = false) : s.bad = false ∧ ∃ x, takeT s.rest = some x := by
  have : (s.bad || decide (ttC (takeT s.rest) ≠ 0)) = false := h
  rw [Bool.or_eq_false_iff, decide_eq_false_iff_not] at this
  refine ⟨this.1, ?_⟩
  cases e : takeT s.rest with
  | none => rw [e] at this; exact absurd (show ttC none ≠ 0 by decide) this.2
  | some x => exact ⟨x, rfl⟩
theorem Rd.small_ok {s : Rd} (h : s.small.2.bad = false) : s.num.2.bad = false ∧ s.num.1 ≤ 255 := by
  have : (s.num.2.bad || decide (255 < s.num.1)) = false := h
  rw [Bool.or_eq_false_iff, decide_eq_false_iff_not] at this
  exact ⟨this.1, by have := this.2; omega⟩
theorem Rd.key_good {s : Rd} (h : s.key.2.bad = false) : s.bad = false ∧ s.small.2.bad = false ∧ s.small.2.small.2.bad = false ∧ s.small.2.small.2.small.2.bad = false := by
  have h3 : s.small.2.small.2.small.2.bad = false := h
  have h2 := (Rd.num_ok (Rd.small_ok h3).1).1
  have h1 := (Rd.num_ok (Rd.small_ok h2).1).1
  exact ⟨(Rd.num_ok (Rd.small_ok h1).1).1, h1, h2, h3⟩
theorem Rd.num_more (s : Rd) (r : List UInt8) (h : s.num.2.bad = false) : (s.more r).num = (s.num.1, s.num.2.more r) := by
  have hb := Rd.num_ok h
  obtain ⟨h1, h2, h3⟩ := tn_more s.rest r hb.2
  show (tnA (s.rest ++ r), (⟨tnB (s.rest ++ r), s.bad || decide (tnC (s.rest ++ r) ≠ 0)⟩ : Rd)) = (tnA s.rest, ⟨tnB s.rest ++ r, s.bad || decide (tnC s.rest ≠ 0)⟩)
  rw [h1, h2, h3, hb.2]
theorem Rd.int_more (s : Rd) (r : List UInt8) (h : s.int.2.bad = false) : (s.more r).int = (s.int.1, s.int.2.more r) := by
  have hb := Rd.int_ok h
  obtain ⟨h1, h2, h3⟩ := ti_more s.rest r hb.2
  show (tiA (s.rest ++ r), (⟨tiB (s.rest ++ r), s.bad || decide (tiC (s.rest ++ r) ≠ 0)⟩ : Rd)) = (tiA s.rest, ⟨tiB s.rest ++ r, s.bad || decide (tiC s.rest ≠ 0)⟩)
  rw [h1, h2, h3, hb.2]
theorem Rd.text_more (s : Rd) (r : List UInt8) (h : s.text.2.bad = false) : (s.more r).text = (s.text.1, s.text.2.more r) := by
  obtain ⟨h1, x, h2⟩ := Rd.text_ok h
  have h3 := takeT_more s.rest r x h2
  show (ttA (takeT (s.rest ++ r)), (⟨ttB (takeT (s.rest ++ r)), s.bad || decide (ttC (takeT (s.rest ++ r)) ≠ 0)⟩ : Rd)) = (ttA (takeT s.rest), ⟨ttB (takeT s.rest) ++ r, s.bad || decide (ttC (takeT s.rest) ≠ 0)⟩)
  rw [h2, h3]; rfl
theorem Rd.small_more (s : Rd) (r : List UInt8) (h : s.small.2.bad = false) : (s.more r).small = (s.small.1, s.small.2.more r) := by
  have h1 := Rd.num_more s r (Rd.small_ok h).1
  show ((s.more r).num.1, (⟨(s.more r).num.2.rest, (s.more r).num.2.bad || decide (255 < (s.more r).num.1)⟩ : Rd)) = _
  rw [h1]; rfl
theorem Rd.key_more (s : Rd) (r : List UInt8) (h : s.key.2.bad = false) : (s.more r).key = (s.key.1, s.key.2.more r) := by
  obtain ⟨_, h1, h2, h3⟩ := Rd.key_good h
  have e1 := Rd.small_more s r h1
  have e2 := Rd.small_more s.small.2 r h2
  have e3 := Rd.small_more s.small.2.small.2 r h3
  show (({ kind := ((s.more r).small.1 : Nat), a := ((s.more r).small.2.small.1 : Nat), b := ((s.more r).small.2.small.2.small.1 : Nat) } : RKey), (s.more r).small.2.small.2.small.2) = _
  rw [e1]; dsimp only; rw [e2]; dsimp only; rw [e3]; rfl
theorem rdWs_bad : ∀ (n : Nat) (s : Rd) (acc : List RWr), s.bad = true → (rdWs n s acc).1.bad = true
  | 0, s, acc, h => h
  | n + 1, s, acc, h => by rw [rdWs, if_pos h]; exact h
theorem rdWs_step {n : Nat} {s : Rd} {acc : List RWr} (h : (rdWs (n + 1) s acc).1.bad = false) : s.bad = false ∧ s.key.2.bad = false ∧ s.key.2.text.2.bad = false ∧ rdWs (n + 1) s acc = rdWs n s.key.2.text.2 (acc ++ [⟨s.key.1, s.key.2.text.1⟩]) := by
  have hb : s.bad = false := by
    cases e : s.bad with
    | false => rfl
    | true => rw [rdWs_bad _ s acc e] at h; cases h
  have e1 : rdWs (n + 1) s acc = rdWs n s.key.2.text.2 (acc ++ [⟨s.key.1, s.key.2.text.1⟩]) := by rw [rdWs, if_neg (by rw [hb]; decide)]
  have h2 : s.key.2.text.2.bad = false := by
    cases e : s.key.2.text.2.bad with
    | false => rfl
    | true => rw [e1, rdWs_bad _ _ _ e] at h; cases h
  exact ⟨hb, (Rd.text_ok h2).1, h2, e1⟩
theorem rdWs_more (r : List UInt8) : ∀ (n : Nat) (s : Rd) (acc : List RWr), (rdWs n s acc).1.bad = false → rdWs n (s.more r) acc = ((rdWs n s acc).1.more r, (rdWs n s acc).2)
  | 0, s, acc, h => rfl
  | n + 1, s, acc, h => by
    obtain ⟨hb, h1, h2, e⟩ := rdWs_step h
    rw [e] at h ⊢
    have e1 := Rd.key_more s r h1
    have e2 := Rd.text_more s.key.2 r h2
    rw [rdWs, if_neg (by show ¬ s.bad = true; rw [hb]; decide), e1]
    dsimp only
    rw [e2]
    exact rdWs_more r n _ _ h
theorem rdWs_pre : ∀ (n : Nat) (s : Rd) (acc : List RWr), ∃ t, (rdWs n s acc).2 = acc ++ t
  | 0, s, acc => ⟨[], by simp [rdWs]⟩
  | n + 1, s, acc => by
    rw [rdWs]
    split
    · exact ⟨[], by simp⟩
    · obtain ⟨t, h⟩ := rdWs_pre n s.key.2.text.2 (acc ++ [⟨s.key.1, s.key.2.text.1⟩])
      exact ⟨[⟨s.key.1, s.key.2.text.1⟩] ++ t, by rw [h, List.append_assoc]⟩
theorem rdCs_bad (last : Int) : ∀ (n : Nat) (s : Rd) (acc : List RCl), s.bad = true → (rdCs last n s acc).1.bad = true
  | 0, s, acc, h => h
  | n + 1, s, acc, h => by rw [rdCs, if_pos h]; exact h
theorem Rd.chk_ok {s : Rd} {ts last : Int} (h : (s.chk ts last).bad = false) : s.bad = false ∧ 0 ≤ ts ∧ ts ≤ last := by
  have : ((s.bad || decide (ts < 0)) || decide (last < ts)) = false := h
  rw [Bool.or_eq_false_iff, Bool.or_eq_false_iff, decide_eq_false_iff_not, decide_eq_false_iff_not] at this
  exact ⟨this.1.1, by omega, by omega⟩
theorem Rd.cell_ok {s : Rd} {last : Int} (h : (s.cell last).2.bad = false) : s.bad = false ∧ s.key.2.bad = false ∧ s.key.2.int.2.bad = false ∧ 0 ≤ s.key.2.int.1 ∧ s.key.2.int.1 ≤ last ∧ (s.key.2.int.2.chk s.key.2.int.1 last).text.2.bad = false := by
  have h4 : (s.key.2.int.2.chk s.key.2.int.1 last).text.2.bad = false := h
  obtain ⟨h3, h5, h6⟩ := Rd.chk_ok (Rd.text_ok h4).1
  have h2 := (Rd.int_ok h3).1
  exact ⟨(Rd.key_good h2).1, h2, h3, h5, h6, h4⟩
theorem Rd.cell_more (s : Rd) (last : Int) (r : List UInt8) (h : (s.cell last).2.bad = false) : (s.more r).cell last = ((s.cell last).1, (s.cell last).2.more r) := by
  obtain ⟨_, h2, h3, _, _, h4⟩ := Rd.cell_ok h
  have e1 := Rd.key_more s r h2
  have e2 := Rd.int_more s.key.2 r h3
  have e3 := Rd.text_more (s.key.2.int.2.chk s.key.2.int.1 last) r h4
  unfold Rd.cell
  rw [e1]; dsimp only; rw [e2]; dsimp only
  show ((⟨s.key.1, s.key.2.int.1, ((s.key.2.int.2.chk s.key.2.int.1 last).more r).text.1⟩ : RCl), ((s.key.2.int.2.chk s.key.2.int.1 last).more r).text.2) = _
  rw [e3]
theorem rdCs_step {last : Int} {n : Nat} {s : Rd} {acc : List RCl} (h : (rdCs last (n + 1) s acc).1.bad = false) : s.bad = false ∧ (s.cell last).2.bad = false ∧ rdCs last (n + 1) s acc = rdCs last n (s.cell last).2 (acc ++ [(s.cell last).1]) := by
  have hb : s.bad = false := by
    cases e : s.bad with
    | false => rfl
    | true => rw [rdCs_bad last _ s acc e] at h; cases h
  have e1 : rdCs last (n + 1) s acc = rdCs last n (s.cell last).2 (acc ++ [(s.cell last).1]) := by rw [rdCs, if_neg (by rw [hb]; decide)]
  refine ⟨hb, ?_, e1⟩
  cases e : (s.cell last).2.bad with
  | false => rfl
  | true => rw [e1, rdCs_bad _ _ _ _ e] at h; cases h
theorem rdCs_more (last : Int) (r : List UInt8) : ∀ (n : Nat) (s : Rd) (acc : List RCl), (rdCs last n s acc).1.bad = false → rdCs last n (s.more r) acc = ((rdCs last n s acc).1.more r, (rdCs last n s acc).2)
  | 0, s, acc, h => rfl
  | n + 1, s, acc, h => by
    obtain ⟨hb, h1, e⟩ := rdCs_step h
    rw [e] at h ⊢
    have e1 := Rd.cell_more s last r h1
    rw [rdCs, if_neg (by show ¬ s.bad = true; rw [hb]; decide), e1]
    exact rdCs_more last r n _ _ h
theorem rdCs_pre (last : Int) : ∀ (n : Nat) (s : Rd) (acc : List RCl), ∃ t, (rdCs last n s acc).2 = acc ++ t
  | 0, s, acc => ⟨[], by simp [rdCs]⟩
  | n + 1, s, acc => by
    rw [rdCs]
    split
    · exact ⟨[], by simp⟩
    · obtain ⟨t, h⟩ := rdCs_pre last n (s.cell last).2 (acc ++ [(s.cell last).1])
      exact ⟨[(s.cell last).1] ++ t, by rw [h, List.append_assoc]⟩
/-! With bytes behind it what was a commit is none. -/
theorem takeCm_some {l : List UInt8} {c : RCm} (h : takeCm l = some c) : (rdWs (⟨l, false⟩ : Rd).int.2.num.1 (⟨l, false⟩ : Rd).int.2.num.2 []).1 = ⟨[], false⟩ ∧ (⟨l, false⟩ : Rd).int.2.num.2.bad = false ∧ 1 ≤ c.ts ∧ riseK (c.W.map (·.k)) = true ∧ c = ⟨(⟨l, false⟩ : Rd).int.1, (rdWs (⟨l, false⟩ : Rd).int.2.num.1 (⟨l, false⟩ : Rd).int.2.num.2 []).2⟩ := by
  unfold takeCm at h
  dsimp only at h
  have hbad := rdWs_bad (⟨l, false⟩ : Rd).int.2.num.1 (⟨l, false⟩ : Rd).int.2.num.2 []
  generalize rdWs (⟨l, false⟩ : Rd).int.2.num.1 (⟨l, false⟩ : Rd).int.2.num.2 [] = X at h hbad ⊢
  obtain ⟨⟨rest, bad⟩, ws⟩ := X
  dsimp only at h hbad ⊢
  split at h
  · cases h
  · rename_i hn
    simp only [not_or, Bool.not_eq_true, Decidable.not_not, Bool.not_eq_false] at hn
    obtain ⟨h1, h2, h3, h4⟩ := hn
    cases h
    subst h1
    subst h2
    refine ⟨rfl, ?_, by show 1 ≤ (⟨l, false⟩ : Rd).int.1; omega, h4, rfl⟩
    cases e : (⟨l, false⟩ : Rd).int.2.num.2.bad with
    | false => rfl
    | true => exact absurd (hbad e) (by decide)
theorem takeCm_more {l : List UInt8} {c : RCm} (h : takeCm l = some c) (r : List UInt8) (hr : r ≠ []) : takeCm (l ++ r) = none := by
  obtain ⟨h1, h2, _⟩ := takeCm_some h
  have h3 := (Rd.num_ok h2).1
  have e1 := Rd.int_more ⟨l, false⟩ r h3
  have e2 := Rd.num_more (⟨l, false⟩ : Rd).int.2 r h2
  have e3 := rdWs_more r (⟨l, false⟩ : Rd).int.2.num.1 (⟨l, false⟩ : Rd).int.2.num.2 [] (by rw [h1])
  have e0 : (⟨l ++ r, false⟩ : Rd) = (⟨l, false⟩ : Rd).more r := rfl
  unfold takeCm
  dsimp only
  rw [e0, e1]; dsimp only; rw [e2]; dsimp only; rw [e3, h1]
  rw [if_pos]
  right; left
  show [] ++ r ≠ []
  simpa using hr
theorem takeSt_some {l : List UInt8} {s : RSt} (h : takeSt l = some s) : (rdCs (⟨l, false⟩ : Rd).int.1 (⟨l, false⟩ : Rd).int.2.num.2.num.2.num.1 (⟨l, false⟩ : Rd).int.2.num.2.num.2.num.2 []).1 = ⟨[], false⟩ ∧ (⟨l, false⟩ : Rd).int.2.num.2.num.2.num.2.bad = false ∧ 0 ≤ s.last ∧ riseK (s.L.map (·.k)) = true ∧ s = ⟨(⟨l, false⟩ : Rd).int.1, (⟨l, false⟩ : Rd).int.2.num.1, (⟨l, false⟩ : Rd).int.2.num.2.num.1, (rdCs (⟨l, false⟩ : Rd).int.1 (⟨l, false⟩ : Rd).int.2.num.2.num.2.num.1 (⟨l, false⟩ : Rd).int.2.num.2.num.2.num.2 []).2⟩ := by
  unfold takeSt at h
  dsimp only at h
  have hbad := rdCs_bad (⟨l, false⟩ : Rd).int.1 (⟨l, false⟩ : Rd).int.2.num.2.num.2.num.1 (⟨l, false⟩ : Rd).int.2.num.2.num.2.num.2 []
  generalize rdCs (⟨l, false⟩ : Rd).int.1 (⟨l, false⟩ : Rd).int.2.num.2.num.2.num.1 (⟨l, false⟩ : Rd).int.2.num.2.num.2.num.2 [] = X at h hbad ⊢
  obtain ⟨⟨rest, bad⟩, ws⟩ := X
  dsimp only at h hbad ⊢
  split at h
  · cases h
  · rename_i hn
    simp only [not_or, Bool.not_eq_true, Decidable.not_not, Bool.not_eq_false] at hn
    obtain ⟨h1, h2, h3, h4⟩ := hn
    cases h
    subst h1
    subst h2
    refine ⟨rfl, ?_, by show 0 ≤ (⟨l, false⟩ : Rd).int.1; omega, h4, rfl⟩
    cases e : (⟨l, false⟩ : Rd).int.2.num.2.num.2.num.2.bad with
    | false => rfl
    | true => exact absurd (hbad e) (by decide)
theorem takeSt_more {l : List UInt8} {s : RSt} (h : takeSt l = some s) (r : List UInt8) (hr : r ≠ []) : takeSt (l ++ r) = none := by
  obtain ⟨h1, h2, _⟩ := takeSt_some h
  have h3 := (Rd.num_ok h2).1
  have h4 := (Rd.num_ok h3).1
  have h5 := (Rd.num_ok h4).1
  have e1 := Rd.int_more ⟨l, false⟩ r h5
  have e2 := Rd.num_more (⟨l, false⟩ : Rd).int.2 r h4
  have e4 := Rd.num_more (⟨l, false⟩ : Rd).int.2.num.2 r h3
  have e5 := Rd.num_more (⟨l, false⟩ : Rd).int.2.num.2.num.2 r h2
  have e3 := rdCs_more (⟨l, false⟩ : Rd).int.1 r (⟨l, false⟩ : Rd).int.2.num.2.num.2.num.1 (⟨l, false⟩ : Rd).int.2.num.2.num.2.num.2 [] (by rw [h1])
  have e0 : (⟨l ++ r, false⟩ : Rd) = (⟨l, false⟩ : Rd).more r := rfl
  unfold takeSt
  dsimp only
  rw [e0, e1]; dsimp only; rw [e2]; dsimp only; rw [e4]; dsimp only; rw [e5]; dsimp only; rw [e3, h1]
  rw [if_pos]
  right; left
  show [] ++ r ≠ []
  simpa using hr
/-- A byte less. -/
theorem takeCm_less {l : List UInt8} {c : RCm} (h : takeCm l = some c) (hl : 0 < l.length) : takeCm (l.take (l.length - 1)) = none := by
  cases e : takeCm (l.take (l.length - 1)) with
  | none => rfl
  | some d =>
    have h1 := takeCm_more e (l.drop (l.length - 1)) (by intro e2; have := congrArg List.length e2; simp at this; omega)
    rw [List.take_append_drop, h] at h1; cases h1
theorem takeSt_less {l : List UInt8} {s : RSt} (h : takeSt l = some s) (hl : 0 < l.length) : takeSt (l.take (l.length - 1)) = none := by
  cases e : takeSt (l.take (l.length - 1)) with
  | none => rfl
  | some d =>
    have h1 := takeSt_more e (l.drop (l.length - 1)) (by intro e2; have := congrArg List.length e2; simp at this; omega)
    rw [List.take_append_drop, h] at h1; cases h1
/-! What was put is read. -/
theorem tn_be (n : Nat) (hn : n < 4294967296) (r : List UInt8) (b : Bool) : (⟨be 4 n ++ r, b⟩ : Rd).num = (n, ⟨r, b⟩) := by
  have e : (256 : Nat) ^ 4 = 4294967296 := by decide
  have h4 : ¬ (be 4 n ++ r).length < 4 := by simp
  show (tnA (be 4 n ++ r), (⟨tnB (be 4 n ++ r), b || decide (tnC (be 4 n ++ r) ≠ 0)⟩ : Rd)) = _
  unfold tnA tnB tnC
  rw [if_neg h4, if_neg h4, if_neg h4, List.take_append_of_le_length (by simp), List.take_of_length_le (by simp), num_be, e, Nat.mod_eq_of_lt hn, List.drop_append_of_le_length (by simp), List.drop_of_length_le (by simp)]
  simp
theorem ti_be (m : Int) (hm : inI m) (r : List UInt8) (b : Bool) : (⟨be 8 (i63 m) ++ r, b⟩ : Rd).int = (m, ⟨r, b⟩) := by
  have e : (256 : Nat) ^ 8 = 18446744073709551616 := by decide
  have h4 : ¬ (be 8 (i63 m) ++ r).length < 8 := by simp
  show (tiA (be 8 (i63 m) ++ r), (⟨tiB (be 8 (i63 m) ++ r), b || decide (tiC (be 8 (i63 m) ++ r) ≠ 0)⟩ : Rd)) = _
  unfold tiA tiB tiC
  rw [if_neg h4, if_neg h4, if_neg h4]
  unfold takeI
  rw [List.take_append_of_le_length (by simp), List.take_of_length_le (by simp), num_be, e, List.drop_append_of_le_length (by simp), List.drop_of_length_le (by simp)]
  have h1 : ((i63 m % 18446744073709551616 : Nat) : Int) - 9223372036854775808 = m := by
    unfold inI at hm; unfold i63; omega
  rw [h1]
  simp
theorem tt_be (t r : List UInt8) (b : Bool) : (⟨text t ++ r, b⟩ : Rd).text = (t, ⟨r, b⟩) := by
  show (ttA (takeT (text t ++ r)), (⟨ttB (takeT (text t ++ r)), b || decide (ttC (takeT (text t ++ r)) ≠ 0)⟩ : Rd)) = _
  rw [takeT_text]
  simp [ttA, ttB, ttC]
def RKey.Right (k : RKey) : Prop := ∀ n ∈ k.ints, 0 ≤ n ∧ n ≤ 255
theorem small_be (n : Int) (h0 : 0 ≤ n) (h1 : n ≤ 255) (r : List UInt8) (b : Bool) : (⟨be 4 (u32n n) ++ r, b⟩ : Rd).small = (n.toNat, ⟨r, b⟩) := by
  have h2 : u32n n = n.toNat := by unfold u32n; omega
  have h3 := tn_be (u32n n) (u32n_lt n) r b
  show ((⟨be 4 (u32n n) ++ r, b⟩ : Rd).num.1, (⟨(⟨be 4 (u32n n) ++ r, b⟩ : Rd).num.2.rest, (⟨be 4 (u32n n) ++ r, b⟩ : Rd).num.2.bad || decide (255 < (⟨be 4 (u32n n) ++ r, b⟩ : Rd).num.1)⟩ : Rd)) = _
  rw [h3]
  dsimp only
  rw [h2, decide_eq_false (by omega), Bool.or_false]
theorem key_be (k : RKey) (hk : k.Right) (r : List UInt8) (b : Bool) : (⟨encK k ++ r, b⟩ : Rd).key = (k, ⟨r, b⟩) := by
  obtain ⟨x, y, z⟩ := k
  have hx := hk x (by simp [RKey.ints])
  have hy := hk y (by simp [RKey.ints])
  have hz := hk z (by simp [RKey.ints])
  have e : encK ⟨x, y, z⟩ ++ r = be 4 (u32n x) ++ (be 4 (u32n y) ++ (be 4 (u32n z) ++ r)) := by simp [encK, encI, RKey.ints]
  have e1 := small_be x hx.1 hx.2 (be 4 (u32n y) ++ (be 4 (u32n z) ++ r)) b
  have e2 := small_be y hy.1 hy.2 (be 4 (u32n z) ++ r) b
  have e3 := small_be z hz.1 hz.2 r b
  rw [e]
  show (({ kind := ((⟨be 4 (u32n x) ++ (be 4 (u32n y) ++ (be 4 (u32n z) ++ r)), b⟩ : Rd).small.1 : Nat), a := ((⟨be 4 (u32n x) ++ (be 4 (u32n y) ++ (be 4 (u32n z) ++ r)), b⟩ : Rd).small.2.small.1 : Nat), b := ((⟨be 4 (u32n x) ++ (be 4 (u32n y) ++ (be 4 (u32n z) ++ r)), b⟩ : Rd).small.2.small.2.small.1 : Nat) } : RKey), (⟨be 4 (u32n x) ++ (be 4 (u32n y) ++ (be 4 (u32n z) ++ r)), b⟩ : Rd).small.2.small.2.small.2) = _
  rw [e1]; dsimp only; rw [e2]; dsimp only; rw [e3]; dsimp only
  rw [show ((x.toNat : Nat) : Int) = x by omega, show ((y.toNat : Nat) : Int) = y by omega, show ((z.toNat : Nat) : Int) = z by omega]
theorem rdWs_enc (r : List UInt8) : ∀ (l acc : List RWr), (∀ x ∈ l, x.k.Right) → rdWs l.length ⟨encWs l ++ r, false⟩ acc = (⟨r, false⟩, acc ++ l)
  | [], acc, _ => by simp [rdWs, encWs]
  | x :: l, acc, h => by
    have e : encWs (x :: l) ++ r = encK x.k ++ (text x.v ++ (encWs l ++ r)) := by simp [encWs, encW]
    have e1 := key_be x.k (h x List.mem_cons_self) (text x.v ++ (encWs l ++ r)) false
    have e2 := tt_be x.v (encWs l ++ r) false
    rw [List.length_cons, rdWs, if_neg (show ¬ false = true by decide), e, e1]
    dsimp only
    rw [e2]
    dsimp only
    rw [rdWs_enc r l _ fun y hy => h y (List.mem_cons_of_mem _ hy), List.append_assoc]; rfl
/-- A commit that is tidy: its timestamp is above 0, its keys are right, and rise. -/
structure RCm.Tidy (c : RCm) : Prop where
  ts : 1 ≤ c.ts
  ti : inI c.ts
  right : ∀ x ∈ c.W, x.k.Right
  rise : riseK (c.W.map (·.k)) = true
  len : c.W.length < 4294967296
theorem takeCm_enc (c : RCm) (h : c.Tidy) : takeCm (encCm c) = some c := by
  have e : encCm c = be 8 (i63 c.ts) ++ (be 4 (u32n c.W.length) ++ (encWs c.W ++ [])) := by simp [encCm]
  have e1 := ti_be c.ts h.ti (be 4 (u32n c.W.length) ++ (encWs c.W ++ [])) false
  have e2 := tn_be (u32n c.W.length) (u32n_lt _) (encWs c.W ++ []) false
  have e3 := rdWs_enc [] c.W [] h.right
  unfold takeCm
  dsimp only
  rw [e, e1]; dsimp only; rw [e2]; dsimp only; rw [u32n_nat c.W.length h.len, e3]
  rw [if_neg]
  · rfl
  · have := h.ts
    have := h.rise
    simp_all
    try omega
theorem rdCs_enc (last : Int) (r : List UInt8) : ∀ (l acc : List RCl), (∀ x ∈ l, x.k.Right ∧ inI x.ts ∧ 0 ≤ x.ts ∧ x.ts ≤ last) → rdCs last l.length ⟨encCs l ++ r, false⟩ acc = (⟨r, false⟩, acc ++ l)
  | [], acc, _ => by simp [rdCs, encCs]
  | x :: l, acc, h => by
    obtain ⟨hk, hi, h0, h1⟩ := h x List.mem_cons_self
    have e : encCs (x :: l) ++ r = encK x.k ++ (be 8 (i63 x.ts) ++ (text x.v ++ (encCs l ++ r))) := by simp [encCs, encC]
    have e1 := key_be x.k hk (be 8 (i63 x.ts) ++ (text x.v ++ (encCs l ++ r))) false
    have e2 := ti_be x.ts hi (text x.v ++ (encCs l ++ r)) false
    have e3 := tt_be x.v (encCs l ++ r) false
    have ec : (⟨encCs (x :: l) ++ r, false⟩ : Rd).cell last = (x, ⟨encCs l ++ r, false⟩) := by
      unfold Rd.cell
      rw [e, e1]; dsimp only; rw [e2]; dsimp only
      have e4 : (⟨text x.v ++ (encCs l ++ r), false⟩ : Rd).chk x.ts last = ⟨text x.v ++ (encCs l ++ r), false⟩ := by
        unfold Rd.chk
        dsimp only
        rw [decide_eq_false (by omega), decide_eq_false (by omega)]; rfl
      rw [e4, e3]
    rw [List.length_cons, rdCs, if_neg (show ¬ false = true by decide), ec]
    dsimp only
    rw [rdCs_enc last r l _ fun y hy => h y (List.mem_cons_of_mem _ hy), List.append_assoc]; rfl
structure RSt.Tidy (s : RSt) : Prop where
  last : 0 ≤ s.last
  li : inI s.last
  epoch : s.epoch < 4294967296
  low : s.low < 4294967296
  cells : ∀ x ∈ s.L, x.k.Right ∧ inI x.ts ∧ 0 ≤ x.ts ∧ x.ts ≤ s.last
  rise : riseK (s.L.map (·.k)) = true
  len : s.L.length < 4294967296
theorem takeSt_enc (s : RSt) (h : s.Tidy) : takeSt (encSt s) = some s := by
  have e : encSt s = be 8 (i63 s.last) ++ (be 4 s.epoch ++ (be 4 s.low ++ (be 4 (u32n s.L.length) ++ (encCs s.L ++ [])))) := by simp [encSt]
  have e1 := ti_be s.last h.li (be 4 s.epoch ++ (be 4 s.low ++ (be 4 (u32n s.L.length) ++ (encCs s.L ++ [])))) false
  have e2 := tn_be s.epoch h.epoch (be 4 s.low ++ (be 4 (u32n s.L.length) ++ (encCs s.L ++ []))) false
  have e3 := tn_be s.low h.low (be 4 (u32n s.L.length) ++ (encCs s.L ++ [])) false
  have e4 := tn_be (u32n s.L.length) (u32n_lt _) (encCs s.L ++ []) false
  have e5 := rdCs_enc s.last [] s.L [] h.cells
  unfold takeSt
  dsimp only
  rw [e, e1]; dsimp only; rw [e2]; dsimp only; rw [e3]; dsimp only; rw [e4]; dsimp only; rw [u32n_nat s.L.length h.len, e5]
  rw [if_neg]
  · rfl
  · have := h.last
    have := h.rise
    simp_all
    try omega
/-! What the reference tells, early, is what is told at the end. -/
theorem riseK_pre : ∀ a b : List RKey, riseK (a ++ b) = true → riseK a = true
  | [], _, _ => rfl
  | [_], _, _ => rfl
  | x :: y :: a, b, h => by
    rw [List.cons_append, List.cons_append, riseK, Bool.and_eq_true] at h
    rw [riseK, Bool.and_eq_true]
    exact ⟨h.1, riseK_pre (y :: a) b h.2⟩
theorem takeCm_none {l : List UInt8} (h : (rdWs (⟨l, false⟩ : Rd).int.2.num.1 (⟨l, false⟩ : Rd).int.2.num.2 []).1.bad = true ∨ (⟨l, false⟩ : Rd).int.1 < 1 ∨ riseK ((rdWs (⟨l, false⟩ : Rd).int.2.num.1 (⟨l, false⟩ : Rd).int.2.num.2 []).2.map (·.k)) = false) : takeCm l = none := by
  unfold takeCm
  dsimp only
  rw [if_pos]
  rcases h with h | h | h
  · exact .inl h
  · exact .inr (.inr (.inl h))
  · exact .inr (.inr (.inr h))
theorem takeSt_none {l : List UInt8} (h : (rdCs (⟨l, false⟩ : Rd).int.1 (⟨l, false⟩ : Rd).int.2.num.2.num.2.num.1 (⟨l, false⟩ : Rd).int.2.num.2.num.2.num.2 []).1.bad = true ∨ (⟨l, false⟩ : Rd).int.1 < 0 ∨ riseK ((rdCs (⟨l, false⟩ : Rd).int.1 (⟨l, false⟩ : Rd).int.2.num.2.num.2.num.1 (⟨l, false⟩ : Rd).int.2.num.2.num.2.num.2 []).2.map (·.k)) = false) : takeSt l = none := by
  unfold takeSt
  dsimp only
  rw [if_pos]
  rcases h with h | h | h
  · exact .inl h
  · exact .inr (.inr (.inl h))
  · exact .inr (.inr (.inr h))
theorem rdText_lt {s : Rd} (h : s.text.2.bad = false) : s.text.2.rest.length < s.rest.length := by
  obtain ⟨_, x, e⟩ := Rd.text_ok h
  have h1 := takeT_very _ s.rest x.1 x.2 (Nat.le_refl _) e
  show (ttB (takeT s.rest)).length < _
  rw [e]
  show x.2.length < _
  have h2 : s.rest.length = (text x.1).length + x.2.length := by rw [← List.length_append, ← h1]
  have h3 : 2 ≤ (text x.1).length := by simp [text]
  omega
/-- As many things as are read have a byte each. -/
theorem rdWs_many : ∀ (n : Nat) (s : Rd) (acc : List RWr), (rdWs n s acc).1.bad = false → n ≤ s.rest.length
  | 0, s, acc, h => Nat.zero_le _
  | n + 1, s, acc, h => by
    obtain ⟨hb, h1, h2, e⟩ := rdWs_step h
    rw [e] at h
    have h3 := rdWs_many n _ _ h
    have h4 := rdText_lt h2
    have h5 := s.key_len
    omega
theorem rdCs_many (last : Int) : ∀ (n : Nat) (s : Rd) (acc : List RCl), (rdCs last n s acc).1.bad = false → n ≤ s.rest.length
  | 0, s, acc, h => Nat.zero_le _
  | n + 1, s, acc, h => by
    obtain ⟨hb, h1, e⟩ := rdCs_step h
    rw [e] at h
    have h3 := rdCs_many last n _ _ h
    obtain ⟨_, _, _, _, _, h6⟩ := Rd.cell_ok h1
    have h4 := rdText_lt h6
    have h5 := s.key_len
    have h7 := s.key.2.int_len
    have h8 : (s.cell last).2.rest.length < (s.key.2.int.2.chk s.key.2.int.1 last).rest.length := h4
    have h9 : (s.key.2.int.2.chk s.key.2.int.1 last).rest.length = s.key.2.int.2.rest.length := rfl
    omega
def rightB (k : RKey) : Bool := (decide (0 ≤ k.kind) && decide (k.kind ≤ 255)) && (decide (0 ≤ k.a) && decide (k.a ≤ 255)) && (decide (0 ≤ k.b) && decide (k.b ≤ 255))
theorem rightB_iff (k : RKey) : rightB k = true ↔ k.Right := by
  unfold rightB RKey.Right RKey.ints
  simp only [Bool.and_eq_true, decide_eq_true_eq, List.mem_cons, List.not_mem_nil, or_false]
  constructor
  · rintro ⟨⟨h1, h2⟩, h3⟩ n (rfl | rfl | rfl)
    · exact h1
    · exact h2
    · exact h3
  · intro h
    exact ⟨⟨h _ (.inl rfl), h _ (.inr (.inl rfl))⟩, h _ (.inr (.inr rfl))⟩
/-- Whether a key that was read is one. -/
theorem key_bad (s : List UInt8) : (⟨s, false⟩ : Rd).key.2.bad = (decide (tnC s ≠ 0) || (decide (tnC (tnB s) ≠ 0) || (decide (tnC (tnB (tnB s)) ≠ 0) || !rightB ⟨(tnA s : Nat), (tnA (tnB s) : Nat), (tnA (tnB (tnB s)) : Nat)⟩))) := by
  have e : (⟨s, false⟩ : Rd).key.2.bad = (((((false || decide (tnC s ≠ 0)) || decide (255 < tnA s)) || decide (tnC (tnB s) ≠ 0)) || decide (255 < tnA (tnB s)) || decide (tnC (tnB (tnB s)) ≠ 0)) || decide (255 < tnA (tnB (tnB s)))) := rfl
  rw [e]
  unfold rightB
  rw [Bool.eq_iff_iff]
  simp only [Bool.or_eq_true, Bool.false_eq_true, decide_eq_true_eq, Bool.not_eq_true', Bool.and_eq_false_iff, decide_eq_false_iff_not, false_or]
  omega
theorem tnC_cases (l : List UInt8) : tnC l = 0 ∨ tnC l = 2 := by unfold tnC; split <;> simp
theorem tiC_cases (l : List UInt8) : tiC l = 0 ∨ tiC l = 2 := by unfold tiC; split <;> simp
theorem ttC_cases (o : Option (List UInt8 × List UInt8)) : ttC o = 0 ∨ ttC o = 2 := by cases o <;> simp [ttC]
end Go.Proofs.YthjnefpnnifjiaaDoor
