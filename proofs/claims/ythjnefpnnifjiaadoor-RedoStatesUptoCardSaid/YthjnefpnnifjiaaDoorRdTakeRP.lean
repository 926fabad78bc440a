/- The reference's reading, as plain laws: what it tells early is what redo tells at the end. -/
import Derived.Test.YthjnefpnnifjiaaDoorRdTakeR
import Derived.Test.YthjnefpnnifjiaaDoorRdOrdP
set_option linter.unusedVariables false
set_option linter.unusedSimpArgs false
namespace Go.Proofs.YthjnefpnnifjiaaDoor
theorem tkBad_cases (s : List UInt8) : tkBad s = 0 ∨ tkBad s = 2 := by unfold tkBad; split <;> simp
theorem tkRest_len (s : List UInt8) : (tkRest s).length ≤ s.length := by
  unfold tkRest
  split
  · simp
  · exact (⟨s, false⟩ : Rd).key_len
theorem tk_good {s : List UInt8} (h : tkBad s = 0) : (⟨s, false⟩ : Rd).key = (tkKey s, ⟨tkRest s, false⟩) := by
  unfold tkBad at h
  unfold tkKey tkRest
  cases e : (⟨s, false⟩ : Rd).key.2.bad with
  | true => rw [e, if_pos rfl] at h; cases h
  | false =>
    rw [if_neg (by decide), if_neg (by decide)]
    generalize (⟨s, false⟩ : Rd).key = x at e
    obtain ⟨k, r, b⟩ := x
    dsimp only at e
    subst e; rfl
theorem tk_bad {s : List UInt8} (h : tkBad s = 2) : (⟨s, false⟩ : Rd).key.2.bad = true := by
  unfold tkBad at h
  cases e : (⟨s, false⟩ : Rd).key.2.bad with
  | true => rfl
  | false => rw [e, if_neg (by decide)] at h; cases h
theorem tt_eq (r : List UInt8) : (⟨r, false⟩ : Rd).text = (ttA (takeT r), ⟨ttB (takeT r), decide (ttC (takeT r) ≠ 0)⟩) := rfl
theorem Rd.text_bad {s : Rd} (h : s.bad = true) : s.text.2.bad = true := by
  show (s.bad || _) = true
  rw [h]; rfl
theorem Rd.int_bad {s : Rd} (h : s.bad = true) : s.int.2.bad = true := by
  show (s.bad || _) = true
  rw [h]; rfl
theorem Rd.num_bad {s : Rd} (h : s.bad = true) : s.num.2.bad = true := by
  show (s.bad || _) = true
  rw [h]; rfl
theorem lastLess_no {acc : List RWr} {k : RKey} {v : List UInt8} (h : lastLess acc k = false) : riseK ((acc ++ [(⟨k, v⟩ : RWr)]).map (·.k)) = false := by
  cases e : riseK ((acc ++ [(⟨k, v⟩ : RWr)]).map (·.k)) with
  | false => rfl
  | true =>
    rw [rise_iff, Rise, List.map_append, List.pairwise_append] at e
    unfold lastLess at h
    cases e2 : acc.getLast? with
    | none => rw [e2] at h; cases h
    | some x =>
      rw [e2] at h
      dsimp only at h
      have := e.2.2 x.k (List.mem_map_of_mem (List.mem_of_getLast? e2)) k (by simp)
      rw [h] at this; cases this
theorem lastLess_get {acc : List RWr} {i : Nat} (h : acc.length = i + 1) (k : RKey) : lastLess acc k = lessK acc[i].k k := by
  unfold lastLess
  rw [List.getLast?_eq_getElem?, show acc.length - 1 = i by omega, List.getElem?_eq_getElem (by omega)]
theorem lastLess_nil {acc : List RWr} (h : acc.length = 0) (k : RKey) : lastLess acc k = true := by
  rw [List.eq_nil_of_length_eq_zero h]; rfl
/-- What is read of a commit's writes. -/
def cmX (l : List UInt8) : Rd × List RWr := rdWs (⟨l, false⟩ : Rd).int.2.num.1 (⟨l, false⟩ : Rd).int.2.num.2 []
theorem cm_head {l : List UInt8} (h : tiC l = 2 ∨ tnC (tiB l) = 2 ∨ tiA l < 1 ∨ l.length < tnA (tiB l)) : takeCm l = none := by
  refine takeCm_none ?_
  have hb : (⟨l, false⟩ : Rd).int.2.num.2.bad = true → (rdWs (⟨l, false⟩ : Rd).int.2.num.1 (⟨l, false⟩ : Rd).int.2.num.2 []).1.bad = true := rdWs_bad _ _ _
  rcases h with h | h | h | h
  · left
    refine hb (Rd.num_bad ?_)
    show (false || decide (tiC l ≠ 0)) = true
    rw [h]; rfl
  · left
    refine hb ?_
    show (_ || decide (tnC (tiB l) ≠ 0)) = true
    rw [h]; simp
  · exact .inr (.inl h)
  · left
    cases e : (rdWs (⟨l, false⟩ : Rd).int.2.num.1 (⟨l, false⟩ : Rd).int.2.num.2 []).1.bad with
    | true => rfl
    | false =>
      have h1 := rdWs_many _ _ _ e
      have h2 := (⟨l, false⟩ : Rd).int.2.num_len
      have h3 := (⟨l, false⟩ : Rd).int_len
      have h4 : (⟨l, false⟩ : Rd).int.2.num.1 = tnA (tiB l) := rfl
      have h5 : (⟨l, false⟩ : Rd).rest.length = l.length := rfl
      omega
theorem cm_start {l : List UInt8} (h1 : tiC l = 0) (h2 : tnC (tiB l) = 0) : rdWs (tnA (tiB l)) ⟨tnB (tiB l), false⟩ [] = cmX l := by
  unfold cmX
  have e : (⟨l, false⟩ : Rd).int.2.num.2 = ⟨tnB (tiB l), false⟩ := by
    show (⟨tnB (tiB l), (false || decide (tiC l ≠ 0)) || decide (tnC (tiB l) ≠ 0)⟩ : Rd) = _
    rw [h1, h2]; rfl
  rw [e]; rfl
/-- One write is read. -/
theorem cm_round {l : List UInt8} {m : Nat} {s1 : List UInt8} {acc : List RWr} (hX : rdWs (m + 1) ⟨s1, false⟩ acc = cmX l) :
    (tkBad s1 = 2 → takeCm l = none) ∧ (tkBad s1 = 0 → ttC (takeT (tkRest s1)) = 2 → takeCm l = none) ∧
    (tkBad s1 = 0 → ttC (takeT (tkRest s1)) = 0 → rdWs m ⟨ttB (takeT (tkRest s1)), false⟩ (acc ++ [⟨tkKey s1, ttA (takeT (tkRest s1))⟩]) = cmX l ∧ (lastLess acc (tkKey s1) = false → takeCm l = none)) := by
  have e0 : rdWs (m + 1) ⟨s1, false⟩ acc = rdWs m (⟨s1, false⟩ : Rd).key.2.text.2 (acc ++ [⟨(⟨s1, false⟩ : Rd).key.1, (⟨s1, false⟩ : Rd).key.2.text.1⟩]) := by rw [rdWs, if_neg (show ¬ false = true by decide)]
  rw [e0] at hX
  refine ⟨fun h => ?_, fun h h2 => ?_, fun h h2 => ?_⟩
  · refine takeCm_none (.inl ?_)
    show (cmX l).1.bad = true
    rw [← hX]
    exact rdWs_bad _ _ _ (Rd.text_bad (tk_bad h))
  · refine takeCm_none (.inl ?_)
    show (cmX l).1.bad = true
    rw [← hX, tk_good h]
    dsimp only
    refine rdWs_bad _ _ _ ?_
    rw [tt_eq, h2]; rfl
  · rw [tk_good h] at hX
    dsimp only at hX
    rw [tt_eq, h2] at hX
    dsimp only at hX
    refine ⟨hX, fun h3 => takeCm_none (.inr (.inr ?_))⟩
    show riseK ((cmX l).2.map (·.k)) = false
    obtain ⟨t, ht⟩ := rdWs_pre m (⟨ttB (takeT (tkRest s1)), decide (0 ≠ 0)⟩ : Rd) (acc ++ [⟨tkKey s1, ttA (takeT (tkRest s1))⟩])
    rw [← hX, ht]
    cases e : riseK ((acc ++ [(⟨tkKey s1, ttA (takeT (tkRest s1))⟩ : RWr)] ++ t).map (·.k)) with
    | false => rfl
    | true =>
      rw [List.map_append] at e
      have := riseK_pre _ _ e
      rw [lastLess_no h3] at this; cases this
/-- All writes are read. -/
theorem cm_end {l s1 : List UInt8} {acc : List RWr} (hX : rdWs 0 ⟨s1, false⟩ acc = cmX l) (hr : Rise (acc.map (·.k))) (hts : 1 ≤ tiA l) : (s1 ≠ [] → takeCm l = none) ∧ (s1 = [] → takeCm l = some ⟨tiA l, acc⟩) := by
  have hX2 : cmX l = (⟨s1, false⟩, acc) := hX.symm
  have hr2 := (rise_iff _).2 hr
  unfold takeCm
  dsimp only
  have e : rdWs (⟨l, false⟩ : Rd).int.2.num.1 (⟨l, false⟩ : Rd).int.2.num.2 [] = (⟨s1, false⟩, acc) := hX2
  have e1 : (⟨l, false⟩ : Rd).int.1 = tiA l := rfl
  rw [e, e1]
  dsimp only
  constructor
  · intro h; rw [if_pos (.inr (.inl h))]
  · intro h
    rw [if_neg]
    rw [hr2]
    simp [h]; omega
/-! The same of states. -/
def lastLessC (acc : List RCl) (k : RKey) : Bool := match acc.getLast? with | some x => lessK x.k k | none => true
theorem riseC_snoc {a : List RCl} {w : RCl} (h : Rise (a.map (·.k))) (hl : lastLessC a w.k = true) : Rise ((a ++ [w]).map (·.k)) := by
  unfold Rise at *
  rw [List.map_append, List.pairwise_append]
  refine ⟨h, by simp, fun x hx y hy => ?_⟩
  simp only [List.map_cons, List.map_nil, List.mem_singleton] at hy
  subst hy
  rw [List.mem_map] at hx
  obtain ⟨z, hz, rfl⟩ := hx
  cases e : a.getLast? with
  | none => rw [List.getLast?_eq_none_iff] at e; subst e; simp at hz
  | some q =>
    rw [lastLessC, e] at hl
    dsimp only at hl
    obtain ⟨a', e2⟩ := List.getLast?_eq_some_iff.1 e
    subst e2
    rw [List.mem_append, List.mem_singleton] at hz
    rcases hz with hz | rfl
    · rw [List.map_append, List.pairwise_append] at h
      exact lessK_trans (h.2.2 z.k (List.mem_map_of_mem hz) q.k (by simp)) hl
    · exact hl
theorem lastLessC_no {acc : List RCl} {k : RKey} {ts : Int} {v : List UInt8} (h : lastLessC acc k = false) : riseK ((acc ++ [(⟨k, ts, v⟩ : RCl)]).map (·.k)) = false := by
  cases e : riseK ((acc ++ [(⟨k, ts, v⟩ : RCl)]).map (·.k)) with
  | false => rfl
  | true =>
    rw [rise_iff, Rise, List.map_append, List.pairwise_append] at e
    unfold lastLessC at h
    cases e2 : acc.getLast? with
    | none => rw [e2] at h; cases h
    | some x =>
      rw [e2] at h
      dsimp only at h
      have := e.2.2 x.k (List.mem_map_of_mem (List.mem_of_getLast? e2)) k (by simp)
      rw [h] at this; cases this
theorem lastLessC_get {acc : List RCl} {i : Nat} (h : acc.length = i + 1) (k : RKey) : lastLessC acc k = lessK acc[i].k k := by
  unfold lastLessC
  rw [List.getLast?_eq_getElem?, show acc.length - 1 = i by omega, List.getElem?_eq_getElem (by omega)]
theorem lastLessC_nil {acc : List RCl} (h : acc.length = 0) (k : RKey) : lastLessC acc k = true := by
  rw [List.eq_nil_of_length_eq_zero h]; rfl
def stX (l : List UInt8) : Rd × List RCl := rdCs (⟨l, false⟩ : Rd).int.1 (⟨l, false⟩ : Rd).int.2.num.2.num.2.num.1 (⟨l, false⟩ : Rd).int.2.num.2.num.2.num.2 []
theorem st_head {l : List UInt8} (h : tiC l = 2 ∨ tnC (tiB l) = 2 ∨ tnC (tnB (tiB l)) = 2 ∨ tnC (tnB (tnB (tiB l))) = 2 ∨ tiA l < 0 ∨ l.length < tnA (tnB (tnB (tiB l)))) : takeSt l = none := by
  refine takeSt_none ?_
  have hb : (⟨l, false⟩ : Rd).int.2.num.2.num.2.num.2.bad = true → (rdCs (⟨l, false⟩ : Rd).int.1 (⟨l, false⟩ : Rd).int.2.num.2.num.2.num.1 (⟨l, false⟩ : Rd).int.2.num.2.num.2.num.2 []).1.bad = true := rdCs_bad _ _ _ _
  rcases h with h | h | h | h | h | h
  · left
    refine hb (Rd.num_bad (Rd.num_bad (Rd.num_bad ?_)))
    show (false || decide (tiC l ≠ 0)) = true
    rw [h]; rfl
  · left
    refine hb (Rd.num_bad (Rd.num_bad ?_))
    show (_ || decide (tnC (tiB l) ≠ 0)) = true
    rw [h]; simp
  · left
    refine hb (Rd.num_bad ?_)
    show (_ || decide (tnC (tnB (tiB l)) ≠ 0)) = true
    rw [h]; simp
  · left
    refine hb ?_
    show (_ || decide (tnC (tnB (tnB (tiB l))) ≠ 0)) = true
    rw [h]; simp
  · exact .inr (.inl h)
  · left
    cases e : (rdCs (⟨l, false⟩ : Rd).int.1 (⟨l, false⟩ : Rd).int.2.num.2.num.2.num.1 (⟨l, false⟩ : Rd).int.2.num.2.num.2.num.2 []).1.bad with
    | true => rfl
    | false =>
      have h1 := rdCs_many _ _ _ _ e
      have h2 := (⟨l, false⟩ : Rd).int.2.num.2.num.2.num_len
      have h6 := (⟨l, false⟩ : Rd).int.2.num.2.num_len
      have h7 := (⟨l, false⟩ : Rd).int.2.num_len
      have h3 := (⟨l, false⟩ : Rd).int_len
      have h4 : (⟨l, false⟩ : Rd).int.2.num.2.num.2.num.1 = tnA (tnB (tnB (tiB l))) := rfl
      have h5 : (⟨l, false⟩ : Rd).rest.length = l.length := rfl
      omega
theorem st_start {l : List UInt8} (h1 : tiC l = 0) (h2 : tnC (tiB l) = 0) (h3 : tnC (tnB (tiB l)) = 0) (h4 : tnC (tnB (tnB (tiB l))) = 0) : rdCs (tiA l) (tnA (tnB (tnB (tiB l)))) ⟨tnB (tnB (tnB (tiB l))), false⟩ [] = stX l := by
  unfold stX
  have e : (⟨l, false⟩ : Rd).int.2.num.2.num.2.num.2 = ⟨tnB (tnB (tnB (tiB l))), false⟩ := by
    show (⟨tnB (tnB (tnB (tiB l))), (((false || decide (tiC l ≠ 0)) || decide (tnC (tiB l) ≠ 0)) || decide (tnC (tnB (tiB l)) ≠ 0)) || decide (tnC (tnB (tnB (tiB l))) ≠ 0)⟩ : Rd) = _
    rw [h1, h2, h3, h4]; rfl
  rw [e]; rfl
/-- One cell is read: its key from s1, its timestamp behind that, its text behind that. -/
theorem st_round {l : List UInt8} {m : Nat} {s1 : List UInt8} {acc : List RCl} (hX : rdCs (tiA l) (m + 1) ⟨s1, false⟩ acc = stX l) :
    (tkBad s1 = 2 → takeSt l = none) ∧ (tkBad s1 = 0 → tiC (tkRest s1) = 2 → takeSt l = none) ∧
    (tkBad s1 = 0 → tiC (tkRest s1) = 0 → (tiA (tkRest s1) < 0 ∨ tiA l < tiA (tkRest s1) ∨ ttC (takeT (tiB (tkRest s1))) = 2) → takeSt l = none) ∧
    (tkBad s1 = 0 → tiC (tkRest s1) = 0 → ¬ tiA (tkRest s1) < 0 → ¬ tiA l < tiA (tkRest s1) → ttC (takeT (tiB (tkRest s1))) = 0 → rdCs (tiA l) m ⟨ttB (takeT (tiB (tkRest s1))), false⟩ (acc ++ [⟨tkKey s1, tiA (tkRest s1), ttA (takeT (tiB (tkRest s1)))⟩]) = stX l ∧ (lastLessC acc (tkKey s1) = false → takeSt l = none)) := by
  have e0 : rdCs (tiA l) (m + 1) ⟨s1, false⟩ acc = rdCs (tiA l) m ((⟨s1, false⟩ : Rd).cell (tiA l)).2 (acc ++ [((⟨s1, false⟩ : Rd).cell (tiA l)).1]) := by rw [rdCs, if_neg (show ¬ false = true by decide)]
  rw [e0] at hX
  have hbad : ((⟨s1, false⟩ : Rd).cell (tiA l)).2.bad = true → takeSt l = none := fun h => by
    refine takeSt_none (.inl ?_)
    show (stX l).1.bad = true
    rw [← hX]
    exact rdCs_bad _ _ _ _ h
  have hchk : ∀ (s : Rd) (ts last : Int), s.bad = true → (s.chk ts last).bad = true := fun s ts last h => by
    show ((s.bad || _) || _) = true
    rw [h]; simp
  have hg : tkBad s1 = 0 → (⟨s1, false⟩ : Rd).cell (tiA l) = (⟨tkKey s1, tiA (tkRest s1), ttA (takeT (tiB (tkRest s1)))⟩, ⟨ttB (takeT (tiB (tkRest s1))), ((decide (tiC (tkRest s1) ≠ 0) || decide (tiA (tkRest s1) < 0)) || decide (tiA l < tiA (tkRest s1))) || decide (ttC (takeT (tiB (tkRest s1))) ≠ 0)⟩) := fun h => by
    unfold Rd.cell
    rw [tk_good h]; rfl
  refine ⟨fun h => hbad ?_, fun h h2 => hbad ?_, fun h h2 h3 => hbad ?_, fun h h2 h3 h4 h5 => ?_⟩
  · exact Rd.text_bad (hchk _ _ _ (Rd.int_bad (tk_bad h)))
  · rw [hg h, h2]; simp
  · rw [hg h, h2]
    dsimp only
    rcases h3 with h3 | h3 | h3
    · rw [decide_eq_true h3]; simp
    · rw [decide_eq_true h3]; simp
    · rw [h3]; simp
  · rw [hg h] at hX
    dsimp only at hX
    have hf : (((decide (tiC (tkRest s1) ≠ 0) || decide (tiA (tkRest s1) < 0)) || decide (tiA l < tiA (tkRest s1))) || decide (ttC (takeT (tiB (tkRest s1))) ≠ 0)) = false := by
      rw [h2, h5, decide_eq_false h3, decide_eq_false h4]; rfl
    rw [hf] at hX
    refine ⟨hX, fun h6 => takeSt_none (.inr (.inr ?_))⟩
    show riseK ((stX l).2.map (·.k)) = false
    obtain ⟨t, ht⟩ := rdCs_pre (tiA l) m (⟨ttB (takeT (tiB (tkRest s1))), false⟩ : Rd) (acc ++ [⟨tkKey s1, tiA (tkRest s1), ttA (takeT (tiB (tkRest s1)))⟩])
    rw [← hX, ht]
    cases e : riseK ((acc ++ [(⟨tkKey s1, tiA (tkRest s1), ttA (takeT (tiB (tkRest s1)))⟩ : RCl)] ++ t).map (·.k)) with
    | false => rfl
    | true =>
      rw [List.map_append] at e
      have := riseK_pre _ _ e
      rw [lastLessC_no h6] at this; cases this
theorem st_end {l s1 : List UInt8} {acc : List RCl} (hX : rdCs (tiA l) 0 ⟨s1, false⟩ acc = stX l) (hr : Rise (acc.map (·.k))) (hts : 0 ≤ tiA l) : (s1 ≠ [] → takeSt l = none) ∧ (s1 = [] → takeSt l = some ⟨tiA l, tnA (tiB l), tnA (tnB (tiB l)), acc⟩) := by
  have hX2 : stX l = (⟨s1, false⟩, acc) := hX.symm
  have hr2 := (rise_iff _).2 hr
  unfold takeSt
  dsimp only
  have e : rdCs (⟨l, false⟩ : Rd).int.1 (⟨l, false⟩ : Rd).int.2.num.2.num.2.num.1 (⟨l, false⟩ : Rd).int.2.num.2.num.2.num.2 [] = (⟨s1, false⟩, acc) := hX2
  rw [e]
  dsimp only
  have e1 : (⟨l, false⟩ : Rd).int.1 = tiA l := rfl
  rw [e1]
  constructor
  · intro h; rw [if_pos (.inr (.inl h))]
  · intro h
    rw [if_neg]
    · rfl
    rw [hr2]
    simp [h]; omega
end Go.Proofs.YthjnefpnnifjiaaDoor
