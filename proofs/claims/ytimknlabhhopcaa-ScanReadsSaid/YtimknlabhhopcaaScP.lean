/- Records found again: plain laws; no Go in it. -/
import Derived.Test.YtimknlabhhopcaaScRead
import Derived.Test.YtimknlabhhopcaaFrWholeP
import Derived.Test.YtimknlabhhopcaaFrP2
set_option linter.unusedVariables false
set_option linter.unusedSimpArgs false
namespace Go.Proofs.Ytimknlabhhopcaa
/-- The flag of a record's frame, by its place. -/
def flagOf (i cnt : Nat) : UInt8 := if i = cnt - 1 then (if i = 0 then (0 : UInt8) ||| 1 else 0) ||| 2 else if i = 0 then (0 : UInt8) ||| 1 else 0
theorem flagOf_1 (i cnt : Nat) : (flagOf i cnt &&& 1 != 0) = decide (i = 0) := by
  unfold flagOf
  by_cases h1 : i = cnt - 1 <;> by_cases h2 : i = 0 <;> simp only [h1, h2, if_true, if_false, decide_true, decide_false] <;> (try split) <;> simp_all <;> decide
theorem flagOf_2 (i cnt : Nat) : (flagOf i cnt &&& 2 != 0) = decide (i = cnt - 1) := by
  unfold flagOf
  by_cases h1 : i = cnt - 1
  · rw [if_pos h1, decide_eq_true h1]; split <;> decide
  · rw [if_neg h1, decide_eq_false h1]; split <;> decide
theorem fr_at (s : Nat) (rec : List UInt8) (hs : s + (cuts rec).length ≤ 1073741824) (j : Nat) (hj : j < (cuts rec).length) : (cutF 3 s rec)[j]? = some ⟨3, s + j, flagOf j (cuts rec).length, (cuts rec)[j]⟩ := by
  rw [cutF_get 3 s rec j hj, Nat.mod_eq_of_lt (by omega)]
  rfl
def Good : Nat → List Rcd → Nat → Prop
  | s, [], e => s = e
  | s, x :: t, e => x.2 = s + (cuts x.1).length ∧ Good x.2 t e
def chainF : Nat → List Rcd → List Fr
  | _, [] => []
  | s, x :: t => cutF 3 s x.1 ++ chainF x.2 t
def endAt (s : Nat) (l : List Rcd) (i : Nat) : Nat := match i with | 0 => s | i + 1 => (l[i]?.map (·.2)).getD 0
theorem good_le : ∀ (l : List Rcd) (s e : Nat), Good s l e → s ≤ e
  | [], s, e, h => by cases h; omega
  | x :: t, s, e, h => by have := good_le t _ _ h.2; have := h.1; omega
theorem chain_len : ∀ (l : List Rcd) (s e : Nat), Good s l e → (chainF s l).length = e - s
  | [], s, e, h => by cases h; simp [chainF]
  | x :: t, s, e, h => by
    have h1 := chain_len t _ _ h.2
    have h2 := good_le t _ _ h.2
    have h3 := h.1
    simp only [chainF, List.length_append, cutF_length, h1]; omega
theorem good_snoc : ∀ (l : List Rcd) (s e : Nat) (r : List UInt8), Good s l e → Good s (l ++ [(r, e + (cuts r).length)]) (e + (cuts r).length) ∧ chainF s (l ++ [(r, e + (cuts r).length)]) = chainF s l ++ cutF 3 e r
  | [], s, e, r, h => by cases h; exact ⟨⟨rfl, rfl⟩, by simp [chainF]⟩
  | x :: t, s, e, r, h => by
    obtain ⟨h1, h2⟩ := good_snoc t _ e r h.2
    exact ⟨⟨h.1, h1⟩, by simp only [List.cons_append, chainF, h2, List.append_assoc]⟩
theorem endAt_tail (x : Rcd) (t : List Rcd) (s i : Nat) : endAt s (x :: t) (i + 1) = endAt x.2 t i := by
  cases i <;> simp [endAt]
theorem endAt_all : ∀ (l : List Rcd) (s e : Nat), Good s l e → endAt s l l.length = e
  | [], s, e, h => h
  | x :: t, s, e, h => by rw [List.length_cons, endAt_tail]; exact endAt_all t _ _ h.2
theorem endAt_snoc (l : List Rcd) (s : Nat) (x : Rcd) (i : Nat) (h : i ≤ l.length) : endAt s (l ++ [x]) i = endAt s l i := by
  cases i with
  | zero => rfl
  | succ i => simp only [endAt]; rw [List.getElem?_append_left (by omega)]
theorem endAt_bd : ∀ (l : List Rcd) (s e : Nat), Good s l e → ∀ i, i ≤ l.length → s + i ≤ endAt s l i ∧ endAt s l i ≤ e
  | l, s, e, h, 0, _ => ⟨Nat.le_refl _, good_le l s e h⟩
  | x :: t, s, e, h, i + 1, hi => by
    rw [endAt_tail]
    have := endAt_bd t _ _ h.2 i (by simpa using hi)
    have h1 := h.1
    have := List.length_pos_iff.2 (cuts_ne x.1)
    omega
theorem good_drop : ∀ (l : List Rcd) (s e : Nat), Good s l e → ∀ i, i ≤ l.length → Good (endAt s l i) (l.drop i) e ∧ chainF (endAt s l i) (l.drop i) = (chainF s l).drop (endAt s l i - s)
  | l, s, e, h, 0, _ => ⟨h, by simp [endAt]⟩
  | x :: t, s, e, h, i + 1, hi => by
    rw [endAt_tail]
    obtain ⟨h1, h2⟩ := good_drop t _ _ h.2 i (by simpa using hi)
    have h3 := (endAt_bd t _ _ h.2 i (by simpa using hi)).1
    have h4 := h.1
    refine ⟨h1, ?_⟩
    rw [List.drop_succ_cons, h2, chainF, List.drop_append, List.drop_of_length_le (l := cutF 3 s x.1) (by rw [cutF_length]; omega), List.nil_append, cutF_length]
    congr 1
    omega
theorem endAt_drop : ∀ (l : List Rcd) (s i j : Nat), i ≤ l.length → endAt (endAt s l i) (l.drop i) j = endAt s l (i + j)
  | l, s, 0, j, _ => by rw [Nat.zero_add]; rfl
  | x :: t, s, i + 1, j, hi => by
    rw [endAt_tail, show i + 1 + j = (i + j) + 1 by omega, endAt_tail, List.drop_succ_cons]
    exact endAt_drop t x.2 i j (by simpa using hi)
/-! A record's frames are read in turn. -/
theorem flat_take (l : List (List UInt8)) (j : Nat) (h : j < l.length) : (l.take (j + 1)).flatten = (l.take j).flatten ++ l[j] := by
  rw [List.take_succ_eq_append_getElem h, List.flatten_append]; simp
theorem rec_scan (fr : Nat → Option Fr) (s : Nat) (rec : List UInt8) (next : Nat) (out : List Rcd) (hs : s + (cuts rec).length ≤ 1073741824)
    (hfr : ∀ j (hj : j < (cuts rec).length), fr (s + j) = none ∨ fr (s + j) = some ⟨3, s + j, flagOf j (cuts rec).length, (cuts rec)[j]⟩) :
    ∀ (d j fuel : Nat) (body : List UInt8), (cuts rec).length - j = d → j < (cuts rec).length → (j ≠ 0 → body = ((cuts rec).take j).flatten) →
      (scGo fr fuel (s + j) next (decide (j = 0)) body out = (out, next) ∧ ¬ ((∀ i, j ≤ i → i < (cuts rec).length → fr (s + i) ≠ none) ∧ d ≤ fuel)) ∨
      ((∀ i, j ≤ i → i < (cuts rec).length → fr (s + i) ≠ none) ∧ d ≤ fuel ∧ scGo fr fuel (s + j) next (decide (j = 0)) body out = scGo fr (fuel - d) (s + (cuts rec).length) (s + (cuts rec).length) true rec (out ++ [(rec, s + (cuts rec).length)]))
  | 0, j, fuel, body, hd, hj, _ => by omega
  | d + 1, j, 0, body, hd, hj, hb => .inl ⟨rfl, fun h => by omega⟩
  | d + 1, j, fuel + 1, body, hd, hj, hb => by
    rcases hfr j hj with h | h
    · exact .inl ⟨scGo_none h, fun h2 => h2.1 j (Nat.le_refl _) hj h⟩
    · have h1 := flagOf_1 j (cuts rec).length
      have h2 := flagOf_2 j (cuts rec).length
      have hw : (s + j + 1) % 4294967296 = s + (j + 1) := by omega
      have hbody : (if (decide (j = 0)) = true then [] else body) ++ (cuts rec)[j] = ((cuts rec).take (j + 1)).flatten := by
        rw [flat_take _ j hj]
        by_cases h0 : j = 0
        · subst h0; simp
        · rw [if_neg (by simpa using h0), hb h0]
      by_cases hl : j = (cuts rec).length - 1
      · have e := scGo_yes (k := fuel) (next := next) (body := body) (out := out) h h1 (by rw [h2, decide_eq_true hl])
        have hd0 : d = 0 := by omega
        have hsj : s + (j + 1) = s + (cuts rec).length := by omega
        have hall : ((cuts rec).take (j + 1)).flatten = rec := by rw [List.take_of_length_le (by omega)]; exact cuts_join _ rec (Nat.le_refl _)
        refine .inr ⟨fun i hi hi2 => ?_, by omega, ?_⟩
        · have : i = j := by omega
          subst this; rw [h]; simp
        · rw [e]
          simp only [hw, hbody, hall, hsj]
          rw [hd0]; rfl
      · have e := scGo_go (k := fuel) (next := next) (body := body) (out := out) h h1 (by rw [h2, decide_eq_false hl])
        rw [e]
        simp only [hw, hbody]
        have hne : decide (j + 1 = 0) = false := by simp
        rcases rec_scan fr s rec next out hs hfr d (j + 1) fuel (((cuts rec).take (j + 1)).flatten) (by omega) (by omega) (fun _ => rfl) with ⟨g1, g2⟩ | ⟨g1, g2, g3⟩
        · rw [hne] at g1
          exact .inl ⟨g1, fun h3 => g2 ⟨fun i hi hi2 => h3.1 i (by omega) hi2, by omega⟩⟩
        · rw [hne] at g3
          refine .inr ⟨fun i hi hi2 => ?_, by omega, ?_⟩
          · by_cases hij : i = j
            · subst hij; rw [h]; simp
            · exact g1 i (by omega) hi2
          · rw [g3]; congr 1; omega
/-- What is found of a chain: a begin of it; and all that stands whole. -/
theorem chain_scan (fr : Nat → Option Fr) : ∀ (rl : List Rcd) (s e : Nat), Good s rl e → e ≤ 1073741824 → (∀ n, s ≤ n → fr n = none ∨ (n < e ∧ fr n = (chainF s rl)[n - s]?)) → ∀ (fuel : Nat) (body : List UInt8) (out : List Rcd),
    ∃ k, k ≤ rl.length ∧ scGo fr fuel s s true body out = (out ++ rl.take k, endAt s rl k) ∧ (∀ k', k' ≤ rl.length → (∀ n, s ≤ n → n < endAt s rl k' → fr n ≠ none) → endAt s rl k' - s ≤ fuel → k' ≤ k) ∧ ∀ n, s ≤ n → n < endAt s rl k → fr n ≠ none
  | [], s, e, hg, he, hfr, fuel, body, out => by
    refine ⟨0, Nat.le_refl _, ?_, fun k' hk' _ _ => hk', fun n h1 h2 => absurd h2 (by show ¬ n < s; omega)⟩
    cases hg
    have hn : fr s = none := by
      rcases hfr s (Nat.le_refl _) with h | ⟨h, _⟩
      · exact h
      · omega
    cases fuel with
    | zero => simp [scGo, endAt]
    | succ fuel => rw [scGo_none hn]; simp [endAt]
  | x :: t, s, e, hg, he, hfr, fuel, body, out => by
    have hle := good_le t _ _ hg.2
    have hx := hg.1
    have hpos := List.length_pos_iff.2 (cuts_ne x.1)
    have hrec : ∀ j (hj : j < (cuts x.1).length), fr (s + j) = none ∨ fr (s + j) = some ⟨3, s + j, flagOf j (cuts x.1).length, (cuts x.1)[j]⟩ := fun j hj => by
      rcases hfr (s + j) (by omega) with h | ⟨_, h⟩
      · exact .inl h
      · right
        rw [h, chainF, Nat.add_sub_cancel_left, List.getElem?_append_left (by rw [cutF_length]; exact hj)]
        exact fr_at s x.1 (by omega) j hj
    rcases rec_scan fr s x.1 s out (by omega) hrec (cuts x.1).length 0 fuel body (by omega) hpos (fun h => absurd rfl h) with ⟨g1, g2⟩ | ⟨g1, g2, g3⟩
    · refine ⟨0, Nat.zero_le _, by simpa [endAt] using g1, fun k' hk' h1 h2 => ?_, fun n h1 h2 => absurd h2 (by show ¬ n < s; omega)⟩
      cases k' with
      | zero => exact Nat.le_refl _
      | succ k' =>
        exfalso
        rw [endAt_tail] at h1 h2
        have h3 := (endAt_bd t _ _ hg.2 k' (by simpa using hk')).1
        exact g2 ⟨fun i _ hi => h1 (s + i) (by omega) (by omega), by omega⟩
    · have hdec : (decide ((0 : Nat) = 0)) = true := rfl
      rw [hdec, Nat.add_zero] at g3
      have hfr2 : ∀ n, x.2 ≤ n → fr n = none ∨ (n < e ∧ fr n = (chainF x.2 t)[n - x.2]?) := fun n hn => by
        rcases hfr n (by omega) with h | ⟨h0, h⟩
        · exact .inl h
        · refine .inr ⟨h0, ?_⟩
          rw [h, chainF, List.getElem?_append_right (by rw [cutF_length]; omega), cutF_length]
          congr 1; omega
      obtain ⟨k, hk, hk2, hk3, hk4⟩ := chain_scan fr t x.2 e hg.2 he hfr2 (fuel - (cuts x.1).length) x.1 (out ++ [x])
      refine ⟨k + 1, by simpa using hk, ?_, fun k' hk' h1 h2 => ?_, fun n hn1 hn2 => ?_⟩
      rotate_left 2
      · rw [endAt_tail] at hn2
        by_cases hn : n < x.2
        · have := g1 (n - s) (by omega) (by omega)
          rwa [show s + (n - s) = n by omega] at this
        · exact hk4 n (by omega) hn2
      · rw [g3, ← hx, endAt_tail]
        have ex : (x.1, x.2) = x := rfl
        rw [ex, hk2, List.take_succ_cons, List.append_assoc]
        rfl
      · cases k' with
        | zero => omega
        | succ k' =>
          rw [endAt_tail] at h1 h2
          have h4 := (endAt_bd t _ _ hg.2 k' (by simpa using hk')).1
          have := hk3 k' (by simpa using hk') (fun n hn1 hn2 => h1 n (by omega) hn2) (by omega)
          omega
end Go.Proofs.Ytimknlabhhopcaa
