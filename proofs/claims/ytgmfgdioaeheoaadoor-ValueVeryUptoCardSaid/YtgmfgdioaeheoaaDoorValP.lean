/- Typed values as strings that are compared as they are: plain functions and their laws; no Go in it. -/
import Derived.Test.YtgmfgdioaeheoaaDoorPackOrder
import Derived.Lib.Small
set_option linter.unusedVariables false
set_option linter.unusedSimpArgs false
namespace Go.Proofs.YtgmfgdioaeheoaaDoor
structure Vl where
  t : Int
  n : Int
  s : List UInt8
def Vl.Ok (v : Vl) : Prop := (-9223372036854775808 ≤ v.t ∧ v.t < 9223372036854775808) ∧ (-9223372036854775808 ≤ v.n ∧ v.n < 9223372036854775808) ∧ v.s.length ≤ 1073741824
def Vl.zero : Vl := ⟨0, 0, []⟩
def Vl.same (a b : Vl) : Bool := decide (a.t = b.t) && (decide (a.n = b.n) && decide (a.s = b.s))
theorem Vl.ext' {a b : Vl} (h1 : a.t = b.t) (h2 : a.n = b.n) (h3 : a.s = b.s) : a = b := by cases a; cases b; simp_all
theorem Vl.same_iff (a b : Vl) : a.same b = true ↔ a = b := by
  obtain ⟨t, n, s⟩ := a
  obtain ⟨t', n', s'⟩ := b
  simp [Vl.same]
def mayB (v : Vl) : Bool :=
  if v.t = 0 then decide (v.n = 0) && decide (v.s = [])
  else if v.t = 1 then decide (v.s = [])
  else if v.t = 2 then decide (v.n = 0) && decide (v.s.length ≤ 16)
  else if v.t = 3 then (decide (v.n = 0) || decide (v.n = 1)) && decide (v.s = [])
  else false
def tagB (t : Int) : UInt8 := if 0 ≤ t ∧ t ≤ 255 then UInt8.ofNat t.toNat else 255
def valB (v : Vl) : List UInt8 := if v.t = 1 ∨ v.t = 3 then be 8 (i63 v.n) else if v.t = 2 then text v.s else []
def putB (v : Vl) : List UInt8 := tagB v.t :: valB v
def cmpS (a b : List UInt8) : Int := if Op.bytesLess a b then -1 else if Op.bytesLess b a then 1 else 0
def aheadB (a b : Vl) : Bool := if a.t ≠ b.t then decide (a.t < b.t) else if a.n ≠ b.n then decide (a.n < b.n) else Op.bytesLess a.s b.s
def cmpV (a b : Vl) : Int := if aheadB a b then -1 else if aheadB b a then 1 else 0
/-- What the tag, and what is behind it, tell. -/
def takeV (l : List UInt8) : Option (Vl × List UInt8) :=
  match l with
  | [] => none
  | c :: r =>
    let o : Option (Vl × List UInt8) :=
      if c = 1 ∨ c = 3 then (if r.length < 8 then none else some (⟨(c.toNat : Nat), takeI r, []⟩, r.drop 8))
      else if c = 2 then (takeT r).map fun x => (⟨(c.toNat : Nat), 0, x.1⟩, x.2)
      else some (⟨(c.toNat : Nat), 0, []⟩, r)
    match o with
    | none => none
    | some x => if mayB x.1 then some x else none
/-! Which string is the lower one: an order. -/
theorem u8_lt {a b : UInt8} : a < b ↔ a.toNat < b.toNat := UInt8.lt_iff_toNat_lt
theorem less_trich : ∀ a b : List UInt8, Op.bytesLess a b = true ∨ a = b ∨ Op.bytesLess b a = true
  | [], [] => .inr (.inl rfl)
  | [], _ :: _ => .inl rfl
  | _ :: _, [] => .inr (.inr rfl)
  | c :: a, d :: b => by
    rcases Nat.lt_trichotomy c.toNat d.toNat with h | h | h
    · left; rw [Op.bytesLess, decide_eq_true (u8_lt.2 h)]; rfl
    · have hcd : c = d := UInt8.toNat_inj.1 h
      rcases less_trich a b with h2 | h2 | h2
      · left; rw [Op.bytesLess, h2, hcd]; simp
      · right; left; rw [hcd, h2]
      · right; right; rw [Op.bytesLess, h2, hcd]; simp
    · right; right; rw [Op.bytesLess, decide_eq_true (u8_lt.2 h)]; rfl
theorem less_cons {c d : UInt8} {a b : List UInt8} : Op.bytesLess (c :: a) (d :: b) = true ↔ c.toNat < d.toNat ∨ (c = d ∧ Op.bytesLess a b = true) := by
  rw [Op.bytesLess, Bool.or_eq_true, Bool.and_eq_true, decide_eq_true_eq, beq_iff_eq, u8_lt]
theorem less_asymm : ∀ a b : List UInt8, Op.bytesLess a b = true → Op.bytesLess b a = false
  | [], [], h => by cases h
  | [], _ :: _, _ => rfl
  | _ :: _, [], h => by cases h
  | c :: a, d :: b, h => by
    cases hb : Op.bytesLess (d :: b) (c :: a) with
    | false => rfl
    | true =>
      exfalso
      rcases less_cons.1 h with h1 | ⟨h1, h2⟩ <;> rcases less_cons.1 hb with h3 | ⟨h3, h4⟩
      · omega
      · subst h3; omega
      · subst h1; omega
      · rw [less_asymm a b h2] at h4; cases h4
theorem less_trans : ∀ a b c : List UInt8, Op.bytesLess a b = true → Op.bytesLess b c = true → Op.bytesLess a c = true
  | [], [], _, h, _ => by cases h
  | [], _ :: _, [], _, h => by cases h
  | [], _ :: _, _ :: _, _, _ => rfl
  | _ :: _, [], _, h, _ => by cases h
  | _ :: _, _ :: _, [], _, h => by cases h
  | x :: a, y :: b, z :: c, h1, h2 => by
    rcases less_cons.1 h1 with h3 | ⟨h3, h4⟩ <;> rcases less_cons.1 h2 with h5 | ⟨h5, h6⟩
    · exact less_cons.2 (.inl (by omega))
    · subst h5; exact less_cons.2 (.inl h3)
    · subst h3; exact less_cons.2 (.inl h5)
    · exact less_cons.2 (.inr ⟨h3.trans h5, less_trans a b c h4 h6⟩)
theorem compareBytes_eq : ∀ a b : List UInt8, Lib.compareBytes a b = cmpS a b
  | [], [] => rfl
  | [], _ :: _ => rfl
  | _ :: _, [] => rfl
  | c :: a, d :: b => by
    have ih := compareBytes_eq a b
    unfold Lib.compareBytes
    unfold cmpS at ih ⊢
    by_cases h1 : c < d
    · rw [if_pos h1, if_pos (less_cons.2 (.inl (u8_lt.1 h1)))]
    · rw [if_neg h1]
      by_cases h2 : d < c
      · have h3 : Op.bytesLess (d :: b) (c :: a) = true := less_cons.2 (.inl (u8_lt.1 h2))
        rw [if_pos h2, less_asymm _ _ h3, h3]; rfl
      · have h3 : c = d := UInt8.toNat_inj.1 (by rw [u8_lt] at h1 h2; omega)
        subst h3
        rw [if_neg h2, ih]
        simp [Op.bytesLess]
theorem or3 (a b : Vl) : (if Lib.compareInt a.t b.t ≠ 0 then Lib.compareInt a.t b.t else if Lib.compareInt a.n b.n ≠ 0 then Lib.compareInt a.n b.n else cmpS a.s b.s) = cmpV a b := by
  unfold cmpV aheadB Lib.compareInt
  rcases Int.lt_trichotomy a.t b.t with h | h | h
  · have h2 : a.t ≠ b.t := by omega
    rw [if_pos h, if_pos (by decide), if_pos h2, if_pos (decide_eq_true h)]
  · rw [h]
    simp only [Int.lt_irrefl, gt_iff_lt, if_false, ne_eq, not_true]
    rcases Int.lt_trichotomy a.n b.n with h | h | h
    · have h2 : ¬ a.n = b.n := by omega
      rw [if_pos h, if_pos (by decide), if_pos h2, if_pos (decide_eq_true h)]
    · rw [h]
      simp only [Int.lt_irrefl, gt_iff_lt, if_false, ne_eq, not_true]
      rfl
    · have h2 : ¬ a.n < b.n := by omega
      have h3 : ¬ a.n = b.n := by omega
      have h4 : ¬ b.n = a.n := by omega
      simp [h, h2, h3, h4]
  · have h2 : ¬ a.t < b.t := by omega
    have h3 : ¬ a.t = b.t := by omega
    have h4 : ¬ b.t = a.t := by omega
    simp [h, h2, h3, h4]
theorem ahead_irrefl (a : Vl) : aheadB a a = false := by simp [aheadB, less_self]
theorem ahead_trich (a b : Vl) : aheadB a b = true ∨ a = b ∨ aheadB b a = true := by
  unfold aheadB
  by_cases h : a.t = b.t
  · by_cases h2 : a.n = b.n
    · rcases less_trich a.s b.s with h3 | h3 | h3
      · left; simp [h, h2, h3]
      · right; left; exact Vl.ext' h h2 h3
      · right; right; simp [h, h2, h3]
    · have h4 : ¬ b.n = a.n := fun e => h2 e.symm
      rcases Int.lt_trichotomy a.n b.n with h3 | h3 | h3
      · left; simp [h, h2, h3]
      · exact absurd h3 h2
      · right; right; simp [h, h4, h3]
  · have h4 : ¬ b.t = a.t := fun e => h e.symm
    rcases Int.lt_trichotomy a.t b.t with h3 | h3 | h3
    · left; simp [h, h3]
    · exact absurd h3 h
    · right; right; simp [h4, h3]
theorem ahead_iff (a b : Vl) : aheadB a b = true ↔ a.t < b.t ∨ (a.t = b.t ∧ (a.n < b.n ∨ (a.n = b.n ∧ Op.bytesLess a.s b.s = true))) := by
  unfold aheadB
  by_cases h : a.t = b.t
  · rw [if_neg (by simpa using h)]
    by_cases h2 : a.n = b.n
    · rw [if_neg (by simpa using h2)]
      constructor
      · intro h3; exact .inr ⟨h, .inr ⟨h2, h3⟩⟩
      · rintro (h3 | ⟨_, h3 | ⟨_, h3⟩⟩)
        · omega
        · omega
        · exact h3
    · rw [if_pos h2, decide_eq_true_eq]
      constructor
      · intro h3; exact .inr ⟨h, .inl h3⟩
      · rintro (h3 | ⟨_, h3 | ⟨h3, _⟩⟩)
        · omega
        · exact h3
        · exact absurd h3 h2
  · rw [if_pos h, decide_eq_true_eq]
    constructor
    · exact .inl
    · rintro (h3 | ⟨h3, _⟩)
      · exact h3
      · exact absurd h3 h
theorem ahead_asymm (a b : Vl) (h : aheadB a b = true) : aheadB b a = false := by
  cases hb : aheadB b a with
  | false => rfl
  | true =>
    exfalso
    rcases (ahead_iff a b).1 h with h1 | ⟨h1, h2 | ⟨h2, h3⟩⟩ <;> rcases (ahead_iff b a).1 hb with h4 | ⟨h4, h5 | ⟨h5, h6⟩⟩ <;> first | omega | (rw [less_asymm _ _ h3] at h6; cases h6)
theorem ahead_trans (a b c : Vl) (h : aheadB a b = true) (k : aheadB b c = true) : aheadB a c = true := by
  rw [ahead_iff] at h k ⊢
  rcases h with h1 | ⟨h1, h2 | ⟨h2, h3⟩⟩ <;> rcases k with h4 | ⟨h4, h5 | ⟨h5, h6⟩⟩ <;> first | (left; omega) | (right; refine ⟨by omega, ?_⟩; first | (left; omega) | (right; exact ⟨by omega, less_trans _ _ _ h3 h6⟩))
/-- Three values. -/
theorem three (a b c : Vl) : cmpV a b = - cmpV b a ∧ ((cmpV a b = 0) ↔ a = b) ∧ (0 < cmpV a b ∨ 0 < cmpV b c ∨ cmpV a c ≤ 0) ∧ -1 ≤ cmpV a b ∧ cmpV a b ≤ 1 := by
  have key : ∀ x y : Vl, (aheadB x y = true ∧ cmpV x y = -1 ∧ cmpV y x = 1 ∧ x ≠ y) ∨ (x = y ∧ cmpV x y = 0) ∨ (aheadB y x = true ∧ cmpV x y = 1 ∧ cmpV y x = -1 ∧ x ≠ y) := fun x y => by
    rcases ahead_trich x y with h | h | h
    · refine .inl ⟨h, by unfold cmpV; rw [if_pos h], by unfold cmpV; rw [ahead_asymm x y h, h]; rfl, fun e => ?_⟩
      rw [e, ahead_irrefl] at h; cases h
    · refine .inr (.inl ⟨h, ?_⟩)
      subst h; unfold cmpV; rw [ahead_irrefl]; rfl
    · refine .inr (.inr ⟨h, by unfold cmpV; rw [ahead_asymm y x h, h]; rfl, by unfold cmpV; rw [if_pos h], fun e => ?_⟩)
      rw [e, ahead_irrefl] at h; cases h
  rcases key a b with ⟨h1, h2, h3, h4⟩ | ⟨h1, h2⟩ | ⟨h1, h2, h3, h4⟩
  · refine ⟨by omega, ⟨fun h => by omega, fun h => absurd h h4⟩, ?_, by omega, by omega⟩
    rcases key b c with ⟨g1, g2, g3, g4⟩ | ⟨g1, g2⟩ | ⟨g1, g2, g3, g4⟩
    · right; right
      have := ahead_trans a b c h1 g1
      unfold cmpV; rw [if_pos this]; decide
    · right; right; subst g1; omega
    · right; left; omega
  · subst h1
    refine ⟨by omega, ⟨fun _ => rfl, fun _ => h2⟩, ?_, by omega, by omega⟩
    by_cases h : 0 < cmpV a c
    · exact .inr (.inl h)
    · exact .inr (.inr (by omega))
  · exact ⟨by omega, ⟨fun h => by omega, fun h => absurd h h4⟩, .inl (by omega), by omega, by omega⟩
theorem cmp_zero (a b : Vl) : cmpV a b = 0 ↔ a = b := (three a b a).2.1
theorem cmp_neg (a b : Vl) : cmpV a b < 0 ↔ aheadB a b = true := by
  unfold cmpV
  by_cases h : aheadB a b = true
  · rw [if_pos h]; exact ⟨fun _ => h, fun _ => by decide⟩
  · rw [if_neg h]
    constructor
    · intro h2; split at h2 <;> omega
    · intro h2; exact absurd h2 h
/-! There and back. -/
theorem may_cases {v : Vl} (h : mayB v = true) : (v.t = 0 ∧ v.n = 0 ∧ v.s = []) ∨ (v.t = 1 ∧ v.s = []) ∨ (v.t = 2 ∧ v.n = 0 ∧ v.s.length ≤ 16) ∨ (v.t = 3 ∧ (v.n = 0 ∨ v.n = 1) ∧ v.s = []) := by
  unfold mayB at h
  split at h
  · simp only [Bool.and_eq_true, decide_eq_true_eq] at h; exact .inl ⟨‹_›, h.1, h.2⟩
  · split at h
    · simp only [decide_eq_true_eq] at h; exact .inr (.inl ⟨‹_›, h⟩)
    · split at h
      · simp only [Bool.and_eq_true, decide_eq_true_eq] at h; exact .inr (.inr (.inl ⟨‹_›, h.1, h.2⟩))
      · split at h
        · simp only [Bool.and_eq_true, Bool.or_eq_true, decide_eq_true_eq] at h; exact .inr (.inr (.inr ⟨‹_›, h.1, h.2⟩))
        · cases h
theorem takeI_put (m : Int) (h0 : -9223372036854775808 ≤ m) (h1 : m < 9223372036854775808) (x : List UInt8) : takeI (be 8 (i63 m) ++ x) = m := by
  have e : (256 : Nat) ^ 8 = 18446744073709551616 := by decide
  unfold takeI
  rw [List.take_append_of_le_length (by simp), List.take_of_length_le (by simp), num_be, e]
  unfold i63
  omega
theorem takeV_put {v : Vl} (ok : v.Ok) (h : mayB v = true) (x : List UInt8) : takeV (putB v ++ x) = some (v, x) := by
  obtain ⟨t, n, s⟩ := v
  obtain ⟨_, ⟨hn0, hn1⟩, _⟩ := ok
  dsimp only at hn0 hn1
  have hd : ∀ m, (be 8 m ++ x).drop 8 = x := fun m => by rw [List.drop_append_of_le_length (by simp), List.drop_of_length_le (by simp)]; rfl
  rcases may_cases h with ⟨h1, h2, h3⟩ | ⟨h1, h2⟩ | ⟨h1, h2, h3⟩ | ⟨h1, h2, h3⟩
  · dsimp only at h1 h2 h3; subst h1; subst h2; subst h3; rfl
  · dsimp only at h1 h2; subst h1; subst h2
    show takeV (1 :: (be 8 (i63 n) ++ x)) = _
    have hl : ¬ (be 8 (i63 n) ++ x).length < 8 := by simp
    unfold takeV
    dsimp only
    rw [if_pos (.inl rfl), if_neg hl, takeI_put n hn0 hn1, hd]
    rfl
  · dsimp only at h1 h2 h3; subst h1; subst h2
    show takeV (2 :: (text s ++ x)) = _
    unfold takeV
    dsimp only
    rw [if_neg (by decide), if_pos rfl, takeT_text]
    show (if mayB ⟨2, 0, s⟩ = true then _ else _) = _
    rw [if_pos h]; rfl
  · dsimp only at h1 h2 h3; subst h1; subst h3
    show takeV (3 :: (be 8 (i63 n) ++ x)) = _
    have hl : ¬ (be 8 (i63 n) ++ x).length < 8 := by simp
    unfold takeV
    dsimp only
    rw [if_pos (.inr rfl), if_neg hl, takeI_put n hn0 hn1, hd]
    show (if mayB ⟨3, n, []⟩ = true then _ else _) = _
    rw [if_pos h]; rfl
theorem tag_u8 (c : UInt8) : tagB ((c.toNat : Nat) : Int) = c := by
  have := c.toNat_lt
  unfold tagB
  rw [if_pos (by omega), Int.toNat_natCast]
  apply UInt8.toNat_inj.1
  rw [UInt8.toNat_ofNat']
  omega
theorem takeI_bd (r : List UInt8) : -9223372036854775808 ≤ takeI r ∧ takeI r < 9223372036854775808 := by
  have := num8 r
  unfold takeI
  omega
theorem be_takeI (r : List UInt8) (h : ¬ r.length < 8) : be 8 (i63 (takeI r)) ++ r.drop 8 = r := by
  have : i63 (takeI r) = num (r.take 8) := by unfold i63 takeI; omega
  rw [this, be_num 8 _ (by simp; omega), List.take_append_drop]
theorem takeV_very {l : List UInt8} {v : Vl} {x : List UInt8} (h : takeV l = some (v, x)) : mayB v = true ∧ l = putB v ++ x := by
  cases l with
  | nil => cases h
  | cons c r =>
    unfold takeV at h
    dsimp only at h
    split at h
    · cases h
    · rename_i y hy
      split at h
      · rename_i hm
        cases h
        refine ⟨hm, ?_⟩
        split at hy
        · rename_i hc
          split at hy
          · cases hy
          · rename_i hl
            cases hy
            show c :: r = tagB ((c.toNat : Nat) : Int) :: (valB ⟨((c.toNat : Nat) : Int), takeI r, []⟩ ++ r.drop 8)
            rw [tag_u8]
            have : valB ⟨((c.toNat : Nat) : Int), takeI r, []⟩ = be 8 (i63 (takeI r)) := by
              unfold valB
              rw [if_pos]
              rcases hc with rfl | rfl
              · exact .inl rfl
              · exact .inr rfl
            rw [this, be_takeI r hl]
        · rename_i hc
          split at hy
          · rename_i hc2
            cases ht : takeT r with
            | none => rw [ht] at hy; cases hy
            | some z =>
              rw [ht] at hy
              cases hy
              have hv := takeT_very _ r z.1 z.2 (Nat.le_refl _) ht
              subst hc2
              show 2 :: r = 2 :: (text z.1 ++ z.2)
              rw [← hv]
          · rename_i hc2
            cases hy
            show c :: x = tagB ((c.toNat : Nat) : Int) :: (valB ⟨((c.toNat : Nat) : Int), 0, []⟩ ++ x)
            rw [tag_u8]
            have : valB ⟨((c.toNat : Nat) : Int), 0, []⟩ = [] := by
              unfold valB
              have h1 : ∀ k : UInt8, c ≠ k → ¬ ((c.toNat : Nat) : Int) = ((k.toNat : Nat) : Int) := fun k hk e => hk (UInt8.toNat_inj.1 (by omega))
              have h2 := h1 1 fun e => hc (.inl e)
              have h3 := h1 3 fun e => hc (.inr e)
              have h4 := h1 2 hc2
              rw [if_neg (by intro h; rcases h with h | h; (exact h2 h); (exact h3 h))]
              exact if_neg h4
            rw [this]; rfl
      · cases h
theorem takeV_len {l : List UInt8} {v : Vl} {x : List UInt8} (h : takeV l = some (v, x)) : v.Ok ∧ v.s.length ≤ 16 ∧ x.length ≤ l.length := by
  obtain ⟨hm, hl⟩ := takeV_very h
  have hx : x.length ≤ l.length := by rw [hl, List.length_append]; omega
  cases l with
  | nil => cases h
  | cons c r =>
    unfold takeV at h
    dsimp only at h
    have hc := c.toNat_lt
    have hI := takeI_bd r
    have hs : v.s.length ≤ 16 := by
      rcases may_cases hm with ⟨_, _, h3⟩ | ⟨_, h3⟩ | ⟨_, _, h3⟩ | ⟨_, _, h3⟩
      · rw [h3]; simp
      · rw [h3]; simp
      · exact h3
      · rw [h3]; simp
    have hok : (-9223372036854775808 ≤ v.t ∧ v.t < 9223372036854775808) ∧ (-9223372036854775808 ≤ v.n ∧ v.n < 9223372036854775808) := by
      split at h
      · cases h
      · rename_i y hy
        split at h
        · cases h
          split at hy
          · split at hy
            · cases hy
            · cases hy; dsimp only; omega
          · split at hy
            · cases ht : takeT r with
              | none => rw [ht] at hy; cases hy
              | some z => rw [ht] at hy; cases hy; dsimp only; omega
            · cases hy; dsimp only; omega
        · cases h
    exact ⟨⟨hok.1, hok.2, by omega⟩, hs, hx⟩
theorem less_len (x y : List UInt8) : ∀ a b : List UInt8, a.length = b.length → a ≠ b → Op.bytesLess (a ++ x) (b ++ y) = Op.bytesLess a b
  | [], [], _, h => absurd rfl h
  | [], _ :: _, h, _ => by simp at h
  | _ :: _, [], h, _ => by simp at h
  | c :: a, d :: b, h, hne => by
    rw [List.cons_append, List.cons_append, Op.bytesLess, Op.bytesLess]
    by_cases hcd : c = d
    · have hab : a ≠ b := fun e => hne (by rw [hcd, e])
      rw [less_len x y a b (by simpa using h) hab]
    · have e : (c == d) = false := by simp [hcd]
      rw [e]; simp
theorem less_int (m k : Int) (h0 : -9223372036854775808 ≤ m) (h1 : m < 9223372036854775808) (h2 : -9223372036854775808 ≤ k) (h3 : k < 9223372036854775808) (hne : m ≠ k) (x y : List UInt8) : Op.bytesLess (be 8 (i63 m) ++ x) (be 8 (i63 k) ++ y) = decide (m < k) := by
  have hb : be 8 (i63 m) ≠ be 8 (i63 k) := fun e => by
    have h5 := takeI_put m h0 h1 []
    rw [e, takeI_put k h2 h3 []] at h5
    exact hne h5.symm
  rw [less_len _ _ _ _ (by simp) hb, less_i63 m k h0 h1 h2 h3]
theorem order_put (a b : Vl) (oka : a.Ok) (okb : b.Ok) (ha : mayB a = true) (hb : mayB b = true) (hne : a ≠ b) (x y : List UInt8) : Op.bytesLess (putB a ++ x) (putB b ++ y) = aheadB a b := by
  obtain ⟨t, n, s⟩ := a
  obtain ⟨t', n', s'⟩ := b
  obtain ⟨_, ⟨hn0, hn1⟩, _⟩ := oka
  obtain ⟨_, ⟨hm0, hm1⟩, _⟩ := okb
  dsimp only at hn0 hn1 hm0 hm1
  have key : ∀ (p q : Nat) (u w : List UInt8), p ≤ 3 → q ≤ 3 → p ≠ q → Op.bytesLess (UInt8.ofNat p :: u) (UInt8.ofNat q :: w) = decide ((p : Int) < (q : Int)) := fun p q u w hp hq hpq => by
    have e1 : (UInt8.ofNat p).toNat = p := by rw [UInt8.toNat_ofNat']; omega
    have e2 : (UInt8.ofNat q).toNat = q := by rw [UInt8.toNat_ofNat']; omega
    have e3 : (UInt8.ofNat p == UInt8.ofNat q) = false := by
      rw [beq_eq_false_iff_ne]; intro e; rw [← UInt8.toNat_inj, e1, e2] at e; exact hpq e
    rw [Op.bytesLess, e3, Bool.false_and, Bool.or_false]
    apply decide_eq_decide.2
    rw [u8_lt, e1, e2]; omega
  have same : ∀ (c : UInt8) (u w : List UInt8), Op.bytesLess (c :: u) (c :: w) = Op.bytesLess u w := fun c u w => by rw [Op.bytesLess]; simp
  unfold putB
  rw [List.cons_append, List.cons_append]
  rcases may_cases ha with ⟨h1, h2, h3⟩ | ⟨h1, h2⟩ | ⟨h1, h2, h3⟩ | ⟨h1, h2, h3⟩ <;> rcases may_cases hb with ⟨k1, k2, k3⟩ | ⟨k1, k2⟩ | ⟨k1, k2, k3⟩ | ⟨k1, k2, k3⟩ <;> dsimp only at h1 h2 k1 k2 <;> subst h1 <;> subst k1
  · exact absurd (show (⟨0, n, s⟩ : Vl) = ⟨0, n', s'⟩ from Vl.ext' rfl (h2.trans k2.symm) (h3.trans k3.symm)) hne
  · exact key 0 1 _ _ (by omega) (by omega) (by omega)
  · exact key 0 2 _ _ (by omega) (by omega) (by omega)
  · exact key 0 3 _ _ (by omega) (by omega) (by omega)
  · exact key 1 0 _ _ (by omega) (by omega) (by omega)
  · subst h2; subst k2
    have hnn : n ≠ n' := fun e => hne (by rw [e])
    show Op.bytesLess (1 :: (be 8 (i63 n) ++ x)) (1 :: (be 8 (i63 n') ++ y)) = _
    rw [same, less_int n n' hn0 hn1 hm0 hm1 hnn]
    simp [aheadB, hnn]
  · exact key 1 2 _ _ (by omega) (by omega) (by omega)
  · exact key 1 3 _ _ (by omega) (by omega) (by omega)
  · exact key 2 0 _ _ (by omega) (by omega) (by omega)
  · exact key 2 1 _ _ (by omega) (by omega) (by omega)
  · subst h2; subst k2
    have hss : s ≠ s' := fun e => hne (by rw [e])
    show Op.bytesLess (2 :: (text s ++ x)) (2 :: (text s' ++ y)) = _
    rw [same, less_text x y s s' hss]
    simp [aheadB]
  · exact key 2 3 _ _ (by omega) (by omega) (by omega)
  · exact key 3 0 _ _ (by omega) (by omega) (by omega)
  · exact key 3 1 _ _ (by omega) (by omega) (by omega)
  · exact key 3 2 _ _ (by omega) (by omega) (by omega)
  · dsimp only at h3 k3; subst h3; subst k3
    have hnn : n ≠ n' := fun e => hne (by rw [e])
    show Op.bytesLess (3 :: (be 8 (i63 n) ++ x)) (3 :: (be 8 (i63 n') ++ y)) = _
    rw [same, less_int n n' hn0 hn1 hm0 hm1 hnn]
    simp [aheadB, hnn]
theorem putB_len (v : Vl) : (putB v).length ≤ 2 * v.s.length + 11 := by
  have := esc_len v.s
  unfold putB valB
  split
  · simp
  · split
    · unfold text; simp; omega
    · simp
end Go.Proofs.YtgmfgdioaeheoaaDoor
