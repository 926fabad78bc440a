/- Commits one behind the other, in two orders: plain laws; lists of lists of writes as arguments. -/
import Derived.Test.YthjnefpnnifjiaaDoorRdFreshP
import Derived.Test.YthjnefpnnifjiaaDoorKinW
set_option linter.unusedVariables false
set_option linter.unusedSimpArgs false
namespace Go.Proofs.YthjnefpnnifjiaaDoor
open Go.RowKit
def st0 : RSt := ⟨0, 0, 0, []⟩
def runC (cs : List RCm) : RSt := cs.foldl applyR st0
theorem runC_snoc (f : Nat → RCm) (i : Nat) : runC ((List.range (i + 1)).map f) = applyR (runC ((List.range i).map f)) (f i) := by
  unfold runC
  rw [List.range_succ, List.map_append, List.foldl_append]; rfl
theorem told_range (f : Nat → RCm) (n : Nat) (hd : ∀ a b, a < n → b < n → a ≠ b → (f a).ts ≠ (f b).ts) (hr : ∀ a, a < n → Rise ((f a).W.map (·.k))) : ∀ i, i ≤ n → Told ((List.range i).map f) (runC ((List.range i).map f)).L
  | 0, _ => told_nil
  | i + 1, h => by
    have ih := told_range f n hd hr i (by omega)
    rw [runC_snoc, List.range_succ, List.map_append]
    refine told_apply ih (f i) (hr i (by omega)) (fun e he => ?_)
    rw [List.mem_map] at he
    obtain ⟨a, ha, rfl⟩ := he
    rw [List.mem_range] at ha
    exact hd a i (by omega) (by omega) (by omega)
theorem last_range (f : Nat → RCm) : ∀ i, (∀ a, a < i → (f a).ts ≤ (runC ((List.range i).map f)).last) ∧ ((runC ((List.range i).map f)).last = 0 ∨ ∃ a, a < i ∧ (f a).ts = (runC ((List.range i).map f)).last) ∧ (runC ((List.range i).map f)).epoch = 0 ∧ (runC ((List.range i).map f)).low = 0
  | 0 => ⟨fun a h => by omega, .inl rfl, rfl, rfl⟩
  | i + 1 => by
    obtain ⟨h1, h2, h3, h4⟩ := last_range f i
    rw [runC_snoc]
    generalize runC ((List.range i).map f) = s at *
    refine ⟨fun a ha => ?_, ?_, h3, h4⟩
    · show (f a).ts ≤ max s.last (f i).ts
      by_cases e : a = i
      · subst e; omega
      · have := h1 a (by omega); omega
    · show max s.last (f i).ts = 0 ∨ ∃ a, a < i + 1 ∧ (f a).ts = max s.last (f i).ts
      by_cases hm : s.last ≤ (f i).ts
      · exact .inr ⟨i, by omega, by omega⟩
      · rcases h2 with h2 | ⟨a, ha, h2⟩
        · exact .inl (by omega)
        · exact .inr ⟨a, by omega, by omega⟩
theorem len_range (f : Nat → RCm) (q n : Nat) (hq : ∀ a, a < n → (f a).W.length ≤ q) : ∀ i, i ≤ n → (runC ((List.range i).map f)).L.length ≤ q * i
  | 0, _ => by simp [runC, st0]
  | i + 1, hi => by
    have ih := len_range f q n hq i (by omega)
    rw [runC_snoc]
    have h := applyL_len (runC ((List.range i).map f)).L (f i).ts (f i).W (f i).W.length (Nat.le_refl _)
    rw [List.take_length] at h
    have h2 := hq i (by omega)
    show (applyL (runC ((List.range i).map f)).L (f i).ts (f i).W).length ≤ _
    rw [Nat.mul_add]
    omega
/-- The commit of a number. -/
def cmN (l : List (List RWr)) (j : Nat) : RCm := tidyC ⟨((j + 1 : Nat) : Int), l.getD j []⟩
def turn (n y i : Nat) : Nat := (n - 1 - i + y) % n
theorem cmN_ts (l : List (List RWr)) (j : Nat) : (cmN l j).ts = ((j + 1 : Nat) : Int) := by
  show max ((j + 1 : Nat) : Int) 1 = _
  omega
theorem turn_lt {n y i : Nat} (h : i < n) : turn n y i < n := Nat.mod_lt _ (by omega)
theorem turn_inj {n y a b : Nat} (ha : a < n) (hb : b < n) (h : turn n y a = turn n y b) : a = b := by
  unfold turn at h
  have key : ∀ p q : Nat, p ≤ q → q < p + n → p % n = q % n → p = q := fun p q h1 h2 h3 => by
    have h4 : (q - p) % n = 0 := Nat.sub_mod_eq_zero_of_mod_eq h3.symm
    rw [Nat.mod_eq_of_lt (by omega)] at h4
    omega
  by_cases hab : a ≤ b
  · have := key (n - 1 - b + y) (n - 1 - a + y) (by omega) (by omega) h.symm
    omega
  · have := key (n - 1 - a + y) (n - 1 - b + y) (by omega) (by omega) h
    omega
theorem turn_surj {n : Nat} (y : Nat) (hn : 0 < n) : ∀ j, j < n → ∃ i, i < n ∧ turn n y i = j := fun j hj => by
  refine ⟨(n - 1 + y + (n - j % n)) % n, Nat.mod_lt _ hn, ?_⟩
  unfold turn
  rw [Nat.mod_eq_of_lt hj]
  have e := Nat.div_add_mod (n - 1 + y + (n - j)) n
  have hlt := Nat.mod_lt (n - 1 + y + (n - j)) hn
  generalize (n - 1 + y + (n - j)) % n = r at *
  generalize (n - 1 + y + (n - j)) / n = q at *
  -- n - 1 - r + y = j + n * (q - 1)
  have hq : 1 ≤ q := by
    rcases Nat.eq_zero_or_pos q with h | h
    · subst h; omega
    · exact h
  obtain ⟨p, rfl⟩ : ∃ p, q = p + 1 := ⟨q - 1, by omega⟩
  have e2 : n * (p + 1) = n * p + n := by rw [Nat.mul_add, Nat.mul_one]
  have e3 : n - 1 - r + y = j + n * p := by omega
  rw [e3, Nat.add_mul_mod_self_left, Nat.mod_eq_of_lt hj]
/-- THE STAGE'S THEOREM, plain. -/
theorem order_law (l : List (List RWr)) (n y : Nat) : runC ((List.range n).map (cmN l)) = runC ((List.range n).map fun i => cmN l (turn n y i)) ∧ (runC ((List.range n).map (cmN l))).last = (n : Nat) ∧
    ∀ c ∈ (runC ((List.range n).map (cmN l))).L, ∃ j, j < n ∧ c.ts = ((j + 1 : Nat) : Int) ∧ (⟨c.k, c.v⟩ : RWr) ∈ (cmN l j).W := by
  have hr : ∀ j, Rise ((cmN l j).W.map (·.k)) := fun j => tidyW_rise _
  have t1 := told_range (cmN l) n (fun a b _ _ hab => by rw [cmN_ts, cmN_ts]; omega) (fun a _ => hr a) n (Nat.le_refl _)
  have t2 := told_range (fun i => cmN l (turn n y i)) n (fun a b ha hb hab => by
    have hne : turn n y a ≠ turn n y b := fun h => hab (turn_inj (y := y) ha hb h)
    show (cmN l (turn n y a)).ts ≠ (cmN l (turn n y b)).ts
    rw [cmN_ts, cmN_ts]; omega) (fun a _ => hr _) n (Nat.le_refl _)
  have hsame : ∀ d, d ∈ (List.range n).map (cmN l) ↔ d ∈ (List.range n).map fun i => cmN l (turn n y i) := fun d => by
    simp only [List.mem_map, List.mem_range]
    constructor
    · rintro ⟨j, hj, rfl⟩
      obtain ⟨i, hi, e⟩ := turn_surj (n := n) y (by omega) j hj
      exact ⟨i, hi, by rw [e]⟩
    · rintro ⟨i, hi, rfl⟩
      exact ⟨_, turn_lt hi, rfl⟩
  have hL := told_same t1 t2 hsame
  have hlast : ∀ f : Nat → Nat, (∀ i, i < n → f i < n) → (∀ j, j < n → ∃ i, i < n ∧ f i = j) → (runC ((List.range n).map fun i => cmN l (f i))).last = (n : Nat) := fun f h1 h2 => by
    obtain ⟨a1, a2, _, _⟩ := last_range (fun i => cmN l (f i)) n
    rcases Nat.eq_zero_or_pos n with h | h
    · subst h; rfl
    · obtain ⟨i, hi, e⟩ := h2 (n - 1) (by omega)
      have b1 := a1 i hi
      rw [cmN_ts, e] at b1
      rcases a2 with a2 | ⟨a, ha, a2⟩
      · omega
      · rw [cmN_ts] at a2
        have := h1 a ha
        omega
  have e1 := hlast (fun i => i) (fun i h => h) (fun j h => ⟨j, h, rfl⟩)
  have e2 := hlast (turn n y) (fun i h => turn_lt h) (fun j h => turn_surj y (by omega) j h)
  have p1 := last_range (cmN l) n
  have p2 := last_range (fun i => cmN l (turn n y i)) n
  refine ⟨?_, e1, fun c hc => ?_⟩
  · have e3 : (runC ((List.range n).map fun i => cmN l i)).last = (n : Nat) := e1
    generalize hA : runC ((List.range n).map (cmN l)) = A at *
    generalize hB : runC ((List.range n).map fun i => cmN l (turn n y i)) = B at *
    obtain ⟨x1, x2, x3, x4⟩ := A
    obtain ⟨y1, y2, y3, y4⟩ := B
    dsimp only at hL e1 e2 p1 p2
    have q1 := p1.2.2.1
    have q2 := p1.2.2.2
    have q3 := p2.2.2.1
    have q4 := p2.2.2.2
    rw [RSt.mk.injEq]
    refine ⟨by rw [e2]; exact e3, by rw [q1, q3], by rw [q2, q4], hL⟩
  · obtain ⟨⟨d, hd, h1, h2⟩, _⟩ := (t1.mem c).1 hc
    rw [List.mem_map] at hd
    obtain ⟨j, hj, rfl⟩ := hd
    rw [List.mem_range] at hj
    exact ⟨j, hj, by rw [h1, cmN_ts], h2⟩
/-- Whether a write of a cell is among others. -/
def hitW (c : RCl) (x : RWr) : Bool := keySame x.k c.k && (x.v == c.v)
def foundW (c : RCl) (l : List RWr) : Bool := l.any (hitW c)
theorem foundW_snoc (c : RCl) (l : List RWr) (i : Nat) (h : i < l.length) : foundW c (l.take (i + 1)) = (foundW c (l.take i) || hitW c l[i]) := by
  unfold foundW
  rw [List.take_succ_eq_append_getElem h, List.any_append]
  simp
theorem foundW_of {c : RCl} {l : List RWr} (h : (⟨c.k, c.v⟩ : RWr) ∈ l) : foundW c l = true := by
  unfold foundW
  rw [List.any_eq_true]
  refine ⟨_, h, ?_⟩
  unfold hitW
  rw [(keySame_iff _ _).2 rfl]
  simp
/-! Lists of lists of writes as arguments. -/
def wssKin : Kin (List (List RWr)) := Kin.slice 24 (Kin.slice 40 wrKin)
theorem fits_wss : FitsU Tryd.prog 55 wssKin := fitsU_slice Tryd.underlying55 (by kernel_rfl) fits_wrs (by decide) (by kernel_rfl)
theorem wss_get {W : World} {v : Value} {l : List (List RWr)} (h : wssKin.K (hp W) l [v]) (i : Nat) (hi : i < l.length) :
    ∃ b o c A cb, v = .slice (some ⟨b, o, none⟩) l.length c ∧ W.cell? ⟨b, o + i, none⟩ = some (.slice A l[i].length cb) ∧ sliceAt (.slice A l[i].length cb) l[i].length 4 (wsC l[i]) (hp W) ∧ (∀ x ∈ l[i], x.Small) := by
  obtain ⟨b, o, c, cs, e, hr, hk⟩ := kslice_elem h (by decide) i hi
  obtain ⟨vb, rfl, h1, h2, h3⟩ := wrs_val hk
  have hsz : (Kin.slice 40 wrKin).sz = 1 := rfl
  rw [hsz, Nat.mul_one] at hr
  obtain ⟨A, cb, rfl, _, _⟩ := slice_form h1
  exact ⟨b, o, c, A, cb, e, hr 0 _ rfl, h1, h2⟩
theorem wss_form {v : Value} {l : List (List RWr)} {F : PH} (h : wssKin.K F l [v]) : ∃ A c, v = .slice A l.length c ∧ l.length ≤ c ∧ c ≤ 9223372036854775807 ∧ l.length * 24 ≤ 140737488351232 := kslice_form h
theorem cmN_eq {l : List (List RWr)} {j : Nat} (h : j < l.length) : cmN l j = tidyC ⟨(j : Int) + 1, l[j]⟩ := by
  have e : ((j + 1 : Nat) : Int) = (j : Int) + 1 := by omega
  unfold cmN
  rw [e, List.getD_eq_getElem?_getD, List.getElem?_eq_getElem h]; rfl
theorem cmN_len {l : List (List RWr)} {j : Nat} (h : j < l.length) (h2 : l[j].length ≤ 20) : (cmN l j).W.length ≤ 20 := by
  rw [cmN_eq h]
  have := tidyW_len l[j]
  show (tidyW l[j]).length ≤ 20
  omega
theorem turn_int {n y i : Nat} (h : i < n) : ((n : Int) - 1 - (i : Int) + (y : Int)).tmod (n : Int) = (turn n y i : Nat) := by
  rw [Int.tmod_eq_emod_of_nonneg (by omega)]
  unfold turn
  have e : (n : Int) - 1 - (i : Int) + (y : Int) = ((n - 1 - i + y : Nat) : Int) := by omega
  rw [e]; rfl
end Go.Proofs.YthjnefpnnifjiaaDoor
