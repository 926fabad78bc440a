/- Savings that count what was saved, and a crash in the midst of one: plain laws; no Go in it. -/
import Derived.Test.YtfpgmnnecnaheaaSlOlds
set_option linter.unusedVariables false
set_option linter.unusedSimpArgs false
namespace Go.Proofs.Ytfpgmnnecnaheaa
/-- A disk behind some savings in turn: `last` is the newest number, `old` what it has. -/
structure Bk (D : Dk) (k last : Nat) (old : List UInt8) : Prop where
  ok : D.Ok
  size : D.secs.length = 12
  row : D.row.length ≤ 4 * k
  le : last ≤ k
  zero : last = 0 → old = []
  has : slHas D 1 4 (last % 2) = if last = 0 then none else some (last, old)
  other : ∀ x, slHas D 1 4 ((last + 1) % 2) = some x → x.1 < last
  ep : ∀ i, 1 ≤ i → i < 9 → (Fr.parse (D.read i)).epoch ≤ last
theorem parse_zeros : Fr.parse (List.replicate 64 0) = Fr.none := by
  have : Fr.is (List.replicate 64 0) = false := by decide +kernel
  simp only [Fr.parse, this]; rfl
theorem bk_new : Bk (Dk.new 12) 0 0 [] where
  ok := Dk.new_ok (by omega)
  size := new12
  row := by simp [Dk.new]
  le := Nat.le_refl _
  zero := fun _ => rfl
  has := by rw [if_pos rfl]; exact slHas_new 1 4 0 (by omega)
  other := fun x h => by rw [slHas_new 1 4 _ (by omega)] at h; cases h
  ep := fun i h1 h2 => by rw [new_read 12 i (by omega), parse_zeros]; exact Nat.zero_le _
theorem slCode_cases (gen : Nat) (hg : gen ≠ 0) (b : List UInt8) : slCode 12 ((1 : Nat) : Int) ((4 : Nat) : Int) gen b = if 4 < (cuts b).length then 3 else 0 := by
  unfold slCode
  rw [if_neg (by intro h; rcases h with h | h; (exact absurd h (by decide)); (exact hg h))]
  by_cases h : 4 < (cuts b).length
  · rw [if_pos h, if_pos (by omega)]
  · rw [if_neg h, if_neg (by omega)]
theorem slSave_lay {D : Dk} (h12 : D.secs.length = 12) (gen : Nat) (hg : gen ≠ 0) (b : List UInt8) (hf : (cuts b).length ≤ 4) : slSave D ((1 : Nat) : Int) ((4 : Nat) : Int) gen b = slLay D (1 + 4 * (gen % 2)) (cutF gen 0 b) := by
  have hc : slCode D.secs.length ((1 : Nat) : Int) ((4 : Nat) : Int) gen b = 0 := by rw [h12, slCode_cases gen hg, if_neg (by omega)]
  unfold slSave
  rw [hc, if_pos rfl]
  congr 1
theorem cutF_epoch (gen : Nat) (b : List UInt8) (hc : (cuts b).length ≤ 4) : ∀ f ∈ cutF gen 0 b, f.epoch = gen := fun f hf => by
  obtain ⟨i, hi, rfl⟩ := List.mem_iff_getElem.1 hf
  have hi' : i < (cuts b).length := by simpa using hi
  have h := cutF_at gen b i hi' (by omega)
  rw [List.getElem?_eq_getElem hi] at h
  rw [Option.some.inj h]
theorem lay_read {D : Dk} {base gen : Nat} {b : List UInt8} (hc : (cuts b).length ≤ 4) (i : Nat) : (slLay D base (cutF gen 0 b)).read i = D.read i ∨ ∃ f ∈ cutF gen 0 b, (slLay D base (cutF gen 0 b)).read i = f.pack := by
  by_cases h : i < base ∨ base + (cutF gen 0 b).length ≤ i
  · exact .inl (slLay_other _ _ _ _ h)
  · obtain ⟨j, rfl⟩ : ∃ j, i = base + j := ⟨i - base, by omega⟩
    have hj : j < (cutF gen 0 b).length := by omega
    exact .inr ⟨_, List.getElem_mem hj, slLay_at _ _ _ j hj (cutF_body gen 0 b)⟩
theorem Bk.yes {D : Dk} {k last : Nat} {old b : List UInt8} (B : Bk D k last old) (hk : k < 20) (hc : (cuts b).length ≤ 4) : Bk (slSave D ((1 : Nat) : Int) ((4 : Nat) : Int) (last + 1) b) (k + 1) (last + 1) b := by
  have hle := B.le
  have hcode : slCode D.secs.length ((1 : Nat) : Int) ((4 : Nat) : Int) (last + 1) b = 0 := by rw [B.size, slCode_cases _ (by omega), if_neg (by omega)]
  refine ⟨save_ok B.ok 1 4 _ b, by rw [save_secs]; exact B.size, ?_, by omega, fun h => by omega, ?_, fun x hx => ?_, fun i h1 h2 => ?_⟩
  · have := save_row4 D (last + 1) b; have := B.row; omega
  · rw [if_neg (by omega)]; exact slHas_save D 1 4 (last + 1) (by omega) (by omega) b hcode (by omega)
  · rw [slHas_other D 1 4 (last + 1) _ (by omega) (by omega) b, show (last + 1 + 1) % 2 = last % 2 by omega, B.has] at hx
    split at hx
    · cases hx
    · cases hx; show last < last + 1; omega
  · rw [slSave_lay B.size _ (by omega) b hc]
    rcases lay_read (D := D) (base := 1 + 4 * ((last + 1) % 2)) (gen := last + 1) hc i with h | ⟨f, hf, h⟩
    · rw [h]; have := B.ep i h1 h2; omega
    · rw [h, Fr.parse_pack (cutF_oks (last + 1) 0 (by omega) b f hf) (cutF_body _ _ _ f hf), cutF_epoch _ b hc f hf]; omega
theorem Bk.no {D : Dk} {k last : Nat} {old b : List UInt8} (B : Bk D k last old) (hc : 4 < (cuts b).length) : Bk (slSave D ((1 : Nat) : Int) ((4 : Nat) : Int) (last + 1) b) (k + 1) last old := by
  have hcode : slCode D.secs.length ((1 : Nat) : Int) ((4 : Nat) : Int) (last + 1) b = 3 := by rw [B.size, slCode_cases _ (by omega), if_pos hc]
  have h0 : slSave D ((1 : Nat) : Int) ((4 : Nat) : Int) (last + 1) b = D := by unfold slSave; rw [hcode]; rfl
  rw [h0]
  exact ⟨B.ok, B.size, by have := B.row; omega, by have := B.le; omega, B.zero, B.has, B.other, B.ep⟩
theorem load_two {D : Dk} {last : Nat} {old : List UInt8} (has : slHas D 1 4 (last % 2) = if last = 0 then none else some (last, old)) (other : ∀ x, slHas D 1 4 ((last + 1) % 2) = some x → x.1 < last) :
    slLoadO (slHas D 1 4 0) (slHas D 1 4 1) = if last = 0 then none else some (last, old) := by
  have hp : last % 2 = 0 ∧ (last + 1) % 2 = 1 ∨ last % 2 = 1 ∧ (last + 1) % 2 = 0 := by omega
  rcases hp with ⟨h1, h2⟩ | ⟨h1, h2⟩
  · rw [h1] at has; rw [h2] at other
    rw [has]
    unfold slLoadO
    cases ho : slHas D 1 4 1 with
    | none => simp
    | some x =>
      have := other x ho
      rw [if_neg (show ¬ last = 0 by omega), if_neg (by
        intro h
        simp only [Option.isSome_some, Bool.not_true, Bool.false_or, Bool.true_and] at h
        have h4 : last < x.1 := of_decide_eq_true h
        omega)]
  · rw [h1] at has; rw [h2] at other
    rw [has]
    have hl : ¬ last = 0 := by omega
    rw [if_neg hl]
    unfold slLoadO
    cases ho : slHas D 1 4 0 with
    | none => simp
    | some x =>
      have := other x ho
      rw [if_pos (by
        have h4 : decide (slGen (some x) < slGen (some (last, old))) = true := decide_eq_true this
        rw [h4]; rfl)]
theorem Bk.load {D : Dk} {k last : Nat} {old : List UInt8} (B : Bk D k last old) : slLoadO (slHas D 1 4 0) (slHas D 1 4 1) = if last = 0 then none else some (last, old) := load_two B.has B.other
/-- A crash: each sector is as it was, or has one of the writes. -/
theorem upTo_or (D : Dk) (keep : Nat → Bool) (i : Nat) : ∀ k, k ≤ D.row.length → (D.upTo keep k).getD i [] = D.secs.getD i [] ∨ ∃ x ∈ D.row, x.1 = i ∧ (D.upTo keep k).getD i [] = x.2
  | 0, _ => .inl rfl
  | k + 1, hk => by
    have ih := upTo_or D keep i k (by omega)
    rw [Dk.upTo_succ D keep k hk]
    split
    · by_cases h : D.row[k].1 = i
      · by_cases hl : i < (D.upTo keep k).length
        · refine .inr ⟨D.row[k], List.getElem_mem hk, h, ?_⟩
          rw [List.getD_eq_getElem?_getD, h, List.getElem?_set_self hl]; rfl
        · rw [List.set_eq_of_length_le (by omega)]; exact ih
      · rw [List.getD_eq_getElem?_getD, List.getElem?_set_ne h, ← List.getD_eq_getElem?_getD]; exact ih
    · exact ih
theorem crash_or (D : Dk) (keep : Nat → Bool) (i : Nat) : (D.crash keep).read i = D.secs.getD i [] ∨ ∃ x ∈ D.row, x.1 = i ∧ (D.crash keep).read i = x.2 := upTo_or D keep i _ (Nat.le_refl _)
theorem slLay_row : ∀ (l : List Fr) (D : Dk) (base : Nat), (∀ f ∈ l, f.body.length ≤ 50) → ∀ x ∈ (slLay D base l).row, x ∈ D.row ∨ ∃ j, ∃ h : j < l.length, x.1 = base + j ∧ x.2 = l[j].pack
  | [], D, base, _, x, hx => .inl hx
  | f :: l, D, base, hb, x, hx => by
    rcases slLay_row l (D.write base f.pack) (base + 1) (fun g hg => hb g (List.mem_cons_of_mem _ hg)) x hx with h | ⟨j, hj, h1, h2⟩
    · rcases List.mem_append.1 h with h | h
      · exact .inl h
      · rw [List.mem_singleton] at h
        subst h
        exact .inr ⟨0, by simp, rfl, by show pad f.pack = f.pack; exact pad_full' (Fr.pack_length (hb f List.mem_cons_self))⟩
    · exact .inr ⟨j + 1, by simpa using hj, by omega, by simpa using h2⟩
/-- A slot whose sectors are a record's frames, or of other numbers: the record, or nothing. -/
theorem slOne_mixed (gen which : Nat) (hg0 : gen ≠ 0) (hg : gen < 4294967296) (hw : gen % 2 = which) (b : List UInt8) (hc : (cuts b).length < 4294967296) (rd : Nat → List UInt8)
    (hrd : ∀ j, (∃ f, (cutF gen 0 b)[j]? = some f ∧ rd j = f.pack) ∨ (Fr.parse (rd j)).epoch < gen) : ∀ (fuel i : Nat) (body : List UInt8), i < (cuts b).length → 0 < i →
      slOne rd which fuel i gen body = some (gen, body ++ ((cuts b).drop i).flatten) ∨ slOne rd which fuel i gen body = none
  | 0, _, _, _, _ => .inr rfl
  | fuel + 1, i, body, hi, h0 => by
    unfold slOne
    dsimp only
    rw [if_neg (show ¬ i = 0 by omega)]
    rcases hrd i with ⟨f, hf, hr⟩ | hr
    · rw [cutF_at gen b i hi hc] at hf
      cases hf
      have hbl : (cuts b)[i].length ≤ 50 := cuts_len _ b (Nat.le_refl _) _ (List.getElem_mem hi)
      have hok : (⟨gen, i, flagAt i (cuts b).length, (cuts b)[i]⟩ : Fr).Ok := ⟨hg, by show i < 4294967296; omega⟩
      have hp := Fr.parse_pack hok hbl
      have hcd := Fr.code_pack hok hbl
      have f2 := flagAt_2 i (cuts b).length
      have hdrop : ((cuts b).drop i).flatten = (cuts b)[i] ++ ((cuts b).drop (i + 1)).flatten := by
        rw [List.drop_eq_getElem_cons hi, List.flatten_cons]
      rw [hr, hp, hcd]
      dsimp only
      split
      · rw [f2]
        by_cases hl : i = (cuts b).length - 1
        · rw [if_pos (by simp [hl])]
          have hd : (cuts b).drop (i + 1) = [] := List.drop_eq_nil_of_le (by omega)
          rw [hdrop, hd]; simp
        · rw [if_neg (by simp [hl]), hdrop, ← List.append_assoc]
          exact slOne_mixed gen which hg0 hg hw b hc rd hrd fuel (i + 1) _ (by omega) (by omega)
      · exact .inr rfl
    · rw [if_neg]
      · exact .inr rfl
      · unfold slNext
        have : ¬ (Fr.parse (rd i)).epoch = gen := by omega
        simp [this]
theorem slOne_gen (which : Nat) (rd : Nat → List UInt8) : ∀ (fuel i g : Nat) (body : List UInt8) (x : Nat × List UInt8), slOne rd which fuel i g body = some x → (i = 0 ∨ g = x.1) ∧ (i = 0 → x.1 = (Fr.parse (rd 0)).epoch) ∧ x.1 ≠ 0 ∧ x.1 % 2 = which
  | 0, _, _, _, _, h => by cases h
  | fuel + 1, i, g, body, x, h => by
    unfold slOne at h
    dsimp only at h
    obtain ⟨g', hg⟩ : ∃ g', (if i = 0 then (Fr.parse (rd i)).epoch else g) = g' := ⟨_, rfl⟩
    rw [hg] at h
    by_cases hn : slNext which i g' (Fr.parse (rd i)) (Fr.code (rd i)) = true
    · rw [if_pos hn] at h
      have hn' := hn
      unfold slNext at hn'
      simp only [Bool.and_eq_true, decide_eq_true_eq] at hn'
      obtain ⟨⟨⟨⟨⟨_, n1⟩, n2⟩, n3⟩, n4⟩, n5⟩ := hn'
      have key : x.1 = g' := by
        by_cases hf : ((Fr.parse (rd i)).flag &&& 2 != 0) = true
        · rw [if_pos hf] at h
          exact (congrArg Prod.fst (Option.some.inj h)).symm
        · rw [if_neg hf] at h
          exact ((slOne_gen which rd fuel (i + 1) _ _ x h).1.resolve_left (by omega)).symm
      refine ⟨?_, fun h0 => ?_, by rw [key]; exact n1, by rw [key]; exact n2⟩
      · by_cases h0 : i = 0
        · exact .inl h0
        · rw [if_neg h0] at hg; exact .inr (hg.trans key.symm)
      · subst h0; rw [if_pos rfl] at hg; exact key.trans hg.symm
    · rw [if_neg hn] at h; cases h
/-- Behind a crash in the midst of a saving: the new one whole, or the one ahead of it. -/
theorem Bk.crash {D : Dk} {k last : Nat} {old b : List UInt8} (B : Bk D k last old) (hk : k ≤ 20) (hrow : D.row = []) (hc : (cuts b).length ≤ 4) (keep : Nat → Bool) :
    let E := (slSave D ((1 : Nat) : Int) ((4 : Nat) : Int) (last + 1) b).crash keep
    slLoadO (slHas E 1 4 0) (slHas E 1 4 1) = some (last + 1, b) ∨ slLoadO (slHas E 1 4 0) (slHas E 1 4 1) = if last = 0 then none else some (last, old) := by
  have hle := B.le
  intro E
  have hE : E = (slLay D (1 + 4 * ((last + 1) % 2)) (cutF (last + 1) 0 b)).crash keep := by
    show (slSave D ((1 : Nat) : Int) ((4 : Nat) : Int) (last + 1) b).crash keep = _
    rw [slSave_lay B.size _ (by omega) b hc]
  have hold : ∀ i, D.secs.getD i [] = D.read i := fun i => by unfold Dk.read; rw [hrow]; rfl
  have hread : ∀ i, E.read i = D.read i ∨ ∃ j, ∃ h : j < (cutF (last + 1) 0 b).length, i = 1 + 4 * ((last + 1) % 2) + j ∧ E.read i = ((cutF (last + 1) 0 b)[j]).pack := fun i => by
    rw [hE]
    rcases crash_or (slLay D (1 + 4 * ((last + 1) % 2)) (cutF (last + 1) 0 b)) keep i with h | ⟨x, hx, h1, h2⟩
    · rw [slLay_secs, hold] at h; exact .inl h
    · rcases slLay_row _ _ _ (cutF_body (last + 1) 0 b) x hx with h | ⟨j, hj, h3, h4⟩
      · rw [hrow] at h; cases h
      · exact .inr ⟨j, hj, by omega, by rw [h2, h4]⟩
  have hlen : (cutF (last + 1) 0 b).length ≤ 4 := by rw [cutF_length]; exact hc
  have hOther : slHas E 1 4 (last % 2) = slHas D 1 4 (last % 2) := slHas_congr 1 4 _ fun j hj => by
    rcases hread (1 + 4 * (last % 2) + j) with h | ⟨m, hm, h1, _⟩
    · exact h
    · omega
  have hpos : 0 < (cuts b).length := List.length_pos_iff.2 (cuts_ne b)
  have hslot : ∀ j, j < 4 → (∃ f, (cutF (last + 1) 0 b)[j]? = some f ∧ E.read (1 + 4 * ((last + 1) % 2) + j) = f.pack) ∨ (Fr.parse (E.read (1 + 4 * ((last + 1) % 2) + j))).epoch < last + 1 := fun j hj => by
    rcases hread (1 + 4 * ((last + 1) % 2) + j) with h | ⟨m, hm, h1, h2⟩
    · rw [h]; exact .inr (by have := B.ep (1 + 4 * ((last + 1) % 2) + j) (by omega) (by omega); omega)
    · have : m = j := by omega
      subst this
      exact .inl ⟨_, List.getElem?_eq_getElem hm, h2⟩
  have hslot' : ∀ j, (∃ f, (cutF (last + 1) 0 b)[j]? = some f ∧ (fun j => if j < 4 then E.read (1 + 4 * ((last + 1) % 2) + j) else []) j = f.pack) ∨ (Fr.parse ((fun j => if j < 4 then E.read (1 + 4 * ((last + 1) % 2) + j) else []) j)).epoch < last + 1 := fun j => by
    dsimp only
    by_cases hj : j < 4
    · rw [if_pos hj]; exact hslot j hj
    · rw [if_neg hj]
      refine .inr ?_
      have : Fr.is [] = false := by decide
      simp only [Fr.parse, this]
      show (0 : Nat) < last + 1
      omega
  have hHasE : slHas E 1 4 ((last + 1) % 2) = slOne (fun j => if j < 4 then E.read (1 + 4 * ((last + 1) % 2) + j) else []) ((last + 1) % 2) 4 0 0 [] := slOne_congr _ 4 0 0 [] fun j _ hj => by
    (try dsimp only)
    rw [if_pos (by omega)]
  have hmain : slHas E 1 4 ((last + 1) % 2) = some (last + 1, b) ∨ ∀ x, slHas E 1 4 ((last + 1) % 2) = some x → x.1 < last := by
    rw [hHasE]
    generalize (fun j => if j < 4 then E.read (1 + 4 * ((last + 1) % 2) + j) else ([] : List UInt8)) = rd at hslot'
    rcases hslot' 0 with ⟨f, hf, hr⟩ | hr
    · rw [cutF_at (last + 1) b 0 hpos (by omega)] at hf
      cases hf
      have hbl : (cuts b)[0].length ≤ 50 := cuts_len _ b (Nat.le_refl _) _ (List.getElem_mem hpos)
      have hok : (⟨last + 1, 0, flagAt 0 (cuts b).length, (cuts b)[0]⟩ : Fr).Ok := ⟨by show last + 1 < 4294967296; omega, by show 0 < 4294967296; omega⟩
      have hp := Fr.parse_pack hok hbl
      have hcd := Fr.code_pack hok hbl
      have f2 := flagAt_2 0 (cuts b).length
      have hjoin : b = (cuts b)[0] ++ ((cuts b).drop 1).flatten := by
        have h1 := cuts_join _ b (Nat.le_refl _)
        have h2 : (cuts b).drop 0 = (cuts b)[0] :: (cuts b).drop 1 := List.drop_eq_getElem_cons hpos
        rw [List.drop_zero] at h2
        rw [h2, List.flatten_cons] at h1
        exact h1.symm
      rw [show (4 : Nat) = 3 + 1 from rfl]
      unfold slOne
      dsimp only
      rw [hr, hp, hcd]
      dsimp only
      rw [show (if (0 : Nat) = 0 then last + 1 else 0) = last + 1 from rfl, f2, List.nil_append]
      by_cases hn : slNext ((last + 1) % 2) 0 (last + 1) ⟨last + 1, 0, flagAt 0 (cuts b).length, (cuts b)[0]⟩ 0 = true
      · rw [if_pos hn]
        by_cases hl : 0 = (cuts b).length - 1
        · rw [if_pos (decide_eq_true hl)]
          have hd : (cuts b).drop 1 = [] := List.drop_eq_nil_of_le (by omega)
          have hb : b = (cuts b)[0] := hjoin.trans (by rw [hd]; simp)
          exact .inl (congrArg (fun z => some (last + 1, z)) hb.symm)
        · rw [if_neg (by rw [decide_eq_true_eq]; exact hl)]
          rcases slOne_mixed (last + 1) ((last + 1) % 2) (by omega) (by omega) rfl b (by omega) rd hslot' 3 1 (cuts b)[0] (by omega) (by omega) with h | h
          · exact .inl (h.trans (congrArg (fun z => some (last + 1, z)) hjoin.symm))
          · exact .inr fun x hx => by rw [show (0 : Nat) + 1 = 1 from rfl, h] at hx; cases hx
      · rw [if_neg hn]; exact .inr fun x hx => by cases hx
    · refine .inr fun x hx => ?_
      obtain ⟨_, h2, h3, h4⟩ := slOne_gen _ rd 4 0 0 [] x hx
      have := h2 rfl
      omega
  rcases hmain with h | h
  · left
    have h5 := load_two (D := E) (last := last + 1) (old := b) (by rw [if_neg (by omega)]; exact h) (fun x hx => by
      rw [show (last + 1 + 1) % 2 = last % 2 by omega, hOther, B.has] at hx
      split at hx
      · cases hx
      · cases hx; show last < last + 1; omega)
    rw [if_neg (by omega)] at h5
    exact h5
  · right
    exact load_two (by rw [hOther]; exact B.has) h
theorem Bk.sync {D : Dk} {k last : Nat} {old : List UInt8} (B : Bk D k last old) : Bk D.sync k last old := by
  have hr : ∀ i, i < 12 → D.sync.read i = D.read i := fun i hi => Dk.sync_read' B.ok i (by rw [B.size]; exact hi)
  refine ⟨Dk.crash_ok B.ok _, by simp [B.size], by simp, B.le, B.zero, ?_, fun x hx => ?_, fun i h1 h2 => by rw [hr i (by omega)]; exact B.ep i h1 h2⟩
  · rw [has_sync B.ok B.size 1 4 _ (by omega)]; exact B.has
  · rw [has_sync B.ok B.size 1 4 _ (by omega)] at hx; exact B.other x hx
end Go.Proofs.Ytfpgmnnecnaheaa
