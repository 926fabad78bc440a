/- A ring's disk behind deeds, and behind a crash: what is found; plain laws; no Go in it. -/
import Derived.Test.YtimknlabhhopcaaScP
import Derived.Test.YtimknlabhhopcaaRgP
import Derived.Test.YtimknlabhhopcaaRgDeeds
set_option linter.unusedVariables false
set_option linter.unusedSimpArgs false
namespace Go.Proofs.Ytimknlabhhopcaa
/-! What a sector may have behind a crash. -/
def Vers (D : Dk) (i : Nat) (v : List UInt8) : Prop := v = D.secs.getD i [] ∨ ∃ x ∈ D.row, x.1 = i ∧ v = x.2
theorem fold_or (i : Nat) : ∀ (l : List (Nat × List UInt8)) (b : List UInt8), l.foldl (fun b x => if x.1 = i then x.2 else b) b = b ∨ ∃ x ∈ l, x.1 = i ∧ l.foldl (fun b x => if x.1 = i then x.2 else b) b = x.2
  | [], b => .inl rfl
  | x :: l, b => by
    rw [List.foldl_cons]
    rcases fold_or i l (if x.1 = i then x.2 else b) with h | ⟨y, hy, h1, h2⟩
    · rw [h]
      by_cases hx : x.1 = i
      · rw [if_pos hx]; exact .inr ⟨x, List.mem_cons_self, hx, rfl⟩
      · rw [if_neg hx]; exact .inl rfl
    · exact .inr ⟨y, List.mem_cons_of_mem _ hy, h1, h2⟩
theorem vers_read (D : Dk) (i : Nat) : Vers D i (D.read i) := fold_or i D.row _
theorem upTo_orS (D : Dk) (keep : Nat → Bool) (i : Nat) : ∀ k, k ≤ D.row.length → (D.upTo keep k).getD i [] = D.secs.getD i [] ∨ ∃ x ∈ D.row, x.1 = i ∧ (D.upTo keep k).getD i [] = x.2
  | 0, _ => .inl rfl
  | k + 1, hk => by
    have ih := upTo_orS D keep i k (by omega)
    rw [Dk.upTo_succ D keep k hk]
    split
    · by_cases h : D.row[k].1 = i
      · by_cases hl : i < (D.upTo keep k).length
        · refine .inr ⟨D.row[k], List.getElem_mem hk, h, ?_⟩
          rw [List.getD_eq_getElem?_getD, h, List.getElem?_set_self hl]; rfl
        · rw [List.set_eq_of_length_le (by omega)]; exact ih
      · rw [List.getD_eq_getElem?_getD, List.getElem?_set_ne h, ← List.getD_eq_getElem?_getD]; exact ih
    · exact ih
theorem vers_crash (D : Dk) (keep : Nat → Bool) (i : Nat) : Vers D i ((D.crash keep).read i) := upTo_orS D keep i _ (Nat.le_refl _)
theorem vers_bare {D : Dk} (h : D.row = []) {i : Nat} {v : List UInt8} (hv : Vers D i v) : v = D.read i := by
  rcases hv with h2 | ⟨x, hx, _⟩
  · unfold Dk.read; rw [h]; exact h2
  · rw [h] at hx; cases hx
theorem upTo_seenS {D : Dk} (ok : D.Ok) (i : Nat) (hi : i < D.secs.length) : ∀ k, k ≤ D.row.length → (D.upTo (fun _ => true) k).getD i [] = D.seen i k
  | 0, _ => rfl
  | k + 1, hk => by
    rw [Dk.upTo_succ D _ k hk, Dk.seen_succ D i k hk, if_pos rfl]
    have hlen : i < (D.upTo (fun _ => true) k).length := by rw [Dk.upTo_length]; exact hi
    have ih := upTo_seenS ok i hi k (by omega)
    by_cases h : D.row[k].1 = i
    · rw [if_pos h, List.getD_eq_getElem?_getD, h, List.getElem?_set_self hlen]; rfl
    · rw [if_neg h, ← ih, List.getD_eq_getElem?_getD, List.getElem?_set_ne h, List.getD_eq_getElem?_getD]
theorem sync_readS {D : Dk} (ok : D.Ok) (i : Nat) (hi : i < D.secs.length) : D.sync.read i = D.read i := by
  rw [← Dk.seen_all D, ← upTo_seenS ok i hi _ (Nat.le_refl _)]
  rfl
theorem pad_fullS {l : List UInt8} (h : l.length = 64) : pad l = l := by simp [pad, h]
theorem lay_vers (R : Rg) : ∀ (l : List Fr) (D : Dk) (i : Nat) (v : List UInt8), Vers (R.lay D l) i v → Vers D i v ∨ ∃ f ∈ l, R.at_ f.seq = i ∧ v = pad f.pack := fun l D i v h => by
  rcases h with h | ⟨x, hx, h1, h2⟩
  · rw [Rg.lay_size] at h; exact .inl (.inl h)
  · rw [Rg.lay_row] at hx
    rcases List.mem_append.1 hx with hx | hx
    · exact .inl (.inr ⟨x, hx, h1, h2⟩)
    · obtain ⟨f, hf, rfl⟩ := List.mem_map.1 hx
      exact .inr ⟨f, hf, h1, h2⟩
theorem write_readS (D : Dk) (a : Nat) (x : List UInt8) (i : Nat) : (D.write a x).read i = if a = i then pad x else D.read i := by
  unfold Dk.read Dk.write; simp [List.foldl_append]
theorem lay_otherS (R : Rg) (i : Nat) : ∀ (l : List Fr) (D : Dk), (∀ f ∈ l, R.at_ f.seq ≠ i) → (R.lay D l).read i = D.read i
  | [], D, _ => rfl
  | f :: l, D, h => by
    rw [Rg.lay, List.foldl_cons, ← Rg.lay, lay_otherS R i l _ fun g hg => h g (List.mem_cons_of_mem _ hg), write_readS, if_neg (h f List.mem_cons_self)]
theorem lay_atS (R : Rg) : ∀ (l : List Fr) (D : Dk) (j : Nat) (hj : j < l.length), (∀ k (hk : k < l.length), j < k → R.at_ l[k].seq ≠ R.at_ l[j].seq) → (R.lay D l).read (R.at_ l[j].seq) = pad l[j].pack
  | f :: l, D, 0, hj, h => by
    rw [Rg.lay, List.foldl_cons, ← Rg.lay, lay_otherS R _ l _ fun g hg => by
      obtain ⟨k, hk, rfl⟩ := List.mem_iff_getElem.1 hg
      exact h (k + 1) (by simp; omega) (by omega), write_readS]
    simp
  | f :: l, D, j + 1, hj, h => by
    rw [Rg.lay, List.foldl_cons, ← Rg.lay]
    exact lay_atS R l _ j (by simpa using hj) fun k hk hjk => h (k + 1) (by simp; omega) (by omega)
/-- What stands in a ring's sectors, and what may stand there behind a crash. -/
structure ScInv (R : Rg) (rl : List Rcd) (sy : Nat) : Prop where
  ok : R.Ok
  f2 : R.first = 2
  m8 : R.many = 8
  e3 : R.epoch = 3
  s12 : R.D.secs.length = 12
  chain : Good R.low rl R.next
  vers : ∀ i v, 2 ≤ i → i < 10 → Vers R.D i v → v = List.replicate 64 0 ∨ ∃ f : Fr, v = f.pack ∧ f.Ok ∧ f.body.length ≤ 50 ∧ f.epoch = 3 ∧ f.seq < R.next ∧ (R.low ≤ f.seq → (chainF R.low rl)[f.seq - R.low]? = some f)
  reads : ∀ n, R.low ≤ n → n < R.next → ∃ f : Fr, (chainF R.low rl)[n - R.low]? = some f ∧ f.Ok ∧ f.body.length ≤ 50 ∧ f.epoch = 3 ∧ f.seq = n ∧ R.D.read (2 + n % 8) = f.pack
  few : sy ≤ rl.length
  synced : ∀ n, R.low ≤ n → n < endAt R.low rl sy → ∀ v, Vers R.D (2 + n % 8) v → v = R.D.read (2 + n % 8)
namespace ScInv
theorem sync {R : Rg} {rl : List Rcd} {sy : Nat} (I : ScInv R rl sy) : ScInv R.sync rl rl.length := by
  have hbare : R.sync.D.row = [] := rfl
  have hrd : ∀ i, 2 ≤ i → i < 10 → R.sync.D.read i = R.D.read i := fun i h1 h2 => sync_readS I.ok.disk i (by rw [I.s12]; omega)
  refine ⟨Rg.sync_ok I.ok, I.f2, I.m8, I.e3, by simpa [Rg.sync] using I.s12, I.chain, fun i v h1 h2 hv => ?_, fun n h1 h2 => ?_, Nat.le_refl _, fun n h1 h2 v hv => vers_bare hbare hv⟩
  · have := vers_bare hbare hv
    rw [hrd i h1 h2] at this
    exact I.vers i v h1 h2 (this ▸ vers_read R.D i)
  · obtain ⟨f, g1, g2, g3, g4, g5, g6⟩ := I.reads n h1 h2
    exact ⟨f, g1, g2, g3, g4, g5, by rw [hrd _ (by omega) (by omega)]; exact g6⟩
theorem cut {R : Rg} {rl : List Rcd} {sy : Nat} (I : ScInv R rl sy) (k : Nat) (hk : k ≤ rl.length) : ScInv (R.cut (endAt R.low rl k)) (rl.drop k) (sy - k) := by
  obtain ⟨b1, b2⟩ := endAt_bd rl R.low R.next I.chain k hk
  obtain ⟨d1, d2⟩ := good_drop rl R.low R.next I.chain k hk
  have hlow : (R.cut (endAt R.low rl k)).low = endAt R.low rl k := by
    unfold Rg.cut
    split
    · rfl
    · cases k with
      | zero => rfl
      | succ k => omega
  refine ⟨Rg.cut_ok I.ok _, by simpa using I.f2, by simpa using I.m8, by simpa using I.e3, by simpa using I.s12, by rw [hlow, Rg.cut_next]; exact d1, fun i v h1 h2 hv => ?_, fun n h1 h2 => ?_, by rw [List.length_drop]; have := I.few; omega, fun n h1 h2 v hv => ?_⟩
  · rw [Rg.cut_D] at hv
    rcases I.vers i v h1 h2 hv with h | ⟨f, g1, g2, g3, g4, g5, g6⟩
    · exact .inl h
    · refine .inr ⟨f, g1, g2, g3, g4, by rw [Rg.cut_next]; exact g5, fun hl => ?_⟩
      rw [hlow] at hl ⊢
      rw [d2, List.getElem?_drop, ← g6 (by omega)]
      congr 1; omega
  · rw [hlow] at h1 ⊢
    rw [Rg.cut_next] at h2
    rw [Rg.cut_D]
    obtain ⟨f, g1, g2⟩ := I.reads n (by omega) h2
    refine ⟨f, ?_, g2⟩
    rw [d2, List.getElem?_drop, ← g1]
    congr 1; omega
  · rw [hlow] at h1 h2
    rw [Rg.cut_D] at hv ⊢
    by_cases hsk : k ≤ sy
    · rw [endAt_drop rl R.low k _ hk, show k + (sy - k) = sy by omega] at h2
      exact I.synced n (by omega) h2 v hv
    · rw [show sy - k = 0 by omega] at h2
      have : endAt (endAt R.low rl k) (rl.drop k) 0 = endAt R.low rl k := rfl
      omega
theorem appendNo {R : Rg} {rl : List Rcd} {sy : Nat} (I : ScInv R rl sy) (rec : List UInt8) (hc : R.code rec ≠ 0) : R.append rec = R := by unfold Rg.append; rw [if_neg hc]
theorem room {R : Rg} {rec : List UInt8} (h : R.code rec = 0) : (cuts rec).length ≤ R.free ∧ R.next + (cuts rec).length ≤ 1073741824 := by
  unfold Rg.code at h
  split at h
  · omega
  · split at h
    · omega
    · omega
theorem append {R : Rg} {rl : List Rcd} {sy : Nat} (I : ScInv R rl sy) (rec : List UInt8) (hc : R.code rec = 0) : ScInv (R.append rec) (rl ++ [(rec, R.next + (cuts rec).length)]) sy := by
  obtain ⟨g1, g2⟩ := room hc
  obtain ⟨c1, c2⟩ := good_snoc rl R.low R.next rec I.chain
  have hl := chain_len rl R.low R.next I.chain
  have hlo := I.ok.lo
  have hfew := I.ok.few
  unfold Rg.free at g1
  rw [I.m8] at g1 hfew
  have happ : R.append rec = { R with D := R.lay R.D (R.frames rec), next := R.next + (cuts rec).length } := by unfold Rg.append; rw [hc]; rfl
  have hfl : (R.frames rec).length = (cuts rec).length := by simp [Rg.frames]
  have hfr : ∀ j (hj : j < (cuts rec).length), (R.frames rec)[j]'(by omega) = ⟨3, R.next + j, flagOf j (cuts rec).length, (cuts rec)[j]⟩ := fun j hj => by
    have := fr_at R.next rec g2 j hj
    have e2 : (cutF 3 R.next rec) = R.frames rec := by unfold Rg.frames; rw [I.e3]
    rw [e2, List.getElem?_eq_getElem (by omega)] at this
    exact Option.some.inj this
  have hat : ∀ n, R.at_ n = 2 + n % 8 := fun n => by unfold Rg.at_; rw [I.f2, I.m8]
  have hspare : ∀ n, R.low ≤ n → n < R.next → ∀ f ∈ R.frames rec, R.at_ f.seq ≠ 2 + n % 8 := fun n h1 h2 f hf => by
    obtain ⟨j, hj, rfl⟩ := List.mem_iff_getElem.1 hf
    rw [hfr j (by omega), hat]
    show 2 + (R.next + j) % 8 ≠ 2 + n % 8
    omega
  have hok' := Rg.append_ok I.ok rec
  have hbody : ∀ j (hj : j < (cuts rec).length), (cuts rec)[j].length ≤ 50 := fun j hj => cuts_len _ rec (Nat.le_refl _) _ (List.getElem_mem hj)
  have hfok : ∀ j (hj : j < (cuts rec).length), (⟨3, R.next + j, flagOf j (cuts rec).length, (cuts rec)[j]⟩ : Fr).Ok := fun j hj => ⟨by show 3 < 4294967296; omega, by show R.next + j < 4294967296; omega⟩
  have hchain : ∀ j, j < (cuts rec).length → (chainF R.low (rl ++ [(rec, R.next + (cuts rec).length)]))[R.next + j - R.low]? = (cutF 3 R.next rec)[j]? := fun j hj => by
    rw [c2, List.getElem?_append_right (by omega), hl]
    congr 1; omega
  have hchain0 : ∀ m, m < R.next - R.low → (chainF R.low (rl ++ [(rec, R.next + (cuts rec).length)]))[m]? = (chainF R.low rl)[m]? := fun m hm => by
    rw [c2, List.getElem?_append_left (by omega)]
  rw [happ] at hok' ⊢
  refine ⟨hok', I.f2, I.m8, I.e3, by simpa using I.s12, c1, fun i v h1 h2 hv => ?_, fun n h1 h2 => ?_, by rw [List.length_append]; have := I.few; omega, fun n h1 h2 v hv => ?_⟩
  · rcases lay_vers R _ _ _ _ hv with hv | ⟨f, hf, ha, rfl⟩
    · rcases I.vers i v h1 h2 hv with h | ⟨f, k1, k2, k3, k4, k5, k6⟩
      · exact .inl h
      · refine .inr ⟨f, k1, k2, k3, k4, by show f.seq < R.next + (cuts rec).length; omega, fun hl2 => ?_⟩
        rw [← k6 hl2]
        exact hchain0 (f.seq - R.low) (by have h9 : R.low ≤ f.seq := hl2; omega)
    · obtain ⟨j, hj, rfl⟩ := List.mem_iff_getElem.1 hf
      have hj' : j < (cuts rec).length := by omega
      rw [hfr j hj', pad_fullS (Fr.pack_length (hbody j hj'))]
      refine .inr ⟨_, rfl, hfok j hj', hbody j hj', rfl, by show R.next + j < R.next + (cuts rec).length; omega, fun _ => ?_⟩
      show (chainF R.low (rl ++ [(rec, R.next + (cuts rec).length)]))[R.next + j - R.low]? = _
      rw [hchain j hj', fr_at R.next rec g2 j hj']
  · have h1' : R.low ≤ n := h1
    have h2' : n < R.next + (cuts rec).length := h2
    by_cases hn : n < R.next
    · obtain ⟨f, k1, k2, k3, k4, k5, k6⟩ := I.reads n h1' hn
      refine ⟨f, by rw [← k1]; exact hchain0 (n - R.low) (by omega), k2, k3, k4, k5, ?_⟩
      show (R.lay R.D (R.frames rec)).read (2 + n % 8) = f.pack
      rw [lay_otherS R _ _ _ (hspare n h1' hn), k6]
    · obtain ⟨j, rfl⟩ : ∃ j, n = R.next + j := ⟨n - R.next, by omega⟩
      have hj' : j < (cuts rec).length := by omega
      refine ⟨⟨3, R.next + j, flagOf j (cuts rec).length, (cuts rec)[j]⟩, ?_, hfok j hj', hbody j hj', rfl, rfl, ?_⟩
      · show (chainF R.low (rl ++ [(rec, R.next + (cuts rec).length)]))[R.next + j - R.low]? = _
        rw [hchain j hj', fr_at R.next rec g2 j hj']
      · show (R.lay R.D (R.frames rec)).read (2 + (R.next + j) % 8) = _
        have key := lay_atS R (R.frames rec) R.D j (by omega) fun k hk hjk => by
          rw [hfr k (by omega), hfr j hj', hat, hat]
          show 2 + (R.next + k) % 8 ≠ 2 + (R.next + j) % 8
          omega
        rw [hfr j hj', hat, pad_fullS (Fr.pack_length (hbody j hj'))] at key
        exact key
  · have h1' : R.low ≤ n := h1
    have h2' : n < endAt R.low (rl ++ [(rec, R.next + (cuts rec).length)]) sy := h2
    rw [endAt_snoc rl R.low _ sy I.few] at h2'
    have hn : n < R.next := by have := (endAt_bd rl R.low R.next I.chain sy I.few).2; omega
    have hsp := hspare n h1' hn
    show v = (R.lay R.D (R.frames rec)).read (2 + n % 8)
    rw [lay_otherS R _ _ _ hsp]
    rcases lay_vers R _ _ _ _ hv with hv | ⟨f, hf, ha, _⟩
    · exact I.synced n h1' h2' v hv
    · exact absurd ha (hsp f hf)
end ScInv
/-! What is found. -/
theorem code_zerosS : Fr.code (List.replicate 64 0) = 2 := by
  have : Fr.is (List.replicate 64 0) = false := by decide +kernel
  simp only [Fr.code, this]; rfl
theorem scAdr8 (n : Nat) : scAdr 2 8 n = ((2 + n % 8 : Nat) : Int) := by
  unfold scAdr
  rw [IntKind.wrap_i64]
  omega
theorem scF8 (D : Dk) (h12 : D.secs.length = 12) (epoch n : Nat) : scF D 2 8 epoch n = if scIs (D.read (2 + n % 8)) epoch n then some (Fr.parse (D.read (2 + n % 8))) else none := by
  unfold scF
  rw [scAdr8]
  have : D.rbytes ((2 + n % 8 : Nat) : Int) = D.read (2 + n % 8) := by
    unfold Dk.rbytes Dk.out
    rw [h12]
    have h1 : ¬ ((2 + n % 8 : Nat) : Int) < 0 := by omega
    have h2 : ¬ (((12 : Nat) : Int) ≤ ((2 + n % 8 : Nat) : Int)) := by omega
    rw [decide_eq_false h1, decide_eq_false h2]
    rfl
  rw [this]
/-- What may be read of a sector. -/
theorem sc_read {R : Rg} {rl : List Rcd} {sy : Nat} (I : ScInv R rl sy) (D : Dk) (h12 : D.secs.length = 12) (hD : ∀ i, 2 ≤ i → i < 10 → Vers R.D i (D.read i)) (n : Nat) (hn : R.low ≤ n) : scF D 2 8 3 n = none ∨ (n < R.next ∧ scF D 2 8 3 n = (chainF R.low rl)[n - R.low]?) := by
  rw [scF8 D h12]
  rcases I.vers _ _ (by omega) (by omega) (hD (2 + n % 8) (by omega) (by omega)) with h | ⟨f, k1, k2, k3, k4, k5, k6⟩
  · left
    have : scIs (D.read (2 + n % 8)) 3 n = false := by unfold scIs; rw [h, code_zerosS]; rfl
    rw [this]; rfl
  · have e1 := Fr.parse_pack k2 k3
    have e2 := Fr.code_pack k2 k3
    by_cases hs : f.seq = n
    · right
      refine ⟨by omega, ?_⟩
      have : scIs (D.read (2 + n % 8)) 3 n = true := by unfold scIs; rw [k1, e1, e2, hs, k4]; simp
      rw [this, if_pos rfl, k1, e1, ← k6 (by omega), hs]
    · left
      have : scIs (D.read (2 + n % 8)) 3 n = false := by unfold scIs; rw [k1, e1, e2]; simp [hs]
      rw [this]; rfl
/-- With another epoch nothing is found. -/
theorem sc_epoch {R : Rg} {rl : List Rcd} {sy : Nat} (I : ScInv R rl sy) (ep : Nat) (hep : ep ≠ 3) (n : Nat) : scF R.D 2 8 ep n = none := by
  rw [scF8 R.D I.s12]
  rcases I.vers _ _ (by omega) (by omega) (vers_read R.D (2 + n % 8)) with h | ⟨f, k1, k2, k3, k4, k5, k6⟩
  · have : scIs (R.D.read (2 + n % 8)) ep n = false := by unfold scIs; rw [h, code_zerosS]; rfl
    rw [this]; rfl
  · have e1 := Fr.parse_pack k2 k3
    have e2 := Fr.code_pack k2 k3
    have : scIs (R.D.read (2 + n % 8)) ep n = false := by unfold scIs; rw [k1, e1, e2, k4]; simp [hep.symm]
    rw [this]; rfl
/-- What stands is found. -/
theorem sc_stands {R : Rg} {rl : List Rcd} {sy : Nat} (I : ScInv R rl sy) (D : Dk) (h12 : D.secs.length = 12) (n : Nat) (h1 : R.low ≤ n) (h2 : n < R.next) (h : D.read (2 + n % 8) = R.D.read (2 + n % 8)) : scF D 2 8 3 n ≠ none := by
  obtain ⟨f, _, k2, k3, k4, k5, k6⟩ := I.reads n h1 h2
  rw [scF8 D h12, h, k6]
  have e1 := Fr.parse_pack k2 k3
  have e2 := Fr.code_pack k2 k3
  have : scIs f.pack 3 n = true := by unfold scIs; rw [e1, e2, k4, k5]; simp
  rw [this]; simp
/-- From behind a record on, of any disk whose sectors have what they may have. -/
theorem sc_scan {R : Rg} {rl : List Rcd} {sy : Nat} (I : ScInv R rl sy) (D : Dk) (h12 : D.secs.length = 12) (hD : ∀ i, 2 ≤ i → i < 10 → Vers R.D i (D.read i)) (i : Nat) (hi : i ≤ rl.length) :
    ∃ k, k ≤ (rl.drop i).length ∧ scGo (scF D 2 8 3) 8 (endAt R.low rl i) (endAt R.low rl i) true [] [] = ((rl.drop i).take k, endAt R.low rl (i + k)) ∧ (∀ k', k' ≤ (rl.drop i).length → (∀ n, endAt R.low rl i ≤ n → n < endAt R.low rl (i + k') → D.read (2 + n % 8) = R.D.read (2 + n % 8)) → k' ≤ k) ∧ ∀ n, endAt R.low rl i ≤ n → n < endAt R.low rl (i + k) → scF D 2 8 3 n ≠ none := by
  obtain ⟨b1, b2⟩ := endAt_bd rl R.low R.next I.chain i hi
  obtain ⟨d1, d2⟩ := good_drop rl R.low R.next I.chain i hi
  have htop := I.ok.top
  have hfew := I.ok.few
  rw [I.m8] at hfew
  obtain ⟨k, h1, h2, h3, h4⟩ := chain_scan (scF D 2 8 3) (rl.drop i) (endAt R.low rl i) R.next d1 htop (fun n hn => by
    rcases sc_read I D h12 hD n (by omega) with h | ⟨h, h'⟩
    · exact .inl h
    · refine .inr ⟨h, ?_⟩
      rw [h', d2, List.getElem?_drop]
      congr 1; omega) 8 [] []
  refine ⟨k, h1, by rw [h2, endAt_drop rl R.low i k hi]; rfl, fun k' hk' hst => ?_, fun n hn1 hn2 => h4 n hn1 (by rw [endAt_drop rl R.low i k hi]; exact hn2)⟩
  have hb := (endAt_bd (rl.drop i) (endAt R.low rl i) R.next d1 k' hk').2
  rw [endAt_drop rl R.low i k' hi] at hb
  refine h3 k' hk' (fun n hn1 hn2 => ?_) (by rw [endAt_drop rl R.low i k' hi]; omega)
  rw [endAt_drop rl R.low i k' hi] at hn2
  exact sc_stands I D h12 n (by omega) (by omega) (hst n hn1 hn2)
end Go.Proofs.Ytimknlabhhopcaa
