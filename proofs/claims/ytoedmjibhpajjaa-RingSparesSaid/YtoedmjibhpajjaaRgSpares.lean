/- The walk of the law RingSpares. -/
import Derived.Test.YtoedmjibhpajjaaFrP2
import Derived.Test.YtoedmjibhpajjaaRgRun
import Derived.Test.YtoedmjibhpajjaaRgAwake
import Derived.Test.YtoedmjibhpajjaaVdCopy
set_option linter.unusedVariables false
set_option linter.unusedSimpArgs false
namespace Go.Proofs.Ytoedmjibhpajjaa
theorem Dk.write_read (D : Dk) (a : Nat) (x : List UInt8) (i : Nat) : (D.write a x).read i = if a = i then pad x else D.read i := by
  unfold Dk.read Dk.write; simp [List.foldl_append]
theorem Dk.upTo_seen {D : Dk} (ok : D.Ok) (i : Nat) (hi : i < D.secs.length) : ∀ k, k ≤ D.row.length → (D.upTo (fun _ => true) k).getD i [] = D.seen i k
  | 0, _ => rfl
  | k + 1, hk => by
    rw [Dk.upTo_succ D _ k hk, Dk.seen_succ D i k hk, if_pos rfl]
    have hlen : i < (D.upTo (fun _ => true) k).length := by rw [Dk.upTo_length]; exact hi
    have ih := Dk.upTo_seen ok i hi k (by omega)
    by_cases h : D.row[k].1 = i
    · rw [if_pos h, List.getD_eq_getElem?_getD, h, List.getElem?_set_self hlen]; rfl
    · rw [if_neg h, ← ih, List.getD_eq_getElem?_getD, List.getElem?_set_ne h, List.getD_eq_getElem?_getD]
theorem Dk.sync_read {D : Dk} (ok : D.Ok) (i : Nat) (hi : i < D.secs.length) : D.sync.read i = D.read i := by
  rw [← Dk.seen_all D, ← Dk.upTo_seen ok i hi _ (Nat.le_refl _)]
  rfl
namespace Rg
theorem lay_read_other (R : Rg) (i : Nat) : ∀ (l : List Fr) (D : Dk), (∀ f ∈ l, R.at_ f.seq ≠ i) → (R.lay D l).read i = D.read i
  | [], D, _ => rfl
  | f :: l, D, h => by
    rw [lay, List.foldl_cons, ← lay, lay_read_other R i l _ fun g hg => h g (List.mem_cons_of_mem _ hg), Dk.write_read, if_neg (h f List.mem_cons_self)]
theorem lay_read_at (R : Rg) : ∀ (l : List Fr) (D : Dk) (j : Nat) (hj : j < l.length), (∀ k (hk : k < l.length), j < k → R.at_ l[k].seq ≠ R.at_ l[j].seq) → (R.lay D l).read (R.at_ l[j].seq) = pad l[j].pack
  | f :: l, D, 0, hj, h => by
    rw [lay, List.foldl_cons, ← lay, lay_read_other R _ l _ fun g hg => by
      obtain ⟨k, hk, rfl⟩ := List.mem_iff_getElem.1 hg
      exact h (k + 1) (by simp; omega) (by omega), Dk.write_read]
    simp
  | f :: l, D, j + 1, hj, h => by
    rw [lay, List.foldl_cons, ← lay]
    exact lay_read_at R l _ j (by simpa using hj) fun k hk hjk => h (k + 1) (by simp; omega) (by omega)
end Rg
theorem pad_full {l : List UInt8} (h : l.length = 64) : pad l = l := by simp [pad, h]
/-- A frame of a record that begins at a number. -/
theorem frame_at (s : Nat) (rec : List UInt8) (hs : s + (cuts rec).length ≤ 1073741824) (j : Nat) (hj : j < (cuts rec).length) : ∃ fl, (cutF 3 s rec)[j]? = some ⟨3, s + j, fl, (cuts rec)[j]⟩ := by
  rw [cutF_get 3 s rec j hj, Nat.mod_eq_of_lt (by omega)]
  exact ⟨_, rfl⟩
def Good : Nat → List (List UInt8 × Nat) → Nat → Prop
  | s, [], e => s = e
  | s, x :: t, e => x.2 = s + (cuts x.1).length ∧ Good x.2 t e
def chainF : Nat → List (List UInt8 × Nat) → List Fr
  | _, [] => []
  | s, x :: t => cutF 3 s x.1 ++ chainF x.2 t
theorem good_le : ∀ (l : List (List UInt8 × Nat)) (s e : Nat), Good s l e → s ≤ e
  | [], s, e, h => by cases h; omega
  | x :: t, s, e, h => by have := good_le t _ _ h.2; have := h.1; omega
theorem chain_len : ∀ (l : List (List UInt8 × Nat)) (s e : Nat), Good s l e → (chainF s l).length = e - s
  | [], s, e, h => by cases h; simp [chainF]
  | x :: t, s, e, h => by
    have h1 := chain_len t _ _ h.2
    have h2 := good_le t _ _ h.2
    have h3 := h.1
    simp only [chainF, List.length_append, cutF_length, h1]; omega
theorem good_snoc : ∀ (l : List (List UInt8 × Nat)) (s e : Nat) (r : List UInt8), Good s l e → Good s (l ++ [(r, e + (cuts r).length)]) (e + (cuts r).length) ∧ chainF s (l ++ [(r, e + (cuts r).length)]) = chainF s l ++ cutF 3 e r
  | [], s, e, r, h => by cases h; exact ⟨⟨rfl, rfl⟩, by simp [chainF]⟩
  | x :: t, s, e, r, h => by
    obtain ⟨h1, h2⟩ := good_snoc t _ e r h.2
    exact ⟨⟨h.1, h1⟩, by simp only [List.cons_append, chainF, h2, List.append_assoc]⟩
def endAt (s : Nat) (l : List (List UInt8 × Nat)) (i : Nat) : Nat := match i with | 0 => s | i + 1 => (l[i]?.map (·.2)).getD 0
theorem endAt_last : ∀ (l : List (List UInt8 × Nat)) (s e : Nat), Good s l e → endAt s l l.length = e
  | [], s, e, h => h
  | [x], s, e, h => by have h2 : x.2 = e := h.2; simpa [endAt] using h2
  | x :: y :: t, s, e, h => by
    have := endAt_last (y :: t) _ _ h.2
    simpa [endAt] using this
theorem endAt_tail (x : List UInt8 × Nat) (t : List (List UInt8 × Nat)) (s i : Nat) : endAt s (x :: t) (i + 1) = endAt x.2 t i := by
  cases i <;> simp [endAt]
theorem good_at : ∀ (l : List (List UInt8 × Nat)) (s e : Nat), Good s l e → ∀ i (hi : i < l.length), s ≤ endAt s l i ∧ l[i].2 = endAt s l i + (cuts l[i].1).length ∧ l[i].2 ≤ e ∧ ∀ j, j < (cuts l[i].1).length → (chainF s l)[endAt s l i - s + j]? = (cutF 3 (endAt s l i) l[i].1)[j]?
  | x :: t, s, e, h, 0, _ => by
    have h2 := good_le t _ _ h.2
    refine ⟨Nat.le_refl _, h.1, h2, fun j hj => ?_⟩
    simp only [endAt, chainF, Nat.sub_self, Nat.zero_add, List.getElem_cons_zero] at hj ⊢
    rw [List.getElem?_append_left (by simpa using hj)]
  | x :: t, s, e, h, i + 1, hi => by
    obtain ⟨h1, h2, h3, h4⟩ := good_at t _ _ h.2 i (by simpa using hi)
    have hx := h.1
    rw [endAt_tail]
    refine ⟨by omega, h2, h3, fun j hj => ?_⟩
    simp only [chainF, List.getElem_cons_succ] at hj ⊢
    rw [List.getElem?_append_right (by simp; omega), ← h4 j hj]
    congr 1
    simp; omega
/-- What stands in a ring's sectors. -/
structure Keep (R : Rg) (rl : List (List UInt8 × Nat)) : Prop where
  chain : Good 0 rl R.next
  reads : ∀ n, R.low ≤ n → n < R.next → ∃ f : Fr, (chainF 0 rl)[n]? = some f ∧ R.D.read (2 + n % 8) = f.pack
theorem told_change {R : Rg} {rec : List UInt8} : (R.append rec).next ≠ R.next ↔ R.code rec = 0 := by
  have hp := List.length_pos_iff.2 (cuts_ne rec)
  unfold Rg.append
  split
  · rename_i h
    exact ⟨fun _ => h, fun _ => by show R.next + (cuts rec).length ≠ R.next; omega⟩
  · rename_i h
    exact ⟨fun h2 => absurd rfl h2, fun h2 => absurd h2 h⟩
theorem code_zero {R : Rg} {rec : List UInt8} (h : R.code rec = 0) : (cuts rec).length ≤ R.free ∧ R.next + (cuts rec).length ≤ 1073741824 := by
  unfold Rg.code at h
  split at h
  · omega
  · split at h
    · omega
    · omega
/-- A sector of a number that is kept isn't written by the next record. -/
theorem spare {R : Rg} (ok : R.Ok) (h2 : R.first = 2) (h8 : R.many = 8) (h3 : R.epoch = 3) {rec : List UInt8} (hc : R.code rec = 0) (n : Nat) (h1 : R.low ≤ n) (hn : n < R.next) : (R.lay R.D (R.frames rec)).read (2 + n % 8) = R.D.read (2 + n % 8) := by
  obtain ⟨g1, g2⟩ := code_zero hc
  refine Rg.lay_read_other R _ _ _ fun f hf => ?_
  obtain ⟨j, hj, rfl⟩ := List.mem_iff_getElem.1 hf
  have hj' : j < (cuts rec).length := by simpa [Rg.frames] using hj
  have e := cutF_get R.epoch R.next rec j hj'
  have e2 : (cutF R.epoch R.next rec)[j]'(by simpa [Rg.frames] using hj) = (R.frames rec)[j] := rfl
  rw [List.getElem?_eq_getElem (by simpa [Rg.frames] using hj), e2] at e
  rw [Option.some.inj e]
  unfold Rg.at_
  rw [h2, h8]
  show 2 + (R.next + j) % 4294967296 % 8 ≠ 2 + n % 8
  unfold Rg.free at g1
  rw [h8] at g1
  rw [Nat.mod_eq_of_lt (show R.next + j < 4294967296 by omega)]
  omega
theorem outside {R : Rg} (h2 : R.first = 2) (h8 : R.many = 8) (rec : List UInt8) (i : Nat) (hi : i < 2 ∨ 10 ≤ i) : (R.append rec).D.read i = R.D.read i := by
  unfold Rg.append
  split
  · refine Rg.lay_read_other R _ _ _ fun f hf => ?_
    unfold Rg.at_
    rw [h2, h8]
    omega
  · rfl
theorem keep_append {R : Rg} (ok : R.Ok) (h2 : R.first = 2) (h8 : R.many = 8) (h3 : R.epoch = 3) {rl : List (List UInt8 × Nat)} (K : Keep R rl) {rec : List UInt8} (hc : R.code rec = 0) : Keep (R.append rec) (rl ++ [(rec, R.next + (cuts rec).length)]) := by
  obtain ⟨g1, g2⟩ := code_zero hc
  obtain ⟨c1, c2⟩ := good_snoc rl 0 R.next rec K.chain
  have hl := chain_len rl 0 R.next K.chain
  have happ : R.append rec = { R with D := R.lay R.D (R.frames rec), next := R.next + (cuts rec).length } := by unfold Rg.append; rw [hc]; rfl
  rw [happ]
  refine ⟨c1, fun n hn1 hn2 => ?_⟩
  rw [c2]
  by_cases hn : n < R.next
  · obtain ⟨f, hf1, hf2⟩ := K.reads n hn1 hn
    refine ⟨f, by rw [List.getElem?_append_left (by omega)]; exact hf1, ?_⟩
    show (R.lay R.D (R.frames rec)).read (2 + n % 8) = f.pack
    rw [spare ok h2 h8 h3 hc n hn1 hn, hf2]
  · have hn2' : n < R.next + (cuts rec).length := hn2
    have hj : n - R.next < (cuts rec).length := by omega
    obtain ⟨fl, e⟩ := frame_at R.next rec g2 (n - R.next) hj
    refine ⟨_, by rw [List.getElem?_append_right (by omega), hl, Nat.sub_zero]; exact e, ?_⟩
    have hjf : n - R.next < (R.frames rec).length := by simpa [Rg.frames] using hj
    have hget : (R.frames rec)[n - R.next] = ⟨3, R.next + (n - R.next), fl, (cuts rec)[n - R.next]⟩ := by
      have : (R.frames rec)[n - R.next]? = some ⟨3, R.next + (n - R.next), fl, (cuts rec)[n - R.next]⟩ := by unfold Rg.frames; rw [h3]; exact e
      rw [List.getElem?_eq_getElem hjf] at this
      exact Option.some.inj this
    have key := Rg.lay_read_at R (R.frames rec) R.D (n - R.next) hjf fun k hk hjk => by
      have hk' : k < (cuts rec).length := by simpa [Rg.frames] using hk
      obtain ⟨fl2, e2⟩ := frame_at R.next rec g2 k hk'
      have hget2 : (R.frames rec)[k] = ⟨3, R.next + k, fl2, (cuts rec)[k]⟩ := by
        have : (R.frames rec)[k]? = some ⟨3, R.next + k, fl2, (cuts rec)[k]⟩ := by unfold Rg.frames; rw [h3]; exact e2
        rw [List.getElem?_eq_getElem hk] at this
        exact Option.some.inj this
      rw [hget, hget2]
      unfold Rg.at_
      rw [h2, h8]
      unfold Rg.free at g1
      rw [h8] at g1
      show 2 + (R.next + k) % 8 ≠ 2 + (R.next + (n - R.next)) % 8
      omega
    rw [hget] at key
    have hb : (cuts rec)[n - R.next].length ≤ 50 := cuts_len _ rec (Nat.le_refl _) _ (List.getElem_mem hj)
    rw [pad_full (Fr.pack_length (by exact hb))] at key
    have hat : R.at_ (R.next + (n - R.next)) = 2 + n % 8 := by unfold Rg.at_; rw [h2, h8]; congr 2; omega
    rw [show (⟨3, R.next + (n - R.next), fl, (cuts rec)[n - R.next]⟩ : Fr).seq = R.next + (n - R.next) from rfl, hat] at key
    exact key
theorem keep_step {R : Rg} (ok : R.Ok) (h2 : R.first = 2) (h8 : R.many = 8) (h3 : R.epoch = 3) (h12 : R.D.secs.length = 12) {rl : List (List UInt8 × Nat)} (K : Keep R rl) (c : RDeed) : Keep (rgStep (R, rl) c).1 (rgStep (R, rl) c).2 := by
  unfold rgStep Rg.deed
  simp only
  by_cases h1 : c.kind = 1
  · simp only [h1, if_true, true_and]
    by_cases hc : R.code c.rec_ = 0
    · rw [if_pos (told_change.2 hc)]
      have : (R.append c.rec_).next = R.next + (cuts c.rec_).length := by unfold Rg.append; rw [hc]; rfl
      rw [this]
      exact keep_append ok h2 h8 h3 K hc
    · rw [if_neg (fun h => hc (told_change.1 h))]
      have : R.append c.rec_ = R := by unfold Rg.append; rw [if_neg hc]
      rw [this]; exact K
  · simp only [h1, if_false, false_and]
    by_cases hk : c.kind = 2
    · simp only [hk, if_true]
      refine ⟨by simpa using K.chain, fun n hn1 hn2 => ?_⟩
      simp only [Rg.cut_next, Rg.cut_D] at hn2 ⊢
      refine K.reads n ?_ hn2
      have : R.low ≤ (R.cut (R.low + c.n.toNat)).low := by
        unfold Rg.cut; split
        · show R.low ≤ R.low + c.n.toNat; omega
        · omega
      omega
    · simp only [hk, if_false]
      refine ⟨K.chain, fun n hn1 hn2 => ?_⟩
      obtain ⟨f, hf1, hf2⟩ := K.reads n hn1 hn2
      refine ⟨f, hf1, ?_⟩
      show R.D.sync.read (2 + n % 8) = f.pack
      rw [Dk.sync_read ok.disk _ (by omega), hf2]
theorem keep_run (l : List RDeed) (hs : Small l) : ∀ k, k ≤ l.length → Keep (rgRun (l.take k)).1 (rgRun (l.take k)).2
  | 0, _ => ⟨rfl, fun n _ hn => absurd hn (by show ¬ n < 0; omega)⟩
  | k + 1, hk => by
    have K := keep_run l hs k (by omega)
    obtain ⟨h1, h2, h3, h4, h5, _⟩ := rgRun_inv l hs k (by omega)
    rw [rgRun_snoc l k (by omega)]
    exact keep_step h1 h2 h3 h4 h5 K l[k]
/-- The frame of a record that is kept. -/
theorem keep_frame {R : Rg} (ok : R.Ok) {rl : List (List UInt8 × Nat)} (K : Keep R rl) (i : Nat) (hi : i < rl.length) (j : Nat) (hj : j < (cuts rl[i].1).length) (hlow : R.low ≤ endAt 0 rl i) :
    ∃ fl, R.D.read (2 + (endAt 0 rl i + j) % 8) = (⟨3, endAt 0 rl i + j, fl, (cuts rl[i].1)[j]⟩ : Fr).pack := by
  obtain ⟨_, g2, g3, g4⟩ := good_at rl 0 R.next K.chain i hi
  have htop := ok.top
  obtain ⟨fl, e⟩ := frame_at (endAt 0 rl i) rl[i].1 (by omega) j hj
  obtain ⟨f, hf1, hf2⟩ := K.reads (endAt 0 rl i + j) (by omega) (by omega)
  have := g4 j hj
  rw [Nat.sub_zero, hf1, e] at this
  exact ⟨fl, by rw [hf2, Option.some.inj this]⟩
open Go.RowKit
theorem own_exact_bytes {b : Nat} {l : List UInt8} (hl : l.length = 64) : ∀ F, row b (u8s l) 111 F → bytesAt (.slice (some ⟨b, 0, none⟩) 64 64) l F := fun F hF => by
  have := own_sliceAt F (own_exact (n := 64) (sz := 1) (by simp [hl]) (by omega) F hF)
  unfold bytesAt
  rw [hl]
  exact this
/-- Does a number of the first ones from Low on have that sector? -/
def keptB (low i : Nat) (k : Nat) : Bool := (List.range k).any fun j => decide (2 + (low + j) % 8 = i)
theorem keptB_succ (low i k : Nat) : keptB low i (k + 1) = (keptB low i k || decide (2 + (low + k) % 8 = i)) := by simp [keptB, List.range_succ]
theorem keptB_get {low i k : Nat} (h : keptB low i k = true) : ∃ j, j < k ∧ 2 + (low + j) % 8 = i := by simpa [keptB] using h
theorem spare_all {R : Rg} (ok : R.Ok) (h2 : R.first = 2) (h8 : R.many = 8) (h3 : R.epoch = 3) (rec : List UInt8) (i : Nat) (h : keptB R.low i (R.next - R.low) = true ∨ i < 2 ∨ 10 ≤ i ∨ R.code rec ≠ 0) : (R.append rec).D.read i = R.D.read i := by
  by_cases hc : R.code rec = 0
  · rcases h with h | h | h | h
    · obtain ⟨j, hj, rfl⟩ := keptB_get h
      have : R.append rec = { R with D := R.lay R.D (R.frames rec), next := R.next + (cuts rec).length } := by unfold Rg.append; rw [hc]; rfl
      rw [this]
      exact spare ok h2 h8 h3 hc (R.low + j) (by omega) (by omega)
    · exact outside h2 h8 rec i (.inl h)
    · exact outside h2 h8 rec i (.inr h)
    · exact absurd hc h
  · unfold Rg.append; rw [if_neg hc]
set_option maxRecDepth 100000 in
set_option maxHeartbeats 6000000 in
theorem ringSpares_walk (W w : World) (L : List HP) (hs : Sat W w L) (hold : old W ∈ L) (v : Value) (l : List RDeed) (h : rdeedsAt v l (hp W)) (vb : Value) (rec : List UInt8) (hv : Has L (bytesAt vb rec)) :
    Calls Try.prog 13 #[v, vb] w fun e w' => e = .returned (.bool true) ∧ Sat W w' L := by
  obtain ⟨A, cap, rfl, _, _, _⟩ := rdeeds_form h
  obtain ⟨Ab, cb, rfl, _, _⟩ := slice_form (hs.bytes hv)
  by_cases hsm : Small l
  · have hF := Box.mk ((fewB_iff l).2 hsm)
    by_cases hbig : 400 < rec.length
    · have hbigI : (400 : Int) < (rec.length : Int) := by omega
      go_enter Try.func13, Try.ntmps13
      go_wp2_with (first
        | (go_at_call 23; go_must (refine (awake6_spec W _ _ hs).mono ?_); clear hs; rintro e w1 ⟨rfl, hs⟩)
        | (go_at_call 32; go_must (refine (rfew_spec W _ _ hs hold _ l h).mono ?_); clear hs; rintro e w1 ⟨rfl, hs⟩; rw [hF.out]))
      go_ret
      exact ⟨rfl, hs⟩
    have hbigI : ¬ (400 : Int) < (rec.length : Int) := by omega
    have hI := rgRun_inv l hsm l.length (Nat.le_refl _)
    have hlen30 := hsm.1
    rw [List.take_length] at hI
    obtain ⟨⟨R, rl⟩, hst⟩ : ∃ st, rgRun l = st := ⟨_, rfl⟩
    rw [hst] at hI
    obtain ⟨ok, hf1, hf2, hf3, hf4, hrow, hcnt, hnxt⟩ := hI
    simp only at ok hf1 hf2 hf3 hf4 hrow hcnt hnxt
    have hst := Box.mk hst
    have htop := ok.top
    have hlo := ok.lo
    have hfewn := ok.few
    have hl5 : rec.length ≤ 100000 := by omega
    have hr8 : R.D.row.length ≤ 800000 := by omega
    have hc400 := cuts_400 (l := rec) (by omega)
    have hrowA := Rg.append_row R rec
    have hfew8 : R.next - R.low ≤ 8 := by omega
    have hSP := Box.mk (spare_all ok hf1 hf2 hf3 rec)
    have hsz : (R.append rec).D.secs.length = 12 := by simp [hf4]
    have okc := Rg.append_ok ok rec
    obtain ⟨code, hcode⟩ : ∃ code : Int, ((R.code rec : Nat) : Int) = code := ⟨_, rfl⟩
    obtain ⟨told, htold⟩ : ∃ told, R.told rec = told := ⟨_, rfl⟩
    generalize hRa0 : R.append rec = R' at hSP hsz okc hrowA
    have hRa := Box.mk (And.intro hRa0 (And.intro hcode htold))
    clear hRa0 hcode htold hf1 hf2 hf3
    have hw8 : IntKind.u32.wrap ((R.low : Int) + 8) = ((R.low + 8 : Nat) : Int) := by rw [IntKind.wrap_u32]; omega
    have hrow1 : R.D.row.length ≤ 1000000 := by omega
    have hrow2 : R'.D.row.length ≤ 1000000 := by omega
    have hpos : 0 < R.D.secs.length := by omega
    go_enter Try.func13, Try.ntmps13
    go_wp2_with (first
      | (go_at_call 23; go_must (refine (awake6_spec W _ _ hs).mono ?_); clear hs; rintro e w1 ⟨rfl, hs⟩)
      | (go_at_call 32; go_must (refine (rfew_spec W _ _ hs hold _ l h).mono ?_); clear hs; rintro e w1 ⟨rfl, hs⟩; rw [hF.out])
      | (go_at_call 33; go_must (refine (rgrun_spec W _ _ hs hold _ l h hsm).mono ?_); clear hs; rintro e w1 ⟨b, br, v9, v10, rfl, hs⟩; rw [hst.out] at hs; dsimp only at hs
         obtain ⟨A9, c9, rfl, _, _⟩ := own_slice hs (i := 2) rfl
         obtain ⟨A10, c10, rfl, _, _⟩ := own_slice hs (i := 3) rfl)
      | (go_at_call 41; go_must (refine (copy_spec W _ _ b R.D (hs.pick (A := disk b R.D) (by repeat (first | with_reducible exact Pick.here | with_reducible apply Pick.there))) hpos hrow1).mono ?_); clear hs; rintro e w1 ⟨b2, rfl, hs⟩)
      | (go_at_call 28; go_must (refine (rlow_spec W _ _ hs br b R (by (try dsimp only [List.set]); repeat (first | with_reducible exact List.mem_cons_self | with_reducible apply List.mem_cons_of_mem))).mono ?_); clear hs; rintro e w1 ⟨rfl, hs⟩)
      | (go_at_call 29; go_must (refine (rnext_spec W _ _ hs br b R (by (try dsimp only [List.set]); repeat (first | with_reducible exact List.mem_cons_self | with_reducible apply List.mem_cons_of_mem))).mono ?_); clear hs; rintro e w1 ⟨rfl, hs⟩)
      | (go_at_call 24; go_must (refine (append_spec W _ _ br b R ok ((hs.pick (A := rg br b R) (by repeat (first | with_reducible exact Pick.here | with_reducible apply Pick.there))).pick (A := disk b R.D) (by repeat (first | with_reducible exact Pick.here | with_reducible apply Pick.there))) _ rec (by (try dsimp only [List.set]); repeat (first | exact hv | apply Has.tail)) hl5 hr8).mono ?_); clear hs; rintro e w1 ⟨rfl, hs⟩; rw [hRa.out.1] at hs; rw [hRa.out.2.1, hRa.out.2.2]))
    go_loopw [15] (fun v15 wr => ∃ i : Nat, i ≤ 12 ∧ v15 = .int .i64 (i : Nat) ∧ Sat W wr (disk b R'.D :: rg br b R' :: disk b2 R.D :: L)) (fun v15 _ => 12 - (intOf v15).toNat)
    case atStart => exact ⟨0, by omega, rfl, hs.pack (by repeat (first | with_reducible exact Pack.refl | with_reducible exact Pack.nil | with_reducible refine Pack.cons (by repeat (first | with_reducible exact Pick.here | with_reducible apply Pick.there)) ?_ | with_reducible apply Pack.drop))⟩
    case round =>
      clear hs
      obtain ⟨i, hi, rfl, hs⟩ := hrel
      by_cases hi12 : i < 12
      · have hi12I : (i : Int) < 12 := by omega
        have hiD : i < R.D.secs.length := by omega
        have hiD' : i < R'.D.secs.length := by omega
        have hl1 := Dk.read_len ok.disk hiD
        have hl2 := Dk.read_len okc.disk hiD'
        go_wp2_with fail
        go_loopw [16, 17] (fun v16 v17 wr => ∃ k : Nat, k ≤ R.next - R.low ∧ v17 = .int .u32 ((R.low + k : Nat) : Int) ∧ v16 = .bool (keptB R.low i k) ∧ Sat W wr (disk b R'.D :: rg br b R' :: disk b2 R.D :: L)) (fun _ v17 _ => R.next - (intOf v17).toNat)
        case atStart => exact ⟨0, by omega, by simp, rfl, hs⟩
        case round =>
          clear hs
          obtain ⟨k, hk, rfl, rfl, hs⟩ := hrel
          by_cases hkn : R.low + k < R.next
          · have hknI : ((R.low + k : Nat) : Int) < (R.next : Int) := by omega
            have hk8 : ((R.low + k : Nat) : Int) < ((R.low + 8 : Nat) : Int) := by omega
            have hks := keptB_succ R.low i k
            have hkd : (((2 + (R.low + k) % 8 : Nat) : Int) == (i : Int)) = decide (2 + (R.low + k) % 8 = i) := by
              by_cases hq : 2 + (R.low + k) % 8 = i
              · simp [hq]
              · have : ¬ ((2 + (R.low + k) % 8 : Nat) : Int) = (i : Int) := by omega
                rw [decide_eq_false hq]; exact beq_eq_false_iff_ne.2 this
            have hkd2 : ((2 : Int) + ((R.low + k : Nat) : Int) % 8 == (i : Int)) = decide (2 + (R.low + k) % 8 = i) := by
              rw [← hkd]; push_cast; rfl
            have hwn : IntKind.u32.wrap (((R.low + k : Nat) : Int) + 1) = ((R.low + k + 1 : Nat) : Int) := by rw [IntKind.wrap_u32]; omega
            have hms : R.next - (R.low + k + 1) < R.next - (R.low + k) := by omega
            have hk1 : k + 1 ≤ R.next - R.low := by omega
            have HKS := Box.mk hks
            clear hks
            have hnn : R.low + k < 4294967296 := by omega
            obtain ⟨nn, hnne⟩ : ∃ nn, R.low + k = nn := ⟨_, rfl⟩
            have HNN := Box.mk hnne
            rw [hnne] at hknI hk8 hkd hkd2 hwn hnn
            have hgoal : ∀ w', Sat W w' (disk b R'.D :: rg br b R' :: disk b2 R.D :: L) → ∀ b16, b16 = keptB R.low i (k + 1) → (∃ k' : Nat, k' ≤ R.next - R.low ∧ Value.int .u32 ((nn + 1 : Nat) : Int) = .int .u32 ((R.low + k' : Nat) : Int) ∧ Value.bool b16 = .bool (keptB R.low i k') ∧ Sat W w' (disk b R'.D :: rg br b R' :: disk b2 R.D :: L)) := fun w' h b16 e => ⟨k + 1, hk1, by rw [← HNN.out]; rfl, by rw [e], h⟩
            rw [hnne]
            cases hkb : keptB R.low i k
            · go_wp2_with (first
                | (go_at_call 31; go_must (refine (at_spec W _ _ hs 2 8 0 nn (by omega) (by omega) hnn).mono ?_); clear hs; rintro e w1 ⟨rfl, hs⟩))
              refine ⟨?_, by show R.next - (intOf (.int .u32 ((nn + 1 : Nat) : Int))).toNat < R.next - (intOf (.int .u32 (nn : Nat))).toNat; simp only [intOf]; omega⟩
              exact ⟨k + 1, hk1, by rw [← HNN.out]; rfl, by rw [HKS.out, hkb, HNN.out]; rfl, hs.pack (by repeat (first | with_reducible exact Pack.refl | with_reducible exact Pack.nil | with_reducible refine Pack.cons (by repeat (first | with_reducible exact Pick.here | with_reducible apply Pick.there)) ?_ | with_reducible apply Pack.drop))⟩
            · go_wp2_with fail
              refine ⟨?_, by show R.next - (intOf (.int .u32 ((nn + 1 : Nat) : Int))).toNat < R.next - (intOf (.int .u32 (nn : Nat))).toNat; simp only [intOf]; omega⟩
              exact ⟨k + 1, hk1, by rw [← HNN.out]; rfl, by rw [HKS.out, hkb]; rfl, hs.pack (by repeat (first | with_reducible exact Pack.refl | with_reducible exact Pack.nil | with_reducible refine Pack.cons (by repeat (first | with_reducible exact Pick.here | with_reducible apply Pick.there)) ?_ | with_reducible apply Pack.drop))⟩
          · have hknI : ¬ ((R.low + k : Nat) : Int) < (R.next : Int) := by omega
            have hkk : k = R.next - R.low := by omega
            have hSPi := fun hc => hSP.out i hc
            rw [← hkk] at hSPi
            have HSPI := Box.mk hSPi
            clear hSPi
            generalize hkq : R.low + k = nn at hknI
            cases hkb : keptB R.low i k
            · by_cases hi2 : i < 2
              · have hi2I : (i : Int) < 2 := by omega
                have heq := HSPI.out (.inr (.inl hi2))
                go_wp2_with (first
                  | (have hh := ba; clear hh; go_at_call 39; go_must (refine (read_spec W _ _ b R'.D (hs.pick (A := disk b R'.D) (by repeat (first | with_reducible exact Pick.here | with_reducible apply Pick.there))) i hiD' hrow2).mono ?_); clear hs; rintro e w1 ⟨bb, rfl, hs⟩)
                  | (go_at_call 39; go_must (refine (read_spec W _ _ b2 R.D (hs.pick (A := disk b2 R.D) (by repeat (first | with_reducible exact Pick.here | with_reducible apply Pick.there))) i hiD hrow1).mono ?_); clear hs; rintro e w1 ⟨ba, rfl, hs⟩)
                  | (guard_target = wpList _ _ _ (⟨some 110, .convert _ _ _, _, _, _, _⟩ :: _) _ _; refine wpl (o := ⟨some 110, .convert _ _ _, _, _, _, _⟩) rfl fun K hK => ?_; go_must (refine op_to_string rfl Try.underlying23 Try.underlying5 Try.underlying9 rfl (hs.bytes (Has.mem (A := row ba (u8s (R.D.read i)) 111) (by (try dsimp only [List.set]); repeat (first | with_reducible exact List.mem_cons_self | with_reducible apply List.mem_cons_of_mem)) fun F hF => own_exact_bytes hl1 F hF)) (hK _ _ ?_)); clear hK K)
                  | (guard_target = wpList _ _ _ (⟨some 112, .convert _ _ _, _, _, _, _⟩ :: _) _ _; refine wpl (o := ⟨some 112, .convert _ _ _, _, _, _, _⟩) rfl fun K hK => ?_; go_must (refine op_to_string rfl Try.underlying23 Try.underlying5 Try.underlying9 rfl (hs.bytes (Has.mem (A := row bb (u8s (R'.D.read i)) 111) (by (try dsimp only [List.set]); repeat (first | with_reducible exact List.mem_cons_self | with_reducible apply List.mem_cons_of_mem)) fun F hF => own_exact_bytes hl2 F hF)) (hK _ _ ?_)); clear hK K))
                (first | (go_big_round; exact ⟨⟨i + 1, by omega, by go_num, hs.pack (by repeat (first | with_reducible exact Pack.refl | with_reducible exact Pack.nil | with_reducible refine Pack.cons (by repeat (first | with_reducible exact Pick.here | with_reducible apply Pick.there)) ?_ | with_reducible apply Pack.drop))⟩, by simp only [intOf]; omega⟩) | exact ⟨⟨i + 1, by omega, by go_num, hs.pack (by repeat (first | with_reducible exact Pack.refl | with_reducible exact Pack.nil | with_reducible refine Pack.cons (by repeat (first | with_reducible exact Pick.here | with_reducible apply Pick.there)) ?_ | with_reducible apply Pack.drop))⟩, by simp only [intOf]; omega⟩)
              · have hi2I : ¬ (i : Int) < 2 := by omega
                by_cases hi10 : 10 ≤ i
                · have hi10I : (10 : Int) ≤ (i : Int) := by omega
                  have heq := HSPI.out (.inr (.inr (.inl hi10)))
                  go_wp2_with (first
                    | (have hh := ba; clear hh; go_at_call 39; go_must (refine (read_spec W _ _ b R'.D (hs.pick (A := disk b R'.D) (by repeat (first | with_reducible exact Pick.here | with_reducible apply Pick.there))) i hiD' hrow2).mono ?_); clear hs; rintro e w1 ⟨bb, rfl, hs⟩)
                    | (go_at_call 39; go_must (refine (read_spec W _ _ b2 R.D (hs.pick (A := disk b2 R.D) (by repeat (first | with_reducible exact Pick.here | with_reducible apply Pick.there))) i hiD hrow1).mono ?_); clear hs; rintro e w1 ⟨ba, rfl, hs⟩)
                    | (guard_target = wpList _ _ _ (⟨some 110, .convert _ _ _, _, _, _, _⟩ :: _) _ _; refine wpl (o := ⟨some 110, .convert _ _ _, _, _, _, _⟩) rfl fun K hK => ?_; go_must (refine op_to_string rfl Try.underlying23 Try.underlying5 Try.underlying9 rfl (hs.bytes (Has.mem (A := row ba (u8s (R.D.read i)) 111) (by (try dsimp only [List.set]); repeat (first | with_reducible exact List.mem_cons_self | with_reducible apply List.mem_cons_of_mem)) fun F hF => own_exact_bytes hl1 F hF)) (hK _ _ ?_)); clear hK K)
                    | (guard_target = wpList _ _ _ (⟨some 112, .convert _ _ _, _, _, _, _⟩ :: _) _ _; refine wpl (o := ⟨some 112, .convert _ _ _, _, _, _, _⟩) rfl fun K hK => ?_; go_must (refine op_to_string rfl Try.underlying23 Try.underlying5 Try.underlying9 rfl (hs.bytes (Has.mem (A := row bb (u8s (R'.D.read i)) 111) (by (try dsimp only [List.set]); repeat (first | with_reducible exact List.mem_cons_self | with_reducible apply List.mem_cons_of_mem)) fun F hF => own_exact_bytes hl2 F hF)) (hK _ _ ?_)); clear hK K))
                  (first | (go_big_round; exact ⟨⟨i + 1, by omega, by go_num, hs.pack (by repeat (first | with_reducible exact Pack.refl | with_reducible exact Pack.nil | with_reducible refine Pack.cons (by repeat (first | with_reducible exact Pick.here | with_reducible apply Pick.there)) ?_ | with_reducible apply Pack.drop))⟩, by simp only [intOf]; omega⟩) | exact ⟨⟨i + 1, by omega, by go_num, hs.pack (by repeat (first | with_reducible exact Pack.refl | with_reducible exact Pack.nil | with_reducible refine Pack.cons (by repeat (first | with_reducible exact Pick.here | with_reducible apply Pick.there)) ?_ | with_reducible apply Pack.drop))⟩, by simp only [intOf]; omega⟩)
                · have hi10I : ¬ (10 : Int) ≤ (i : Int) := by omega
                  by_cases hcd : code = (0 : Int)
                  · subst hcd
                    go_wp2_with (first
                      | (have hh := ba; clear hh; go_at_call 39; go_must (refine (read_spec W _ _ b R'.D (hs.pick (A := disk b R'.D) (by repeat (first | with_reducible exact Pick.here | with_reducible apply Pick.there))) i hiD' hrow2).mono ?_); clear hs; rintro e w1 ⟨bb, rfl, hs⟩)
                      | (go_at_call 39; go_must (refine (read_spec W _ _ b2 R.D (hs.pick (A := disk b2 R.D) (by repeat (first | with_reducible exact Pick.here | with_reducible apply Pick.there))) i hiD hrow1).mono ?_); clear hs; rintro e w1 ⟨ba, rfl, hs⟩)
                      | (guard_target = wpList _ _ _ (⟨some 110, .convert _ _ _, _, _, _, _⟩ :: _) _ _; refine wpl (o := ⟨some 110, .convert _ _ _, _, _, _, _⟩) rfl fun K hK => ?_; go_must (refine op_to_string rfl Try.underlying23 Try.underlying5 Try.underlying9 rfl (hs.bytes (Has.mem (A := row ba (u8s (R.D.read i)) 111) (by (try dsimp only [List.set]); repeat (first | with_reducible exact List.mem_cons_self | with_reducible apply List.mem_cons_of_mem)) fun F hF => own_exact_bytes hl1 F hF)) (hK _ _ ?_)); clear hK K)
                      | (guard_target = wpList _ _ _ (⟨some 112, .convert _ _ _, _, _, _, _⟩ :: _) _ _; refine wpl (o := ⟨some 112, .convert _ _ _, _, _, _, _⟩) rfl fun K hK => ?_; go_must (refine op_to_string rfl Try.underlying23 Try.underlying5 Try.underlying9 rfl (hs.bytes (Has.mem (A := row bb (u8s (R'.D.read i)) 111) (by (try dsimp only [List.set]); repeat (first | with_reducible exact List.mem_cons_self | with_reducible apply List.mem_cons_of_mem)) fun F hF => own_exact_bytes hl2 F hF)) (hK _ _ ?_)); clear hK K))
                    (first | (go_big_round; exact ⟨⟨i + 1, by omega, by go_num, hs.pack (by repeat (first | with_reducible exact Pack.refl | with_reducible exact Pack.nil | with_reducible refine Pack.cons (by repeat (first | with_reducible exact Pick.here | with_reducible apply Pick.there)) ?_ | with_reducible apply Pack.drop))⟩, by simp only [intOf]; omega⟩) | exact ⟨⟨i + 1, by omega, by go_num, hs.pack (by repeat (first | with_reducible exact Pack.refl | with_reducible exact Pack.nil | with_reducible refine Pack.cons (by repeat (first | with_reducible exact Pick.here | with_reducible apply Pick.there)) ?_ | with_reducible apply Pack.drop))⟩, by simp only [intOf]; omega⟩)
                  · have hcdI : (code != 0) = true := by simp [hcd]
                    have heq := HSPI.out (.inr (.inr (.inr fun h0 => hcd (by have := hRa.out.2.1; rw [h0] at this; exact this.symm))))
                    go_wp2_with (first
                      | (have hh := ba; clear hh; go_at_call 39; go_must (refine (read_spec W _ _ b R'.D (hs.pick (A := disk b R'.D) (by repeat (first | with_reducible exact Pick.here | with_reducible apply Pick.there))) i hiD' hrow2).mono ?_); clear hs; rintro e w1 ⟨bb, rfl, hs⟩)
                      | (go_at_call 39; go_must (refine (read_spec W _ _ b2 R.D (hs.pick (A := disk b2 R.D) (by repeat (first | with_reducible exact Pick.here | with_reducible apply Pick.there))) i hiD hrow1).mono ?_); clear hs; rintro e w1 ⟨ba, rfl, hs⟩)
                      | (guard_target = wpList _ _ _ (⟨some 110, .convert _ _ _, _, _, _, _⟩ :: _) _ _; refine wpl (o := ⟨some 110, .convert _ _ _, _, _, _, _⟩) rfl fun K hK => ?_; go_must (refine op_to_string rfl Try.underlying23 Try.underlying5 Try.underlying9 rfl (hs.bytes (Has.mem (A := row ba (u8s (R.D.read i)) 111) (by (try dsimp only [List.set]); repeat (first | with_reducible exact List.mem_cons_self | with_reducible apply List.mem_cons_of_mem)) fun F hF => own_exact_bytes hl1 F hF)) (hK _ _ ?_)); clear hK K)
                      | (guard_target = wpList _ _ _ (⟨some 112, .convert _ _ _, _, _, _, _⟩ :: _) _ _; refine wpl (o := ⟨some 112, .convert _ _ _, _, _, _, _⟩) rfl fun K hK => ?_; go_must (refine op_to_string rfl Try.underlying23 Try.underlying5 Try.underlying9 rfl (hs.bytes (Has.mem (A := row bb (u8s (R'.D.read i)) 111) (by (try dsimp only [List.set]); repeat (first | with_reducible exact List.mem_cons_self | with_reducible apply List.mem_cons_of_mem)) fun F hF => own_exact_bytes hl2 F hF)) (hK _ _ ?_)); clear hK K))
                    (first | (go_big_round; exact ⟨⟨i + 1, by omega, by go_num, hs.pack (by repeat (first | with_reducible exact Pack.refl | with_reducible exact Pack.nil | with_reducible refine Pack.cons (by repeat (first | with_reducible exact Pick.here | with_reducible apply Pick.there)) ?_ | with_reducible apply Pack.drop))⟩, by simp only [intOf]; omega⟩) | exact ⟨⟨i + 1, by omega, by go_num, hs.pack (by repeat (first | with_reducible exact Pack.refl | with_reducible exact Pack.nil | with_reducible refine Pack.cons (by repeat (first | with_reducible exact Pick.here | with_reducible apply Pick.there)) ?_ | with_reducible apply Pack.drop))⟩, by simp only [intOf]; omega⟩)
            · have heq := HSPI.out (.inl hkb)
              go_wp2_with (first
                | (have hh := ba; clear hh; go_at_call 39; go_must (refine (read_spec W _ _ b R'.D (hs.pick (A := disk b R'.D) (by repeat (first | with_reducible exact Pick.here | with_reducible apply Pick.there))) i hiD' hrow2).mono ?_); clear hs; rintro e w1 ⟨bb, rfl, hs⟩)
                | (go_at_call 39; go_must (refine (read_spec W _ _ b2 R.D (hs.pick (A := disk b2 R.D) (by repeat (first | with_reducible exact Pick.here | with_reducible apply Pick.there))) i hiD hrow1).mono ?_); clear hs; rintro e w1 ⟨ba, rfl, hs⟩)
                | (guard_target = wpList _ _ _ (⟨some 110, .convert _ _ _, _, _, _, _⟩ :: _) _ _; refine wpl (o := ⟨some 110, .convert _ _ _, _, _, _, _⟩) rfl fun K hK => ?_; go_must (refine op_to_string rfl Try.underlying23 Try.underlying5 Try.underlying9 rfl (hs.bytes (Has.mem (A := row ba (u8s (R.D.read i)) 111) (by (try dsimp only [List.set]); repeat (first | with_reducible exact List.mem_cons_self | with_reducible apply List.mem_cons_of_mem)) fun F hF => own_exact_bytes hl1 F hF)) (hK _ _ ?_)); clear hK K)
                | (guard_target = wpList _ _ _ (⟨some 112, .convert _ _ _, _, _, _, _⟩ :: _) _ _; refine wpl (o := ⟨some 112, .convert _ _ _, _, _, _, _⟩) rfl fun K hK => ?_; go_must (refine op_to_string rfl Try.underlying23 Try.underlying5 Try.underlying9 rfl (hs.bytes (Has.mem (A := row bb (u8s (R'.D.read i)) 111) (by (try dsimp only [List.set]); repeat (first | with_reducible exact List.mem_cons_self | with_reducible apply List.mem_cons_of_mem)) fun F hF => own_exact_bytes hl2 F hF)) (hK _ _ ?_)); clear hK K))
              (first | (go_big_round; exact ⟨⟨i + 1, by omega, by go_num, hs.pack (by repeat (first | with_reducible exact Pack.refl | with_reducible exact Pack.nil | with_reducible refine Pack.cons (by repeat (first | with_reducible exact Pick.here | with_reducible apply Pick.there)) ?_ | with_reducible apply Pack.drop))⟩, by simp only [intOf]; omega⟩) | exact ⟨⟨i + 1, by omega, by go_num, hs.pack (by repeat (first | with_reducible exact Pack.refl | with_reducible exact Pack.nil | with_reducible refine Pack.cons (by repeat (first | with_reducible exact Pick.here | with_reducible apply Pick.there)) ?_ | with_reducible apply Pack.drop))⟩, by simp only [intOf]; omega⟩)
      · have hi12I : ¬ (i : Int) < 12 := by omega
        go_wp2_with fail
        go_ret
        exact ⟨rfl, hs.pack (by repeat (first | with_reducible exact Pack.refl | with_reducible exact Pack.nil | with_reducible refine Pack.cons (by repeat (first | with_reducible exact Pick.here | with_reducible apply Pick.there)) ?_ | with_reducible apply Pack.drop))⟩
  · have hF := Box.mk (fewB_no hsm)
    go_enter Try.func13, Try.ntmps13
    go_wp2_with (first
      | (go_at_call 23; go_must (refine (awake6_spec W _ _ hs).mono ?_); clear hs; rintro e w1 ⟨rfl, hs⟩)
      | (go_at_call 32; go_must (refine (rfew_spec W _ _ hs hold _ l h).mono ?_); clear hs; rintro e w1 ⟨rfl, hs⟩; rw [hF.out]))
    go_ret
    exact ⟨rfl, hs⟩
theorem ringSpares_main (W : World) (l : List RDeed) (v : Value) (h0 : (Kin.slice 40 rdeedKin).K (hp W) l [v]) (rec : List UInt8) (v1 : Value) (h1 : (Kin.slice 1 Kin.u8).K (hp W) rec [v1]) :
    Calls Try.prog 13 #[v, v1] W fun e w' => e = .returned (.bool true) ∧ Below W.heap.size W w' := by
  exact (ringSpares_walk W W _ (Sat.start W) m0 v l h0 v1 rec ((has_old h1).imp fun F hF => (kin_bytes hF).1)).mono fun e w' ⟨he, hs⟩ => ⟨he, hs.end_ m0⟩
end Go.Proofs.Ytoedmjibhpajjaa
