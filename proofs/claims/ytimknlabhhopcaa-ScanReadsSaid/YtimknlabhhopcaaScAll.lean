/- What the walks of layer 7 share: what is found (plain laws), the contract of begins, the example, and the scan of a disk that is nil. -/
import Derived.Test.YtimknlabhhopcaaScRunP
import Derived.Test.YtimknlabhhopcaaStr
import Derived.Test.YtimknlabhhopcaaRgApp
import Derived.Test.YtimknlabhhopcaaVdNew
import Derived.Test.YtimknlabhhopcaaVdCrash
set_option linter.unusedVariables false
set_option linter.unusedSimpArgs false
namespace Go.Proofs.Ytimknlabhhopcaa
open Go.RowKit
theorem sc_back {R : Rg} {rl : List Rcd} {sy : Nat} (I : ScInv R rl sy) : scGo (scF R.D 2 8 3) 8 R.low R.low true [] [] = (rl, R.next) := by
  obtain ⟨k, h1, h2, h3, _⟩ := sc_scan I R.D I.s12 (fun i _ _ => vers_read _ i) 0 (Nat.zero_le _)
  have h4 := h3 rl.length (by simp) (fun _ _ _ => rfl)
  have hk : k = rl.length := by simp at h1; omega
  subst hk
  rw [Nat.zero_add, List.drop_zero, List.take_length, endAt_all rl R.low R.next I.chain] at h2
  exact h2
theorem sc_on {R : Rg} {rl : List Rcd} {sy : Nat} (I : ScInv R rl sy) (i : Nat) (hi : i ≤ rl.length) : scGo (scF R.D 2 8 3) 8 (endAt R.low rl i) (endAt R.low rl i) true [] [] = (rl.drop i, R.next) := by
  obtain ⟨k, h1, h2, h3, _⟩ := sc_scan I R.D I.s12 (fun i _ _ => vers_read _ i) i hi
  have h4 := h3 (rl.drop i).length (Nat.le_refl _) (fun _ _ _ => rfl)
  have hk : k = (rl.drop i).length := by omega
  subst hk
  rw [List.take_length, show i + (rl.drop i).length = rl.length by simp; omega, endAt_all rl R.low R.next I.chain] at h2
  exact h2
theorem sc_low {R : Rg} {rl : List Rcd} {sy : Nat} (I : ScInv R rl sy) : R.low < 4294967296 ∧ R.next < 4294967296 := by
  have h1 := I.ok.top
  have h2 := I.ok.lo
  omega
theorem sc_end {R : Rg} {rl : List Rcd} {sy : Nat} (I : ScInv R rl sy) (i : Nat) (hi : i ≤ rl.length) : endAt R.low rl i < 4294967296 := by
  have h1 := I.ok.top
  have h2 := (endAt_bd rl R.low R.next I.chain i hi).2
  omega
theorem sc_crash {R : Rg} {rl : List Rcd} {sy : Nat} (I : ScInv R rl sy) (keep : Nat → Bool) : ∃ k, sy ≤ k ∧ k ≤ rl.length ∧ scGo (scF (R.D.crash keep) 2 8 3) 8 R.low R.low true [] [] = (rl.take k, endAt R.low rl k) := by
  obtain ⟨k, h1, h2, h3, _⟩ := sc_scan I (R.D.crash keep) (by simpa using I.s12) (fun i _ _ => vers_crash R.D keep i) 0 (Nat.zero_le _)
  have h4 := h3 sy (by simpa using I.few) (fun n hn1 hn2 => I.synced n hn1 (by rw [Nat.zero_add] at hn2; exact hn2) _ (vers_crash R.D keep _))
  rw [Nat.zero_add, List.drop_zero] at h2
  exact ⟨k, h4, by simpa using h1, h2⟩
theorem upTo_none (D : Dk) : ∀ n, D.upTo (fun i => ([] : List Bool).getD i false) n = D.secs
  | 0 => rfl
  | n + 1 => by rw [Dk.upTo, if_neg (by simp)]; exact upTo_none D n
theorem sc_loses {R : Rg} {rl : List Rcd} {sy : Nat} (I : ScInv R rl sy) (rec : List UInt8) : scGo (scF ((R.sync.append rec).D.crash fun i => ([] : List Bool).getD i false) 2 8 3) 8 R.low R.low true [] [] = (rl, R.next) := by
  obtain ⟨D, hD⟩ : ∃ D, (R.sync.append rec).D.crash (fun i => ([] : List Bool).getD i false) = D := ⟨_, rfl⟩
  have hs : D.secs = R.sync.D.secs := by rw [← hD]; unfold Dk.crash; rw [upTo_none]; exact Rg.append_size _ _
  have hr : D.row = [] := by rw [← hD]; rfl
  have J := I.sync
  have hrd : ∀ i, D.read i = R.sync.D.read i := fun i => by
    unfold Dk.read
    rw [hs, hr]; rfl
  rw [hD]
  obtain ⟨k, h1, h2, h3, _⟩ := sc_scan J D (by rw [hs]; exact J.s12) (fun i _ _ => by rw [hrd]; exact vers_read _ i) 0 (Nat.zero_le _)
  have h4 := h3 rl.length (by simp) (fun n _ _ => hrd _)
  have hk : k = rl.length := by simp at h1; omega
  subst hk
  rw [Nat.zero_add, List.drop_zero, List.take_length, endAt_all rl _ _ J.chain] at h2
  exact h2
theorem sc_other {R : Rg} {rl : List Rcd} {sy : Nat} (I : ScInv R rl sy) : scGo (scF R.D 2 8 4) 8 R.low R.low true [] [] = ([], R.low) := scGo_none (sc_epoch I 4 (by omega) R.low)
theorem endAt_get (s : Nat) (rl : List Rcd) (i : Nat) (h : i < rl.length) : endAt s rl (i + 1) = rl[i].2 := by simp [endAt, h]
theorem endAt_take_last (s : Nat) (rl : List Rcd) (k : Nat) (h0 : 0 < k) (h : k ≤ rl.length) : endAt s rl k = (rl[k - 1]'(by omega)).2 := by
  obtain ⟨j, rfl⟩ : ∃ j, k = j + 1 := ⟨k - 1, by omega⟩
  simp [endAt_get s rl j (by omega)]
def one3 : List UInt8 := [111, 110, 101]
def z60 : List UInt8 := List.replicate 60 0
def three5 : List UInt8 := [116, 104, 114, 101, 101]
theorem cuts_one3 : (cuts one3).length = 1 := by rw [cuts_number _ one3 (Nat.le_refl _)]; rfl
theorem cuts_z60 : (cuts z60).length = 2 := by rw [cuts_number _ z60 (Nat.le_refl _)]; rfl
theorem cuts_three5 : (cuts three5).length = 1 := by rw [cuts_number _ three5 (Nat.le_refl _)]; rfl
theorem append_roomS {R : Rg} {rec : List UInt8} {n : Nat} (hc : (cuts rec).length = n) (h1 : n ≤ R.free) (h2 : R.next + n ≤ 1073741824) :
    R.code rec = 0 ∧ R.told rec = R.next + n ∧ (R.append rec).next = R.next + n ∧ (R.append rec).D.row = R.D.row ++ (cutF R.epoch R.next rec).map fun f => (R.at_ f.seq, pad f.pack) := by
  have hcode : R.code rec = 0 := by unfold Rg.code; rw [hc, if_neg (by omega), if_neg (by omega)]
  refine ⟨hcode, by unfold Rg.told; rw [hcode, hc]; rfl, by unfold Rg.append; rw [if_pos hcode, hc], ?_⟩
  unfold Rg.append; rw [if_pos hcode]
  exact Rg.lay_row R _ _
structure Aw (R1 R2 R3 : Rg) : Prop where
  a1 : md0.R.append one3 = R1
  c1 : md0.R.code one3 = 0
  t1 : md0.R.told one3 = 1
  a2 : R1.append z60 = R2
  c2 : R1.code z60 = 0
  t2 : R1.told z60 = 3
  a3 : R2.append three5 = R3
  c3 : R2.code three5 = 0
  t3 : R2.told three5 = 4
  r1 : R1.D.row.length ≤ 800000
  r2 : R2.D.row.length ≤ 800000
  r3 : R3.D.row.length ≤ 800000
  s3 : scGo (scF R3.D 2 8 3) 8 0 0 true [] [] = ([(one3, 1), (z60, 3), (three5, 4)], 4)
  s4 : scGo (scF (R3.D.crash fun i => ([true, true, false, true] : List Bool).getD i false) 2 8 3) 8 0 0 true [] [] = ([(one3, 1)], 1)
theorem cutF_seq {s : Nat} {rec : List UInt8} {n : Nat} (hc : (cuts rec).length = n) (hs : s + n ≤ 1073741824) : (cutF 3 s rec).map (·.seq) = (List.range n).map (s + ·) := by
  refine List.ext_getElem? fun j => ?_
  by_cases hj : j < n
  · rw [List.getElem?_map, fr_at s rec (by omega) j (by omega)]; simp [hj]
  · rw [List.getElem?_eq_none (by simp [cutF_length, hc]; omega), List.getElem?_eq_none (by simp; omega)]
theorem row_fst {R : Rg} {s n : Nat} {rec : List UInt8} (h8 : R.many = 8) (h2 : R.first = 2) (hc : (cuts rec).length = n) (hs : s + n ≤ 1073741824) : ((cutF 3 s rec).map fun f => (R.at_ f.seq, pad f.pack)).map (·.1) = (List.range n).map fun j => 2 + (s + j) % 8 := by
  have := congrArg (List.map fun n => 2 + n % 8) (cutF_seq hc hs)
  simp only [List.map_map] at this ⊢
  have e : ((fun x : Nat × List UInt8 => x.1) ∘ fun f : Fr => (R.at_ f.seq, pad f.pack)) = ((fun n => 2 + n % 8) ∘ fun f : Fr => f.seq) := by funext f; simp [Rg.at_, h8, h2]
  rw [e, this]; rfl
theorem one_of {α : Type} {β : Type} {f : α → β} {l : List α} {a : β} (h : l.map f = [a]) : ∃ x, l = [x] ∧ f x = a := by
  cases l with
  | nil => simp at h
  | cons x t => simp at h; obtain ⟨h1, rfl⟩ := h; exact ⟨x, rfl, h1⟩
theorem four_of {l : List (Nat × List UInt8)} {a b c d : Nat} (h : l.map (·.1) = [a, b, c, d]) : ∃ p q r s, l = [(a, p), (b, q), (c, r), (d, s)] := by
  match l, h with
  | [(a', p), (b', q), (c', r), (d', s)], h => simp at h; obtain ⟨rfl, rfl, rfl, rfl⟩ := h; exact ⟨p, q, r, s, rfl⟩
theorem aw : ∃ R1 R2 R3, Aw R1 R2 R3 := by
  obtain ⟨R1, hR1⟩ : ∃ R1, md0.R.append one3 = R1 := ⟨_, rfl⟩
  obtain ⟨R2, hR2⟩ : ∃ R2, R1.append z60 = R2 := ⟨_, rfl⟩
  obtain ⟨R3, hR3⟩ : ∃ R3, R2.append three5 = R3 := ⟨_, rfl⟩
  have f0 : md0.R.free = 8 := rfl
  have n0 : md0.R.next = 0 := rfl
  have w0 : md0.R.D.row = [] := rfl
  obtain ⟨c1, t1, n1, w1⟩ := append_roomS (R := md0.R) cuts_one3 (by omega) (by omega)
  have I1 := md0_inv.append one3 c1
  rw [hR1] at I1 n1 w1
  have l1 : R1.low = 0 := by rw [← hR1]; simp [md0]
  have f1 : R1.free = 7 := by unfold Rg.free; rw [I1.m8, n1, l1, n0]
  obtain ⟨c2, t2, n2, w2⟩ := append_roomS (R := R1) cuts_z60 (by omega) (by omega)
  have I2 := I1.append z60 c2
  rw [hR2] at I2 n2 w2
  have l2 : R2.low = 0 := by rw [← hR2, ← hR1]; simp [md0]
  have f2 : R2.free = 5 := by unfold Rg.free; rw [I2.m8, n2, n1, l2, n0]
  obtain ⟨c3, t3, n3, w3⟩ := append_roomS (R := R2) cuts_three5 (by omega) (by omega)
  have I3 := I2.append three5 c3
  rw [hR3] at I3 n3 w3
  have l3 : R3.low = 0 := by rw [← hR3]; simp [l2]
  have e1 : md0.R.next + 1 = 1 := rfl
  rw [cuts_one3, cuts_z60, cuts_three5, n2, n1, n0] at I3
  simp only [md0, List.nil_append, List.cons_append, Nat.zero_add] at I3
  have hrow : R3.D.row.map (·.1) = [2, 3, 4, 5] := by
    rw [w3, w2, w1, w0, List.nil_append, List.map_append, List.map_append]
    rw [show md0.R.epoch = 3 from rfl, show R1.epoch = 3 by rw [← hR1]; simp; rfl, show R2.epoch = 3 by rw [← hR2, ← hR1]; simp; rfl]
    rw [row_fst (R := md0.R) rfl rfl cuts_one3 (by omega), row_fst (R := R1) (by rw [← hR1]; simp; rfl) (by rw [← hR1]; simp; rfl) cuts_z60 (by omega), row_fst (R := R2) (by rw [← hR2, ← hR1]; simp; rfl) (by rw [← hR2, ← hR1]; simp; rfl) cuts_three5 (by omega), n2, n1, n0]
    rfl
  obtain ⟨p, q, r, s, hw⟩ := four_of hrow
  have hsec : R3.D.secs = List.replicate 12 (pad []) := by rw [← hR3, ← hR2, ← hR1]; simp [md0, Dk.new]
  have h12 : R3.D.secs.length = 12 := by rw [hsec]; simp
  refine ⟨R1, R2, R3, hR1, c1, by rw [t1, n0], hR2, c2, by rw [t2, n1, n0], hR3, c3, by rw [t3, n2, n1, n0], ?_, ?_, ?_, ?_, ?_⟩
  · have := congrArg List.length w1; simp [cutF_length, cuts_one3, w0] at this; omega
  · have := congrArg List.length w2; simp [cutF_length, cuts_z60, w1, cuts_one3, w0] at this; omega
  · rw [hw]; simp
  · obtain ⟨k, h1, h2, h3, _⟩ := sc_scan I3 R3.D h12 (fun i _ _ => vers_read _ i) 0 (by simp)
    have h4 := h3 3 (by simp) (fun _ _ _ => rfl)
    have : k = 3 := by simp at h1; omega
    subst this
    rw [show endAt R3.low [(one3, 1), (z60, 1 + 2), (three5, 1 + 2 + 1)] 0 = 0 from l3] at h2
    rw [h2]; rfl
  · obtain ⟨E, hE⟩ : ∃ E, R3.D.crash (fun i => ([true, true, false, true] : List Bool).getD i false) = E := ⟨_, rfl⟩
    have hEs : E.secs = ((R3.D.secs.set 2 p).set 3 q).set 5 s := by rw [← hE]; unfold Dk.crash; simp [hw, Dk.upTo]
    have hEr : E.row = [] := by rw [← hE]; rfl
    have h12E : E.secs.length = 12 := by rw [hEs]; simp [h12]
    have hE2 : E.read 2 = R3.D.read 2 := by unfold Dk.read; rw [hEr, hEs, hw]; simp [hsec]
    have hE4 : E.read 4 = List.replicate 64 0 := by unfold Dk.read; rw [hEr, hEs]; simp [hsec, pad]
    obtain ⟨k, h1, h2, h3, h4⟩ := sc_scan I3 E h12E (fun i _ _ => by rw [← hE]; exact vers_crash _ _ i) 0 (by simp)
    rw [hE]
    rw [show endAt R3.low [(one3, 1), (z60, 1 + 2), (three5, 1 + 2 + 1)] 0 = 0 from l3] at h2 h3 h4
    have h5 := h3 1 (by simp) (fun n _ hn => by
      have : n = 0 := by change n < 1 at hn; omega
      subst this; exact hE2)
    have h6 : k = 1 := by
      rcases Nat.lt_or_ge k 2 with h | h
      · omega
      · refine absurd ?_ (h4 2 (by omega) ?_)
        · rw [scF8 E h12E, show 2 + 2 % 8 = 4 from rfl, hE4]
          have : scIs (List.replicate 64 0) 3 2 = false := by unfold scIs; rw [code_zerosS]; simp
          rw [this]; rfl
        · simp at h1
          have : k = 2 ∨ k = 3 := by omega
          rcases this with rfl | rfl
          · show 2 < 1 + 2; omega
          · show 2 < 1 + 2 + 1; omega
    subst h6
    rw [h2]; rfl
theorem own_formS {W w : World} {M : List HP} {v : Value} {e : TypeId} {n sz : Nat} {vs : List Value} (h : Sat W w M) (hm : own v e n sz vs ∈ M) (h0 : 0 < n) : ∃ b c, v = .slice (some ⟨b, 0, none⟩) n c ∧ n ≤ c ∧ c ≤ 9223372036854775807 :=
  h.fact hm fun F hF => by
    obtain ⟨hl, ⟨e1, _⟩ | ⟨b, cap, sp, e1, h1, h2, _⟩⟩ := hF
    · omega
    · exact ⟨b, cap, e1, h1, h2⟩
theorem rec_get {out : List (Rcd × Value)} {rl : List Rcd} {k : Nat} (h : out.map (·.1) = rl.take k) (i : Nat) (hi : i < out.length) (hr : i < rl.length) : out[i].1 = rl[i] := by
  have : (out.map (·.1))[i]? = (rl.take k)[i]? := by rw [h]
  have hk : i < k := by
    have := congrArg List.length h
    simp at this; omega
  simpa [hi, hr, hk] using this
theorem rcsS_get (rl : List Rcd) (i : Nat) (h : i < rl.length) : (rcsS rl)[i]? = some (.string ⟨rl[i].1.toArray⟩) := by simp [rcsS, strs, str, h]
theorem rcsN_get (rl : List Rcd) (i : Nat) (h : i < rl.length) : (rcsN rl)[i]? = some (.int .u32 (rl[i].2 : Nat)) := by simp [rcsN, u32s, h]
set_option maxRecDepth 100000 in
set_option maxHeartbeats 8000000 in
theorem begins_spec (W w : World) (L : List HP) (b br : Nat) (rl : List Rcd) (sy : Nat) (v v2 v3 : Value) (out : List (Rcd × Value)) (k : Nat) (hk : k ≤ rl.length) (hout : out.map (·.1) = rl.take k) (h30 : rl.length ≤ 1000) (hs : Sat W w (own v 46 out.length 2 (rcCells out) :: rcBods out :: sl1 v2 rl.length (rcsS rl) :: sl1 v3 rl.length (rcsN rl) :: L)) :
    Calls Try.prog 27 #[v, .agg (mdCells b br v2 v3 sy).toArray] w fun e w' => e = .returned (.bool true) ∧ Sat W w' (own v 46 out.length 2 (rcCells out) :: rcBods out :: sl1 v2 rl.length (rcsS rl) :: sl1 v3 rl.length (rcsN rl) :: L) := by
  obtain ⟨A, c, rfl, hc1, hc2⟩ := own_slice hs (i := 0) rfl
  obtain ⟨A2, c2, rfl, _, _⟩ := slice_form (hs.slice (Has.mem m2 fun F h => h))
  obtain ⟨A3, c3, rfl, _, _⟩ := slice_form (hs.slice (Has.mem m3 fun F h => h))
  have hlen : out.length ≤ rl.length := by have := congrArg List.length hout; simp at this; omega
  have hnI : ¬ (rl.length : Int) < (out.length : Int) := by omega
  go_enter Try.func27, Try.ntmps27
  go_wp2_with (first
    | (guard_target = wpList _ _ _ (⟨some 3, .box _ _, _, _, _, _⟩ :: _) _ _; refine wpl (o := ⟨some 3, .box _ _, _, _, _, _⟩) rfl fun K hK => ?_; go_must (refine op_box hs rfl _ rfl (mdCells b br (.slice A2 rl.length c2) (.slice A3 rl.length c3) sy) rfl fun b3 w1 h => hK _ _ ?_); clear hs hK K; have hs := h; clear h; try dsimp only [List.set] at hs)
    | (guard_target = wpList _ _ _ (⟨some 9, .load _ _, _, _, _, _⟩ :: _) _ _; refine wpl (o := ⟨some 9, .load _ _, _, _, _, _⟩) rfl fun K hK => op_load rfl (ad := ⟨b3, 2, none⟩) rfl (by kernel_rfl) (hs.cell (l := mdCells b br (.slice A2 rl.length c2) (.slice A3 rl.length c3) sy) (t := 56) m0 rfl) (hK _ _ ?_); clear hK K))
  go_loopw [5] (fun v5 wr => ∃ i : Nat, i ≤ out.length ∧ v5 = .int .i64 (i : Nat) ∧ Sat W wr (row b3 (mdCells b br (.slice A2 rl.length c2) (.slice A3 rl.length c3) sy) 56 :: own (.slice A out.length c) 46 out.length 2 (rcCells out) :: rcBods out :: sl1 (.slice A2 rl.length c2) rl.length (rcsS rl) :: sl1 (.slice A3 rl.length c3) rl.length (rcsN rl) :: L)) (fun v5 _ => out.length - (intOf v5).toNat)
  case atStart => exact ⟨0, by omega, rfl, hs⟩
  case round =>
    clear hs
    obtain ⟨i, hi, rfl, hs⟩ := hrel
    by_cases hin : i < out.length
    · have hinI : (i : Int) < (out.length : Int) := by omega
      have hir : i < rl.length := by omega
      have hirI : (i : Int) < (rl.length : Int) := by omega
      obtain ⟨bo, co, e, _, _⟩ := own_formS hs m1 (by omega)
      cases e
      obtain ⟨p2, o2, q2, e, _, _⟩ := sl1_form hs m3 (by omega)
      cases e
      obtain ⟨p3, o3, q3, e, _, _⟩ := sl1_form hs m4 (by omega)
      cases e
      have hg := rec_get hout i hin hir
      have g0 := rcCells_get out i hin 0 (by omega)
      have g1 := rcCells_get out i hin 1 (by omega)
      have gb := rcBods_has hin
      have gs := rcsS_get rl i hir
      have gn := rcsN_get rl i hir
      rw [hg] at g0 g1 gb
      generalize rl[i] = x at g0 g1 gb gs gn
      generalize out[i].2 = y at g0 g1 gb
      clear hg
      obtain ⟨rec, nx⟩ := x
      dsimp only at g0 g1 gb gs gn
      obtain ⟨Ay, cy, rfl, _, _⟩ := slice_form (hs.slice (Has.mem m2 gb))
      obtain ⟨ny, hny⟩ : ∃ ny, rec.length = ny := ⟨_, rfl⟩
      obtain ⟨M, hM, hs⟩ : ∃ M, M = _ ∧ Sat W _ M := ⟨_, rfl, hs⟩
      have d22 : ∀ w, Sat W w M → w.cell? ⟨bo, i * 2 + 1, none⟩ = some (.slice Ay rec.length cy) := fun w h => by rw [hM] at h; exact own_cell h m1 g1
      have d35 : ∀ w, Sat W w M → w.cell? ⟨bo, i * 2, none⟩ = some (.int .u32 (nx : Nat)) := fun w h => by rw [hM] at h; exact own_cell h m1 g0
      have s23 : ∀ w, Sat W w M → bytesAt (.slice Ay rec.length cy) rec (hp w) := fun w h => h.bytes (by rw [hM]; exact Has.mem m2 gb)
      have d25 : ∀ w, Sat W w M → w.cell? ⟨b3, 2, none⟩ = some (.slice (some ⟨p2, o2, none⟩) rl.length c2) := fun w h => by rw [hM] at h; exact h.cell m0 rfl
      have d28 : ∀ w, Sat W w M → w.cell? ⟨p2, o2 + i, none⟩ = some (.string ⟨rec.toArray⟩) := fun w h => by rw [hM] at h; exact sl1_cell h m3 gs
      have d37 : ∀ w, Sat W w M → w.cell? ⟨b3, 3, none⟩ = some (.slice (some ⟨p3, o3, none⟩) rl.length c3) := fun w h => by rw [hM] at h; exact h.cell m0 rfl
      have d40 : ∀ w, Sat W w M → w.cell? ⟨p3, o3 + i, none⟩ = some (.int .u32 (nx : Nat)) := fun w h => by rw [hM] at h; exact sl1_cell h m4 gn
      clear g0 g1 gb gs gn hny
      go_wp2_with fail
      have hM_ := Box.mk hM
      clear hM
      have hM := hM_
      clear hM_
      refine wp_region_quiet (C := fun w' => Sat W w' M) (by kernel_rfl) (by kernel_rfl) hs.drew ?_
      have hq := sat_const hs
      repeat (first
        | (with_reducible refine quiet_load (o := ⟨some 22, .load _ _, _, _, _, _⟩) rfl rfl rfl rfl d22 ?_)
        | ((with_reducible refine quiet_str (o := ⟨some 23, .convert _ _ _, _, _, _, _⟩) (rec) ?_ rfl Try.underlying36 Try.underlying5 Try.underlying9 ?_ s23 ?_); (rfl); (rfl))
        | (with_reducible refine quiet_load (o := ⟨some 25, .load _ _, _, _, _, _⟩) rfl rfl rfl rfl d25 ?_)
        | (with_reducible refine quiet_load (o := ⟨some 28, .load _ _, _, _, _, _⟩) rfl rfl rfl rfl d28 ?_)
        | (with_reducible refine quiet_load (o := ⟨some 35, .load _ _, _, _, _, _⟩) rfl rfl rfl rfl d35 ?_)
        | (with_reducible refine quiet_load (o := ⟨some 37, .load _ _, _, _, _, _⟩) rfl rfl rfl rfl d37 ?_)
        | (with_reducible refine quiet_load (o := ⟨some 40, .load _ _, _, _, _, _⟩) rfl rfl rfl rfl d40 ?_)
        | (refine wpQuiet_step (fun K hK => ?_); go_simp; first
            | (with_reducible refine hK _ ?_; clear hK K)))
      refine wpQuiet_nil ?_
      intro w8 hs8
      clear hs
      rw [hM.out] at hs8
      have hs := hs8
      clear hs8
      go_wp2_with fail
      exact ⟨⟨i + 1, by omega, rfl, hs⟩, by show out.length - ((i : Int) + 1).toNat < out.length - (i : Int).toNat; omega⟩
    · have hinI : ¬ (i : Int) < (out.length : Int) := by omega
      go_wp2_with fail
      go_ret
      exact ⟨rfl, hs.tail⟩
/-- A scan of the laws' place, with any epoch. -/
def scan8Post (b : Nat) (D : Dk) (l : List Rcd) (n : Nat) (W : World) (L : List HP) (e : Ending) (w' : World) : Prop := ∃ (v : Value) (out : List (Rcd × Value)), e = .returned (.tuple #[v, .int .u32 (n : Nat)]) ∧ out.map (·.1) = l ∧ Sat W w' (own v 46 out.length 2 (rcCells out) :: rcBods out :: disk b D :: L)
theorem scan8_spec (W w : World) (L : List HP) (b : Nat) (D : Dk) (hs : Sat W w (disk b D :: L)) (epoch from_ : Nat) (hfr : from_ < 4294967296) (hr : D.row.length ≤ 1000000) (l : List Rcd) (n : Nat) (hT : scGo (scF D 2 8 epoch) 8 from_ from_ true [] [] = (l, n)) :
    Calls Try.prog 20 #[.pointer (some ⟨b, 0, none⟩), .agg (place (2 : Nat) (8 : Nat) epoch).toArray, .int .u32 (from_ : Nat)] w (scan8Post b D l n W L) :=
  (scan_spec W w L b D hs 2 8 epoch from_ (by omega) (by omega) (by omega) hfr hr 8 (by omega) (fun i hi _ => hi) (l, n) hT).mono fun e w' ⟨v, out, h1, h2, h3⟩ => ⟨v, out, h1, h2, h3⟩
def zfr : List Value := [.int .u32 0, .int .u32 0, .int .u8 0, .slice none 0 0]
set_option maxRecDepth 100000 in
set_option maxHeartbeats 4000000 in
theorem scat_nil (W w : World) (L : List HP) (hs : Sat W w L) (first many epoch n : Nat) (h1 : 1 ≤ many) (h2 : many < 9223372036854775808) (hn : n < 4294967296) :
    Calls Try.prog 48 #[.pointer none, .agg (place first many epoch).toArray, .int .u32 (n : Nat)] w fun e w' => e = .returned (.tuple #[.agg zfr.toArray, .bool false]) ∧ Sat W w' L := by
  have hz := run_zero (P := Try.prog) zframe
  go_enter Try.func48, Try.ntmps48
  go_wp2_with (first
    | (guard_target = wpList _ _ _ (⟨some 4, .box _ _, _, _, _, _⟩ :: _) _ _; refine wpl (o := ⟨some 4, .box _ _, _, _, _, _⟩) rfl fun K hK => ?_; go_must (refine op_box hs rfl _ rfl (place first many epoch) rfl fun b4 w1 h => hK _ _ ?_); clear hs hK K; have hs := h; clear h; try dsimp only [List.set] at hs)
    | (guard_target = wpList _ _ _ (⟨some 6, .alloc _, _, _, _, _⟩ :: _) _ _; refine wpl (o := ⟨some 6, .alloc _, _, _, _, _⟩) rfl fun K hK => ?_; go_must (refine op_alloc hs rfl _ zframe [.int .u32 0, .int .u32 0, .int .u8 0, .slice none 0 0] rfl fun b6 w1 h => hK _ _ ?_); clear hs hK K; have hs := h; clear h; try dsimp only [List.set] at hs)
    | (guard_target = wpList _ _ _ (⟨some 13, .load _ _, _, _, _, _⟩ :: _) _ _; refine wpl (o := ⟨some 13, .load _ _, _, _, _, _⟩) rfl fun K hK => op_load_agg rfl (b := b4) (i := 0) rfl ((place first many epoch)) (range_whole hs (by (try dsimp only [List.set]); repeat (first | with_reducible exact List.mem_cons_self | with_reducible apply List.mem_cons_of_mem))) (by kernel_rfl) (by kernel_rfl) (hK _ _ ?_); clear hK K)
    | (go_at_call 57; go_must (refine (at_any W _ _ hs first many epoch n h1 h2 hn).mono ?_); clear hs; rintro e w1 ⟨rfl, hs⟩)
    | (go_at_call 33; go_must (refine (read_nil W _ _ hs _).mono ?_); clear hs; rintro e w1 ⟨rfl, hs⟩)
    | (guard_target = wpList _ _ _ (⟨none, .store _ (.tmp 6) _, _, _, _, _⟩ :: _) _ _; refine wpl (o := ⟨none, .store _ (.tmp 6) _, _, _, _, _⟩) rfl fun K hK => ?_; go_must (refine op_store_whole (hs.pick (A := row b6 [.int .u32 0, .int .u32 0, .int .u8 0, .slice none 0 0] 110) (by repeat (first | with_reducible exact Pick.here | with_reducible apply Pick.there))) (b := b6) rfl rfl [.int .u32 0, .int .u32 0, .int .u8 0, .slice none 0 0] rfl (by simp [Value.oneCell']) (by kernel_rfl) (k := 0) rfl rfl fun w3 h => hK _ _ ?_); clear hs hK K; have hs := h; clear h; try dsimp only [List.set] at hs))
  refine bodyPost_ret (run_results_cell_tmp rfl (b := b6) rfl [.int .u32 0, .int .u32 0, .int .u8 0, .slice none 0 0] (range_whole hs m0) (by kernel_rfl) (by kernel_rfl)) rfl ⟨rfl, hs.pack (by repeat (first | with_reducible exact Pack.refl | with_reducible exact Pack.nil | with_reducible refine Pack.cons (by repeat (first | with_reducible exact Pick.here | with_reducible apply Pick.there)) ?_ | with_reducible apply Pack.drop))⟩
set_option maxRecDepth 100000 in
set_option maxHeartbeats 4000000 in
theorem scan_nil (W w : World) (L : List HP) (hs : Sat W w L) (from_ : Nat) (hfr : from_ < 4294967296) :
    Calls Try.prog 20 #[.pointer none, .agg (place (2 : Nat) (8 : Nat) 3).toArray, .int .u32 (from_ : Nat)] w fun e w' => e = .returned (.tuple #[.slice none 0 0, .int .u32 (from_ : Nat)]) ∧ Sat W w' L := by
  go_enter Try.func20, Try.ntmps20
  go_wp2_with (first
    | (guard_target = wpList _ _ _ (⟨some 4, .box _ _, _, _, _, _⟩ :: _) _ _; refine wpl (o := ⟨some 4, .box _ _, _, _, _, _⟩) rfl fun K hK => ?_; go_must (refine op_box hs rfl _ rfl (place (2 : Nat) (8 : Nat) 3) rfl fun b4 w1 h => hK _ _ ?_); clear hs hK K; have hs := h; clear h
       have k21 : w1.cell? ⟨b4, 1, none⟩ = some (.int .i64 ((8 : Nat) : Int)) := hs.cell m0 rfl))
  go_step3
  go_wp2_with (first
    | (guard_target = wpList _ _ _ (⟨some 17, .load _ _, _, _, _, _⟩ :: _) _ _; refine wpl (o := ⟨some 17, .load _ _, _, _, _, _⟩) rfl fun K hK => op_load rfl (ad := ⟨b4, 0, none⟩) rfl (by kernel_rfl) (hs.cell m0 rfl) (hK _ _ ?_); clear hK K)
    | (guard_target = wpList _ _ _ (⟨some 21, .load _ _, _, _, _, _⟩ :: _) _ _; refine wpl (o := ⟨some 21, .load _ _, _, _, _, _⟩) rfl fun K hK => op_load rfl (ad := ⟨b4, 1, none⟩) rfl (by kernel_rfl) k21 (hK _ _ ?_); clear hK K))
  go_step3
  go_wp2_with (first
    | (guard_target = wpList _ _ _ (⟨some 27, .load _ _, _, _, _, _⟩ :: _) _ _; refine wpl (o := ⟨some 27, .load _ _, _, _, _, _⟩) rfl fun K hK => op_load rfl (ad := ⟨b4, 1, none⟩) rfl (by kernel_rfl) (hs.cell m0 rfl) (hK _ _ ?_); clear hK K))
  clear k21
  go_loopw [8, 9, 10, 11, 28] (fun v8 v9 v10 v11 v28 wr => v28 = .int .i64 0 ∧ v8 = .slice none 0 0 ∧ v10 = .int .u32 (from_ : Nat) ∧ v11 = .bool true ∧ Sat W wr (row b4 (place (2 : Nat) (8 : Nat) 3) 25 :: L)) (fun _ _ _ _ v28 _ => 0)
  case atStart => exact ⟨rfl, rfl, rfl, rfl, hs⟩
  case round =>
    clear hs
    obtain ⟨rfl, rfl, rfl, rfl, hs⟩ := hrel
    have hnI : IntKind.u32.wrap ((from_ : Int) + 0) = (from_ : Int) := by rw [IntKind.wrap_u32]; omega
    have hnJ : IntKind.u32.wrap (from_ : Int) = (from_ : Int) := by rw [IntKind.wrap_u32]; omega
    go_wp2_with (first
      | (guard_target = wpList _ _ _ (⟨some 37, .load _ _, _, _, _, _⟩ :: _) _ _; refine wpl (o := ⟨some 37, .load _ _, _, _, _, _⟩) rfl fun K hK => op_load_agg rfl (b := b4) (i := 0) rfl ((place (2 : Nat) (8 : Nat) 3)) (range_whole hs (by (try dsimp only [List.set]); repeat (first | with_reducible exact List.mem_cons_self | with_reducible apply List.mem_cons_of_mem))) (by kernel_rfl) (by kernel_rfl) (hK _ _ ?_); clear hK K)
      | (go_at_call 48; go_must (refine (scat_nil W _ _ hs 2 8 3 from_ (by omega) (by omega) hfr).mono ?_); clear hs; rintro e w1 ⟨rfl, hs⟩)
      | (guard_target = wpList _ _ _ (⟨some 14, .alloc _, _, _, _, _⟩ :: _) _ _; refine wpl (o := ⟨some 14, .alloc _, _, _, _, _⟩) rfl fun K hK => ?_; go_must (refine op_alloc hs rfl _ zframe [.int .u32 0, .int .u32 0, .int .u8 0, .slice none 0 0] rfl fun b14 w1 h => hK _ _ ?_); clear hs hK K; have hs := h; clear h; try dsimp only [List.set] at hs)
      | (guard_target = wpList _ _ _ (⟨none, .store _ (.tmp 14) _, _, _, _, _⟩ :: _) _ _; refine wpl (o := ⟨none, .store _ (.tmp 14) _, _, _, _, _⟩) rfl fun K hK => ?_; go_must (refine op_store_whole (hs.pick (A := row b14 [.int .u32 0, .int .u32 0, .int .u8 0, .slice none 0 0] 110) (by repeat (first | with_reducible exact Pick.here | with_reducible apply Pick.there))) (b := b14) rfl rfl zfr rfl (by simp [zfr, Value.oneCell']) (by kernel_rfl) (k := 0) rfl rfl fun w3 h => hK _ _ ?_); clear hs hK K; have hs := h; clear h; dsimp only [List.set] at hs))
    (try rw [Exit.noGoto_ret])
    go_ret2
    exact ⟨rfl, hs.pack (by repeat (first | with_reducible exact Pack.refl | with_reducible exact Pack.nil | with_reducible refine Pack.cons (by repeat (first | with_reducible exact Pick.here | with_reducible apply Pick.there)) ?_ | with_reducible apply Pack.drop))⟩
set_option maxRecDepth 100000 in
set_option maxHeartbeats 2000000 in
theorem rfree_zero (W w : World) (L : List HP) (hs : Sat W w L) (cs : List Value) (hcs : cs[4]? = some (.int .i64 0)) (hc4 : cs[6]? = some (.int .u32 0)) (hc5 : cs[7]? = some (.int .u32 0)) :
    Calls Try.prog 34 #[.agg cs.toArray] w fun e w' => e = .returned (.int .i64 0) ∧ Sat W w' L := by
  go_enter Try.func34, Try.ntmps34
  go_wp2_with (first
    | (guard_target = wpList _ _ _ (⟨some 1, .box _ _, _, _, _, _⟩ :: _) _ _; refine wpl (o := ⟨some 1, .box _ _, _, _, _, _⟩) rfl fun K hK => ?_; go_must (refine op_box hs rfl _ rfl cs rfl fun b1 w1 h => hK _ _ ?_); clear hs hK K; have hs := h; clear h; try dsimp only [List.set] at hs)
    | (guard_target = wpList _ _ _ (⟨some 4, .load _ _, _, _, _, _⟩ :: _) _ _; refine wpl (o := ⟨some 4, .load _ _, _, _, _, _⟩) rfl fun K hK => op_load rfl (ad := ⟨b1, 4, none⟩) rfl (by kernel_rfl) (hs.cell m0 hcs) (hK _ _ ?_); clear hK K)
    | (guard_target = wpList _ _ _ (⟨some 6, .load _ _, _, _, _, _⟩ :: _) _ _; refine wpl (o := ⟨some 6, .load _ _, _, _, _, _⟩) rfl fun K hK => op_load rfl (ad := ⟨b1, 7, none⟩) rfl (by kernel_rfl) (hs.cell m0 hc5) (hK _ _ ?_); clear hK K)
    | (guard_target = wpList _ _ _ (⟨some 10, .load _ _, _, _, _, _⟩ :: _) _ _; refine wpl (o := ⟨some 10, .load _ _, _, _, _, _⟩) rfl fun K hK => op_load rfl (ad := ⟨b1, 6, none⟩) rfl (by kernel_rfl) (hs.cell m0 hc4) (hK _ _ ?_); clear hK K))
  go_ret
  exact ⟨rfl, hs.tail⟩
theorem info_boolS : (Try.prog.info? 4).map (fun i => (i.zero, i.size, i.bytes)) = some (some (.bool false), 1, 1) := by kernel_rfl
theorem bools_oneS (l : List Bool) : ∀ v ∈ bools l, v.oneCell' = true := fun v hv => by obtain ⟨x, _, rfl⟩ := List.mem_map.1 hv; rfl
set_option maxRecDepth 100000 in
set_option maxHeartbeats 8000000 in
theorem awake7_spec (W w : World) (L : List HP) (hs : Sat W w L) :
    Calls Try.prog 15 #[] w fun e w' => e = .returned (.bool true) ∧ Sat W w' L := by
  obtain ⟨R1, R2, R3, hA⟩ := aw
  obtain ⟨R0, hR0⟩ : ∃ R0, md0.R = R0 := ⟨_, rfl⟩
  have hnew : Box ((⟨Dk.new 12, 2, 8, 3, 0, 0⟩ : Rg) = R0 ∧ Dk.new 12 = R0.D) := ⟨by rw [← hR0]; exact ⟨rfl, rfl⟩⟩
  have ok0 : R0.Ok := by rw [← hR0]; exact md0_inv.ok
  have r0 : R0.D.row.length ≤ 800000 := by rw [← hR0]; exact Nat.zero_le _
  obtain ⟨a1, c1, t1, a2, c2, t2, a3, c3, t3, r1, r2, r3, s3, s4⟩ := hA
  rw [hR0] at a1 c1 t1
  have ok1 : R1.Ok := by rw [← a1]; exact Rg.append_ok ok0 _
  have ok2 : R2.Ok := by rw [← a2]; exact Rg.append_ok ok1 _
  have e60 : Box (List.replicate 60 (Value.int .u8 0) = u8s z60) := ⟨by simp [u8s, z60]⟩
  obtain ⟨D4, hD4⟩ : ∃ D4, R3.D.crash (fun i => ([true, true, false, true] : List Bool).getD i false) = D4 := ⟨_, rfl⟩
  rw [hD4] at s4
  have r4 : D4.row.length ≤ 1000000 := by rw [← hD4]; exact Nat.zero_le _
  have HA := Box.mk a1
  have HC := Box.mk (And.intro c1 t1)
  have HA2 := Box.mk a2
  have HC2 := Box.mk (And.intro c2 t2)
  have HA3 := Box.mk a3
  have HC3 := Box.mk (And.intro c3 t3)
  have HS3 := Box.mk s3
  have HS4 := Box.mk s4
  have HD4 := Box.mk hD4
  have HR := Box.mk (And.intro r0 (And.intro r1 (And.intro r2 (And.intro r3 r4))))
  clear a1 c1 t1 a2 c2 t2 a3 c3 t3 r0 r1 r2 r3 r4 s3 s4 hD4 hR0
  go_enter Try.func15, Try.ntmps15
  go_wp2_with (first
    | (go_at_call 16; go_must (refine (new_spec W _ _ hs 12 (by omega) (by omega)).mono ?_); clear hs; rintro e w1 ⟨b1, rfl, hs⟩)
    | (go_at_call 25; go_must (refine (scplace_spec W _ _ hs).mono ?_); clear hs; rintro e w1 ⟨rfl, hs⟩)
    | (go_at_call 45; go_must (refine (rgnew_some W _ _ b1 (Dk.new 12) hs 2 8 3 0 0 (by decide) (by simp [Dk.new, RgMay])).mono ?_); clear hs; rintro e w1 ⟨br, rfl, hs⟩; rw [hnew.out.1, hnew.out.2] at hs)
    | (guard_target = wpList _ _ _ (⟨some 14, .buildSlice _ _ _, _, _, _, _⟩ :: _) _ _; refine wpl (o := ⟨some 14, .buildSlice _ _ _, _, _, _, _⟩) rfl fun K hK => ?_; go_must (refine op_lit1 hs rfl Try.underlying36 info_u8 rfl (u8s one3) (by omega) rfl (u8s_one _) (by simp [u8s, one3, Act.eval]) fun b14 w1 h => hK _ _ ?_); clear hs hK K; have hs := h; clear h)
    | (guard_target = wpList _ _ _ (⟨some 15, .convert _ _ _, _, _, _, _⟩ :: _) _ _; refine wpl (o := ⟨some 15, .convert _ _ _, _, _, _, _⟩) rfl fun K hK => ?_; go_must (refine op_mark hs rfl Try.underlying36 Try.underlying5 rfl (k := 0) rfl fun w2 h => hK _ _ ?_); clear hs hK K; have hs := h; clear h)
    | (guard_target = wpList _ _ _ (⟨some 22, .convert _ _ _, _, _, _, _⟩ :: _) _ _; refine wpl (o := ⟨some 22, .convert _ _ _, _, _, _, _⟩) rfl fun K hK => ?_; go_must (refine op_mark hs rfl Try.underlying36 Try.underlying5 rfl (k := 0) rfl fun w2 h => hK _ _ ?_); clear hs hK K; have hs := h; clear h)
    | (guard_target = wpList _ _ _ (⟨some 18, .makeSlice _ _ _, _, _, _, _⟩ :: _) _ _; refine wpl (o := ⟨some 18, .makeSlice _ _ _, _, _, _, _⟩) rfl fun K hK => ?_; go_must (refine op_make hs rfl Try.underlying36 rfl rfl info_u8 rfl (n := 60) (c := 60) (by omega) (by omega) (by omega) fun b18 w1 h => hK _ _ ?_); clear hs hK K; have hs := h; clear h; rw [e60.out] at hs)
    | (guard_target = wpList _ _ _ (⟨some 21, .buildSlice _ _ _, _, _, _, _⟩ :: _) _ _; refine wpl (o := ⟨some 21, .buildSlice _ _ _, _, _, _, _⟩) rfl fun K hK => ?_; go_must (refine op_lit1 hs rfl Try.underlying36 info_u8 rfl (u8s three5) (by omega) rfl (u8s_one _) (by simp [u8s, three5, Act.eval]) fun b21 w1 h => hK _ _ ?_); clear hs hK K; have hs := h; clear h)
    | (have hh : b21 = b21 := rfl; clear hh; go_at_call 30; go_must (refine (append_spec W _ _ br b1 R2 ok2 ((hs.pick (A := rg br b1 R2) (by repeat (first | with_reducible exact Pick.here | with_reducible apply Pick.there))).pick (A := disk b1 R2.D) (by repeat (first | with_reducible exact Pick.here | with_reducible apply Pick.there))) _ three5 (lit_bytes 0 rfl 5 rfl (by omega)) (by simp [three5]) HR.out.2.2.1).mono ?_); clear hs; rintro e w1 ⟨rfl, hs⟩; rw [HC3.out.1, HC3.out.2]; rw [HA3.out] at hs)
    | (have hh : b18 = b18 := rfl; clear hh; go_at_call 30; go_must (refine (append_spec W _ _ br b1 R1 ok1 ((hs.pick (A := rg br b1 R1) (by repeat (first | with_reducible exact Pick.here | with_reducible apply Pick.there))).pick (A := disk b1 R1.D) (by repeat (first | with_reducible exact Pick.here | with_reducible apply Pick.there))) _ z60 (lit_bytes 0 rfl 60 rfl (by omega)) (by simp [z60]) HR.out.2.1).mono ?_); clear hs; rintro e w1 ⟨rfl, hs⟩; rw [HC2.out.1, HC2.out.2]; rw [HA2.out] at hs)
    | (go_at_call 30; go_must (refine (append_spec W _ _ br b1 R0 ok0 ((hs.pick (A := rg br b1 R0) (by repeat (first | with_reducible exact Pick.here | with_reducible apply Pick.there))).pick (A := disk b1 R0.D) (by repeat (first | with_reducible exact Pick.here | with_reducible apply Pick.there))) _ one3 (lit_bytes 0 rfl 3 rfl (by omega)) (by simp [one3]) HR.out.1).mono ?_); clear hs; rintro e w1 ⟨rfl, hs⟩; rw [HC.out.1, HC.out.2]; rw [HA.out] at hs)
    | (guard_target = wpList _ _ _ (⟨some 31, .buildSlice _ _ _, _, _, _, _⟩ :: _) _ _; refine wpl (o := ⟨some 31, .buildSlice _ _ _, _, _, _, _⟩) rfl fun K hK => ?_; go_must (refine op_lit1 hs rfl Try.underlying51 info_boolS rfl (bools [true, true, false, true]) (by omega) rfl (bools_oneS _) (by simp [bools, Act.eval]) fun b31 w1 h => hK _ _ ?_); clear hs hK K; have hs := h; clear h)
    | (go_at_call 24; go_must (refine (crash_spec W _ _ b1 R3.D (hs.pick (A := disk b1 R3.D) (by repeat (first | with_reducible exact Pick.here | with_reducible apply Pick.there))) (by have := HR.out.2.2.2.1; omega) _ [true, true, false, true] (Has.of (A := row b31 (bools [true, true, false, true]) 4) (by (try dsimp only [List.set]); repeat (first | with_reducible exact List.mem_cons_self | with_reducible apply List.mem_cons_of_mem)) fun F hF => own_sliceAt F (own_exact (n := 4) (sz := 1) rfl (by omega) F hF))).mono ?_); clear hs; rintro e w1 ⟨rfl, hs⟩; rw [HD4.out] at hs)
    | (have hh : b31 = b31 := rfl; clear hh; go_at_call 20; go_must (refine (scan8_spec W _ _ b1 D4 (hs.pick (A := disk b1 D4) (by repeat (first | with_reducible exact Pick.here | with_reducible apply Pick.there))) 3 0 (by omega) HR.out.2.2.2.2 _ _ HS4.out).mono ?_); clear hs; rintro e w1 ⟨v5, o5, rfl, h5, hs⟩
       obtain ⟨x5, rfl, e5⟩ := one_of h5
       obtain ⟨y5, yv⟩ := x5
       dsimp only at e5
       subst e5
       obtain ⟨b5, c5, rfl, _, _⟩ := own_formS hs (v := v5) (n := 1) m0 (by omega)
       have gb : ∀ F, rcBods [((one3, 1), yv)] F → bytesAt yv one3 F := rcBods_has (l := [((one3, 1), yv)]) (i := 0) (by simp)
       obtain ⟨A5, q5, rfl, _, _⟩ := slice_form (hs.bytes (Has.mem m1 gb))
       have k59 : w1.cell? ⟨b5, 1, none⟩ = some (.slice A5 one3.length q5) := own_cell hs (vs := rcCells [((one3, 1), .slice A5 one3.length q5)]) m0 rfl
       clear h5)
    | (go_at_call 20; go_must (refine (scan8_spec W _ _ b1 R3.D (hs.pick (A := disk b1 R3.D) (by repeat (first | with_reducible exact Pick.here | with_reducible apply Pick.there))) 3 0 (by omega) (by have := HR.out.2.2.2.1; omega) _ _ HS3.out).mono ?_); clear hs; rintro e w1 ⟨v3, o3, rfl, h3, hs⟩
       have n3 : o3.length = 3 := by have := congrArg List.length h3; simpa using this
       rw [n3] at hs
       obtain ⟨b3, c3, rfl, _, _⟩ := own_formS hs (v := v3) m0 (by omega)
       clear h3 n3)
    | (guard_target = wpList _ _ _ (⟨some 59, .load _ _, _, _, _, _⟩ :: _) _ _; refine wpl (o := ⟨some 59, .load _ _, _, _, _, _⟩) rfl fun K hK => op_load rfl (ad := ⟨b5, 1, none⟩) rfl (by kernel_rfl) k59 (hK _ _ ?_); clear hK K)
    | (guard_target = wpList _ _ _ (⟨some 60, .convert _ _ _, _, _, _, _⟩ :: _) _ _; refine wpl (o := ⟨some 60, .convert _ _ _, _, _, _, _⟩) rfl fun K hK => ?_; go_must (refine op_to_string rfl Try.underlying36 Try.underlying5 Try.underlying9 rfl (hs.bytes (l := one3) (Has.mem (A := rcBods [((one3, 1), .slice A5 one3.length q5)]) (by (try dsimp only [List.set]); repeat (first | with_reducible exact List.mem_cons_self | with_reducible apply List.mem_cons_of_mem)) (rcBods_has (l := [((one3, 1), .slice A5 one3.length q5)]) (i := 0) (by simp)))) (hK _ _ ?_)); clear hK K))
  go_ret
  exact ⟨rfl, hs.pack (by repeat (first | with_reducible exact Pack.refl | with_reducible exact Pack.nil | with_reducible refine Pack.cons (by repeat (first | with_reducible exact Pick.here | with_reducible apply Pick.there)) ?_ | with_reducible apply Pack.drop))⟩
end Go.Proofs.Ytimknlabhhopcaa
