/- The walk of ScanReads. -/
import Derived.Test.YtimknlabhhopcaaScRef
import Derived.Test.YtimknlabhhopcaaScAll
import Derived.Test.YtimknlabhhopcaaVdAny
import Derived.Test.YtimknlabhhopcaaLift
set_option linter.unusedVariables false
set_option linter.unusedSimpArgs false
namespace Go.Proofs.Ytimknlabhhopcaa
open Go.RowKit
/-! Slices of slices of bytes that are arguments. -/
def oldsAt (v : Value) (l : List (List UInt8)) (F : PH) : Prop := (Kin.slice 24 (Kin.slice 1 Kin.u8)).K F l [v]
theorem olds_form {v : Value} {l : List (List UInt8)} {F : PH} (h : oldsAt v l F) : ∃ A c, v = .slice A l.length c ∧ l.length ≤ c ∧ c ≤ 9223372036854775807 ∧ l.length ≤ 140737488351232 := by
  obtain ⟨v', vs, e, ⟨_, A, c, rfl, h1, h2, _⟩, _, h3⟩ := h
  cases e
  exact ⟨A, c, rfl, h1, h2, by omega⟩
theorem olds_get {W w : World} {L : List HP} (hs : Sat W w L) (hold : old W ∈ L) {v : Value} {l : List (List UInt8)} (h : oldsAt v l (hp W)) (i : Nat) (hi : i < l.length) :
    ∃ b o c vb, v = .slice (some ⟨b, o, none⟩) l.length c ∧ w.rangeAt b (o + i) [vb] ∧ bytesAt vb l[i] (hp W) ∧ l[i].length ≤ 140737488351232 := by
  have hH : Has L (fun F => F = hp W) := Has.mem hold fun F hF => by cases hF; rfl
  obtain ⟨v', vs, e, hsl, hrow, _⟩ := h
  cases e
  have hsz : (Kin.slice 1 Kin.u8).sz = 1 := rfl
  have hk := hrow.2 i l[i] (by simp [hi])
  rw [hsz, Nat.mul_one] at hk
  have hk0 := hk
  obtain ⟨vb, us, e1, r⟩ := hk0
  have hk2 : (Kin.slice 1 Kin.u8).K (hp W) l[i] [vb] := by rw [← e1]; exact hk
  obtain ⟨hb, hlen⟩ := kin_bytes hk2
  obtain ⟨hl, A, c, rfl, h1, h2, h3 | ⟨b, o, rfl, hc⟩⟩ := hs.slice (hH.imp fun F hF => by rw [hF]; exact hsl)
  · rw [h3, hsz] at hl; simp at hl; omega
  · refine ⟨b, o, c, vb, rfl, fun j u hj => ?_, hb, hlen⟩
    rw [← e1, List.getElem?_take] at hj
    split at hj
    · rw [List.getElem?_drop] at hj
      have := cellsAt_world hc (i + j) u hj
      rw [← Nat.add_assoc] at this
      exact this
    · cases hj
theorem oold_range {W w : World} {L : List HP} (hs : Sat W w L) (hold : old W ∈ L) {b o : Nat} {vs : List Value} (h : W.rangeAt b o vs) (h0 : vs ≠ []) : w.rangeAt b o vs := by
  have := hs.has (Has.mem hold (cellsAt_old h h0)) (fun _ _ => cellsAt_mono)
  exact fun j v hv => cellsAt_world this j v hv
theorem fits_olds : Fits Try.prog 22 (Kin.slice 24 (Kin.slice 1 Kin.u8)) :=
  fits_slice Try.underlying22 (by kernel_rfl) (fits_slice Try.underlying36 (by kernel_rfl) (fits_u8 Try.underlying5 (by kernel_rfl)) (by decide) (by kernel_rfl)) (by decide) (by kernel_rfl)
abbrev PlTup := Int × Int × Int × Unit
def plKin : Kin PlTup := Kin.pair (Kin.int .i64) (Kin.pair (Kin.int .i64) (Kin.pair (Kin.int .u32) Kin.unit))
theorem fits_place : Fits Try.prog 25 plKin :=
  fits_struct Try.underlying25 (by kernel_rfl)
    (fitsL_cons rfl (fits_int Try.underlying3 (by kernel_rfl))
      (fitsL_cons rfl (fits_int Try.underlying3 (by kernel_rfl))
        (fitsL_cons rfl (fits_int Try.underlying23 (by kernel_rfl))
          (fitsL_nil _))))
theorem i64_litS {n : Int} (hn : (Lit.int .i64 n).wf = true) : n < 9223372036854775808 := by
  have hn' : -9223372036854775808 ≤ n ∧ n ≤ 9223372036854775807 := by simpa [Lit.wf, IntKind.min, IntKind.max, IntKind.signed, IntKind.bits] using hn
  omega
theorem u32_litS {n : Int} (hn : (Lit.int .u32 n).wf = true) : ∃ m : Nat, m < 4294967296 ∧ n = (m : Int) := by
  have hn' : 0 ≤ n ∧ n ≤ 4294967295 := by simpa [Lit.wf, IntKind.min, IntKind.max, IntKind.signed, IntKind.bits] using hn
  obtain ⟨m, rfl⟩ := Int.eq_ofNat_of_zero_le hn'.1
  exact ⟨m, by omega, rfl⟩
theorem pl_cells {F : PH} {c : PlTup} {cs : List Value} (h : plKin.K F c cs) : ∃ (first many : Int) (ep : Nat), first < 9223372036854775808 ∧ many < 9223372036854775808 ∧ ep < 4294967296 ∧ cs = place first many ep := by
  obtain ⟨f, m, e, u⟩ := c
  obtain ⟨a1, b1, rfl, ⟨rfl, hf⟩, a2, b2, rfl, ⟨rfl, hm⟩, a3, b3, rfl, ⟨rfl, he⟩, h4⟩ := h
  cases h4
  obtain ⟨n, hn, rfl⟩ := u32_litS he
  exact ⟨f, m, n, i64_litS hf, i64_litS hm, hn, rfl⟩
/-! What is found in twelve sectors: no more than twelve frames. -/
theorem php : ∀ (m n : Nat) (a : Nat → Nat), (∀ j, j < n → a j < m) → (∀ i j, i < n → j < n → a i = a j → i = j) → n ≤ m
  | 0, n, a, h, _ => by
    rcases Nat.eq_zero_or_pos n with h0 | h0
    · omega
    · exact absurd (h 0 h0) (by omega)
  | m + 1, 0, a, _, _ => by omega
  | m + 1, n + 1, a, h, hi => by
    have := php m n (fun j => if a j = m then a n else a j) (fun j hj => by
      have h1 := h j (by omega)
      have h2 := h n (by omega)
      try dsimp only
      split
      · rename_i e
        have : a n ≠ m := fun e2 => by
          have := hi j n (by omega) (by omega) (by omega)
          omega
        omega
      · omega) (fun i j hi' hj' => by
      intro e
      try dsimp only at e
      split at e <;> split at e
      · rename_i e1 e2; exact hi i j (by omega) (by omega) (by omega)
      · rename_i e1 e2; have := hi n j (by omega) (by omega) e; omega
      · rename_i e1 e2; have := hi i n (by omega) (by omega) e; omega
      · exact hi i j (by omega) (by omega) e)
    omega
theorem sc_fact {D : Dk} {first many epoch n : Nat} (h : (scF D first many epoch n).isSome = true) : ∃ k : Nat, scAdr first many n = (k : Int) ∧ k < D.secs.length ∧ (Fr.parse (D.rbytes (k : Int))).seq = n := by
  unfold scF at h
  split at h
  · rename_i hi
    unfold scIs at hi
    simp only [Bool.and_eq_true, decide_eq_true_eq] at hi
    obtain ⟨h1, h2, _⟩ := hi
    cases ho : D.out (scAdr first many n) with
    | true =>
      exfalso
      have : D.rbytes (scAdr first many n) = [] := by unfold Dk.rbytes; rw [ho]; rfl
      rw [this, code_nil] at h1; omega
    | false =>
      obtain ⟨k, e, hk⟩ := Dk.not_out ho
      rw [e] at h2
      exact ⟨k, e, hk, h2⟩
  · cases h
theorem sc_few {D : Dk} (h12 : D.secs.length = 12) (first many epoch from_ : Nat) (i : Nat) (h : ∀ j, j < i → (scF D first many epoch ((from_ + j) % 4294967296)).isSome = true) : i ≤ 12 := by
  rcases Nat.lt_or_ge 12 i with hi | hi
  · have := php 12 13 (fun j => (scAdr first many ((from_ + j) % 4294967296)).toNat) (fun j hj => by
      obtain ⟨k, e, hk, _⟩ := sc_fact (h j (by omega))
      try dsimp only
      rw [e, Int.toNat_natCast]; omega) (fun i j hi hj e => by
      obtain ⟨k, e1, _, s1⟩ := sc_fact (h i (by omega))
      obtain ⟨k', e2, _, s2⟩ := sc_fact (h j (by omega))
      try dsimp only at e
      rw [e1, e2, Int.toNat_natCast, Int.toNat_natCast] at e
      subst e
      rw [s1] at s2
      omega)
    omega
  · exact hi
theorem sc_both (W : World) (D : Dk) (ok : D.Ok) (h12 : D.secs.length = 12) (hr : D.row.length ≤ 1000) (first many : Int) (epoch from_ : Nat) (hf : first < 9223372036854775808) (hm : many < 9223372036854775808) (hfr : from_ < 4294967296) :
    ∃ T : List Rcd × Nat, (∀ w b M, Sat W w (disk b D :: M) → Calls Try.prog 20 #[.pointer (some ⟨b, 0, none⟩), .agg (place first many epoch).toArray, .int .u32 (from_ : Nat)] w (scanPost T W (disk b D :: M))) ∧
      ∀ w vs va vr M, Sat W w (ref vs va vr D :: M) → Calls Try.prog 21 #[.agg #[vs, va, vr], .int .i64 first, .int .i64 many, .int .u32 (epoch : Nat), .int .u32 (from_ : Nat)] w (rscanPost T W (ref vs va vr D :: M)) := by
  by_cases hno : first < 0 ∨ many < 1
  · exact ⟨([], from_), fun w b M hs => scan_none W w _ hs first many epoch from_ _ hno, fun w vs va vr M hs => rscan_none W w _ hs vs va vr first many epoch from_ hno⟩
  · obtain ⟨f, rfl⟩ := Int.eq_ofNat_of_zero_le (show 0 ≤ first by omega)
    obtain ⟨m, rfl⟩ := Int.eq_ofNat_of_zero_le (show 0 ≤ many by omega)
    exact ⟨_, fun w b M hs => scan_spec W w M b D hs f m epoch from_ (by omega) (by omega) (by omega) hfr (by omega) 12 (by omega) (fun i _ h => sc_few h12 f m epoch from_ i h) _ rfl, fun w vs va vr M hs => rscan_spec W w M vs va vr D ok hs f m epoch from_ (by omega) (by omega) (by omega) hfr (by omega) 12 (by omega) (fun i _ h => sc_few h12 f m epoch from_ i h) _ rfl⟩
theorem wnext_size (D : Dk) (i : Int) (l : List UInt8) : (D.wnext i l).secs.length = D.secs.length := by
  unfold Dk.wnext
  split <;> rfl
def rdS (b9 : Nat) (cs : List Value) (bd o : Nat) (v : Value) (w : World) : Prop := w.rangeAt b9 0 cs ∧ w.cell? ⟨bd, o, none⟩ = some v
def cellS (bd o : Nat) (v : Value) (w : World) : Prop := w.cell? ⟨bd, o, none⟩ = some v
theorem rec_getR {out : List (Rcd × Value)} {rl : List Rcd} (h : out.map (·.1) = rl) (i : Nat) (hi : i < out.length) (hr : i < rl.length) : out[i].1 = rl[i] := by
  subst h; simp
set_option maxRecDepth 100000 in
set_option maxHeartbeats 16000000 in
theorem scanReads_walk (W w : World) (L : List HP) (hs : Sat W w L) (hold : old W ∈ L) (v : Value) (l : List (List UInt8)) (h : oldsAt v l (hp W)) (first many : Int) (epoch from_ : Nat) (hf : first < 9223372036854775808) (hm : many < 9223372036854775808) (hfr : from_ < 4294967296) :
    Calls Try.prog 3 #[v, .agg (place first many epoch).toArray, .int .u32 (from_ : Nat)] w fun e w' => e = .returned (.bool true) ∧ Sat W w' L := by
  obtain ⟨A, cap, rfl, _, _, _⟩ := olds_form h
  by_cases h40 : 40 < l.length
  · have h40I : (40 : Int) < (l.length : Int) := by omega
    go_enter Try.func3, Try.ntmps3
    go_wp2_with (first
      | (guard_target = wpList _ _ _ (⟨some 4, .box _ _, _, _, _, _⟩ :: _) _ _; refine wpl (o := ⟨some 4, .box _ _, _, _, _, _⟩) rfl fun K hK => ?_; go_must (refine op_box hs rfl _ rfl (place first many epoch) rfl fun b4 w1 h => hK _ _ ?_); clear hs hK K; have hs := h; clear h; try dsimp only [List.set] at hs)
      | (go_at_call 15; go_must (refine (awake7_spec W _ _ hs).mono ?_); clear hs; rintro e w1 ⟨rfl, hs⟩)
      | (go_at_call 16; go_must (refine (new_spec W _ _ hs 12 (by omega) (by omega)).mono ?_); clear hs; rintro e w1 ⟨b1, rfl, hs⟩))
    go_ret
    exact ⟨rfl, hs.pack (by repeat (first | with_reducible exact Pack.refl | with_reducible exact Pack.nil | with_reducible refine Pack.cons (by repeat (first | with_reducible exact Pick.here | with_reducible apply Pick.there)) ?_ | with_reducible apply Pack.drop))⟩
  · have h40I : ¬ (40 : Int) < (l.length : Int) := by omega
    go_enter Try.func3, Try.ntmps3
    go_wp2_with (first
      | (guard_target = wpList _ _ _ (⟨some 4, .box _ _, _, _, _, _⟩ :: _) _ _; refine wpl (o := ⟨some 4, .box _ _, _, _, _, _⟩) rfl fun K hK => ?_; go_must (refine op_box hs rfl _ rfl (place first many epoch) rfl fun b4 w1 h => hK _ _ ?_); clear hs hK K; have hs := h; clear h; try dsimp only [List.set] at hs)
      | (go_at_call 15; go_must (refine (awake7_spec W _ _ hs).mono ?_); clear hs; rintro e w1 ⟨rfl, hs⟩)
      | (go_at_call 16; go_must (refine (new_spec W _ _ hs 12 (by omega) (by omega)).mono ?_); clear hs; rintro e w1 ⟨b1, rfl, hs⟩)
      | (go_at_call 17; go_must (refine (rnew_spec W _ _ hs 12 (by omega)).mono ?_); clear hs; rintro e w1 ⟨vs, va, vr, rfl, hs⟩
         obtain ⟨As, cs, rfl, _, _⟩ := slice_form (hs.slice (ref_secs m0))
         obtain ⟨Aa, ca, rfl, _, _⟩ := slice_form (hs.slice (ref_ats m0))
         obtain ⟨Ar, cr, rfl, _, _⟩ := slice_form (hs.slice (ref_row m0)))
      | (guard_target = wpList _ _ _ (⟨some 9, .alloc _, _, _, _, _⟩ :: _) _ _; refine wpl (o := ⟨some 9, .alloc _, _, _, _, _⟩) rfl fun K hK => ?_; go_must (refine op_alloc hs rfl _ zref [Value.slice none 0 0, .slice none 0 0, .slice none 0 0] rfl fun b9 w1 h => hK _ _ ?_); clear hs hK K; have hs := h; clear h; try dsimp only [List.set] at hs)
      | (guard_target = wpList _ _ _ (⟨none, .store _ (.tmp 9) _, _, _, _, _⟩ :: _) _ _; refine wpl (o := ⟨none, .store _ (.tmp 9) _, _, _, _, _⟩) rfl fun K hK => ?_; go_must (refine op_store_whole hs (b := b9) rfl rfl [.slice As (Dk.new 12).secs.length cs, .slice Aa (Dk.new 12).row.length ca, .slice Ar (Dk.new 12).row.length cr] rfl (by simp [Value.oneCell']) (by kernel_rfl) (k := 0) rfl rfl fun w9 h => hK _ _ ?_); clear hs hK K; have hs := h; clear h; dsimp only [List.set] at hs))
    go_loopw [10] (fun v10 wr => ∃ (k : Nat) (D : Dk) (vs va vr : Value), k ≤ l.length ∧ v10 = .int .i64 (k : Nat) ∧ D.Ok ∧ Box (D.secs.length = 12) ∧ D.row.length ≤ k ∧ Sat W wr (row b9 [vs, va, vr] 32 :: ref vs va vr D :: disk b1 D :: row b4 (place first many epoch) 25 :: L)) (fun v10 _ => l.length - (intOf v10).toNat)
    case atStart => exact ⟨0, Dk.new 12, _, _, _, by omega, rfl, Dk.new_ok (by omega), ⟨by simp [Dk.new]⟩, by simp [Dk.new], hs.pack (by repeat (first | with_reducible exact Pack.refl | with_reducible exact Pack.nil | with_reducible refine Pack.cons (by repeat (first | with_reducible exact Pick.here | with_reducible apply Pick.there)) ?_ | with_reducible apply Pack.drop))⟩
    case round =>
      clear hs
      obtain ⟨k, D, vs, va, vr, hk, rfl, ok, h12, hrow, hs⟩ := hrel
      obtain ⟨As, cs, rfl, _, _⟩ := slice_form (hs.slice (ref_secs m1))
      obtain ⟨Aa, ca, rfl, _, _⟩ := slice_form (hs.slice (ref_ats m1))
      obtain ⟨Ar, cr, rfl, _, _⟩ := slice_form (hs.slice (ref_row m1))
      by_cases hlt : k < l.length
      · have hltI : (k : Int) < (l.length : Int) := by omega
        obtain ⟨bd, od, cd, vk, e, hrg, hbk, hlk⟩ := olds_get (Sat.start W) m0 h k hlt
        cases e
        generalize l[k] = bk at hbk hlk
        obtain ⟨Ak, ck, rfl, _, _⟩ := slice_form (hs.slice (has_w (by (try dsimp only [List.set]); repeat (first | exact hold | apply List.mem_cons_of_mem)) hbk))
        obtain ⟨q, hq⟩ : ∃ q, k % 12 = q := ⟨_, rfl⟩
        have hqI : (k : Int) % 12 = (q : Int) := by omega
        have hqT : (k : Int).tmod 12 = (q : Int) := by rw [Int.tmod_eq_emod_of_nonneg (by omega)]; exact hqI
        have hqw : IntKind.i64.wrap (q : Int) = (q : Int) := by rw [IntKind.wrap_i64]; omega
        obtain ⟨D2, hD2⟩ : ∃ D2, D.wnext (q : Int) bk = D2 := ⟨_, rfl⟩
        obtain ⟨wc, hwc⟩ : ∃ wc, D.wcode (q : Int) bk = wc := ⟨_, rfl⟩
        have ok2 : D2.Ok := by rw [← hD2]; exact Dk.wnext_ok ok _ _
        have h122 : Box (D2.secs.length = 12) := ⟨by rw [← hD2, wnext_size]; exact h12.out⟩
        have hrow2 : D2.row.length ≤ k + 1 := by have := Dk.wnext_row D (q : Int) bk; rw [hD2] at this; omega
        have HD := Box.mk (And.intro hD2 hwc)
        clear hD2 hwc hq
        have k45 : wr.cell? ⟨bd, od + k, none⟩ = some (.slice Ak bk.length ck) := oold_range hs (by (try dsimp only [List.set]); repeat (first | exact hold | apply List.mem_cons_of_mem)) hrg (by simp) 0 _ rfl
        go_wp2_with (first
          | (guard_target = wpList _ _ _ (⟨some 45, .load _ _, _, _, _, _⟩ :: _) _ _; refine wpl (o := ⟨some 45, .load _ _, _, _, _, _⟩) rfl fun K hK => op_load rfl (ad := ⟨bd, od + k, none⟩) rfl (by kernel_rfl) k45 (hK _ _ ?_); clear hK K)
          | (go_at_call 18; go_must (refine (write_any W _ _ b1 D (hs.pick (A := disk b1 D) (by repeat (first | with_reducible exact Pick.here | with_reducible apply Pick.there))) (q : Int) _ bk (has_w (by (try dsimp only [List.set]); repeat (first | exact hold | apply List.mem_cons_of_mem)) hbk) (by omega)).mono ?_); clear hs; rintro e w1 ⟨rfl, hs⟩; rw [HD.out.1] at hs))
        have cS : ∀ w M cs9, Sat W w M → row b9 cs9 32 ∈ M → old W ∈ M → rdS b9 cs9 bd (od + k) (.slice Ak bk.length ck) w := fun w M cs9 h hm ho => ⟨range_whole h hm, by have := oold_range h ho hrg (by simp) 0 _ rfl; exact this⟩
        have d48 : ∀ w, rdS b9 [.slice As D.secs.length cs, .slice Aa D.row.length ca, .slice Ar D.row.length cr] bd (od + k) (.slice Ak bk.length ck) w → w.rangeAt b9 0 [.slice As D.secs.length cs, .slice Aa D.row.length ca, .slice Ar D.row.length cr] := fun w h => h.1
        have d54 : ∀ w, rdS b9 [.slice As D.secs.length cs, .slice Aa D.row.length ca, .slice Ar D.row.length cr] bd (od + k) (.slice Ak bk.length ck) w → w.cell? ⟨bd, od + k, none⟩ = some (.slice Ak bk.length ck) := fun w h => h.2
        have hS0 := cS _ _ _ hs.drew (by (try dsimp only [List.set]); repeat (first | with_reducible exact List.mem_cons_self | with_reducible apply List.mem_cons_of_mem)) (by (try dsimp only [List.set]); repeat (first | exact hold | apply List.mem_cons_of_mem))
        refine wp_region_tree (rdS b9 [.slice As D.secs.length cs, .slice Aa D.row.length ca, .slice Ar D.row.length cr] bd (od + k) (.slice Ak bk.length ck)) (.take 0 (.take 1 (.take 2 (.take 3 (.take 4 (.take 5 (.take 6 (.all [(7, .take 8 (.take 9 (.take 10 (.all [(11, .all [(12, .take 13 (DTree.done))])])))), (11, .all [(7, .take 8 (.take 9 (.take 10 (.all [(12, .take 13 (DTree.done))]))))])])))))))) (by kernel_rfl) (by kernel_rfl) (by kernel_rfl) (fun _ _ d _ _ h => by cases d <;> exact h) hS0 ?_
        have hs' := hs.drew
        clear hs
        have hs := hs'
        clear hs'
        have hq := fun p : Prop => class_const hS0 p
        clear hS0
        repeat (first
          | (with_reducible refine tree_load_agg (o := ⟨some 48, .load _ _, _, _, _, _⟩) [.slice As D.secs.length cs, .slice Aa D.row.length ca, .slice Ar D.row.length cr] rfl rfl rfl rfl ?_ ?_ d48 ?_; (kernel_rfl); (kernel_rfl))
          | (with_reducible refine tree_load (o := ⟨some 54, .load _ _, _, _, _, _⟩) rfl rfl rfl rfl rfl d54 ?_)
          | (refine tree_take rfl (fun K hK => ?_); go_simp; with_reducible refine hK _ ?_; clear hK K))
        refine tree_all (trees_cons_yes (o := _) rfl rfl (fun K hK => ?_) (cS _ _ _ hs (by (try dsimp only [List.set]); repeat (first | with_reducible exact List.mem_cons_self | with_reducible apply List.mem_cons_of_mem)) (by (try dsimp only [List.set]); repeat (first | exact hold | apply List.mem_cons_of_mem))) (trees_cons_yes (o := _) rfl rfl (fun K hK => ?_) (cS _ _ _ hs (by (try dsimp only [List.set]); repeat (first | with_reducible exact List.mem_cons_self | with_reducible apply List.mem_cons_of_mem)) (by (try dsimp only [List.set]); repeat (first | exact hold | apply List.mem_cons_of_mem))) trees_nil))
        · try go_simp
          go_at_call 19
          refine (rwrite_any W _ _ _ _ _ D (hs.pick (A := ref (.slice As D.secs.length cs) (.slice Aa D.row.length ca) (.slice Ar D.row.length cr) D) (by repeat (first | with_reducible exact Pick.here | with_reducible apply Pick.there))) (q : Int) _ bk (has_w (by (try dsimp only [List.set]); repeat (first | exact hold | apply List.mem_cons_of_mem)) hbk) (by omega)).mono ?_
          clear hs
          rintro e w5 ⟨vs', va', vr', rfl, hs⟩
          rw [HD.out.1] at hs
          rw [HD.out.2]
          obtain ⟨As', cs', rfl, _, _⟩ := slice_form (hs.slice (ref_secs m0))
          obtain ⟨Aa', ca', rfl, _, _⟩ := slice_form (hs.slice (ref_ats m0))
          obtain ⟨Ar', cr', rfl, _, _⟩ := slice_form (hs.slice (ref_row m0))
          try go_simp
          refine hK _ _ (cS _ _ _ hs (by (try dsimp only [List.set]); repeat (first | with_reducible exact List.mem_cons_self | with_reducible apply List.mem_cons_of_mem)) (by (try dsimp only [List.set]); repeat (first | exact hold | apply List.mem_cons_of_mem))) ?_
          clear hK K
          repeat (first
            | (with_reducible refine tree_load_agg (o := ⟨some 48, .load _ _, _, _, _, _⟩) [.slice As D.secs.length cs, .slice Aa D.row.length ca, .slice Ar D.row.length cr] rfl rfl rfl rfl ?_ ?_ d48 ?_; (kernel_rfl); (kernel_rfl))
            | (with_reducible refine tree_load (o := ⟨some 54, .load _ _, _, _, _, _⟩) rfl rfl rfl rfl rfl d54 ?_)
            | (refine tree_take rfl (fun K hK => ?_); go_simp; with_reducible refine hK _ ?_; clear hK K))
          refine tree_one_yes (o := _) rfl rfl (fun K hK => ?_) (cS _ _ _ hs (by (try dsimp only [List.set]); repeat (first | with_reducible exact List.mem_cons_self | with_reducible apply List.mem_cons_of_mem)) (by (try dsimp only [List.set]); repeat (first | exact hold | apply List.mem_cons_of_mem)))
          refine op_alloc hs rfl _ zref [Value.slice none 0 0, .slice none 0 0, .slice none 0 0] rfl fun b11 w1 h => hK _ _ (cS _ _ _ h (by (try dsimp only [List.set]); repeat (first | with_reducible exact List.mem_cons_self | with_reducible apply List.mem_cons_of_mem)) (by (try dsimp only [List.set]); repeat (first | exact hold | apply List.mem_cons_of_mem))) ?_
          clear hs hK K
          have hs := h
          clear h
          try dsimp only [List.set] at hs
          try go_simp
          refine tree_one_yes (o := _) rfl rfl (fun K hK => ?_) (cS _ _ _ hs (by (try dsimp only [List.set]); repeat (first | with_reducible exact List.mem_cons_self | with_reducible apply List.mem_cons_of_mem)) (by (try dsimp only [List.set]); repeat (first | exact hold | apply List.mem_cons_of_mem)))
          refine op_store_whole (hs.pick (A := row b11 [Value.slice none 0 0, .slice none 0 0, .slice none 0 0] 32) (by repeat (first | with_reducible exact Pick.here | with_reducible apply Pick.there))) rfl (b := b11) rfl [.slice As' D2.secs.length cs', .slice Aa' D2.row.length ca', .slice Ar' D2.row.length cr'] rfl (by simp [Value.oneCell']) (by kernel_rfl) (k := 0) rfl rfl fun w3 h => hK _ _ (cS _ _ _ h (by (try dsimp only [List.set]); repeat (first | with_reducible exact List.mem_cons_self | with_reducible apply List.mem_cons_of_mem)) (by (try dsimp only [List.set]); repeat (first | exact hold | apply List.mem_cons_of_mem))) ?_
          clear hs hK K
          have hs := h
          clear h
          try dsimp only [List.set] at hs
          try go_simp
          repeat (first
            | (with_reducible refine tree_load_agg (o := ⟨some 48, .load _ _, _, _, _, _⟩) [.slice As D.secs.length cs, .slice Aa D.row.length ca, .slice Ar D.row.length cr] rfl rfl rfl rfl ?_ ?_ d48 ?_; (kernel_rfl); (kernel_rfl))
            | (with_reducible refine tree_load (o := ⟨some 54, .load _ _, _, _, _, _⟩) rfl rfl rfl rfl rfl d54 ?_)
            | (refine tree_take rfl (fun K hK => ?_); go_simp; with_reducible refine hK _ ?_; clear hK K))
          refine tree_done ?_
          clear hq
          go_wp2_with (first
            | (guard_target = wpList _ _ _ (⟨some 58, .load _ _, _, _, _, _⟩ :: _) _ _; refine wpl (o := ⟨some 58, .load _ _, _, _, _, _⟩) rfl fun K hK => op_load_agg rfl (b := b11) (i := 0) rfl ([.slice As' D2.secs.length cs', .slice Aa' D2.row.length ca', .slice Ar' D2.row.length cr']) (range_whole hs (by (try dsimp only [List.set]); repeat (first | with_reducible exact List.mem_cons_self | with_reducible apply List.mem_cons_of_mem))) (by kernel_rfl) (by kernel_rfl) (hK _ _ ?_); clear hK K)
            | (guard_target = wpList _ _ _ (⟨none, .store _ (.tmp 9) _, _, _, _, _⟩ :: _) _ _; refine wpl (o := ⟨none, .store _ (.tmp 9) _, _, _, _, _⟩) rfl fun K hK => ?_; go_must (refine op_store_whole (hs.pick (A := row b9 [.slice As D.secs.length cs, .slice Aa D.row.length ca, .slice Ar D.row.length cr] 32) (by repeat (first | with_reducible exact Pick.here | with_reducible apply Pick.there))) (b := b9) rfl rfl [.slice As' D2.secs.length cs', .slice Aa' D2.row.length ca', .slice Ar' D2.row.length cr'] rfl (by simp [Value.oneCell']) (by kernel_rfl) (k := 0) rfl rfl fun w3 h => hK _ _ ?_); clear hs hK K; have hs := h; clear h; try dsimp only [List.set] at hs))
          exact ⟨⟨k + 1, D2, _, _, _, by omega, by go_num, ok2, h122, hrow2, hs.pack (by repeat (first | with_reducible exact Pack.refl | with_reducible exact Pack.nil | with_reducible refine Pack.cons (by repeat (first | with_reducible exact Pick.here | with_reducible apply Pick.there)) ?_ | with_reducible apply Pack.drop))⟩, by simp only [intOf]; omega⟩
        · refine op_alloc hs rfl _ zref [Value.slice none 0 0, .slice none 0 0, .slice none 0 0] rfl fun b11 w1 h => hK _ _ (cS _ _ _ h (by (try dsimp only [List.set]); repeat (first | with_reducible exact List.mem_cons_self | with_reducible apply List.mem_cons_of_mem)) (by (try dsimp only [List.set]); repeat (first | exact hold | apply List.mem_cons_of_mem))) ?_
          clear hs hK K
          have hs := h
          clear h
          try dsimp only [List.set] at hs
          try go_simp
          refine tree_one_yes (o := _) rfl rfl (fun K hK => ?_) (cS _ _ _ hs (by (try dsimp only [List.set]); repeat (first | with_reducible exact List.mem_cons_self | with_reducible apply List.mem_cons_of_mem)) (by (try dsimp only [List.set]); repeat (first | exact hold | apply List.mem_cons_of_mem)))
          try go_simp
          go_at_call 19
          refine (rwrite_any W _ _ _ _ _ D (hs.pick (A := ref (.slice As D.secs.length cs) (.slice Aa D.row.length ca) (.slice Ar D.row.length cr) D) (by repeat (first | with_reducible exact Pick.here | with_reducible apply Pick.there))) (q : Int) _ bk (has_w (by (try dsimp only [List.set]); repeat (first | exact hold | apply List.mem_cons_of_mem)) hbk) (by omega)).mono ?_
          clear hs
          rintro e w5 ⟨vs', va', vr', rfl, hs⟩
          rw [HD.out.1] at hs
          rw [HD.out.2]
          obtain ⟨As', cs', rfl, _, _⟩ := slice_form (hs.slice (ref_secs m0))
          obtain ⟨Aa', ca', rfl, _, _⟩ := slice_form (hs.slice (ref_ats m0))
          obtain ⟨Ar', cr', rfl, _, _⟩ := slice_form (hs.slice (ref_row m0))
          try go_simp
          refine hK _ _ (cS _ _ _ hs (by (try dsimp only [List.set]); repeat (first | with_reducible exact List.mem_cons_self | with_reducible apply List.mem_cons_of_mem)) (by (try dsimp only [List.set]); repeat (first | exact hold | apply List.mem_cons_of_mem))) ?_
          clear hK K
          repeat (first
            | (with_reducible refine tree_load_agg (o := ⟨some 48, .load _ _, _, _, _, _⟩) [.slice As D.secs.length cs, .slice Aa D.row.length ca, .slice Ar D.row.length cr] rfl rfl rfl rfl ?_ ?_ d48 ?_; (kernel_rfl); (kernel_rfl))
            | (with_reducible refine tree_load (o := ⟨some 54, .load _ _, _, _, _, _⟩) rfl rfl rfl rfl rfl d54 ?_)
            | (refine tree_take rfl (fun K hK => ?_); go_simp; with_reducible refine hK _ ?_; clear hK K))
          refine tree_one_yes (o := _) rfl rfl (fun K hK => ?_) (cS _ _ _ hs (by (try dsimp only [List.set]); repeat (first | with_reducible exact List.mem_cons_self | with_reducible apply List.mem_cons_of_mem)) (by (try dsimp only [List.set]); repeat (first | exact hold | apply List.mem_cons_of_mem)))
          refine op_store_whole (hs.pick (A := row b11 [Value.slice none 0 0, .slice none 0 0, .slice none 0 0] 32) (by repeat (first | with_reducible exact Pick.here | with_reducible apply Pick.there))) rfl (b := b11) rfl [.slice As' D2.secs.length cs', .slice Aa' D2.row.length ca', .slice Ar' D2.row.length cr'] rfl (by simp [Value.oneCell']) (by kernel_rfl) (k := 0) rfl rfl fun w3 h => hK _ _ (cS _ _ _ h (by (try dsimp only [List.set]); repeat (first | with_reducible exact List.mem_cons_self | with_reducible apply List.mem_cons_of_mem)) (by (try dsimp only [List.set]); repeat (first | exact hold | apply List.mem_cons_of_mem))) ?_
          clear hs hK K
          have hs := h
          clear h
          try dsimp only [List.set] at hs
          try go_simp
          repeat (first
            | (with_reducible refine tree_load_agg (o := ⟨some 48, .load _ _, _, _, _, _⟩) [.slice As D.secs.length cs, .slice Aa D.row.length ca, .slice Ar D.row.length cr] rfl rfl rfl rfl ?_ ?_ d48 ?_; (kernel_rfl); (kernel_rfl))
            | (with_reducible refine tree_load (o := ⟨some 54, .load _ _, _, _, _, _⟩) rfl rfl rfl rfl rfl d54 ?_)
            | (refine tree_take rfl (fun K hK => ?_); go_simp; with_reducible refine hK _ ?_; clear hK K))
          refine tree_done ?_
          clear hq
          go_wp2_with (first
            | (guard_target = wpList _ _ _ (⟨some 58, .load _ _, _, _, _, _⟩ :: _) _ _; refine wpl (o := ⟨some 58, .load _ _, _, _, _, _⟩) rfl fun K hK => op_load_agg rfl (b := b11) (i := 0) rfl ([.slice As' D2.secs.length cs', .slice Aa' D2.row.length ca', .slice Ar' D2.row.length cr']) (range_whole hs (by (try dsimp only [List.set]); repeat (first | with_reducible exact List.mem_cons_self | with_reducible apply List.mem_cons_of_mem))) (by kernel_rfl) (by kernel_rfl) (hK _ _ ?_); clear hK K)
            | (guard_target = wpList _ _ _ (⟨none, .store _ (.tmp 9) _, _, _, _, _⟩ :: _) _ _; refine wpl (o := ⟨none, .store _ (.tmp 9) _, _, _, _, _⟩) rfl fun K hK => ?_; go_must (refine op_store_whole (hs.pick (A := row b9 [.slice As D.secs.length cs, .slice Aa D.row.length ca, .slice Ar D.row.length cr] 32) (by repeat (first | with_reducible exact Pick.here | with_reducible apply Pick.there))) (b := b9) rfl rfl [.slice As' D2.secs.length cs', .slice Aa' D2.row.length ca', .slice Ar' D2.row.length cr'] rfl (by simp [Value.oneCell']) (by kernel_rfl) (k := 0) rfl rfl fun w3 h => hK _ _ ?_); clear hs hK K; have hs := h; clear h; try dsimp only [List.set] at hs))
          exact ⟨⟨k + 1, D2, _, _, _, by omega, by go_num, ok2, h122, hrow2, hs.pack (by repeat (first | with_reducible exact Pack.refl | with_reducible exact Pack.nil | with_reducible refine Pack.cons (by repeat (first | with_reducible exact Pick.here | with_reducible apply Pick.there)) ?_ | with_reducible apply Pack.drop))⟩, by simp only [intOf]; omega⟩
      · have hltI : ¬ (k : Int) < (l.length : Int) := by omega
        obtain ⟨⟨tl, tn⟩, hsc, hrsc⟩ := sc_both W D ok h12.out (by omega) first many epoch from_ hf hm hfr
        obtain ⟨N, hN⟩ : ∃ N, tl.length = N := ⟨_, rfl⟩
        have HSC := Box.mk hsc
        have HRSC := Box.mk hrsc
        have HN := Box.mk hN
        clear hsc hrsc hN
        go_wp2_with (first
          | (guard_target = wpList _ _ _ (⟨some 61, .load _ _, _, _, _, _⟩ :: _) _ _; refine wpl (o := ⟨some 61, .load _ _, _, _, _, _⟩) rfl fun K hK => op_load_agg rfl (b := b4) (i := 0) rfl (place first many epoch) (range_whole hs (by (try dsimp only [List.set]); repeat (first | with_reducible exact List.mem_cons_self | with_reducible apply List.mem_cons_of_mem))) (by kernel_rfl) (by kernel_rfl) (hK _ _ ?_); clear hK K)
          | (guard_target = wpList _ _ _ (⟨some 67, .load _ _, _, _, _, _⟩ :: _) _ _; refine wpl (o := ⟨some 67, .load _ _, _, _, _, _⟩) rfl fun K hK => op_load_agg rfl (b := b9) (i := 0) rfl [.slice As D.secs.length cs, .slice Aa D.row.length ca, .slice Ar D.row.length cr] (range_whole hs (by (try dsimp only [List.set]); repeat (first | with_reducible exact List.mem_cons_self | with_reducible apply List.mem_cons_of_mem))) (by kernel_rfl) (by kernel_rfl) (hK _ _ ?_); clear hK K)
          | (guard_target = wpList _ _ _ (⟨some 69, .load _ _, _, _, _, _⟩ :: _) _ _; refine wpl (o := ⟨some 69, .load _ _, _, _, _, _⟩) rfl fun K hK => op_load rfl (ad := ⟨b4, 0, none⟩) rfl (by kernel_rfl) (hs.cell (l := place first many epoch) (t := 25) (by (try dsimp only [List.set]); repeat (first | with_reducible exact List.mem_cons_self | with_reducible apply List.mem_cons_of_mem)) rfl) (hK _ _ ?_); clear hK K)
          | (guard_target = wpList _ _ _ (⟨some 71, .load _ _, _, _, _, _⟩ :: _) _ _; refine wpl (o := ⟨some 71, .load _ _, _, _, _, _⟩) rfl fun K hK => op_load rfl (ad := ⟨b4, 1, none⟩) rfl (by kernel_rfl) (hs.cell (l := place first many epoch) (t := 25) (by (try dsimp only [List.set]); repeat (first | with_reducible exact List.mem_cons_self | with_reducible apply List.mem_cons_of_mem)) rfl) (hK _ _ ?_); clear hK K)
          | (guard_target = wpList _ _ _ (⟨some 73, .load _ _, _, _, _, _⟩ :: _) _ _; refine wpl (o := ⟨some 73, .load _ _, _, _, _, _⟩) rfl fun K hK => op_load rfl (ad := ⟨b4, 2, none⟩) rfl (by kernel_rfl) (hs.cell (l := place first many epoch) (t := 25) (by (try dsimp only [List.set]); repeat (first | with_reducible exact List.mem_cons_self | with_reducible apply List.mem_cons_of_mem)) rfl) (hK _ _ ?_); clear hK K)
          | (go_at_call 20; go_must (refine (HSC.out _ b1 _ (hs.pick (A := disk b1 D) (by repeat (first | with_reducible exact Pick.here | with_reducible apply Pick.there)))).mono ?_); clear hs; rintro e w1 ⟨v13, out, rfl, hout, hs⟩
             have hlen : out.length = N := by have := congrArg List.length hout; rw [List.length_map] at this; rw [this]; exact HN.out
             rw [hlen] at hs
             obtain ⟨A13, c13, rfl, _, _⟩ := own_slice hs (i := 0) rfl)
          | (go_at_call 21; go_must (refine (HRSC.out _ _ _ _ _ (hs.pick (A := ref (.slice As D.secs.length cs) (.slice Aa D.row.length ca) (.slice Ar D.row.length cr) D) (by repeat (first | with_reducible exact Pick.here | with_reducible apply Pick.there)))).mono ?_); clear hs; rintro e w1 ⟨v15, rfl, hs⟩
             rw [show ((tl, tn) : List Rcd × Nat).1.length = N from HN.out] at hs
             obtain ⟨A15, c15, rfl, _, _⟩ := own_slice hs (i := 0) rfl))
        have HOUT := Box.mk hout
        have HLEN := Box.mk hlen
        clear hout hlen
        go_loopw [17] (fun v17 wr => ∃ i : Nat, i ≤ N ∧ v17 = .int .i64 (i : Nat) ∧ Sat W wr (own (.slice A15 N c15) 48 N 2 (rrcCells tl) :: own (.slice A13 N c13) 46 N 2 (rcCells out) :: rcBods out :: L)) (fun v17 _ => N - (intOf v17).toNat)
        case atStart => exact ⟨0, by omega, rfl, hs.pack (by repeat (first | with_reducible exact Pack.refl | with_reducible exact Pack.nil | with_reducible refine Pack.cons (by repeat (first | with_reducible exact Pick.here | with_reducible apply Pick.there)) ?_ | with_reducible apply Pack.drop))⟩
        case round =>
          clear hs
          obtain ⟨i, hi, rfl, hs⟩ := hrel
          by_cases hin : i < N
          · have hinI : (i : Int) < (N : Int) := by omega
            have hio : i < out.length := by rw [HLEN.out]; exact hin
            have hit : i < tl.length := by rw [HN.out]; exact hin
            obtain ⟨bo, co, e, _, _⟩ := own_formS hs m1 (by omega)
            cases e
            obtain ⟨bp, cp, e, _, _⟩ := own_formS hs m0 (by omega)
            cases e
            have hg := rec_getR HOUT.out i hio hit
            have g0 := rcCells_get out i hio 0 (by omega)
            have g1 := rcCells_get out i hio 1 (by omega)
            have gb := rcBods_has hio
            have gs := rrcCells_get tl i hit 1 (by omega)
            have gn := rrcCells_get tl i hit 0 (by omega)
            rw [hg] at g0 g1 gb
            generalize tl[i] = x at g0 g1 gb gs gn
            generalize out[i].2 = y at g0 g1 gb
            clear hg hio hit
            obtain ⟨rec, nx⟩ := x
            dsimp only at g0 g1 gb gs gn
            obtain ⟨Ay, cy, rfl, _, _⟩ := slice_form (hs.slice (Has.mem m2 gb))
            obtain ⟨ny, hny⟩ : ∃ ny, rec.length = ny := ⟨_, rfl⟩
            obtain ⟨M, hM, hs⟩ : ∃ M, M = _ ∧ Sat W _ M := ⟨_, rfl, hs⟩
            have d98 : ∀ w, Sat W w M → w.cell? ⟨bo, i * 2 + 1, none⟩ = some (.slice Ay rec.length cy) := fun w h => by rw [hM] at h; exact own_cell h m1 g1
            have d111 : ∀ w, Sat W w M → w.cell? ⟨bo, i * 2, none⟩ = some (.int .u32 (nx : Nat)) := fun w h => by rw [hM] at h; exact own_cell h m1 g0
            have s99 : ∀ w, Sat W w M → bytesAt (.slice Ay rec.length cy) rec (hp w) := fun w h => h.bytes (by rw [hM]; exact Has.mem m2 gb)
            have d104 : ∀ w, Sat W w M → w.cell? ⟨bp, i * 2 + 1, none⟩ = some (.string ⟨rec.toArray⟩) := fun w h => by rw [hM] at h; exact own_cell h m0 gs
            have d116 : ∀ w, Sat W w M → w.cell? ⟨bp, i * 2, none⟩ = some (.int .u32 (nx : Nat)) := fun w h => by rw [hM] at h; exact own_cell h m0 gn
            clear g0 g1 gb gs gn hny
            go_wp2_with fail
            have hM_ := Box.mk hM
            clear hM
            have hM := hM_
            clear hM_
            refine wp_region_quiet (C := fun w' => Sat W w' M) (by kernel_rfl) (by kernel_rfl) hs.drew ?_
            have hq := sat_const hs
            repeat (first
              | (with_reducible refine quiet_load (o := ⟨some 98, .load _ _, _, _, _, _⟩) rfl rfl rfl rfl d98 ?_)
              | ((with_reducible refine quiet_str (o := ⟨some 99, .convert _ _ _, _, _, _, _⟩) (rec) ?_ rfl Try.underlying36 Try.underlying5 Try.underlying9 ?_ s99 ?_); (rfl); (rfl))
              | (with_reducible refine quiet_load (o := ⟨some 104, .load _ _, _, _, _, _⟩) rfl rfl rfl rfl d104 ?_)
              | (with_reducible refine quiet_load (o := ⟨some 111, .load _ _, _, _, _, _⟩) rfl rfl rfl rfl d111 ?_)
              | (with_reducible refine quiet_load (o := ⟨some 116, .load _ _, _, _, _, _⟩) rfl rfl rfl rfl d116 ?_)
              | (refine wpQuiet_step (fun K hK => ?_); go_simp; first
                  | (with_reducible refine hK _ ?_; clear hK K)))
            refine wpQuiet_nil ?_
            intro w8 hs8
            clear hs
            rw [hM.out] at hs8
            have hs := hs8
            clear hs8
            go_wp2_with fail
            exact ⟨⟨i + 1, by omega, by go_num, hs⟩, by simp only [intOf]; omega⟩
          · have hinI : ¬ (i : Int) < (N : Int) := by omega
            go_wp2_with fail
            go_ret
            exact ⟨rfl, hs.tail.tail.tail⟩
theorem scanReads_main (W : World) (l : List (List UInt8)) (v : Value) (h0 : (Kin.slice 24 (Kin.slice 1 Kin.u8)).K (hp W) l [v]) (x1 : PlTup) (c1 : List Value) (h1 : plKin.K (hp W) x1 c1) (n : Int) (v2 : Value) (h2 : (Kin.int .u32).K (hp W) n [v2]) :
    Calls Try.prog 3 #[v, .agg c1.toArray, v2] W fun e w' => e = .returned (.bool true) ∧ Below W.heap.size W w' := by
  obtain ⟨first, many, ep, hf, hm, he, rfl⟩ := pl_cells h1
  obtain ⟨e2, hn⟩ := h2
  obtain ⟨m, hm2, rfl⟩ := u32_litS hn
  cases e2
  exact (scanReads_walk W W _ (Sat.start W) m0 v l h0 first many ep m hf hm hm2).mono fun e w' ⟨he, hs⟩ => ⟨he, hs.end_ m0⟩
end Go.Proofs.Ytimknlabhhopcaa
