/- The law's helpers of layer 7: place, few, cut. -/
import Derived.Test.YtimknlabhhopcaaScInv
import Derived.Test.YtimknlabhhopcaaRgNew
import Derived.Test.YtimknlabhhopcaaVdRef
set_option linter.unusedVariables false
set_option linter.unusedSimpArgs false
namespace Go.Proofs.Ytimknlabhhopcaa
open Go.RowKit
theorem zplace : (Try.prog.info? 25).bind (·.zero) = some (.agg [Value.int .i64 0, .int .i64 0, .int .u32 0].toArray) := by kernel_rfl
set_option maxRecDepth 100000 in
set_option maxHeartbeats 1000000 in
theorem scplace_spec (W w : World) (L : List HP) (hs : Sat W w L) : Calls Try.prog 25 #[] w fun e w' => e = .returned (.agg (place (2 : Nat) (8 : Nat) 3).toArray) ∧ Sat W w' L := by
  go_enter Try.func25, Try.ntmps25
  go_wp2_with (first
    | (guard_target = wpList _ _ _ (⟨some 0, .alloc _, _, _, _, _⟩ :: _) _ _; refine wpl (o := ⟨some 0, .alloc _, _, _, _, _⟩) rfl fun K hK => ?_; go_must (refine op_alloc hs rfl _ zplace [.int .i64 0, .int .i64 0, .int .u32 0] rfl fun b0 w1 h => hK _ _ ?_); clear hs hK K; have hs := h; clear h; try dsimp only [List.set] at hs)
    | (guard_target = wpList _ _ _ (⟨none, .store _ (.tmp 0) _, _, _, _, _⟩ :: _) _ _; refine wpl (o := ⟨none, .store _ (.tmp 0) _, _, _, _, _⟩) rfl fun K hK => ?_; go_must (refine op_store_whole hs (b := b0) rfl rfl (place (2 : Nat) (8 : Nat) 3) rfl (by simp [place, Value.oneCell']) (by kernel_rfl) (k := 0) rfl rfl fun w3 h => hK _ _ ?_); clear hs hK K; have hs := h; clear h; try dsimp only [List.set] at hs))
  exact bodyPost_ret (run_results_cell rfl (b := b0) rfl (place (2 : Nat) (8 : Nat) 3) (range_whole hs m0) (by kernel_rfl) (by kernel_rfl)) rfl ⟨rfl, hs.tail⟩
set_option maxRecDepth 100000 in
set_option maxHeartbeats 2000000 in
theorem scfew_spec (W w : World) (L : List HP) (hs : Sat W w L) (hold : old W ∈ L) (v : Value) (l : List RDeed) (h : rdeedsAt v l (hp W)) :
    Calls Try.prog 22 #[v] w (rfewPost l W L) := by
  obtain ⟨A, cap, rfl, hl1, hl2, hl3⟩ := rdeeds_form h
  go_enter Try.func22, Try.ntmps22
  go_wp2_with fail
  go_loopw [3] (fun v3 wr => ∃ k : Nat, k ≤ l.length ∧ k ≤ 31 ∧ v3 = .int .i64 k ∧ (∀ j (hj : j < l.length), j < k → l[j].rec_.length ≤ 400) ∧ Sat W wr L) (fun v3 _ => 31 - (intOf v3).toNat)
  case atStart => exact ⟨0, by omega, by omega, rfl, fun j _ hj => by omega, hs⟩
  case round =>
    clear hs
    obtain ⟨k, hk, hk2, rfl, hal, hs⟩ := hrel
    have HA := Box.mk hal
    clear hal
    by_cases hlt : k < l.length
    · have hltI : (k : Int) < (l.length : Int) := by omega
      by_cases h31 : k < 31
      · have h31I : (k : Int) < 31 := by omega
        obtain ⟨b, o, c, vb, e, hrg, hb⟩ := rdeeds_get hs hold h k hlt
        cases e
        obtain ⟨Ab, cb, rfl, hb1, hb2⟩ := slice_form (hs.slice (has_w hold hb))
        have hcell : wr.cell? ⟨b, o + k * 3 + 1, none⟩ = some (.slice Ab l[k].rec_.length cb) := by have := hrg 1 _ rfl; exact this
        by_cases hbig : 400 < l[k].rec_.length
        · have hbigI : (400 : Int) < (l[k].rec_.length : Int) := by omega
          go_wp2_with (first
            | (guard_target = wpList _ _ _ (⟨some 18, .load _ _, _, _, _, _⟩ :: _) _ _; refine wpl (o := ⟨some 18, .load _ _, _, _, _, _⟩) rfl fun K hK => op_load rfl (ad := ⟨b, o + k * 3 + 1, none⟩) rfl (by kernel_rfl) hcell (hK _ _ ?_); clear hK K))
          go_ret
          exact rfewPost_mk false rfl ⟨fun h => (by cases h), fun h => absurd (h.2 l[k] (List.getElem_mem hlt)) (by omega)⟩ hs
        · have hbigI : ¬ (400 : Int) < (l[k].rec_.length : Int) := by omega
          go_wp2_with (first
            | (guard_target = wpList _ _ _ (⟨some 18, .load _ _, _, _, _, _⟩ :: _) _ _; refine wpl (o := ⟨some 18, .load _ _, _, _, _, _⟩) rfl fun K hK => op_load rfl (ad := ⟨b, o + k * 3 + 1, none⟩) rfl (by kernel_rfl) hcell (hK _ _ ?_); clear hK K))
          refine ⟨⟨k + 1, by omega, by omega, by go_num, fun j hj hjk => ?_, hs⟩, by simp only [intOf]; omega⟩
          by_cases e : j = k
          · subst e; omega
          · exact HA.out j hj (by omega)
      · have h31I : ¬ (k : Int) < 31 := by omega
        have h30 : ¬ (l.length : Int) ≤ 30 := by omega
        go_wp2_with fail
        go_ret
        exact rfewPost_mk false rfl ⟨fun h => (by cases h), fun h => absurd h.1 (by omega)⟩ hs
    · have hltI : ¬ (k : Int) < (l.length : Int) := by omega
      go_wp2_with fail
      go_ret
      refine rfewPost_mk (decide ((l.length : Int) ≤ 30)) rfl ⟨fun h => ⟨by have := of_decide_eq_true h; omega, fun c hc => ?_⟩, fun h => by have := h.1; simp; omega⟩ hs
      obtain ⟨j, hj, rfl⟩ := List.getElem_of_mem hc
      exact HA.out j hj (by omega)
theorem fits_scdeeds : Fits Try.prog 50 (Kin.slice 40 rdeedKin) :=
  fits_slice Try.underlying50 (by kernel_rfl)
    (fits_iso (fun x : Int × List UInt8 × UInt8 × Unit => (⟨x.1, x.2.1, x.2.2.1⟩ : RDeed)) (fun _ => rfl)
      (fits_struct Try.underlying122 (by kernel_rfl)
        (fitsL_cons rfl (fits_int Try.underlying3 (by kernel_rfl))
          (fitsL_cons rfl (fits_slice Try.underlying36 (by kernel_rfl) (fits_u8 Try.underlying5 (by kernel_rfl)) (by decide) (by kernel_rfl))
            (fitsL_cons rfl (fits_u8 Try.underlying5 (by kernel_rfl))
              (fitsL_nil _))))))
    (by decide) (by kernel_rfl)
/-! Slices that are only read. -/
def u32s (l : List Nat) : List Value := l.map fun (n : Nat) => Value.int .u32 n
theorem u32s_one (l : List Nat) : ∀ v ∈ u32s l, v.oneCell' = true := fun v hv => by
  obtain ⟨x, _, rfl⟩ := List.mem_map.1 hv; rfl
theorem info_u32 : (Try.prog.info? 23).map (fun i => (i.zero, i.size, i.bytes)) = some (some (.int .u32 0), 1, 4) := by kernel_rfl
def sl1 (v : Value) (n : Nat) (vs : List Value) : HP := fun F => sliceAt v n 1 vs F
theorem one_drop {A : Option Addr} {n cap : Nat} {vs : List Value} {F : PH} (h : sliceAt (.slice A n cap) n 1 vs F) (k : Nat) (hk : k ≤ n) : sliceAt (.slice (if cap = k then A else A.map (·.add k)) (n - k) (cap - k)) (n - k) 1 (vs.drop k) F := by
  obtain ⟨hl, A', cap', e, hc, hcm, h0⟩ := h
  cases e
  refine ⟨by simp; omega, (if cap = k then A else A.map (·.add k)), cap - k, rfl, by omega, by omega, ?_⟩
  rcases h0 with h0 | ⟨b, o, rfl, ha⟩
  · left; rw [h0]; simp
  · by_cases he : cap = k
    · left
      rw [List.drop_of_length_le (by omega)]
    · right
      refine ⟨b, o + k, by rw [if_neg he, Option.map_some, add_plain], ?_⟩
      obtain ⟨c, t, fr, e, hcell⟩ := ha
      refine ⟨c, t, fr, e, fun j v hj => ?_⟩
      rw [Nat.add_assoc]
      refine hcell (k + j) v ?_
      simpa using hj
def mdCells (b br : Nat) (v2 v3 : Value) (sy : Nat) : List Value := [.pointer (some ⟨b, 0, none⟩), .pointer (some ⟨br, 0, none⟩), v2, v3, .int .i64 (sy : Nat)]
def zmd : List Value := [.pointer none, .pointer none, .slice none 0 0, .slice none 0 0, .int .i64 0]
theorem zmade : (Try.prog.info? 56).bind (·.zero) = some (.agg zmd.toArray) := by kernel_rfl
theorem md_one (b br n2 n3 c2 c3 sy : Nat) (A2 A3 : Option Addr) : ∀ v ∈ mdCells b br (.slice A2 n2 c2) (.slice A3 n3 c3) sy, v.oneCell' = true := by simp [mdCells, Value.oneCell']
def rcsS (rl : List Rcd) : List Value := strs (rl.map (·.1))
def rcsN (rl : List Rcd) : List Value := u32s (rl.map (·.2))
theorem endAt_last (s : Nat) (rl : List Rcd) (k : Nat) (h0 : k ≠ 0) (h : k ≤ rl.length) : (rcsN rl)[k - 1]? = some (.int .u32 (endAt s rl k : Nat)) := by
  cases k with
  | zero => exact absurd rfl h0
  | succ k =>
    have hk : k < rl.length := by omega
    simp [rcsN, u32s, endAt, hk]
theorem sl1_cell {W w : World} {M : List HP} {b o n c j : Nat} {vs : List Value} {v : Value} (h : Sat W w M) (hm : sl1 (.slice (some ⟨b, o, none⟩) n c) n vs ∈ M) (hv : vs[j]? = some v) : w.cell? ⟨b, o + j, none⟩ = some v := by
  obtain ⟨_, A, c', e1, _, _, h0 | ⟨b', o', e2, hc⟩⟩ := h.slice (Has.mem hm fun F hF => hF)
  · subst h0; simp at hv
  · cases e1; cases e2; exact cellsAt_world hc j v hv
theorem sl1_form {W w : World} {M : List HP} {v : Value} {n : Nat} {vs : List Value} (h : Sat W w M) (hm : sl1 v n vs ∈ M) (h0 : 0 < n) : ∃ b o c, v = .slice (some ⟨b, o, none⟩) n c ∧ n ≤ c ∧ c ≤ 9223372036854775807 := by
  obtain ⟨hl, A, c, e1, h1, h2, h3 | ⟨b, o, e2, hc⟩⟩ := h.slice (Has.mem hm fun F hF => hF)
  · subst h3; simp at hl; omega
  · subst e2; exact ⟨b, o, c, e1, h1, h2⟩
def ctS (b2 : Nat) (cs : List Value) (b3 o : Nat) (x : Nat) (w : World) : Prop := w.rangeAt b2 0 cs ∧ w.cell? ⟨b3, o, none⟩ = some (.int .u32 (x : Nat))
def mdPost (b br : Nat) (R : Rg) (rl : List Rcd) (sy : Nat) (W : World) (L : List HP) (e : Ending) (w' : World) : Prop := ∃ v2 v3, e = .returned (.agg (mdCells b br v2 v3 sy).toArray) ∧ Sat W w' (sl1 v2 rl.length (rcsS rl) :: sl1 v3 rl.length (rcsN rl) :: rg br b R :: L)
set_option maxRecDepth 100000 in
set_option maxHeartbeats 8000000 in
theorem sccut_spec (W w : World) (L : List HP) (b br : Nat) (R : Rg) (rl : List Rcd) (sy k : Nat) (v2 v3 : Value) (hs : Sat W w (sl1 v2 rl.length (rcsS rl) :: sl1 v3 rl.length (rcsN rl) :: rg br b R :: L)) (hk : k ≤ rl.length) (h30 : rl.length ≤ 1000) (hsy : sy ≤ 1000) :
    Calls Try.prog 53 #[.agg (mdCells b br v2 v3 sy).toArray, .int .i64 (k : Nat)] w (mdPost b br (R.cut (endAt R.low rl k)) (rl.drop k) (sy - k) W L) := by
  obtain ⟨A2, c2, rfl, hc2, hm2⟩ := slice_form (hs.slice (Has.mem m0 fun F h => h))
  obtain ⟨A3, c3, rfl, hc3, hm3⟩ := slice_form (hs.slice (Has.mem m1 fun F h => h))
  by_cases h0 : k = 0
  · subst h0
    have hcut : R.cut (endAt R.low rl 0) = R := by unfold Rg.cut; rw [if_neg (by show ¬ (R.low < R.low ∧ _); omega)]
    rw [hcut, List.drop_zero, Nat.sub_zero]
    go_enter Try.func53, Try.ntmps53
    go_wp2_with (first
      | (guard_target = wpList _ _ _ (⟨some 2, .box _ _, _, _, _, _⟩ :: _) _ _; refine wpl (o := ⟨some 2, .box _ _, _, _, _, _⟩) rfl fun K hK => ?_; go_must (refine op_box hs rfl _ rfl (mdCells b br (.slice A2 rl.length c2) (.slice A3 rl.length c3) sy) rfl fun b2 w1 h => hK _ _ ?_); clear hs hK K; have hs := h; clear h; try dsimp only [List.set] at hs)
      | (guard_target = wpList _ _ _ (⟨some 4, .alloc _, _, _, _, _⟩ :: _) _ _; refine wpl (o := ⟨some 4, .alloc _, _, _, _, _⟩) rfl fun K hK => ?_; go_must (refine op_alloc hs rfl _ zmade zmd rfl fun b4 w1 h => hK _ _ ?_); clear hs hK K; have hs := h; clear h; try dsimp only [List.set] at hs)
      | (guard_target = wpList _ _ _ (⟨some 7, .load _ _, _, _, _, _⟩ :: _) _ _; refine wpl (o := ⟨some 7, .load _ _, _, _, _, _⟩) rfl fun K hK => op_load_agg rfl (b := b2) (i := 0) rfl ((mdCells b br (.slice A2 rl.length c2) (.slice A3 rl.length c3) sy)) (range_whole hs (by (try dsimp only [List.set]); repeat (first | with_reducible exact List.mem_cons_self | with_reducible apply List.mem_cons_of_mem))) (by kernel_rfl) (by kernel_rfl) (hK _ _ ?_); clear hK K)
      | (guard_target = wpList _ _ _ (⟨none, .store _ (.tmp 4) _, _, _, _, _⟩ :: _) _ _; refine wpl (o := ⟨none, .store _ (.tmp 4) _, _, _, _, _⟩) rfl fun K hK => ?_; go_must (refine op_store_whole (hs.pick (A := row b4 zmd 56) (by repeat (first | with_reducible exact Pick.here | with_reducible apply Pick.there))) (b := b4) rfl rfl (mdCells b br (.slice A2 rl.length c2) (.slice A3 rl.length c3) sy) rfl (md_one _ _ _ _ _ _ _ _ _) (by kernel_rfl) (k := 0) rfl rfl fun w3 h => hK _ _ ?_); clear hs hK K; have hs := h; clear h; try dsimp only [List.set] at hs))
    exact bodyPost_ret (run_results_cell rfl (b := b4) rfl (mdCells b br (.slice A2 rl.length c2) (.slice A3 rl.length c3) sy) (range_whole hs m0) (by kernel_rfl) (by kernel_rfl)) rfl ⟨.slice A2 rl.length c2, .slice A3 rl.length c3, rfl, hs.pack (by repeat (first | with_reducible exact Pack.refl | with_reducible exact Pack.nil | with_reducible refine Pack.cons (by repeat (first | with_reducible exact Pick.here | with_reducible apply Pick.there)) ?_ | with_reducible apply Pack.drop))⟩
  · obtain ⟨b3, o3, c3', e3, _, _⟩ := sl1_form hs (v := .slice A3 rl.length c3) (n := rl.length) (vs := rcsN rl) m1 (by omega)
    cases e3
    obtain ⟨km, hkm⟩ : ∃ km, k - 1 = km := ⟨_, rfl⟩
    have hget := endAt_last R.low rl k h0 hk
    rw [hkm] at hget
    have hkI0 : ((k : Int) == 0) = false := by simp [h0]
    have hkmI : IntKind.i64.wrap ((k : Int) - 1) = (km : Int) := by rw [IntKind.wrap_i64]; omega
    have hkmlt : (km : Int) < (rl.length : Int) := by omega
    have hsI : IntKind.i64.wrap ((sy : Int) - (k : Int)) = (sy : Int) - (k : Int) := by rw [IntKind.wrap_i64]; omega
    have hmx : Box ((if (sy : Int) - (k : Int) < 0 then 0 else (sy : Int) - (k : Int)) = ((sy - k : Nat) : Int)) := ⟨by split <;> omega⟩
    have hkc2 : k ≤ c2 := by omega
    have hkc3 : k ≤ c3 := by omega
    obtain ⟨lo, hlo⟩ : ∃ lo, endAt R.low rl k = lo := ⟨_, rfl⟩
    rw [hlo] at hget ⊢
    obtain ⟨R', hR'⟩ : ∃ R', R.cut lo = R' := ⟨_, rfl⟩
    rw [hR']
    have HR := Box.mk hR'
    clear hlo hR' hkm
    have cS : ∀ w M b2, Sat W w M → row b2 (mdCells b br (.slice A2 rl.length c2) (.slice (some ⟨b3, o3, none⟩) rl.length c3) sy) 56 ∈ M → sl1 (.slice (some ⟨b3, o3, none⟩) rl.length c3) rl.length (rcsN rl) ∈ M → ctS b2 (mdCells b br (.slice A2 rl.length c2) (.slice (some ⟨b3, o3, none⟩) rl.length c3) sy) b3 (o3 + km) lo w := fun w M b2 h hm hm2 => ⟨range_whole h hm, sl1_cell h hm2 hget⟩
    go_enter Try.func53, Try.ntmps53
    go_wp2_with (first
      | (guard_target = wpList _ _ _ (⟨some 2, .box _ _, _, _, _, _⟩ :: _) _ _; refine wpl (o := ⟨some 2, .box _ _, _, _, _, _⟩) rfl fun K hK => ?_; go_must (refine op_box hs rfl _ rfl (mdCells b br (.slice A2 rl.length c2) (.slice (some ⟨b3, o3, none⟩) rl.length c3) sy) rfl fun b2 w1 h => hK _ _ ?_); clear hs hK K; have hs := h; clear h; try dsimp only [List.set] at hs)
      | (guard_target = wpList _ _ _ (⟨some 4, .alloc _, _, _, _, _⟩ :: _) _ _; refine wpl (o := ⟨some 4, .alloc _, _, _, _, _⟩) rfl fun K hK => ?_; go_must (refine op_alloc hs rfl _ zmade zmd rfl fun b4 w1 h => hK _ _ ?_); clear hs hK K; have hs := h; clear h; try dsimp only [List.set] at hs))
    have d9 : ∀ w, ctS b2 (mdCells b br (.slice A2 rl.length c2) (.slice (some ⟨b3, o3, none⟩) rl.length c3) sy) b3 (o3 + km) lo w → w.cell? ⟨b2, 1, none⟩ = some (.pointer (some ⟨br, 0, none⟩)) := fun w h => h.1 1 _ rfl
    have d11 : ∀ w, ctS b2 (mdCells b br (.slice A2 rl.length c2) (.slice (some ⟨b3, o3, none⟩) rl.length c3) sy) b3 (o3 + km) lo w → w.cell? ⟨b2, 3, none⟩ = some (.slice (some ⟨b3, o3, none⟩) rl.length c3) := fun w h => h.1 3 _ rfl
    have d15 : ∀ w, ctS b2 (mdCells b br (.slice A2 rl.length c2) (.slice (some ⟨b3, o3, none⟩) rl.length c3) sy) b3 (o3 + km) lo w → w.cell? ⟨b3, o3 + km, none⟩ = some (.int .u32 (lo : Nat)) := fun w h => h.2
    have hS0 := cS _ _ _ hs.drew (by (try dsimp only [List.set]); repeat (first | with_reducible exact List.mem_cons_self | with_reducible apply List.mem_cons_of_mem)) (by (try dsimp only [List.set]); repeat (first | with_reducible exact List.mem_cons_self | with_reducible apply List.mem_cons_of_mem))
    refine wp_region_tree (ctS b2 (mdCells b br (.slice A2 rl.length c2) (.slice (some ⟨b3, o3, none⟩) rl.length c3) sy) b3 (o3 + km) lo) (.take 0 (.take 1 (.take 2 (.take 3 (.take 4 (.take 5 (.take 6 (.take 7 (.all [(8, DTree.done)]))))))))) (by kernel_rfl) (by kernel_rfl) (by kernel_rfl) (fun _ _ d _ _ h => by cases d <;> exact h) hS0 ?_
    have hs' := hs.drew
    clear hs
    have hs := hs'
    clear hs'
    have hq := fun p : Prop => class_const hS0 p
    clear hS0
    repeat (first
      | (with_reducible refine tree_load (o := ⟨some 9, .load _ _, _, _, _, _⟩) rfl rfl rfl rfl rfl d9 ?_)
      | (with_reducible refine tree_load (o := ⟨some 11, .load _ _, _, _, _, _⟩) rfl rfl rfl rfl rfl d11 ?_)
      | (with_reducible refine tree_load (o := ⟨some 15, .load _ _, _, _, _, _⟩) rfl rfl rfl rfl rfl d15 ?_)
      | (refine tree_take rfl (fun K hK => ?_); go_simp; (first | with_reducible refine hK _ ?_ | (rw [if_neg (by decide)]; with_reducible refine hK _ ?_)); clear hK K))
    refine tree_one_yes (o := _) rfl rfl (fun K hK => ?_) (cS _ _ _ hs (by (try dsimp only [List.set]); repeat (first | with_reducible exact List.mem_cons_self | with_reducible apply List.mem_cons_of_mem)) (by (try dsimp only [List.set]); repeat (first | with_reducible exact List.mem_cons_self | with_reducible apply List.mem_cons_of_mem)))
    try go_simp
    go_at_call 70
    refine (truncate_spec W _ _ br b R (hs.pick (A := rg br b R) (by repeat (first | with_reducible exact Pick.here | with_reducible apply Pick.there))) lo).mono ?_
    clear hs
    rintro e w5 ⟨⟨_, rfl⟩, hs⟩
    rw [HR.out] at hs
    try go_simp
    refine hK _ _ (cS _ _ _ hs (by (try dsimp only [List.set]); repeat (first | with_reducible exact List.mem_cons_self | with_reducible apply List.mem_cons_of_mem)) (by (try dsimp only [List.set]); repeat (first | with_reducible exact List.mem_cons_self | with_reducible apply List.mem_cons_of_mem))) ?_
    clear hK K
    refine tree_done ?_
    clear hq
    go_wp2_with (first
      | (guard_target = wpList _ _ _ (⟨some 18, .load _ _, _, _, _, _⟩ :: _) _ _; refine wpl (o := ⟨some 18, .load _ _, _, _, _, _⟩) rfl fun K hK => op_load rfl (ad := ⟨b2, 2, none⟩) rfl (by kernel_rfl) (hs.cell (l := mdCells b br (.slice A2 rl.length c2) (.slice (some ⟨b3, o3, none⟩) rl.length c3) sy) (t := 56) (by (try dsimp only [List.set]); repeat (first | with_reducible exact List.mem_cons_self | with_reducible apply List.mem_cons_of_mem)) rfl) (hK _ _ ?_); clear hK K)
      | (guard_target = wpList _ _ _ (⟨none, .store _ (.tmp 21) _, _, _, _, _⟩ :: _) _ _; refine wpl (o := ⟨none, .store _ (.tmp 21) _, _, _, _, _⟩) rfl fun K hK => ?_; go_must (refine op_store (hs.pick (A := row b2 (mdCells b br (.slice A2 rl.length c2) (.slice (some ⟨b3, o3, none⟩) rl.length c3) sy) 56) (by repeat (first | with_reducible exact Pick.here | with_reducible apply Pick.there))) rfl (b := b2) (i := 2) (v := .slice (if c2 = k then A2 else A2.map (·.add k)) (rl.length - k) (c2 - k)) rfl rfl rfl (by kernel_rfl) (k := 0) rfl (by simp [mdCells]) fun w5 h => hK _ _ ?_); clear hs hK K; have hs := h; clear h; change Sat W _ (row b2 (mdCells b br (.slice (if c2 = k then A2 else A2.map (·.add k)) (rl.length - k) (c2 - k)) (.slice (some ⟨b3, o3, none⟩) rl.length c3) sy) 56 :: _) at hs)
      | (guard_target = wpList _ _ _ (⟨some 23, .load _ _, _, _, _, _⟩ :: _) _ _; refine wpl (o := ⟨some 23, .load _ _, _, _, _, _⟩) rfl fun K hK => op_load rfl (ad := ⟨b2, 3, none⟩) rfl (by kernel_rfl) (hs.cell (l := mdCells b br (.slice (if c2 = k then A2 else A2.map (·.add k)) (rl.length - k) (c2 - k)) (.slice (some ⟨b3, o3, none⟩) rl.length c3) sy) (t := 56) (by (try dsimp only [List.set]); repeat (first | with_reducible exact List.mem_cons_self | with_reducible apply List.mem_cons_of_mem)) rfl) (hK _ _ ?_); clear hK K)
      | (guard_target = wpList _ _ _ (⟨none, .store _ (.tmp 26) _, _, _, _, _⟩ :: _) _ _; refine wpl (o := ⟨none, .store _ (.tmp 26) _, _, _, _, _⟩) rfl fun K hK => ?_; go_must (refine op_store (hs.pick (A := row b2 (mdCells b br (.slice (if c2 = k then A2 else A2.map (·.add k)) (rl.length - k) (c2 - k)) (.slice (some ⟨b3, o3, none⟩) rl.length c3) sy) 56) (by repeat (first | with_reducible exact Pick.here | with_reducible apply Pick.there))) rfl (b := b2) (i := 3) (v := .slice (if c3 = k then some ⟨b3, o3, none⟩ else some ⟨b3, o3 + k, none⟩) (rl.length - k) (c3 - k)) rfl rfl rfl (by kernel_rfl) (k := 0) rfl (by simp [mdCells]) fun w5 h => hK _ _ ?_); clear hs hK K; have hs := h; clear h; change Sat W _ (row b2 (mdCells b br (.slice (if c2 = k then A2 else A2.map (·.add k)) (rl.length - k) (c2 - k)) (.slice (if c3 = k then some ⟨b3, o3, none⟩ else some ⟨b3, o3 + k, none⟩) (rl.length - k) (c3 - k)) sy) 56 :: _) at hs)
      | (guard_target = wpList _ _ _ (⟨some 28, .load _ _, _, _, _, _⟩ :: _) _ _; refine wpl (o := ⟨some 28, .load _ _, _, _, _, _⟩) rfl fun K hK => op_load rfl (ad := ⟨b2, 4, none⟩) rfl (by kernel_rfl) (hs.cell (l := mdCells b br (.slice (if c2 = k then A2 else A2.map (·.add k)) (rl.length - k) (c2 - k)) (.slice (if c3 = k then some ⟨b3, o3, none⟩ else some ⟨b3, o3 + k, none⟩) (rl.length - k) (c3 - k)) sy) (t := 56) (by (try dsimp only [List.set]); repeat (first | with_reducible exact List.mem_cons_self | with_reducible apply List.mem_cons_of_mem)) rfl) (hK _ _ ?_); clear hK K)
      | (guard_target = wpList _ _ _ (⟨none, .store _ (.tmp 32) _, _, _, _, _⟩ :: _) _ _; refine wpl (o := ⟨none, .store _ (.tmp 32) _, _, _, _, _⟩) rfl fun K hK => ?_; go_must (refine op_store (hs.pick (A := row b2 (mdCells b br (.slice (if c2 = k then A2 else A2.map (·.add k)) (rl.length - k) (c2 - k)) (.slice (if c3 = k then some ⟨b3, o3, none⟩ else some ⟨b3, o3 + k, none⟩) (rl.length - k) (c3 - k)) sy) 56) (by repeat (first | with_reducible exact Pick.here | with_reducible apply Pick.there))) rfl (b := b2) (i := 4) (v := .int .i64 (if (sy : Int) - (k : Int) < 0 then 0 else (sy : Int) - (k : Int))) rfl rfl rfl (by kernel_rfl) (k := 0) rfl (by simp [mdCells]) fun w5 h => hK _ _ ?_); clear hs hK K; have hs := h; clear h; rw [hmx.out] at hs; change Sat W _ (row b2 (mdCells b br (.slice (if c2 = k then A2 else A2.map (·.add k)) (rl.length - k) (c2 - k)) (.slice (if c3 = k then some ⟨b3, o3, none⟩ else some ⟨b3, o3 + k, none⟩) (rl.length - k) (c3 - k)) (sy - k)) 56 :: _) at hs)
      | (guard_target = wpList _ _ _ (⟨some 33, .load _ _, _, _, _, _⟩ :: _) _ _; refine wpl (o := ⟨some 33, .load _ _, _, _, _, _⟩) rfl fun K hK => op_load_agg rfl (b := b2) (i := 0) rfl ((mdCells b br (.slice (if c2 = k then A2 else A2.map (·.add k)) (rl.length - k) (c2 - k)) (.slice (if c3 = k then some ⟨b3, o3, none⟩ else some ⟨b3, o3 + k, none⟩) (rl.length - k) (c3 - k)) (sy - k))) (range_whole hs (by (try dsimp only [List.set]); repeat (first | with_reducible exact List.mem_cons_self | with_reducible apply List.mem_cons_of_mem))) (by kernel_rfl) (by kernel_rfl) (hK _ _ ?_); clear hK K)
      | (guard_target = wpList _ _ _ (⟨none, .store _ (.tmp 4) _, _, _, _, _⟩ :: _) _ _; refine wpl (o := ⟨none, .store _ (.tmp 4) _, _, _, _, _⟩) rfl fun K hK => ?_; go_must (refine op_store_whole (hs.pick (A := row b4 zmd 56) (by repeat (first | with_reducible exact Pick.here | with_reducible apply Pick.there))) (b := b4) rfl rfl (mdCells b br (.slice (if c2 = k then A2 else A2.map (·.add k)) (rl.length - k) (c2 - k)) (.slice (if c3 = k then some ⟨b3, o3, none⟩ else some ⟨b3, o3 + k, none⟩) (rl.length - k) (c3 - k)) (sy - k)) rfl (md_one _ _ _ _ _ _ _ _ _) (by kernel_rfl) (k := 0) rfl rfl fun w3 h => hK _ _ ?_); clear hs hK K; have hs := h; clear h; try dsimp only [List.set] at hs))
    all_goals
      refine bodyPost_ret (run_results_cell rfl (b := b4) rfl _ (range_whole hs m0) (by kernel_rfl) (by kernel_rfl)) rfl ⟨_, _, rfl, ?_⟩
      have h1 := ((hs.pick (A := sl1 (.slice (some ⟨b3, o3, none⟩) rl.length c3) rl.length (rcsN rl)) (by repeat (first | with_reducible exact Pick.here | with_reducible apply Pick.there))).sub (i := 0) rfl (B := sl1 (.slice (if c3 = k then some ⟨b3, o3, none⟩ else some ⟨b3, o3 + k, none⟩) (rl.length - k) (c3 - k)) (rl.drop k).length (rcsN (rl.drop k))) fun F hF => by
        have := one_drop hF k hk
        rw [Option.map_some, add_plain] at this
        rw [List.length_drop, show rcsN (rl.drop k) = (rcsN rl).drop k by simp [rcsN, u32s, List.map_drop]]
        exact this)
      dsimp only [List.set] at h1
      have h2 := ((h1.pick (A := sl1 (.slice A2 rl.length c2) rl.length (rcsS rl)) (by repeat (first | with_reducible exact Pick.here | with_reducible apply Pick.there))).sub (i := 0) rfl (B := sl1 (.slice (if c2 = k then A2 else A2.map (·.add k)) (rl.length - k) (c2 - k)) (rl.drop k).length (rcsS (rl.drop k))) fun F hF => by
        have := one_drop hF k hk
        rw [List.length_drop, show rcsS (rl.drop k) = (rcsS rl).drop k by simp [rcsS, strs, List.map_drop]]
        exact this)
      dsimp only [List.set] at h2
      exact h2.pack (by repeat (first | with_reducible exact Pack.refl | with_reducible exact Pack.nil | with_reducible refine Pack.cons (by repeat (first | with_reducible exact Pick.here | with_reducible apply Pick.there)) ?_ | with_reducible apply Pack.drop))
end Go.Proofs.Ytimknlabhhopcaa
