/- The reference's reading: ogiveref20.right, Right, takeKey. -/
import Derived.Test.YthjnefpnnifjiaaDoorRdTakeP
import Derived.Test.YthjnefpnnifjiaaDoorRdRef1
set_option linter.unusedVariables false
set_option linter.unusedSimpArgs false
namespace Go.Proofs.YthjnefpnnifjiaaDoor
open Go.RowKit
theorem run_results_cell_tmp3 {P : Program} {w : World} {fn : Func} {p u v : Tmp} {ty : TypeId} (h : fn.results = #[.cell p ty, .tmp u, .tmp v]) {tmps : Array Value} {b : Nat} (hp : tmps.getD p undef = .pointer (some ⟨b, 0, none⟩)) (cs : List Value) (hc : w.rangeAt b 0 cs)
    (hd : ((P.underlying ty).map TypeDesc.isRow) = some true) (hi : (P.info? ty).map (·.size) = some cs.length) : (results fn tmps).run P w = .ok (.tuple #[.agg cs.toArray, tmps.getD u undef, tmps.getD v undef]) w := by
  cases hu : P.underlying ty with
  | none => simp [hu] at hd
  | some d =>
    have hp' : tmps[p]?.getD undef = .pointer (some ⟨b, 0, none⟩) := by simpa using hp
    simp [results, h, hp', asAddr, run_loadVar_mid w b 0 ty cs d hc hu (by simpa [hu] using hd) hi]
set_option maxRecDepth 100000 in
set_option maxHeartbeats 400000 in
theorem right1_spec (W w : World) (L : List HP) (hs : Sat W w L) (n : Int) :
    Calls Tryd.prog 81 #[.int .i64 n] w fun e w' => e = .returned (.bool (decide (0 ≤ n) && decide (n ≤ 255))) ∧ Sat W w' L := by
  by_cases h0 : 0 ≤ n
  · by_cases h1 : n ≤ 255
    · go_enter Tryd.func81, Tryd.ntmps81
      go_wp2_with fail
      go_ret
      exact ⟨by simp [h0, h1], hs⟩
    · go_enter Tryd.func81, Tryd.ntmps81
      go_wp2_with fail
      go_ret
      exact ⟨by simp; omega, hs⟩
  · go_enter Tryd.func81, Tryd.ntmps81
    go_wp2_with fail
    go_ret
    exact ⟨by simp; omega, hs⟩
set_option maxRecDepth 100000 in
set_option maxHeartbeats 2000000 in
theorem right_spec (W w : World) (L : List HP) (hs : Sat W w L) (k : RKey) :
    Calls Tryd.prog 61 #[.agg (kC k).toArray] w fun e w' => e = .returned (.bool (rightB k)) ∧ Sat W w' L := by
  have H1 := Box.mk (fun w (L : List HP) hs => right1_spec W w L hs k.kind)
  have H2 := Box.mk (fun w (L : List HP) hs => right1_spec W w L hs k.a)
  have H3 := Box.mk (fun w (L : List HP) hs => right1_spec W w L hs k.b)
  unfold rightB
  obtain ⟨q1, e1⟩ : ∃ q, (decide (0 ≤ k.kind) && decide (k.kind ≤ 255)) = q := ⟨_, rfl⟩
  obtain ⟨q2, e2⟩ : ∃ q, (decide (0 ≤ k.a) && decide (k.a ≤ 255)) = q := ⟨_, rfl⟩
  obtain ⟨q3, e3⟩ : ∃ q, (decide (0 ≤ k.b) && decide (k.b ≤ 255)) = q := ⟨_, rfl⟩
  rw [e1] at H1 ⊢
  rw [e2] at H2 ⊢
  rw [e3] at H3 ⊢
  clear e1 e2 e3
  cases q1 <;> cases q2
  all_goals
    go_enter Tryd.func61, Tryd.ntmps61
    go_wp2_with (first
      | (guard_target = wpList _ _ _ (⟨some 1, .box _ _, _, _, _, _⟩ :: _) _ _; refine wpl (o := ⟨some 1, .box _ _, _, _, _, _⟩) rfl fun K hK => ?_; go_must (refine op_box hs rfl _ rfl (kC k) rfl fun b1 w1 h => hK _ _ ?_); clear hs hK K; have hs := h; clear h)
      | (guard_target = wpList _ _ _ (⟨some 4, .load _ _, _, _, _, _⟩ :: _) _ _; refine wpl (o := ⟨some 4, .load _ _, _, _, _, _⟩) rfl fun K hK => op_load rfl (ad := ⟨b1, 0, none⟩) rfl (by kernel_rfl) (hs.cell (l := kC k) (t := 57) (by (try dsimp only [List.set]); repeat (first | with_reducible exact List.mem_cons_self | with_reducible apply List.mem_cons_of_mem)) rfl) (hK _ _ ?_); clear hK K)
      | (guard_target = wpList _ _ _ (⟨some 8, .load _ _, _, _, _, _⟩ :: _) _ _; refine wpl (o := ⟨some 8, .load _ _, _, _, _, _⟩) rfl fun K hK => op_load rfl (ad := ⟨b1, 1, none⟩) rfl (by kernel_rfl) (hs.cell (l := kC k) (t := 57) (by (try dsimp only [List.set]); repeat (first | with_reducible exact List.mem_cons_self | with_reducible apply List.mem_cons_of_mem)) rfl) (hK _ _ ?_); clear hK K)
      | (guard_target = wpList _ _ _ (⟨some 13, .load _ _, _, _, _, _⟩ :: _) _ _; refine wpl (o := ⟨some 13, .load _ _, _, _, _, _⟩) rfl fun K hK => op_load rfl (ad := ⟨b1, 2, none⟩) rfl (by kernel_rfl) (hs.cell (l := kC k) (t := 57) (by (try dsimp only [List.set]); repeat (first | with_reducible exact List.mem_cons_self | with_reducible apply List.mem_cons_of_mem)) rfl) (hK _ _ ?_); clear hK K)
      | (have hh : g2 = g2 := rfl; clear hh; go_at_call 81; go_must (refine (H3.out _ _ hs).mono ?_); clear hs; rintro e w1 ⟨rfl, hs⟩)
      | (have hh : g1 = g1 := rfl; clear hh; go_at_call 81; go_must (refine (H2.out _ _ hs).mono ?_); clear hs; rintro e w1 ⟨rfl, hs⟩; have g2 : Box True := ⟨trivial⟩)
      | (go_at_call 81; go_must (refine (H1.out _ _ hs).mono ?_); clear hs; rintro e w1 ⟨rfl, hs⟩; have g1 : Box True := ⟨trivial⟩))
    go_ret
    exact ⟨by simp, hs.pack (by repeat (first | with_reducible exact Pack.refl | with_reducible exact Pack.nil | with_reducible refine Pack.cons (by repeat (first | with_reducible exact Pick.here | with_reducible apply Pick.there)) ?_ | with_reducible apply Pack.drop))⟩
def tkKey (s : List UInt8) : RKey := if (⟨s, false⟩ : Rd).key.2.bad then ⟨0, 0, 0⟩ else (⟨s, false⟩ : Rd).key.1
def tkRest (s : List UInt8) : List UInt8 := if (⟨s, false⟩ : Rd).key.2.bad then [] else (⟨s, false⟩ : Rd).key.2.rest
def tkBad (s : List UInt8) : Nat := if (⟨s, false⟩ : Rd).key.2.bad then 2 else 0
theorem rtn (W w : World) (L : List HP) (hs : Sat W w L) (l : List UInt8) (hl : l.length ≤ 1073741824) :
    Calls Tryd.prog 41 #[(.string ⟨(l).toArray⟩)] w fun e w' => e = .returned (.tuple #[.int .u32 (tnA l : Nat), (.string ⟨(tnB l).toArray⟩), .int .i64 (tnC l : Nat)]) ∧ Sat W w' L := rtakeNumL_spec W w L hs l hl
theorem tnB_len (s : List UInt8) : (tnB s).length ≤ s.length := by unfold tnB; split <;> simp
set_option maxRecDepth 100000 in
set_option maxHeartbeats 4000000 in
theorem takeKey_spec (W w : World) (L : List HP) (hs : Sat W w L) (s : List UInt8) (hl : s.length ≤ 1073741824) :
    Calls Tryd.prog 42 #[(.string ⟨(s).toArray⟩)] w fun e w' => e = .returned (.tuple #[.agg (kC (tkKey s)).toArray, (.string ⟨(tkRest s).toArray⟩), .int .i64 (tkBad s : Nat)]) ∧ Sat W w' L := by
  have l1 := tnB_len s
  have l2 := tnB_len (tnB s)
  have H1 := Box.mk (fun w (L : List HP) hs => rtn W w L hs s hl)
  have H2 := Box.mk (fun w (L : List HP) hs => rtn W w L hs (tnB s) (by omega))
  have H3 := Box.mk (fun w (L : List HP) hs => rtn W w L hs (tnB (tnB s)) (by omega))
  have HR := Box.mk (fun w (L : List HP) hs => right_spec W w L hs ⟨(tnA s : Nat), (tnA (tnB s) : Nat), (tnA (tnB (tnB s)) : Nat)⟩)
  have a1 := tnA_lt s
  have a2 := tnA_lt (tnB s)
  have a3 := tnA_lt (tnB (tnB s))
  have hk : (⟨s, false⟩ : Rd).key.1 = ⟨(tnA s : Nat), (tnA (tnB s) : Nat), (tnA (tnB (tnB s)) : Nat)⟩ := rfl
  have hre : (⟨s, false⟩ : Rd).key.2.rest = tnB (tnB (tnB s)) := rfl
  have hb := key_bad s
  have z1 := tnC_cases s
  have z2 := tnC_cases (tnB s)
  have z3 := tnC_cases (tnB (tnB s))
  unfold tkKey tkRest tkBad
  rw [hk, hre]
  clear l1 l2 hk hre
  generalize (⟨s, false⟩ : Rd).key.2.bad = bad at hb ⊢
  generalize tnB (tnB (tnB s)) = s3 at *
  generalize tnA (tnB (tnB s)) = n3 at *
  generalize tnC (tnB (tnB s)) = c3 at *
  generalize tnB (tnB s) = s2 at *
  generalize tnA (tnB s) = n2 at *
  generalize tnC (tnB s) = c2 at *
  generalize tnB s = s1 at *
  generalize tnA s = n1 at *
  generalize tnC s = c1 at *
  generalize rightB ⟨(n1 : Nat), (n2 : Nat), (n3 : Nat)⟩ = q at *
  have w1 : IntKind.i64.wrap (n1 : Int) = n1 := by rw [IntKind.wrap_i64]; omega
  have w2 : IntKind.i64.wrap (n2 : Int) = n2 := by rw [IntKind.wrap_i64]; omega
  have w3 : IntKind.i64.wrap (n3 : Int) = n3 := by rw [IntKind.wrap_i64]; omega
  have hz := run_zero (P := Tryd.prog) zkey
  clear a1 a2 a3
  have key : ∀ r : Bool, bad = r → Calls Tryd.prog 42 #[(.string ⟨(s).toArray⟩)] w fun e w' => e = .returned (.tuple #[.agg (kC (if r then ⟨0, 0, 0⟩ else ⟨(n1 : Nat), (n2 : Nat), (n3 : Nat)⟩)).toArray, (.string ⟨(if r then [] else s3).toArray⟩), .int .i64 ((if r then 2 else 0 : Nat) : Nat)]) ∧ Sat W w' L := by
    intro r hr
    rw [hb] at hr
    clear hb
    rcases z1 with rfl | rfl
    · rcases z2 with rfl | rfl
      · rcases z3 with rfl | rfl
        · cases q
          · have hr2 : r = true := by rw [← hr]; simp
            subst hr2
            clear hr
            go_enter Tryd.func42, Tryd.ntmps42
            go_wp2_with (first
              | (guard_target = wpList _ _ _ (⟨some 2, .alloc _, _, _, _, _⟩ :: _) _ _; refine wpl (o := ⟨some 2, .alloc _, _, _, _, _⟩) rfl fun K hK => ?_; go_must (refine op_alloc hs rfl _ zkey [Value.int .i64 0, .int .i64 0, .int .i64 0] rfl fun b2 w1 h => hK _ _ ?_); clear hs hK K; have hs := h; clear h; try dsimp only [List.set] at hs)
              | (have hh : g2 = g2 := rfl; clear hh; go_at_call 41; go_must (refine (H3.out _ _ hs).mono ?_); clear hs; rintro e w1 ⟨rfl, hs⟩)
              | (have hh : g1 = g1 := rfl; clear hh; go_at_call 41; go_must (refine (H2.out _ _ hs).mono ?_); clear hs; rintro e w1 ⟨rfl, hs⟩; have g2 : Box True := ⟨trivial⟩)
              | (go_at_call 41; go_must (refine (H1.out _ _ hs).mono ?_); clear hs; rintro e w1 ⟨rfl, hs⟩; have g1 : Box True := ⟨trivial⟩)
              | (guard_target = wpList _ _ _ (⟨some 14, .alloc _, _, _, _, _⟩ :: _) _ _; refine wpl (o := ⟨some 14, .alloc _, _, _, _, _⟩) rfl fun K hK => ?_; go_must (refine op_alloc hs rfl _ zkey [Value.int .i64 0, .int .i64 0, .int .i64 0] rfl fun b14 w1 h => hK _ _ ?_); clear hs hK K; have hs := h; clear h; try dsimp only [List.set] at hs)
              | (guard_target = wpList _ _ _ (⟨none, .store _ (.tmp 14) _, _, _, _, _⟩ :: _) _ _; refine wpl (o := ⟨none, .store _ (.tmp 14) _, _, _, _, _⟩) rfl fun K hK => ?_; go_must (refine op_store_whole hs (b := b14) rfl rfl [Value.int .i64 (n1 : Nat), .int .i64 (n2 : Nat), .int .i64 (n3 : Nat)] rfl (by simp [Value.oneCell']) (by kernel_rfl) (k := 0) rfl rfl fun w3 h => hK _ _ ?_); clear hs hK K; have hs := h; clear h; try dsimp only [List.set] at hs)
              | (guard_target = wpList _ _ _ (⟨some 51, .load _ _, _, _, _, _⟩ :: _) _ _; refine wpl (o := ⟨some 51, .load _ _, _, _, _, _⟩) rfl fun K hK => op_load_agg rfl (b := b14) (i := 0) rfl ([Value.int .i64 (n1 : Nat), .int .i64 (n2 : Nat), .int .i64 (n3 : Nat)]) (range_whole hs (by (try dsimp only [List.set]); repeat (first | with_reducible exact List.mem_cons_self | with_reducible apply List.mem_cons_of_mem))) (by kernel_rfl) (by kernel_rfl) (hK _ _ ?_); clear hK K)
              | (guard_target = wpList _ _ _ (⟨some 56, .load _ _, _, _, _, _⟩ :: _) _ _; refine wpl (o := ⟨some 56, .load _ _, _, _, _, _⟩) rfl fun K hK => op_load_agg rfl (b := b14) (i := 0) rfl ([Value.int .i64 (n1 : Nat), .int .i64 (n2 : Nat), .int .i64 (n3 : Nat)]) (range_whole hs (by (try dsimp only [List.set]); repeat (first | with_reducible exact List.mem_cons_self | with_reducible apply List.mem_cons_of_mem))) (by kernel_rfl) (by kernel_rfl) (hK _ _ ?_); clear hK K)
              | (go_at_call 61; go_must (refine (HR.out _ _ hs).mono ?_); clear hs; rintro e w1 ⟨rfl, hs⟩)
              | (guard_target = wpList _ _ _ (⟨none, .store _ (.tmp 2) _, _, _, _, _⟩ :: _) _ _; refine wpl (o := ⟨none, .store _ (.tmp 2) _, _, _, _, _⟩) rfl fun K hK => ?_; go_must (refine op_store_whole (hs.pick (A := row b2 [Value.int .i64 0, .int .i64 0, .int .i64 0] 57) (by repeat (first | with_reducible exact Pick.here | with_reducible apply Pick.there))) (b := b2) rfl rfl [Value.int .i64 0, .int .i64 0, .int .i64 0] rfl (by simp [Value.oneCell']) (by kernel_rfl) (k := 0) rfl rfl fun w9 h => hK _ _ ?_); clear hs hK K; have hs := h; clear h; try dsimp only [List.set] at hs))
            exact bodyPost_ret (run_results_cell_tmp3 rfl (b := b2) rfl [.int .i64 0, .int .i64 0, .int .i64 0] (range_whole hs m0) (by kernel_rfl) (by kernel_rfl)) rfl ⟨rfl, hs.pack (by repeat (first | with_reducible exact Pack.refl | with_reducible exact Pack.nil | with_reducible refine Pack.cons (by repeat (first | with_reducible exact Pick.here | with_reducible apply Pick.there)) ?_ | with_reducible apply Pack.drop))⟩
          · have hr2 : r = false := by rw [← hr]; simp
            subst hr2
            clear hr
            go_enter Tryd.func42, Tryd.ntmps42
            go_wp2_with (first
              | (guard_target = wpList _ _ _ (⟨some 2, .alloc _, _, _, _, _⟩ :: _) _ _; refine wpl (o := ⟨some 2, .alloc _, _, _, _, _⟩) rfl fun K hK => ?_; go_must (refine op_alloc hs rfl _ zkey [Value.int .i64 0, .int .i64 0, .int .i64 0] rfl fun b2 w1 h => hK _ _ ?_); clear hs hK K; have hs := h; clear h; try dsimp only [List.set] at hs)
              | (have hh : g2 = g2 := rfl; clear hh; go_at_call 41; go_must (refine (H3.out _ _ hs).mono ?_); clear hs; rintro e w1 ⟨rfl, hs⟩)
              | (have hh : g1 = g1 := rfl; clear hh; go_at_call 41; go_must (refine (H2.out _ _ hs).mono ?_); clear hs; rintro e w1 ⟨rfl, hs⟩; have g2 : Box True := ⟨trivial⟩)
              | (go_at_call 41; go_must (refine (H1.out _ _ hs).mono ?_); clear hs; rintro e w1 ⟨rfl, hs⟩; have g1 : Box True := ⟨trivial⟩)
              | (guard_target = wpList _ _ _ (⟨some 14, .alloc _, _, _, _, _⟩ :: _) _ _; refine wpl (o := ⟨some 14, .alloc _, _, _, _, _⟩) rfl fun K hK => ?_; go_must (refine op_alloc hs rfl _ zkey [Value.int .i64 0, .int .i64 0, .int .i64 0] rfl fun b14 w1 h => hK _ _ ?_); clear hs hK K; have hs := h; clear h; try dsimp only [List.set] at hs)
              | (guard_target = wpList _ _ _ (⟨none, .store _ (.tmp 14) _, _, _, _, _⟩ :: _) _ _; refine wpl (o := ⟨none, .store _ (.tmp 14) _, _, _, _, _⟩) rfl fun K hK => ?_; go_must (refine op_store_whole hs (b := b14) rfl rfl [Value.int .i64 (n1 : Nat), .int .i64 (n2 : Nat), .int .i64 (n3 : Nat)] rfl (by simp [Value.oneCell']) (by kernel_rfl) (k := 0) rfl rfl fun w3 h => hK _ _ ?_); clear hs hK K; have hs := h; clear h; try dsimp only [List.set] at hs)
              | (guard_target = wpList _ _ _ (⟨some 51, .load _ _, _, _, _, _⟩ :: _) _ _; refine wpl (o := ⟨some 51, .load _ _, _, _, _, _⟩) rfl fun K hK => op_load_agg rfl (b := b14) (i := 0) rfl ([Value.int .i64 (n1 : Nat), .int .i64 (n2 : Nat), .int .i64 (n3 : Nat)]) (range_whole hs (by (try dsimp only [List.set]); repeat (first | with_reducible exact List.mem_cons_self | with_reducible apply List.mem_cons_of_mem))) (by kernel_rfl) (by kernel_rfl) (hK _ _ ?_); clear hK K)
              | (guard_target = wpList _ _ _ (⟨some 56, .load _ _, _, _, _, _⟩ :: _) _ _; refine wpl (o := ⟨some 56, .load _ _, _, _, _, _⟩) rfl fun K hK => op_load_agg rfl (b := b14) (i := 0) rfl ([Value.int .i64 (n1 : Nat), .int .i64 (n2 : Nat), .int .i64 (n3 : Nat)]) (range_whole hs (by (try dsimp only [List.set]); repeat (first | with_reducible exact List.mem_cons_self | with_reducible apply List.mem_cons_of_mem))) (by kernel_rfl) (by kernel_rfl) (hK _ _ ?_); clear hK K)
              | (go_at_call 61; go_must (refine (HR.out _ _ hs).mono ?_); clear hs; rintro e w1 ⟨rfl, hs⟩)
              | (guard_target = wpList _ _ _ (⟨none, .store _ (.tmp 2) _, _, _, _, _⟩ :: _) _ _; refine wpl (o := ⟨none, .store _ (.tmp 2) _, _, _, _, _⟩) rfl fun K hK => ?_; go_must (refine op_store_whole (hs.pick (A := row b2 [Value.int .i64 0, .int .i64 0, .int .i64 0] 57) (by repeat (first | with_reducible exact Pick.here | with_reducible apply Pick.there))) (b := b2) rfl rfl [Value.int .i64 (n1 : Nat), .int .i64 (n2 : Nat), .int .i64 (n3 : Nat)] rfl (by simp [Value.oneCell']) (by kernel_rfl) (k := 0) rfl rfl fun w9 h => hK _ _ ?_); clear hs hK K; have hs := h; clear h; try dsimp only [List.set] at hs))
            exact bodyPost_ret (run_results_cell_tmp3 rfl (b := b2) rfl [.int .i64 (n1 : Nat), .int .i64 (n2 : Nat), .int .i64 (n3 : Nat)] (range_whole hs m0) (by kernel_rfl) (by kernel_rfl)) rfl ⟨rfl, hs.pack (by repeat (first | with_reducible exact Pack.refl | with_reducible exact Pack.nil | with_reducible refine Pack.cons (by repeat (first | with_reducible exact Pick.here | with_reducible apply Pick.there)) ?_ | with_reducible apply Pack.drop))⟩
        · have hr2 : r = true := by rw [← hr]; simp
          subst hr2
          clear hr
          go_enter Tryd.func42, Tryd.ntmps42
          go_wp2_with (first
            | (guard_target = wpList _ _ _ (⟨some 2, .alloc _, _, _, _, _⟩ :: _) _ _; refine wpl (o := ⟨some 2, .alloc _, _, _, _, _⟩) rfl fun K hK => ?_; go_must (refine op_alloc hs rfl _ zkey [Value.int .i64 0, .int .i64 0, .int .i64 0] rfl fun b2 w1 h => hK _ _ ?_); clear hs hK K; have hs := h; clear h; try dsimp only [List.set] at hs)
            | (have hh : g2 = g2 := rfl; clear hh; go_at_call 41; go_must (refine (H3.out _ _ hs).mono ?_); clear hs; rintro e w1 ⟨rfl, hs⟩)
            | (have hh : g1 = g1 := rfl; clear hh; go_at_call 41; go_must (refine (H2.out _ _ hs).mono ?_); clear hs; rintro e w1 ⟨rfl, hs⟩; have g2 : Box True := ⟨trivial⟩)
            | (go_at_call 41; go_must (refine (H1.out _ _ hs).mono ?_); clear hs; rintro e w1 ⟨rfl, hs⟩; have g1 : Box True := ⟨trivial⟩)
            | (guard_target = wpList _ _ _ (⟨some 14, .alloc _, _, _, _, _⟩ :: _) _ _; refine wpl (o := ⟨some 14, .alloc _, _, _, _, _⟩) rfl fun K hK => ?_; go_must (refine op_alloc hs rfl _ zkey [Value.int .i64 0, .int .i64 0, .int .i64 0] rfl fun b14 w1 h => hK _ _ ?_); clear hs hK K; have hs := h; clear h; try dsimp only [List.set] at hs)
            | (guard_target = wpList _ _ _ (⟨none, .store _ (.tmp 14) _, _, _, _, _⟩ :: _) _ _; refine wpl (o := ⟨none, .store _ (.tmp 14) _, _, _, _, _⟩) rfl fun K hK => ?_; go_must (refine op_store_whole hs (b := b14) rfl rfl [Value.int .i64 (n1 : Nat), .int .i64 (n2 : Nat), .int .i64 (n3 : Nat)] rfl (by simp [Value.oneCell']) (by kernel_rfl) (k := 0) rfl rfl fun w3 h => hK _ _ ?_); clear hs hK K; have hs := h; clear h; try dsimp only [List.set] at hs)
            | (guard_target = wpList _ _ _ (⟨some 51, .load _ _, _, _, _, _⟩ :: _) _ _; refine wpl (o := ⟨some 51, .load _ _, _, _, _, _⟩) rfl fun K hK => op_load_agg rfl (b := b14) (i := 0) rfl ([Value.int .i64 (n1 : Nat), .int .i64 (n2 : Nat), .int .i64 (n3 : Nat)]) (range_whole hs (by (try dsimp only [List.set]); repeat (first | with_reducible exact List.mem_cons_self | with_reducible apply List.mem_cons_of_mem))) (by kernel_rfl) (by kernel_rfl) (hK _ _ ?_); clear hK K)
            | (guard_target = wpList _ _ _ (⟨some 56, .load _ _, _, _, _, _⟩ :: _) _ _; refine wpl (o := ⟨some 56, .load _ _, _, _, _, _⟩) rfl fun K hK => op_load_agg rfl (b := b14) (i := 0) rfl ([Value.int .i64 (n1 : Nat), .int .i64 (n2 : Nat), .int .i64 (n3 : Nat)]) (range_whole hs (by (try dsimp only [List.set]); repeat (first | with_reducible exact List.mem_cons_self | with_reducible apply List.mem_cons_of_mem))) (by kernel_rfl) (by kernel_rfl) (hK _ _ ?_); clear hK K)
            | (go_at_call 61; go_must (refine (HR.out _ _ hs).mono ?_); clear hs; rintro e w1 ⟨rfl, hs⟩)
            | (guard_target = wpList _ _ _ (⟨none, .store _ (.tmp 2) _, _, _, _, _⟩ :: _) _ _; refine wpl (o := ⟨none, .store _ (.tmp 2) _, _, _, _, _⟩) rfl fun K hK => ?_; go_must (refine op_store_whole (hs.pick (A := row b2 [Value.int .i64 0, .int .i64 0, .int .i64 0] 57) (by repeat (first | with_reducible exact Pick.here | with_reducible apply Pick.there))) (b := b2) rfl rfl [Value.int .i64 0, .int .i64 0, .int .i64 0] rfl (by simp [Value.oneCell']) (by kernel_rfl) (k := 0) rfl rfl fun w9 h => hK _ _ ?_); clear hs hK K; have hs := h; clear h; try dsimp only [List.set] at hs))
          exact bodyPost_ret (run_results_cell_tmp3 rfl (b := b2) rfl [.int .i64 0, .int .i64 0, .int .i64 0] (range_whole hs m0) (by kernel_rfl) (by kernel_rfl)) rfl ⟨rfl, hs.pack (by repeat (first | with_reducible exact Pack.refl | with_reducible exact Pack.nil | with_reducible refine Pack.cons (by repeat (first | with_reducible exact Pick.here | with_reducible apply Pick.there)) ?_ | with_reducible apply Pack.drop))⟩
      · have hr2 : r = true := by rw [← hr]; simp
        subst hr2
        clear hr
        go_enter Tryd.func42, Tryd.ntmps42
        go_wp2_with (first
          | (guard_target = wpList _ _ _ (⟨some 2, .alloc _, _, _, _, _⟩ :: _) _ _; refine wpl (o := ⟨some 2, .alloc _, _, _, _, _⟩) rfl fun K hK => ?_; go_must (refine op_alloc hs rfl _ zkey [Value.int .i64 0, .int .i64 0, .int .i64 0] rfl fun b2 w1 h => hK _ _ ?_); clear hs hK K; have hs := h; clear h; try dsimp only [List.set] at hs)
          | (have hh : g2 = g2 := rfl; clear hh; go_at_call 41; go_must (refine (H3.out _ _ hs).mono ?_); clear hs; rintro e w1 ⟨rfl, hs⟩)
          | (have hh : g1 = g1 := rfl; clear hh; go_at_call 41; go_must (refine (H2.out _ _ hs).mono ?_); clear hs; rintro e w1 ⟨rfl, hs⟩; have g2 : Box True := ⟨trivial⟩)
          | (go_at_call 41; go_must (refine (H1.out _ _ hs).mono ?_); clear hs; rintro e w1 ⟨rfl, hs⟩; have g1 : Box True := ⟨trivial⟩)
          | (guard_target = wpList _ _ _ (⟨some 14, .alloc _, _, _, _, _⟩ :: _) _ _; refine wpl (o := ⟨some 14, .alloc _, _, _, _, _⟩) rfl fun K hK => ?_; go_must (refine op_alloc hs rfl _ zkey [Value.int .i64 0, .int .i64 0, .int .i64 0] rfl fun b14 w1 h => hK _ _ ?_); clear hs hK K; have hs := h; clear h; try dsimp only [List.set] at hs)
          | (guard_target = wpList _ _ _ (⟨none, .store _ (.tmp 14) _, _, _, _, _⟩ :: _) _ _; refine wpl (o := ⟨none, .store _ (.tmp 14) _, _, _, _, _⟩) rfl fun K hK => ?_; go_must (refine op_store_whole hs (b := b14) rfl rfl [Value.int .i64 (n1 : Nat), .int .i64 (n2 : Nat), .int .i64 (n3 : Nat)] rfl (by simp [Value.oneCell']) (by kernel_rfl) (k := 0) rfl rfl fun w3 h => hK _ _ ?_); clear hs hK K; have hs := h; clear h; try dsimp only [List.set] at hs)
          | (guard_target = wpList _ _ _ (⟨some 51, .load _ _, _, _, _, _⟩ :: _) _ _; refine wpl (o := ⟨some 51, .load _ _, _, _, _, _⟩) rfl fun K hK => op_load_agg rfl (b := b14) (i := 0) rfl ([Value.int .i64 (n1 : Nat), .int .i64 (n2 : Nat), .int .i64 (n3 : Nat)]) (range_whole hs (by (try dsimp only [List.set]); repeat (first | with_reducible exact List.mem_cons_self | with_reducible apply List.mem_cons_of_mem))) (by kernel_rfl) (by kernel_rfl) (hK _ _ ?_); clear hK K)
          | (guard_target = wpList _ _ _ (⟨some 56, .load _ _, _, _, _, _⟩ :: _) _ _; refine wpl (o := ⟨some 56, .load _ _, _, _, _, _⟩) rfl fun K hK => op_load_agg rfl (b := b14) (i := 0) rfl ([Value.int .i64 (n1 : Nat), .int .i64 (n2 : Nat), .int .i64 (n3 : Nat)]) (range_whole hs (by (try dsimp only [List.set]); repeat (first | with_reducible exact List.mem_cons_self | with_reducible apply List.mem_cons_of_mem))) (by kernel_rfl) (by kernel_rfl) (hK _ _ ?_); clear hK K)
          | (go_at_call 61; go_must (refine (HR.out _ _ hs).mono ?_); clear hs; rintro e w1 ⟨rfl, hs⟩)
          | (guard_target = wpList _ _ _ (⟨none, .store _ (.tmp 2) _, _, _, _, _⟩ :: _) _ _; refine wpl (o := ⟨none, .store _ (.tmp 2) _, _, _, _, _⟩) rfl fun K hK => ?_; go_must (refine op_store_whole (hs.pick (A := row b2 [Value.int .i64 0, .int .i64 0, .int .i64 0] 57) (by repeat (first | with_reducible exact Pick.here | with_reducible apply Pick.there))) (b := b2) rfl rfl [Value.int .i64 0, .int .i64 0, .int .i64 0] rfl (by simp [Value.oneCell']) (by kernel_rfl) (k := 0) rfl rfl fun w9 h => hK _ _ ?_); clear hs hK K; have hs := h; clear h; try dsimp only [List.set] at hs))
        exact bodyPost_ret (run_results_cell_tmp3 rfl (b := b2) rfl [.int .i64 0, .int .i64 0, .int .i64 0] (range_whole hs m0) (by kernel_rfl) (by kernel_rfl)) rfl ⟨rfl, hs.pack (by repeat (first | with_reducible exact Pack.refl | with_reducible exact Pack.nil | with_reducible refine Pack.cons (by repeat (first | with_reducible exact Pick.here | with_reducible apply Pick.there)) ?_ | with_reducible apply Pack.drop))⟩
    · have hr2 : r = true := by rw [← hr]; simp
      subst hr2
      clear hr
      go_enter Tryd.func42, Tryd.ntmps42
      go_wp2_with (first
        | (guard_target = wpList _ _ _ (⟨some 2, .alloc _, _, _, _, _⟩ :: _) _ _; refine wpl (o := ⟨some 2, .alloc _, _, _, _, _⟩) rfl fun K hK => ?_; go_must (refine op_alloc hs rfl _ zkey [Value.int .i64 0, .int .i64 0, .int .i64 0] rfl fun b2 w1 h => hK _ _ ?_); clear hs hK K; have hs := h; clear h; try dsimp only [List.set] at hs)
        | (have hh : g2 = g2 := rfl; clear hh; go_at_call 41; go_must (refine (H3.out _ _ hs).mono ?_); clear hs; rintro e w1 ⟨rfl, hs⟩)
        | (have hh : g1 = g1 := rfl; clear hh; go_at_call 41; go_must (refine (H2.out _ _ hs).mono ?_); clear hs; rintro e w1 ⟨rfl, hs⟩; have g2 : Box True := ⟨trivial⟩)
        | (go_at_call 41; go_must (refine (H1.out _ _ hs).mono ?_); clear hs; rintro e w1 ⟨rfl, hs⟩; have g1 : Box True := ⟨trivial⟩)
        | (guard_target = wpList _ _ _ (⟨some 14, .alloc _, _, _, _, _⟩ :: _) _ _; refine wpl (o := ⟨some 14, .alloc _, _, _, _, _⟩) rfl fun K hK => ?_; go_must (refine op_alloc hs rfl _ zkey [Value.int .i64 0, .int .i64 0, .int .i64 0] rfl fun b14 w1 h => hK _ _ ?_); clear hs hK K; have hs := h; clear h; try dsimp only [List.set] at hs)
        | (guard_target = wpList _ _ _ (⟨none, .store _ (.tmp 14) _, _, _, _, _⟩ :: _) _ _; refine wpl (o := ⟨none, .store _ (.tmp 14) _, _, _, _, _⟩) rfl fun K hK => ?_; go_must (refine op_store_whole hs (b := b14) rfl rfl [Value.int .i64 (n1 : Nat), .int .i64 (n2 : Nat), .int .i64 (n3 : Nat)] rfl (by simp [Value.oneCell']) (by kernel_rfl) (k := 0) rfl rfl fun w3 h => hK _ _ ?_); clear hs hK K; have hs := h; clear h; try dsimp only [List.set] at hs)
        | (guard_target = wpList _ _ _ (⟨some 51, .load _ _, _, _, _, _⟩ :: _) _ _; refine wpl (o := ⟨some 51, .load _ _, _, _, _, _⟩) rfl fun K hK => op_load_agg rfl (b := b14) (i := 0) rfl ([Value.int .i64 (n1 : Nat), .int .i64 (n2 : Nat), .int .i64 (n3 : Nat)]) (range_whole hs (by (try dsimp only [List.set]); repeat (first | with_reducible exact List.mem_cons_self | with_reducible apply List.mem_cons_of_mem))) (by kernel_rfl) (by kernel_rfl) (hK _ _ ?_); clear hK K)
        | (guard_target = wpList _ _ _ (⟨some 56, .load _ _, _, _, _, _⟩ :: _) _ _; refine wpl (o := ⟨some 56, .load _ _, _, _, _, _⟩) rfl fun K hK => op_load_agg rfl (b := b14) (i := 0) rfl ([Value.int .i64 (n1 : Nat), .int .i64 (n2 : Nat), .int .i64 (n3 : Nat)]) (range_whole hs (by (try dsimp only [List.set]); repeat (first | with_reducible exact List.mem_cons_self | with_reducible apply List.mem_cons_of_mem))) (by kernel_rfl) (by kernel_rfl) (hK _ _ ?_); clear hK K)
        | (go_at_call 61; go_must (refine (HR.out _ _ hs).mono ?_); clear hs; rintro e w1 ⟨rfl, hs⟩)
        | (guard_target = wpList _ _ _ (⟨none, .store _ (.tmp 2) _, _, _, _, _⟩ :: _) _ _; refine wpl (o := ⟨none, .store _ (.tmp 2) _, _, _, _, _⟩) rfl fun K hK => ?_; go_must (refine op_store_whole (hs.pick (A := row b2 [Value.int .i64 0, .int .i64 0, .int .i64 0] 57) (by repeat (first | with_reducible exact Pick.here | with_reducible apply Pick.there))) (b := b2) rfl rfl [Value.int .i64 0, .int .i64 0, .int .i64 0] rfl (by simp [Value.oneCell']) (by kernel_rfl) (k := 0) rfl rfl fun w9 h => hK _ _ ?_); clear hs hK K; have hs := h; clear h; try dsimp only [List.set] at hs))
      exact bodyPost_ret (run_results_cell_tmp3 rfl (b := b2) rfl [.int .i64 0, .int .i64 0, .int .i64 0] (range_whole hs m0) (by kernel_rfl) (by kernel_rfl)) rfl ⟨rfl, hs.pack (by repeat (first | with_reducible exact Pack.refl | with_reducible exact Pack.nil | with_reducible refine Pack.cons (by repeat (first | with_reducible exact Pick.here | with_reducible apply Pick.there)) ?_ | with_reducible apply Pack.drop))⟩
  exact key bad rfl
end Go.Proofs.YthjnefpnnifjiaaDoor
