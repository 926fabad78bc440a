/- The walk of the law ValueBack. -/
import Derived.Test.YtgmfgdioaeheoaaDoorValA
set_option linter.unusedVariables false
set_option linter.unusedSimpArgs false
namespace Go.Proofs.YtgmfgdioaeheoaaDoor
open Go.RowKit
theorem same_no {a b : Vl} (h : a ≠ b) : a.same b = false := by
  cases hs : a.same b with
  | false => rfl
  | true => exact absurd ((Vl.same_iff a b).1 hs) h
set_option maxRecDepth 100000 in
set_option maxHeartbeats 8000000 in
theorem valueBack_walk (W w : World) (L : List HP) (hs : Sat W w L) (hold : old W ∈ L) (hm : maxLenIs W) (t n : Int) (s y : List UInt8) (ht : -9223372036854775808 ≤ t ∧ t < 9223372036854775808) (hn : -9223372036854775808 ≤ n ∧ n < 9223372036854775808) (hl : s.length ≤ 1048576) (hy : y.length ≤ 1048576) :
    Calls Tryd.prog 11 #[(.agg #[.int .i64 (t), .int .i64 (n), .string ⟨(s).toArray⟩]), (.string ⟨(y).toArray⟩)] w fun e w' => e = .returned (.bool true) ∧ Sat W w' L := by
  have HM := Box.mk hm
  clear hm
  have hpl := putB_len ⟨t, n, s⟩
  dsimp only at hpl
  have hback : mayB ⟨t, n, s⟩ = true → takeV (putB ⟨t, n, s⟩ ++ y) = some (⟨t, n, s⟩, y) := fun h => takeV_put (v := ⟨t, n, s⟩) ⟨ht, hn, by show s.length ≤ _; omega⟩ h y
  obtain ⟨p, hpB⟩ : ∃ p, putB ⟨t, n, s⟩ = p := ⟨_, rfl⟩
  rw [hpB] at hpl hback
  obtain ⟨K, hK⟩ : ∃ K, p ++ y = K := ⟨_, rfl⟩
  have hKl : K.length ≤ 1073741824 := by rw [← hK, List.length_append]; omega
  have hcat := str_app' p y K hK
  have hcat2 : ¬ 9223372036854775807 < p.length + y.length := by omega
  rw [hK] at hback
  have HB := Box.mk hpB
  clear hpB hK hpl
  by_cases hmay : mayB ⟨t, n, s⟩ = true
  · have HT : Box (tvV (takeV K) = .tuple #[(.agg #[.int .i64 (t), .int .i64 (n), .string ⟨(s).toArray⟩]), (.string ⟨(y).toArray⟩), .int .i64 0]) := ⟨by rw [hback hmay]; rfl⟩
    have HMAY := Box.mk hmay
    have he := run_eql_val t n t n s s
    rw [(Vl.same_iff _ _).2 rfl] at he
    clear hback hmay
    go_enter Tryd.func11, Tryd.ntmps11
    go_wp2_with (first
      | (guard_target = wpList _ _ _ (⟨some 2, .box _ _, _, _, _, _⟩ :: _) _ _; refine wpl (o := ⟨some 2, .box _ _, _, _, _, _⟩) rfl fun K hK => ?_; go_must (refine op_box hs rfl _ rfl [.int .i64 (t), .int .i64 (n), .string ⟨(s).toArray⟩] rfl fun b2 w1 h => hK _ _ ?_); clear hs hK K; have hs := h; clear h; try dsimp only [List.set] at hs)
      | (go_at_call 28; go_must (refine (awake3_spec W _ _ hs (by repeat (first | exact hold | apply List.mem_cons_of_mem)) HM.out).mono ?_); clear hs; rintro e w1 ⟨rfl, hs⟩)
      | (guard_target = wpList _ _ _ (⟨some 11, .load _ _, _, _, _, _⟩ :: _) _ _; refine wpl (o := ⟨some 11, .load _ _, _, _, _, _⟩) rfl fun K hK => op_load_agg rfl (b := b2) (i := 0) rfl ([.int .i64 (t), .int .i64 (n), .string ⟨(s).toArray⟩]) (range_whole hs (by (try dsimp only [List.set]); repeat (first | with_reducible exact List.mem_cons_self | with_reducible apply List.mem_cons_of_mem))) (by kernel_rfl) (by kernel_rfl) (hK _ _ ?_); clear hK K)
      | (go_at_call 31; go_must (refine (put_spec W _ _ hs (by repeat (first | exact hold | apply List.mem_cons_of_mem)) HM.out t n s (by omega) ht hn).mono ?_); clear hs; rintro e w1 ⟨rfl, hs⟩; rw [HB.out])
      | (go_at_call 35; go_must (refine (take_spec W _ _ hs (by repeat (first | exact hold | apply List.mem_cons_of_mem)) HM.out K hKl).mono ?_); clear hs; rintro e w1 ⟨rfl, hs⟩; rw [HT.out])
      | (guard_target = wpList _ _ _ (⟨some 6, .alloc _, _, _, _, _⟩ :: _) _ _; refine wpl (o := ⟨some 6, .alloc _, _, _, _, _⟩) rfl fun K hK => ?_; go_must (refine op_alloc hs rfl _ zval [.int .i64 (0), .int .i64 (0), .string ⟨([]).toArray⟩] rfl fun b6 w1 h => hK _ _ ?_); clear hs hK K; have hs := h; clear h; try dsimp only [List.set] at hs)
      | (guard_target = wpList _ _ _ (⟨none, .store _ (.tmp 6) _, _, _, _, _⟩ :: _) _ _; refine wpl (o := ⟨none, .store _ (.tmp 6) _, _, _, _, _⟩) rfl fun K hK => ?_; go_must (refine op_store_whole (hs.pick (A := row b6 [.int .i64 (0), .int .i64 (0), .string ⟨([]).toArray⟩] 48) (by repeat (first | with_reducible exact Pick.here | with_reducible apply Pick.there))) (b := b6) rfl rfl [.int .i64 (t), .int .i64 (n), .string ⟨(s).toArray⟩] rfl (val_one _ _ _) (by kernel_rfl) (k := 0) rfl rfl fun w3 h => hK _ _ ?_); clear hs hK K; have hs := h; clear h; try dsimp only [List.set] at hs)
      | (guard_target = wpList _ _ _ (⟨some 19, .load _ _, _, _, _, _⟩ :: _) _ _; refine wpl (o := ⟨some 19, .load _ _, _, _, _, _⟩) rfl fun K hK => op_load_agg rfl (b := b2) (i := 0) rfl ([.int .i64 (t), .int .i64 (n), .string ⟨(s).toArray⟩]) (range_whole hs (by (try dsimp only [List.set]); repeat (first | with_reducible exact List.mem_cons_self | with_reducible apply List.mem_cons_of_mem))) (by kernel_rfl) (by kernel_rfl) (hK _ _ ?_); clear hK K)
      | (go_at_call 29; go_must (refine (may_spec W _ _ hs t n s (by omega) hn).mono ?_); clear hs; rintro e w1 ⟨rfl, hs⟩; rw [HMAY.out])
      | (guard_target = wpList _ _ _ (⟨some 38, .load _ _, _, _, _, _⟩ :: _) _ _; refine wpl (o := ⟨some 38, .load _ _, _, _, _, _⟩) rfl fun K hK => op_load_agg rfl (b := b6) (i := 0) rfl ([.int .i64 (t), .int .i64 (n), .string ⟨(s).toArray⟩]) (range_whole hs (by (try dsimp only [List.set]); repeat (first | with_reducible exact List.mem_cons_self | with_reducible apply List.mem_cons_of_mem))) (by kernel_rfl) (by kernel_rfl) (hK _ _ ?_); clear hK K)
      | (guard_target = wpList _ _ _ (⟨some 39, .load _ _, _, _, _, _⟩ :: _) _ _; refine wpl (o := ⟨some 39, .load _ _, _, _, _, _⟩) rfl fun K hK => op_load_agg rfl (b := b2) (i := 0) rfl ([.int .i64 (t), .int .i64 (n), .string ⟨(s).toArray⟩]) (range_whole hs (by (try dsimp only [List.set]); repeat (first | with_reducible exact List.mem_cons_self | with_reducible apply List.mem_cons_of_mem))) (by kernel_rfl) (by kernel_rfl) (hK _ _ ?_); clear hK K))
    go_ret
    exact ⟨rfl, hs.pack (by repeat (first | with_reducible exact Pack.refl | with_reducible exact Pack.nil | with_reducible refine Pack.cons (by repeat (first | with_reducible exact Pick.here | with_reducible apply Pick.there)) ?_ | with_reducible apply Pack.drop))⟩
  · have hmayf : mayB ⟨t, n, s⟩ = false := by simpa using hmay
    have HMAY := Box.mk hmayf
    clear hback
    cases hk : takeV K with
    | none =>
      have HT : Box (tvV (takeV K) = .tuple #[(.agg #[.int .i64 (0), .int .i64 (0), .string ⟨([]).toArray⟩]), (.string ⟨(([] : List UInt8)).toArray⟩), .int .i64 2]) := ⟨by rw [hk]; rfl⟩
      clear hk hmay hmayf
      go_enter Tryd.func11, Tryd.ntmps11
      go_wp2_with (first
        | (guard_target = wpList _ _ _ (⟨some 2, .box _ _, _, _, _, _⟩ :: _) _ _; refine wpl (o := ⟨some 2, .box _ _, _, _, _, _⟩) rfl fun K hK => ?_; go_must (refine op_box hs rfl _ rfl [.int .i64 (t), .int .i64 (n), .string ⟨(s).toArray⟩] rfl fun b2 w1 h => hK _ _ ?_); clear hs hK K; have hs := h; clear h; try dsimp only [List.set] at hs)
        | (go_at_call 28; go_must (refine (awake3_spec W _ _ hs (by repeat (first | exact hold | apply List.mem_cons_of_mem)) HM.out).mono ?_); clear hs; rintro e w1 ⟨rfl, hs⟩)
        | (guard_target = wpList _ _ _ (⟨some 11, .load _ _, _, _, _, _⟩ :: _) _ _; refine wpl (o := ⟨some 11, .load _ _, _, _, _, _⟩) rfl fun K hK => op_load_agg rfl (b := b2) (i := 0) rfl ([.int .i64 (t), .int .i64 (n), .string ⟨(s).toArray⟩]) (range_whole hs (by (try dsimp only [List.set]); repeat (first | with_reducible exact List.mem_cons_self | with_reducible apply List.mem_cons_of_mem))) (by kernel_rfl) (by kernel_rfl) (hK _ _ ?_); clear hK K)
        | (go_at_call 31; go_must (refine (put_spec W _ _ hs (by repeat (first | exact hold | apply List.mem_cons_of_mem)) HM.out t n s (by omega) ht hn).mono ?_); clear hs; rintro e w1 ⟨rfl, hs⟩; rw [HB.out])
        | (go_at_call 35; go_must (refine (take_spec W _ _ hs (by repeat (first | exact hold | apply List.mem_cons_of_mem)) HM.out K hKl).mono ?_); clear hs; rintro e w1 ⟨rfl, hs⟩; rw [HT.out])
        | (guard_target = wpList _ _ _ (⟨some 6, .alloc _, _, _, _, _⟩ :: _) _ _; refine wpl (o := ⟨some 6, .alloc _, _, _, _, _⟩) rfl fun K hK => ?_; go_must (refine op_alloc hs rfl _ zval [.int .i64 (0), .int .i64 (0), .string ⟨([]).toArray⟩] rfl fun b6 w1 h => hK _ _ ?_); clear hs hK K; have hs := h; clear h; try dsimp only [List.set] at hs)
        | (guard_target = wpList _ _ _ (⟨none, .store _ (.tmp 6) _, _, _, _, _⟩ :: _) _ _; refine wpl (o := ⟨none, .store _ (.tmp 6) _, _, _, _, _⟩) rfl fun K hK => ?_; go_must (refine op_store_whole (hs.pick (A := row b6 [.int .i64 (0), .int .i64 (0), .string ⟨([]).toArray⟩] 48) (by repeat (first | with_reducible exact Pick.here | with_reducible apply Pick.there))) (b := b6) rfl rfl [.int .i64 (0), .int .i64 (0), .string ⟨([]).toArray⟩] rfl (val_one _ _ _) (by kernel_rfl) (k := 0) rfl rfl fun w3 h => hK _ _ ?_); clear hs hK K; have hs := h; clear h; try dsimp only [List.set] at hs)
        | (guard_target = wpList _ _ _ (⟨some 19, .load _ _, _, _, _, _⟩ :: _) _ _; refine wpl (o := ⟨some 19, .load _ _, _, _, _, _⟩) rfl fun K hK => op_load_agg rfl (b := b2) (i := 0) rfl ([.int .i64 (t), .int .i64 (n), .string ⟨(s).toArray⟩]) (range_whole hs (by (try dsimp only [List.set]); repeat (first | with_reducible exact List.mem_cons_self | with_reducible apply List.mem_cons_of_mem))) (by kernel_rfl) (by kernel_rfl) (hK _ _ ?_); clear hK K)
        | (go_at_call 29; go_must (refine (may_spec W _ _ hs t n s (by omega) hn).mono ?_); clear hs; rintro e w1 ⟨rfl, hs⟩; rw [HMAY.out]))
      go_ret
      exact ⟨rfl, hs.pack (by repeat (first | with_reducible exact Pack.refl | with_reducible exact Pack.nil | with_reducible refine Pack.cons (by repeat (first | with_reducible exact Pick.here | with_reducible apply Pick.there)) ?_ | with_reducible apply Pack.drop))⟩
    | some z =>
      obtain ⟨⟨t', n', s'⟩, x⟩ := z
      have HT : Box (tvV (takeV K) = .tuple #[(.agg #[.int .i64 (t'), .int .i64 (n'), .string ⟨(s').toArray⟩]), (.string ⟨(x).toArray⟩), .int .i64 0]) := ⟨by rw [hk]; rfl⟩
      have hne : (⟨t', n', s'⟩ : Vl) ≠ ⟨t, n, s⟩ := fun e => by
        have := (takeV_very hk).1
        rw [e, hmayf] at this; cases this
      have he := run_eql_val t' n' t n s' s
      rw [same_no hne] at he
      clear hk hmay hmayf hne
      go_enter Tryd.func11, Tryd.ntmps11
      go_wp2_with (first
        | (guard_target = wpList _ _ _ (⟨some 2, .box _ _, _, _, _, _⟩ :: _) _ _; refine wpl (o := ⟨some 2, .box _ _, _, _, _, _⟩) rfl fun K hK => ?_; go_must (refine op_box hs rfl _ rfl [.int .i64 (t), .int .i64 (n), .string ⟨(s).toArray⟩] rfl fun b2 w1 h => hK _ _ ?_); clear hs hK K; have hs := h; clear h; try dsimp only [List.set] at hs)
        | (go_at_call 28; go_must (refine (awake3_spec W _ _ hs (by repeat (first | exact hold | apply List.mem_cons_of_mem)) HM.out).mono ?_); clear hs; rintro e w1 ⟨rfl, hs⟩)
        | (guard_target = wpList _ _ _ (⟨some 11, .load _ _, _, _, _, _⟩ :: _) _ _; refine wpl (o := ⟨some 11, .load _ _, _, _, _, _⟩) rfl fun K hK => op_load_agg rfl (b := b2) (i := 0) rfl ([.int .i64 (t), .int .i64 (n), .string ⟨(s).toArray⟩]) (range_whole hs (by (try dsimp only [List.set]); repeat (first | with_reducible exact List.mem_cons_self | with_reducible apply List.mem_cons_of_mem))) (by kernel_rfl) (by kernel_rfl) (hK _ _ ?_); clear hK K)
        | (go_at_call 31; go_must (refine (put_spec W _ _ hs (by repeat (first | exact hold | apply List.mem_cons_of_mem)) HM.out t n s (by omega) ht hn).mono ?_); clear hs; rintro e w1 ⟨rfl, hs⟩; rw [HB.out])
        | (go_at_call 35; go_must (refine (take_spec W _ _ hs (by repeat (first | exact hold | apply List.mem_cons_of_mem)) HM.out K hKl).mono ?_); clear hs; rintro e w1 ⟨rfl, hs⟩; rw [HT.out])
        | (guard_target = wpList _ _ _ (⟨some 6, .alloc _, _, _, _, _⟩ :: _) _ _; refine wpl (o := ⟨some 6, .alloc _, _, _, _, _⟩) rfl fun K hK => ?_; go_must (refine op_alloc hs rfl _ zval [.int .i64 (0), .int .i64 (0), .string ⟨([]).toArray⟩] rfl fun b6 w1 h => hK _ _ ?_); clear hs hK K; have hs := h; clear h; try dsimp only [List.set] at hs)
        | (guard_target = wpList _ _ _ (⟨none, .store _ (.tmp 6) _, _, _, _, _⟩ :: _) _ _; refine wpl (o := ⟨none, .store _ (.tmp 6) _, _, _, _, _⟩) rfl fun K hK => ?_; go_must (refine op_store_whole (hs.pick (A := row b6 [.int .i64 (0), .int .i64 (0), .string ⟨([]).toArray⟩] 48) (by repeat (first | with_reducible exact Pick.here | with_reducible apply Pick.there))) (b := b6) rfl rfl [.int .i64 (t'), .int .i64 (n'), .string ⟨(s').toArray⟩] rfl (val_one _ _ _) (by kernel_rfl) (k := 0) rfl rfl fun w3 h => hK _ _ ?_); clear hs hK K; have hs := h; clear h; try dsimp only [List.set] at hs)
        | (guard_target = wpList _ _ _ (⟨some 19, .load _ _, _, _, _, _⟩ :: _) _ _; refine wpl (o := ⟨some 19, .load _ _, _, _, _, _⟩) rfl fun K hK => op_load_agg rfl (b := b2) (i := 0) rfl ([.int .i64 (t), .int .i64 (n), .string ⟨(s).toArray⟩]) (range_whole hs (by (try dsimp only [List.set]); repeat (first | with_reducible exact List.mem_cons_self | with_reducible apply List.mem_cons_of_mem))) (by kernel_rfl) (by kernel_rfl) (hK _ _ ?_); clear hK K)
        | (go_at_call 29; go_must (refine (may_spec W _ _ hs t n s (by omega) hn).mono ?_); clear hs; rintro e w1 ⟨rfl, hs⟩; rw [HMAY.out])
        | (guard_target = wpList _ _ _ (⟨some 27, .load _ _, _, _, _, _⟩ :: _) _ _; refine wpl (o := ⟨some 27, .load _ _, _, _, _, _⟩) rfl fun K hK => op_load_agg rfl (b := b6) (i := 0) rfl ([.int .i64 (t'), .int .i64 (n'), .string ⟨(s').toArray⟩]) (range_whole hs (by (try dsimp only [List.set]); repeat (first | with_reducible exact List.mem_cons_self | with_reducible apply List.mem_cons_of_mem))) (by kernel_rfl) (by kernel_rfl) (hK _ _ ?_); clear hK K)
        | (guard_target = wpList _ _ _ (⟨some 28, .load _ _, _, _, _, _⟩ :: _) _ _; refine wpl (o := ⟨some 28, .load _ _, _, _, _, _⟩) rfl fun K hK => op_load_agg rfl (b := b2) (i := 0) rfl ([.int .i64 (t), .int .i64 (n), .string ⟨(s).toArray⟩]) (range_whole hs (by (try dsimp only [List.set]); repeat (first | with_reducible exact List.mem_cons_self | with_reducible apply List.mem_cons_of_mem))) (by kernel_rfl) (by kernel_rfl) (hK _ _ ?_); clear hK K))
      go_ret
      exact ⟨rfl, hs.pack (by repeat (first | with_reducible exact Pack.refl | with_reducible exact Pack.nil | with_reducible refine Pack.cons (by repeat (first | with_reducible exact Pick.here | with_reducible apply Pick.there)) ?_ | with_reducible apply Pack.drop))⟩
theorem valueBack_main (W : World) (hm : maxLenIs W) (v : Vl) (cs : List Value) (h0 : valKin.K (hp W) v cs) (l : List UInt8) (v1 : Value) (h1 : strU.K (hp W) l [v1]) :
    Calls Tryd.prog 11 #[.agg cs.toArray, v1] W fun e w' => e = .returned (.bool true) ∧ Below W.heap.size W w' := by
  obtain ⟨ht, hn, hl, rfl⟩ := val_val h0
  obtain ⟨hy, rfl⟩ := str_val h1
  exact (valueBack_walk W W _ (Sat.start W) m0 hm v.t v.n v.s l ht hn hl hy).mono fun e w' ⟨he, hs⟩ => ⟨he, hs.end_ m0⟩
end Go.Proofs.YtgmfgdioaeheoaaDoor
