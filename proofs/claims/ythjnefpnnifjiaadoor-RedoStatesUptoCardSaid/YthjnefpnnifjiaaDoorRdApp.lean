/- Contracts for redo.Apply: Clone, the closure, IndexFunc; and of redo.Graph. -/
import Derived.Test.YthjnefpnnifjiaaDoorRdRise
set_option linter.unusedVariables false
set_option linter.unusedSimpArgs false
namespace Go.Proofs.YthjnefpnnifjiaaDoor
open Go.RowKit
theorem csC_one (l : List RCl) : ∀ v ∈ csC l, v.oneCell' = true := fun v hv => by
  obtain ⟨x, _, hx⟩ := List.mem_flatMap.1 hv
  exact cC_one x v hx
set_option maxRecDepth 100000 in
set_option maxHeartbeats 2000000 in
theorem cloneC_spec (W w : World) (L : List HP) (hs : Sat W w L) (v : Value) (l : List RCl) (hv : Has L (sliceAt v l.length 5 (csC l))) (hn : l.length ≤ 1000000) :
    Calls Tryd.prog 55 #[v] w fun e w' => ∃ v', e = .returned v' ∧ Sat W w' (own v' 59 l.length 5 (csC l) :: L) := by
  obtain ⟨hvl, A, cap, rfl, h1, h2, h3⟩ := hs.slice hv
  have hnil := run_eql_nil (P := Tryd.prog) Tryd.underlying41
  cases A with
  | none =>
    have hl0 : l = [] := by
      rcases h3 with h3 | ⟨b, o, e, _⟩
      · rw [h3] at hvl
        exact List.eq_nil_of_length_eq_zero (by simp at hvl; omega)
      · cases e
    subst hl0
    go_enter Tryd.func55, Tryd.ntmps55
    go_wp2_with fail
    go_ret
    exact ⟨.slice none 0 0, rfl, hs.addNil none 59 5⟩
  | some ad =>
    go_enter Tryd.func55, Tryd.ntmps55
    go_wp2_with (first
      | (guard_target = wpList _ _ _ (⟨some 5, .buildSlice _ _ _, _, _, _, _⟩ :: _) _ _; refine wpl (o := ⟨some 5, .buildSlice _ _ _, _, _, _, _⟩) rfl fun K hK => ?_; go_must (refine op_lit hs rfl Tryd.underlying41 info_cell [] (by omega) (by simp [Instr.fill]) fun b5 w2 h => hK _ _ ?_); clear hs hK K; have hs := h; clear h; try dsimp only [List.set] at hs)
      | (guard_target = wpList _ _ _ (⟨some 7, .call _, _, _, _, _⟩ :: _) _ _; refine wpl (o := ⟨some 7, .call _, _, _, _, _⟩) rfl fun K hK => ?_; go_must (refine op_append_new hs rfl Tryd.underlying41 Tryd.underlying41 info_cell rfl (by omega) rfl (slice_nil _ 5 (Has.mem m0 fun _ _ => trivial)) rfl (hv.tail) (.inr rfl) (by omega) (by omega) fun v7 w2 h => hK _ _ ?_); clear hs hK K; have hs := h; clear h
         rw [Nat.zero_add, List.nil_append] at hs))
    go_ret
    exact ⟨_, rfl, hs.pack (L := own v7 59 l.length 5 (csC l) :: L) (by repeat (first | with_reducible exact Pack.refl | with_reducible exact Pack.nil | with_reducible refine Pack.cons (by repeat (first | with_reducible exact Pick.here | with_reducible apply Pick.there)) ?_ | with_reducible apply Pack.drop))⟩
set_option maxRecDepth 100000 in
set_option maxHeartbeats 1000000 in
theorem notLess_spec (W w : World) (L : List HP) (b6 : Nat) (x : RWr) (hs : Sat W w L) (hm : row b6 (wC x) 61 ∈ L) (c : RCl) :
    Calls Tryd.prog 57 #[.agg (cC c).toArray, .pointer (some ⟨b6, 0, none⟩)] w fun e w' => e = .returned (.bool (!lessK c.k x.k)) ∧ Sat W w' L := by
  have HL := Box.mk (fun w (L : List HP) hs => less_spec W w L hs c.k x.k)
  generalize lessK c.k x.k = q at HL ⊢
  go_enter Tryd.func57, Tryd.ntmps57
  go_wp2_with (first
    | (guard_target = wpList _ _ _ (⟨some 2, .box _ _, _, _, _, _⟩ :: _) _ _; refine wpl (o := ⟨some 2, .box _ _, _, _, _, _⟩) rfl fun K hK => ?_; go_must (refine op_box hs rfl _ rfl (cC c) rfl fun b2 w1 h => hK _ _ ?_); clear hs hK K; have hs := h; clear h; try dsimp only [List.set] at hs)
    | (guard_target = wpList _ _ _ (⟨some 5, .load _ _, _, _, _, _⟩ :: _) _ _; refine wpl (o := ⟨some 5, .load _ _, _, _, _, _⟩) rfl fun K hK => op_load_agg rfl (b := b2) (i := 0) rfl (kC c.k) (range_pre (ds := [.int .i64 c.ts, (.string ⟨(c.v).toArray⟩)]) (range_whole hs (show row b2 (cC c) 59 ∈ _ from (by (try dsimp only [List.set]); repeat (first | with_reducible exact List.mem_cons_self | with_reducible apply List.mem_cons_of_mem))))) (by kernel_rfl) (by kernel_rfl) (hK _ _ ?_); clear hK K)
    | (guard_target = wpList _ _ _ (⟨some 7, .load _ _, _, _, _, _⟩ :: _) _ _; refine wpl (o := ⟨some 7, .load _ _, _, _, _, _⟩) rfl fun K hK => op_load_agg rfl (b := b6) (i := 0) rfl (kC x.k) (range_pre (ds := [(.string ⟨(x.v).toArray⟩)]) (range_whole hs (List.mem_cons_of_mem _ hm))) (by kernel_rfl) (by kernel_rfl) (hK _ _ ?_); clear hK K)
    | (go_at_call 58; go_must (refine (HL.out _ _ hs).mono ?_); clear hs; rintro e w1 ⟨rfl, hs⟩))
  go_ret
  exact ⟨rfl, hs.pack (by repeat (first | with_reducible exact Pack.refl | with_reducible exact Pack.nil | with_reducible refine Pack.cons (by repeat (first | with_reducible exact Pick.here | with_reducible apply Pick.there)) ?_ | with_reducible apply Pack.drop))⟩
/-- Where the first cell stands whose key isn't lower. -/
def idxK (k : RKey) : List RCl → Nat
  | [] => 0
  | c :: t => if lessK c.k k then idxK k t + 1 else 0
theorem idxK_le (k : RKey) : ∀ l, idxK k l ≤ l.length
  | [] => Nat.le_refl _
  | c :: t => by
    rw [idxK]
    split
    · have := idxK_le k t; simp; omega
    · simp
theorem idxK_of (k : RKey) : ∀ (l : List RCl) (i : Nat), i ≤ l.length → (∀ j (h : j < l.length), j < i → lessK l[j].k k = true) → (∀ h : i < l.length, lessK l[i].k k = false) → idxK k l = i
  | [], i, hi, _, _ => by simp at hi; subst hi; rfl
  | c :: t, 0, _, _, h2 => by
    rw [idxK, if_neg]
    have := h2 (by simp)
    simpa using this
  | c :: t, i + 1, hi, h1, h2 => by
    have h0 : lessK c.k k = true := h1 0 (by simp) (by omega)
    rw [idxK, if_pos h0]
    rw [idxK_of k t i (by simpa using hi) (fun j h hj => h1 (j + 1) (by simpa using h) (by omega)) (fun h => h2 (by simpa using h))]
def idxI (k : RKey) (l : List RCl) : Int := if idxK k l < l.length then (idxK k l : Nat) else -1
set_option maxRecDepth 100000 in
set_option maxHeartbeats 2000000 in
theorem indexFunc_spec (W w : World) (L : List HP) (b6 : Nat) (x : RWr) (v : Value) (l : List RCl) (hs : Sat W w L) (hm : row b6 (wC x) 61 ∈ L) (hv : Has L (sliceAt v l.length 5 (csC l))) (hn : l.length ≤ 1000000) :
    Calls Tryd.prog 56 #[v, .func (.func 57) #[] #[.pointer (some ⟨b6, 0, none⟩)]] w fun e w' => e = .returned (.int .i64 (idxI x.k l)) ∧ Sat W w' L := by
  obtain ⟨A, ca, rfl, _, _⟩ := slice_form (hs.slice hv)
  have HV := Box.mk hv
  obtain ⟨r, hr⟩ : ∃ r, idxI x.k l = r := ⟨_, rfl⟩
  rw [hr]
  have HR := Box.mk hr
  clear hv hr
  go_enter Tryd.func56, Tryd.ntmps56
  go_wp2_with fail
  go_loopw [8] (fun v8 wr => ∃ i : Nat, i ≤ l.length ∧ v8 = .int .i64 (i : Nat) ∧ Box (∀ j (h : j < l.length), j < i → lessK l[j].k x.k = true) ∧ Sat W wr L) (fun v8 _ => l.length - (intOf v8).toNat)
  case atStart => exact ⟨0, by omega, rfl, ⟨fun j _ h => by omega⟩, hs⟩
  case round =>
    clear hs
    obtain ⟨i, hi, rfl, hall, hs⟩ := hrel
    by_cases hlt : i < l.length
    · have hltI : (i : Int) < (l.length : Int) := by omega
      obtain ⟨ba, oa, ca', e⟩ := slice_part cC 5 cC_length (by omega) hs HV.out (by omega)
      cases e
      have hr := slice_range cC 5 cC_length hs HV.out i hlt
      obtain ⟨q, hq⟩ : ∃ q, lessK l[i].k x.k = q := ⟨_, rfl⟩
      have hnext : q = true → Box (∀ j (h : j < l.length), j < i + 1 → lessK l[j].k x.k = true) := fun h1 => ⟨fun j h hj => by
        by_cases e : j = i
        · subst e; rw [hq, h1]
        · exact hall.out j h (by omega)⟩
      have hend : q = false → Box (r = (i : Nat)) := fun h1 => ⟨by
        have := idxK_of x.k l i hi hall.out (fun _ => by rw [hq, h1])
        rw [← HR.out]; unfold idxI; rw [this, if_pos hlt]⟩
      have HN := Box.mk hnext
      have HE := Box.mk hend
      have HC := Box.mk (fun w (L : List HP) hs hm => by have := notLess_spec W w L b6 x hs hm l[i]; rw [hq] at this; exact this)
      generalize l[i] = c at hr HC
      clear hq hnext hend hall
      cases q
      · go_wp2_with (first
          | (guard_target = wpList _ _ _ (⟨some 15, .load _ _, _, _, _, _⟩ :: _) _ _; refine wpl (o := ⟨some 15, .load _ _, _, _, _, _⟩) rfl fun K hK => op_load_agg rfl (b := ba) (i := oa + i * 5) rfl (cC c) hr (by kernel_rfl) (by kernel_rfl) (hK _ _ ?_); clear hK K)
          | (go_at_call 57; go_must (refine (HC.out _ _ hs hm).mono ?_); clear hs; rintro e w1 ⟨rfl, hs⟩))
        go_ret
        exact ⟨by rw [(HE.out (by trivial)).out]; rfl, hs⟩
      · go_wp2_with (first
          | (guard_target = wpList _ _ _ (⟨some 15, .load _ _, _, _, _, _⟩ :: _) _ _; refine wpl (o := ⟨some 15, .load _ _, _, _, _, _⟩) rfl fun K hK => op_load_agg rfl (b := ba) (i := oa + i * 5) rfl (cC c) hr (by kernel_rfl) (by kernel_rfl) (hK _ _ ?_); clear hK K)
          | (go_at_call 57; go_must (refine (HC.out _ _ hs hm).mono ?_); clear hs; rintro e w1 ⟨rfl, hs⟩))
        exact ⟨⟨i + 1, by omega, by go_num, HN.out (by trivial), hs⟩, by simp only [intOf]; omega⟩
    · have hltI : ¬ (i : Int) < (l.length : Int) := by omega
      have he : Box (r = -1) := ⟨by
        have := idxK_of x.k l i hi hall.out (fun h => absurd h hlt)
        rw [← HR.out]; unfold idxI; rw [this, if_neg hlt]⟩
      clear hall
      go_wp2_with fail
      go_ret
      exact ⟨by rw [he.out]; rfl, hs⟩
end Go.Proofs.YthjnefpnnifjiaaDoor
