/- Less and Ordered of the reference; the law's made and real. -/
import Derived.Test.YthjnefpnnifjiaaDoorRdApp
set_option linter.unusedVariables false
set_option linter.unusedSimpArgs false
namespace Go.Proofs.YthjnefpnnifjiaaDoor
open Go.RowKit
set_option maxRecDepth 100000 in
set_option maxHeartbeats 2000000 in
theorem rless_spec (W w : World) (L : List HP) (hs : Sat W w L) (x y : RKey) :
    Calls Tryd.prog 44 #[.agg (kC x).toArray, .agg (kC y).toArray] w fun e w' => e = .returned (.bool (lessK x y)) ∧ Sat W w' L := by
  unfold lessK
  by_cases h1 : x.kind = y.kind
  · rw [if_neg (by simpa using h1)]
    by_cases h2 : x.a = y.a
    · rw [if_neg (by simpa using h2)]
      go_enter Tryd.func44, Tryd.ntmps44
      go_wp2_with (first
        | (guard_target = wpList _ _ _ (⟨some 2, .box _ _, _, _, _, _⟩ :: _) _ _; refine wpl (o := ⟨some 2, .box _ _, _, _, _, _⟩) rfl fun K hK => ?_; go_must (refine op_box hs rfl _ rfl (kC x) rfl fun b2 w1 h => hK _ _ ?_); clear hs hK K; have hs := h; clear h; try dsimp only [List.set] at hs)
        | (guard_target = wpList _ _ _ (⟨some 3, .box _ _, _, _, _, _⟩ :: _) _ _; refine wpl (o := ⟨some 3, .box _ _, _, _, _, _⟩) rfl fun K hK => ?_; go_must (refine op_box hs rfl _ rfl (kC y) rfl fun b3 w1 h => hK _ _ ?_); clear hs hK K; have hs := h; clear h; try dsimp only [List.set] at hs)
        | (guard_target = wpList _ _ _ (⟨some 6, .load _ _, _, _, _, _⟩ :: _) _ _; refine wpl (o := ⟨some 6, .load _ _, _, _, _, _⟩) rfl fun K hK => op_load rfl (ad := ⟨b2, 0, none⟩) rfl (by kernel_rfl) (hs.cell (l := kC x) (t := 57) (by (try dsimp only [List.set]); repeat (first | with_reducible exact List.mem_cons_self | with_reducible apply List.mem_cons_of_mem)) rfl) (hK _ _ ?_); clear hK K)
        | (guard_target = wpList _ _ _ (⟨some 8, .load _ _, _, _, _, _⟩ :: _) _ _; refine wpl (o := ⟨some 8, .load _ _, _, _, _, _⟩) rfl fun K hK => op_load rfl (ad := ⟨b3, 0, none⟩) rfl (by kernel_rfl) (hs.cell (l := kC y) (t := 57) (by (try dsimp only [List.set]); repeat (first | with_reducible exact List.mem_cons_self | with_reducible apply List.mem_cons_of_mem)) rfl) (hK _ _ ?_); clear hK K)
        | (guard_target = wpList _ _ _ (⟨some 11, .load _ _, _, _, _, _⟩ :: _) _ _; refine wpl (o := ⟨some 11, .load _ _, _, _, _, _⟩) rfl fun K hK => op_load rfl (ad := ⟨b2, 0, none⟩) rfl (by kernel_rfl) (hs.cell (l := kC x) (t := 57) (by (try dsimp only [List.set]); repeat (first | with_reducible exact List.mem_cons_self | with_reducible apply List.mem_cons_of_mem)) rfl) (hK _ _ ?_); clear hK K)
        | (guard_target = wpList _ _ _ (⟨some 13, .load _ _, _, _, _, _⟩ :: _) _ _; refine wpl (o := ⟨some 13, .load _ _, _, _, _, _⟩) rfl fun K hK => op_load rfl (ad := ⟨b3, 0, none⟩) rfl (by kernel_rfl) (hs.cell (l := kC y) (t := 57) (by (try dsimp only [List.set]); repeat (first | with_reducible exact List.mem_cons_self | with_reducible apply List.mem_cons_of_mem)) rfl) (hK _ _ ?_); clear hK K)
        | (guard_target = wpList _ _ _ (⟨some 16, .load _ _, _, _, _, _⟩ :: _) _ _; refine wpl (o := ⟨some 16, .load _ _, _, _, _, _⟩) rfl fun K hK => op_load rfl (ad := ⟨b2, 1, none⟩) rfl (by kernel_rfl) (hs.cell (l := kC x) (t := 57) (by (try dsimp only [List.set]); repeat (first | with_reducible exact List.mem_cons_self | with_reducible apply List.mem_cons_of_mem)) rfl) (hK _ _ ?_); clear hK K)
        | (guard_target = wpList _ _ _ (⟨some 18, .load _ _, _, _, _, _⟩ :: _) _ _; refine wpl (o := ⟨some 18, .load _ _, _, _, _, _⟩) rfl fun K hK => op_load rfl (ad := ⟨b3, 1, none⟩) rfl (by kernel_rfl) (hs.cell (l := kC y) (t := 57) (by (try dsimp only [List.set]); repeat (first | with_reducible exact List.mem_cons_self | with_reducible apply List.mem_cons_of_mem)) rfl) (hK _ _ ?_); clear hK K)
        | (guard_target = wpList _ _ _ (⟨some 21, .load _ _, _, _, _, _⟩ :: _) _ _; refine wpl (o := ⟨some 21, .load _ _, _, _, _, _⟩) rfl fun K hK => op_load rfl (ad := ⟨b2, 1, none⟩) rfl (by kernel_rfl) (hs.cell (l := kC x) (t := 57) (by (try dsimp only [List.set]); repeat (first | with_reducible exact List.mem_cons_self | with_reducible apply List.mem_cons_of_mem)) rfl) (hK _ _ ?_); clear hK K)
        | (guard_target = wpList _ _ _ (⟨some 23, .load _ _, _, _, _, _⟩ :: _) _ _; refine wpl (o := ⟨some 23, .load _ _, _, _, _, _⟩) rfl fun K hK => op_load rfl (ad := ⟨b3, 1, none⟩) rfl (by kernel_rfl) (hs.cell (l := kC y) (t := 57) (by (try dsimp only [List.set]); repeat (first | with_reducible exact List.mem_cons_self | with_reducible apply List.mem_cons_of_mem)) rfl) (hK _ _ ?_); clear hK K)
        | (guard_target = wpList _ _ _ (⟨some 26, .load _ _, _, _, _, _⟩ :: _) _ _; refine wpl (o := ⟨some 26, .load _ _, _, _, _, _⟩) rfl fun K hK => op_load rfl (ad := ⟨b2, 2, none⟩) rfl (by kernel_rfl) (hs.cell (l := kC x) (t := 57) (by (try dsimp only [List.set]); repeat (first | with_reducible exact List.mem_cons_self | with_reducible apply List.mem_cons_of_mem)) rfl) (hK _ _ ?_); clear hK K)
        | (guard_target = wpList _ _ _ (⟨some 28, .load _ _, _, _, _, _⟩ :: _) _ _; refine wpl (o := ⟨some 28, .load _ _, _, _, _, _⟩) rfl fun K hK => op_load rfl (ad := ⟨b3, 2, none⟩) rfl (by kernel_rfl) (hs.cell (l := kC y) (t := 57) (by (try dsimp only [List.set]); repeat (first | with_reducible exact List.mem_cons_self | with_reducible apply List.mem_cons_of_mem)) rfl) (hK _ _ ?_); clear hK K))
      go_ret
      exact ⟨rfl, hs.pack (by repeat (first | with_reducible exact Pack.refl | with_reducible exact Pack.nil | with_reducible refine Pack.cons (by repeat (first | with_reducible exact Pick.here | with_reducible apply Pick.there)) ?_ | with_reducible apply Pack.drop))⟩
    · rw [if_pos h2]
      go_enter Tryd.func44, Tryd.ntmps44
      go_wp2_with (first
        | (guard_target = wpList _ _ _ (⟨some 2, .box _ _, _, _, _, _⟩ :: _) _ _; refine wpl (o := ⟨some 2, .box _ _, _, _, _, _⟩) rfl fun K hK => ?_; go_must (refine op_box hs rfl _ rfl (kC x) rfl fun b2 w1 h => hK _ _ ?_); clear hs hK K; have hs := h; clear h; try dsimp only [List.set] at hs)
        | (guard_target = wpList _ _ _ (⟨some 3, .box _ _, _, _, _, _⟩ :: _) _ _; refine wpl (o := ⟨some 3, .box _ _, _, _, _, _⟩) rfl fun K hK => ?_; go_must (refine op_box hs rfl _ rfl (kC y) rfl fun b3 w1 h => hK _ _ ?_); clear hs hK K; have hs := h; clear h; try dsimp only [List.set] at hs)
        | (guard_target = wpList _ _ _ (⟨some 6, .load _ _, _, _, _, _⟩ :: _) _ _; refine wpl (o := ⟨some 6, .load _ _, _, _, _, _⟩) rfl fun K hK => op_load rfl (ad := ⟨b2, 0, none⟩) rfl (by kernel_rfl) (hs.cell (l := kC x) (t := 57) (by (try dsimp only [List.set]); repeat (first | with_reducible exact List.mem_cons_self | with_reducible apply List.mem_cons_of_mem)) rfl) (hK _ _ ?_); clear hK K)
        | (guard_target = wpList _ _ _ (⟨some 8, .load _ _, _, _, _, _⟩ :: _) _ _; refine wpl (o := ⟨some 8, .load _ _, _, _, _, _⟩) rfl fun K hK => op_load rfl (ad := ⟨b3, 0, none⟩) rfl (by kernel_rfl) (hs.cell (l := kC y) (t := 57) (by (try dsimp only [List.set]); repeat (first | with_reducible exact List.mem_cons_self | with_reducible apply List.mem_cons_of_mem)) rfl) (hK _ _ ?_); clear hK K)
        | (guard_target = wpList _ _ _ (⟨some 11, .load _ _, _, _, _, _⟩ :: _) _ _; refine wpl (o := ⟨some 11, .load _ _, _, _, _, _⟩) rfl fun K hK => op_load rfl (ad := ⟨b2, 0, none⟩) rfl (by kernel_rfl) (hs.cell (l := kC x) (t := 57) (by (try dsimp only [List.set]); repeat (first | with_reducible exact List.mem_cons_self | with_reducible apply List.mem_cons_of_mem)) rfl) (hK _ _ ?_); clear hK K)
        | (guard_target = wpList _ _ _ (⟨some 13, .load _ _, _, _, _, _⟩ :: _) _ _; refine wpl (o := ⟨some 13, .load _ _, _, _, _, _⟩) rfl fun K hK => op_load rfl (ad := ⟨b3, 0, none⟩) rfl (by kernel_rfl) (hs.cell (l := kC y) (t := 57) (by (try dsimp only [List.set]); repeat (first | with_reducible exact List.mem_cons_self | with_reducible apply List.mem_cons_of_mem)) rfl) (hK _ _ ?_); clear hK K)
        | (guard_target = wpList _ _ _ (⟨some 16, .load _ _, _, _, _, _⟩ :: _) _ _; refine wpl (o := ⟨some 16, .load _ _, _, _, _, _⟩) rfl fun K hK => op_load rfl (ad := ⟨b2, 1, none⟩) rfl (by kernel_rfl) (hs.cell (l := kC x) (t := 57) (by (try dsimp only [List.set]); repeat (first | with_reducible exact List.mem_cons_self | with_reducible apply List.mem_cons_of_mem)) rfl) (hK _ _ ?_); clear hK K)
        | (guard_target = wpList _ _ _ (⟨some 18, .load _ _, _, _, _, _⟩ :: _) _ _; refine wpl (o := ⟨some 18, .load _ _, _, _, _, _⟩) rfl fun K hK => op_load rfl (ad := ⟨b3, 1, none⟩) rfl (by kernel_rfl) (hs.cell (l := kC y) (t := 57) (by (try dsimp only [List.set]); repeat (first | with_reducible exact List.mem_cons_self | with_reducible apply List.mem_cons_of_mem)) rfl) (hK _ _ ?_); clear hK K)
        | (guard_target = wpList _ _ _ (⟨some 21, .load _ _, _, _, _, _⟩ :: _) _ _; refine wpl (o := ⟨some 21, .load _ _, _, _, _, _⟩) rfl fun K hK => op_load rfl (ad := ⟨b2, 1, none⟩) rfl (by kernel_rfl) (hs.cell (l := kC x) (t := 57) (by (try dsimp only [List.set]); repeat (first | with_reducible exact List.mem_cons_self | with_reducible apply List.mem_cons_of_mem)) rfl) (hK _ _ ?_); clear hK K)
        | (guard_target = wpList _ _ _ (⟨some 23, .load _ _, _, _, _, _⟩ :: _) _ _; refine wpl (o := ⟨some 23, .load _ _, _, _, _, _⟩) rfl fun K hK => op_load rfl (ad := ⟨b3, 1, none⟩) rfl (by kernel_rfl) (hs.cell (l := kC y) (t := 57) (by (try dsimp only [List.set]); repeat (first | with_reducible exact List.mem_cons_self | with_reducible apply List.mem_cons_of_mem)) rfl) (hK _ _ ?_); clear hK K)
        | (guard_target = wpList _ _ _ (⟨some 26, .load _ _, _, _, _, _⟩ :: _) _ _; refine wpl (o := ⟨some 26, .load _ _, _, _, _, _⟩) rfl fun K hK => op_load rfl (ad := ⟨b2, 2, none⟩) rfl (by kernel_rfl) (hs.cell (l := kC x) (t := 57) (by (try dsimp only [List.set]); repeat (first | with_reducible exact List.mem_cons_self | with_reducible apply List.mem_cons_of_mem)) rfl) (hK _ _ ?_); clear hK K)
        | (guard_target = wpList _ _ _ (⟨some 28, .load _ _, _, _, _, _⟩ :: _) _ _; refine wpl (o := ⟨some 28, .load _ _, _, _, _, _⟩) rfl fun K hK => op_load rfl (ad := ⟨b3, 2, none⟩) rfl (by kernel_rfl) (hs.cell (l := kC y) (t := 57) (by (try dsimp only [List.set]); repeat (first | with_reducible exact List.mem_cons_self | with_reducible apply List.mem_cons_of_mem)) rfl) (hK _ _ ?_); clear hK K))
      go_ret
      exact ⟨rfl, hs.pack (by repeat (first | with_reducible exact Pack.refl | with_reducible exact Pack.nil | with_reducible refine Pack.cons (by repeat (first | with_reducible exact Pick.here | with_reducible apply Pick.there)) ?_ | with_reducible apply Pack.drop))⟩
  · rw [if_pos h1]
    go_enter Tryd.func44, Tryd.ntmps44
    go_wp2_with (first
      | (guard_target = wpList _ _ _ (⟨some 2, .box _ _, _, _, _, _⟩ :: _) _ _; refine wpl (o := ⟨some 2, .box _ _, _, _, _, _⟩) rfl fun K hK => ?_; go_must (refine op_box hs rfl _ rfl (kC x) rfl fun b2 w1 h => hK _ _ ?_); clear hs hK K; have hs := h; clear h; try dsimp only [List.set] at hs)
      | (guard_target = wpList _ _ _ (⟨some 3, .box _ _, _, _, _, _⟩ :: _) _ _; refine wpl (o := ⟨some 3, .box _ _, _, _, _, _⟩) rfl fun K hK => ?_; go_must (refine op_box hs rfl _ rfl (kC y) rfl fun b3 w1 h => hK _ _ ?_); clear hs hK K; have hs := h; clear h; try dsimp only [List.set] at hs)
      | (guard_target = wpList _ _ _ (⟨some 6, .load _ _, _, _, _, _⟩ :: _) _ _; refine wpl (o := ⟨some 6, .load _ _, _, _, _, _⟩) rfl fun K hK => op_load rfl (ad := ⟨b2, 0, none⟩) rfl (by kernel_rfl) (hs.cell (l := kC x) (t := 57) (by (try dsimp only [List.set]); repeat (first | with_reducible exact List.mem_cons_self | with_reducible apply List.mem_cons_of_mem)) rfl) (hK _ _ ?_); clear hK K)
      | (guard_target = wpList _ _ _ (⟨some 8, .load _ _, _, _, _, _⟩ :: _) _ _; refine wpl (o := ⟨some 8, .load _ _, _, _, _, _⟩) rfl fun K hK => op_load rfl (ad := ⟨b3, 0, none⟩) rfl (by kernel_rfl) (hs.cell (l := kC y) (t := 57) (by (try dsimp only [List.set]); repeat (first | with_reducible exact List.mem_cons_self | with_reducible apply List.mem_cons_of_mem)) rfl) (hK _ _ ?_); clear hK K)
      | (guard_target = wpList _ _ _ (⟨some 11, .load _ _, _, _, _, _⟩ :: _) _ _; refine wpl (o := ⟨some 11, .load _ _, _, _, _, _⟩) rfl fun K hK => op_load rfl (ad := ⟨b2, 0, none⟩) rfl (by kernel_rfl) (hs.cell (l := kC x) (t := 57) (by (try dsimp only [List.set]); repeat (first | with_reducible exact List.mem_cons_self | with_reducible apply List.mem_cons_of_mem)) rfl) (hK _ _ ?_); clear hK K)
      | (guard_target = wpList _ _ _ (⟨some 13, .load _ _, _, _, _, _⟩ :: _) _ _; refine wpl (o := ⟨some 13, .load _ _, _, _, _, _⟩) rfl fun K hK => op_load rfl (ad := ⟨b3, 0, none⟩) rfl (by kernel_rfl) (hs.cell (l := kC y) (t := 57) (by (try dsimp only [List.set]); repeat (first | with_reducible exact List.mem_cons_self | with_reducible apply List.mem_cons_of_mem)) rfl) (hK _ _ ?_); clear hK K)
      | (guard_target = wpList _ _ _ (⟨some 16, .load _ _, _, _, _, _⟩ :: _) _ _; refine wpl (o := ⟨some 16, .load _ _, _, _, _, _⟩) rfl fun K hK => op_load rfl (ad := ⟨b2, 1, none⟩) rfl (by kernel_rfl) (hs.cell (l := kC x) (t := 57) (by (try dsimp only [List.set]); repeat (first | with_reducible exact List.mem_cons_self | with_reducible apply List.mem_cons_of_mem)) rfl) (hK _ _ ?_); clear hK K)
      | (guard_target = wpList _ _ _ (⟨some 18, .load _ _, _, _, _, _⟩ :: _) _ _; refine wpl (o := ⟨some 18, .load _ _, _, _, _, _⟩) rfl fun K hK => op_load rfl (ad := ⟨b3, 1, none⟩) rfl (by kernel_rfl) (hs.cell (l := kC y) (t := 57) (by (try dsimp only [List.set]); repeat (first | with_reducible exact List.mem_cons_self | with_reducible apply List.mem_cons_of_mem)) rfl) (hK _ _ ?_); clear hK K)
      | (guard_target = wpList _ _ _ (⟨some 21, .load _ _, _, _, _, _⟩ :: _) _ _; refine wpl (o := ⟨some 21, .load _ _, _, _, _, _⟩) rfl fun K hK => op_load rfl (ad := ⟨b2, 1, none⟩) rfl (by kernel_rfl) (hs.cell (l := kC x) (t := 57) (by (try dsimp only [List.set]); repeat (first | with_reducible exact List.mem_cons_self | with_reducible apply List.mem_cons_of_mem)) rfl) (hK _ _ ?_); clear hK K)
      | (guard_target = wpList _ _ _ (⟨some 23, .load _ _, _, _, _, _⟩ :: _) _ _; refine wpl (o := ⟨some 23, .load _ _, _, _, _, _⟩) rfl fun K hK => op_load rfl (ad := ⟨b3, 1, none⟩) rfl (by kernel_rfl) (hs.cell (l := kC y) (t := 57) (by (try dsimp only [List.set]); repeat (first | with_reducible exact List.mem_cons_self | with_reducible apply List.mem_cons_of_mem)) rfl) (hK _ _ ?_); clear hK K)
      | (guard_target = wpList _ _ _ (⟨some 26, .load _ _, _, _, _, _⟩ :: _) _ _; refine wpl (o := ⟨some 26, .load _ _, _, _, _, _⟩) rfl fun K hK => op_load rfl (ad := ⟨b2, 2, none⟩) rfl (by kernel_rfl) (hs.cell (l := kC x) (t := 57) (by (try dsimp only [List.set]); repeat (first | with_reducible exact List.mem_cons_self | with_reducible apply List.mem_cons_of_mem)) rfl) (hK _ _ ?_); clear hK K)
      | (guard_target = wpList _ _ _ (⟨some 28, .load _ _, _, _, _, _⟩ :: _) _ _; refine wpl (o := ⟨some 28, .load _ _, _, _, _, _⟩) rfl fun K hK => op_load rfl (ad := ⟨b3, 2, none⟩) rfl (by kernel_rfl) (hs.cell (l := kC y) (t := 57) (by (try dsimp only [List.set]); repeat (first | with_reducible exact List.mem_cons_self | with_reducible apply List.mem_cons_of_mem)) rfl) (hK _ _ ?_); clear hK K))
    go_ret
    exact ⟨rfl, hs.pack (by repeat (first | with_reducible exact Pack.refl | with_reducible exact Pack.nil | with_reducible refine Pack.cons (by repeat (first | with_reducible exact Pick.here | with_reducible apply Pick.there)) ?_ | with_reducible apply Pack.drop))⟩
def ordB (l : List RCl) : Bool := riseK (l.map (·.k))
set_option maxRecDepth 100000 in
set_option maxHeartbeats 2000000 in
theorem ordered_spec (W w : World) (L : List HP) (hs : Sat W w L) (v : Value) (l : List RCl) (hv : Has L (sliceAt v l.length 5 (csC l))) (hn : l.length ≤ 1000000) :
    Calls Tryd.prog 15 #[v] w fun e w' => e = .returned (.bool (ordB l)) ∧ Sat W w' L := by
  obtain ⟨A, c, rfl, _, _⟩ := slice_form (hs.slice hv)
  have HV := Box.mk hv
  unfold ordB
  go_enter Tryd.func15, Tryd.ntmps15
  go_wp2_with fail
  go_loopw [3] (fun v5 wr => ∃ i : Nat, 1 ≤ i ∧ i ≤ l.length + 1 ∧ v5 = .int .i64 (i : Nat) ∧ Box (∀ j (h : j + 1 < l.length), j + 1 < i → lessK l[j].k l[j + 1].k = true) ∧ Sat W wr L) (fun v5 _ => l.length + 1 - (intOf v5).toNat)
  case atStart => exact ⟨1, by omega, by omega, rfl, ⟨fun j _ h => by omega⟩, hs⟩
  case round =>
    clear hs
    obtain ⟨i, h1, hi, rfl, hall, hs⟩ := hrel
    by_cases hlt : i < l.length
    · have hltI : (i : Int) < (l.length : Int) := by omega
      obtain ⟨im, hi2⟩ : ∃ im, i = im + 1 := ⟨i - 1, by omega⟩
      obtain ⟨bo, oo, co, e⟩ := slice_part cC 5 cC_length (by omega) hs HV.out (by omega)
      cases e
      have hmlt : im < l.length := by omega
      have hmltI : (im : Int) < (l.length : Int) := by omega
      have hwm : IntKind.i64.wrap ((i : Int) - 1) = (im : Int) := by rw [IntKind.wrap_i64]; omega
      have hwi : IntKind.i64.wrap ((i : Int) + 1) = (i : Int) + 1 := by rw [IntKind.wrap_i64]; omega
      have hnext : lessK l[im].k l[i].k = true → Box (∀ j (h : j + 1 < l.length), j + 1 < i + 1 → lessK l[j].k l[j + 1].k = true) := fun hl => ⟨fun j h hj => by
        by_cases e : j + 1 = i
        · have e2 : j = im := by omega
          subst e2; subst e; exact hl
        · exact hall.out j h (by omega)⟩
      have hno : lessK l[im].k l[i].k = false → Box (riseK (l.map (·.k)) = false) := fun hl => ⟨riseK_no (i := im) (by simp; omega) (by subst hi2; simpa using hl)⟩
      have cS0 : ∀ w, Sat W w L → twoE bo (oo + im * 5) (kC l[im].k) (oo + i * 5) (kC l[i].k) w := fun w h => ⟨range_pre (slice_range cC 5 cC_length h HV.out im hmlt), range_pre (slice_range cC 5 cC_length h HV.out i hlt)⟩
      generalize hx : l[im] = x at cS0 hnext hno
      generalize hy : l[i] = y at cS0 hnext hno
      clear hx hy
      obtain ⟨q, hq1⟩ : ∃ q, lessK x.k y.k = q := ⟨_, rfl⟩
      have HL := Box.mk (fun w (L : List HP) hs => by have := rless_spec W w L hs x.k y.k; rw [hq1] at this; exact this)
      rw [hq1] at hnext hno
      have HNX := Box.mk hnext
      have HNO := Box.mk hno
      clear hnext hno hq1 hall hi2
      have r1 : ∀ w, twoE bo (oo + im * 5) (kC x.k) (oo + i * 5) (kC y.k) w → w.rangeAt bo (oo + im * 5) (kC x.k) := fun w h => h.1
      have r2 : ∀ w, twoE bo (oo + im * 5) (kC x.k) (oo + i * 5) (kC y.k) w → w.rangeAt bo (oo + i * 5) (kC y.k) := fun w h => h.2
      go_wp2_with fail
      cases q
      · have hS0 := cS0 _ hs.drew
        refine wp_region_tree (twoE bo (oo + im * 5) (kC x.k) (oo + i * 5) (kC y.k)) (.take 0 (.take 1 (.take 2 (.take 3 (.take 4 (.take 5 (.take 6 (.take 7 (.take 8 (.take 9 (.take 10 (.all [(11, .take 12 (DTree.done))])))))))))))) (by kernel_rfl) (by kernel_rfl) (by kernel_rfl) (fun _ _ d _ _ h => by cases d <;> exact h) hS0 ?_
        have hs' := hs.drew
        clear hs
        have hs := hs'
        clear hs'
        have hq := fun p : Prop => class_const hS0 p
        clear hS0
        repeat (first
          | (with_reducible refine tree_load_agg (o := ⟨some 15, .load _ _, _, _, _, _⟩) (kC x.k) rfl rfl rfl rfl ?_ ?_ r1 ?_; (kernel_rfl); (kernel_rfl))
          | (with_reducible refine tree_load_agg (o := ⟨some 20, .load _ _, _, _, _, _⟩) (kC y.k) rfl rfl rfl rfl ?_ ?_ r2 ?_; (kernel_rfl); (kernel_rfl))
          | (refine tree_take rfl (fun K hK => ?_); go_simp; (first | with_reducible refine hK _ ?_ | (rw [if_neg (by decide)]; with_reducible refine hK _ ?_)); clear hK K))
        refine tree_one_yes (o := _) rfl rfl (fun K hK => ?_) (cS0 _ hs)
        try go_simp
        go_at_call 44
        refine (HL.out _ _ hs).mono ?_
        clear hs
        rintro e w5 ⟨rfl, hs⟩
        try go_simp
        refine hK _ _ (cS0 _ hs) ?_
        clear hK K
        repeat (first
          | (with_reducible refine tree_load_agg (o := ⟨some 15, .load _ _, _, _, _, _⟩) (kC x.k) rfl rfl rfl rfl ?_ ?_ r1 ?_; (kernel_rfl); (kernel_rfl))
          | (with_reducible refine tree_load_agg (o := ⟨some 20, .load _ _, _, _, _, _⟩) (kC y.k) rfl rfl rfl rfl ?_ ?_ r2 ?_; (kernel_rfl); (kernel_rfl))
          | (refine tree_take rfl (fun K hK => ?_); go_simp; (first | with_reducible refine hK _ ?_ | (rw [if_neg (by decide)]; with_reducible refine hK _ ?_)); clear hK K))
        refine tree_done ?_
        clear hq
        go_wp2_with fail
        go_ret
        exact ⟨by rw [(HNO.out (by trivial)).out]; rfl, hs⟩
      · have hS0 := cS0 _ hs.drew
        refine wp_region_tree (twoE bo (oo + im * 5) (kC x.k) (oo + i * 5) (kC y.k)) (.take 0 (.take 1 (.take 2 (.take 3 (.take 4 (.take 5 (.take 6 (.take 7 (.take 8 (.take 9 (.take 10 (.all [(11, .take 12 (DTree.done))])))))))))))) (by kernel_rfl) (by kernel_rfl) (by kernel_rfl) (fun _ _ d _ _ h => by cases d <;> exact h) hS0 ?_
        have hs' := hs.drew
        clear hs
        have hs := hs'
        clear hs'
        have hq := fun p : Prop => class_const hS0 p
        clear hS0
        repeat (first
          | (with_reducible refine tree_load_agg (o := ⟨some 15, .load _ _, _, _, _, _⟩) (kC x.k) rfl rfl rfl rfl ?_ ?_ r1 ?_; (kernel_rfl); (kernel_rfl))
          | (with_reducible refine tree_load_agg (o := ⟨some 20, .load _ _, _, _, _, _⟩) (kC y.k) rfl rfl rfl rfl ?_ ?_ r2 ?_; (kernel_rfl); (kernel_rfl))
          | (refine tree_take rfl (fun K hK => ?_); go_simp; (first | with_reducible refine hK _ ?_ | (rw [if_neg (by decide)]; with_reducible refine hK _ ?_)); clear hK K))
        refine tree_one_yes (o := _) rfl rfl (fun K hK => ?_) (cS0 _ hs)
        try go_simp
        go_at_call 44
        refine (HL.out _ _ hs).mono ?_
        clear hs
        rintro e w5 ⟨rfl, hs⟩
        try go_simp
        refine hK _ _ (cS0 _ hs) ?_
        clear hK K
        repeat (first
          | (with_reducible refine tree_load_agg (o := ⟨some 15, .load _ _, _, _, _, _⟩) (kC x.k) rfl rfl rfl rfl ?_ ?_ r1 ?_; (kernel_rfl); (kernel_rfl))
          | (with_reducible refine tree_load_agg (o := ⟨some 20, .load _ _, _, _, _, _⟩) (kC y.k) rfl rfl rfl rfl ?_ ?_ r2 ?_; (kernel_rfl); (kernel_rfl))
          | (refine tree_take rfl (fun K hK => ?_); go_simp; (first | with_reducible refine hK _ ?_ | (rw [if_neg (by decide)]; with_reducible refine hK _ ?_)); clear hK K))
        refine tree_done ?_
        clear hq
        go_wp2_with fail
        exact ⟨⟨i + 1, by omega, by omega, by go_num, HNX.out (by trivial), hs⟩, by simp only [intOf]; omega⟩
    · have hltI : ¬ (i : Int) < (l.length : Int) := by omega
      have hr : Box (riseK (l.map (·.k)) = true) := ⟨riseK_all (n := l.length) (by simp) fun j hj hj2 => by
        have := hall.out j (by simpa using hj) (by omega)
        simpa using this⟩
      clear hall
      go_wp2_with fail
      go_ret
      exact ⟨by rw [hr.out]; rfl, hs⟩
theorem zrstate : (Tryd.prog.info? 39).bind (·.zero) = some (.agg [Value.int .i64 0, .int .u32 0, .int .u32 0, .slice none 0 0].toArray) := by kernel_rfl
theorem zstateR : (Tryd.prog.info? 43).bind (·.zero) = some (.agg [Value.int .i64 0, .int .u32 0, .int .u32 0, .slice none 0 0].toArray) := by kernel_rfl
theorem info_rcell : (Tryd.prog.info? 107).map (fun i => (i.zero, i.size, i.bytes)) = some (some (.agg #[Value.int .i64 0, .int .i64 0, .int .i64 0, .int .i64 0, .string ⟨#[]⟩]), 5, 48) := by kernel_rfl
def rowR (last : Int) (ep lo : Nat) (v : Value) : List Value := [.int .i64 last, .int .u32 (ep : Nat), .int .u32 (lo : Nat), v]
def mkS (b3 : Nat) (v : Value) (ba o : Nat) (cs : List Value) (w : World) : Prop := w.cell? ⟨b3, 3, none⟩ = some v ∧ w.rangeAt ba o cs
set_option maxRecDepth 100000 in
set_option maxHeartbeats 4000000 in
theorem made_spec (W w : World) (L : List HP) (hs : Sat W w L) (s : RSt) (v : Value) (hv : Has L (sliceAt v s.L.length 5 (csC s.L))) (hn : s.L.length ≤ 1000000) :
    Calls Tryd.prog 16 #[.agg (stC s v).toArray] w fun e w' => ∃ v', e = .returned (.agg (stC s v').toArray) ∧ Sat W w' (own v' 59 s.L.length 5 (csC s.L) :: L) := by
  obtain ⟨A, ca, rfl, _, _⟩ := slice_form (hs.slice hv)
  have HV := Box.mk hv
  have hz := run_zero (P := Tryd.prog) zstateR
  clear hv
  go_enter Tryd.func16, Tryd.ntmps16
  go_wp2_with (first
    | (guard_target = wpList _ _ _ (⟨some 1, .box _ _, _, _, _, _⟩ :: _) _ _; refine wpl (o := ⟨some 1, .box _ _, _, _, _, _⟩) rfl fun K hK => ?_; go_must (refine op_box hs rfl _ rfl (stC s (.slice A s.L.length ca)) rfl fun b1 w1 h => hK _ _ ?_); clear hs hK K; have hs := h; clear h; try dsimp only [List.set] at hs)
    | (guard_target = wpList _ _ _ (⟨some 2, .alloc _, _, _, _, _⟩ :: _) _ _; refine wpl (o := ⟨some 2, .alloc _, _, _, _, _⟩) rfl fun K hK => ?_; go_must (refine op_alloc hs rfl _ zstateR [Value.int .i64 0, .int .u32 0, .int .u32 0, .slice none 0 0] rfl fun b2 w1 h => hK _ _ ?_); clear hs hK K; have hs := h; clear h; try dsimp only [List.set] at hs)
    | (guard_target = wpList _ _ _ (⟨some 3, .alloc _, _, _, _, _⟩ :: _) _ _; refine wpl (o := ⟨some 3, .alloc _, _, _, _, _⟩) rfl fun K hK => ?_; go_must (refine op_alloc hs rfl _ zstateR [Value.int .i64 0, .int .u32 0, .int .u32 0, .slice none 0 0] rfl fun b3 w1 h => hK _ _ ?_); clear hs hK K; have hs := h; clear h; try dsimp only [List.set] at hs)
    | (guard_target = wpList _ _ _ (⟨some 6, .load _ _, _, _, _, _⟩ :: _) _ _; refine wpl (o := ⟨some 6, .load _ _, _, _, _, _⟩) rfl fun K hK => op_load rfl (ad := ⟨b1, 0, none⟩) rfl (by kernel_rfl) (hs.cell (l := stC s (.slice A s.L.length ca)) (t := 39) (by (try dsimp only [List.set]); repeat (first | with_reducible exact List.mem_cons_self | with_reducible apply List.mem_cons_of_mem)) rfl) (hK _ _ ?_); clear hK K)
    | (guard_target = wpList _ _ _ (⟨some 8, .load _ _, _, _, _, _⟩ :: _) _ _; refine wpl (o := ⟨some 8, .load _ _, _, _, _, _⟩) rfl fun K hK => op_load rfl (ad := ⟨b1, 1, none⟩) rfl (by kernel_rfl) (hs.cell (l := stC s (.slice A s.L.length ca)) (t := 39) (by (try dsimp only [List.set]); repeat (first | with_reducible exact List.mem_cons_self | with_reducible apply List.mem_cons_of_mem)) rfl) (hK _ _ ?_); clear hK K)
    | (guard_target = wpList _ _ _ (⟨some 10, .load _ _, _, _, _, _⟩ :: _) _ _; refine wpl (o := ⟨some 10, .load _ _, _, _, _, _⟩) rfl fun K hK => op_load rfl (ad := ⟨b1, 2, none⟩) rfl (by kernel_rfl) (hs.cell (l := stC s (.slice A s.L.length ca)) (t := 39) (by (try dsimp only [List.set]); repeat (first | with_reducible exact List.mem_cons_self | with_reducible apply List.mem_cons_of_mem)) rfl) (hK _ _ ?_); clear hK K)
    | (guard_target = wpList _ _ _ (⟨none, .store _ (.tmp 3) _, _, _, _, _⟩ :: _) _ _; refine wpl (o := ⟨none, .store _ (.tmp 3) _, _, _, _, _⟩) rfl fun K hK => ?_; go_must (refine op_store_whole hs (b := b3) rfl rfl (rowR s.last s.epoch s.low (.slice none 0 0)) rfl (by simp [rowR, Value.oneCell']) (by kernel_rfl) (k := 0) rfl rfl fun w3 h => hK _ _ ?_); clear hs hK K; have hs := h; clear h; try dsimp only [List.set] at hs))
  go_loopw [4] (fun v4 wr => ∃ (i : Nat) (v' : Value), i ≤ s.L.length ∧ v4 = .int .i64 (i : Nat) ∧ Sat W wr (row b3 (rowR s.last s.epoch s.low v') 43 :: own v' 59 i 5 (csC (s.L.take i)) :: row b1 (stC s (.slice A s.L.length ca)) 39 :: row b2 [Value.int .i64 0, .int .u32 0, .int .u32 0, .slice none 0 0] 43 :: L)) (fun v4 _ => s.L.length - (intOf v4).toNat)
  case atStart => exact ⟨0, .slice none 0 0, by omega, rfl, by have h2 := hs.addNil none 59 5; exact h2.pack (L := row b3 (rowR s.last s.epoch s.low (.slice none 0 0)) 43 :: own (.slice none 0 0) 59 0 5 [] :: row b1 (stC s (.slice A s.L.length ca)) 39 :: row b2 [Value.int .i64 0, .int .u32 0, .int .u32 0, .slice none 0 0] 43 :: L) (by repeat (first | with_reducible exact Pack.refl | with_reducible exact Pack.nil | with_reducible refine Pack.cons (by repeat (first | with_reducible exact Pick.here | with_reducible apply Pick.there)) ?_ | with_reducible apply Pack.drop))⟩
  case round =>
    clear hs
    obtain ⟨i, v', hi, rfl, hs⟩ := hrel
    obtain ⟨A', c', rfl, _, _⟩ := own_slice hs (i := 1) rfl
    by_cases hlt : i < s.L.length
    · have hltI : (i : Int) < (s.L.length : Int) := by omega
      have hvs : ∀ M, (∃ M0, M = M0 ++ L) → Has M (sliceAt (.slice A s.L.length ca) s.L.length 5 (csC s.L)) := fun M ⟨M0, e⟩ => by rw [e]; exact HV.out.app
      obtain ⟨ba, oa, ca', e⟩ := slice_part cC 5 cC_length (by omega) hs (hvs _ ⟨[_, _, _, _], rfl⟩) (by omega)
      cases e
      have hsn : Box (csC (s.L.take (i + 1)) = csC (s.L.take i) ++ cC s.L[i]) := ⟨by rw [List.take_succ_eq_append_getElem hlt, csC_snoc]⟩
      have hrg := fun w (M : List HP) (h : Sat W w M) hM => slice_range cC 5 cC_length h (hvs M hM) i hlt
      generalize s.L[i] = x at hsn hrg
      have HRG := Box.mk hrg
      clear hrg hvs
      have cS : ∀ w M, Sat W w M → (∃ M0, M = M0 ++ L) → row b1 (stC s (.slice (some ⟨ba, oa, none⟩) s.L.length ca)) 39 ∈ M → mkS b1 (.slice (some ⟨ba, oa, none⟩) s.L.length ca) ba (oa + i * 5) (cC x) w := fun w M h hM hm => ⟨h.cell hm rfl, HRG.out w M h hM⟩
      have d22 : ∀ w, mkS b1 (.slice (some ⟨ba, oa, none⟩) s.L.length ca) ba (oa + i * 5) (cC x) w → w.cell? ⟨b1, 3, none⟩ = some (.slice (some ⟨ba, oa, none⟩) s.L.length ca) := fun w h => h.1
      have d25 : ∀ w, mkS b1 (.slice (some ⟨ba, oa, none⟩) s.L.length ca) ba (oa + i * 5) (cC x) w → w.rangeAt ba (oa + i * 5) (cC x) := fun w h => h.2
      go_wp2_with (first
        | (guard_target = wpList _ _ _ (⟨some 14, .load _ _, _, _, _, _⟩ :: _) _ _; refine wpl (o := ⟨some 14, .load _ _, _, _, _, _⟩) rfl fun K hK => op_load rfl (ad := ⟨b1, 3, none⟩) rfl (by kernel_rfl) (hs.cell (l := stC s (.slice (some ⟨ba, oa, none⟩) s.L.length ca)) (t := 39) (by (try dsimp only [List.set]); repeat (first | with_reducible exact List.mem_cons_self | with_reducible apply List.mem_cons_of_mem)) rfl) (hK _ _ ?_); clear hK K))
      have hS0 := cS _ _ hs.drew (by (try dsimp only [List.set]); first | exact ⟨[_, _, _, _], rfl⟩ | exact ⟨[_, _, _, _, _], rfl⟩) (by (try dsimp only [List.set]); repeat (first | with_reducible exact List.mem_cons_self | with_reducible apply List.mem_cons_of_mem))
      refine wp_region_tree (mkS b1 (.slice (some ⟨ba, oa, none⟩) s.L.length ca) ba (oa + i * 5) (cC x)) (.take 0 (.take 2 (.take 3 (.take 4 (.take 5 (.take 6 (.all [(1, .all [(7, .all [(8, .take 9 (.all [(10, DTree.done)]))])]), (7, .all [(1, .all [(8, .take 9 (.all [(10, DTree.done)]))])])]))))))) (by kernel_rfl) (by kernel_rfl) (by kernel_rfl) (fun _ _ d _ _ h => by cases d <;> exact h) hS0 ?_
      have hs' := hs.drew
      clear hs
      have hs := hs'
      clear hs'
      have hq := fun p : Prop => class_const hS0 p
      clear hS0
      repeat (first
        | (with_reducible refine tree_load (o := ⟨some 22, .load _ _, _, _, _, _⟩) rfl rfl rfl rfl rfl d22 ?_)
        | (with_reducible refine tree_load_agg (o := ⟨some 25, .load _ _, _, _, _, _⟩) (cC x) rfl rfl rfl rfl ?_ ?_ d25 ?_; (kernel_rfl); (kernel_rfl))
        | (refine tree_take rfl (fun K hK => ?_); go_simp; (first | with_reducible refine hK _ ?_ | (rw [if_neg (by decide)]; with_reducible refine hK _ ?_)); clear hK K))
      refine tree_all (trees_cons_yes (o := _) rfl rfl (fun K hK => ?_) (cS _ _ hs (by (try dsimp only [List.set]); first | exact ⟨[_, _, _, _], rfl⟩ | exact ⟨[_, _, _, _, _], rfl⟩) (by (try dsimp only [List.set]); repeat (first | with_reducible exact List.mem_cons_self | with_reducible apply List.mem_cons_of_mem))) (trees_cons_yes (o := _) rfl rfl (fun K hK => ?_) (cS _ _ hs (by (try dsimp only [List.set]); first | exact ⟨[_, _, _, _], rfl⟩ | exact ⟨[_, _, _, _, _], rfl⟩) (by (try dsimp only [List.set]); repeat (first | with_reducible exact List.mem_cons_self | with_reducible apply List.mem_cons_of_mem))) trees_nil))
      · refine op_load rfl (ad := ⟨b3, 3, none⟩) rfl (by kernel_rfl) (hs.cell (l := (rowR s.last s.epoch s.low (.slice A' i c'))) (t := 43) (by (try dsimp only [List.set]); repeat (first | with_reducible exact List.mem_cons_self | with_reducible apply List.mem_cons_of_mem)) rfl) (hK _ _ (cS _ _ hs (by (try dsimp only [List.set]); first | exact ⟨[_, _, _, _], rfl⟩ | exact ⟨[_, _, _, _, _], rfl⟩) (by (try dsimp only [List.set]); repeat (first | with_reducible exact List.mem_cons_self | with_reducible apply List.mem_cons_of_mem))) ?_)
        clear hK K
        try go_simp
        refine tree_one_yes (o := _) rfl rfl (fun K hK => ?_) (cS _ _ hs (by (try dsimp only [List.set]); first | exact ⟨[_, _, _, _], rfl⟩ | exact ⟨[_, _, _, _, _], rfl⟩) (by (try dsimp only [List.set]); repeat (first | with_reducible exact List.mem_cons_self | with_reducible apply List.mem_cons_of_mem)))
        refine op_lit_agg1 hs rfl Tryd.underlying41 info_cell (cC x) rfl rfl (by omega) (by omega) fun b26 w1 h => hK _ _ (cS _ _ h (by (try dsimp only [List.set]); first | exact ⟨[_, _, _, _], rfl⟩ | exact ⟨[_, _, _, _, _], rfl⟩) (by (try dsimp only [List.set]); repeat (first | with_reducible exact List.mem_cons_self | with_reducible apply List.mem_cons_of_mem))) ?_
        clear hs hK K
        have hs := h
        clear h
        try dsimp only [List.set] at hs
        try go_simp
        refine tree_one_yes (o := _) rfl rfl (fun K hK => ?_) (cS _ _ hs (by (try dsimp only [List.set]); first | exact ⟨[_, _, _, _], rfl⟩ | exact ⟨[_, _, _, _, _], rfl⟩) (by (try dsimp only [List.set]); repeat (first | with_reducible exact List.mem_cons_self | with_reducible apply List.mem_cons_of_mem)))
        refine op_append (hs.pick (A := own (.slice A' i c') 59 i 5 (csC (s.L.take i))) (by repeat (first | with_reducible exact Pick.here | with_reducible apply Pick.there))) rfl Tryd.underlying41 Tryd.underlying41 info_cell rfl (by omega) (k := 0) rfl rfl rfl (Has.of (A := row b26 (cC x) 59) (by (try dsimp only [List.set]); repeat (first | with_reducible exact List.mem_cons_self | with_reducible apply List.mem_cons_of_mem)) fun F hF => own_sliceAt F (own_exact (n := 1) (sz := 5) rfl (by omega) F hF)) (cC_one x) (by omega) (by omega) fun v27 w2 h => hK _ _ (cS _ _ h (by (try dsimp only [List.set]); first | exact ⟨[_, _, _, _], rfl⟩ | exact ⟨[_, _, _, _, _], rfl⟩) (by (try dsimp only [List.set]); repeat (first | with_reducible exact List.mem_cons_self | with_reducible apply List.mem_cons_of_mem))) ?_
        clear hs hK K
        have hs := h
        clear h
        try dsimp only [List.set] at hs
        obtain ⟨A27, c27, rfl, _, _⟩ := own_slice hs (i := 0) rfl
        try go_simp
        repeat (first
          | (with_reducible refine tree_load (o := ⟨some 22, .load _ _, _, _, _, _⟩) rfl rfl rfl rfl rfl d22 ?_)
          | (with_reducible refine tree_load_agg (o := ⟨some 25, .load _ _, _, _, _, _⟩) (cC x) rfl rfl rfl rfl ?_ ?_ d25 ?_; (kernel_rfl); (kernel_rfl))
          | (refine tree_take rfl (fun K hK => ?_); go_simp; (first | with_reducible refine hK _ ?_ | (rw [if_neg (by decide)]; with_reducible refine hK _ ?_)); clear hK K))
        refine tree_one_yes (o := _) rfl rfl (fun K hK => ?_) (cS _ _ hs (by (try dsimp only [List.set]); first | exact ⟨[_, _, _, _], rfl⟩ | exact ⟨[_, _, _, _, _], rfl⟩) (by (try dsimp only [List.set]); repeat (first | with_reducible exact List.mem_cons_self | with_reducible apply List.mem_cons_of_mem)))
        refine op_store (hs.pick (A := row b3 (rowR s.last s.epoch s.low (.slice A' i c')) 43) (by repeat (first | with_reducible exact Pick.here | with_reducible apply Pick.there))) rfl (b := b3) (i := 3) (v := .slice A27 (i + 1) c27) rfl rfl rfl (by kernel_rfl) (k := 0) rfl (by simp [rowR]) fun w7 h => hK _ _ (cS _ _ h (by (try dsimp only [List.set]); first | exact ⟨[_, _, _, _], rfl⟩ | exact ⟨[_, _, _, _, _], rfl⟩) (by (try dsimp only [List.set]); repeat (first | with_reducible exact List.mem_cons_self | with_reducible apply List.mem_cons_of_mem))) ?_
        clear hs hK K
        have hs := h
        clear h
        try dsimp only [List.set] at hs
        change Sat W _ (row b3 (rowR s.last s.epoch s.low (.slice A27 (i + 1) c27)) 43 :: _) at hs
        try go_simp
        refine tree_done ?_
        clear hq
        go_wp2_with fail
        refine ⟨⟨i + 1, .slice A27 (i + 1) c27, by omega, by go_num, ?_⟩, by simp only [intOf]; omega⟩
        rw [hsn.out]
        exact hs.pack (by repeat (first | with_reducible exact Pack.refl | with_reducible exact Pack.nil | with_reducible refine Pack.cons (by repeat (first | with_reducible exact Pick.here | with_reducible apply Pick.there)) ?_ | with_reducible apply Pack.drop))
      · refine op_lit_agg1 hs rfl Tryd.underlying41 info_cell (cC x) rfl rfl (by omega) (by omega) fun b26 w1 h => hK _ _ (cS _ _ h (by (try dsimp only [List.set]); first | exact ⟨[_, _, _, _], rfl⟩ | exact ⟨[_, _, _, _, _], rfl⟩) (by (try dsimp only [List.set]); repeat (first | with_reducible exact List.mem_cons_self | with_reducible apply List.mem_cons_of_mem))) ?_
        clear hs hK K
        have hs := h
        clear h
        try dsimp only [List.set] at hs
        try go_simp
        refine tree_one_yes (o := _) rfl rfl (fun K hK => ?_) (cS _ _ hs (by (try dsimp only [List.set]); first | exact ⟨[_, _, _, _], rfl⟩ | exact ⟨[_, _, _, _, _], rfl⟩) (by (try dsimp only [List.set]); repeat (first | with_reducible exact List.mem_cons_self | with_reducible apply List.mem_cons_of_mem)))
        refine op_load rfl (ad := ⟨b3, 3, none⟩) rfl (by kernel_rfl) (hs.cell (l := (rowR s.last s.epoch s.low (.slice A' i c'))) (t := 43) (by (try dsimp only [List.set]); repeat (first | with_reducible exact List.mem_cons_self | with_reducible apply List.mem_cons_of_mem)) rfl) (hK _ _ (cS _ _ hs (by (try dsimp only [List.set]); first | exact ⟨[_, _, _, _], rfl⟩ | exact ⟨[_, _, _, _, _], rfl⟩) (by (try dsimp only [List.set]); repeat (first | with_reducible exact List.mem_cons_self | with_reducible apply List.mem_cons_of_mem))) ?_)
        clear hK K
        try go_simp
        refine tree_one_yes (o := _) rfl rfl (fun K hK => ?_) (cS _ _ hs (by (try dsimp only [List.set]); first | exact ⟨[_, _, _, _], rfl⟩ | exact ⟨[_, _, _, _, _], rfl⟩) (by (try dsimp only [List.set]); repeat (first | with_reducible exact List.mem_cons_self | with_reducible apply List.mem_cons_of_mem)))
        refine op_append (hs.pick (A := own (.slice A' i c') 59 i 5 (csC (s.L.take i))) (by repeat (first | with_reducible exact Pick.here | with_reducible apply Pick.there))) rfl Tryd.underlying41 Tryd.underlying41 info_cell rfl (by omega) (k := 0) rfl rfl rfl (Has.of (A := row b26 (cC x) 59) (by (try dsimp only [List.set]); repeat (first | with_reducible exact List.mem_cons_self | with_reducible apply List.mem_cons_of_mem)) fun F hF => own_sliceAt F (own_exact (n := 1) (sz := 5) rfl (by omega) F hF)) (cC_one x) (by omega) (by omega) fun v27 w2 h => hK _ _ (cS _ _ h (by (try dsimp only [List.set]); first | exact ⟨[_, _, _, _], rfl⟩ | exact ⟨[_, _, _, _, _], rfl⟩) (by (try dsimp only [List.set]); repeat (first | with_reducible exact List.mem_cons_self | with_reducible apply List.mem_cons_of_mem))) ?_
        clear hs hK K
        have hs := h
        clear h
        try dsimp only [List.set] at hs
        obtain ⟨A27, c27, rfl, _, _⟩ := own_slice hs (i := 0) rfl
        try go_simp
        repeat (first
          | (with_reducible refine tree_load (o := ⟨some 22, .load _ _, _, _, _, _⟩) rfl rfl rfl rfl rfl d22 ?_)
          | (with_reducible refine tree_load_agg (o := ⟨some 25, .load _ _, _, _, _, _⟩) (cC x) rfl rfl rfl rfl ?_ ?_ d25 ?_; (kernel_rfl); (kernel_rfl))
          | (refine tree_take rfl (fun K hK => ?_); go_simp; (first | with_reducible refine hK _ ?_ | (rw [if_neg (by decide)]; with_reducible refine hK _ ?_)); clear hK K))
        refine tree_one_yes (o := _) rfl rfl (fun K hK => ?_) (cS _ _ hs (by (try dsimp only [List.set]); first | exact ⟨[_, _, _, _], rfl⟩ | exact ⟨[_, _, _, _, _], rfl⟩) (by (try dsimp only [List.set]); repeat (first | with_reducible exact List.mem_cons_self | with_reducible apply List.mem_cons_of_mem)))
        refine op_store (hs.pick (A := row b3 (rowR s.last s.epoch s.low (.slice A' i c')) 43) (by repeat (first | with_reducible exact Pick.here | with_reducible apply Pick.there))) rfl (b := b3) (i := 3) (v := .slice A27 (i + 1) c27) rfl rfl rfl (by kernel_rfl) (k := 0) rfl (by simp [rowR]) fun w7 h => hK _ _ (cS _ _ h (by (try dsimp only [List.set]); first | exact ⟨[_, _, _, _], rfl⟩ | exact ⟨[_, _, _, _, _], rfl⟩) (by (try dsimp only [List.set]); repeat (first | with_reducible exact List.mem_cons_self | with_reducible apply List.mem_cons_of_mem))) ?_
        clear hs hK K
        have hs := h
        clear h
        try dsimp only [List.set] at hs
        change Sat W _ (row b3 (rowR s.last s.epoch s.low (.slice A27 (i + 1) c27)) 43 :: _) at hs
        try go_simp
        refine tree_done ?_
        clear hq
        go_wp2_with fail
        refine ⟨⟨i + 1, .slice A27 (i + 1) c27, by omega, by go_num, ?_⟩, by simp only [intOf]; omega⟩
        rw [hsn.out]
        exact hs.pack (by repeat (first | with_reducible exact Pack.refl | with_reducible exact Pack.nil | with_reducible refine Pack.cons (by repeat (first | with_reducible exact Pick.here | with_reducible apply Pick.there)) ?_ | with_reducible apply Pack.drop))
    · have hltI : ¬ (i : Int) < (s.L.length : Int) := by omega
      have hin : i = s.L.length := by omega
      subst hin
      rw [List.take_length] at hs
      go_wp2_with (first
        | (guard_target = wpList _ _ _ (⟨some 14, .load _ _, _, _, _, _⟩ :: _) _ _; refine wpl (o := ⟨some 14, .load _ _, _, _, _, _⟩) rfl fun K hK => op_load rfl (ad := ⟨b1, 3, none⟩) rfl (by kernel_rfl) (hs.cell (l := stC s (.slice A s.L.length ca)) (t := 39) (by (try dsimp only [List.set]); repeat (first | with_reducible exact List.mem_cons_self | with_reducible apply List.mem_cons_of_mem)) rfl) (hK _ _ ?_); clear hK K)
        | (guard_target = wpList _ _ _ (⟨some 29, .load _ _, _, _, _, _⟩ :: _) _ _; refine wpl (o := ⟨some 29, .load _ _, _, _, _, _⟩) rfl fun K hK => op_load_agg rfl (b := b3) (i := 0) rfl ((rowR s.last s.epoch s.low (.slice A' s.L.length c'))) (range_whole hs (by (try dsimp only [List.set]); repeat (first | with_reducible exact List.mem_cons_self | with_reducible apply List.mem_cons_of_mem))) (by kernel_rfl) (by kernel_rfl) (hK _ _ ?_); clear hK K)
        | (guard_target = wpList _ _ _ (⟨none, .store _ (.tmp 2) _, _, _, _, _⟩ :: _) _ _; refine wpl (o := ⟨none, .store _ (.tmp 2) _, _, _, _, _⟩) rfl fun K hK => ?_; go_must (refine op_store_whole (hs.pick (A := row b2 [Value.int .i64 0, .int .u32 0, .int .u32 0, .slice none 0 0] 43) (by repeat (first | with_reducible exact Pick.here | with_reducible apply Pick.there))) (b := b2) rfl rfl (rowR s.last s.epoch s.low (.slice A' s.L.length c')) rfl (by simp [rowR, Value.oneCell']) (by kernel_rfl) (k := 0) rfl rfl fun w9 h => hK _ _ ?_); clear hs hK K; have hs := h; clear h; dsimp only [List.set] at hs))
      exact bodyPost_ret (run_results_cell rfl (b := b2) rfl (rowR s.last s.epoch s.low (.slice A' s.L.length c')) (range_whole hs m0) (by kernel_rfl) (by kernel_rfl)) rfl ⟨.slice A' s.L.length c', rfl, hs.pack (by repeat (first | with_reducible exact Pack.refl | with_reducible exact Pack.nil | with_reducible refine Pack.cons (by repeat (first | with_reducible exact Pick.here | with_reducible apply Pick.there)) ?_ | with_reducible apply Pack.drop))⟩
set_option maxRecDepth 100000 in
set_option maxHeartbeats 4000000 in
theorem real_spec (W w : World) (L : List HP) (hs : Sat W w L) (s : RSt) (v : Value) (hv : Has L (sliceAt v s.L.length 5 (csC s.L))) (hn : s.L.length ≤ 1000000) :
    Calls Tryd.prog 18 #[.agg (stC s v).toArray] w fun e w' => ∃ v', e = .returned (.agg (stC s v').toArray) ∧ Sat W w' (own v' 107 s.L.length 5 (csC s.L) :: L) := by
  obtain ⟨A, ca, rfl, _, _⟩ := slice_form (hs.slice hv)
  have HV := Box.mk hv
  have hz := run_zero (P := Tryd.prog) zrstate
  clear hv
  go_enter Tryd.func18, Tryd.ntmps18
  go_wp2_with (first
    | (guard_target = wpList _ _ _ (⟨some 1, .box _ _, _, _, _, _⟩ :: _) _ _; refine wpl (o := ⟨some 1, .box _ _, _, _, _, _⟩) rfl fun K hK => ?_; go_must (refine op_box hs rfl _ rfl (stC s (.slice A s.L.length ca)) rfl fun b1 w1 h => hK _ _ ?_); clear hs hK K; have hs := h; clear h; try dsimp only [List.set] at hs)
    | (guard_target = wpList _ _ _ (⟨some 2, .alloc _, _, _, _, _⟩ :: _) _ _; refine wpl (o := ⟨some 2, .alloc _, _, _, _, _⟩) rfl fun K hK => ?_; go_must (refine op_alloc hs rfl _ zrstate [Value.int .i64 0, .int .u32 0, .int .u32 0, .slice none 0 0] rfl fun b2 w1 h => hK _ _ ?_); clear hs hK K; have hs := h; clear h; try dsimp only [List.set] at hs)
    | (guard_target = wpList _ _ _ (⟨some 3, .alloc _, _, _, _, _⟩ :: _) _ _; refine wpl (o := ⟨some 3, .alloc _, _, _, _, _⟩) rfl fun K hK => ?_; go_must (refine op_alloc hs rfl _ zrstate [Value.int .i64 0, .int .u32 0, .int .u32 0, .slice none 0 0] rfl fun b3 w1 h => hK _ _ ?_); clear hs hK K; have hs := h; clear h; try dsimp only [List.set] at hs)
    | (guard_target = wpList _ _ _ (⟨some 6, .load _ _, _, _, _, _⟩ :: _) _ _; refine wpl (o := ⟨some 6, .load _ _, _, _, _, _⟩) rfl fun K hK => op_load rfl (ad := ⟨b1, 0, none⟩) rfl (by kernel_rfl) (hs.cell (l := stC s (.slice A s.L.length ca)) (t := 43) (by (try dsimp only [List.set]); repeat (first | with_reducible exact List.mem_cons_self | with_reducible apply List.mem_cons_of_mem)) rfl) (hK _ _ ?_); clear hK K)
    | (guard_target = wpList _ _ _ (⟨some 8, .load _ _, _, _, _, _⟩ :: _) _ _; refine wpl (o := ⟨some 8, .load _ _, _, _, _, _⟩) rfl fun K hK => op_load rfl (ad := ⟨b1, 1, none⟩) rfl (by kernel_rfl) (hs.cell (l := stC s (.slice A s.L.length ca)) (t := 43) (by (try dsimp only [List.set]); repeat (first | with_reducible exact List.mem_cons_self | with_reducible apply List.mem_cons_of_mem)) rfl) (hK _ _ ?_); clear hK K)
    | (guard_target = wpList _ _ _ (⟨some 10, .load _ _, _, _, _, _⟩ :: _) _ _; refine wpl (o := ⟨some 10, .load _ _, _, _, _, _⟩) rfl fun K hK => op_load rfl (ad := ⟨b1, 2, none⟩) rfl (by kernel_rfl) (hs.cell (l := stC s (.slice A s.L.length ca)) (t := 43) (by (try dsimp only [List.set]); repeat (first | with_reducible exact List.mem_cons_self | with_reducible apply List.mem_cons_of_mem)) rfl) (hK _ _ ?_); clear hK K)
    | (guard_target = wpList _ _ _ (⟨none, .store _ (.tmp 3) _, _, _, _, _⟩ :: _) _ _; refine wpl (o := ⟨none, .store _ (.tmp 3) _, _, _, _, _⟩) rfl fun K hK => ?_; go_must (refine op_store_whole hs (b := b3) rfl rfl (rowR s.last s.epoch s.low (.slice none 0 0)) rfl (by simp [rowR, Value.oneCell']) (by kernel_rfl) (k := 0) rfl rfl fun w3 h => hK _ _ ?_); clear hs hK K; have hs := h; clear h; try dsimp only [List.set] at hs))
  go_loopw [4] (fun v4 wr => ∃ (i : Nat) (v' : Value), i ≤ s.L.length ∧ v4 = .int .i64 (i : Nat) ∧ Sat W wr (row b3 (rowR s.last s.epoch s.low v') 39 :: own v' 107 i 5 (csC (s.L.take i)) :: row b1 (stC s (.slice A s.L.length ca)) 43 :: row b2 [Value.int .i64 0, .int .u32 0, .int .u32 0, .slice none 0 0] 39 :: L)) (fun v4 _ => s.L.length - (intOf v4).toNat)
  case atStart => exact ⟨0, .slice none 0 0, by omega, rfl, by have h2 := hs.addNil none 107 5; exact h2.pack (L := row b3 (rowR s.last s.epoch s.low (.slice none 0 0)) 39 :: own (.slice none 0 0) 107 0 5 [] :: row b1 (stC s (.slice A s.L.length ca)) 43 :: row b2 [Value.int .i64 0, .int .u32 0, .int .u32 0, .slice none 0 0] 39 :: L) (by repeat (first | with_reducible exact Pack.refl | with_reducible exact Pack.nil | with_reducible refine Pack.cons (by repeat (first | with_reducible exact Pick.here | with_reducible apply Pick.there)) ?_ | with_reducible apply Pack.drop))⟩
  case round =>
    clear hs
    obtain ⟨i, v', hi, rfl, hs⟩ := hrel
    obtain ⟨A', c', rfl, _, _⟩ := own_slice hs (i := 1) rfl
    by_cases hlt : i < s.L.length
    · have hltI : (i : Int) < (s.L.length : Int) := by omega
      have hvs : ∀ M, (∃ M0, M = M0 ++ L) → Has M (sliceAt (.slice A s.L.length ca) s.L.length 5 (csC s.L)) := fun M ⟨M0, e⟩ => by rw [e]; exact HV.out.app
      obtain ⟨ba, oa, ca', e⟩ := slice_part cC 5 cC_length (by omega) hs (hvs _ ⟨[_, _, _, _], rfl⟩) (by omega)
      cases e
      have hsn : Box (csC (s.L.take (i + 1)) = csC (s.L.take i) ++ cC s.L[i]) := ⟨by rw [List.take_succ_eq_append_getElem hlt, csC_snoc]⟩
      have hrg := fun w (M : List HP) (h : Sat W w M) hM => slice_range cC 5 cC_length h (hvs M hM) i hlt
      generalize s.L[i] = x at hsn hrg
      have HRG := Box.mk hrg
      clear hrg hvs
      have cS : ∀ w M, Sat W w M → (∃ M0, M = M0 ++ L) → row b1 (stC s (.slice (some ⟨ba, oa, none⟩) s.L.length ca)) 43 ∈ M → mkS b1 (.slice (some ⟨ba, oa, none⟩) s.L.length ca) ba (oa + i * 5) (cC x) w := fun w M h hM hm => ⟨h.cell hm rfl, HRG.out w M h hM⟩
      have d22 : ∀ w, mkS b1 (.slice (some ⟨ba, oa, none⟩) s.L.length ca) ba (oa + i * 5) (cC x) w → w.cell? ⟨b1, 3, none⟩ = some (.slice (some ⟨ba, oa, none⟩) s.L.length ca) := fun w h => h.1
      have d25 : ∀ w, mkS b1 (.slice (some ⟨ba, oa, none⟩) s.L.length ca) ba (oa + i * 5) (cC x) w → w.rangeAt ba (oa + i * 5) (cC x) := fun w h => h.2
      go_wp2_with (first
        | (guard_target = wpList _ _ _ (⟨some 14, .load _ _, _, _, _, _⟩ :: _) _ _; refine wpl (o := ⟨some 14, .load _ _, _, _, _, _⟩) rfl fun K hK => op_load rfl (ad := ⟨b1, 3, none⟩) rfl (by kernel_rfl) (hs.cell (l := stC s (.slice (some ⟨ba, oa, none⟩) s.L.length ca)) (t := 43) (by (try dsimp only [List.set]); repeat (first | with_reducible exact List.mem_cons_self | with_reducible apply List.mem_cons_of_mem)) rfl) (hK _ _ ?_); clear hK K))
      have hS0 := cS _ _ hs.drew (by (try dsimp only [List.set]); first | exact ⟨[_, _, _, _], rfl⟩ | exact ⟨[_, _, _, _, _], rfl⟩) (by (try dsimp only [List.set]); repeat (first | with_reducible exact List.mem_cons_self | with_reducible apply List.mem_cons_of_mem))
      refine wp_region_tree (mkS b1 (.slice (some ⟨ba, oa, none⟩) s.L.length ca) ba (oa + i * 5) (cC x)) (.take 0 (.take 2 (.take 3 (.take 4 (.take 5 (.take 6 (.all [(1, .all [(7, .all [(8, .take 9 (.all [(10, DTree.done)]))])]), (7, .all [(1, .all [(8, .take 9 (.all [(10, DTree.done)]))])])]))))))) (by kernel_rfl) (by kernel_rfl) (by kernel_rfl) (fun _ _ d _ _ h => by cases d <;> exact h) hS0 ?_
      have hs' := hs.drew
      clear hs
      have hs := hs'
      clear hs'
      have hq := fun p : Prop => class_const hS0 p
      clear hS0
      repeat (first
        | (with_reducible refine tree_load (o := ⟨some 22, .load _ _, _, _, _, _⟩) rfl rfl rfl rfl rfl d22 ?_)
        | (with_reducible refine tree_load_agg (o := ⟨some 25, .load _ _, _, _, _, _⟩) (cC x) rfl rfl rfl rfl ?_ ?_ d25 ?_; (kernel_rfl); (kernel_rfl))
        | (refine tree_take rfl (fun K hK => ?_); go_simp; (first | with_reducible refine hK _ ?_ | (rw [if_neg (by decide)]; with_reducible refine hK _ ?_)); clear hK K))
      refine tree_all (trees_cons_yes (o := _) rfl rfl (fun K hK => ?_) (cS _ _ hs (by (try dsimp only [List.set]); first | exact ⟨[_, _, _, _], rfl⟩ | exact ⟨[_, _, _, _, _], rfl⟩) (by (try dsimp only [List.set]); repeat (first | with_reducible exact List.mem_cons_self | with_reducible apply List.mem_cons_of_mem))) (trees_cons_yes (o := _) rfl rfl (fun K hK => ?_) (cS _ _ hs (by (try dsimp only [List.set]); first | exact ⟨[_, _, _, _], rfl⟩ | exact ⟨[_, _, _, _, _], rfl⟩) (by (try dsimp only [List.set]); repeat (first | with_reducible exact List.mem_cons_self | with_reducible apply List.mem_cons_of_mem))) trees_nil))
      · refine op_load rfl (ad := ⟨b3, 3, none⟩) rfl (by kernel_rfl) (hs.cell (l := (rowR s.last s.epoch s.low (.slice A' i c'))) (t := 39) (by (try dsimp only [List.set]); repeat (first | with_reducible exact List.mem_cons_self | with_reducible apply List.mem_cons_of_mem)) rfl) (hK _ _ (cS _ _ hs (by (try dsimp only [List.set]); first | exact ⟨[_, _, _, _], rfl⟩ | exact ⟨[_, _, _, _, _], rfl⟩) (by (try dsimp only [List.set]); repeat (first | with_reducible exact List.mem_cons_self | with_reducible apply List.mem_cons_of_mem))) ?_)
        clear hK K
        try go_simp
        refine tree_one_yes (o := _) rfl rfl (fun K hK => ?_) (cS _ _ hs (by (try dsimp only [List.set]); first | exact ⟨[_, _, _, _], rfl⟩ | exact ⟨[_, _, _, _, _], rfl⟩) (by (try dsimp only [List.set]); repeat (first | with_reducible exact List.mem_cons_self | with_reducible apply List.mem_cons_of_mem)))
        refine op_lit_agg1 hs rfl Tryd.underlying37 info_rcell (cC x) rfl rfl (by omega) (by omega) fun b26 w1 h => hK _ _ (cS _ _ h (by (try dsimp only [List.set]); first | exact ⟨[_, _, _, _], rfl⟩ | exact ⟨[_, _, _, _, _], rfl⟩) (by (try dsimp only [List.set]); repeat (first | with_reducible exact List.mem_cons_self | with_reducible apply List.mem_cons_of_mem))) ?_
        clear hs hK K
        have hs := h
        clear h
        try dsimp only [List.set] at hs
        try go_simp
        refine tree_one_yes (o := _) rfl rfl (fun K hK => ?_) (cS _ _ hs (by (try dsimp only [List.set]); first | exact ⟨[_, _, _, _], rfl⟩ | exact ⟨[_, _, _, _, _], rfl⟩) (by (try dsimp only [List.set]); repeat (first | with_reducible exact List.mem_cons_self | with_reducible apply List.mem_cons_of_mem)))
        refine op_append (hs.pick (A := own (.slice A' i c') 107 i 5 (csC (s.L.take i))) (by repeat (first | with_reducible exact Pick.here | with_reducible apply Pick.there))) rfl Tryd.underlying37 Tryd.underlying37 info_rcell rfl (by omega) (k := 0) rfl rfl rfl (Has.of (A := row b26 (cC x) 107) (by (try dsimp only [List.set]); repeat (first | with_reducible exact List.mem_cons_self | with_reducible apply List.mem_cons_of_mem)) fun F hF => own_sliceAt F (own_exact (n := 1) (sz := 5) rfl (by omega) F hF)) (cC_one x) (by omega) (by omega) fun v27 w2 h => hK _ _ (cS _ _ h (by (try dsimp only [List.set]); first | exact ⟨[_, _, _, _], rfl⟩ | exact ⟨[_, _, _, _, _], rfl⟩) (by (try dsimp only [List.set]); repeat (first | with_reducible exact List.mem_cons_self | with_reducible apply List.mem_cons_of_mem))) ?_
        clear hs hK K
        have hs := h
        clear h
        try dsimp only [List.set] at hs
        obtain ⟨A27, c27, rfl, _, _⟩ := own_slice hs (i := 0) rfl
        try go_simp
        repeat (first
          | (with_reducible refine tree_load (o := ⟨some 22, .load _ _, _, _, _, _⟩) rfl rfl rfl rfl rfl d22 ?_)
          | (with_reducible refine tree_load_agg (o := ⟨some 25, .load _ _, _, _, _, _⟩) (cC x) rfl rfl rfl rfl ?_ ?_ d25 ?_; (kernel_rfl); (kernel_rfl))
          | (refine tree_take rfl (fun K hK => ?_); go_simp; (first | with_reducible refine hK _ ?_ | (rw [if_neg (by decide)]; with_reducible refine hK _ ?_)); clear hK K))
        refine tree_one_yes (o := _) rfl rfl (fun K hK => ?_) (cS _ _ hs (by (try dsimp only [List.set]); first | exact ⟨[_, _, _, _], rfl⟩ | exact ⟨[_, _, _, _, _], rfl⟩) (by (try dsimp only [List.set]); repeat (first | with_reducible exact List.mem_cons_self | with_reducible apply List.mem_cons_of_mem)))
        refine op_store (hs.pick (A := row b3 (rowR s.last s.epoch s.low (.slice A' i c')) 39) (by repeat (first | with_reducible exact Pick.here | with_reducible apply Pick.there))) rfl (b := b3) (i := 3) (v := .slice A27 (i + 1) c27) rfl rfl rfl (by kernel_rfl) (k := 0) rfl (by simp [rowR]) fun w7 h => hK _ _ (cS _ _ h (by (try dsimp only [List.set]); first | exact ⟨[_, _, _, _], rfl⟩ | exact ⟨[_, _, _, _, _], rfl⟩) (by (try dsimp only [List.set]); repeat (first | with_reducible exact List.mem_cons_self | with_reducible apply List.mem_cons_of_mem))) ?_
        clear hs hK K
        have hs := h
        clear h
        try dsimp only [List.set] at hs
        change Sat W _ (row b3 (rowR s.last s.epoch s.low (.slice A27 (i + 1) c27)) 39 :: _) at hs
        try go_simp
        refine tree_done ?_
        clear hq
        go_wp2_with fail
        refine ⟨⟨i + 1, .slice A27 (i + 1) c27, by omega, by go_num, ?_⟩, by simp only [intOf]; omega⟩
        rw [hsn.out]
        exact hs.pack (by repeat (first | with_reducible exact Pack.refl | with_reducible exact Pack.nil | with_reducible refine Pack.cons (by repeat (first | with_reducible exact Pick.here | with_reducible apply Pick.there)) ?_ | with_reducible apply Pack.drop))
      · refine op_lit_agg1 hs rfl Tryd.underlying37 info_rcell (cC x) rfl rfl (by omega) (by omega) fun b26 w1 h => hK _ _ (cS _ _ h (by (try dsimp only [List.set]); first | exact ⟨[_, _, _, _], rfl⟩ | exact ⟨[_, _, _, _, _], rfl⟩) (by (try dsimp only [List.set]); repeat (first | with_reducible exact List.mem_cons_self | with_reducible apply List.mem_cons_of_mem))) ?_
        clear hs hK K
        have hs := h
        clear h
        try dsimp only [List.set] at hs
        try go_simp
        refine tree_one_yes (o := _) rfl rfl (fun K hK => ?_) (cS _ _ hs (by (try dsimp only [List.set]); first | exact ⟨[_, _, _, _], rfl⟩ | exact ⟨[_, _, _, _, _], rfl⟩) (by (try dsimp only [List.set]); repeat (first | with_reducible exact List.mem_cons_self | with_reducible apply List.mem_cons_of_mem)))
        refine op_load rfl (ad := ⟨b3, 3, none⟩) rfl (by kernel_rfl) (hs.cell (l := (rowR s.last s.epoch s.low (.slice A' i c'))) (t := 39) (by (try dsimp only [List.set]); repeat (first | with_reducible exact List.mem_cons_self | with_reducible apply List.mem_cons_of_mem)) rfl) (hK _ _ (cS _ _ hs (by (try dsimp only [List.set]); first | exact ⟨[_, _, _, _], rfl⟩ | exact ⟨[_, _, _, _, _], rfl⟩) (by (try dsimp only [List.set]); repeat (first | with_reducible exact List.mem_cons_self | with_reducible apply List.mem_cons_of_mem))) ?_)
        clear hK K
        try go_simp
        refine tree_one_yes (o := _) rfl rfl (fun K hK => ?_) (cS _ _ hs (by (try dsimp only [List.set]); first | exact ⟨[_, _, _, _], rfl⟩ | exact ⟨[_, _, _, _, _], rfl⟩) (by (try dsimp only [List.set]); repeat (first | with_reducible exact List.mem_cons_self | with_reducible apply List.mem_cons_of_mem)))
        refine op_append (hs.pick (A := own (.slice A' i c') 107 i 5 (csC (s.L.take i))) (by repeat (first | with_reducible exact Pick.here | with_reducible apply Pick.there))) rfl Tryd.underlying37 Tryd.underlying37 info_rcell rfl (by omega) (k := 0) rfl rfl rfl (Has.of (A := row b26 (cC x) 107) (by (try dsimp only [List.set]); repeat (first | with_reducible exact List.mem_cons_self | with_reducible apply List.mem_cons_of_mem)) fun F hF => own_sliceAt F (own_exact (n := 1) (sz := 5) rfl (by omega) F hF)) (cC_one x) (by omega) (by omega) fun v27 w2 h => hK _ _ (cS _ _ h (by (try dsimp only [List.set]); first | exact ⟨[_, _, _, _], rfl⟩ | exact ⟨[_, _, _, _, _], rfl⟩) (by (try dsimp only [List.set]); repeat (first | with_reducible exact List.mem_cons_self | with_reducible apply List.mem_cons_of_mem))) ?_
        clear hs hK K
        have hs := h
        clear h
        try dsimp only [List.set] at hs
        obtain ⟨A27, c27, rfl, _, _⟩ := own_slice hs (i := 0) rfl
        try go_simp
        repeat (first
          | (with_reducible refine tree_load (o := ⟨some 22, .load _ _, _, _, _, _⟩) rfl rfl rfl rfl rfl d22 ?_)
          | (with_reducible refine tree_load_agg (o := ⟨some 25, .load _ _, _, _, _, _⟩) (cC x) rfl rfl rfl rfl ?_ ?_ d25 ?_; (kernel_rfl); (kernel_rfl))
          | (refine tree_take rfl (fun K hK => ?_); go_simp; (first | with_reducible refine hK _ ?_ | (rw [if_neg (by decide)]; with_reducible refine hK _ ?_)); clear hK K))
        refine tree_one_yes (o := _) rfl rfl (fun K hK => ?_) (cS _ _ hs (by (try dsimp only [List.set]); first | exact ⟨[_, _, _, _], rfl⟩ | exact ⟨[_, _, _, _, _], rfl⟩) (by (try dsimp only [List.set]); repeat (first | with_reducible exact List.mem_cons_self | with_reducible apply List.mem_cons_of_mem)))
        refine op_store (hs.pick (A := row b3 (rowR s.last s.epoch s.low (.slice A' i c')) 39) (by repeat (first | with_reducible exact Pick.here | with_reducible apply Pick.there))) rfl (b := b3) (i := 3) (v := .slice A27 (i + 1) c27) rfl rfl rfl (by kernel_rfl) (k := 0) rfl (by simp [rowR]) fun w7 h => hK _ _ (cS _ _ h (by (try dsimp only [List.set]); first | exact ⟨[_, _, _, _], rfl⟩ | exact ⟨[_, _, _, _, _], rfl⟩) (by (try dsimp only [List.set]); repeat (first | with_reducible exact List.mem_cons_self | with_reducible apply List.mem_cons_of_mem))) ?_
        clear hs hK K
        have hs := h
        clear h
        try dsimp only [List.set] at hs
        change Sat W _ (row b3 (rowR s.last s.epoch s.low (.slice A27 (i + 1) c27)) 39 :: _) at hs
        try go_simp
        refine tree_done ?_
        clear hq
        go_wp2_with fail
        refine ⟨⟨i + 1, .slice A27 (i + 1) c27, by omega, by go_num, ?_⟩, by simp only [intOf]; omega⟩
        rw [hsn.out]
        exact hs.pack (by repeat (first | with_reducible exact Pack.refl | with_reducible exact Pack.nil | with_reducible refine Pack.cons (by repeat (first | with_reducible exact Pick.here | with_reducible apply Pick.there)) ?_ | with_reducible apply Pack.drop))
    · have hltI : ¬ (i : Int) < (s.L.length : Int) := by omega
      have hin : i = s.L.length := by omega
      subst hin
      rw [List.take_length] at hs
      go_wp2_with (first
        | (guard_target = wpList _ _ _ (⟨some 14, .load _ _, _, _, _, _⟩ :: _) _ _; refine wpl (o := ⟨some 14, .load _ _, _, _, _, _⟩) rfl fun K hK => op_load rfl (ad := ⟨b1, 3, none⟩) rfl (by kernel_rfl) (hs.cell (l := stC s (.slice A s.L.length ca)) (t := 43) (by (try dsimp only [List.set]); repeat (first | with_reducible exact List.mem_cons_self | with_reducible apply List.mem_cons_of_mem)) rfl) (hK _ _ ?_); clear hK K)
        | (guard_target = wpList _ _ _ (⟨some 29, .load _ _, _, _, _, _⟩ :: _) _ _; refine wpl (o := ⟨some 29, .load _ _, _, _, _, _⟩) rfl fun K hK => op_load_agg rfl (b := b3) (i := 0) rfl ((rowR s.last s.epoch s.low (.slice A' s.L.length c'))) (range_whole hs (by (try dsimp only [List.set]); repeat (first | with_reducible exact List.mem_cons_self | with_reducible apply List.mem_cons_of_mem))) (by kernel_rfl) (by kernel_rfl) (hK _ _ ?_); clear hK K)
        | (guard_target = wpList _ _ _ (⟨none, .store _ (.tmp 2) _, _, _, _, _⟩ :: _) _ _; refine wpl (o := ⟨none, .store _ (.tmp 2) _, _, _, _, _⟩) rfl fun K hK => ?_; go_must (refine op_store_whole (hs.pick (A := row b2 [Value.int .i64 0, .int .u32 0, .int .u32 0, .slice none 0 0] 39) (by repeat (first | with_reducible exact Pick.here | with_reducible apply Pick.there))) (b := b2) rfl rfl (rowR s.last s.epoch s.low (.slice A' s.L.length c')) rfl (by simp [rowR, Value.oneCell']) (by kernel_rfl) (k := 0) rfl rfl fun w9 h => hK _ _ ?_); clear hs hK K; have hs := h; clear h; dsimp only [List.set] at hs))
      exact bodyPost_ret (run_results_cell rfl (b := b2) rfl (rowR s.last s.epoch s.low (.slice A' s.L.length c')) (range_whole hs m0) (by kernel_rfl) (by kernel_rfl)) rfl ⟨.slice A' s.L.length c', rfl, hs.pack (by repeat (first | with_reducible exact Pack.refl | with_reducible exact Pack.nil | with_reducible refine Pack.cons (by repeat (first | with_reducible exact Pick.here | with_reducible apply Pick.there)) ?_ | with_reducible apply Pack.drop))⟩
end Go.Proofs.YthjnefpnnifjiaaDoor
