/- The contracts of slot.reader, slot.One and slot.Load. -/
import Derived.Test.YtfpgmnnecnaheaaSlRead
import Derived.Test.YtfpgmnnecnaheaaSlOneP
set_option linter.unusedVariables false
set_option linter.unusedSimpArgs false
namespace Go.Proofs.Ytfpgmnnecnaheaa
open Go.RowKit
theorem parse_body {P : List UInt8} (h : P.length = 64) : (Fr.parse P).body.length ≤ 64 ∧ (Fr.parse P).epoch < 4294967296 ∧ (Fr.parse P).Ok := by
  have h0 : (Fr.parse P).Ok := by
    unfold Fr.parse
    split
    · exact Fr.told_ok P
    · exact ⟨by show 0 < 4294967296; omega, by show 0 < 4294967296; omega⟩
  refine ⟨?_, h0.1, h0⟩
  unfold Fr.parse
  split
  · show ((P.drop 10).take (P.getD 9 0).toNat).length ≤ 64
    rw [List.length_take, List.length_drop]; omega
  · show (0 : Nat) ≤ 64
    omega
set_option maxRecDepth 100000 in
set_option maxHeartbeats 2000000 in
theorem reader_spec (W w : World) (L : List HP) (hs : Sat W w L) (b : Nat) (first size : Int) (which : Nat) :
    Calls Try.prog 49 #[.pointer (some ⟨b, 0, none⟩), .agg (areaC first size).toArray, .int .i64 (which : Nat)] w fun e w' => ∃ bi ba bd bw bg, e = .returned (.func (.func 70) #[] #[.pointer (some ⟨bi, 0, none⟩), .pointer (some ⟨ba, 0, none⟩), .pointer (some ⟨bd, 0, none⟩), .pointer (some ⟨bw, 0, none⟩), .pointer (some ⟨bg, 0, none⟩)]) ∧ Sat W w' (row bi [.int .i64 0] 3 :: row ba (areaC first size) 31 :: row bd [.pointer (some ⟨b, 0, none⟩)] 25 :: row bw [.int .i64 (which : Nat)] 3 :: row bg [.int .u32 0] 27 :: L) := by
  go_enter Try.func49, Try.ntmps49
  go_wp2_with (first
    | (guard_target = wpList _ _ _ (⟨some 3, .box _ _, _, _, _, _⟩ :: _) _ _; refine wpl (o := ⟨some 3, .box _ _, _, _, _, _⟩) rfl fun K hK => ?_; go_must (refine op_box hs rfl _ rfl [.pointer (some ⟨b, 0, none⟩)] rfl fun b3 w1 h => hK _ _ ?_); clear hs hK K; have hs := h; clear h; try dsimp only [List.set] at hs)
    | (guard_target = wpList _ _ _ (⟨some 4, .box _ _, _, _, _, _⟩ :: _) _ _; refine wpl (o := ⟨some 4, .box _ _, _, _, _, _⟩) rfl fun K hK => ?_; go_must (refine op_box hs rfl _ rfl (areaC first size) rfl fun b4 w1 h => hK _ _ ?_); clear hs hK K; have hs := h; clear h; try dsimp only [List.set] at hs)
    | (guard_target = wpList _ _ _ (⟨some 5, .box _ _, _, _, _, _⟩ :: _) _ _; refine wpl (o := ⟨some 5, .box _ _, _, _, _, _⟩) rfl fun K hK => ?_; go_must (refine op_box hs rfl _ rfl [.int .i64 (which : Nat)] rfl fun b5 w1 h => hK _ _ ?_); clear hs hK K; have hs := h; clear h; try dsimp only [List.set] at hs)
    | (guard_target = wpList _ _ _ (⟨some 7, .alloc _, _, _, _, _⟩ :: _) _ _; refine wpl (o := ⟨some 7, .alloc _, _, _, _, _⟩) rfl fun K hK => ?_; go_must (refine op_alloc hs rfl (.int .i64 0) (by kernel_rfl) [.int .i64 0] rfl fun b7 w1 h => hK _ _ ?_); clear hs hK K; have hs := h; clear h; try dsimp only [List.set] at hs)
    | (guard_target = wpList _ _ _ (⟨some 8, .alloc _, _, _, _, _⟩ :: _) _ _; refine wpl (o := ⟨some 8, .alloc _, _, _, _, _⟩) rfl fun K hK => ?_; go_must (refine op_alloc hs rfl (.int .u32 0) (by kernel_rfl) [.int .u32 0] rfl fun b8 w1 h => hK _ _ ?_); clear hs hK K; have hs := h; clear h; try dsimp only [List.set] at hs)
    | (guard_target = wpList _ _ _ (⟨none, .store _ (.tmp 7) _, _, _, _, _⟩ :: _) _ _; refine wpl (o := ⟨none, .store _ (.tmp 7) _, _, _, _, _⟩) rfl fun K hK => ?_; go_must (refine op_store (hs.pick (A := row b7 [.int .i64 0] 3) (by repeat (first | with_reducible exact Pick.here | with_reducible apply Pick.there))) rfl (b := b7) (i := 0) (v := .int .i64 0) rfl rfl rfl (by kernel_rfl) (k := 0) rfl (by simp) fun w5 h => hK _ _ ?_); clear hs hK K; have hs := h; clear h; try dsimp only [List.set] at hs)
    | (guard_target = wpList _ _ _ (⟨none, .store _ (.tmp 8) _, _, _, _, _⟩ :: _) _ _; refine wpl (o := ⟨none, .store _ (.tmp 8) _, _, _, _, _⟩) rfl fun K hK => ?_; go_must (refine op_store (hs.pick (A := row b8 [.int .u32 0] 27) (by repeat (first | with_reducible exact Pick.here | with_reducible apply Pick.there))) rfl (b := b8) (i := 0) (v := .int .u32 0) rfl rfl rfl (by kernel_rfl) (k := 0) rfl (by simp) fun w5 h => hK _ _ ?_); clear hs hK K; have hs := h; clear h; try dsimp only [List.set] at hs))
  go_ret
  exact ⟨b7, b4, b3, b5, b8, rfl, hs.pack (by repeat (first | with_reducible exact Pack.refl | with_reducible exact Pack.nil | with_reducible refine Pack.cons (by repeat (first | with_reducible exact Pick.here | with_reducible apply Pick.there)) ?_ | with_reducible apply Pack.drop))⟩
def slonePost (o : Option (Nat × List UInt8)) (W : World) (L : List HP) (e : Ending) (w' : World) : Prop := ∃ v, e = .returned (.tuple #[.int .u32 (slGen o : Nat), v, .bool o.isSome]) ∧ Sat W w' (bytesH v (slBody o) :: L)
theorem slnone_mk {W w : World} {L : List HP} (hs : Sat W w L) : Sat W w (bytesH (.slice none 0 0) (slBody none) :: L) := (hs.addNil none 5 1).sub (i := 0) rfl fun F hF => own_sliceAt F hF
set_option maxRecDepth 100000 in
set_option maxHeartbeats 4000000 in
theorem slone_none (W w : World) (L : List HP) (b : Nat) (D : Dk) (hs : Sat W w (disk b D :: L)) (first size which : Int) (hfi : first < 9223372036854775808) (hno : slMayB D.secs.length first size = false ∨ which < 0 ∨ 2 ≤ which) :
    Calls Try.prog 22 #[.pointer (some ⟨b, 0, none⟩), .agg (areaC first size).toArray, .int .i64 which] w (slonePost none W (disk b D :: L)) := by
  cases hm : slMayB D.secs.length first size
  · have hM := Box.mk hm
    clear hm hno
    go_enter Try.func22, Try.ntmps22
    go_wp2_with (first
      | (guard_target = wpList _ _ _ (⟨some 4, .box _ _, _, _, _, _⟩ :: _) _ _; refine wpl (o := ⟨some 4, .box _ _, _, _, _, _⟩) rfl fun K hK => ?_; go_must (refine op_box hs rfl _ rfl (areaC first size) rfl fun b4 w1 h => hK _ _ ?_); clear hs hK K; have hs := h; clear h; try dsimp only [List.set] at hs)
      | (guard_target = wpList _ _ _ (⟨some 13, .load _ _, _, _, _, _⟩ :: _) _ _; refine wpl (o := ⟨some 13, .load _ _, _, _, _, _⟩) rfl fun K hK => op_load_agg rfl (b := b4) (i := 0) rfl (areaC first size) (range_whole hs (by (try dsimp only [List.set]); repeat (first | with_reducible exact List.mem_cons_self | with_reducible apply List.mem_cons_of_mem))) (by kernel_rfl) (by kernel_rfl) (hK _ _ ?_); clear hK K)
      | (go_at_call 45; go_must (refine (slmay_spec W _ _ b D (hs.pick (A := disk b D) (by repeat (first | with_reducible exact Pick.here | with_reducible apply Pick.there))) first size hfi).mono ?_); clear hs; rintro e w1 ⟨rfl, hs⟩; rw [hM.out]))
    (try simp only [Exit.inBlock, Exit.then])
    refine bodyPost_ret (res_tmp3 rfl _ _ _) rfl ?_
    exact ⟨.slice none 0 0, rfl, (slnone_mk hs).pack (by repeat (first | with_reducible exact Pack.refl | with_reducible exact Pack.nil | with_reducible refine Pack.cons (by repeat (first | with_reducible exact Pick.here | with_reducible apply Pick.there)) ?_ | with_reducible apply Pack.drop))⟩
  · have hM := Box.mk hm
    have h2 : which < 0 ∨ 2 ≤ which := by
      rcases hno with h | h
      · rw [hm] at h; cases h
      · exact h
    clear hm hno
    by_cases h3 : which < 0
    · clear h2
      go_enter Try.func22, Try.ntmps22
      go_wp2_with (first
        | (guard_target = wpList _ _ _ (⟨some 4, .box _ _, _, _, _, _⟩ :: _) _ _; refine wpl (o := ⟨some 4, .box _ _, _, _, _, _⟩) rfl fun K hK => ?_; go_must (refine op_box hs rfl _ rfl (areaC first size) rfl fun b4 w1 h => hK _ _ ?_); clear hs hK K; have hs := h; clear h; try dsimp only [List.set] at hs)
        | (guard_target = wpList _ _ _ (⟨some 13, .load _ _, _, _, _, _⟩ :: _) _ _; refine wpl (o := ⟨some 13, .load _ _, _, _, _, _⟩) rfl fun K hK => op_load_agg rfl (b := b4) (i := 0) rfl (areaC first size) (range_whole hs (by (try dsimp only [List.set]); repeat (first | with_reducible exact List.mem_cons_self | with_reducible apply List.mem_cons_of_mem))) (by kernel_rfl) (by kernel_rfl) (hK _ _ ?_); clear hK K)
        | (go_at_call 45; go_must (refine (slmay_spec W _ _ b D (hs.pick (A := disk b D) (by repeat (first | with_reducible exact Pick.here | with_reducible apply Pick.there))) first size hfi).mono ?_); clear hs; rintro e w1 ⟨rfl, hs⟩; rw [hM.out]))
      (try simp only [Exit.inBlock, Exit.then])
      refine bodyPost_ret (res_tmp3 rfl _ _ _) rfl ?_
      exact ⟨.slice none 0 0, rfl, (slnone_mk hs).pack (by repeat (first | with_reducible exact Pack.refl | with_reducible exact Pack.nil | with_reducible refine Pack.cons (by repeat (first | with_reducible exact Pick.here | with_reducible apply Pick.there)) ?_ | with_reducible apply Pack.drop))⟩
    · have h4 : 2 ≤ which := by omega
      clear h2
      go_enter Try.func22, Try.ntmps22
      go_wp2_with (first
        | (guard_target = wpList _ _ _ (⟨some 4, .box _ _, _, _, _, _⟩ :: _) _ _; refine wpl (o := ⟨some 4, .box _ _, _, _, _, _⟩) rfl fun K hK => ?_; go_must (refine op_box hs rfl _ rfl (areaC first size) rfl fun b4 w1 h => hK _ _ ?_); clear hs hK K; have hs := h; clear h; try dsimp only [List.set] at hs)
        | (guard_target = wpList _ _ _ (⟨some 13, .load _ _, _, _, _, _⟩ :: _) _ _; refine wpl (o := ⟨some 13, .load _ _, _, _, _, _⟩) rfl fun K hK => op_load_agg rfl (b := b4) (i := 0) rfl (areaC first size) (range_whole hs (by (try dsimp only [List.set]); repeat (first | with_reducible exact List.mem_cons_self | with_reducible apply List.mem_cons_of_mem))) (by kernel_rfl) (by kernel_rfl) (hK _ _ ?_); clear hK K)
        | (go_at_call 45; go_must (refine (slmay_spec W _ _ b D (hs.pick (A := disk b D) (by repeat (first | with_reducible exact Pick.here | with_reducible apply Pick.there))) first size hfi).mono ?_); clear hs; rintro e w1 ⟨rfl, hs⟩; rw [hM.out]))
      (try simp only [Exit.inBlock, Exit.then])
      refine bodyPost_ret (res_tmp3 rfl _ _ _) rfl ?_
      exact ⟨.slice none 0 0, rfl, (slnone_mk hs).pack (by repeat (first | with_reducible exact Pack.refl | with_reducible exact Pack.nil | with_reducible refine Pack.cons (by repeat (first | with_reducible exact Pick.here | with_reducible apply Pick.there)) ?_ | with_reducible apply Pack.drop))⟩
set_option maxRecDepth 100000 in
set_option maxHeartbeats 2000000 in
theorem slone_nil (W w : World) (L : List HP) (hs : Sat W w L) (first size which : Int) (hfi : first < 9223372036854775808) :
    Calls Try.prog 22 #[.pointer none, .agg (areaC first size).toArray, .int .i64 which] w (slonePost none W L) := by
  go_enter Try.func22, Try.ntmps22
  go_wp2_with (first
    | (guard_target = wpList _ _ _ (⟨some 4, .box _ _, _, _, _, _⟩ :: _) _ _; refine wpl (o := ⟨some 4, .box _ _, _, _, _, _⟩) rfl fun K hK => ?_; go_must (refine op_box hs rfl _ rfl (areaC first size) rfl fun b4 w1 h => hK _ _ ?_); clear hs hK K; have hs := h; clear h; try dsimp only [List.set] at hs)
    | (guard_target = wpList _ _ _ (⟨some 13, .load _ _, _, _, _, _⟩ :: _) _ _; refine wpl (o := ⟨some 13, .load _ _, _, _, _, _⟩) rfl fun K hK => op_load_agg rfl (b := b4) (i := 0) rfl (areaC first size) (range_whole hs (by (try dsimp only [List.set]); repeat (first | with_reducible exact List.mem_cons_self | with_reducible apply List.mem_cons_of_mem))) (by kernel_rfl) (by kernel_rfl) (hK _ _ ?_); clear hK K)
    | (go_at_call 45; go_must (refine (slmay_nil W _ _ hs first size hfi).mono ?_); clear hs; rintro e w1 ⟨rfl, hs⟩))
  (try simp only [Exit.inBlock, Exit.then])
  refine bodyPost_ret (res_tmp3 rfl _ _ _) rfl ?_
  exact ⟨.slice none 0 0, rfl, (slnone_mk hs).pack (by repeat (first | with_reducible exact Pack.refl | with_reducible exact Pack.nil | with_reducible refine Pack.cons (by repeat (first | with_reducible exact Pick.here | with_reducible apply Pick.there)) ?_ | with_reducible apply Pack.drop))⟩
set_option maxRecDepth 100000 in
set_option maxHeartbeats 6000000 in
theorem slone_spec (W w : World) (L : List HP) (b : Nat) (D : Dk) (hs : Sat W w (disk b D :: L)) (first size which : Nat) (hm : slMayB D.secs.length (first : Nat) (size : Nat) = true) (hwh : which ≤ 1) (hr : D.row.length ≤ 1000000) :
    Calls Try.prog 22 #[.pointer (some ⟨b, 0, none⟩), .agg (areaC (first : Nat) (size : Nat)).toArray, .int .i64 (which : Nat)] w (slonePost (slHas D first size which) W (disk b D :: L)) := by
  have okD := hs.disk_open.1
  have hfew := okD.few
  have hm2 : first + 2 * size ≤ D.secs.length ∧ 1 ≤ size := by
    unfold slMayB at hm
    have := of_decide_eq_true hm
    omega
  have hM := Box.mk hm
  clear hm
  obtain ⟨hpl, hs1⟩ := hm2
  have hsz : size ≤ 1024 := by omega
  have hf1 : first ≤ 1024 := by omega
  have hPL := Box.mk hpl
  clear hpl
  have hw1I : ¬ (which : Int) < 0 := by omega
  have hw2I : ¬ (2 : Int) ≤ (which : Int) := by omega
  go_enter Try.func22, Try.ntmps22
  go_wp2_with (first
    | (guard_target = wpList _ _ _ (⟨some 4, .box _ _, _, _, _, _⟩ :: _) _ _; refine wpl (o := ⟨some 4, .box _ _, _, _, _, _⟩) rfl fun K hK => ?_; go_must (refine op_box hs rfl _ rfl (areaC (first : Nat) (size : Nat)) rfl fun b4 w1 h => hK _ _ ?_); clear hs hK K; have hs := h; clear h; try dsimp only [List.set] at hs)
    | (guard_target = wpList _ _ _ (⟨some 13, .load _ _, _, _, _, _⟩ :: _) _ _; refine wpl (o := ⟨some 13, .load _ _, _, _, _, _⟩) rfl fun K hK => op_load_agg rfl (b := b4) (i := 0) rfl (areaC (first : Nat) (size : Nat)) (range_whole hs (by (try dsimp only [List.set]); repeat (first | with_reducible exact List.mem_cons_self | with_reducible apply List.mem_cons_of_mem))) (by kernel_rfl) (by kernel_rfl) (hK _ _ ?_); clear hK K)
    | (go_at_call 45; go_must (refine (slmay_spec W _ _ b D (hs.pick (A := disk b D) (by repeat (first | with_reducible exact Pick.here | with_reducible apply Pick.there))) (first : Nat) (size : Nat) (by omega)).mono ?_); clear hs; rintro e w1 ⟨rfl, hs⟩; rw [hM.out])
    | (guard_target = wpList _ _ _ (⟨some 26, .load _ _, _, _, _, _⟩ :: _) _ _; refine wpl (o := ⟨some 26, .load _ _, _, _, _, _⟩) rfl fun K hK => op_load_agg rfl (b := b4) (i := 0) rfl (areaC (first : Nat) (size : Nat)) (range_whole hs (by (try dsimp only [List.set]); repeat (first | with_reducible exact List.mem_cons_self | with_reducible apply List.mem_cons_of_mem))) (by kernel_rfl) (by kernel_rfl) (hK _ _ ?_); clear hK K)
    | (go_at_call 49; go_must (refine (reader_spec W _ _ hs b (first : Nat) (size : Nat) which).mono ?_); clear hs; rintro e w1 ⟨bi, ba, bd, bw, bg, rfl, hs⟩))
  have hs0 := (hs.addNil none 5 1).pack (L := own (.slice none 0 0) 5 0 1 [] :: row bi [.int .i64 0] 3 :: row ba (areaC (first : Nat) (size : Nat)) 31 :: row bd [.pointer (some ⟨b, 0, none⟩)] 25 :: row bw [.int .i64 (which : Nat)] 3 :: row bg [.int .u32 0] 27 :: disk b D :: L) (by repeat (first | with_reducible exact Pack.refl | with_reducible exact Pack.nil | with_reducible refine Pack.cons (by repeat (first | with_reducible exact Pick.here | with_reducible apply Pick.there)) ?_ | with_reducible apply Pack.drop))
  clear hs
  have hs : Sat W w1 (own (.slice none 0 0) 5 ([] : List UInt8).length 1 (u8s []) :: row bi [.int .i64 ((0 : Nat) : Int)] 3 :: row ba (areaC (first : Nat) (size : Nat)) 31 :: row bd [.pointer (some ⟨b, 0, none⟩)] 25 :: row bw [.int .i64 (which : Nat)] 3 :: row bg [.int .u32 ((0 : Nat) : Int)] 27 :: disk b D :: L) := hs0
  clear hs0
  go_loopw [9] (fun v9 wr => ∃ (i gen : Nat) (body : List UInt8), i ≤ size ∧ gen < 4294967296 ∧ body.length ≤ 64 * i ∧ slHas D first size which = slOne (fun i => D.read (first + size * which + i)) which (size - i) i gen body ∧ Sat W wr (own v9 5 body.length 1 (u8s body) :: row bi [.int .i64 (i : Nat)] 3 :: row ba (areaC (first : Nat) (size : Nat)) 31 :: row bd [.pointer (some ⟨b, 0, none⟩)] 25 :: row bw [.int .i64 (which : Nat)] 3 :: row bg [.int .u32 (gen : Nat)] 27 :: disk b D :: L)) (fun _ wr => size + 1 - (intOf ((wr.cell? ⟨bi, 0, none⟩).getD undef)).toNat)
  case atStart => exact ⟨0, 0, [], by omega, by omega, by simp, rfl, hs⟩
  case round =>
    clear hs
    obtain ⟨i, gen, body, hi, hg, hbl, heq, hs⟩ := hrel
    obtain ⟨A9, c9, rfl, _, _⟩ := own_slice hs (i := 0) rfl
    have hcell : wr.cell? ⟨bi, 0, none⟩ = some (.int .i64 (i : Nat)) := hs.cell (t := 3) m1 rfl
    rw [hcell]
    clear hcell
    have HEQ := Box.mk heq
    clear heq
    by_cases hlt : i < size
    · obtain ⟨k, hk⟩ : ∃ k, size - i = k + 1 := ⟨size - i - 1, by omega⟩
      have hk2 : size - (i + 1) = k := by omega
      have hadr : first + size * which + i < D.secs.length := by
        have : size * which ≤ size * 1 := Nat.mul_le_mul_left _ hwh
        have := hPL.out
        omega
      have hlen := Dk.read_len okD hadr
      obtain ⟨p1, p2, p3⟩ := parse_body hlen
      have hone := HEQ.out
      rw [hk] at hone
      unfold slOne at hone
      dsimp only at hone
      have HRD := Box.mk (fun w (L : List HP) hs => reader1_spec W w L bi ba bd bw bg b D first size which i gen hs hlt hPL.out hwh hg hr)
      generalize D.read (first + size * which + i) = P at hlen p1 p2 p3 hone HRD
      generalize Fr.parse P = f at p1 p2 p3 hone HRD
      generalize Fr.code P = code at hone HRD
      have hgb : (if i = 0 then f.epoch else gen) < 4294967296 := by split <;> assumption
      have hge : slNext which i (if i = 0 then f.epoch else gen) f code = true → f.epoch = (if i = 0 then f.epoch else gen) := fun h => by
        unfold slNext at h
        simp only [Bool.and_eq_true, decide_eq_true_eq] at h
        exact h.1.1.2
      generalize (if i = 0 then f.epoch else gen) = g at hone HRD hgb hge
      obtain ⟨ok, hok⟩ : ∃ ok, slNext which i g f code = ok := ⟨_, rfl⟩
      rw [hok] at hone hge HRD
      have HONE := Box.mk hone
      have HGE := Box.mk hge
      clear hone hge hok
      obtain ⟨r2, hr2, hrb⟩ := flag_bit f.flag 2
      have hr2' : (bits .and .u8 (f.flag.toNat : Int) 2 != 0) = r2 := hr2
      clear hr2
      have HRB := Box.mk hrb
      clear hrb
      cases ok
      · have hres := HONE.out
        rw [if_neg (by simp)] at hres
        have HRES := Box.mk hres
        go_wp2_with (first
          | (go_at_call 70; go_must (refine (HRD.out _ _ (hs.pack (L := row bi [.int .i64 (i : Nat)] 3 :: row ba (areaC (first : Nat) (size : Nat)) 31 :: row bd [.pointer (some ⟨b, 0, none⟩)] 25 :: row bw [.int .i64 (which : Nat)] 3 :: row bg [.int .u32 (gen : Nat)] 27 :: disk b D :: own (.slice A9 body.length c9) 5 body.length 1 (u8s body) :: L) (by repeat (first | with_reducible exact Pack.refl | with_reducible exact Pack.nil | with_reducible refine Pack.cons (by repeat (first | with_reducible exact Pick.here | with_reducible apply Pick.there)) ?_ | with_reducible apply Pack.drop)))).mono ?_); clear hs; rintro e w1 ⟨vx, rfl, hs⟩
             obtain ⟨Ax, cx, rfl, _, _⟩ := slice_form (hs.bytes (bytesH_has 0 rfl)))
          | (guard_target = wpList _ _ _ (⟨some 11, .alloc _, _, _, _, _⟩ :: _) _ _; refine wpl (o := ⟨some 11, .alloc _, _, _, _, _⟩) rfl fun K hK => ?_; go_must (refine op_alloc hs rfl _ zframe [.int .u32 0, .int .u32 0, .int .u8 0, .slice none 0 0] rfl fun b11 w1 h => hK _ _ ?_); clear hs hK K; have hs := h; clear h; try dsimp only [List.set] at hs)
          | (guard_target = wpList _ _ _ (⟨none, .store _ (.tmp 11) _, _, _, _, _⟩ :: _) _ _; refine wpl (o := ⟨none, .store _ (.tmp 11) _, _, _, _, _⟩) rfl fun K hK => ?_; go_must (refine op_store_whole hs (b := b11) rfl rfl (frCells f (.slice Ax f.body.length cx)) rfl (by simp [frCells, Value.oneCell']) (by kernel_rfl) (k := 0) rfl rfl fun w3 h => hK _ _ ?_); clear hs hK K; have hs := h; clear h; try dsimp only [List.set] at hs))
        (try simp only [Exit.inBlock, Exit.then])
        refine bodyPost_ret (res_tmp3 rfl _ _ _) rfl ?_
        rw [HRES.out]
        exact ⟨.slice none 0 0, rfl, (slnone_mk hs).pack (by repeat (first | with_reducible exact Pack.refl | with_reducible exact Pack.nil | with_reducible refine Pack.cons (by repeat (first | with_reducible exact Pick.here | with_reducible apply Pick.there)) ?_ | with_reducible apply Pack.drop))⟩
      · have hep := HGE.out rfl
        have hone2 := HONE.out
        rw [if_pos rfl, HRB.out] at hone2
        have HONE2 := Box.mk hone2
        clear hone2
        subst hep
        cases r2
        · have hnext := HONE2.out
          rw [if_neg (by simp)] at hnext
          have HN := Box.mk hnext
          clear hnext
          go_wp2_with (first
            | (go_at_call 70; go_must (refine (HRD.out _ _ (hs.pack (L := row bi [.int .i64 (i : Nat)] 3 :: row ba (areaC (first : Nat) (size : Nat)) 31 :: row bd [.pointer (some ⟨b, 0, none⟩)] 25 :: row bw [.int .i64 (which : Nat)] 3 :: row bg [.int .u32 (gen : Nat)] 27 :: disk b D :: own (.slice A9 body.length c9) 5 body.length 1 (u8s body) :: L) (by repeat (first | with_reducible exact Pack.refl | with_reducible exact Pack.nil | with_reducible refine Pack.cons (by repeat (first | with_reducible exact Pick.here | with_reducible apply Pick.there)) ?_ | with_reducible apply Pack.drop)))).mono ?_); clear hs; rintro e w1 ⟨vx, rfl, hs⟩
               obtain ⟨Ax, cx, rfl, _, _⟩ := slice_form (hs.bytes (bytesH_has 0 rfl)))
            | (guard_target = wpList _ _ _ (⟨some 11, .alloc _, _, _, _, _⟩ :: _) _ _; refine wpl (o := ⟨some 11, .alloc _, _, _, _, _⟩) rfl fun K hK => ?_; go_must (refine op_alloc hs rfl _ zframe [.int .u32 0, .int .u32 0, .int .u8 0, .slice none 0 0] rfl fun b11 w1 h => hK _ _ ?_); clear hs hK K; have hs := h; clear h; try dsimp only [List.set] at hs)
            | (guard_target = wpList _ _ _ (⟨none, .store _ (.tmp 11) _, _, _, _, _⟩ :: _) _ _; refine wpl (o := ⟨none, .store _ (.tmp 11) _, _, _, _, _⟩) rfl fun K hK => ?_; go_must (refine op_store_whole hs (b := b11) rfl rfl (frCells f (.slice Ax f.body.length cx)) rfl (by simp [frCells, Value.oneCell']) (by kernel_rfl) (k := 0) rfl rfl fun w3 h => hK _ _ ?_); clear hs hK K; have hs := h; clear h; try dsimp only [List.set] at hs)
            | (guard_target = wpList _ _ _ (⟨some 38, .load _ _, _, _, _, _⟩ :: _) _ _; refine wpl (o := ⟨some 38, .load _ _, _, _, _, _⟩) rfl fun K hK => op_load rfl (ad := ⟨b11, 3, none⟩) rfl (by kernel_rfl) (hs.cell m0 rfl) (hK _ _ ?_); clear hK K)
            | (guard_target = wpList _ _ _ (⟨some 39, .call _, _, _, _, _⟩ :: _) _ _; refine wpl (o := ⟨some 39, .call _, _, _, _, _⟩) rfl fun K hK => ?_; go_must (refine op_append (hs.pick (A := own (.slice A9 body.length c9) 5 body.length 1 (u8s body)) (by repeat (first | with_reducible exact Pick.here | with_reducible apply Pick.there))) rfl Try.underlying23 Try.underlying23 info_u8 rfl (by omega) (k := 0) rfl rfl rfl (show Has _ (bytesAt (.slice Ax f.body.length cx) f.body) from bytesH_has 2 rfl) (u8s_one _) (by omega) (by omega) fun v39 w6 h => hK _ _ ?_); clear hs hK K; have hs := h; clear h; dsimp only [List.set] at hs
               obtain ⟨A39, c39, rfl, _, _⟩ := own_slice hs (i := 0) rfl
               have k41 := hs.cell (l := frCells f (.slice Ax f.body.length cx)) (t := 107) (b := b11) (i := 2) (by (try dsimp only [List.set]); repeat (first | with_reducible exact List.mem_cons_self | with_reducible apply List.mem_cons_of_mem)) rfl)
            | (guard_target = wpList _ _ _ (⟨some 41, .load _ _, _, _, _, _⟩ :: _) _ _; refine wpl (o := ⟨some 41, .load _ _, _, _, _, _⟩) rfl fun K hK => op_load rfl (ad := ⟨b11, 2, none⟩) rfl (by kernel_rfl) k41 (hK _ _ ?_); clear hK K))
          refine ⟨⟨i + 1, f.epoch, body ++ f.body, by omega, p2, by simp; omega, by rw [HN.out, hk2], ?_⟩, ?_⟩
          · have e1 : u8s body ++ u8s f.body = u8s (body ++ f.body) := by simp [u8s]
            rw [e1, ← List.length_append] at hs
            rw [List.length_append] at hs ⊢
            exact hs.pack (by repeat (first | with_reducible exact Pack.refl | with_reducible exact Pack.nil | with_reducible refine Pack.cons (by repeat (first | with_reducible exact Pick.here | with_reducible apply Pick.there)) ?_ | with_reducible apply Pack.drop))
          · have hc : ∀ w', Sat W w' (row bi [.int .i64 (i + 1 : Nat)] 3 :: L) → (w'.cell? ⟨bi, 0, none⟩) = some (.int .i64 (i + 1 : Nat)) := fun w' h => h.cell (t := 3) m0 rfl
            rw [hc _ (hs.pack (by repeat (first | with_reducible exact Pack.refl | with_reducible exact Pack.nil | with_reducible refine Pack.cons (by repeat (first | with_reducible exact Pick.here | with_reducible apply Pick.there)) ?_ | with_reducible apply Pack.drop)))]
            simp only [intOf, Option.getD_some]
            omega
        · have hlast := HONE2.out
          rw [if_pos rfl] at hlast
          have HN := Box.mk hlast
          clear hlast
          go_wp2_with (first
            | (go_at_call 70; go_must (refine (HRD.out _ _ (hs.pack (L := row bi [.int .i64 (i : Nat)] 3 :: row ba (areaC (first : Nat) (size : Nat)) 31 :: row bd [.pointer (some ⟨b, 0, none⟩)] 25 :: row bw [.int .i64 (which : Nat)] 3 :: row bg [.int .u32 (gen : Nat)] 27 :: disk b D :: own (.slice A9 body.length c9) 5 body.length 1 (u8s body) :: L) (by repeat (first | with_reducible exact Pack.refl | with_reducible exact Pack.nil | with_reducible refine Pack.cons (by repeat (first | with_reducible exact Pick.here | with_reducible apply Pick.there)) ?_ | with_reducible apply Pack.drop)))).mono ?_); clear hs; rintro e w1 ⟨vx, rfl, hs⟩
               obtain ⟨Ax, cx, rfl, _, _⟩ := slice_form (hs.bytes (bytesH_has 0 rfl)))
            | (guard_target = wpList _ _ _ (⟨some 11, .alloc _, _, _, _, _⟩ :: _) _ _; refine wpl (o := ⟨some 11, .alloc _, _, _, _, _⟩) rfl fun K hK => ?_; go_must (refine op_alloc hs rfl _ zframe [.int .u32 0, .int .u32 0, .int .u8 0, .slice none 0 0] rfl fun b11 w1 h => hK _ _ ?_); clear hs hK K; have hs := h; clear h; try dsimp only [List.set] at hs)
            | (guard_target = wpList _ _ _ (⟨none, .store _ (.tmp 11) _, _, _, _, _⟩ :: _) _ _; refine wpl (o := ⟨none, .store _ (.tmp 11) _, _, _, _, _⟩) rfl fun K hK => ?_; go_must (refine op_store_whole hs (b := b11) rfl rfl (frCells f (.slice Ax f.body.length cx)) rfl (by simp [frCells, Value.oneCell']) (by kernel_rfl) (k := 0) rfl rfl fun w3 h => hK _ _ ?_); clear hs hK K; have hs := h; clear h; try dsimp only [List.set] at hs)
            | (guard_target = wpList _ _ _ (⟨some 38, .load _ _, _, _, _, _⟩ :: _) _ _; refine wpl (o := ⟨some 38, .load _ _, _, _, _, _⟩) rfl fun K hK => op_load rfl (ad := ⟨b11, 3, none⟩) rfl (by kernel_rfl) (hs.cell m0 rfl) (hK _ _ ?_); clear hK K)
            | (guard_target = wpList _ _ _ (⟨some 39, .call _, _, _, _, _⟩ :: _) _ _; refine wpl (o := ⟨some 39, .call _, _, _, _, _⟩) rfl fun K hK => ?_; go_must (refine op_append (hs.pick (A := own (.slice A9 body.length c9) 5 body.length 1 (u8s body)) (by repeat (first | with_reducible exact Pick.here | with_reducible apply Pick.there))) rfl Try.underlying23 Try.underlying23 info_u8 rfl (by omega) (k := 0) rfl rfl rfl (show Has _ (bytesAt (.slice Ax f.body.length cx) f.body) from bytesH_has 2 rfl) (u8s_one _) (by omega) (by omega) fun v39 w6 h => hK _ _ ?_); clear hs hK K; have hs := h; clear h; dsimp only [List.set] at hs
               obtain ⟨A39, c39, rfl, _, _⟩ := own_slice hs (i := 0) rfl
               have k41 := hs.cell (l := frCells f (.slice Ax f.body.length cx)) (t := 107) (b := b11) (i := 2) (by (try dsimp only [List.set]); repeat (first | with_reducible exact List.mem_cons_self | with_reducible apply List.mem_cons_of_mem)) rfl
               have k45 := hs.cell (l := frCells f (.slice Ax f.body.length cx)) (t := 107) (b := b11) (i := 0) (by (try dsimp only [List.set]); repeat (first | with_reducible exact List.mem_cons_self | with_reducible apply List.mem_cons_of_mem)) rfl)
            | (guard_target = wpList _ _ _ (⟨some 41, .load _ _, _, _, _, _⟩ :: _) _ _; refine wpl (o := ⟨some 41, .load _ _, _, _, _, _⟩) rfl fun K hK => op_load rfl (ad := ⟨b11, 2, none⟩) rfl (by kernel_rfl) k41 (hK _ _ ?_); clear hK K)
            | (guard_target = wpList _ _ _ (⟨some 45, .load _ _, _, _, _, _⟩ :: _) _ _; refine wpl (o := ⟨some 45, .load _ _, _, _, _, _⟩) rfl fun K hK => op_load rfl (ad := ⟨b11, 0, none⟩) rfl (by kernel_rfl) k45 (hK _ _ ?_); clear hK K))
          (try simp only [Exit.inBlock, Exit.then])
          refine bodyPost_ret (res_tmp3 rfl _ _ _) rfl ?_
          rw [HN.out]
          refine ⟨.slice A39 (body.length + f.body.length) c39, rfl, ?_⟩
          have hs2 := hs.sub (i := 0) rfl (B := bytesH (.slice A39 (body.length + f.body.length) c39) (slBody (some (f.epoch, body ++ f.body)))) fun F hF => by
            have h9 := own_sliceAt F hF
            have e1 : u8s body ++ u8s f.body = u8s (body ++ f.body) := by simp [u8s]
            show sliceAt _ (body ++ f.body).length 1 (u8s (body ++ f.body)) F
            rw [List.length_append, ← e1]
            exact h9
          dsimp only [List.set] at hs2
          exact hs2.pack (by repeat (first | with_reducible exact Pack.refl | with_reducible exact Pack.nil | with_reducible refine Pack.cons (by repeat (first | with_reducible exact Pick.here | with_reducible apply Pick.there)) ?_ | with_reducible apply Pack.drop))
    · have hie : i = size := by omega
      have HRES : Box (slHas D first size which = none) := ⟨by rw [HEQ.out, show size - i = 0 by omega]; rfl⟩
      go_wp2_with (first
        | (go_at_call 70; go_must (refine (reader1_end W _ _ bi ba bd bw bg b first size which i gen (hs.pack (L := row bi [.int .i64 (i : Nat)] 3 :: row ba (areaC (first : Nat) (size : Nat)) 31 :: row bd [.pointer (some ⟨b, 0, none⟩)] 25 :: row bw [.int .i64 (which : Nat)] 3 :: row bg [.int .u32 (gen : Nat)] 27 :: disk b D :: own (.slice A9 body.length c9) 5 body.length 1 (u8s body) :: L) (by repeat (first | with_reducible exact Pack.refl | with_reducible exact Pack.nil | with_reducible refine Pack.cons (by repeat (first | with_reducible exact Pick.here | with_reducible apply Pick.there)) ?_ | with_reducible apply Pack.drop))) (by omega)).mono ?_); clear hs; rintro e w1 ⟨rfl, hs⟩)
        | (guard_target = wpList _ _ _ (⟨some 11, .alloc _, _, _, _, _⟩ :: _) _ _; refine wpl (o := ⟨some 11, .alloc _, _, _, _, _⟩) rfl fun K hK => ?_; go_must (refine op_alloc hs rfl _ zframe [.int .u32 0, .int .u32 0, .int .u8 0, .slice none 0 0] rfl fun b11 w1 h => hK _ _ ?_); clear hs hK K; have hs := h; clear h; try dsimp only [List.set] at hs)
        | (guard_target = wpList _ _ _ (⟨none, .store _ (.tmp 11) _, _, _, _, _⟩ :: _) _ _; refine wpl (o := ⟨none, .store _ (.tmp 11) _, _, _, _, _⟩) rfl fun K hK => ?_; go_must (refine op_store_whole hs (b := b11) rfl rfl [.int .u32 0, .int .u32 0, .int .u8 0, .slice none 0 0] rfl (by simp [Value.oneCell']) (by kernel_rfl) (k := 0) rfl rfl fun w3 h => hK _ _ ?_); clear hs hK K; have hs := h; clear h; try dsimp only [List.set] at hs))
      (try simp only [Exit.inBlock, Exit.then])
      refine bodyPost_ret (res_tmp3 rfl _ _ _) rfl ?_
      rw [HRES.out]
      exact ⟨.slice none 0 0, rfl, (slnone_mk hs).pack (by repeat (first | with_reducible exact Pack.refl | with_reducible exact Pack.nil | with_reducible refine Pack.cons (by repeat (first | with_reducible exact Pick.here | with_reducible apply Pick.there)) ?_ | with_reducible apply Pack.drop))⟩
end Go.Proofs.Ytfpgmnnecnaheaa
