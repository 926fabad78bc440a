/- The contracts of redo's reader: from (three of them), small, key. -/
import Derived.Test.YthjnefpnnifjiaaDoorRdKey
set_option linter.unusedVariables false
set_option linter.unusedSimpArgs false
namespace Go.Proofs.YthjnefpnnifjiaaDoor
open Go.RowKit
/-- What is left to be read; bad: it wasn't what was asked for. -/
structure Rd where
  rest : List UInt8
  bad : Bool
def Rd.num (s : Rd) : Nat × Rd := (tnA s.rest, ⟨tnB s.rest, s.bad || decide (tnC s.rest ≠ 0)⟩)
def Rd.int (s : Rd) : Int × Rd := (tiA s.rest, ⟨tiB s.rest, s.bad || decide (tiC s.rest ≠ 0)⟩)
def Rd.text (s : Rd) : List UInt8 × Rd := (ttA (takeT s.rest), ⟨ttB (takeT s.rest), s.bad || decide (ttC (takeT s.rest) ≠ 0)⟩)
def Rd.small (s : Rd) : Nat × Rd := (s.num.1, ⟨s.num.2.rest, s.num.2.bad || decide (255 < s.num.1)⟩)
def Rd.key (s : Rd) : RKey × Rd := (⟨(s.small.1 : Nat), (s.small.2.small.1 : Nat), (s.small.2.small.2.small.1 : Nat)⟩, s.small.2.small.2.small.2)
def rdC (s : Rd) : List Value := [(.string ⟨(s.rest).toArray⟩), .bool s.bad]
theorem takeT_len : ∀ (n : Nat) (l : List UInt8), l.length ≤ n → ∀ x, takeT l = some x → x.2.length ≤ l.length ∧ x.1.length ≤ l.length
  | n, [], _, x, h => by simp [takeT] at h
  | n, [_], _, x, h => by simp [takeT] at h
  | 0, c :: d :: r, hn, x, h => by simp at hn
  | n + 1, c :: d :: r, hn, x, h => by
    simp only [List.length_cons] at hn ⊢
    rw [takeT] at h
    split at h
    · split at h
      · cases h; simp; omega
      · split at h
        · cases e : takeT r with
          | none => rw [e] at h; cases h
          | some y =>
            rw [e] at h; cases h
            have := takeT_len n r (by omega) y e
            simp; omega
        · cases h
    · cases e : takeT (d :: r) with
      | none => rw [e] at h; cases h
      | some y =>
        rw [e] at h; cases h
        have := takeT_len n (d :: r) (by simp; omega) y e
        simp at this ⊢; omega
theorem Rd.num_len (s : Rd) : s.num.2.rest.length ≤ s.rest.length := by
  show (tnB s.rest).length ≤ _
  unfold tnB; split <;> simp
theorem Rd.int_len (s : Rd) : s.int.2.rest.length ≤ s.rest.length := by
  show (tiB s.rest).length ≤ _
  unfold tiB; split <;> simp
theorem Rd.text_len (s : Rd) : s.text.2.rest.length ≤ s.rest.length ∧ s.text.1.length ≤ s.rest.length := by
  show (ttB (takeT s.rest)).length ≤ _ ∧ (ttA (takeT s.rest)).length ≤ _
  cases e : takeT s.rest with
  | none => simp [ttA, ttB]
  | some x => exact takeT_len _ s.rest (Nat.le_refl _) x e
theorem Rd.small_len (s : Rd) : s.small.2.rest.length ≤ s.rest.length := s.num_len
theorem Rd.key_len (s : Rd) : s.key.2.rest.length ≤ s.rest.length := by
  have h1 := s.small_len
  have h2 := s.small.2.small_len
  have h3 := s.small.2.small.2.small_len
  show s.small.2.small.2.small.2.rest.length ≤ _
  omega
theorem tnA_lt (l : List UInt8) : tnA l < 4294967296 := by
  unfold tnA
  split
  · omega
  · exact num_take_lt l 4 (by omega)
theorem tiA_in (l : List UInt8) : inI (tiA l) := by
  unfold tiA inI
  split
  · omega
  · have := num8 l; unfold takeI; omega
theorem Rd.key_ok (s : Rd) : s.key.1.Ok := fun n hn => by
  simp only [RKey.ints, Rd.key, List.mem_cons, List.not_mem_nil, or_false] at hn
  have h1 : s.small.1 < 4294967296 := tnA_lt _
  have h2 : s.small.2.small.1 < 4294967296 := tnA_lt _
  have h3 : s.small.2.small.2.small.1 < 4294967296 := tnA_lt _
  unfold inI
  rcases hn with rfl | rfl | rfl <;> omega
set_option maxRecDepth 100000 in
set_option maxHeartbeats 2000000 in
theorem fromI_spec (W w : World) (L : List HP) (r : Nat) (s : Rd) (hs : Sat W w (row r (rdC s) 74 :: L)) (hl : s.rest.length ≤ 1073741824) :
    Calls Tryd.prog 31 #[.pointer (some ⟨r, 0, none⟩), .func (.func 32) #[] #[]] w fun e w' => e = .returned (.int .i64 s.int.1) ∧ Sat W w' (row r (rdC s.int.2) 74 :: L) := by
  obtain ⟨rest, bad⟩ := s
  dsimp only at hl
  have hT : ∀ w M, Sat W w M → Calls Tryd.prog 32 #[(.string ⟨(rest).toArray⟩)] w fun e w' => e = .returned (.tuple #[.int .i64 (tiA rest), (.string ⟨(tiB rest).toArray⟩), .int .i64 (tiC rest : Nat)]) ∧ Sat W w' M := fun w M h => by have := takeInt_spec W w M h rest hl; rw [takeIV_eq] at this; exact this
  unfold Rd.int
  dsimp only
  obtain ⟨c, hc⟩ : ∃ c, tiC rest = c := ⟨_, rfl⟩
  rw [hc] at hT ⊢
  have HT := Box.mk hT
  clear hT hc
  cases bad
  · obtain ⟨q, hq⟩ : ∃ q : Bool, ((c : Int) != 0) = q := ⟨_, rfl⟩
    have hd : Box (decide (c ≠ 0) = q) := ⟨by rw [← hq, Bool.eq_iff_iff]; simp <;> omega⟩
    go_enter Tryd.func31, Tryd.ntmps31
    go_wp2_with (first
      | (guard_target = wpList _ _ _ (⟨some 13, .load _ _, _, _, _, _⟩ :: _) _ _; refine wpl (o := ⟨some 13, .load _ _, _, _, _, _⟩) rfl fun K hK => op_load rfl (ad := ⟨r, 0, none⟩) rfl (by kernel_rfl) (hs.cell (l := rdC ⟨rest, false⟩) (t := 74) (by (try dsimp only [List.set]); repeat (first | with_reducible exact List.mem_cons_self | with_reducible apply List.mem_cons_of_mem)) rfl) (hK _ _ ?_); clear hK K)
      | (go_at_call 32; go_must (refine (HT.out _ _ hs).mono ?_); clear hs; rintro e w1 ⟨rfl, hs⟩)
      | (guard_target = wpList _ _ _ (⟨some 22, .load _ _, _, _, _, _⟩ :: _) _ _; refine wpl (o := ⟨some 22, .load _ _, _, _, _, _⟩) rfl fun K hK => op_load rfl (ad := ⟨r, 1, none⟩) rfl (by kernel_rfl) (hs.cell (l := rdC ⟨rest, false⟩) (t := 74) (by (try dsimp only [List.set]); repeat (first | with_reducible exact List.mem_cons_self | with_reducible apply List.mem_cons_of_mem)) rfl) (hK _ _ ?_); clear hK K)
      | (guard_target = wpList _ _ _ (⟨none, .store _ (.tmp 28) _, _, _, _, _⟩ :: _) _ _; refine wpl (o := ⟨none, .store _ (.tmp 28) _, _, _, _, _⟩) rfl fun K hK => ?_; go_must (refine op_store hs rfl (b := r) (i := 1) (v := .bool q) rfl rfl rfl (by kernel_rfl) (k := 0) rfl (by simp [rdC]) fun w7 h => hK _ _ ?_); clear hs hK K; have hs := h; clear h; change Sat W _ (row r [(.string ⟨(rest).toArray⟩), .bool q] _ :: _) at hs)
      | (guard_target = wpList _ _ _ (⟨none, .store _ (.tmp 32) _, _, _, _, _⟩ :: _) _ _; refine wpl (o := ⟨none, .store _ (.tmp 32) _, _, _, _, _⟩) rfl fun K hK => ?_; go_must (refine op_store hs rfl (b := r) (i := 0) (v := (.string ⟨(tiB rest).toArray⟩)) rfl rfl rfl (by kernel_rfl) (k := 0) rfl (by simp) fun w7 h => hK _ _ ?_); clear hs hK K; have hs := h; clear h; change Sat W _ (row r [(.string ⟨(tiB rest).toArray⟩), .bool q] _ :: _) at hs))
    go_ret
    refine ⟨rfl, ?_⟩
    rw [hd.out]
    exact hs
  · go_enter Tryd.func31, Tryd.ntmps31
    go_wp2_with (first
      | (guard_target = wpList _ _ _ (⟨some 13, .load _ _, _, _, _, _⟩ :: _) _ _; refine wpl (o := ⟨some 13, .load _ _, _, _, _, _⟩) rfl fun K hK => op_load rfl (ad := ⟨r, 0, none⟩) rfl (by kernel_rfl) (hs.cell (l := rdC ⟨rest, true⟩) (t := 74) (by (try dsimp only [List.set]); repeat (first | with_reducible exact List.mem_cons_self | with_reducible apply List.mem_cons_of_mem)) rfl) (hK _ _ ?_); clear hK K)
      | (go_at_call 32; go_must (refine (HT.out _ _ hs).mono ?_); clear hs; rintro e w1 ⟨rfl, hs⟩)
      | (guard_target = wpList _ _ _ (⟨some 22, .load _ _, _, _, _, _⟩ :: _) _ _; refine wpl (o := ⟨some 22, .load _ _, _, _, _, _⟩) rfl fun K hK => op_load rfl (ad := ⟨r, 1, none⟩) rfl (by kernel_rfl) (hs.cell (l := rdC ⟨rest, true⟩) (t := 74) (by (try dsimp only [List.set]); repeat (first | with_reducible exact List.mem_cons_self | with_reducible apply List.mem_cons_of_mem)) rfl) (hK _ _ ?_); clear hK K)
      | (guard_target = wpList _ _ _ (⟨none, .store _ (.tmp 28) _, _, _, _, _⟩ :: _) _ _; refine wpl (o := ⟨none, .store _ (.tmp 28) _, _, _, _, _⟩) rfl fun K hK => ?_; go_must (refine op_store hs rfl (b := r) (i := 1) (v := .bool true) rfl rfl rfl (by kernel_rfl) (k := 0) rfl (by simp [rdC]) fun w7 h => hK _ _ ?_); clear hs hK K; have hs := h; clear h; change Sat W _ (row r [(.string ⟨(rest).toArray⟩), .bool true] _ :: _) at hs)
      | (guard_target = wpList _ _ _ (⟨none, .store _ (.tmp 32) _, _, _, _, _⟩ :: _) _ _; refine wpl (o := ⟨none, .store _ (.tmp 32) _, _, _, _, _⟩) rfl fun K hK => ?_; go_must (refine op_store hs rfl (b := r) (i := 0) (v := (.string ⟨(tiB rest).toArray⟩)) rfl rfl rfl (by kernel_rfl) (k := 0) rfl (by simp) fun w7 h => hK _ _ ?_); clear hs hK K; have hs := h; clear h; change Sat W _ (row r [(.string ⟨(tiB rest).toArray⟩), .bool true] _ :: _) at hs))
    go_ret
    exact ⟨rfl, hs⟩
set_option maxRecDepth 100000 in
set_option maxHeartbeats 2000000 in
theorem fromN_spec (W w : World) (L : List HP) (r : Nat) (s : Rd) (hs : Sat W w (row r (rdC s) 74 :: L)) (hl : s.rest.length ≤ 1073741824) :
    Calls Tryd.prog 62 #[.pointer (some ⟨r, 0, none⟩), .func (.func 63) #[] #[]] w fun e w' => e = .returned (.int .u32 (s.num.1 : Nat)) ∧ Sat W w' (row r (rdC s.num.2) 74 :: L) := by
  obtain ⟨rest, bad⟩ := s
  dsimp only at hl
  have hT : ∀ w M, Sat W w M → Calls Tryd.prog 63 #[(.string ⟨(rest).toArray⟩)] w fun e w' => e = .returned (.tuple #[.int .u32 (tnA rest : Nat), (.string ⟨(tnB rest).toArray⟩), .int .i64 (tnC rest : Nat)]) ∧ Sat W w' M := fun w M h => by have := takeNumL_spec W w M h rest hl; unfold tnV at this; exact this
  unfold Rd.num
  dsimp only
  obtain ⟨c, hc⟩ : ∃ c, tnC rest = c := ⟨_, rfl⟩
  rw [hc] at hT ⊢
  have HT := Box.mk hT
  clear hT hc
  cases bad
  · obtain ⟨q, hq⟩ : ∃ q : Bool, ((c : Int) != 0) = q := ⟨_, rfl⟩
    have hd : Box (decide (c ≠ 0) = q) := ⟨by rw [← hq, Bool.eq_iff_iff]; simp <;> omega⟩
    go_enter Tryd.func62, Tryd.ntmps62
    go_wp2_with (first
      | (guard_target = wpList _ _ _ (⟨some 13, .load _ _, _, _, _, _⟩ :: _) _ _; refine wpl (o := ⟨some 13, .load _ _, _, _, _, _⟩) rfl fun K hK => op_load rfl (ad := ⟨r, 0, none⟩) rfl (by kernel_rfl) (hs.cell (l := rdC ⟨rest, false⟩) (t := 74) (by (try dsimp only [List.set]); repeat (first | with_reducible exact List.mem_cons_self | with_reducible apply List.mem_cons_of_mem)) rfl) (hK _ _ ?_); clear hK K)
      | (go_at_call 63; go_must (refine (HT.out _ _ hs).mono ?_); clear hs; rintro e w1 ⟨rfl, hs⟩)
      | (guard_target = wpList _ _ _ (⟨some 22, .load _ _, _, _, _, _⟩ :: _) _ _; refine wpl (o := ⟨some 22, .load _ _, _, _, _, _⟩) rfl fun K hK => op_load rfl (ad := ⟨r, 1, none⟩) rfl (by kernel_rfl) (hs.cell (l := rdC ⟨rest, false⟩) (t := 74) (by (try dsimp only [List.set]); repeat (first | with_reducible exact List.mem_cons_self | with_reducible apply List.mem_cons_of_mem)) rfl) (hK _ _ ?_); clear hK K)
      | (guard_target = wpList _ _ _ (⟨none, .store _ (.tmp 28) _, _, _, _, _⟩ :: _) _ _; refine wpl (o := ⟨none, .store _ (.tmp 28) _, _, _, _, _⟩) rfl fun K hK => ?_; go_must (refine op_store hs rfl (b := r) (i := 1) (v := .bool q) rfl rfl rfl (by kernel_rfl) (k := 0) rfl (by simp [rdC]) fun w7 h => hK _ _ ?_); clear hs hK K; have hs := h; clear h; change Sat W _ (row r [(.string ⟨(rest).toArray⟩), .bool q] _ :: _) at hs)
      | (guard_target = wpList _ _ _ (⟨none, .store _ (.tmp 32) _, _, _, _, _⟩ :: _) _ _; refine wpl (o := ⟨none, .store _ (.tmp 32) _, _, _, _, _⟩) rfl fun K hK => ?_; go_must (refine op_store hs rfl (b := r) (i := 0) (v := (.string ⟨(tnB rest).toArray⟩)) rfl rfl rfl (by kernel_rfl) (k := 0) rfl (by simp) fun w7 h => hK _ _ ?_); clear hs hK K; have hs := h; clear h; change Sat W _ (row r [(.string ⟨(tnB rest).toArray⟩), .bool q] _ :: _) at hs))
    go_ret
    refine ⟨rfl, ?_⟩
    rw [hd.out]
    exact hs
  · go_enter Tryd.func62, Tryd.ntmps62
    go_wp2_with (first
      | (guard_target = wpList _ _ _ (⟨some 13, .load _ _, _, _, _, _⟩ :: _) _ _; refine wpl (o := ⟨some 13, .load _ _, _, _, _, _⟩) rfl fun K hK => op_load rfl (ad := ⟨r, 0, none⟩) rfl (by kernel_rfl) (hs.cell (l := rdC ⟨rest, true⟩) (t := 74) (by (try dsimp only [List.set]); repeat (first | with_reducible exact List.mem_cons_self | with_reducible apply List.mem_cons_of_mem)) rfl) (hK _ _ ?_); clear hK K)
      | (go_at_call 63; go_must (refine (HT.out _ _ hs).mono ?_); clear hs; rintro e w1 ⟨rfl, hs⟩)
      | (guard_target = wpList _ _ _ (⟨some 22, .load _ _, _, _, _, _⟩ :: _) _ _; refine wpl (o := ⟨some 22, .load _ _, _, _, _, _⟩) rfl fun K hK => op_load rfl (ad := ⟨r, 1, none⟩) rfl (by kernel_rfl) (hs.cell (l := rdC ⟨rest, true⟩) (t := 74) (by (try dsimp only [List.set]); repeat (first | with_reducible exact List.mem_cons_self | with_reducible apply List.mem_cons_of_mem)) rfl) (hK _ _ ?_); clear hK K)
      | (guard_target = wpList _ _ _ (⟨none, .store _ (.tmp 28) _, _, _, _, _⟩ :: _) _ _; refine wpl (o := ⟨none, .store _ (.tmp 28) _, _, _, _, _⟩) rfl fun K hK => ?_; go_must (refine op_store hs rfl (b := r) (i := 1) (v := .bool true) rfl rfl rfl (by kernel_rfl) (k := 0) rfl (by simp [rdC]) fun w7 h => hK _ _ ?_); clear hs hK K; have hs := h; clear h; change Sat W _ (row r [(.string ⟨(rest).toArray⟩), .bool true] _ :: _) at hs)
      | (guard_target = wpList _ _ _ (⟨none, .store _ (.tmp 32) _, _, _, _, _⟩ :: _) _ _; refine wpl (o := ⟨none, .store _ (.tmp 32) _, _, _, _, _⟩) rfl fun K hK => ?_; go_must (refine op_store hs rfl (b := r) (i := 0) (v := (.string ⟨(tnB rest).toArray⟩)) rfl rfl rfl (by kernel_rfl) (k := 0) rfl (by simp) fun w7 h => hK _ _ ?_); clear hs hK K; have hs := h; clear h; change Sat W _ (row r [(.string ⟨(tnB rest).toArray⟩), .bool true] _ :: _) at hs))
    go_ret
    exact ⟨rfl, hs⟩
set_option maxRecDepth 100000 in
set_option maxHeartbeats 2000000 in
theorem fromT_spec (W w : World) (L : List HP) (r : Nat) (s : Rd) (hs : Sat W w (row r (rdC s) 74 :: L)) (hold : old W ∈ L) (hm : maxLenIs W) (hl : s.rest.length ≤ 1073741824) :
    Calls Tryd.prog 36 #[.pointer (some ⟨r, 0, none⟩), .func (.func 37) #[] #[]] w fun e w' => e = .returned ((.string ⟨(s.text.1).toArray⟩)) ∧ Sat W w' (row r (rdC s.text.2) 74 :: L) := by
  obtain ⟨rest, bad⟩ := s
  dsimp only at hl
  have hT : ∀ w M, Sat W w M → old W ∈ M → Calls Tryd.prog 37 #[(.string ⟨(rest).toArray⟩)] w fun e w' => e = .returned (.tuple #[(.string ⟨(ttA (takeT rest)).toArray⟩), (.string ⟨(ttB (takeT rest)).toArray⟩), .int .i64 (ttC (takeT rest) : Nat)]) ∧ Sat W w' M := fun w M h ho => by have := takeText_spec W w M h ho hm rest hl; unfold takeTPost at this; rw [takeTV_eq] at this; exact this
  unfold Rd.text
  dsimp only
  obtain ⟨c, hc⟩ : ∃ c, ttC (takeT rest) = c := ⟨_, rfl⟩
  rw [hc] at hT ⊢
  have HT := Box.mk hT
  clear hT hc
  cases bad
  · obtain ⟨q, hq⟩ : ∃ q : Bool, ((c : Int) != 0) = q := ⟨_, rfl⟩
    have hd : Box (decide (c ≠ 0) = q) := ⟨by rw [← hq, Bool.eq_iff_iff]; simp <;> omega⟩
    go_enter Tryd.func36, Tryd.ntmps36
    go_wp2_with (first
      | (guard_target = wpList _ _ _ (⟨some 13, .load _ _, _, _, _, _⟩ :: _) _ _; refine wpl (o := ⟨some 13, .load _ _, _, _, _, _⟩) rfl fun K hK => op_load rfl (ad := ⟨r, 0, none⟩) rfl (by kernel_rfl) (hs.cell (l := rdC ⟨rest, false⟩) (t := 74) (by (try dsimp only [List.set]); repeat (first | with_reducible exact List.mem_cons_self | with_reducible apply List.mem_cons_of_mem)) rfl) (hK _ _ ?_); clear hK K)
      | (go_at_call 37; go_must (refine (HT.out _ _ hs (by (try dsimp only [List.set]); repeat (first | exact hold | apply List.mem_cons_of_mem))).mono ?_); clear hs; rintro e w1 ⟨rfl, hs⟩)
      | (guard_target = wpList _ _ _ (⟨some 22, .load _ _, _, _, _, _⟩ :: _) _ _; refine wpl (o := ⟨some 22, .load _ _, _, _, _, _⟩) rfl fun K hK => op_load rfl (ad := ⟨r, 1, none⟩) rfl (by kernel_rfl) (hs.cell (l := rdC ⟨rest, false⟩) (t := 74) (by (try dsimp only [List.set]); repeat (first | with_reducible exact List.mem_cons_self | with_reducible apply List.mem_cons_of_mem)) rfl) (hK _ _ ?_); clear hK K)
      | (guard_target = wpList _ _ _ (⟨none, .store _ (.tmp 28) _, _, _, _, _⟩ :: _) _ _; refine wpl (o := ⟨none, .store _ (.tmp 28) _, _, _, _, _⟩) rfl fun K hK => ?_; go_must (refine op_store hs rfl (b := r) (i := 1) (v := .bool q) rfl rfl rfl (by kernel_rfl) (k := 0) rfl (by simp [rdC]) fun w7 h => hK _ _ ?_); clear hs hK K; have hs := h; clear h; change Sat W _ (row r [(.string ⟨(rest).toArray⟩), .bool q] _ :: _) at hs)
      | (guard_target = wpList _ _ _ (⟨none, .store _ (.tmp 32) _, _, _, _, _⟩ :: _) _ _; refine wpl (o := ⟨none, .store _ (.tmp 32) _, _, _, _, _⟩) rfl fun K hK => ?_; go_must (refine op_store hs rfl (b := r) (i := 0) (v := (.string ⟨(ttB (takeT rest)).toArray⟩)) rfl rfl rfl (by kernel_rfl) (k := 0) rfl (by simp) fun w7 h => hK _ _ ?_); clear hs hK K; have hs := h; clear h; change Sat W _ (row r [(.string ⟨(ttB (takeT rest)).toArray⟩), .bool q] _ :: _) at hs))
    go_ret
    refine ⟨rfl, ?_⟩
    rw [hd.out]
    exact hs
  · go_enter Tryd.func36, Tryd.ntmps36
    go_wp2_with (first
      | (guard_target = wpList _ _ _ (⟨some 13, .load _ _, _, _, _, _⟩ :: _) _ _; refine wpl (o := ⟨some 13, .load _ _, _, _, _, _⟩) rfl fun K hK => op_load rfl (ad := ⟨r, 0, none⟩) rfl (by kernel_rfl) (hs.cell (l := rdC ⟨rest, true⟩) (t := 74) (by (try dsimp only [List.set]); repeat (first | with_reducible exact List.mem_cons_self | with_reducible apply List.mem_cons_of_mem)) rfl) (hK _ _ ?_); clear hK K)
      | (go_at_call 37; go_must (refine (HT.out _ _ hs (by (try dsimp only [List.set]); repeat (first | exact hold | apply List.mem_cons_of_mem))).mono ?_); clear hs; rintro e w1 ⟨rfl, hs⟩)
      | (guard_target = wpList _ _ _ (⟨some 22, .load _ _, _, _, _, _⟩ :: _) _ _; refine wpl (o := ⟨some 22, .load _ _, _, _, _, _⟩) rfl fun K hK => op_load rfl (ad := ⟨r, 1, none⟩) rfl (by kernel_rfl) (hs.cell (l := rdC ⟨rest, true⟩) (t := 74) (by (try dsimp only [List.set]); repeat (first | with_reducible exact List.mem_cons_self | with_reducible apply List.mem_cons_of_mem)) rfl) (hK _ _ ?_); clear hK K)
      | (guard_target = wpList _ _ _ (⟨none, .store _ (.tmp 28) _, _, _, _, _⟩ :: _) _ _; refine wpl (o := ⟨none, .store _ (.tmp 28) _, _, _, _, _⟩) rfl fun K hK => ?_; go_must (refine op_store hs rfl (b := r) (i := 1) (v := .bool true) rfl rfl rfl (by kernel_rfl) (k := 0) rfl (by simp [rdC]) fun w7 h => hK _ _ ?_); clear hs hK K; have hs := h; clear h; change Sat W _ (row r [(.string ⟨(rest).toArray⟩), .bool true] _ :: _) at hs)
      | (guard_target = wpList _ _ _ (⟨none, .store _ (.tmp 32) _, _, _, _, _⟩ :: _) _ _; refine wpl (o := ⟨none, .store _ (.tmp 32) _, _, _, _, _⟩) rfl fun K hK => ?_; go_must (refine op_store hs rfl (b := r) (i := 0) (v := (.string ⟨(ttB (takeT rest)).toArray⟩)) rfl rfl rfl (by kernel_rfl) (k := 0) rfl (by simp) fun w7 h => hK _ _ ?_); clear hs hK K; have hs := h; clear h; change Sat W _ (row r [(.string ⟨(ttB (takeT rest)).toArray⟩), .bool true] _ :: _) at hs))
    go_ret
    exact ⟨rfl, hs⟩
set_option maxRecDepth 100000 in
set_option maxHeartbeats 2000000 in
theorem small_spec (W w : World) (L : List HP) (r : Nat) (s : Rd) (hs : Sat W w (row r (rdC s) 74 :: L)) (hl : s.rest.length ≤ 1073741824) :
    Calls Tryd.prog 68 #[.pointer (some ⟨r, 0, none⟩)] w fun e w' => e = .returned (.int .i64 (s.small.1 : Nat)) ∧ Sat W w' (row r (rdC s.small.2) 74 :: L) := by
  have hF := fun w (L : List HP) hs => fromN_spec W w L r s hs hl
  unfold Rd.small
  have hn : s.num.1 < 4294967296 := tnA_lt _
  obtain ⟨⟨n, rest, bad⟩, hx⟩ : ∃ x, s.num = x := ⟨_, rfl⟩
  rw [hx] at hF hn ⊢
  dsimp only at hF hn ⊢
  have HF := Box.mk hF
  have hwn : IntKind.i64.wrap (n : Int) = (n : Int) := by rw [IntKind.wrap_i64]; omega
  clear hF hx
  cases bad
  · obtain ⟨q, hq⟩ : ∃ q : Bool, decide ((255 : Int) < (n : Int)) = q := ⟨_, rfl⟩
    have hd : Box (decide (255 < n) = q) := ⟨by rw [← hq, Bool.eq_iff_iff]; simp <;> omega⟩
    have hq2 : decide (255 < n) = q := hd.out
    go_enter Tryd.func68, Tryd.ntmps68
    go_wp2_with (first
      | (go_at_call 62; go_must (refine (HF.out _ _ hs).mono ?_); clear hs; rintro e w1 ⟨rfl, hs⟩)
      | (guard_target = wpList _ _ _ (⟨some 10, .load _ _, _, _, _, _⟩ :: _) _ _; refine wpl (o := ⟨some 10, .load _ _, _, _, _, _⟩) rfl fun K hK => op_load rfl (ad := ⟨r, 1, none⟩) rfl (by kernel_rfl) (hs.cell (l := rdC ⟨rest, false⟩) (t := 74) (by (try dsimp only [List.set]); repeat (first | with_reducible exact List.mem_cons_self | with_reducible apply List.mem_cons_of_mem)) rfl) (hK _ _ ?_); clear hK K)
      | (guard_target = wpList _ _ _ (⟨none, .store _ (.tmp 16) _, _, _, _, _⟩ :: _) _ _; refine wpl (o := ⟨none, .store _ (.tmp 16) _, _, _, _, _⟩) rfl fun K hK => ?_; go_must (refine op_store hs rfl (b := r) (i := 1) (v := .bool q) rfl rfl rfl (by kernel_rfl) (k := 0) rfl (by simp [rdC]) fun w7 h => hK _ _ ?_); clear hs hK K; have hs := h; clear h; change Sat W _ (row r [(.string ⟨(rest).toArray⟩), .bool q] _ :: _) at hs))
    go_ret
    refine ⟨rfl, ?_⟩
    rw [hd.out]
    exact hs
  · go_enter Tryd.func68, Tryd.ntmps68
    go_wp2_with (first
      | (go_at_call 62; go_must (refine (HF.out _ _ hs).mono ?_); clear hs; rintro e w1 ⟨rfl, hs⟩)
      | (guard_target = wpList _ _ _ (⟨some 10, .load _ _, _, _, _, _⟩ :: _) _ _; refine wpl (o := ⟨some 10, .load _ _, _, _, _, _⟩) rfl fun K hK => op_load rfl (ad := ⟨r, 1, none⟩) rfl (by kernel_rfl) (hs.cell (l := rdC ⟨rest, true⟩) (t := 74) (by (try dsimp only [List.set]); repeat (first | with_reducible exact List.mem_cons_self | with_reducible apply List.mem_cons_of_mem)) rfl) (hK _ _ ?_); clear hK K)
      | (guard_target = wpList _ _ _ (⟨none, .store _ (.tmp 16) _, _, _, _, _⟩ :: _) _ _; refine wpl (o := ⟨none, .store _ (.tmp 16) _, _, _, _, _⟩) rfl fun K hK => ?_; go_must (refine op_store hs rfl (b := r) (i := 1) (v := .bool true) rfl rfl rfl (by kernel_rfl) (k := 0) rfl (by simp [rdC]) fun w7 h => hK _ _ ?_); clear hs hK K; have hs := h; clear h; change Sat W _ (row r [(.string ⟨(rest).toArray⟩), .bool true] _ :: _) at hs))
    go_ret
    exact ⟨rfl, hs⟩
theorem zkey : (Tryd.prog.info? 57).bind (·.zero) = some (.agg [Value.int .i64 0, .int .i64 0, .int .i64 0].toArray) := by kernel_rfl
set_option maxRecDepth 100000 in
set_option maxHeartbeats 2000000 in
theorem rkey_spec (W w : World) (L : List HP) (r : Nat) (s : Rd) (hs : Sat W w (row r (rdC s) 74 :: L)) (hl : s.rest.length ≤ 1073741824) :
    Calls Tryd.prog 35 #[.pointer (some ⟨r, 0, none⟩)] w fun e w' => e = .returned (.agg (kC s.key.1).toArray) ∧ Sat W w' (row r (rdC s.key.2) 74 :: L) := by
  have h1 := s.small_len
  have h2 := s.small.2.small_len
  have H1 := Box.mk (fun w (L : List HP) hs => small_spec W w L r s hs hl)
  have H2 := Box.mk (fun w (L : List HP) hs => small_spec W w L r s.small.2 hs (by omega))
  have H3 := Box.mk (fun w (L : List HP) hs => small_spec W w L r s.small.2.small.2 hs (by omega))
  unfold Rd.key
  generalize s.small.2.small.2.small = x3 at H3
  obtain ⟨n3, s3⟩ := x3
  generalize s.small.2.small = x2 at H2 H3
  obtain ⟨n2, s2⟩ := x2
  generalize s.small = x1 at H1 H2
  obtain ⟨n1, s1⟩ := x1
  dsimp only at H1 H2 H3 ⊢
  clear h1 h2
  go_enter Tryd.func35, Tryd.ntmps35
  go_wp2_with (first
    | (guard_target = wpList _ _ _ (⟨some 2, .alloc _, _, _, _, _⟩ :: _) _ _; refine wpl (o := ⟨some 2, .alloc _, _, _, _, _⟩) rfl fun K hK => ?_; go_must (refine op_alloc hs rfl _ zkey [Value.int .i64 0, .int .i64 0, .int .i64 0] rfl fun b2 w1 h => hK _ _ ?_); clear hs hK K; have hs := h; clear h; try dsimp only [List.set] at hs)
    | (have hh : g2 = g2 := rfl; clear hh; go_at_call 68; go_must (refine (H3.out _ _ (hs.pick (A := row r (rdC s2) 74) (by repeat (first | with_reducible exact Pick.here | with_reducible apply Pick.there)))).mono ?_); clear hs; rintro e w1 ⟨rfl, hs⟩)
    | (have hh : g1 = g1 := rfl; clear hh; go_at_call 68; go_must (refine (H2.out _ _ (hs.pick (A := row r (rdC s1) 74) (by repeat (first | with_reducible exact Pick.here | with_reducible apply Pick.there)))).mono ?_); clear hs; rintro e w1 ⟨rfl, hs⟩; have g2 : Box True := ⟨trivial⟩)
    | (go_at_call 68; go_must (refine (H1.out _ _ (hs.pick (A := row r (rdC s) 74) (by repeat (first | with_reducible exact Pick.here | with_reducible apply Pick.there)))).mono ?_); clear hs; rintro e w1 ⟨rfl, hs⟩; have g1 : Box True := ⟨trivial⟩)
    | (guard_target = wpList _ _ _ (⟨none, .store _ (.tmp 2) _, _, _, _, _⟩ :: _) _ _; refine wpl (o := ⟨none, .store _ (.tmp 2) _, _, _, _, _⟩) rfl fun K hK => ?_; go_must (refine op_store_whole (hs.pick (A := row b2 [Value.int .i64 0, .int .i64 0, .int .i64 0] 57) (by repeat (first | with_reducible exact Pick.here | with_reducible apply Pick.there))) (b := b2) rfl rfl [Value.int .i64 (n1 : Nat), .int .i64 (n2 : Nat), .int .i64 (n3 : Nat)] rfl (by simp [Value.oneCell']) (by kernel_rfl) (k := 0) rfl rfl fun w3 h => hK _ _ ?_); clear hs hK K; have hs := h; clear h; try dsimp only [List.set] at hs))
  exact bodyPost_ret (run_results_cell rfl (b := b2) rfl [Value.int .i64 (n1 : Nat), .int .i64 (n2 : Nat), .int .i64 (n3 : Nat)] (range_whole hs m0) (by kernel_rfl) (by kernel_rfl)) rfl ⟨rfl, hs.pack (by repeat (first | with_reducible exact Pack.refl | with_reducible exact Pack.nil | with_reducible refine Pack.cons (by repeat (first | with_reducible exact Pick.here | with_reducible apply Pick.there)) ?_ | with_reducible apply Pack.drop))⟩
end Go.Proofs.YthjnefpnnifjiaaDoor
