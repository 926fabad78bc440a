/- Contracts of the packages pack and ogiveref01: Int, Text, TakeInt; the reference's Text and TakeText. -/
import Derived.Test.YthjnefpnnifjiaaDoorNumW
import Derived.Test.YthjnefpnnifjiaaDoorPackP
import Derived.Test.YthjnefpnnifjiaaDoorShelf
set_option linter.unusedVariables false
set_option linter.unusedSimpArgs false
namespace Go.Proofs.YthjnefpnnifjiaaDoor
open Go.RowKit
/-- The library's variable MaxLen, as the call found it. -/
def maxLenIs (W : World) : Prop := ∃ m : Int, W.cell? ⟨1, 0, none⟩ = some (.int .i64 m)
theorem maxLen_old {W w : World} {L : List HP} (hs : Sat W w L) (hold : old W ∈ L) {m : Int} (hm : W.cell? ⟨1, 0, none⟩ = some (.int .i64 m)) : w.cell? ⟨1, 0, none⟩ = some (.int .i64 m) := by
  have h1 : W.rangeAt 1 0 [.int .i64 m] := fun j v hj => by
    match j, hj with
    | 0, hj => cases hj; exact hm
  have := hs.has (Has.mem hold (cellsAt_old h1 (by simp))) (fun _ _ => cellsAt_mono)
  exact cellsAt_world this 0 _ rfl
theorem xor63 (n : Nat) (h : n < 18446744073709551616) : bits .xor .u64 (n : Int) 9223372036854775808 = ((n ^^^ 9223372036854775808 : Nat) : Int) := by
  show IntKind.u64.wrap (((BitVec.ofInt 64 (n : Int)) ^^^ (BitVec.ofInt 64 9223372036854775808)).toNat : Int) = _
  have e1 : BitVec.ofInt 64 (n : Int) = BitVec.ofNat 64 n := by simp
  have e2 : BitVec.ofInt 64 9223372036854775808 = BitVec.ofNat 64 9223372036854775808 := by decide
  have e3 : (2 : Nat) ^ 64 = 18446744073709551616 := by decide
  rw [e1, e2, BitVec.toNat_xor, BitVec.toNat_ofNat, BitVec.toNat_ofNat, e3, Nat.mod_eq_of_lt h, Nat.mod_eq_of_lt (show 9223372036854775808 < 18446744073709551616 by decide)]
  have h2 := nat_xor63' n h
  rw [h2]
  split
  · exact w64 (by omega) (by omega)
  · exact w64 (by omega) (by omega)
theorem wrap_u64 (m : Int) (h0 : -9223372036854775808 ≤ m) (h1 : m < 9223372036854775808) : ∃ u : Nat, IntKind.u64.wrap m = (u : Int) ∧ u < 18446744073709551616 ∧ u ^^^ 9223372036854775808 = i63 m ∧ IntKind.u64.wrap ((u : Int) + 9223372036854775808) = ((i63 m : Nat) : Int) := by
  have e : IntKind.u64.wrap m = m % 18446744073709551616 := by simp [IntKind.wrap, IntKind.bits, IntKind.signed]
  refine ⟨(m % 18446744073709551616).toNat, by rw [e]; omega, by omega, ?_, ?_⟩
  · rw [nat_xor63' _ (by omega)]
    unfold i63
    split <;> omega
  · have e2 : ∀ x : Int, IntKind.u64.wrap x = x % 18446744073709551616 := fun x => by simp [IntKind.wrap, IntKind.bits, IntKind.signed]
    rw [e2]
    unfold i63
    omega
set_option maxRecDepth 100000 in
set_option maxHeartbeats 1000000 in
theorem int_spec (W w : World) (L : List HP) (hs : Sat W w L) (m : Int) (h0 : -9223372036854775808 ≤ m) (h1 : m < 9223372036854775808) :
    Calls Tryd.prog 46 #[.int .i64 m] w fun e w' => e = .returned (.string ⟨(be 8 (i63 m)).toArray⟩) ∧ Sat W w' L := by
  obtain ⟨u, hu, hu2, hx, _⟩ := wrap_u64 m h0 h1
  have hxor := xor63 u hu2
  rw [hx] at hxor
  have hlt : i63 m < 18446744073709551616 := by unfold i63; omega
  clear hx
  generalize i63 m = k at *
  go_enter Tryd.func46, Tryd.ntmps46
  go_wp2_with (first
    | (go_at_call 75; go_must (refine (high_spec W _ _ hs k 8 hlt (by omega)).mono ?_); clear hs; rintro e w1 ⟨rfl, hs⟩))
  go_ret
  exact ⟨rfl, hs⟩
set_option maxRecDepth 100000 in
set_option maxHeartbeats 1000000 in
theorem rint_spec (W w : World) (L : List HP) (hs : Sat W w L) (m : Int) (h0 : -9223372036854775808 ≤ m) (h1 : m < 9223372036854775808) :
    Calls Tryd.prog 51 #[.int .i64 m] w fun e w' => e = .returned (.string ⟨(be 8 (i63 m)).toArray⟩) ∧ Sat W w' L := by
  obtain ⟨u, hu, hu2, _, hx⟩ := wrap_u64 m h0 h1
  have hlt : i63 m < 18446744073709551616 := by unfold i63; omega
  generalize i63 m = k at *
  go_enter Tryd.func51, Tryd.ntmps51
  go_wp2_with (first
    | (go_at_call 77; go_must (refine (rbytes_spec W 8 k _ _ hs hlt (by omega)).mono ?_); clear hs; rintro e w1 ⟨rfl, hs⟩))
  go_ret
  exact ⟨rfl, hs⟩
/-- What TakeInt tells. -/
def takeI (l : List UInt8) : Int := (num (l.take 8) : Int) - 9223372036854775808
theorem num8 (l : List UInt8) : num (l.take 8) < 18446744073709551616 := by
  have e : (256 : Nat) ^ 8 = 18446744073709551616 := by decide
  have h := num_lt (l.take 8).length _ rfl
  have h2 : 256 ^ (l.take 8).length ≤ 256 ^ 8 := Nat.pow_le_pow_right (by decide) (by simp; omega)
  omega
theorem take_num (n : Nat) (h : n < 18446744073709551616) : IntKind.i64.wrap ((n ^^^ 9223372036854775808 : Nat) : Int) = (n : Int) - 9223372036854775808 ∧ IntKind.i64.wrap (IntKind.u64.wrap ((n : Int) - 9223372036854775808)) = (n : Int) - 9223372036854775808 := by
  have e2 : ∀ x : Int, IntKind.u64.wrap x = x % 18446744073709551616 := fun x => by simp [IntKind.wrap, IntKind.bits, IntKind.signed]
  have e3 : ∀ x : Int, 0 ≤ x → x < 18446744073709551616 → IntKind.i64.wrap x = if x < 9223372036854775808 then x else x - 18446744073709551616 := fun x a b => by rw [IntKind.wrap_i64]; split <;> omega
  rw [nat_xor63' n h, e2]
  constructor
  · split
    · rw [e3 _ (by omega) (by omega)]; split <;> omega
    · rw [e3 _ (by omega) (by omega)]; split <;> omega
  · rw [e3 _ (by omega) (by omega)]; split <;> omega
def takeIV (l : List UInt8) : Value := if l.length < 8 then .tuple #[.int .i64 0, (.string ⟨(([] : List UInt8)).toArray⟩), .int .i64 2] else .tuple #[.int .i64 (takeI l), (.string ⟨(l.drop 8).toArray⟩), .int .i64 0]
set_option maxRecDepth 100000 in
set_option maxHeartbeats 1000000 in
theorem takeInt_spec (W w : World) (L : List HP) (hs : Sat W w L) (l : List UInt8) (hl : l.length ≤ 1073741824) :
    Calls Tryd.prog 32 #[(.string ⟨(l).toArray⟩)] w fun e w' => e = .returned (takeIV l) ∧ Sat W w' L := by
  unfold takeIV
  by_cases h8 : l.length < 8
  · have h8I : (l.length : Int) < 8 := by omega
    rw [if_pos h8]
    go_enter Tryd.func32, Tryd.ntmps32
    go_wp2_with fail
    (try simp only [Exit.inBlock, Exit.then])
    refine bodyPost_ret (res_tmp3 rfl _ _ _) rfl ?_
    exact ⟨rfl, hs⟩
  · have h8I : ¬ (l.length : Int) < 8 := by omega
    rw [if_neg h8]
    have hn8 := num8 l
    have hx1 := xor63 _ hn8
    obtain ⟨hx2, _⟩ := take_num _ hn8
    go_enter Tryd.func32, Tryd.ntmps32
    go_wp2_with fail
    obtain ⟨M, hM, hs⟩ : ∃ M, M = _ ∧ Sat W _ M := ⟨_, rfl, hs⟩
    have oL : ∀ w, Sat W w M → Calls Tryd.prog 67 #[.string (ByteArray.extract ⟨l.toArray⟩ 0 8)] w fun e w' => e = .returned (.int .u64 (num (l.take 8) : Nat)) ∧ Sat W w' M := by rw [str_extract]; exact fun w h => low_spec W w _ h (l.take 8) (by simp; omega)
    have HT : Box (takeI l = (num (l.take 8) : Int) - 9223372036854775808) := ⟨rfl⟩
    have e2 := str_extract l 8 l.length
    rw [List.take_length] at e2
    have E2 := Box.mk e2
    clear e2
    generalize num (l.take 8) = n at *
    have oL_ := Box.mk oL
    clear oL
    have oL := oL_
    clear oL_
    have hM_ := Box.mk hM
    clear hM
    have hM := hM_
    clear hM_
    refine wp_region_quiet (C := fun w' => Sat W w' M) (by kernel_rfl) (by kernel_rfl) hs.drew ?_
    have hq := sat_const hs
    repeat (first
      | (refine wpQuiet_step (fun K hK => ?_); go_simp; first
          | (with_reducible refine hK _ ?_; clear hK K)
          | (apply Exists.intro; refine ⟨fun w5 h5 => ?_, hK _ ?_⟩; (first | with_reducible exact oL.out w5 h5); clear hK K)))
    refine wpQuiet_nil ?_
    intro w8 hs8
    clear hs
    rw [hM.out] at hs8
    have hs := hs8
    clear hs8
    go_wp2_with fail
    (try simp only [Exit.inBlock, Exit.then])
    refine bodyPost_ret (res_tmp3 rfl _ _ _) rfl ?_
    refine ⟨?_, hM.out ▸ hs⟩
    show Ending.returned (.tuple #[.int .i64 ((n : Int) - 9223372036854775808), .string (ByteArray.extract ⟨l.toArray⟩ 8 l.length), .int .i64 0]) = _
    rw [E2.out, HT.out]
set_option maxRecDepth 100000 in
set_option maxHeartbeats 1000000 in
theorem rtakeInt_spec (W w : World) (L : List HP) (hs : Sat W w L) (l : List UInt8) (hl : l.length ≤ 1073741824) :
    Calls Tryd.prog 40 #[(.string ⟨(l).toArray⟩)] w fun e w' => e = .returned (takeIV l) ∧ Sat W w' L := by
  unfold takeIV
  by_cases h8 : l.length < 8
  · have h8I : (l.length : Int) < 8 := by omega
    rw [if_pos h8]
    go_enter Tryd.func40, Tryd.ntmps40
    go_wp2_with fail
    (try simp only [Exit.inBlock, Exit.then])
    refine bodyPost_ret (res_tmp3 rfl _ _ _) rfl ?_
    exact ⟨rfl, hs⟩
  · have h8I : ¬ (l.length : Int) < 8 := by omega
    rw [if_neg h8]
    have hn8 := num8 l
    obtain ⟨_, hx2⟩ := take_num _ hn8
    go_enter Tryd.func40, Tryd.ntmps40
    go_wp2_with fail
    obtain ⟨M, hM, hs⟩ : ∃ M, M = _ ∧ Sat W _ M := ⟨_, rfl, hs⟩
    have oL : ∀ w, Sat W w M → Calls Tryd.prog 72 #[.string (ByteArray.extract ⟨l.toArray⟩ 0 8)] w fun e w' => e = .returned (.int .u64 (num (l.take 8) : Nat)) ∧ Sat W w' M := by rw [str_extract]; exact fun w h => rnumber_spec W w _ h (l.take 8) (by simp; omega)
    have HT : Box (takeI l = (num (l.take 8) : Int) - 9223372036854775808) := ⟨rfl⟩
    have e2 := str_extract l 8 l.length
    rw [List.take_length] at e2
    have E2 := Box.mk e2
    clear e2
    generalize num (l.take 8) = n at *
    have oL_ := Box.mk oL
    clear oL
    have oL := oL_
    clear oL_
    have hM_ := Box.mk hM
    clear hM
    have hM := hM_
    clear hM_
    refine wp_region_quiet (C := fun w' => Sat W w' M) (by kernel_rfl) (by kernel_rfl) hs.drew ?_
    have hq := sat_const hs
    repeat (first
      | (refine wpQuiet_step (fun K hK => ?_); go_simp; first
          | (with_reducible refine hK _ ?_; clear hK K)
          | (apply Exists.intro; refine ⟨fun w5 h5 => ?_, hK _ ?_⟩; (first | with_reducible exact oL.out w5 h5); clear hK K)))
    refine wpQuiet_nil ?_
    intro w8 hs8
    clear hs
    rw [hM.out] at hs8
    have hs := hs8
    clear hs8
    go_wp2_with fail
    (try simp only [Exit.inBlock, Exit.then])
    refine bodyPost_ret (res_tmp3 rfl _ _ _) rfl ?_
    refine ⟨?_, hM.out ▸ hs⟩
    show Ending.returned (.tuple #[.int .i64 ((n : Int) - 9223372036854775808), .string (ByteArray.extract ⟨l.toArray⟩ 8 l.length), .int .i64 0]) = _
    rw [E2.out, HT.out]
theorem replace_spec (W w : World) (L : List HP) (hs : Sat W w L) (hold : old W ∈ L) (hm : maxLenIs W) (l : List UInt8) (hl : l.length ≤ 1073741824) :
    Calls Tryd.prog 76 #[(.string ⟨(l).toArray⟩), .string ⟨#[0]⟩, .string ⟨#[0, 255]⟩] w fun e w' => e = .returned (.string ⟨(esc l).toArray⟩) ∧ Sat W w' L := by
  obtain ⟨m, hm⟩ := hm
  have hsz : (⟨l.toArray⟩ : ByteArray).size = l.length := by simp [ByteArray.size]
  have hc : Lib.countB ⟨l.toArray⟩ ⟨#[0]⟩ ≤ l.length := count0_le l
  have hn : (⟨#[0, 255]⟩ : ByteArray).size = 2 := rfl
  refine (Tryd.strings_ReplaceAll ⟨l.toArray⟩ ⟨#[0]⟩ ⟨#[0, 255]⟩ m w (by rw [hsz]; omega) (maxLen_old hs hold hm) (by decide) (by rw [hsz, hn]; omega)).mono ?_
  rintro e w' ⟨rfl, hb⟩
  refine ⟨?_, hs.below hb⟩
  show Ending.returned (.string ⟨(Lib.replaceAll l [0] [0, 255]).toArray⟩) = _
  rw [replaceAll_esc]
set_option maxRecDepth 100000 in
set_option maxHeartbeats 1000000 in
theorem text_spec (W w : World) (L : List HP) (hs : Sat W w L) (hold : old W ∈ L) (hm : maxLenIs W) (l : List UInt8) (hl : l.length ≤ 1073741824) :
    Calls Tryd.prog 49 #[(.string ⟨(l).toArray⟩)] w fun e w' => e = .returned (.string ⟨(text l).toArray⟩) ∧ Sat W w' L := by
  have hcat : ¬ 9223372036854775807 < (esc l).length + 2 := by have := esc_len l; omega
  have hcat2 : ¬ 9223372036854775807 < (esc l).length + ([0, 1] : List UInt8).length := hcat
  have HM := Box.mk hm
  clear hm
  generalize hE : esc l = E at *
  have HE := Box.mk hE
  clear hE
  go_enter Tryd.func49, Tryd.ntmps49
  go_wp2_with (first
    | (go_at_call 76; go_must (refine (replace_spec W _ _ hs hold HM.out l hl).mono ?_); clear hs; rintro e w1 ⟨rfl, hs⟩; rw [HE.out]))
  go_ret
  refine ⟨?_, hs⟩
  rw [show text l = E ++ [0, 1] from by unfold text; rw [HE.out]]
  exact congrArg (fun s => Ending.returned (.string s)) (str_app E [0, 1])
theorem esc_take (l : List UInt8) (i : Nat) (h : i < l.length) : esc (l.take (i + 1)) = esc (l.take i) ++ (if l[i] = 0 then [0, 255] else [l[i]]) := by
  rw [List.take_succ_eq_append_getElem h, esc_app]
  congr 1
theorem own_bytesAt {v : Value} {n : Nat} {l : List UInt8} (h : l.length = n) : ∀ F, own v 5 n 1 (u8s l) F → bytesAt v l F := fun F hF => by
  have := own_sliceAt F hF
  unfold bytesAt
  rw [h]; exact this
set_option maxRecDepth 100000 in
set_option maxHeartbeats 4000000 in
theorem rtext_spec (W w : World) (L : List HP) (hs : Sat W w L) (l : List UInt8) (hl : l.length ≤ 1073741824) :
    Calls Tryd.prog 54 #[(.string ⟨(l).toArray⟩)] w fun e w' => e = .returned (.string ⟨(text l).toArray⟩) ∧ Sat W w' L := by
  go_enter Tryd.func54, Tryd.ntmps54
  go_wp2_with fail
  have hs0 := hs.addNil none 5 1
  clear hs
  have hs := hs0
  clear hs0
  go_loopw [3, 4] (fun v3 v4 wr => ∃ i : Nat, i ≤ l.length ∧ v4 = .int .i64 (i : Nat) ∧ Sat W wr (own v3 5 (esc (l.take i)).length 1 (u8s (esc (l.take i))) :: L)) (fun _ v4 _ => l.length - (intOf v4).toNat)
  case atStart => exact ⟨0, by omega, rfl, hs⟩
  case round =>
    clear hs
    obtain ⟨i, hi, rfl, hs⟩ := hrel
    have hlen := esc_len (l.take i)
    have hti : (l.take i).length ≤ i := by simp; omega
    obtain ⟨A3, c3, rfl, _, _⟩ := own_slice hs (i := 0) rfl
    by_cases hlt : i < l.length
    · have hltI : (i : Int) < (l.length : Int) := by omega
      have hst := esc_take l i hlt
      obtain ⟨c, hc⟩ : ∃ c, l[i] = c := ⟨_, rfl⟩
      rw [hc] at hst
      have hget : (⟨l.toArray⟩ : ByteArray)[i]'hlt = c := hc
      have hwi : IntKind.i64.wrap ((i : Int) + 1) = (i : Int) + 1 := by rw [IntKind.wrap_i64]; omega
      have HST := Box.mk hst
      clear hst hc
      generalize hE : esc (l.take i) = E at *
      have HE := Box.mk hE
      clear hE
      obtain ⟨n, hn⟩ : ∃ n, E.length = n := ⟨_, rfl⟩
      rw [hn] at hs hlen ⊢
      have HN := Box.mk hn
      clear hn
      by_cases h0 : c = 0
      · have hz : ((c.toNat : Int) == 0) = true := by rw [h0]; rfl
        have HC := Box.mk h0
        clear h0
        go_wp2_with (first
          | (guard_target = wpList _ _ _ (⟨some 15, .buildSlice _ _ _, _, _, _, _⟩ :: _) _ _; refine wpl (o := ⟨some 15, .buildSlice _ _ _, _, _, _, _⟩) rfl fun K hK => ?_; go_must (refine op_lit1 hs rfl Tryd.underlying25 info_u8 rfl (u8s [c]) (by omega) rfl (u8s_one _) (by simp [u8s, Act.eval]) fun b15 w1 h => hK _ _ ?_); clear hs hK K; have hs := h; clear h; try dsimp only [List.set] at hs)
          | (guard_target = wpList _ _ _ (⟨some 16, .call _, _, _, _, _⟩ :: _) _ _; refine wpl (o := ⟨some 16, .call _, _, _, _, _⟩) rfl fun K hK => ?_; go_must (refine op_append (hs.pick (A := own (.slice A3 n c3) 5 n 1 (u8s E)) (by repeat (first | with_reducible exact Pick.here | with_reducible apply Pick.there))) rfl Tryd.underlying25 Tryd.underlying25 info_u8 rfl (by omega) (k := 0) rfl rfl rfl (lit_bytes (l := [c]) 1 rfl 1 rfl (by omega)) (u8s_one _) (by simp only [List.length_cons, List.length_nil]; omega) (by simp only [List.length_cons, List.length_nil]; omega) fun v16 w6 h => hK _ _ ?_); clear hs hK K; have hs := h; clear h; dsimp only [List.set, List.length_cons, List.length_nil, Nat.zero_add, Nat.reduceAdd] at hs
             obtain ⟨A16, c16, rfl, _, _⟩ := own_slice hs (i := 0) rfl)
          | (guard_target = wpList _ _ _ (⟨some 22, .buildSlice _ _ _, _, _, _, _⟩ :: _) _ _; refine wpl (o := ⟨some 22, .buildSlice _ _ _, _, _, _, _⟩) rfl fun K hK => ?_; go_must (refine op_lit1 hs rfl Tryd.underlying25 info_u8 rfl (u8s [255]) (by omega) rfl (u8s_one _) (by simp [u8s, Act.eval]) fun b22 w1 h => hK _ _ ?_); clear hs hK K; have hs := h; clear h; try dsimp only [List.set] at hs)
          | (guard_target = wpList _ _ _ (⟨some 23, .call _, _, _, _, _⟩ :: _) _ _; refine wpl (o := ⟨some 23, .call _, _, _, _, _⟩) rfl fun K hK => ?_; go_must (refine op_append (hs.pick (A := own (.slice A16 (n + 1) c16) 5 (n + 1) 1 (u8s E ++ u8s [c])) (by repeat (first | with_reducible exact Pick.here | with_reducible apply Pick.there))) rfl Tryd.underlying25 Tryd.underlying25 info_u8 rfl (by omega) (k := 0) rfl rfl rfl (lit_bytes (l := [255]) 1 rfl 1 rfl (by omega)) (u8s_one _) (by simp only [List.length_cons, List.length_nil]; omega) (by simp only [List.length_cons, List.length_nil]; omega) fun v23 w6 h => hK _ _ ?_); clear hs hK K; have hs := h; clear h; dsimp only [List.set, List.length_cons, List.length_nil, Nat.zero_add, Nat.reduceAdd] at hs
             obtain ⟨A23, c23, rfl, _, _⟩ := own_slice hs (i := 0) rfl))
        refine ⟨⟨i + 1, by omega, by go_num, ?_⟩, by simp only [intOf]; omega⟩
        have e1 : esc (l.take (i + 1)) = E ++ [c] ++ [255] := by rw [HST.out, if_pos HC.out, HC.out]; simp
        have e2 : (esc (l.take (i + 1))).length = n + 1 + 1 := by rw [e1]; simp [HN.out]
        rw [e2, e1, u8s_append, u8s_append]
        exact hs.pack (by repeat (first | with_reducible exact Pack.refl | with_reducible exact Pack.nil | with_reducible refine Pack.cons (by repeat (first | with_reducible exact Pick.here | with_reducible apply Pick.there)) ?_ | with_reducible apply Pack.drop))
      · have hz : ((c.toNat : Int) == 0) = false := by
          have : c.toNat ≠ 0 := fun e => h0 (UInt8.toNat_inj.1 e)
          simp; omega
        have HC := Box.mk h0
        clear h0
        go_wp2_with (first
          | (guard_target = wpList _ _ _ (⟨some 15, .buildSlice _ _ _, _, _, _, _⟩ :: _) _ _; refine wpl (o := ⟨some 15, .buildSlice _ _ _, _, _, _, _⟩) rfl fun K hK => ?_; go_must (refine op_lit1 hs rfl Tryd.underlying25 info_u8 rfl (u8s [c]) (by omega) rfl (u8s_one _) (by simp [u8s, Act.eval]) fun b15 w1 h => hK _ _ ?_); clear hs hK K; have hs := h; clear h; try dsimp only [List.set] at hs)
          | (guard_target = wpList _ _ _ (⟨some 16, .call _, _, _, _, _⟩ :: _) _ _; refine wpl (o := ⟨some 16, .call _, _, _, _, _⟩) rfl fun K hK => ?_; go_must (refine op_append (hs.pick (A := own (.slice A3 n c3) 5 n 1 (u8s E)) (by repeat (first | with_reducible exact Pick.here | with_reducible apply Pick.there))) rfl Tryd.underlying25 Tryd.underlying25 info_u8 rfl (by omega) (k := 0) rfl rfl rfl (lit_bytes (l := [c]) 1 rfl 1 rfl (by omega)) (u8s_one _) (by simp only [List.length_cons, List.length_nil]; omega) (by simp only [List.length_cons, List.length_nil]; omega) fun v16 w6 h => hK _ _ ?_); clear hs hK K; have hs := h; clear h; dsimp only [List.set, List.length_cons, List.length_nil, Nat.zero_add, Nat.reduceAdd] at hs
             obtain ⟨A16, c16, rfl, _, _⟩ := own_slice hs (i := 0) rfl))
        refine ⟨⟨i + 1, by omega, by go_num, ?_⟩, by simp only [intOf]; omega⟩
        have e1 : esc (l.take (i + 1)) = E ++ [c] := by rw [HST.out, if_neg HC.out]
        have e2 : (esc (l.take (i + 1))).length = n + 1 := by rw [e1]; simp [HN.out]
        rw [e2, e1, u8s_append]
        exact hs.pack (by repeat (first | with_reducible exact Pack.refl | with_reducible exact Pack.nil | with_reducible refine Pack.cons (by repeat (first | with_reducible exact Pick.here | with_reducible apply Pick.there)) ?_ | with_reducible apply Pack.drop))
    · have hltI : ¬ (i : Int) < (l.length : Int) := by omega
      obtain rfl : i = l.length := by omega
      rw [List.take_length] at hs hlen ⊢
      generalize hE : esc l = E at *
      have HE := Box.mk hE
      clear hE
      obtain ⟨n, hn⟩ : ∃ n, E.length = n := ⟨_, rfl⟩
      rw [hn] at hs hlen ⊢
      have HN := Box.mk hn
      clear hn
      have hlen2 : Box ((E ++ [0, 1]).length = n + 2) := ⟨by rw [List.length_append, HN.out]; rfl⟩
      go_wp2_with (first
        | (guard_target = wpList _ _ _ (⟨some 25, .buildSlice _ _ _, _, _, _, _⟩ :: _) _ _; refine wpl (o := ⟨some 25, .buildSlice _ _ _, _, _, _, _⟩) rfl fun K hK => ?_; go_must (refine op_lit1 hs rfl Tryd.underlying25 info_u8 rfl (u8s [0, 1]) (by omega) rfl (u8s_one _) (by simp [u8s, Act.eval]) fun b25 w1 h => hK _ _ ?_); clear hs hK K; have hs := h; clear h; try dsimp only [List.set] at hs)
        | (guard_target = wpList _ _ _ (⟨some 26, .call _, _, _, _, _⟩ :: _) _ _; refine wpl (o := ⟨some 26, .call _, _, _, _, _⟩) rfl fun K hK => ?_; go_must (refine op_append (hs.pick (A := own (.slice A3 n c3) 5 n 1 (u8s E)) (by repeat (first | with_reducible exact Pick.here | with_reducible apply Pick.there))) rfl Tryd.underlying25 Tryd.underlying25 info_u8 rfl (by omega) (k := 0) rfl rfl rfl (lit_bytes (l := [0, 1]) 1 rfl 2 rfl (by omega)) (u8s_one _) (by simp only [List.length_cons, List.length_nil]; omega) (by simp only [List.length_cons, List.length_nil]; omega) fun v26 w6 h => hK _ _ ?_); clear hs hK K; have hs := h; clear h; dsimp only [List.set, List.length_cons, List.length_nil, Nat.zero_add, Nat.reduceAdd] at hs; rw [← u8s_append] at hs
           obtain ⟨A26, c26, rfl, _, _⟩ := own_slice hs (i := 0) rfl)
        | (guard_target = wpList _ _ _ (⟨some 28, .convert _ _ _, _, _, _, _⟩ :: _) _ _; refine wpl (o := ⟨some 28, .convert _ _ _, _, _, _, _⟩) rfl fun K hK => ?_; go_must (refine op_to_string rfl Tryd.underlying25 Tryd.underlying5 Tryd.underlying9 rfl (hs.bytes ((show Has _ (bytesAt (.slice A26 (n + 2) c26) (E ++ [0, 1])) from Has.mem (A := own (.slice A26 (n + 2) c26) 5 (n + 2) 1 (u8s (E ++ [0, 1]))) (by (try dsimp only [List.set]); repeat (first | with_reducible exact List.mem_cons_self | with_reducible apply List.mem_cons_of_mem)) (own_bytesAt hlen2.out)))) (hK _ _ ?_)); clear hK K))
      go_ret
      refine ⟨?_, hs.pack (by repeat (first | with_reducible exact Pack.refl | with_reducible exact Pack.nil | with_reducible refine Pack.cons (by repeat (first | with_reducible exact Pick.here | with_reducible apply Pick.there)) ?_ | with_reducible apply Pack.drop))⟩
      rw [show text l = E ++ [0, 1] from by unfold text; rw [HE.out]]
      rfl
/-- What TakeText tells. -/
def takeTV (o : Option (List UInt8 × List UInt8)) : Value := match o with | some x => .tuple #[(.string ⟨(x.1).toArray⟩), (.string ⟨(x.2).toArray⟩), .int .i64 0] | none => .tuple #[(.string ⟨(([] : List UInt8)).toArray⟩), (.string ⟨(([] : List UInt8)).toArray⟩), .int .i64 2]
def takeTPost (o : Option (List UInt8 × List UInt8)) (W : World) (L : List HP) (e : Ending) (w' : World) : Prop := e = .returned (takeTV o) ∧ Sat W w' L
set_option maxRecDepth 100000 in
set_option maxHeartbeats 8000000 in
theorem rtakeText_spec (W w : World) (L : List HP) (hs : Sat W w L) (l : List UInt8) (hl : l.length ≤ 1073741824) :
    Calls Tryd.prog 43 #[(.string ⟨(l).toArray⟩)] w (takeTPost (takeT l) W L) := by
  obtain ⟨p, hp⟩ : ∃ p, takeT l = p := ⟨_, rfl⟩
  rw [hp]
  have HPP := Box.mk hp
  clear hp
  go_enter Tryd.func43, Tryd.ntmps43
  go_wp2_with fail
  have hs0 := hs.addNil none 5 1
  clear hs
  have hs := hs0
  clear hs0
  go_loopw [5, 6] (fun v5 v6 wr => ∃ (i : Nat) (out : List UInt8), i ≤ l.length ∧ out.length ≤ i ∧ v6 = .int .i64 (i : Nat) ∧ Box (pre out (takeT (l.drop i)) = p) ∧ Sat W wr (own v5 5 out.length 1 (u8s out) :: L)) (fun _ v6 _ => l.length - (intOf v6).toNat)
  case atStart => exact ⟨0, [], by omega, by simp, rfl, ⟨by rw [pre_nil]; exact HPP.out⟩, hs⟩
  case round =>
    clear hs
    obtain ⟨i, out, hi, hol, rfl, HEQ, hs⟩ := hrel
    obtain ⟨A5, c5, rfl, _, _⟩ := own_slice hs (i := 0) rfl
    obtain ⟨n, hn⟩ : ∃ n, out.length = n := ⟨_, rfl⟩
    rw [hn] at hs hol ⊢
    have HN := Box.mk hn
    clear hn
    by_cases hlt : i < l.length
    · have hltI : (i : Int) < (l.length : Int) := by omega
      have hdr := List.drop_eq_getElem_cons hlt
      obtain ⟨c, hc⟩ : ∃ c, l[i] = c := ⟨_, rfl⟩
      rw [hc] at hdr
      have hget : (⟨l.toArray⟩ : ByteArray)[i]'hlt = c := hc
      clear hc
      have hwi : IntKind.i64.wrap ((i : Int) + 1) = (i : Int) + 1 := by rw [IntKind.wrap_i64]; omega
      have hwi2 : IntKind.i64.wrap ((i : Int) + 2) = (i : Int) + 2 := by rw [IntKind.wrap_i64]; omega
      by_cases h0 : c = 0
      · have hz : ((c.toNat : Int) != 0) = false := by rw [h0]; rfl
        have hz2 : ((c.toNat : Int) == 0) = true := by rw [h0]; rfl
        rw [h0] at hdr
        have HC := Box.mk h0
        clear h0
        by_cases hlt2 : i + 1 < l.length
        · have hlt2I : ¬ (l.length : Int) ≤ (i : Int) + 1 := by omega
          have hlt2J : (i : Int) + 1 < (l.length : Int) := by omega
          have hdr2 := List.drop_eq_getElem_cons hlt2
          obtain ⟨d, hd⟩ : ∃ d, l[i + 1] = d := ⟨_, rfl⟩
          rw [hd] at hdr2
          have hget2 : (⟨l.toArray⟩ : ByteArray)[i + 1]'hlt2 = d := hd
          clear hd
          rw [hdr2] at hdr
          have HDR := Box.mk hdr
          clear hdr hdr2
          by_cases h1 : d = 1
          · have hy : ((d.toNat : Int) == 1) = true := by rw [h1]; rfl
            have HD := Box.mk h1
            clear h1
            have HRES : Box (p = some (out, l.drop (i + 2))) := ⟨by rw [← HEQ.out, HDR.out, HD.out, takeT_01]; simp [pre]⟩
            have hslI : ¬ (l.length : Int) < (i : Int) + 2 := by omega
            have hslJ : (i : Int) + 2 ≤ (l.length : Int) := by omega
            have hsl0 : (0 : Int) ≤ (i : Int) + 2 := by omega
            have hslN : ((i : Int) + 2).toNat = i + 2 := by omega
            go_wp2_with fail
            obtain ⟨M, hM, hs⟩ : ∃ M, M = _ ∧ Sat W _ M := ⟨_, rfl, hs⟩
            have s34 : ∀ w, Sat W w M → bytesAt (.slice A5 n c5) out (hp w) := fun w h => h.bytes (by
              rw [hM]
              exact Has.mem (A := own (.slice A5 n c5) 5 n 1 (u8s out)) (by (try dsimp only [List.set]); repeat (first | with_reducible exact List.mem_cons_self | with_reducible apply List.mem_cons_of_mem)) fun F hF => by
                have h9 := own_sliceAt F hF
                unfold bytesAt
                rw [HN.out]
                exact h9)
            have hM_ := Box.mk hM
            clear hM
            have hM := hM_
            clear hM_
            refine wp_region_quiet (C := fun w' => Sat W w' M) (by kernel_rfl) (by kernel_rfl) hs.drew ?_
            have hq := sat_const hs
            repeat (first
              | ((with_reducible refine quiet_str (o := ⟨some 34, .convert _ _ _, _, _, _, _⟩) (out) ?_ rfl Tryd.underlying25 Tryd.underlying5 Tryd.underlying9 ?_ s34 ?_); (rfl); (rfl))
              | (refine wpQuiet_step (fun K hK => ?_); go_simp; first
                  | (with_reducible refine hK _ ?_; clear hK K)))
            refine wpQuiet_nil ?_
            intro w8 hs8
            clear hs
            rw [hM.out] at hs8
            have hs := hs8
            clear hs8
            go_wp2_with fail
            (try simp only [Exit.inBlock, Exit.then])
            refine bodyPost_ret (res_tmp3 rfl _ _ _) rfl ?_
            rw [HRES.out]
            refine ⟨?_, hs.pack (by repeat (first | with_reducible exact Pack.refl | with_reducible exact Pack.nil | with_reducible refine Pack.cons (by repeat (first | with_reducible exact Pick.here | with_reducible apply Pick.there)) ?_ | with_reducible apply Pack.drop))⟩
            have e2 := str_extract l (i + 2) l.length
            rw [List.take_length] at e2
            show Ending.returned (.tuple #[_, .string (ByteArray.extract ⟨l.toArray⟩ (i + 2) l.length), _]) = _
            rw [e2]
            rfl
          · have hy : ((d.toNat : Int) == 1) = false := by
              have : d.toNat ≠ 1 := fun e => h1 (UInt8.toNat_inj.1 e)
              simp; omega
            have HD := Box.mk h1
            clear h1
            by_cases h2 : d = 255
            · have hx : ((d.toNat : Int) != 255) = false := by rw [h2]; rfl
              have HD2 := Box.mk h2
              clear h2
              go_wp2_with (first
                | (guard_target = wpList _ _ _ (⟨some 45, .buildSlice _ _ _, _, _, _, _⟩ :: _) _ _; refine wpl (o := ⟨some 45, .buildSlice _ _ _, _, _, _, _⟩) rfl fun K hK => ?_; go_must (refine op_lit1 hs rfl Tryd.underlying25 info_u8 rfl (u8s [0]) (by omega) rfl (u8s_one _) (by simp [u8s, Act.eval]) fun b45 w1 h => hK _ _ ?_); clear hs hK K; have hs := h; clear h; try dsimp only [List.set] at hs)
                | (guard_target = wpList _ _ _ (⟨some 46, .call _, _, _, _, _⟩ :: _) _ _; refine wpl (o := ⟨some 46, .call _, _, _, _, _⟩) rfl fun K hK => ?_; go_must (refine op_append (hs.pick (A := own (.slice A5 n c5) 5 n 1 (u8s out)) (by repeat (first | with_reducible exact Pick.here | with_reducible apply Pick.there))) rfl Tryd.underlying25 Tryd.underlying25 info_u8 rfl (by omega) (k := 0) rfl rfl rfl (lit_bytes (l := [0]) 1 rfl 1 rfl (by omega)) (u8s_one _) (by simp only [List.length_cons, List.length_nil]; omega) (by simp only [List.length_cons, List.length_nil]; omega) fun v46 w6 h => hK _ _ ?_); clear hs hK K; have hs := h; clear h; dsimp only [List.set, List.length_cons, List.length_nil, Nat.zero_add, Nat.reduceAdd] at hs
                   obtain ⟨A46, c46, rfl, _, _⟩ := own_slice hs (i := 0) rfl))
              refine ⟨⟨i + 2, out ++ [0], by omega, by simp [HN.out]; omega, by go_num, ⟨?_⟩, ?_⟩, by simp only [intOf]; omega⟩
              · rw [← HEQ.out, HDR.out, HD2.out, takeT_00, pre_pre]
              · rw [show (out ++ [(0 : UInt8)]).length = n + 1 from by simp [HN.out], u8s_append]
                exact hs.pack (by repeat (first | with_reducible exact Pack.refl | with_reducible exact Pack.nil | with_reducible refine Pack.cons (by repeat (first | with_reducible exact Pick.here | with_reducible apply Pick.there)) ?_ | with_reducible apply Pack.drop))
            · have hx : ((d.toNat : Int) != 255) = true := by
                have : d.toNat ≠ 255 := fun e => h2 (UInt8.toNat_inj.1 e)
                simp; omega
              have HD2 := Box.mk h2
              clear h2
              have HRES : Box (p = none) := ⟨by rw [← HEQ.out, HDR.out, takeT_0x HD.out HD2.out]; rfl⟩
              go_wp2_with fail
              (try simp only [Exit.inBlock, Exit.then])
              refine bodyPost_ret (res_tmp3 rfl _ _ _) rfl ?_
              rw [HRES.out]
              exact ⟨rfl, hs.pack (by repeat (first | with_reducible exact Pack.refl | with_reducible exact Pack.nil | with_reducible refine Pack.cons (by repeat (first | with_reducible exact Pick.here | with_reducible apply Pick.there)) ?_ | with_reducible apply Pack.drop))⟩
        · have hlt2I : (l.length : Int) ≤ (i : Int) + 1 := by omega
          have hnil : l.drop (i + 1) = [] := List.drop_eq_nil_of_le (by omega)
          have HRES : Box (p = none) := ⟨by rw [← HEQ.out, hdr, hnil]; rfl⟩
          clear hdr hnil
          go_wp2_with fail
          (try simp only [Exit.inBlock, Exit.then])
          refine bodyPost_ret (res_tmp3 rfl _ _ _) rfl ?_
          rw [HRES.out]
          exact ⟨rfl, hs.pack (by repeat (first | with_reducible exact Pack.refl | with_reducible exact Pack.nil | with_reducible refine Pack.cons (by repeat (first | with_reducible exact Pick.here | with_reducible apply Pick.there)) ?_ | with_reducible apply Pack.drop))⟩
      · have hz : ((c.toNat : Int) != 0) = true := by
          have : c.toNat ≠ 0 := fun e => h0 (UInt8.toNat_inj.1 e)
          simp; omega
        have HC := Box.mk h0
        have HDR := Box.mk hdr
        clear h0 hdr
        go_wp2_with (first
          | (guard_target = wpList _ _ _ (⟨some 19, .buildSlice _ _ _, _, _, _, _⟩ :: _) _ _; refine wpl (o := ⟨some 19, .buildSlice _ _ _, _, _, _, _⟩) rfl fun K hK => ?_; go_must (refine op_lit1 hs rfl Tryd.underlying25 info_u8 rfl (u8s [c]) (by omega) rfl (u8s_one _) (by simp [u8s, Act.eval]) fun b19 w1 h => hK _ _ ?_); clear hs hK K; have hs := h; clear h; try dsimp only [List.set] at hs)
          | (guard_target = wpList _ _ _ (⟨some 20, .call _, _, _, _, _⟩ :: _) _ _; refine wpl (o := ⟨some 20, .call _, _, _, _, _⟩) rfl fun K hK => ?_; go_must (refine op_append (hs.pick (A := own (.slice A5 n c5) 5 n 1 (u8s out)) (by repeat (first | with_reducible exact Pick.here | with_reducible apply Pick.there))) rfl Tryd.underlying25 Tryd.underlying25 info_u8 rfl (by omega) (k := 0) rfl rfl rfl (lit_bytes (l := [c]) 1 rfl 1 rfl (by omega)) (u8s_one _) (by simp only [List.length_cons, List.length_nil]; omega) (by simp only [List.length_cons, List.length_nil]; omega) fun v20 w6 h => hK _ _ ?_); clear hs hK K; have hs := h; clear h; dsimp only [List.set, List.length_cons, List.length_nil, Nat.zero_add, Nat.reduceAdd] at hs
             obtain ⟨A20, c20, rfl, _, _⟩ := own_slice hs (i := 0) rfl))
        refine ⟨⟨i + 1, out ++ [c], by omega, by simp [HN.out]; omega, by go_num, ⟨?_⟩, ?_⟩, by simp only [intOf]; omega⟩
        · rw [← HEQ.out, HDR.out, takeT_cons HC.out, pre_pre]
        · rw [show (out ++ [c]).length = n + 1 from by simp [HN.out], u8s_append]
          exact hs.pack (by repeat (first | with_reducible exact Pack.refl | with_reducible exact Pack.nil | with_reducible refine Pack.cons (by repeat (first | with_reducible exact Pick.here | with_reducible apply Pick.there)) ?_ | with_reducible apply Pack.drop))
    · have hltI : ¬ (i : Int) < (l.length : Int) := by omega
      have hnil : l.drop i = [] := List.drop_eq_nil_of_le (by omega)
      have HRES : Box (p = none) := ⟨by rw [← HEQ.out, hnil]; rfl⟩
      clear hnil
      go_wp2_with fail
      (try simp only [Exit.inBlock, Exit.then])
      refine bodyPost_ret (res_tmp3 rfl _ _ _) rfl ?_
      rw [HRES.out]
      exact ⟨rfl, hs.pack (by repeat (first | with_reducible exact Pack.refl | with_reducible exact Pack.nil | with_reducible refine Pack.cons (by repeat (first | with_reducible exact Pick.here | with_reducible apply Pick.there)) ?_ | with_reducible apply Pack.drop))⟩
end Go.Proofs.YthjnefpnnifjiaaDoor
