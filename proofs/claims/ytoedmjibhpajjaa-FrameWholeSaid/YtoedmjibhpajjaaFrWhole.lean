/- The walk of the law FrameWhole. -/
import Derived.Test.YtoedmjibhpajjaaFrCuts
import Derived.Test.YtoedmjibhpajjaaFrWholeP
set_option linter.unusedVariables false
set_option linter.unusedSimpArgs false
namespace Go.Proofs.Ytoedmjibhpajjaa
open Go.RowKit
theorem whole_flag (a z : Bool) : ∃ fl : UInt8, (if z then (if a then (0 : UInt8) ||| 1 else 0) ||| 2 else if a then (0 : UInt8) ||| 1 else 0) = fl ∧ bits .and .u8 (fl.toNat : Int) 1 = (if a then 1 else 0) ∧ bits .and .u8 (fl.toNat : Int) 2 = (if z then 2 else 0) ∧ ¬ ((3 : Int) < (fl.toNat : Int)) := by
  cases a <;> cases z <;> exact ⟨_, rfl, by decide, by decide, by decide⟩
set_option maxRecDepth 100000 in
set_option maxHeartbeats 4000000 in
theorem frameWhole_walk (W w : World) (L : List HP) (hs : Sat W w L) (epoch seq : Nat) (he : epoch < 4294967296) (hseq : seq < 4294967296) (v : Value) (rec : List UInt8) (hv : Has L (bytesAt v rec)) :
    Calls Try.prog 7 #[.int .u32 (epoch : Nat), .int .u32 (seq : Nat), v] w fun e w' => e = .returned (.bool true) ∧ Sat W w' L := by
  obtain ⟨A, cap, rfl, hc1, hc2⟩ := slice_form (hs.bytes hv)
  by_cases hbig : 2000 < rec.length
  · have hbigI : (2000 : Int) < (rec.length : Int) := by omega
    go_enter Try.func7, Try.ntmps7
    go_wp2_with (first
      | (go_at_call 15; go_must (refine (awake5_spec W _ _ hs).mono ?_); clear hs; rintro e w1 ⟨rfl, hs⟩))
    go_ret
    exact ⟨rfl, hs⟩
  · have hbigI : ¬ (2000 : Int) < (rec.length : Int) := by omega
    obtain ⟨n, hn⟩ : ∃ n, (cuts rec).length = n := ⟨_, rfl⟩
    have hcl : Box ((cutF epoch seq rec).length = n) := ⟨by rw [cutF_length, hn]⟩
    have hnb : 0 < n ∧ n ≤ 2001 := by
      have h1 := cuts_count rec
      have h2 := List.length_pos_iff.2 (cuts_ne rec)
      omega
    obtain ⟨hn0, hn1⟩ := hnb
    have hnn : Box (n = max 1 ((rec.length + 49) / 50)) := ⟨by rw [← hn]; exact cuts_number _ rec (Nat.le_refl _)⟩
    have hjoin := Box.mk (cuts_join _ rec (Nat.le_refl _))
    have hdiv : ((rec.length : Int) + 49).tdiv 50 = (((rec.length + 49) / 50 : Nat) : Int) := by
      rw [Int.tdiv_eq_ediv_of_nonneg (by omega)]; push_cast; rfl
    have hmax : (if (1 : Int) < (((rec.length + 49) / 50 : Nat) : Int) then (((rec.length + 49) / 50 : Nat) : Int) else 1) = (n : Int) := by have := hnn.out; split <;> omega
    go_enter Try.func7, Try.ntmps7
    go_wp2_with (first
      | (go_at_call 15; go_must (refine (awake5_spec W _ _ hs).mono ?_); clear hs; rintro e w1 ⟨rfl, hs⟩)
      | (go_at_call 21; go_must (refine (cut_spec W _ _ hs epoch seq he hseq _ rec hv (by omega)).mono ?_); clear hs; rintro e w1 ⟨v8, l8, rfl, hl8, hs⟩; rw [hcl.out] at hs
         obtain ⟨b8, c8, sp, rfl, _, _, _, _⟩ := hs.ownOpen (i := 0) rfl hn0))
    go_loopw [9, 10] (fun v9 v10 wr => ∃ i : Nat, i ≤ n ∧ v10 = .int .i64 (i : Nat) ∧ v9 = (.string ⟨(((cuts rec).take i).flatten).toArray⟩) ∧ Sat W wr (own (.slice (some ⟨b8, 0, none⟩) n c8) 25 n 4 (frsCells l8) :: bods l8 :: L)) (fun _ v10 _ => n - (intOf v10).toNat)
    case atStart => exact ⟨0, by omega, rfl, by simp, hs⟩
    case round =>
      clear hs
      obtain ⟨i, hi, rfl, rfl, hs⟩ := hrel
      by_cases hin : i < n
      · have hinI : (i : Int) < (n : Int) := by omega
        have h8l : i < l8.length := by have := congrArg List.length hl8; simp at this; omega
        have hic : i < (cuts rec).length := by omega
        obtain ⟨f, y, hfy⟩ : ∃ f y, l8[i] = (f, y) := ⟨_, _, rfl⟩
        have hf : f = ⟨epoch, (seq + i) % 4294967296, (if i = (cuts rec).length - 1 then (if i = 0 then (0 : UInt8) ||| 1 else 0) ||| 2 else if i = 0 then (0 : UInt8) ||| 1 else 0), (cuts rec)[i]⟩ := by
          have h1 : (cutF epoch seq rec)[i]? = some f := by rw [← hl8]; simp [h8l, hfy]
          rw [cutF_get epoch seq rec i hic] at h1
          exact (Option.some.inj h1).symm
        have hb : ∀ F, bods l8 F → bytesAt y f.body F := fun F hF => by have := bods_has h8l F hF; rw [hfy] at this; exact this
        have q8 := frs_part l8 i h8l
        rw [hfy] at q8
        obtain ⟨a, ha⟩ : ∃ a, decide (i = 0) = a := ⟨_, rfl⟩
        obtain ⟨z, hz⟩ : ∃ z, decide (i = n - 1) = z := ⟨_, rfl⟩
        have ha1 : ((i : Int) == 0) = a := by rw [← ha]; by_cases h : i = 0 <;> simp [h]
        have hz1 : ((i : Int) == (n : Int) - 1) = z := by rw [← hz]; by_cases h : i = n - 1 <;> simp [h] <;> omega
        obtain ⟨fl, hfl, hf1, hf2, hf3⟩ := whole_flag a z
        have hf' : f = ⟨epoch, (seq + i) % 4294967296, fl, (cuts rec)[i]⟩ := by rw [hf, ← hfl, ← ha, ← hz, hn]; simp
        have hlast : (cuts rec)[i].length ≤ 50 := cuts_len _ rec (Nat.le_refl _) _ (List.getElem_mem hic)
        have hfull : z = false → (cuts rec)[i].length = 50 := by
          intro h
          rw [← hz] at h
          have h2 : ¬ i = n - 1 := by simpa using h
          exact cuts_full _ rec (Nat.le_refl _) i (by omega)
        have hsum : (((cuts rec).take i).flatten ++ (cuts rec)[i]) = ((cuts rec).take (i + 1)).flatten := by rw [List.take_succ_eq_append_getElem hic, List.flatten_append, List.flatten_singleton]
        have htot : ((cuts rec).take i).flatten.length ≤ rec.length := by
          have := congrArg List.length (congrArg List.flatten (List.take_append_drop i (cuts rec)))
          rw [hjoin.out, List.flatten_append, List.length_append] at this; omega
        generalize hB : (cuts rec)[i] = B at *
        generalize ((cuts rec).take i).flatten = S at *
        clear hf hfl
        subst hf'
        have hb' : Has (own (.slice (some ⟨b8, 0, none⟩) n c8) 25 n 4 (frsCells l8) :: bods l8 :: L) (bytesAt y B) := Has.mem (A := bods l8) (by (try dsimp only [List.set]); repeat (first | with_reducible exact List.mem_cons_self | with_reducible apply List.mem_cons_of_mem)) hb
        obtain ⟨A8, cap8, rfl, _, _⟩ := slice_form (hs.bytes hb')
        have k0 : wr.cell? ⟨b8, i * 4, none⟩ = some (.int .u32 (epoch : Nat)) := own_cell hs m0 (q8 0 _ rfl)
        have k1 : wr.cell? ⟨b8, i * 4 + 1, none⟩ = some (.int .u32 (((seq + i) % 4294967296 : Nat) : Int)) := own_cell hs m0 (q8 1 _ rfl)
        have k2 : wr.cell? ⟨b8, i * 4 + 2, none⟩ = some (.int .u8 (fl.toNat : Int)) := own_cell hs m0 (q8 2 _ rfl)
        have k3 : wr.cell? ⟨b8, i * 4 + 3, none⟩ = some (.slice A8 B.length cap8) := own_cell hs m0 (q8 3 _ rfl)
        clear q8 hb'
        have hw1 : IntKind.u32.wrap (i : Int) = (i : Int) := by rw [IntKind.wrap_u32]; omega
        have hw2 : IntKind.u32.wrap ((seq : Int) + (i : Int)) = (((seq + i) % 4294967296 : Nat) : Int) := by simp [IntKind.wrap, IntKind.bits, IntKind.signed]
        have hlI : ¬ (50 : Int) < (B.length : Int) := by omega
        have hadd : ¬ (9223372036854775807 : Int) < (S.length : Int) + (B.length : Int) := by omega
        clear hfy h8l
        have hcase : (z = true ∧ True) ∨ (z = false ∧ (B.length : Int) = 50) := by
          cases z
          · exact .inr ⟨rfl, by have := hfull rfl; omega⟩
          · exact .inl ⟨rfl, trivial⟩
        clear hfull
        rcases hcase with ⟨rfl, hB50⟩ | ⟨rfl, hB50⟩ <;> cases a
        all_goals (
          simp only [Bool.false_eq_true, if_false, if_true] at hf1 hf2
          go_wp2_with (first
            | (guard_target = wpList _ _ _ (⟨some 110, .convert _ _ _, _, _, _, _⟩ :: _) _ _; refine wpl (o := ⟨some 110, .convert _ _ _, _, _, _, _⟩) rfl fun K hK => ?_; go_must (refine op_to_string rfl Try.underlying23 Try.underlying5 Try.underlying9 rfl (hs.bytes (Has.mem (A := bods l8) (by (try dsimp only [List.set]); repeat (first | with_reducible exact List.mem_cons_self | with_reducible apply List.mem_cons_of_mem)) hb)) (hK _ _ ?_)); clear hK K))
          exact ⟨⟨i + 1, by omega, rfl, by rw [← hsum, str_app], hs.pack (by repeat (first | with_reducible exact Pack.refl | with_reducible exact Pack.nil | with_reducible refine Pack.cons (by repeat (first | with_reducible exact Pick.here | with_reducible apply Pick.there)) ?_ | with_reducible apply Pack.drop))⟩, by show n - ((i : Int) + 1).toNat < n - (i : Int).toNat; omega⟩)
      · have hinI : ¬ (i : Int) < (n : Int) := by omega
        have hall : ((cuts rec).take i).flatten = rec := by rw [List.take_of_length_le (by omega), hjoin.out]
        rw [hall]
        go_wp2_with (first
          | (guard_target = wpList _ _ _ (⟨some 116, .convert _ _ _, _, _, _, _⟩ :: _) _ _; refine wpl (o := ⟨some 116, .convert _ _ _, _, _, _, _⟩) rfl fun K hK => ?_; go_must (refine op_to_string rfl Try.underlying23 Try.underlying5 Try.underlying9 rfl (hs.bytes (hv.tail.tail)) (hK _ _ ?_)); clear hK K))
        all_goals (
          go_ret
          refine ⟨?_, hs.pack (by repeat (first | with_reducible exact Pack.refl | with_reducible exact Pack.nil | with_reducible refine Pack.cons (by repeat (first | with_reducible exact Pick.here | with_reducible apply Pick.there)) ?_ | with_reducible apply Pack.drop))⟩
          have hq := hnn.out
          show Ending.returned (Value.bool _) = _
          simp
          omega)
theorem frameWhole_main (W : World) (e : Int) (v0 : Value) (h0 : (Kin.int .u32).K (hp W) e [v0]) (s : Int) (v1 : Value) (h1 : (Kin.int .u32).K (hp W) s [v1]) (l : List UInt8) (v : Value) (h2 : (Kin.slice 1 Kin.u8).K (hp W) l [v]) :
    Calls Try.prog 7 #[v0, v1, v] W fun e w' => e = .returned (.bool true) ∧ Below W.heap.size W w' := by
  obtain ⟨e, he, rfl⟩ := u32_arg h0
  obtain ⟨s, hs, rfl⟩ := u32_arg h1
  obtain ⟨hb, hl⟩ := kin_bytes h2
  exact (frameWhole_walk W W _ (Sat.start W) e s he hs v l ((has_old h2).imp fun F hF => (kin_bytes hF).1)).mono fun e w' ⟨he, hs⟩ => ⟨he, hs.end_ m0⟩
end Go.Proofs.Ytoedmjibhpajjaa
