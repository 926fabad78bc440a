/- The walk of the law VdiskTorn. -/
import Derived.Test.YtclcajjcbdfaiaaVdW
import Derived.Test.YtclcajjcbdfaiaaKinW
set_option linter.unusedVariables false
set_option linter.unusedSimpArgs false
namespace Go.Proofs.Ytclcajjcbdfaiaa
open Go.RowKit
namespace Dk
theorem upTo_torn {D : Dk} {s : Nat} {x : List UInt8} {bs : List (List UInt8)} (h0 : D.secs[s]? = some x) (h : D.row = bs.map fun b => (s, pad b)) (keep : Nat → Bool) : ∀ k, k ≤ D.row.length → ∃ y, (D.upTo keep k)[s]? = some y ∧ (y = x ∨ ∃ b ∈ bs, y = pad b)
  | 0, _ => ⟨x, h0, .inl rfl⟩
  | k + 1, hk => by
    obtain ⟨y, h1, h2⟩ := upTo_torn h0 h keep k (by omega)
    have hs : s < D.secs.length := (List.getElem?_eq_some_iff.1 h0).1
    rw [upTo_succ D keep k hk]
    split
    · have hk' : k < bs.length := by rw [h, List.length_map] at hk; omega
      have e : D.row[k] = (s, pad bs[k]) := by simp [h]
      rw [e, List.getElem?_set, if_pos rfl, if_pos (by rw [upTo_length]; exact hs)]
      exact ⟨_, rfl, .inr ⟨bs[k], List.getElem_mem hk', rfl⟩⟩
    · exact ⟨y, h1, h2⟩
theorem crash_torn {D : Dk} {s : Nat} {x : List UInt8} {bs : List (List UInt8)} (h0 : D.secs[s]? = some x) (h : D.row = bs.map fun b => (s, pad b)) (keep : Nat → Bool) : (D.crash keep).read s = x ∨ ∃ b ∈ bs, (D.crash keep).read s = pad b := by
  obtain ⟨y, h1, h2⟩ := upTo_torn h0 h keep _ (Nat.le_refl _)
  have e : (D.crash keep).read s = y := by
    show ((D.upTo keep D.row.length).getD s []) = y
    rw [List.getD_eq_getElem?_getD, h1]; rfl
  rw [e]; exact h2
end Dk
abbrev k9 : Kin (List UInt8) := Kin.arr 9 Kin.u8
def nines (v : Value) (l : List (List UInt8)) (F : PH) : Prop := (Kin.slice 9 k9).K F l [v]
theorem nines_old {W : World} {v : Value} {l : List (List UInt8)} (h : nines v l (hp W)) (i : Nat) (hi : i < l.length) : ∃ b o c, v = .slice (some ⟨b, o, none⟩) l.length c ∧ W.rangeAt b (o + i * 9) (u8s l[i]) ∧ l[i].length = 9 := by
  obtain ⟨b, o, c, cs, e, h1, h2⟩ := kslice_elem h (by decide) i hi
  have := rows_u8 h2.2
  subst this
  exact ⟨b, o, c, e, h1, h2.1⟩
def tornInv (n b1 b2 o2 c2 : Nat) (D1 : Dk) (bs : List (List UInt8)) (W : World) (L : List HP) (v11 : Value) (wr : World) : Prop := ∃ (k : Nat) (D : Dk), k ≤ n ∧ k ≤ 40 ∧ v11 = .int .i64 k ∧ Box (D.secs = D1.secs ∧ D.row = (bs.take k).map fun b => (2, pad b)) ∧ Sat W wr (bytesH (.slice (some ⟨b2, o2, none⟩) 64 c2) (D1.read 2) :: disk b1 D :: L)
set_option maxRecDepth 100000 in
set_option maxHeartbeats 8000000 in
theorem vdiskTorn_walk (W w : World) (L : List HP) (hs : Sat W w L) (hold : old W ∈ L) (v0 : Value) (l : List Deed) (h0 : deedsAt v0 l (hp W)) (v1 : Value) (bs : List (List UInt8)) (h1 : nines v1 bs (hp W)) (v2 : Value) (keep : List Bool) (h2 : boolsAt v2 keep (hp W)) :
    Calls Try.prog 11 #[v0, v1, v2] w fun e w' => e = .returned (.bool true) ∧ Sat W w' L := by
  obtain ⟨A0, c0, rfl, hl1, hl2, hl3⟩ := deeds_form h0
  obtain ⟨A1, c1, rfl, hm1, hm2, hm3⟩ := kslice_form h1
  obtain ⟨_, A2, c2, rfl, _, _, _⟩ := id h2
  go_enter Try.func11, Try.ntmps11
  go_wp2_with (first
    | (go_at_call 22; go_must (refine (vawake_spec W _ _ hs).mono ?_); clear hs; rintro e w1 ⟨rfl, hs⟩)
    | (go_at_call 23; with_reducible refine (few2_spec W _ _ hs (by repeat (first | exact hold | apply List.mem_cons_of_mem)) _ l h0).mono ?_; clear hs; rintro e w1 (⟨rfl, hs⟩ | ⟨rfl, hf0, hf0b, hs⟩))
    | (go_at_call 24; go_must (refine (run_spec W _ _ hs (by repeat (first | exact hold | apply List.mem_cons_of_mem)) _ l h0 (by omega)).mono ?_); clear hs; rintro e w1 ⟨b1, D0, rfl, ok0, h80, hr0, hs⟩
       have H80 := Box.mk h80; clear h80
       have hrc := rcode_in (D := D0.sync) (i := 2) (by have := H80.out; simp; omega)
       have hrb := rbytes_in (D := D0.sync) (i := 2) (by have := H80.out; simp; omega))
    | (go_at_call 26; go_must (refine (sync_spec W _ _ b1 _ hs (by omega)).mono ?_); clear hs; rintro e w1 ⟨rfl, hs⟩)
    | (go_at_call 28; go_must (refine (read_any W _ _ b1 _ hs (2 : Nat) (by simp)).mono ?_); clear hs; rintro e w1 ⟨v3, rfl, hs⟩
       rw [hrc]; rw [hrb] at hs
       obtain ⟨b2, o2, c3, rfl, _, _⟩ := bytesH_form hs 0 rfl (n := 64) (Dk.read_len (Dk.crash_ok ok0 _) (by have := H80.out; simp; omega)) (by omega)))
  · go_ret
    exact ⟨rfl, hs.pack (by repeat (first | with_reducible exact Pack.refl | with_reducible exact Pack.nil | with_reducible refine Pack.cons (by repeat (first | with_reducible exact Pick.here | with_reducible apply Pick.there)) ?_ | with_reducible apply Pack.drop))⟩
  have H8 : Box (D0.sync.secs.length = 8 ∧ D0.sync.row = []) := ⟨by simp [H80.out], by simp⟩
  have hr64 : Box ((D0.sync.read 2).length = 64) := ⟨Dk.read_len (Dk.crash_ok ok0 _) (by have := H80.out; simp; omega)⟩
  generalize hD1 : D0.sync = D1 at hs H8 hr64
  go_loopw [11] (fun v11 wr => tornInv bs.length b1 b2 o2 c3 D1 bs W L v11 wr) (fun v11 _ => bs.length - (intOf v11).toNat)
  case atStart => exact ⟨0, D1, by omega, by omega, rfl, ⟨rfl, by simp [H8.out.2]⟩, hs⟩
  case round =>
    clear hs hD1 hrc hrb
    obtain ⟨k, D, hk, hk40, rfl, hD, hs⟩ := hrel
    have hD8 : Box (D.secs.length = 8 ∧ D.row.length = k) := ⟨by rw [hD.out.1]; exact H8.out.1, by rw [hD.out.2]; simp; omega⟩
    by_cases hlt : k < bs.length ∧ k < 40
    · obtain ⟨hlt1, hlt2⟩ := hlt
      have hltI : (k : Int) < (bs.length : Int) := by omega
      have h40I : (k : Int) < 40 := by omega
      obtain ⟨bb, ob, cb, e, hrg, h9⟩ := nines_old h1 k hlt1
      cases e
      have H9 := Box.mk h9
      clear h9
      have hwc := wcode_in (D := D) (i := 2) (l := bs[k]) (by have := hD8.out.1; omega) (by have := H9.out; omega)
      go_wp2_with (first
        | (go_at_call 25; go_must (refine (write_any W _ _ b1 D (hs.pick (by repeat (first | with_reducible exact Pick.here | with_reducible apply Pick.there))) (2 : Nat) _ bs[k] (bytes_old (n := 9) (c := 9) (by repeat (first | exact hold | apply List.mem_cons_of_mem)) hrg H9.out (by omega) (by omega)) (by have := hD8.out.2; omega)).mono ?_); clear hs; rintro e w1 ⟨rfl, hs⟩
           rw [hwc]))
      refine ⟨⟨k + 1, _, by omega, by omega, by go_num, ⟨?_, ?_⟩, hs.pack (by repeat (first | with_reducible exact Pack.refl | with_reducible exact Pack.nil | with_reducible refine Pack.cons (by repeat (first | with_reducible exact Pick.here | with_reducible apply Pick.there)) ?_ | with_reducible apply Pack.drop))⟩, by simp [intOf]; omega⟩
      · rw [wnext_in (by have := hD8.out.1; omega) (by have := H9.out; omega)]; exact hD.out.1
      · rw [wnext_in (by have := hD8.out.1; omega) (by have := H9.out; omega)]
        show D.row ++ [(2, pad bs[k])] = _
        rw [hD.out.2, List.take_succ_eq_append_getElem hlt1, List.map_append]; rfl
    · have hend : Box (¬ (k < bs.length ∧ k < 40)) := ⟨hlt⟩
      have hx : D.secs[2]? = some (D1.read 2) := by
        have e : D1.read 2 = D1.secs.getD 2 [] := by unfold Dk.read; rw [H8.out.2]; rfl
        rw [hD.out.1, e, List.getD_eq_getElem?_getD, List.getElem?_eq_getElem (by have := H8.out.1; omega)]; rfl
      have htorn := Box.mk (Dk.crash_torn hx hD.out.2 fun i => keep.getD i false)
      clear hx
      have hrc := rcode_in (D := D.crash fun i => keep.getD i false) (i := 2) (by have := hD8.out.1; simp; omega)
      have hrb := rbytes_in (D := D.crash fun i => keep.getD i false) (i := 2) (by have := hD8.out.1; simp; omega)
      have hy64 : Box (((D.crash fun i => keep.getD i false).read 2).length = 64) := ⟨Dk.read_len (Dk.crash_ok (hs.swap.disk_open.1) _) (by have := hD8.out.1; simp; omega)⟩
      generalize hx : D1.read 2 = x at hs htorn hr64
      have hexit : (k : Int) < (bs.length : Int) → ¬ (k : Int) < 40 := fun h1 h2 => hlt ⟨by omega, by omega⟩
      by_cases hlt1 : (k : Int) < (bs.length : Int)
      · have h40 := hexit hlt1
        clear hexit hlt
        go_wp2_with (first
          | (go_at_call 27; go_must (refine (crash_spec W _ _ b1 D (hs.pick (by repeat (first | with_reducible exact Pick.here | with_reducible apply Pick.there))) (by have := hD8.out.2; omega) _ keep (has_w (by repeat (first | exact hold | apply List.mem_cons_of_mem)) h2)).mono ?_); clear hs; rintro e w1 ⟨rfl, hs⟩)
          | (go_at_call 28; go_must (refine (read_any W _ _ b1 _ hs (2 : Nat) (by simp)).mono ?_); clear hs; rintro e w1 ⟨v3, rfl, hs⟩
             rw [hrc]; rw [hrb] at hs
             generalize hy : (D.crash fun i => keep.getD i false).read 2 = y at hs htorn hy64
             obtain ⟨b4, o4, c4, rfl, _, _⟩ := bytesH_form hs 0 rfl (n := 64) hy64.out (by omega))
          | (refine wpl (o := ⟨some 58, .convert _ _ _, _, _, _, _⟩) rfl fun K hK => ?_; go_must (refine op_to_string rfl Try.underlying22 Try.underlying5 Try.underlying9 rfl (hs.bytes (bytesH_has 0 rfl)) (hK _ _ ?_)); clear hK K)
          | (refine wpl (o := ⟨some 60, .convert _ _ _, _, _, _, _⟩) rfl fun K hK => ?_; go_must (refine op_to_string rfl Try.underlying22 Try.underlying5 Try.underlying9 rfl (hs.bytes (bytesH_has 2 rfl)) (hK _ _ ?_)); clear hK K))
        have hj0 : Box ((y == x) = true ↔ (y = x ∨ ∃ b ∈ bs.take 0, y = pad b)) := ⟨by simp⟩
        generalize (y == x) = r0 at hj0
        obtain ⟨M, hM, hs⟩ : ∃ M, M = _ ∧ Sat W _ M := ⟨_, rfl, hs⟩
        go_loopw [14, 15] (fun v14 v15 wr => ∃ (j : Nat) (r : Bool), j ≤ bs.length ∧ j ≤ 40 ∧ v15 = .int .i64 j ∧ v14 = .bool r ∧ Box (r = true ↔ (y = x ∨ ∃ b ∈ bs.take j, y = pad b)) ∧ Sat W wr M) (fun _ v15 _ => bs.length - (intOf v15).toNat)
        case atStart => exact ⟨0, r0, by omega, by omega, rfl, rfl, hj0, hs⟩
        case round =>
          clear hs hj0
          obtain ⟨j, r, hj, hj40, rfl, rfl, hr, hs⟩ := hrel
          by_cases hlt2 : j < bs.length
          · have hlt2I : (j : Int) < (bs.length : Int) := by omega
            by_cases hlt3 : j < 40
            · have hlt3I : (j : Int) < 40 := by omega
              have hM' := Box.mk hM
              clear hM
              obtain ⟨bb, ob, cb, e, hrg, h9⟩ := nines_old h1 j hlt2
              cases e
              have H9 := Box.mk h9
              clear h9
              cases r with
              | true =>
                go_wp2_with fail
                have hM := hM'.out
                clear hM'
                have hM_ := Box.mk hM
                clear hM
                have hM := hM_
                clear hM_
                refine wp_region_quiet (C := fun w' => Sat W w' M) (by kernel_rfl) (by kernel_rfl) hs.drew ?_
                have hq := sat_const hs
                repeat (first
                  | ((with_reducible refine quiet_skip (o := ⟨some 74, _, _, _, _, _⟩) ?_ ?_); (kernel_rfl))
                  | ((with_reducible refine quiet_skip (o := ⟨some 75, _, _, _, _, _⟩) ?_ ?_); (kernel_rfl))
                  | ((with_reducible refine quiet_skip (o := ⟨some 76, _, _, _, _, _⟩) ?_ ?_); (kernel_rfl))
                  | ((with_reducible refine quiet_skip (o := ⟨some 77, _, _, _, _, _⟩) ?_ ?_); (kernel_rfl))
                  | ((with_reducible refine quiet_skip (o := ⟨some 78, _, _, _, _, _⟩) ?_ ?_); (kernel_rfl))
                  | ((with_reducible refine quiet_skip (o := ⟨some 79, _, _, _, _, _⟩) ?_ ?_); (kernel_rfl))
                  | ((with_reducible refine quiet_skip (o := ⟨some 80, _, _, _, _, _⟩) ?_ ?_); (kernel_rfl))
                  | ((with_reducible refine quiet_skip (o := ⟨some 81, _, _, _, _, _⟩) ?_ ?_); (kernel_rfl))
                  | (refine wpQuiet_step (fun K hK => ?_); go_simp; first
                      | (with_reducible refine hK _ ?_; clear hK K)))
                refine wpQuiet_nil ?_
                intro w8 hs8
                clear hs
                rw [hM.out] at hs8
                have hs := hs8
                clear hs8
                go_wp2_with fail
                refine ⟨⟨j + 1, true, by omega, by omega, by go_num, rfl, ⟨?_⟩, by rw [hM.out]; exact hs⟩, by simp [intOf]; omega⟩
                refine ⟨fun _ => ?_, fun _ => rfl⟩
                rcases hr.out.1 (by trivial) with h | ⟨b, hb, h⟩
                · exact .inl h
                · exact .inr ⟨b, by rw [List.take_succ_eq_append_getElem hlt2]; exact List.mem_append_left _ hb, h⟩
              | false =>
                go_wp2_with fail
                have hM := hM'.out
                clear hM'
                have oF : ∀ w, Sat W w M → Calls Try.prog 29 #[.slice (some ⟨bb, ob + j * 9, none⟩) 9 9] w fun e w' => e = .returned (.string ⟨(pad bs[j]).toArray⟩) ∧ Sat W w' M := by rw [hM]; exact fun w h => full_spec W w _ h _ bs[j] (bytes_old (n := 9) (c := 9) (by repeat (first | exact hold | apply List.mem_cons_of_mem)) hrg H9.out (by omega) (by omega)) (by have := H9.out; omega)
                have cS : ∀ w, Sat W w M → bytesAt (.slice (some ⟨b4, o4, none⟩) 64 c4) y (hp w) := by rw [hM]; exact fun w h => h.bytes (bytesH_has 0 rfl)
                have oF_ := Box.mk oF
                clear oF
                have oF := oF_
                clear oF_
                have hM_ := Box.mk hM
                clear hM
                have hM := hM_
                clear hM_
                refine wp_region_quiet (C := fun w' => Sat W w' M) (by kernel_rfl) (by kernel_rfl) hs.drew ?_
                have hq := sat_const hs
                repeat (first
                  | ((with_reducible refine quiet_str (o := ⟨some 75, .convert _ _ _, _, _, _, _⟩) (y) ?_ rfl Try.underlying22 Try.underlying5 Try.underlying9 ?_ cS ?_); (rfl); (rfl))
                  | (refine wpQuiet_step (fun K hK => ?_); go_simp; first
                      | (with_reducible refine hK _ ?_; clear hK K)
                      | (apply Exists.intro; refine ⟨fun w5 h5 => ?_, hK _ ?_⟩; (first | with_reducible exact oF.out w5 h5); clear hK K)))
                refine wpQuiet_nil ?_
                intro w8 hs8
                clear hs
                rw [hM.out] at hs8
                have hs := hs8
                clear hs8
                go_wp2_with fail
                refine ⟨⟨j + 1, _, by omega, by omega, by go_num, rfl, ⟨?_⟩, by rw [hM.out]; exact hs⟩, by simp [intOf]; omega⟩
                have hno : ¬ (y = x ∨ ∃ b ∈ bs.take j, y = pad b) := fun h => by have := hr.out.2 h; cases this
                rw [List.take_succ_eq_append_getElem hlt2]
                constructor
                · intro h
                  have : y = pad bs[j] := by simpa using h
                  exact .inr ⟨bs[j], List.mem_append_right _ (List.mem_singleton.2 rfl), this⟩
                · rintro (h | ⟨b, hb, h⟩)
                  · exact absurd (.inl h) hno
                  · rcases List.mem_append.1 hb with hb | hb
                    · exact absurd (.inr ⟨b, hb, h⟩) hno
                    · simp at hb; subst hb; simpa using h
            · have hlt3I : ¬ (j : Int) < 40 := by omega
              obtain rfl : r = true := hr.out.2 (by obtain rfl : j = k := (by have := hend.out; omega); exact htorn.out)
              subst hM
              go_wp2_with (first
                | (go_at_call 33; go_must (refine (pending_spec W _ _ b1 _ (hs.pick (by repeat (first | with_reducible exact Pick.here | with_reducible apply Pick.there)))).mono ?_); clear hs; rintro e w1 ⟨rfl, hs⟩))
              go_ret
              exact ⟨rfl, hs.pack (by repeat (first | with_reducible exact Pack.refl | with_reducible exact Pack.nil | with_reducible refine Pack.cons (by repeat (first | with_reducible exact Pick.here | with_reducible apply Pick.there)) ?_ | with_reducible apply Pack.drop))⟩
          · have hlt2I : ¬ (j : Int) < (bs.length : Int) := by omega
            obtain rfl : r = true := hr.out.2 (by obtain rfl : j = k := (by have := hend.out; omega); exact htorn.out)
            subst hM
            go_wp2_with (first
              | (go_at_call 33; go_must (refine (pending_spec W _ _ b1 _ (hs.pick (by repeat (first | with_reducible exact Pick.here | with_reducible apply Pick.there)))).mono ?_); clear hs; rintro e w1 ⟨rfl, hs⟩))
            go_ret
            exact ⟨rfl, hs.pack (by repeat (first | with_reducible exact Pack.refl | with_reducible exact Pack.nil | with_reducible refine Pack.cons (by repeat (first | with_reducible exact Pick.here | with_reducible apply Pick.there)) ?_ | with_reducible apply Pack.drop))⟩
      · clear hexit hlt
        go_wp2_with (first
          | (go_at_call 27; go_must (refine (crash_spec W _ _ b1 D (hs.pick (by repeat (first | with_reducible exact Pick.here | with_reducible apply Pick.there))) (by have := hD8.out.2; omega) _ keep (has_w (by repeat (first | exact hold | apply List.mem_cons_of_mem)) h2)).mono ?_); clear hs; rintro e w1 ⟨rfl, hs⟩)
          | (go_at_call 28; go_must (refine (read_any W _ _ b1 _ hs (2 : Nat) (by simp)).mono ?_); clear hs; rintro e w1 ⟨v3, rfl, hs⟩
             rw [hrc]; rw [hrb] at hs
             generalize hy : (D.crash fun i => keep.getD i false).read 2 = y at hs htorn hy64
             obtain ⟨b4, o4, c4, rfl, _, _⟩ := bytesH_form hs 0 rfl (n := 64) hy64.out (by omega))
          | (refine wpl (o := ⟨some 58, .convert _ _ _, _, _, _, _⟩) rfl fun K hK => ?_; go_must (refine op_to_string rfl Try.underlying22 Try.underlying5 Try.underlying9 rfl (hs.bytes (bytesH_has 0 rfl)) (hK _ _ ?_)); clear hK K)
          | (refine wpl (o := ⟨some 60, .convert _ _ _, _, _, _, _⟩) rfl fun K hK => ?_; go_must (refine op_to_string rfl Try.underlying22 Try.underlying5 Try.underlying9 rfl (hs.bytes (bytesH_has 2 rfl)) (hK _ _ ?_)); clear hK K))
        have hj0 : Box ((y == x) = true ↔ (y = x ∨ ∃ b ∈ bs.take 0, y = pad b)) := ⟨by simp⟩
        generalize (y == x) = r0 at hj0
        obtain ⟨M, hM, hs⟩ : ∃ M, M = _ ∧ Sat W _ M := ⟨_, rfl, hs⟩
        go_loopw [14, 15] (fun v14 v15 wr => ∃ (j : Nat) (r : Bool), j ≤ bs.length ∧ j ≤ 40 ∧ v15 = .int .i64 j ∧ v14 = .bool r ∧ Box (r = true ↔ (y = x ∨ ∃ b ∈ bs.take j, y = pad b)) ∧ Sat W wr M) (fun _ v15 _ => bs.length - (intOf v15).toNat)
        case atStart => exact ⟨0, r0, by omega, by omega, rfl, rfl, hj0, hs⟩
        case round =>
          clear hs hj0
          obtain ⟨j, r, hj, hj40, rfl, rfl, hr, hs⟩ := hrel
          by_cases hlt2 : j < bs.length
          · have hlt2I : (j : Int) < (bs.length : Int) := by omega
            by_cases hlt3 : j < 40
            · have hlt3I : (j : Int) < 40 := by omega
              have hM' := Box.mk hM
              clear hM
              obtain ⟨bb, ob, cb, e, hrg, h9⟩ := nines_old h1 j hlt2
              cases e
              have H9 := Box.mk h9
              clear h9
              cases r with
              | true =>
                go_wp2_with fail
                have hM := hM'.out
                clear hM'
                have hM_ := Box.mk hM
                clear hM
                have hM := hM_
                clear hM_
                refine wp_region_quiet (C := fun w' => Sat W w' M) (by kernel_rfl) (by kernel_rfl) hs.drew ?_
                have hq := sat_const hs
                repeat (first
                  | ((with_reducible refine quiet_skip (o := ⟨some 74, _, _, _, _, _⟩) ?_ ?_); (kernel_rfl))
                  | ((with_reducible refine quiet_skip (o := ⟨some 75, _, _, _, _, _⟩) ?_ ?_); (kernel_rfl))
                  | ((with_reducible refine quiet_skip (o := ⟨some 76, _, _, _, _, _⟩) ?_ ?_); (kernel_rfl))
                  | ((with_reducible refine quiet_skip (o := ⟨some 77, _, _, _, _, _⟩) ?_ ?_); (kernel_rfl))
                  | ((with_reducible refine quiet_skip (o := ⟨some 78, _, _, _, _, _⟩) ?_ ?_); (kernel_rfl))
                  | ((with_reducible refine quiet_skip (o := ⟨some 79, _, _, _, _, _⟩) ?_ ?_); (kernel_rfl))
                  | ((with_reducible refine quiet_skip (o := ⟨some 80, _, _, _, _, _⟩) ?_ ?_); (kernel_rfl))
                  | ((with_reducible refine quiet_skip (o := ⟨some 81, _, _, _, _, _⟩) ?_ ?_); (kernel_rfl))
                  | (refine wpQuiet_step (fun K hK => ?_); go_simp; first
                      | (with_reducible refine hK _ ?_; clear hK K)))
                refine wpQuiet_nil ?_
                intro w8 hs8
                clear hs
                rw [hM.out] at hs8
                have hs := hs8
                clear hs8
                go_wp2_with fail
                refine ⟨⟨j + 1, true, by omega, by omega, by go_num, rfl, ⟨?_⟩, by rw [hM.out]; exact hs⟩, by simp [intOf]; omega⟩
                refine ⟨fun _ => ?_, fun _ => rfl⟩
                rcases hr.out.1 (by trivial) with h | ⟨b, hb, h⟩
                · exact .inl h
                · exact .inr ⟨b, by rw [List.take_succ_eq_append_getElem hlt2]; exact List.mem_append_left _ hb, h⟩
              | false =>
                go_wp2_with fail
                have hM := hM'.out
                clear hM'
                have oF : ∀ w, Sat W w M → Calls Try.prog 29 #[.slice (some ⟨bb, ob + j * 9, none⟩) 9 9] w fun e w' => e = .returned (.string ⟨(pad bs[j]).toArray⟩) ∧ Sat W w' M := by rw [hM]; exact fun w h => full_spec W w _ h _ bs[j] (bytes_old (n := 9) (c := 9) (by repeat (first | exact hold | apply List.mem_cons_of_mem)) hrg H9.out (by omega) (by omega)) (by have := H9.out; omega)
                have cS : ∀ w, Sat W w M → bytesAt (.slice (some ⟨b4, o4, none⟩) 64 c4) y (hp w) := by rw [hM]; exact fun w h => h.bytes (bytesH_has 0 rfl)
                have oF_ := Box.mk oF
                clear oF
                have oF := oF_
                clear oF_
                have hM_ := Box.mk hM
                clear hM
                have hM := hM_
                clear hM_
                refine wp_region_quiet (C := fun w' => Sat W w' M) (by kernel_rfl) (by kernel_rfl) hs.drew ?_
                have hq := sat_const hs
                repeat (first
                  | ((with_reducible refine quiet_str (o := ⟨some 75, .convert _ _ _, _, _, _, _⟩) (y) ?_ rfl Try.underlying22 Try.underlying5 Try.underlying9 ?_ cS ?_); (rfl); (rfl))
                  | (refine wpQuiet_step (fun K hK => ?_); go_simp; first
                      | (with_reducible refine hK _ ?_; clear hK K)
                      | (apply Exists.intro; refine ⟨fun w5 h5 => ?_, hK _ ?_⟩; (first | with_reducible exact oF.out w5 h5); clear hK K)))
                refine wpQuiet_nil ?_
                intro w8 hs8
                clear hs
                rw [hM.out] at hs8
                have hs := hs8
                clear hs8
                go_wp2_with fail
                refine ⟨⟨j + 1, _, by omega, by omega, by go_num, rfl, ⟨?_⟩, by rw [hM.out]; exact hs⟩, by simp [intOf]; omega⟩
                have hno : ¬ (y = x ∨ ∃ b ∈ bs.take j, y = pad b) := fun h => by have := hr.out.2 h; cases this
                rw [List.take_succ_eq_append_getElem hlt2]
                constructor
                · intro h
                  have : y = pad bs[j] := by simpa using h
                  exact .inr ⟨bs[j], List.mem_append_right _ (List.mem_singleton.2 rfl), this⟩
                · rintro (h | ⟨b, hb, h⟩)
                  · exact absurd (.inl h) hno
                  · rcases List.mem_append.1 hb with hb | hb
                    · exact absurd (.inr ⟨b, hb, h⟩) hno
                    · simp at hb; subst hb; simpa using h
            · have hlt3I : ¬ (j : Int) < 40 := by omega
              obtain rfl : r = true := hr.out.2 (by obtain rfl : j = k := (by have := hend.out; omega); exact htorn.out)
              subst hM
              go_wp2_with (first
                | (go_at_call 33; go_must (refine (pending_spec W _ _ b1 _ (hs.pick (by repeat (first | with_reducible exact Pick.here | with_reducible apply Pick.there)))).mono ?_); clear hs; rintro e w1 ⟨rfl, hs⟩))
              go_ret
              exact ⟨rfl, hs.pack (by repeat (first | with_reducible exact Pack.refl | with_reducible exact Pack.nil | with_reducible refine Pack.cons (by repeat (first | with_reducible exact Pick.here | with_reducible apply Pick.there)) ?_ | with_reducible apply Pack.drop))⟩
          · have hlt2I : ¬ (j : Int) < (bs.length : Int) := by omega
            obtain rfl : r = true := hr.out.2 (by obtain rfl : j = k := (by have := hend.out; omega); exact htorn.out)
            subst hM
            go_wp2_with (first
              | (go_at_call 33; go_must (refine (pending_spec W _ _ b1 _ (hs.pick (by repeat (first | with_reducible exact Pick.here | with_reducible apply Pick.there)))).mono ?_); clear hs; rintro e w1 ⟨rfl, hs⟩))
            go_ret
            exact ⟨rfl, hs.pack (by repeat (first | with_reducible exact Pack.refl | with_reducible exact Pack.nil | with_reducible refine Pack.cons (by repeat (first | with_reducible exact Pick.here | with_reducible apply Pick.there)) ?_ | with_reducible apply Pack.drop))⟩
theorem vdiskTorn_main (W : World) (l : List Deed) (v0 : Value) (h0 : (Kin.slice 64 deedKin).K (hp W) l [v0]) (bs : List (List UInt8)) (v1 : Value) (h1 : (Kin.slice 9 k9).K (hp W) bs [v1]) (keep : List Bool) (v2 : Value) (h2 : (Kin.slice 1 Kin.bool).K (hp W) keep [v2]) :
    Calls Try.prog 11 #[v0, v1, v2] W fun e w' => e = .returned (.bool true) ∧ Below W.heap.size W w' :=
  (vdiskTorn_walk W W _ (Sat.start W) m0 v0 l h0 v1 bs h1 v2 keep (kin_bools h2).1).mono fun e w' ⟨he, hs⟩ => ⟨he, hs.end_ m0⟩
end Go.Proofs.Ytclcajjcbdfaiaa
