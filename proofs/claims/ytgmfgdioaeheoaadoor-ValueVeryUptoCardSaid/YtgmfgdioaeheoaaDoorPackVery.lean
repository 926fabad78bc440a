/- The walk of the law PackVery. -/
import Derived.Test.YtgmfgdioaeheoaaDoorPackOrder
set_option linter.unusedVariables false
set_option linter.unusedSimpArgs false
namespace Go.Proofs.YtgmfgdioaeheoaaDoor
open Go.RowKit
theorem tn_very (s : List UInt8) : ∃ (a : Nat) (b : List UInt8) (c : Nat), tnV s = .tuple #[.int .u32 (a : Nat), (.string ⟨(b).toArray⟩), .int .i64 (c : Nat)] ∧ (c = 2 ∨ (c = 0 ∧ a < 4294967296 ∧ be 4 a ++ b = s)) := by
  refine ⟨_, _, _, rfl, ?_⟩
  unfold tnA tnB tnC
  by_cases h : s.length < 4
  · exact .inl (if_pos h)
  · have e : (256 : Nat) ^ 4 = 4294967296 := by decide
    rw [if_neg h, if_neg h, if_neg h]
    refine .inr ⟨rfl, by rw [← e]; exact num_lt 4 _ (by simp; omega), ?_⟩
    rw [be_num 4 _ (by simp; omega), List.take_append_drop]
theorem ti_very (s : List UInt8) : ∃ (d : Int) (f : List UInt8) (g : Nat), takeIV s = .tuple #[.int .i64 d, (.string ⟨(f).toArray⟩), .int .i64 (g : Nat)] ∧ (g = 2 ∨ (g = 0 ∧ -9223372036854775808 ≤ d ∧ d < 9223372036854775808 ∧ be 8 (i63 d) ++ f = s)) := by
  refine ⟨_, _, _, takeIV_eq s, ?_⟩
  unfold tiA tiB tiC
  by_cases h : s.length < 8
  · exact .inl (if_pos h)
  · rw [if_neg h, if_neg h, if_neg h]
    have h8 := num8 s
    refine .inr ⟨rfl, by unfold takeI; omega, by unfold takeI; omega, ?_⟩
    have : i63 (takeI s) = num (s.take 8) := by unfold i63 takeI; omega
    rw [this, be_num 8 _ (by simp; omega), List.take_append_drop]
theorem tt_very (s : List UInt8) : ∃ (x y : List UInt8) (z : Nat), takeTV (takeT s) = .tuple #[(.string ⟨(x).toArray⟩), (.string ⟨(y).toArray⟩), .int .i64 (z : Nat)] ∧ (z = 2 ∨ (z = 0 ∧ text x ++ y = s)) := by
  cases h : takeT s with
  | none => exact ⟨[], [], 2, rfl, .inl rfl⟩
  | some p => exact ⟨p.1, p.2, 0, rfl, .inr ⟨rfl, (takeT_very _ s p.1 p.2 (Nat.le_refl _) h).symm⟩⟩
theorem esc_ge (s : List UInt8) : s.length ≤ (esc s).length := by
  induction s with
  | nil => simp
  | cons c s ih =>
    rw [esc]
    split <;> simp only [List.length_cons] <;> omega
set_option maxRecDepth 100000 in
set_option maxHeartbeats 8000000 in
theorem packVery_walk (W w : World) (L : List HP) (hs : Sat W w L) (hold : old W ∈ L) (hm : maxLenIs W) (s t : List UInt8) (cut : Nat) (hcut : cut < 256) (hl : s.length ≤ 1048576) (ht : t.length ≤ 1048576) :
    Calls Tryd.prog 8 #[(.string ⟨(s).toArray⟩), (.string ⟨(t).toArray⟩), .int .u8 (cut : Nat)] w fun e w' => e = .returned (.bool true) ∧ Sat W w' L := by
  have HM := Box.mk hm
  clear hm
  obtain ⟨a, b, c, hN, hc⟩ := tn_very s
  obtain ⟨d, f, g, hI, hg⟩ := ti_very s
  obtain ⟨x, y, z, hT, hz⟩ := tt_very s
  have HN := Box.mk hN
  have HI := Box.mk hI
  have HT := Box.mk hT
  clear hN hI hT
  have hlt : (text t).length ≤ 2097154 ∧ 2 ≤ (text t).length := by have := esc_len t; unfold text; rw [List.length_append, List.length_cons, List.length_cons, List.length_nil]; omega
  obtain ⟨k, hk⟩ : ∃ k, cut % (text t).length = k := ⟨_, rfl⟩
  have hkl : k < (text t).length := by rw [← hk]; exact Nat.mod_lt _ (by omega)
  have hno := takeT_cut t k hkl
  obtain ⟨TT, hTT⟩ : ∃ z, text t = z := ⟨_, rfl⟩
  rw [hTT] at hlt hk hkl hno
  obtain ⟨n, hn⟩ : ∃ n, TT.length = n := ⟨_, rfl⟩
  rw [hn] at hlt hk hkl
  obtain ⟨hn1, hn2⟩ := hlt
  have hex := str_extract TT 0 k
  rw [List.drop_zero] at hex
  obtain ⟨P, hP⟩ : ∃ P, TT.take k = P := ⟨_, rfl⟩
  rw [hP] at hex hno
  have hPl : P.length ≤ 1073741824 := by rw [← hP, List.length_take]; omega
  have hmodI : (cut : Int) % (n : Int) = (k : Int) := by rw [← hk]; push_cast; rfl
  have hmodT : (cut : Int).tmod (n : Int) = (k : Int) := by rw [Int.tmod_eq_emod_of_nonneg (by omega)]; exact hmodI
  have hwc : IntKind.i64.wrap (cut : Int) = (cut : Int) := by rw [IntKind.wrap_i64]; omega
  have hwk : IntKind.i64.wrap (k : Int) = (k : Int) := by rw [IntKind.wrap_i64]; omega
  have hnz : ¬ (n : Int) = 0 := by omega
  have hk1 : ¬ (n : Int) < (k : Int) := by omega
  have hk2 : (k : Int) ≤ (n : Int) := by omega
  have hmx : max (n : Int) 1 = (n : Int) := by omega
  have hmx2 : ¬ (n : Int) < 1 := by omega
  have HNO : Box (takeTV (takeT P) = .tuple #[(.string ⟨(([] : List UInt8)).toArray⟩), (.string ⟨(([] : List UInt8)).toArray⟩), .int .i64 2]) := ⟨by rw [hno]; rfl⟩
  have HTT := Box.mk hTT
  clear hTT hk hP hno
  have hls : s.length ≤ 1073741824 := by omega
  rcases hc with rfl | ⟨rfl, hc1, hc2⟩ <;> rcases hg with rfl | ⟨rfl, hg1, hg2, hg3⟩ <;> rcases hz with rfl | ⟨rfl, hz2⟩
  all_goals (
    (try (obtain ⟨N1, hN1⟩ : ∃ z, be 4 a = z := ⟨_, rfl⟩; rw [hN1] at hc2; have c1 := str_app' N1 b s hc2; have b1 : ¬ 9223372036854775807 < N1.length + b.length := (by have := congrArg List.length hc2; rw [List.length_append] at this; omega); have HN1 := Box.mk hN1; clear hN1 hc2))
    (try (obtain ⟨N2, hN2⟩ : ∃ z, be 8 (i63 d) = z := ⟨_, rfl⟩; rw [hN2] at hg3; have c2 := str_app' N2 f s hg3; have b2 : ¬ 9223372036854775807 < N2.length + f.length := (by have := congrArg List.length hg3; rw [List.length_append] at this; omega); have HN2 := Box.mk hN2; clear hN2 hg3))
    (try (obtain ⟨T1, hT1⟩ : ∃ z, text x = z := ⟨_, rfl⟩; have hxl : x.length ≤ 1073741824 := (by have := congrArg List.length hz2; have h2 := esc_ge x; unfold text at this; rw [List.length_append, List.length_append] at this; omega); rw [hT1] at hz2; have c3 := str_app' T1 y s hz2; have b3 : ¬ 9223372036854775807 < T1.length + y.length := (by have := congrArg List.length hz2; rw [List.length_append] at this; omega); have HT1 := Box.mk hT1; clear hT1 hz2))
    go_enter Tryd.func8, Tryd.ntmps8
    go_wp2_with (first
      | (go_at_call 15; go_must (refine (awake1_spec W _ _ hs hold HM.out).mono ?_); clear hs; rintro e w1 ⟨rfl, hs⟩)
      | (go_at_call 22; go_must (refine (takeNumL_spec W _ _ hs s hls).mono ?_); clear hs; rintro e w1 ⟨rfl, hs⟩; rw [HN.out])
      | (go_at_call 24; go_must (refine (takeInt_spec W _ _ hs s hls).mono ?_); clear hs; rintro e w1 ⟨rfl, hs⟩; rw [HI.out])
      | (have hh := mark1; clear hh; go_at_call 26; go_must (refine (takeText_spec W _ _ hs hold HM.out P hPl).mono ?_); clear hs; rintro e w1 ⟨rfl, hs⟩; rw [HNO.out])
      | (go_at_call 26; go_must (refine (takeText_spec W _ _ hs hold HM.out s hls).mono ?_); clear hs; rintro e w1 ⟨rfl, hs⟩; rw [HT.out]; have mark1 := trivial)
      | (go_at_call 16; go_must (refine (num_spec W _ _ hs a hc1).mono ?_); clear hs; rintro e w1 ⟨rfl, hs⟩; rw [HN1.out])
      | (go_at_call 18; go_must (refine (int_spec W _ _ hs d hg1 hg2).mono ?_); clear hs; rintro e w1 ⟨rfl, hs⟩; rw [HN2.out])
      | (go_at_call 20; with_reducible refine (text_spec W _ _ hs hold HM.out x hxl).mono ?_; clear hs; rintro e w1 ⟨rfl, hs⟩; rw [HT1.out])
      | (go_at_call 20; go_must (refine (text_spec W _ _ hs hold HM.out t (by omega)).mono ?_); clear hs; rintro e w1 ⟨rfl, hs⟩; rw [HTT.out]))
    go_ret
    exact ⟨rfl, hs⟩)
theorem packVery_main (W : World) (hm : maxLenIs W) (s : List UInt8) (v0 : Value) (h0 : strU.K (hp W) s [v0]) (t : List UInt8) (v1 : Value) (h1 : strU.K (hp W) t [v1]) (c : UInt8) (v2 : Value) (h2 : Kin.u8.K (hp W) c [v2]) :
    Calls Tryd.prog 8 #[v0, v1, v2] W fun e w' => e = .returned (.bool true) ∧ Below W.heap.size W w' := by
  obtain ⟨hl, rfl⟩ := str_val h0
  obtain ⟨ht, rfl⟩ := str_val h1
  cases h2
  exact (packVery_walk W W _ (Sat.start W) m0 hm s t c.toNat c.toNat_lt hl ht).mono fun e w' ⟨he, hs⟩ => ⟨he, hs.end_ m0⟩
end Go.Proofs.YtgmfgdioaeheoaaDoor
