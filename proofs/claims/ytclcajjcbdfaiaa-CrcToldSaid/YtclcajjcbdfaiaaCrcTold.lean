/- The walk of the law CrcTold: it returns true, for slices of at most 2^47 bytes. -/
import Derived.Test.YtclcajjcbdfaiaaCrcL
import Derived.Test.YtclcajjcbdfaiaaLift
import Derived.Test.YtclcajjcbdfaiaaOp3
import Derived.Test.YtclcajjcbdfaiaaCrcT
set_option linter.unusedVariables false
set_option linter.unusedSimpArgs false
namespace Go.Proofs.Ytclcajjcbdfaiaa
open Go.RowKit
theorem u8_xor' (a b : UInt8) : bits .xor .u8 (a.toNat : Int) (b.toNat : Int) = ((a ^^^ b).toNat : Int) := by
  rw [UInt8.toNat_xor]
  have := bits_xor8 a.toBitVec b.toBitVec
  rw [BitVec.toNat_xor] at this
  exact this
theorem u8_or1 (a : UInt8) : bits .or .u8 (a.toNat : Int) 1 = ((a ||| 1).toNat : Int) := by
  have h : ∀ c : BitVec 8, BitVec.ofInt 8 (c.toNat : Int) = c := fun c => by simp
  have hb := (a.toBitVec ||| 1#8).isLt
  show IntKind.u8.wrap (((BitVec.ofInt 8 (a.toBitVec.toNat : Int)) ||| (BitVec.ofInt 8 1)).toNat : Int) = ((a.toBitVec ||| 1#8).toNat : Int)
  rw [h, IntKind.wrap_u8]
  have : BitVec.ofInt 8 1 = 1#8 := by decide
  rw [this]
  omega
theorem bytes_row_at {M : List HP} {b : Nat} {l : List UInt8} {sp : List Value} {t : TypeId} {n cap : Nat} (i : Nat) (hm : M[i]? = some (row b (u8s l ++ sp) t)) (hn : l.length = n) (hc : n ≤ cap) (h : cap ≤ 9223372036854775807) : Has M (bytesAt (.slice (some ⟨b, 0, none⟩) n cap) l) := by
  subst hn
  exact bytes_row (List.mem_of_getElem? hm) hc h
set_option maxRecDepth 100000 in
set_option maxHeartbeats 1000000 in
theorem crcTold_walk (W w : World) (L : List HP) (hs : Sat W w L) (v : Value) (l : List UInt8) (hv : Has L (bytesAt v l)) (hl : l.length ≤ 140737488351232) (n : Nat) (hn : n < 65536) (y : UInt8) :
    Calls Try.prog 5 #[v, .int .u16 n, .int .u8 y.toNat] w fun e w' => e = .returned (.bool true) ∧ Sat W w' L := by
  by_cases hbig : 20000 < l.length ∨ l.length = 0
  · obtain ⟨_, A, cap, rfl, hlc, hcm, _⟩ := hs.bytes hv
    go_enter Try.func5, Try.ntmps5
    rcases hbig with hbig | hbig
    all_goals
      go_wp2_with (first
        | (go_at_call 15; go_must (refine (awake_spec W _ _ hs).mono ?_); clear hs; rintro e w3 ⟨rfl, hs⟩))
      go_ret
      exact ⟨rfl, hs⟩
  · have hb1 : l.length ≤ 20000 := by omega
    have hb0 : 0 < l.length := by omega
    clear hbig
    obtain ⟨b0, o0, cap, rfl, hlc, hcm, _⟩ := bytes_at hs hv hb0
    have hmod : ((n : Int) % (l.length : Int)) = ((n % l.length : Nat) : Int) := by push_cast; rfl
    have hk : n % l.length < l.length := Nat.mod_lt _ hb0
    generalize n % l.length = k at hk hmod
    have hOr := u8_or1 y
    have hXor := u8_xor' (l[k]) (y ||| 1)
    have hNe := or_one_ne l[k] y
    generalize y ||| 1 = y1 at hOr hXor hNe
    have hC := Box.mk (crc_changed l k hk (l[k] ^^^ y1) hNe)
    clear hNe
    generalize l[k] ^^^ y1 = x1 at hC hXor
    go_enter Try.func5, Try.ntmps5
    go_wp2_with (first
      | (go_at_call 15; go_must (refine (awake_spec W _ _ hs).mono ?_); clear hs; rintro e w3 ⟨rfl, hs⟩)
      | (refine wpl (o := ⟨some 27, .buildSlice _ _ _, _, _, _, _⟩) rfl fun K hK => ?_; go_must (refine op_lit hs rfl Try.underlying22 info5 [] (by omega) (by simp [Instr.fill]) fun b1 w1 h => hK _ _ ?_); clear hs hK K; have hs := h; clear h; simp only [hmod])
      | (refine wpl (o := ⟨some 29, .call _, _, _, _, _⟩) rfl fun K hK => ?_; go_must (refine op_append_new hs rfl Try.underlying22 Try.underlying22 info5 rfl (by omega) rfl (slice_nil _ 1 (hv.tail.imp fun _ _ => trivial)) rfl hv.tail (.inr rfl) (by omega) (by omega) fun v9 w2 h => hK _ _ ?_); clear hs hK K; have hs := h; clear h
         obtain ⟨b9, c9, sp9, rfl, h91, h92, h93, hs'⟩ := hs.ownOpen (i := 0) rfl (by omega)
         clear hs
         have hs := hs'
         clear hs'
         simp only [Nat.zero_add, List.nil_append, List.set_cons_zero] at hs h91 h93 ⊢
         have hkI : (k : Int) < (l.length : Int) := by omega)
      | (refine wpl (o := ⟨some 35, .load _ _, _, _, _, _⟩) rfl fun K hK => op_load rfl (ad := ⟨b9, k, none⟩) rfl (by kernel_rfl) (hs.cell m0 (u8s_cell_app _ _ _ hk)) (hK _ _ ?_); clear hK K)
      | (refine wpl (o := ⟨some 40, .buildSlice _ _ _, _, _, _, _⟩) rfl fun K hK => ?_; go_must (refine op_lit hs rfl Try.underlying22 info5 [] (by omega) (by simp [Instr.fill]) fun b2 w4 h => hK _ _ ?_); clear hs hK K; have hs := h; clear h)
      | (refine wpl (o := ⟨some 42, .call _, _, _, _, _⟩) rfl fun K hK => ?_; go_must (refine op_append_new hs rfl Try.underlying22 Try.underlying22 info5 rfl (by omega) rfl (slice_nil _ 1 (hv.tail.tail.tail.imp fun _ _ => trivial)) rfl hv.tail.tail.tail (.inr rfl) (by omega) (by omega) fun v10 w5 h => hK _ _ ?_); clear hs hK K; have hs := h; clear h
         obtain ⟨b10, c10, sp10, rfl, h101, h102, h103, hs'⟩ := hs.ownOpen (i := 0) rfl (by omega)
         clear hs
         have hs := hs'
         clear hs'
         simp only [Nat.zero_add, List.nil_append, List.set_cons_zero] at hs h101 h103 ⊢)
      | (refine wpl (o := ⟨some 54, .load _ _, _, _, _, _⟩) rfl fun K hK => op_load rfl (ad := ⟨b0, o0 + (k + 1), none⟩) rfl (by kernel_rfl) (bytes_cell hs hv.tail.tail.tail.tail (k + 1) (by omega)) (hK _ _ ?_); clear hK K)
      | (refine wpl (o := ⟨some 62, .load _ _, _, _, _, _⟩) rfl fun K hK => op_load rfl (ad := ⟨b0, o0 + k, none⟩) rfl (by kernel_rfl) (bytes_cell hs hv.tail.tail.tail.tail k (by omega)) (hK _ _ ?_); clear hK K)
      | (refine wpl (o := ⟨none, .store _ (.tmp 39) _, _, _, _, _⟩) rfl fun K hK => ?_; go_must (refine op_store hs (b := b9) (i := k) (v := .int .u8 x1.toNat) rfl rfl rfl rfl (by kernel_rfl) (k := 0) rfl (by simp; omega) fun w' h => hK _ _ ?_); clear hs hK K; have hs := h; clear h; dsimp only [List.set] at hs; rw [u8s_set_app _ _ _ _ hk] at hs)
      | (refine wpl (o := ⟨none, .store _ (.tmp 55) _, _, _, _, _⟩) rfl fun K hK => ?_; go_must (refine op_store hs (b := b10) (i := k) (v := .int .u8 (l[k + 1]'(by omega)).toNat) rfl rfl rfl rfl (by kernel_rfl) (k := 0) rfl (by simp; omega) fun w6 h => hK _ _ ?_); clear hs hK K; have hs := h; clear h; dsimp only [List.set] at hs; rw [u8s_set_app _ _ _ _ hk] at hs)
      | (refine wpl (o := ⟨none, .store _ (.tmp 63) _, _, _, _, _⟩) rfl fun K hK => ?_; go_must (refine op_store hs (b := b10) (i := k + 1) (v := .int .u8 l[k].toNat) rfl rfl rfl rfl (by kernel_rfl) (k := 0) rfl (by simp; omega) fun w7 h => hK _ _ ?_); clear hs hK K; have hs := h; clear h; dsimp only [List.set] at hs; rw [u8s_set_app _ _ _ _ (by simp; omega)] at hs))
    · exfalso
      rename_i h1 h2
      rcases h2 with h2 | h2
      · omega
      · have := eq_of_beq h2; omega
    · have hlt : k + 1 < l.length := by omega
      have hltI : (k : Int) + 1 < (l.length : Int) := by omega
      have hdl : ((l.set k (l[k + 1]'(by omega))).set (k + 1) l[k]).length = l.length := by simp
      have HD := Box.mk (crc_swapped l k hlt)
      generalize (l.set k (l[k + 1]'(by omega))).set (k + 1) l[k] = d at hs hdl HD
      obtain ⟨M, hM⟩ : ∃ M, M = row b10 (u8s d ++ sp10) 5 :: row b2 [] 5 :: row b9 (u8s (l.set k x1) ++ sp9) 5 :: row b1 [] 5 :: L := ⟨_, rfl⟩
      rw [← hM] at hs
      have hsub : ∀ w, Sat W w M → Sat W w L := fun w h => by rw [hM] at h; exact h.tail.tail.tail.tail
      have H9 : Has M (bytesAt (.slice (some ⟨b9, 0, none⟩) l.length c9) (l.set k x1)) := bytes_row_at 2 (by rw [hM]; rfl) (by simp) h91 h92
      have H10 : Has M (bytesAt (.slice (some ⟨b10, 0, none⟩) l.length c10) d) := bytes_row_at 0 (by rw [hM]; rfl) hdl h101 h102
      have H0 : Has M (bytesAt (.slice (some ⟨b0, o0, none⟩) l.length cap) l) := by rw [hM]; exact hv.tail.tail.tail.tail
      clear hM
      have hCI : ((crcOf (l.set k x1)).toNat : Int) ≠ ((crcOf l).toNat : Int) := fun e => hC.out (BitVec.eq_of_toNat_eq (by exact_mod_cast e))
      have OC := Box.mk fun (w0 : World) (h : Sat W w0 M) => of_spec W w0 M h _ (l.set k x1) H9 (by simp; omega)
      have OD := Box.mk fun (w0 : World) (h : Sat W w0 M) => of_spec W w0 M h _ d H10 (by omega)
      have OB := Box.mk fun (w0 : World) (h : Sat W w0 M) => of_spec W w0 M h _ l H0 (by omega)
      have c1 : ∀ w0, Sat W w0 M → w0.cell? ⟨b0, o0 + k, none⟩ = some (.int .u8 l[k].toNat) := fun w0 h => bytes_cell h H0 k (by omega)
      have c2 : ∀ w0, Sat W w0 M → w0.cell? ⟨b0, o0 + (k + 1), none⟩ = some (.int .u8 (l[k + 1]'(by omega)).toNat) := fun w0 h => bytes_cell h H0 (k + 1) (by omega)
      have hW : IntKind.i64.wrap ((k : Int) + 1) = (k : Int) + 1 := by rw [IntKind.wrap_i64]; omega
      have hWn : IntKind.i64.wrap (l.length : Int) = (l.length : Int) := by rw [IntKind.wrap_i64]; omega
      refine wp_region_quiet (C := fun w' => Sat W w' M) (by kernel_rfl) (by kernel_rfl) hs.drew ?_
      have hq := sat_const hs
      repeat (first
        | (refine wpQuiet_step (fun K hK => ?_); go_simp; with_reducible refine hK _ ?_; clear hK K)
        | (refine wpQuiet_step (fun K hK => ?_); go_simp; refine ⟨.int .u8 l[k].toNat, fun w0 h0 => ?_, hK _ ?_⟩; (rw [c1 w0 h0]; exact ⟨rfl, rfl⟩); clear hK K)
        | (refine wpQuiet_step (fun K hK => ?_); go_simp; refine ⟨.int .u8 (l[k + 1]'(by omega)).toNat, fun w0 h0 => ?_, hK _ ?_⟩; (rw [c2 w0 h0]; exact ⟨rfl, rfl⟩); clear hK K))
      refine wpQuiet_nil ?_
      clear hs
      intro w8 hs
      clear hC
      generalize crcOf (l.set k x1) = sc at *
      generalize crcOf d = sd at *
      generalize crcOf l = sl at *
      go_wp2_with (first
        | (go_at_call 16; first
            | (with_reducible refine (OC.out _ hs).mono ?_)
            | (with_reducible refine (OB.out _ hs).mono ?_)
            | (with_reducible refine (OD.out _ hs).mono ?_)
           clear hs; rintro e w9 ⟨rfl, hs⟩))
      go_ret
      refine ⟨?_, hsub _ hs⟩
      have q1 : ((sc.toNat : Int) != (sl.toNat : Int)) = true := by simpa using hCI
      have q2 : (((sd.toNat : Int) == (sl.toNat : Int)) == (decide ((l.length : Int) ≤ (k : Int) + 1) || (l[k].toNat : Int) == ((l[k + 1]'(by omega)).toNat : Int))) = true := by
        have g1 : decide ((l.length : Int) ≤ (k : Int) + 1) = false := by simp; omega
        have g2 : ((sd.toNat : Int) == (sl.toNat : Int)) = ((l[k].toNat : Int) == ((l[k + 1]'(by omega)).toNat : Int)) := by
          rw [Bool.eq_iff_iff]
          simp only [beq_iff_eq]
          constructor
          · intro e; rw [HD.out.1 (BitVec.eq_of_toNat_eq (by exact_mod_cast e))]
          · intro e; rw [HD.out.2 (UInt8.toNat_inj.1 (by exact_mod_cast e))]
        rw [g1, g2]; simp
      rw [q1, q2]; rfl
    · have hgeI : (l.length : Int) ≤ (k : Int) + 1 := by omega
      have hgeN : ¬ (k : Int) + 1 < (l.length : Int) := by omega
      obtain ⟨d, hd⟩ : ∃ d, d = l := ⟨_, rfl⟩
      have HD : crcOf d = crcOf l := by rw [hd]
      have hdl : d.length = l.length := by rw [hd]
      have hs' := hs
      clear hs
      have hs := hs'
      clear hs'
      conv at hs => arg 3; arg 1; rw [← hd]
      obtain ⟨M, hM⟩ : ∃ M, M = row b10 (u8s d ++ sp10) 5 :: row b2 [] 5 :: row b9 (u8s (l.set k x1) ++ sp9) 5 :: row b1 [] 5 :: L := ⟨_, rfl⟩
      rw [← hM] at hs
      have hsub : ∀ w, Sat W w M → Sat W w L := fun w h => by rw [hM] at h; exact h.tail.tail.tail.tail
      have H9 : Has M (bytesAt (.slice (some ⟨b9, 0, none⟩) l.length c9) (l.set k x1)) := bytes_row_at 2 (by rw [hM]; rfl) (by simp) h91 h92
      have H10 : Has M (bytesAt (.slice (some ⟨b10, 0, none⟩) l.length c10) d) := bytes_row_at 0 (by rw [hM]; rfl) hdl h101 h102
      have H0 : Has M (bytesAt (.slice (some ⟨b0, o0, none⟩) l.length cap) l) := by rw [hM]; exact hv.tail.tail.tail.tail
      clear hM
      have hCI : ((crcOf (l.set k x1)).toNat : Int) ≠ ((crcOf l).toNat : Int) := fun e => hC.out (BitVec.eq_of_toNat_eq (by exact_mod_cast e))
      have OC := Box.mk fun (w0 : World) (h : Sat W w0 M) => of_spec W w0 M h _ (l.set k x1) H9 (by simp; omega)
      have OD := Box.mk fun (w0 : World) (h : Sat W w0 M) => of_spec W w0 M h _ d H10 (by omega)
      have OB := Box.mk fun (w0 : World) (h : Sat W w0 M) => of_spec W w0 M h _ l H0 (by omega)
      clear hd
      have hW : IntKind.i64.wrap ((k : Int) + 1) = (k : Int) + 1 := by rw [IntKind.wrap_i64]; omega
      have hWn : IntKind.i64.wrap (l.length : Int) = (l.length : Int) := by rw [IntKind.wrap_i64]; omega
      refine wp_region_quiet (C := fun w' => Sat W w' M) (by kernel_rfl) (by kernel_rfl) hs.drew ?_
      have hq := sat_const hs
      iterate 6 (refine wpQuiet_step (fun K hK => ?_); go_simp; (with_reducible refine hK _ ?_; clear hK K))
      iterate 10 (with_reducible refine quiet_skip ?_ ?_; (kernel_rfl))
      iterate 2 (refine wpQuiet_step (fun K hK => ?_); go_simp; (with_reducible refine hK _ ?_; clear hK K))
      refine wpQuiet_nil ?_
      clear hs
      intro w8 hs
      clear hC
      generalize crcOf (l.set k x1) = sc at *
      generalize crcOf d = sd at *
      generalize crcOf l = sl at *
      go_wp2_with (first
        | (go_at_call 16; first
            | (with_reducible refine (OC.out _ hs).mono ?_)
            | (with_reducible refine (OB.out _ hs).mono ?_)
            | (with_reducible refine (OD.out _ hs).mono ?_)
           clear hs; rintro e w9 ⟨rfl, hs⟩))
      go_ret
      refine ⟨?_, hsub _ hs⟩
      have q1 : ((sc.toNat : Int) != (sl.toNat : Int)) = true := by simpa using hCI
      subst HD
      rw [q1]; rfl
theorem crcTold_main (W : World) (l : List UInt8) (v : Value) (h0 : (Kin.slice 1 Kin.u8).K (hp W) l [v]) (n : Int) (v1 : Value) (h1 : (Kin.int .u16).K (hp W) n [v1]) (y : UInt8) (v2 : Value) (h2 : Kin.u8.K (hp W) y [v2]) :
    Calls Try.prog 5 #[v, v1, v2] W fun e w' => e = .returned (.bool true) ∧ Below W.heap.size W w' := by
  obtain ⟨e1, hn⟩ := h1
  cases e1
  cases h2
  have hn' : 0 ≤ n ∧ n ≤ 65535 := by simpa [Lit.wf, IntKind.min, IntKind.max, IntKind.signed, IntKind.bits] using hn
  obtain ⟨m, rfl⟩ := Int.eq_ofNat_of_zero_le hn'.1
  obtain ⟨hb, hl⟩ := kin_bytes h0
  exact (crcTold_walk W W _ (Sat.start W) v l ((has_old h0).imp fun F hF => (kin_bytes hF).1) hl m (by omega) y).mono fun e w' ⟨he, hs⟩ => ⟨he, hs.end_ m0⟩
end Go.Proofs.Ytclcajjcbdfaiaa
