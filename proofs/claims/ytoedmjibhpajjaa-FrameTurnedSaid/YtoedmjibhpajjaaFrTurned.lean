/- The walk of the law FrameTurned. -/
import Derived.Test.YtoedmjibhpajjaaFrTells
import Derived.Test.YtoedmjibhpajjaaFrTurnP
set_option linter.unusedVariables false
set_option linter.unusedSimpArgs false
namespace Go.Proofs.Ytoedmjibhpajjaa
open Go.RowKit
theorem u8_xor' (a b : UInt8) : bits .xor .u8 (a.toNat : Int) (b.toNat : Int) = ((a ^^^ b).toNat : Int) := by
  rw [UInt8.toNat_xor]
  have := bits_xor8 a.toBitVec b.toBitVec
  rw [BitVec.toNat_xor] at this
  exact this
theorem u8_or1 (a : UInt8) : bits .or .u8 (a.toNat : Int) 1 = ((a ||| 1).toNat : Int) := by
  have h : ∀ c : BitVec 8, BitVec.ofInt 8 (c.toNat : Int) = c := fun c => by simp
  have hb := (a.toBitVec ||| 1#8).isLt
  show IntKind.u8.wrap (((BitVec.ofInt 8 (a.toBitVec.toNat : Int)) ||| (BitVec.ofInt 8 1)).toNat : Int) = ((a.toBitVec ||| 1#8).toNat : Int)
  rw [h, IntKind.wrap_u8]
  have : BitVec.ofInt 8 1 = 1#8 := by decide
  rw [this]
  omega
theorem fpack_cells (W w : World) (L : List HP) (hs : Sat W w L) (f : Fr) (ok : f.Ok) (vb : Value) (hb : Has L (bytesAt vb f.body)) (h50 : f.body.length ≤ 50) :
    Calls Try.prog 16 #[.agg (frCells f vb).toArray] w (fpackPost f W L) := fpack_spec W w L hs f ok vb hb h50
set_option maxRecDepth 100000 in
set_option maxHeartbeats 4000000 in
theorem frameTurned_early (W w : World) (L : List HP) (hs : Sat W w L) (f : Fr) (Af : Option Addr) (cf : Nat) (at_ y : UInt8) (hb : (50 : Int) < (f.body.length : Int)) :
    Calls Try.prog 6 #[.agg (frCells f (.slice Af f.body.length cf)).toArray, .int .u8 at_.toNat, .int .u8 y.toNat] w fun e w' => e = .returned (.bool true) ∧ Sat W w' L := by
  go_enter Try.func6, Try.ntmps6
  go_wp2_with (first
    | (refine wpl (o := ⟨some 3, .box _ _, _, _, _, _⟩) rfl fun K hK => ?_; go_must (refine op_box hs rfl _ rfl (frCells f (.slice Af f.body.length cf)) rfl fun b3 w1 h => hK _ _ ?_); clear hs hK K; have hs := h; clear h; try dsimp only [List.set] at hs)
    | (go_at_call 15; go_must (refine (awake5_spec W _ _ hs).mono ?_); clear hs; rintro e w1 ⟨rfl, hs⟩; have k22 : w1.cell? ⟨b3, 3, none⟩ = some (.slice Af f.body.length cf) := hs.cell m0 rfl)
    | (refine wpl (o := ⟨some 22, .load _ _, _, _, _, _⟩) rfl fun K hK => op_load rfl (ad := ⟨b3, 3, none⟩) rfl (by kernel_rfl) k22 (hK _ _ ?_); clear hK K))
  go_ret
  exact ⟨rfl, hs.tail⟩
set_option maxRecDepth 100000 in
set_option maxHeartbeats 4000000 in
theorem frameTurned_late (W w : World) (L : List HP) (hs : Sat W w L) (f : Fr) (ok : f.Ok) (Af : Option Addr) (cf : Nat) (hf : Has L (bytesAt (.slice Af f.body.length cf) f.body)) (at_ y : UInt8) (hb : f.body.length ≤ 50) :
    Calls Try.prog 6 #[.agg (frCells f (.slice Af f.body.length cf)).toArray, .int .u8 at_.toNat, .int .u8 y.toNat] w fun e w' => e = .returned (.bool true) ∧ Sat W w' L := by
  have hbI : ¬ (50 : Int) < (f.body.length : Int) := by omega
  have HPL := Box.mk (Fr.pack_length hb)
  have hmod : ((at_.toNat : Int) % 64) = ((at_.toNat % 64 : Nat) : Int) := by push_cast; rfl
  have hk64 : at_.toNat % 64 < 64 := Nat.mod_lt _ (by omega)
  generalize at_.toNat % 64 = k at hk64 hmod
  have hk : k < f.pack.length := by rw [HPL.out]; exact hk64
  have hkI : (k : Int) < 64 := by omega
  have hOr := u8_or1 y
  have hXor := u8_xor' (f.pack[k]) (y ||| 1)
  have hNe := or_one_ne f.pack[k] y
  generalize y ||| 1 = y1 at hOr hXor hNe
  have hC := Box.mk (Fr.code_turned ok hb k hk (f.pack[k] ^^^ y1) hNe)
  clear hNe
  generalize f.pack[k] ^^^ y1 = x1 at hC hXor
  have HZ := Box.mk Fr.code_zeros
  have e64 : Box (List.replicate 64 (Value.int .u8 0) = u8s (List.replicate 64 0)) := ⟨by simp [u8s]⟩
  have H63 := Box.mk (Fr.code_other (b := f.pack.take 63) (by rw [List.length_take, HPL.out]; decide))
  have H65 := Box.mk (Fr.code_other (b := f.pack ++ [y]) (by rw [List.length_append, HPL.out]; simp))
  go_enter Try.func6, Try.ntmps6
  go_wp2_with (first
    | (refine wpl (o := ⟨some 3, .box _ _, _, _, _, _⟩) rfl fun K hK => ?_; go_must (refine op_box hs rfl _ rfl (frCells f (.slice Af f.body.length cf)) rfl fun b3 w1 h => hK _ _ ?_); clear hs hK K; have hs := h; clear h; try dsimp only [List.set] at hs)
    | (go_at_call 15; go_must (refine (awake5_spec W _ _ hs).mono ?_); clear hs; rintro e w1 ⟨rfl, hs⟩; have k22 : w1.cell? ⟨b3, 3, none⟩ = some (.slice Af f.body.length cf) := hs.cell m0 rfl)
    | (refine wpl (o := ⟨some 22, .load _ _, _, _, _, _⟩) rfl fun K hK => op_load rfl (ad := ⟨b3, 3, none⟩) rfl (by kernel_rfl) k22 (hK _ _ ?_); clear hK K)
    | (refine wpl (o := ⟨some 27, .load _ _, _, _, _, _⟩) rfl fun K hK => op_load_agg rfl (b := b3) (i := 0) rfl (frCells f (.slice Af f.body.length cf)) (range_whole hs (by (try dsimp only [List.set]); repeat (first | with_reducible exact List.mem_cons_self | with_reducible apply List.mem_cons_of_mem))) (by kernel_rfl) (by kernel_rfl) (hK _ _ ?_); clear hK K)
    | (go_at_call 16; go_must (refine (fpack_cells W _ _ hs f ok _ hf.tail hb).mono ?_); clear hs; rintro e w1 ⟨v1, rfl, hs⟩; simp only [hmod]
       obtain ⟨b1, c1, sp1, rfl, hc1, hc1m, _, _⟩ := hs.ownOpen (i := 0) rfl (by omega)
       have h63c : ¬ (c1 : Int) < 63 := by omega
       have h63 : ∀ L', own (.slice (some ⟨b1, 0, none⟩) 64 c1) 5 64 1 (u8s f.pack) ∈ L' → Has L' (bytesAt (.slice (some ⟨b1, 0, none⟩) 63 c1) (f.pack.take 63)) := fun L' hm => Has.mem hm fun F hF => by
         have h1 : bytesAt (.slice (some ⟨b1, 0, none⟩) f.pack.length c1) f.pack F := by rw [HPL.out]; have := own_sliceAt F hF; unfold bytesAt; rw [HPL.out]; exact this
         have := bytes_sub (m := 63) (c := c1) h1 0 (by rw [HPL.out]; omega) (by omega) (by omega)
         simpa using this)
    | (refine wpl (o := ⟨some 41, .buildSlice _ _ _, _, _, _, _⟩) rfl fun K hK => ?_; go_must (refine op_lit hs rfl Try.underlying23 info_u8 [] (by omega) (by simp [Instr.fill]) fun b41 w1 h => hK _ _ ?_); clear hs hK K; have hs := h; clear h; try dsimp only [List.set] at hs)
    | (refine wpl (o := ⟨some 43, .call _, _, _, _, _⟩) rfl fun K hK => ?_; go_must (refine op_append_new hs rfl Try.underlying23 Try.underlying23 info_u8 rfl (by omega) rfl (slice_nil _ 1 (Has.mem m0 fun _ _ => trivial)) rfl (own_bytes 1 rfl HPL.out.symm rfl) (.inr rfl) (by rw [HPL.out]; omega) (by rw [HPL.out]; omega) fun v43 w2 h => hK _ _ ?_); clear hs hK K; have hs := h; clear h
       rw [HPL.out] at hs; simp only [Nat.zero_add, List.nil_append] at hs
       obtain ⟨b43, c43, sp43, rfl, _, _, _, _⟩ := hs.ownOpen (i := 0) rfl (by omega)
       have k49 := own_cell (j := k) hs m0 (u8s_cell f.pack k hk))
    | (refine wpl (o := ⟨some 49, .load _ _, _, _, _, _⟩) rfl fun K hK => op_load rfl (ad := ⟨b43, k, none⟩) rfl (by kernel_rfl) k49 (hK _ _ ?_); clear hK K)
    | (refine wpl (o := ⟨none, .store _ (.tmp 53) _, _, _, _, _⟩) rfl fun K hK => ?_; go_must (refine op_store_own1 hs rfl (b := b43) (i := k) 0 rfl (by omega) rfl (.int .u8 x1.toNat) rfl rfl (by kernel_rfl) (by rw [u8s_length]; exact hk) fun w5 h => hK _ _ ?_); clear hs hK K; have hs := h; clear h; dsimp only [List.set] at hs; rw [u8s_set] at hs)
    | (have hh : c76 = c76 := rfl; clear hh; go_at_call 19; go_must (refine (fparse_spec W _ _ hs _ (f.pack ++ [y]) (own_bytes 1 rfl (by simp [HPL.out]) (u8s_append _ _).symm) (by simp [HPL.out])).mono ?_); clear hs; rintro e w1 ⟨vx4, rfl, hs⟩; rw [H65.out]
       obtain ⟨Ax4, cx4, rfl, _, _⟩ := slice_form (hs.bytes (bytesH_has 0 rfl)))
    | (have hh : cx2 = cx2 := rfl; clear hh; go_at_call 19; go_must (refine (fparse_spec W _ _ hs _ (f.pack.take 63) (h63 _ (by (try dsimp only [List.set]); repeat (first | with_reducible exact List.mem_cons_self | with_reducible apply List.mem_cons_of_mem))) (by simp [HPL.out])).mono ?_); clear hs; rintro e w1 ⟨vx3, rfl, hs⟩; rw [H63.out]
       obtain ⟨Ax3, cx3, rfl, _, _⟩ := slice_form (hs.bytes (bytesH_has 0 rfl)))
    | (have hh : b60 = b60 := rfl; clear hh; go_at_call 19; go_must (refine (fparse_spec W _ _ hs _ (List.replicate 64 0) (lit_bytes 0 (by rw [e64.out]; rfl) 64 rfl (by omega)) (by simp [HPL.out])).mono ?_); clear hs; rintro e w1 ⟨vx2, rfl, hs⟩; rw [HZ.out]
       obtain ⟨Ax2, cx2, rfl, _, _⟩ := slice_form (hs.bytes (bytesH_has 0 rfl)))
    | (go_at_call 19; go_must (refine (fparse_spec W _ _ hs _ (f.pack.set k x1) (own_bytes 0 rfl (by simp [HPL.out]) rfl) (by simp [HPL.out])).mono ?_); clear hs; rintro e w1 ⟨vx1, rfl, hs⟩; rw [hC.out]
       obtain ⟨Ax1, cx1, rfl, _, _⟩ := slice_form (hs.bytes (bytesH_has 0 rfl)))
    | (refine wpl (o := ⟨some 12, .alloc _, _, _, _, _⟩) rfl fun K hK => ?_; go_must (refine op_alloc hs rfl _ zframe [.int .u32 0, .int .u32 0, .int .u8 0, .slice none 0 0] rfl fun b12 w1 h => hK _ _ ?_); clear hs hK K; have hs := h; clear h; try dsimp only [List.set] at hs)
    | (refine wpl (o := ⟨none, .store _ (.tmp 12) _, _, _, _, _⟩) rfl fun K hK => ?_; go_must (refine op_store_whole hs (b := b12) rfl rfl (frCells (Fr.parse (f.pack.set k x1)) (.slice Ax1 (Fr.parse (f.pack.set k x1)).body.length cx1)) rfl (by simp [frCells, Value.oneCell']) (by kernel_rfl) (k := 0) rfl rfl fun w3 h => hK _ _ ?_); clear hs hK K; have hs := h; clear h; try dsimp only [List.set] at hs)
    | (refine wpl (o := ⟨some 14, .alloc _, _, _, _, _⟩) rfl fun K hK => ?_; go_must (refine op_alloc hs rfl _ zframe [.int .u32 0, .int .u32 0, .int .u8 0, .slice none 0 0] rfl fun b14 w1 h => hK _ _ ?_); clear hs hK K; have hs := h; clear h; try dsimp only [List.set] at hs)
    | (refine wpl (o := ⟨none, .store _ (.tmp 14) _, _, _, _, _⟩) rfl fun K hK => ?_; go_must (refine op_store_whole hs (b := b14) rfl rfl (frCells (Fr.parse (List.replicate 64 0)) (.slice Ax2 (Fr.parse (List.replicate 64 0)).body.length cx2)) rfl (by simp [frCells, Value.oneCell']) (by kernel_rfl) (k := 0) rfl rfl fun w3 h => hK _ _ ?_); clear hs hK K; have hs := h; clear h; try dsimp only [List.set] at hs)
    | (refine wpl (o := ⟨some 16, .alloc _, _, _, _, _⟩) rfl fun K hK => ?_; go_must (refine op_alloc hs rfl _ zframe [.int .u32 0, .int .u32 0, .int .u8 0, .slice none 0 0] rfl fun b16 w1 h => hK _ _ ?_); clear hs hK K; have hs := h; clear h; try dsimp only [List.set] at hs)
    | (refine wpl (o := ⟨none, .store _ (.tmp 16) _, _, _, _, _⟩) rfl fun K hK => ?_; go_must (refine op_store_whole hs (b := b16) rfl rfl (frCells (Fr.parse (f.pack.take 63)) (.slice Ax3 (Fr.parse (f.pack.take 63)).body.length cx3)) rfl (by simp [frCells, Value.oneCell']) (by kernel_rfl) (k := 0) rfl rfl fun w3 h => hK _ _ ?_); clear hs hK K; have hs := h; clear h; try dsimp only [List.set] at hs)
    | (refine wpl (o := ⟨some 18, .alloc _, _, _, _, _⟩) rfl fun K hK => ?_; go_must (refine op_alloc hs rfl _ zframe [.int .u32 0, .int .u32 0, .int .u8 0, .slice none 0 0] rfl fun b18 w1 h => hK _ _ ?_); clear hs hK K; have hs := h; clear h; try dsimp only [List.set] at hs)
    | (refine wpl (o := ⟨none, .store _ (.tmp 18) _, _, _, _, _⟩) rfl fun K hK => ?_; go_must (refine op_store_whole hs (b := b18) rfl rfl (frCells (Fr.parse (f.pack ++ [y])) (.slice Ax4 (Fr.parse (f.pack ++ [y])).body.length cx4)) rfl (by simp [frCells, Value.oneCell']) (by kernel_rfl) (k := 0) rfl rfl fun w3 h => hK _ _ ?_); clear hs hK K; have hs := h; clear h; try dsimp only [List.set] at hs)
    | (refine wpl (o := ⟨some 60, .makeSlice _ _ _, _, _, _, _⟩) rfl fun K hK => ?_; go_must (refine op_make hs rfl Try.underlying23 rfl rfl info_u8 rfl (n := 64) (c := 64) (by omega) (by omega) (by omega) fun b60 w1 h => hK _ _ ?_); clear hs hK K; have hs := h; clear h; try dsimp only [List.set] at hs)
    | (refine wpl (o := ⟨some 71, .buildSlice _ _ _, _, _, _, _⟩) rfl fun K hK => ?_; go_must (refine op_lit hs rfl Try.underlying23 info_u8 [] (by omega) (by simp [Instr.fill]) fun b71 w1 h => hK _ _ ?_); clear hs hK K; have hs := h; clear h; try dsimp only [List.set] at hs)
    | (refine wpl (o := ⟨some 73, .call _, _, _, _, _⟩) rfl fun K hK => ?_; go_must (refine op_append_new hs rfl Try.underlying23 Try.underlying23 info_u8 rfl (by omega) rfl (slice_nil _ 1 (Has.mem m0 fun _ _ => trivial)) rfl (own_bytes 10 rfl HPL.out.symm rfl) (.inr rfl) (by rw [HPL.out]; omega) (by rw [HPL.out]; omega) fun v73 w2 h => hK _ _ ?_); clear hs hK K; have hs := h; clear h
       rw [HPL.out] at hs; simp only [Nat.zero_add, List.nil_append] at hs
       obtain ⟨A73, c73, rfl, _, _⟩ := own_slice hs (i := 0) rfl)
    | (refine wpl (o := ⟨some 75, .buildSlice _ _ _, _, _, _, _⟩) rfl fun K hK => ?_; go_must (refine op_lit1 hs rfl Try.underlying23 info_u8 rfl (u8s [y]) (by omega) rfl (u8s_one _) (by simp [u8s, Act.eval]) fun b75 w1 h => hK _ _ ?_); clear hs hK K; have hs := h; clear h; try dsimp only [List.set] at hs)
    | (refine wpl (o := ⟨some 76, .call _, _, _, _, _⟩) rfl fun K hK => ?_; go_must (refine op_append hs rfl Try.underlying23 Try.underlying23 info_u8 rfl (by omega) (k := 1) rfl rfl rfl (lit_bytes (l := [y]) 0 rfl 1 rfl (by omega)) (u8s_one _) (by simp) (by simp) fun v76 w2 h => hK _ _ ?_); clear hs hK K; have hs := h; clear h; dsimp only [List.set] at hs
       obtain ⟨A76, c76, rfl, _, _⟩ := own_slice hs (i := 1) rfl))
  go_ret
  exact ⟨rfl, hs.pack (by repeat (first | with_reducible exact Pack.refl | with_reducible exact Pack.nil | with_reducible refine Pack.cons (by repeat (first | with_reducible exact Pick.here | with_reducible apply Pick.there)) ?_ | with_reducible apply Pack.drop))⟩
theorem frameTurned_main (W : World) (x0 : FrTup) (c0 : List Value) (h0 : frKin.K (hp W) x0 c0) (a : UInt8) (v1 : Value) (h1 : Kin.u8.K (hp W) a [v1]) (y : UInt8) (v2 : Value) (h2 : Kin.u8.K (hp W) y [v2]) :
    Calls Try.prog 6 #[.agg c0.toArray, v1, v2] W fun e w' => e = .returned (.bool true) ∧ Below W.heap.size W w' := by
  obtain ⟨f, vf, okf, rfl, hf, _⟩ := fr_cells h0
  cases h1
  cases h2
  obtain ⟨Af, cf, rfl, _, _⟩ := slice_form ((Sat.start W).bytes hf)
  by_cases hb : f.body.length ≤ 50
  · exact (frameTurned_late W W _ (Sat.start W) f okf Af cf hf a y hb).mono fun e w' ⟨he, hs⟩ => ⟨he, hs.end_ m0⟩
  · exact (frameTurned_early W W _ (Sat.start W) f Af cf a y (by omega)).mono fun e w' ⟨he, hs⟩ => ⟨he, hs.end_ m0⟩
end Go.Proofs.Ytoedmjibhpajjaa
