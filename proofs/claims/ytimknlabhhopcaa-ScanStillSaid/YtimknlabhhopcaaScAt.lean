/- What a ring has, read again: a frame of a number; the contract of scan.at. -/
import Derived.Test.YtimknlabhhopcaaRgW
import Derived.Test.YtimknlabhhopcaaFrParse
import Derived.Test.YtimknlabhhopcaaVdAny
set_option linter.unusedVariables false
set_option linter.unusedSimpArgs false
namespace Go.Proofs.Ytimknlabhhopcaa
open Go.RowKit
/-- The frame of a number, if there is one. -/
def scAdr (first many n : Nat) : Int := IntKind.i64.wrap ((first : Int) + ((n % many : Nat) : Int))
def scIs (P : List UInt8) (epoch n : Nat) : Bool := decide (Fr.code P = 0) && (decide ((Fr.parse P).seq = n) && decide ((Fr.parse P).epoch = epoch))
def scF (D : Dk) (first many epoch n : Nat) : Option Fr := if scIs (D.rbytes (scAdr first many n)) epoch n then some (Fr.parse (D.rbytes (scAdr first many n))) else none
theorem parse_len {P : List UInt8} (h : P.length ≤ 64) : (Fr.parse P).body.length ≤ 64 ∧ (Fr.parse P).Ok := by
  have h0 : (Fr.parse P).Ok := by
    unfold Fr.parse
    split
    · exact Fr.told_ok P
    · exact ⟨by show 0 < 4294967296; omega, by show 0 < 4294967296; omega⟩
  refine ⟨?_, h0⟩
  unfold Fr.parse
  split
  · show ((P.drop 10).take (P.getD 9 0).toNat).length ≤ 64
    rw [List.length_take, List.length_drop]; omega
  · show (0 : Nat) ≤ 64
    omega
theorem rbytes_len {D : Dk} (ok : D.Ok) (i : Int) : (D.rbytes i).length ≤ 64 := by
  unfold Dk.rbytes
  split
  · simp
  · rename_i h
    obtain ⟨n, rfl, hn⟩ := Dk.not_out (D := D) (i := i) (by simpa using h)
    simp only [Int.toNat_natCast]
    rw [Dk.read_len ok hn]; omega
theorem code_nil : Fr.code [] = 2 := by
  have : Fr.is [] = false := by unfold Fr.is; simp
  unfold Fr.code; rw [this]; rfl
set_option maxRecDepth 100000 in
set_option maxHeartbeats 1000000 in
theorem at_any (W w : World) (L : List HP) (hs : Sat W w L) (first many epoch n : Nat) (h1 : 1 ≤ many) (h2 : many < 9223372036854775808) (hn : n < 4294967296) :
    Calls Try.prog 57 #[.agg (place first many epoch).toArray, .int .u32 (n : Nat)] w fun e w' => e = .returned (.int .i64 (scAdr first many n)) ∧ Sat W w' L := by
  have h1I : ¬ (many : Int) < 1 := by omega
  have hu : IntKind.u64.wrap (many : Int) = (many : Int) := by simp [IntKind.wrap, IntKind.bits, IntKind.signed]; omega
  have hn1 : IntKind.u64.wrap (n : Int) = (n : Int) := by simp [IntKind.wrap, IntKind.bits, IntKind.signed]; omega
  have hz : ¬ many = 0 := by omega
  have hlt : n % many ≤ n := Nat.mod_le _ _
  have hrem : (n : Int) % (many : Int) = ((n % many : Nat) : Int) := by push_cast; rfl
  have htm : (n : Int).tmod (many : Int) = ((n % many : Nat) : Int) := by rw [Int.tmod_eq_emod_of_nonneg (by omega)]; push_cast; rfl
  unfold scAdr
  generalize n % many = q at hlt hrem htm
  have hi : IntKind.i64.wrap (q : Int) = (q : Int) := by rw [IntKind.wrap_i64]; omega
  obtain ⟨x, hi2⟩ : ∃ x, IntKind.i64.wrap ((first : Int) + (q : Int)) = x := ⟨_, rfl⟩
  rw [hi2]
  have cS : ∀ w b2 M, Sat W w M → row b2 (place first many epoch) 25 ∈ M → rngS b2 (place first many epoch) w := fun w b2 M h hm => range_whole h hm
  have c0 : ∀ b2 w, rngS b2 (place first many epoch) w → w.cell? ⟨b2, 0, none⟩ = some (.int .i64 (first : Nat)) := fun b2 w h => h 0 _ rfl
  have c1 : ∀ b2 w, rngS b2 (place first many epoch) w → w.cell? ⟨b2, 1, none⟩ = some (.int .i64 (many : Nat)) := fun b2 w h => h 1 _ rfl
  go_enter Try.func57, Try.ntmps57
  go_wp2_with (first
    | (guard_target = wpList _ _ _ (⟨some 2, .box _ _, _, _, _, _⟩ :: _) _ _; refine wpl (o := ⟨some 2, .box _ _, _, _, _, _⟩) rfl fun K hK => ?_; go_must (refine op_box hs rfl _ rfl (place first many epoch) rfl fun b2 w1 h => hK _ _ ?_); clear hs hK K; have hs := h; clear h; try dsimp only [List.set] at hs)
    | (guard_target = wpList _ _ _ (⟨some 6, .load _ _, _, _, _, _⟩ :: _) _ _; refine wpl (o := ⟨some 6, .load _ _, _, _, _, _⟩) rfl fun K hK => op_load rfl (ad := ⟨b2, 1, none⟩) rfl (by kernel_rfl) (hs.cell m0 rfl) (hK _ _ ?_); clear hK K))
  go_wp2_with fail
  have hS0 := cS _ _ _ hs.drew (by (try dsimp only [List.set]); repeat (first | with_reducible exact List.mem_cons_self | with_reducible apply List.mem_cons_of_mem))
  refine wp_region_tree (rngS b2 (place first many epoch)) (.take 0 (.take 1 (.take 2 (.take 3 (.take 4 (.take 5 (.take 6 (.take 7 (.take 8 (.take 9 (.take 10 (DTree.done)))))))))))) (by kernel_rfl) (by kernel_rfl) (by kernel_rfl) (fun _ _ d _ _ h => by cases d <;> exact h) hS0 ?_
  have hs' := hs.drew
  clear hs
  have hs := hs'
  clear hs'
  have hq := fun p : Prop => class_const hS0 p
  clear hS0
  repeat (first
    | (with_reducible refine tree_load (o := ⟨some 9, .load _ _, _, _, _, _⟩) rfl rfl rfl rfl rfl (c0 b2) ?_)
    | (with_reducible refine tree_load (o := ⟨some 13, .load _ _, _, _, _, _⟩) rfl rfl rfl rfl rfl (c1 b2) ?_)
    | (refine tree_take rfl (fun K hK => ?_); go_simp; (first | with_reducible refine hK _ ?_ | (rw [if_neg (by decide)]; with_reducible refine hK _ ?_)); clear hK K))
  refine tree_done ?_
  clear hq
  go_wp2_with fail
  go_ret
  exact ⟨rfl, hs.tail⟩
def scS (b10 : Nat) (cs : List Value) (b4 : Nat) (ps : List Value) (w : World) : Prop := w.rangeAt b10 0 cs ∧ w.rangeAt b4 0 ps
def scatPost (o : Option Fr) (W : World) (L : List HP) (e : Ending) (w' : World) : Prop := ∃ (f : Fr) (vb : Value), e = .returned (.tuple #[.agg (frCells f vb).toArray, .bool o.isSome]) ∧ (∀ g, o = some g → g = f) ∧ Sat W w' (bytesH vb f.body :: L)
theorem frcells_one (f : Fr) (A : Option Addr) (n c : Nat) : ∀ v ∈ frCells f (.slice A n c), v.oneCell' = true := by simp [frCells, Value.oneCell']
set_option maxRecDepth 100000 in
set_option maxHeartbeats 4000000 in
theorem scat_spec (W w : World) (L : List HP) (b : Nat) (D : Dk) (hs : Sat W w (disk b D :: L)) (first many epoch n : Nat) (h1 : 1 ≤ many) (h2 : many < 9223372036854775808) (hn : n < 4294967296) (hr : D.row.length ≤ 1000000) :
    Calls Try.prog 48 #[.pointer (some ⟨b, 0, none⟩), .agg (place first many epoch).toArray, .int .u32 (n : Nat)] w (scatPost (scF D first many epoch n) W (disk b D :: L)) := by
  have okD := hs.disk_open.1
  have hz := run_zero (P := Try.prog) zframe
  obtain ⟨a, ha⟩ : ∃ a, scAdr first many n = a := ⟨_, rfl⟩
  have hlen := rbytes_len okD a
  obtain ⟨P, hP⟩ : ∃ P, D.rbytes a = P := ⟨_, rfl⟩
  obtain ⟨c, hc⟩ : ∃ c, D.rcode a = c := ⟨_, rfl⟩
  have hF : scF D first many epoch n = if scIs P epoch n then some (Fr.parse P) else none := by unfold scF; rw [ha, hP]
  rw [hF]
  rw [hP] at hlen
  have hout : (c = 11 ∧ P = []) ∨ c = 0 := by
    rw [← hc, ← hP]
    unfold Dk.rcode Dk.rbytes
    cases D.out a
    · exact .inr rfl
    · exact .inl ⟨rfl, rfl⟩
  have HA := Box.mk ha
  have HP' := Box.mk hP
  have HC := Box.mk hc
  clear ha hP hc hF
  rcases hout with ⟨rfl, rfl⟩ | rfl
  · have hno : scIs [] epoch n = false := by unfold scIs; rw [code_nil]; rfl
    rw [hno]
    go_enter Try.func48, Try.ntmps48
    go_wp2_with (first
      | (guard_target = wpList _ _ _ (⟨some 4, .box _ _, _, _, _, _⟩ :: _) _ _; refine wpl (o := ⟨some 4, .box _ _, _, _, _, _⟩) rfl fun K hK => ?_; go_must (refine op_box hs rfl _ rfl (place first many epoch) rfl fun b4 w1 h => hK _ _ ?_); clear hs hK K; have hs := h; clear h; try dsimp only [List.set] at hs)
      | (guard_target = wpList _ _ _ (⟨some 6, .alloc _, _, _, _, _⟩ :: _) _ _; refine wpl (o := ⟨some 6, .alloc _, _, _, _, _⟩) rfl fun K hK => ?_; go_must (refine op_alloc hs rfl _ zframe [.int .u32 0, .int .u32 0, .int .u8 0, .slice none 0 0] rfl fun b6 w1 h => hK _ _ ?_); clear hs hK K; have hs := h; clear h; try dsimp only [List.set] at hs)
      | (guard_target = wpList _ _ _ (⟨some 13, .load _ _, _, _, _, _⟩ :: _) _ _; refine wpl (o := ⟨some 13, .load _ _, _, _, _, _⟩) rfl fun K hK => op_load_agg rfl (b := b4) (i := 0) rfl ((place first many epoch)) (range_whole hs (by (try dsimp only [List.set]); repeat (first | with_reducible exact List.mem_cons_self | with_reducible apply List.mem_cons_of_mem))) (by kernel_rfl) (by kernel_rfl) (hK _ _ ?_); clear hK K)
      | (go_at_call 57; go_must (refine (at_any W _ _ hs first many epoch n h1 h2 hn).mono ?_); clear hs; rintro e w1 ⟨rfl, hs⟩; rw [HA.out])
      | (go_at_call 33; go_must (refine (read_any W _ _ b D (hs.pick (A := disk b D) (by repeat (first | with_reducible exact Pick.here | with_reducible apply Pick.there))) a hr).mono ?_); clear hs; rintro e w1 ⟨v8, rfl, hs⟩; rw [HC.out]; rw [HP'.out] at hs)
      | (guard_target = wpList _ _ _ (⟨none, .store _ (.tmp 6) _, _, _, _, _⟩ :: _) _ _; refine wpl (o := ⟨none, .store _ (.tmp 6) _, _, _, _, _⟩) rfl fun K hK => ?_; go_must (refine op_store_whole (hs.pick (A := row b6 [.int .u32 0, .int .u32 0, .int .u8 0, .slice none 0 0] 110) (by repeat (first | with_reducible exact Pick.here | with_reducible apply Pick.there))) (b := b6) rfl rfl [.int .u32 0, .int .u32 0, .int .u8 0, .slice none 0 0] rfl (by simp [Value.oneCell']) (by kernel_rfl) (k := 0) rfl rfl fun w3 h => hK _ _ ?_); clear hs hK K; have hs := h; clear h; try dsimp only [List.set] at hs))
    refine bodyPost_ret (run_results_cell_tmp rfl (b := b6) rfl [.int .u32 0, .int .u32 0, .int .u8 0, .slice none 0 0] (range_whole hs m0) (by kernel_rfl) (by kernel_rfl)) rfl ⟨⟨0, 0, 0, []⟩, .slice none 0 0, rfl, fun g hg => by simp at hg, ?_⟩
    have hs1 := (hs.addNil none 5 1).sub (i := 0) rfl (B := bytesH (.slice none 0 0) []) fun F hF => own_sliceAt F hF
    dsimp only [List.set] at hs1
    exact hs1.pack (by repeat (first | with_reducible exact Pack.refl | with_reducible exact Pack.nil | with_reducible refine Pack.cons (by repeat (first | with_reducible exact Pick.here | with_reducible apply Pick.there)) ?_ | with_reducible apply Pack.drop))
  · obtain ⟨f, hf⟩ : ∃ f, Fr.parse P = f := ⟨_, rfl⟩
    obtain ⟨code, hcode⟩ : ∃ k, Fr.code P = k := ⟨_, rfl⟩
    have hI : scIs P epoch n = (decide (code = 0) && (decide (f.seq = n) && decide (f.epoch = epoch))) := by unfold scIs; rw [hf, hcode]
    obtain ⟨r, hr2⟩ : ∃ r, scIs P epoch n = r := ⟨_, rfl⟩
    have hcases : (∃ e0 : ((code : Int) == 0) = false, r = false) ∨ (∃ (e0 : ((code : Int) == 0) = true) (e1 : ((f.seq : Int) == (n : Int)) = false), r = false) ∨ (∃ (e0 : ((code : Int) == 0) = true) (e1 : ((f.seq : Int) == (n : Int)) = true) (e2 : ((f.epoch : Int) == (epoch : Int)) = false), r = false) ∨ (∃ (e0 : ((code : Int) == 0) = true) (e1 : ((f.seq : Int) == (n : Int)) = true) (e2 : ((f.epoch : Int) == (epoch : Int)) = true), r = true) := by
      rw [← hr2, hI]
      by_cases c0 : code = 0
      · have e0 : ((code : Int) == 0) = true := by simp [c0]
        by_cases c1 : f.seq = n
        · have e1 : ((f.seq : Int) == (n : Int)) = true := by simp [c1]
          by_cases c2 : f.epoch = epoch
          · exact .inr (.inr (.inr ⟨e0, e1, by simp [c2], by simp [c0, c1, c2]⟩))
          · exact .inr (.inr (.inl ⟨e0, e1, by simp; omega, by simp [c2]⟩))
        · exact .inr (.inl ⟨e0, by simp; omega, by simp [c1]⟩)
      · exact .inl ⟨by simp; omega, by simp [c0]⟩
    have HR : Box (scIs P epoch n = r) := ⟨hr2⟩
    have HF : Box (Fr.parse P = f ∧ Fr.code P = code) := ⟨hf, hcode⟩
    clear hI hr2 hf hcode
    have hpost : (if scIs P epoch n then some (Fr.parse P) else none) = if r then some f else none := by rw [HR.out, HF.out.1]
    rw [hpost]
    clear hpost
    have cS : ∀ w M b10 b4 cs, Sat W w M → row b10 cs 110 ∈ M → row b4 (place first many epoch) 25 ∈ M → scS b10 cs b4 (place first many epoch) w := fun w M b10 b4 cs h hm hm2 => ⟨range_whole h hm, range_whole h hm2⟩
    rcases hcases with ⟨e0, rfl⟩ | ⟨e0, e1, rfl⟩ | ⟨e0, e1, e2, rfl⟩ | ⟨e0, e1, e2, rfl⟩
    all_goals
      go_enter Try.func48, Try.ntmps48
      go_wp2_with (first
        | (guard_target = wpList _ _ _ (⟨some 4, .box _ _, _, _, _, _⟩ :: _) _ _; refine wpl (o := ⟨some 4, .box _ _, _, _, _, _⟩) rfl fun K hK => ?_; go_must (refine op_box hs rfl _ rfl (place first many epoch) rfl fun b4 w1 h => hK _ _ ?_); clear hs hK K; have hs := h; clear h; try dsimp only [List.set] at hs)
        | (guard_target = wpList _ _ _ (⟨some 6, .alloc _, _, _, _, _⟩ :: _) _ _; refine wpl (o := ⟨some 6, .alloc _, _, _, _, _⟩) rfl fun K hK => ?_; go_must (refine op_alloc hs rfl _ zframe [.int .u32 0, .int .u32 0, .int .u8 0, .slice none 0 0] rfl fun b6 w1 h => hK _ _ ?_); clear hs hK K; have hs := h; clear h; try dsimp only [List.set] at hs)
        | (guard_target = wpList _ _ _ (⟨some 13, .load _ _, _, _, _, _⟩ :: _) _ _; refine wpl (o := ⟨some 13, .load _ _, _, _, _, _⟩) rfl fun K hK => op_load_agg rfl (b := b4) (i := 0) rfl ((place first many epoch)) (range_whole hs (by (try dsimp only [List.set]); repeat (first | with_reducible exact List.mem_cons_self | with_reducible apply List.mem_cons_of_mem))) (by kernel_rfl) (by kernel_rfl) (hK _ _ ?_); clear hK K)
        | (go_at_call 57; go_must (refine (at_any W _ _ hs first many epoch n h1 h2 hn).mono ?_); clear hs; rintro e w1 ⟨rfl, hs⟩; rw [HA.out])
        | (go_at_call 33; go_must (refine (read_any W _ _ b D (hs.pick (A := disk b D) (by repeat (first | with_reducible exact Pick.here | with_reducible apply Pick.there))) a hr).mono ?_); clear hs; rintro e w1 ⟨v8, rfl, hs⟩; rw [HC.out]; rw [HP'.out] at hs)
        | (go_at_call 67; go_must (refine (fparse_spec W _ _ hs v8 P (bytesH_has 0 rfl) (by omega)).mono ?_); clear hs; rintro e w1 ⟨vx, rfl, hs⟩; rw [HF.out.1, HF.out.2]; rw [HF.out.1] at hs
           obtain ⟨Ax, cx, rfl, _, _⟩ := slice_form (hs.bytes (bytesH_has 0 rfl)))
        | (guard_target = wpList _ _ _ (⟨some 10, .alloc _, _, _, _, _⟩ :: _) _ _; refine wpl (o := ⟨some 10, .alloc _, _, _, _, _⟩) rfl fun K hK => ?_; go_must (refine op_alloc hs rfl _ zframe [.int .u32 0, .int .u32 0, .int .u8 0, .slice none 0 0] rfl fun b10 w1 h => hK _ _ ?_); clear hs hK K; have hs := h; clear h; try dsimp only [List.set] at hs)
        | (guard_target = wpList _ _ _ (⟨none, .store _ (.tmp 10) _, _, _, _, _⟩ :: _) _ _; refine wpl (o := ⟨none, .store _ (.tmp 10) _, _, _, _, _⟩) rfl fun K hK => ?_; go_must (refine op_store_whole (hs.pick (A := row b10 [.int .u32 0, .int .u32 0, .int .u8 0, .slice none 0 0] 110) (by repeat (first | with_reducible exact Pick.here | with_reducible apply Pick.there))) (b := b10) rfl rfl (frCells f (.slice Ax f.body.length cx)) rfl (frcells_one _ _ _ _) (by kernel_rfl) (k := 0) rfl rfl fun w3 h => hK _ _ ?_); clear hs hK K; have hs := h; clear h; try dsimp only [List.set] at hs))
      have d27 : ∀ w, scS b10 (frCells f (.slice Ax f.body.length cx)) b4 (place first many epoch) w → w.rangeAt b10 0 (frCells f (.slice Ax f.body.length cx)) := fun w h => h.1
      have d32 : ∀ w, scS b10 (frCells f (.slice Ax f.body.length cx)) b4 (place first many epoch) w → w.cell? ⟨b10, 1, none⟩ = some (.int .u32 (f.seq : Nat)) := fun w h => h.1 1 _ rfl
      have d38 : ∀ w, scS b10 (frCells f (.slice Ax f.body.length cx)) b4 (place first many epoch) w → w.cell? ⟨b10, 0, none⟩ = some (.int .u32 (f.epoch : Nat)) := fun w h => h.1 0 _ rfl
      have d40 : ∀ w, scS b10 (frCells f (.slice Ax f.body.length cx)) b4 (place first many epoch) w → w.cell? ⟨b4, 2, none⟩ = some (.int .u32 (epoch : Nat)) := fun w h => h.2 2 _ rfl
      have hS0 := cS _ _ _ _ _ hs.drew (by (try dsimp only [List.set]); repeat (first | with_reducible exact List.mem_cons_self | with_reducible apply List.mem_cons_of_mem)) (by (try dsimp only [List.set]); repeat (first | with_reducible exact List.mem_cons_self | with_reducible apply List.mem_cons_of_mem))
      refine wp_region_tree (scS b10 (frCells f (.slice Ax f.body.length cx)) b4 (place first many epoch)) (.take 0 (.take 1 (.take 2 (.take 3 (.take 4 (.take 5 (.take 6 (.take 7 (.take 8 (.take 9 (.take 10 (.take 11 (.take 12 (.take 13 (.take 14 (.take 15 (.all [(16, .take 17 (DTree.done))]))))))))))))))))) (by kernel_rfl) (by kernel_rfl) (by kernel_rfl) (fun _ _ d _ _ h => by cases d <;> exact h) hS0 ?_
      have hs' := hs.drew
      clear hs
      have hs := hs'
      clear hs'
      have hq := fun p : Prop => class_const hS0 p
      clear hS0
      repeat (first
        | (with_reducible refine tree_load_agg (o := ⟨some 27, .load _ _, _, _, _, _⟩) (frCells f (.slice Ax f.body.length cx)) rfl rfl rfl rfl ?_ ?_ d27 ?_; (kernel_rfl); (kernel_rfl))
        | (with_reducible refine tree_load (o := ⟨some 32, .load _ _, _, _, _, _⟩) rfl rfl rfl rfl rfl d32 ?_)
        | (with_reducible refine tree_load (o := ⟨some 38, .load _ _, _, _, _, _⟩) rfl rfl rfl rfl rfl d38 ?_)
        | (with_reducible refine tree_load (o := ⟨some 40, .load _ _, _, _, _, _⟩) rfl rfl rfl rfl rfl d40 ?_)
        | (refine tree_take rfl (fun K hK => ?_); go_simp; (first | with_reducible refine hK _ ?_ | (rw [if_neg (by decide)]; with_reducible refine hK _ ?_)); clear hK K))
      refine tree_one_yes (o := _) rfl rfl (fun K hK => ?_) (cS _ _ _ _ _ hs (by (try dsimp only [List.set]); repeat (first | with_reducible exact List.mem_cons_self | with_reducible apply List.mem_cons_of_mem)) (by (try dsimp only [List.set]); repeat (first | with_reducible exact List.mem_cons_self | with_reducible apply List.mem_cons_of_mem)))
      refine op_store_whole (hs.pick (A := row b6 [.int .u32 0, .int .u32 0, .int .u8 0, .slice none 0 0] 110) (by repeat (first | with_reducible exact Pick.here | with_reducible apply Pick.there))) rfl (b := b6) rfl (frCells f (.slice Ax f.body.length cx)) rfl (frcells_one _ _ _ _) (by kernel_rfl) (k := 0) rfl rfl fun w3 h => hK _ _ (cS _ _ _ _ _ h (by (try dsimp only [List.set]); repeat (first | with_reducible exact List.mem_cons_self | with_reducible apply List.mem_cons_of_mem)) (by (try dsimp only [List.set]); repeat (first | with_reducible exact List.mem_cons_self | with_reducible apply List.mem_cons_of_mem))) ?_
      clear hs hK K
      have hs := h
      clear h
      try dsimp only [List.set] at hs
      try go_simp
      repeat (first
        | (with_reducible refine tree_load_agg (o := ⟨some 27, .load _ _, _, _, _, _⟩) (frCells f (.slice Ax f.body.length cx)) rfl rfl rfl rfl ?_ ?_ d27 ?_; (kernel_rfl); (kernel_rfl))
        | (with_reducible refine tree_load (o := ⟨some 32, .load _ _, _, _, _, _⟩) rfl rfl rfl rfl rfl d32 ?_)
        | (with_reducible refine tree_load (o := ⟨some 38, .load _ _, _, _, _, _⟩) rfl rfl rfl rfl rfl d38 ?_)
        | (with_reducible refine tree_load (o := ⟨some 40, .load _ _, _, _, _, _⟩) rfl rfl rfl rfl rfl d40 ?_)
        | (refine tree_take rfl (fun K hK => ?_); go_simp; (first | with_reducible refine hK _ ?_ | (rw [if_neg (by decide)]; with_reducible refine hK _ ?_)); clear hK K))
      refine tree_done ?_
      clear hq
      go_wp2_with fail
      refine bodyPost_ret (run_results_cell_tmp rfl (b := b6) rfl (frCells f (.slice Ax f.body.length cx)) (range_whole hs m0) (by kernel_rfl) (by kernel_rfl)) rfl ⟨f, .slice Ax f.body.length cx, rfl, fun g hg => by simp at hg <;> exact hg.symm, hs.pack (by repeat (first | with_reducible exact Pack.refl | with_reducible exact Pack.nil | with_reducible refine Pack.cons (by repeat (first | with_reducible exact Pick.here | with_reducible apply Pick.there)) ?_ | with_reducible apply Pack.drop))⟩
end Go.Proofs.Ytimknlabhhopcaa
