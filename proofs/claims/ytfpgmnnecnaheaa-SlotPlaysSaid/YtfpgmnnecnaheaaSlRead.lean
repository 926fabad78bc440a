/- The contract of what reads a slot, frame by frame. -/
import Derived.Test.YtfpgmnnecnaheaaSlW
set_option linter.unusedVariables false
set_option linter.unusedSimpArgs false
namespace Go.Proofs.Ytfpgmnnecnaheaa
open Go.RowKit
theorem run_results_cell_tmp' {P : Program} {w : World} {fn : Func} {p u : Tmp} {ty : TypeId} (h : fn.results = #[.cell p ty, .tmp u]) {tmps : Array Value} {b : Nat} (hp : tmps.getD p undef = .pointer (some ⟨b, 0, none⟩)) (cs : List Value) (hc : w.rangeAt b 0 cs)
    (hd : ((P.underlying ty).map TypeDesc.isRow) = some true) (hi : (P.info? ty).map (·.size) = some cs.length) : (results fn tmps).run P w = .ok (.tuple #[.agg cs.toArray, tmps.getD u undef]) w := run_results_cell_tmp h hp cs hc hd hi
theorem u8_and (a k : UInt8) : bits .and .u8 (a.toNat : Int) (k.toNat : Int) = ((a &&& k).toNat : Int) := by
  have h : ∀ c : BitVec 8, BitVec.ofInt 8 (c.toNat : Int) = c := fun c => by simp
  have hb := (a.toBitVec &&& k.toBitVec).isLt
  show IntKind.u8.wrap (((BitVec.ofInt 8 (a.toBitVec.toNat : Int)) &&& (BitVec.ofInt 8 (k.toBitVec.toNat : Int))).toNat : Int) = ((a.toBitVec &&& k.toBitVec).toNat : Int)
  rw [h, h, IntKind.wrap_u8]
  omega
theorem flag_bit (a k : UInt8) : ∃ r : Bool, (bits .and .u8 (a.toNat : Int) (k.toNat : Int) != 0) = r ∧ (a &&& k != 0) = r := by
  refine ⟨_, rfl, ?_⟩
  rw [u8_and]
  by_cases h : a &&& k = 0
  · simp [h]
  · have h2 : ¬ (a &&& k).toNat = 0 := fun e => h (UInt8.toNat_inj.1 e)
    have e1 : (((a &&& k).toNat : Int) != 0) = true := by rw [bne_iff_ne]; omega
    have e2 : (a &&& k != 0) = true := by rw [bne_iff_ne]; exact h
    rw [e1, e2]
/-- What the reader has laid. -/
def rdL (bi ba bd bw bg b : Nat) (first size : Int) (which i gen : Nat) : List HP :=
  [row bi [.int .i64 (i : Nat)] 3, row ba (areaC first size) 31, row bd [.pointer (some ⟨b, 0, none⟩)] 25, row bw [.int .i64 (which : Nat)] 3, row bg [.int .u32 (gen : Nat)] 27]
def rdS (bi ba bd bw : Nat) (b : Nat) (first size : Int) (which i : Nat) (w : World) : Prop := w.cell? ⟨bi, 0, none⟩ = some (.int .i64 (i : Nat)) ∧ w.rangeAt ba 0 (areaC first size) ∧ w.cell? ⟨bd, 0, none⟩ = some (.pointer (some ⟨b, 0, none⟩)) ∧ w.cell? ⟨bw, 0, none⟩ = some (.int .i64 (which : Nat))
set_option maxRecDepth 100000 in
set_option maxHeartbeats 4000000 in
theorem reader1_end (W w : World) (L : List HP) (bi ba bd bw bg b : Nat) (first size which i gen : Nat) (hs : Sat W w (row bi [.int .i64 (i : Nat)] 3 :: row ba (areaC (first : Nat) (size : Nat)) 31 :: row bd [.pointer (some ⟨b, 0, none⟩)] 25 :: row bw [.int .i64 (which : Nat)] 3 :: row bg [.int .u32 (gen : Nat)] 27 :: L)) (hi : size ≤ i) :
    Calls Try.prog 70 #[.pointer (some ⟨bi, 0, none⟩), .pointer (some ⟨ba, 0, none⟩), .pointer (some ⟨bd, 0, none⟩), .pointer (some ⟨bw, 0, none⟩), .pointer (some ⟨bg, 0, none⟩)] w fun e w' => e = .returned (.tuple #[.agg #[.int .u32 0, .int .u32 0, .int .u8 0, .slice none 0 0], .bool false]) ∧ Sat W w' (row bi [.int .i64 (i : Nat)] 3 :: row ba (areaC (first : Nat) (size : Nat)) 31 :: row bd [.pointer (some ⟨b, 0, none⟩)] 25 :: row bw [.int .i64 (which : Nat)] 3 :: row bg [.int .u32 (gen : Nat)] 27 :: L) := by
  have hiI : (size : Int) ≤ (i : Int) := by omega
  go_enter Try.func70, Try.ntmps70
  go_wp2_with (first
    | (guard_target = wpList _ _ _ (⟨some 5, .alloc _, _, _, _, _⟩ :: _) _ _; refine wpl (o := ⟨some 5, .alloc _, _, _, _, _⟩) rfl fun K hK => ?_; go_must (refine op_alloc hs rfl _ zframe [.int .u32 0, .int .u32 0, .int .u8 0, .slice none 0 0] rfl fun b5 w1 h => hK _ _ ?_); clear hs hK K; have hs := h; clear h; try dsimp only [List.set] at hs)
    | (guard_target = wpList _ _ _ (⟨some 12, .load _ _, _, _, _, _⟩ :: _) _ _; refine wpl (o := ⟨some 12, .load _ _, _, _, _, _⟩) rfl fun K hK => op_load rfl (ad := ⟨bi, 0, none⟩) rfl (by kernel_rfl) (hs.cell m1 rfl) (hK _ _ ?_); clear hK K)
    | (guard_target = wpList _ _ _ (⟨some 14, .load _ _, _, _, _, _⟩ :: _) _ _; refine wpl (o := ⟨some 14, .load _ _, _, _, _, _⟩) rfl fun K hK => op_load rfl (ad := ⟨ba, 1, none⟩) rfl (by kernel_rfl) (hs.cell m2 rfl) (hK _ _ ?_); clear hK K)
    | (guard_target = wpList _ _ _ (⟨none, .store _ (.tmp 5) _, _, _, _, _⟩ :: _) _ _; refine wpl (o := ⟨none, .store _ (.tmp 5) _, _, _, _, _⟩) rfl fun K hK => ?_; go_must (refine op_store_whole hs (b := b5) rfl rfl [.int .u32 0, .int .u32 0, .int .u8 0, .slice none 0 0] rfl (by simp [Value.oneCell']) (by kernel_rfl) (k := 0) rfl rfl fun w3 h => hK _ _ ?_); clear hs hK K; have hs := h; clear h; try dsimp only [List.set] at hs))
  refine bodyPost_ret (run_results_cell_tmp' rfl (b := b5) rfl _ (range_whole hs m0) (by kernel_rfl) (by kernel_rfl)) rfl ?_
  exact ⟨rfl, hs.tail⟩
set_option maxRecDepth 100000 in
set_option maxHeartbeats 8000000 in
theorem reader1_spec (W w : World) (L : List HP) (bi ba bd bw bg b : Nat) (D : Dk) (first size which i gen : Nat) (hs : Sat W w (row bi [.int .i64 (i : Nat)] 3 :: row ba (areaC (first : Nat) (size : Nat)) 31 :: row bd [.pointer (some ⟨b, 0, none⟩)] 25 :: row bw [.int .i64 (which : Nat)] 3 :: row bg [.int .u32 (gen : Nat)] 27 :: disk b D :: L)) (hi : i < size) (hpl : first + 2 * size ≤ D.secs.length) (hwh : which ≤ 1) (hgen : gen < 4294967296) (hr : D.row.length ≤ 1000000) :
    Calls Try.prog 70 #[.pointer (some ⟨bi, 0, none⟩), .pointer (some ⟨ba, 0, none⟩), .pointer (some ⟨bd, 0, none⟩), .pointer (some ⟨bw, 0, none⟩), .pointer (some ⟨bg, 0, none⟩)] w fun e w' => ∃ vx, e = .returned (.tuple #[.agg (frCells (Fr.parse (D.read (first + size * which + i))) vx).toArray, .bool (slNext which i (if i = 0 then (Fr.parse (D.read (first + size * which + i))).epoch else gen) (Fr.parse (D.read (first + size * which + i))) (Fr.code (D.read (first + size * which + i))))]) ∧ Sat W w' (bytesH vx (Fr.parse (D.read (first + size * which + i))).body :: row bi [.int .i64 (i + 1 : Nat)] 3 :: row ba (areaC (first : Nat) (size : Nat)) 31 :: row bd [.pointer (some ⟨b, 0, none⟩)] 25 :: row bw [.int .i64 (which : Nat)] 3 :: row bg [.int .u32 ((if i = 0 then (Fr.parse (D.read (first + size * which + i))).epoch else gen : Nat) : Int)] 27 :: disk b D :: L) := by
  have hfew := (hs.pick (A := disk b D) (by repeat (first | with_reducible exact Pick.here | with_reducible apply Pick.there))).disk_open.1.few
  have okD := (hs.pick (A := disk b D) (by repeat (first | with_reducible exact Pick.here | with_reducible apply Pick.there))).disk_open.1
  have hiI : ¬ (size : Int) ≤ (i : Int) := by omega
  have hadr : first + size * which + i < D.secs.length := by
    have : size * which ≤ size * 1 := Nat.mul_le_mul_left _ hwh
    omega
  have hlen := Dk.read_len okD hadr
  have hle := Box.mk (show first + 2 * size ≤ 1024 by omega)
  have hHadr := Box.mk hadr
  generalize hP : D.read (first + size * which + i) = P at hlen
  have HP := Box.mk hP
  have HL := Box.mk hlen
  clear hP hadr hlen okD
  obtain ⟨f, hf⟩ : ∃ f, Fr.parse P = f := ⟨_, rfl⟩
  obtain ⟨code, hcd⟩ : ∃ code, Fr.code P = code := ⟨_, rfl⟩
  have HFC := Box.mk (And.intro hf hcd)
  rw [hf, hcd]
  clear hf hcd
  obtain ⟨g, hg⟩ : ∃ g, (if i = 0 then f.epoch else gen) = g := ⟨_, rfl⟩
  rw [hg]
  have HG := Box.mk hg
  clear hg
  have hwi : IntKind.u32.wrap (i : Int) = (i : Int) := by rw [IntKind.wrap_u32]; omega
  have hww : IntKind.u32.wrap (which : Int) = (which : Int) := by rw [IntKind.wrap_u32]; omega
  have hw1 : IntKind.i64.wrap ((i : Int) + 1) = ((i + 1 : Nat) : Int) := by rw [IntKind.wrap_i64]; omega
  obtain ⟨r1, hr1, hrb⟩ := flag_bit f.flag 1
  have hr1' : (bits .and .u8 (f.flag.toNat : Int) 1 != 0) = r1 := hr1
  clear hr1
  have HRB := Box.mk hrb
  clear hrb
  have htm : (g : Int).tmod 2 = ((g % 2 : Nat) : Int) := by rw [Int.tmod_eq_emod_of_nonneg (by omega)]; push_cast; rfl
  by_cases hi0 : i = 0
  · have hz : ((i : Int) == 0) = true := by simp [hi0]
    have hge : f.epoch = g := by rw [← HG.out, if_pos hi0]
    have HGE : Box (f.epoch = g) := ⟨hge⟩
    have HI0 := Box.mk hi0
    clear hi0 hge
    by_cases c0 : code = 0
    · have e0 : ((code : Int) == 0) = true := by simp; omega
      have C0 := Box.mk c0
      clear c0
      by_cases c1 : g ≠ 0
      · have e1 : ((g : Int) != 0) = true := by simp; omega
        have C1 := Box.mk c1
        clear c1
        by_cases c2 : g % 2 = which
        · have e2 : (((g % 2 : Nat) : Int) == (which : Int)) = true := by simp; omega
          have e2b : ((g : Int) % 2 == (which : Int)) = true := by rw [← e2]; push_cast; rfl
          have C2 := Box.mk c2
          clear c2
          have C3 : Box (f.epoch = g) := HGE
          have e3 : ((f.epoch : Int) == (g : Int)) = true := by simp [C3.out]
          by_cases c4 : f.seq = i
          · have e4 : ((f.seq : Int) == (i : Int)) = true := by simp; omega
            have C4 := Box.mk c4
            clear c4
            cases r1
            · have HN : Box (slNext which i g f code = false) := ⟨by have c0 := C0.out; have c1 := C1.out; have c2 := C2.out; have c3 := C3.out; have c4 := C4.out; have hi0 := HI0.out; have hrb := HRB.out; simp [slNext, *]⟩
              go_enter Try.func70, Try.ntmps70
              go_wp2_with (first
                | (guard_target = wpList _ _ _ (⟨some 5, .alloc _, _, _, _, _⟩ :: _) _ _; refine wpl (o := ⟨some 5, .alloc _, _, _, _, _⟩) rfl fun K hK => ?_; go_must (refine op_alloc hs rfl _ zframe [.int .u32 0, .int .u32 0, .int .u8 0, .slice none 0 0] rfl fun b5 w1 h => hK _ _ ?_); clear hs hK K; have hs := h; clear h; try dsimp only [List.set] at hs)
                | (guard_target = wpList _ _ _ (⟨some 12, .load _ _, _, _, _, _⟩ :: _) _ _; refine wpl (o := ⟨some 12, .load _ _, _, _, _, _⟩) rfl fun K hK => op_load rfl (ad := ⟨bi, 0, none⟩) rfl (by kernel_rfl) (hs.cell m1 rfl) (hK _ _ ?_); clear hK K)
                | (guard_target = wpList _ _ _ (⟨some 14, .load _ _, _, _, _, _⟩ :: _) _ _; refine wpl (o := ⟨some 14, .load _ _, _, _, _, _⟩) rfl fun K hK => op_load rfl (ad := ⟨ba, 1, none⟩) rfl (by kernel_rfl) (hs.cell m2 rfl) (hK _ _ ?_); clear hK K))
              have cS : ∀ w M, Sat W w M → row bi [.int .i64 (i : Nat)] 3 ∈ M → row ba (areaC (first : Nat) (size : Nat)) 31 ∈ M → row bd [.pointer (some ⟨b, 0, none⟩)] 25 ∈ M → row bw [.int .i64 (which : Nat)] 3 ∈ M → rdS bi ba bd bw b (first : Nat) (size : Nat) which i w := fun w M h h1 h2 h3 h4 => ⟨h.cell h1 rfl, range_whole h h2, h.cell h3 rfl, h.cell h4 rfl⟩
              have d18 : ∀ w, rdS bi ba bd bw b (first : Nat) (size : Nat) which i w → w.cell? ⟨bd, 0, none⟩ = some (.pointer (some ⟨b, 0, none⟩)) := fun w h => h.2.2.1
              have d19 : ∀ w, rdS bi ba bd bw b (first : Nat) (size : Nat) which i w → w.rangeAt ba 0 (areaC (first : Nat) (size : Nat)) := fun w h => h.2.1
              have d20 : ∀ w, rdS bi ba bd bw b (first : Nat) (size : Nat) which i w → w.cell? ⟨bw, 0, none⟩ = some (.int .i64 (which : Nat)) := fun w h => h.2.2.2
              have d21 : ∀ w, rdS bi ba bd bw b (first : Nat) (size : Nat) which i w → w.cell? ⟨bi, 0, none⟩ = some (.int .i64 (i : Nat)) := fun w h => h.1
              have hS0 := cS _ _ hs.drew (by (try dsimp only [List.set]); repeat (first | with_reducible exact List.mem_cons_self | with_reducible apply List.mem_cons_of_mem)) (by (try dsimp only [List.set]); repeat (first | with_reducible exact List.mem_cons_self | with_reducible apply List.mem_cons_of_mem)) (by (try dsimp only [List.set]); repeat (first | with_reducible exact List.mem_cons_self | with_reducible apply List.mem_cons_of_mem)) (by (try dsimp only [List.set]); repeat (first | with_reducible exact List.mem_cons_self | with_reducible apply List.mem_cons_of_mem))
              refine wp_region_tree (rdS bi ba bd bw b (first : Nat) (size : Nat) which i) (.take 0 (.take 1 (.take 2 (.take 3 (.all [(4, .all [(5, .take 6 (.take 7 (.take 8 (.take 9 (.take 10 (DTree.done))))))])]))))) (by kernel_rfl) (by kernel_rfl) (by kernel_rfl) (fun _ _ d _ _ h => by cases d <;> exact h) hS0 ?_
              have hs' := hs.drew
              clear hs
              have hs := hs'
              clear hs'
              have hq := fun p : Prop => class_const hS0 p
              clear hS0
              repeat (first
                | (with_reducible refine tree_load (o := ⟨some 18, .load _ _, _, _, _, _⟩) rfl rfl rfl rfl rfl d18 ?_)
                | (with_reducible refine tree_load_agg (o := ⟨some 19, .load _ _, _, _, _, _⟩) (areaC (first : Nat) (size : Nat)) rfl rfl rfl rfl ?_ ?_ d19 ?_; (kernel_rfl); (kernel_rfl))
                | (with_reducible refine tree_load (o := ⟨some 20, .load _ _, _, _, _, _⟩) rfl rfl rfl rfl rfl d20 ?_)
                | (with_reducible refine tree_load (o := ⟨some 21, .load _ _, _, _, _, _⟩) rfl rfl rfl rfl rfl d21 ?_)
                | (refine tree_take rfl (fun K hK => ?_); go_simp; with_reducible refine hK _ ?_; clear hK K))
              refine tree_one_yes (o := _) rfl rfl (fun K hK => ?_) (cS _ _ hs (by (try dsimp only [List.set]); repeat (first | with_reducible exact List.mem_cons_self | with_reducible apply List.mem_cons_of_mem)) (by (try dsimp only [List.set]); repeat (first | with_reducible exact List.mem_cons_self | with_reducible apply List.mem_cons_of_mem)) (by (try dsimp only [List.set]); repeat (first | with_reducible exact List.mem_cons_self | with_reducible apply List.mem_cons_of_mem)) (by (try dsimp only [List.set]); repeat (first | with_reducible exact List.mem_cons_self | with_reducible apply List.mem_cons_of_mem)))
              try go_simp
              go_at_call 48
              refine (slat_spec W _ _ hs first size which i hle.out hwh (by omega)).mono ?_
              clear hs
              rintro e w5 ⟨rfl, hs⟩
              try go_simp
              refine hK _ _ (cS _ _ hs (by (try dsimp only [List.set]); repeat (first | with_reducible exact List.mem_cons_self | with_reducible apply List.mem_cons_of_mem)) (by (try dsimp only [List.set]); repeat (first | with_reducible exact List.mem_cons_self | with_reducible apply List.mem_cons_of_mem)) (by (try dsimp only [List.set]); repeat (first | with_reducible exact List.mem_cons_self | with_reducible apply List.mem_cons_of_mem)) (by (try dsimp only [List.set]); repeat (first | with_reducible exact List.mem_cons_self | with_reducible apply List.mem_cons_of_mem))) ?_
              clear hK K
              refine tree_one_yes (o := _) rfl rfl (fun K hK => ?_) (cS _ _ hs (by (try dsimp only [List.set]); repeat (first | with_reducible exact List.mem_cons_self | with_reducible apply List.mem_cons_of_mem)) (by (try dsimp only [List.set]); repeat (first | with_reducible exact List.mem_cons_self | with_reducible apply List.mem_cons_of_mem)) (by (try dsimp only [List.set]); repeat (first | with_reducible exact List.mem_cons_self | with_reducible apply List.mem_cons_of_mem)) (by (try dsimp only [List.set]); repeat (first | with_reducible exact List.mem_cons_self | with_reducible apply List.mem_cons_of_mem)))
              try go_simp
              go_at_call 35
              refine (read_spec W _ _ b D (hs.pick (A := disk b D) (by repeat (first | with_reducible exact Pick.here | with_reducible apply Pick.there))) (first + size * which + i) hHadr.out hr).mono ?_
              clear hs
              rintro e w5 ⟨bb, rfl, hs⟩
              rw [HP.out] at hs
              try go_simp
              refine hK _ _ (cS _ _ hs (by (try dsimp only [List.set]); repeat (first | with_reducible exact List.mem_cons_self | with_reducible apply List.mem_cons_of_mem)) (by (try dsimp only [List.set]); repeat (first | with_reducible exact List.mem_cons_self | with_reducible apply List.mem_cons_of_mem)) (by (try dsimp only [List.set]); repeat (first | with_reducible exact List.mem_cons_self | with_reducible apply List.mem_cons_of_mem)) (by (try dsimp only [List.set]); repeat (first | with_reducible exact List.mem_cons_self | with_reducible apply List.mem_cons_of_mem))) ?_
              clear hK K
              repeat (first
                | (with_reducible refine tree_load (o := ⟨some 18, .load _ _, _, _, _, _⟩) rfl rfl rfl rfl rfl d18 ?_)
                | (with_reducible refine tree_load_agg (o := ⟨some 19, .load _ _, _, _, _, _⟩) (areaC (first : Nat) (size : Nat)) rfl rfl rfl rfl ?_ ?_ d19 ?_; (kernel_rfl); (kernel_rfl))
                | (with_reducible refine tree_load (o := ⟨some 20, .load _ _, _, _, _, _⟩) rfl rfl rfl rfl rfl d20 ?_)
                | (with_reducible refine tree_load (o := ⟨some 21, .load _ _, _, _, _, _⟩) rfl rfl rfl rfl rfl d21 ?_)
                | (refine tree_take rfl (fun K hK => ?_); go_simp; with_reducible refine hK _ ?_; clear hK K))
              refine tree_done ?_
              clear hq cS d18 d19 d20 d21
              go_wp2_with (first
                | (go_at_call 71; go_must (refine (fparse_spec W _ _ hs _ P (lit_bytes (b := bb) (t := 111) 0 rfl 64 HL.out (by omega)) (by rw [HL.out]; omega)).mono ?_); clear hs; rintro e w1 ⟨vx, rfl, hs⟩; rw [HFC.out.1, HFC.out.2]; rw [HFC.out.1] at hs
                   obtain ⟨Ax, cx, rfl, _, _⟩ := slice_form (hs.bytes (bytesH_has 0 rfl)))
                | (guard_target = wpList _ _ _ (⟨some 9, .alloc _, _, _, _, _⟩ :: _) _ _; refine wpl (o := ⟨some 9, .alloc _, _, _, _, _⟩) rfl fun K hK => ?_; go_must (refine op_alloc hs rfl _ zframe [.int .u32 0, .int .u32 0, .int .u8 0, .slice none 0 0] rfl fun b9 w1 h => hK _ _ ?_); clear hs hK K; have hs := h; clear h; try dsimp only [List.set] at hs)
                | (guard_target = wpList _ _ _ (⟨none, .store _ (.tmp 9) _, _, _, _, _⟩ :: _) _ _; refine wpl (o := ⟨none, .store _ (.tmp 9) _, _, _, _, _⟩) rfl fun K hK => ?_; go_must (refine op_store_whole hs (b := b9) rfl rfl (frCells f (.slice Ax f.body.length cx)) rfl (by simp [frCells, Value.oneCell']) (by kernel_rfl) (k := 0) rfl rfl fun w9 h => hK _ _ ?_); clear hs hK K; have hs := h; clear h; dsimp only [List.set] at hs)
                | (guard_target = wpList _ _ _ (⟨some 31, .load _ _, _, _, _, _⟩ :: _) _ _; refine wpl (o := ⟨some 31, .load _ _, _, _, _, _⟩) rfl fun K hK => op_load rfl (ad := ⟨bi, 0, none⟩) rfl (by kernel_rfl) (hs.cell (l := [.int .i64 (i : Nat)]) (t := 3) (by (try dsimp only [List.set]); repeat (first | with_reducible exact List.mem_cons_self | with_reducible apply List.mem_cons_of_mem)) rfl) (hK _ _ ?_); clear hK K)
                | (guard_target = wpList _ _ _ (⟨some 34, .load _ _, _, _, _, _⟩ :: _) _ _; refine wpl (o := ⟨some 34, .load _ _, _, _, _, _⟩) rfl fun K hK => op_load rfl (ad := ⟨b9, 0, none⟩) rfl (by kernel_rfl) (hs.cell m0 rfl) (hK _ _ ?_); clear hK K)
                | (guard_target = wpList _ _ _ (⟨none, .store _ (.tmp 4) _, _, _, _, _⟩ :: _) _ _; refine wpl (o := ⟨none, .store _ (.tmp 4) _, _, _, _, _⟩) rfl fun K hK => ?_; go_must (refine op_store (hs.pick (A := row bg [.int .u32 (gen : Nat)] 27) (by repeat (first | with_reducible exact Pick.here | with_reducible apply Pick.there))) rfl (b := bg) (i := 0) (v := .int .u32 (f.epoch : Nat)) rfl rfl rfl (by kernel_rfl) (k := 0) rfl (by simp) fun w8 h => hK _ _ ?_); clear hs hK K; have hs := h; clear h; dsimp only [List.set] at hs; rw [HGE.out] at hs
                   have k38 : w8.cell? ⟨bg, 0, none⟩ = some (.int .u32 (g : Nat)) := hs.cell (l := [.int .u32 (g : Nat)]) (t := 27) (by (try dsimp only [List.set]); repeat (first | with_reducible exact List.mem_cons_self | with_reducible apply List.mem_cons_of_mem)) rfl
                   have k44 : w8.cell? ⟨bw, 0, none⟩ = some (.int .i64 (which : Nat)) := hs.cell (l := [.int .i64 (which : Nat)]) (t := 3) (by (try dsimp only [List.set]); repeat (first | with_reducible exact List.mem_cons_self | with_reducible apply List.mem_cons_of_mem)) rfl
                   have k50 : w8.cell? ⟨b9, 0, none⟩ = some (.int .u32 (f.epoch : Nat)) := hs.cell (l := (frCells f (.slice Ax f.body.length cx))) (t := 107) (by (try dsimp only [List.set]); repeat (first | with_reducible exact List.mem_cons_self | with_reducible apply List.mem_cons_of_mem)) rfl
                   have k56 : w8.cell? ⟨b9, 1, none⟩ = some (.int .u32 (f.seq : Nat)) := hs.cell (l := (frCells f (.slice Ax f.body.length cx))) (t := 107) (by (try dsimp only [List.set]); repeat (first | with_reducible exact List.mem_cons_self | with_reducible apply List.mem_cons_of_mem)) rfl
                   have k63 : w8.cell? ⟨b9, 2, none⟩ = some (.int .u8 f.flag.toNat) := hs.cell (l := (frCells f (.slice Ax f.body.length cx))) (t := 107) (by (try dsimp only [List.set]); repeat (first | with_reducible exact List.mem_cons_self | with_reducible apply List.mem_cons_of_mem)) rfl
                   have k66 : w8.cell? ⟨bi, 0, none⟩ = some (.int .i64 (i : Nat)) := hs.cell (l := [.int .i64 (i : Nat)]) (t := 3) (by (try dsimp only [List.set]); repeat (first | with_reducible exact List.mem_cons_self | with_reducible apply List.mem_cons_of_mem)) rfl)
                | (guard_target = wpList _ _ _ (⟨some 38, .load _ _, _, _, _, _⟩ :: _) _ _; refine wpl (o := ⟨some 38, .load _ _, _, _, _, _⟩) rfl fun K hK => op_load rfl (ad := ⟨bg, 0, none⟩) rfl (by kernel_rfl) k38 (hK _ _ ?_); clear hK K)
                | (guard_target = wpList _ _ _ (⟨some 42, .load _ _, _, _, _, _⟩ :: _) _ _; refine wpl (o := ⟨some 42, .load _ _, _, _, _, _⟩) rfl fun K hK => op_load rfl (ad := ⟨bg, 0, none⟩) rfl (by kernel_rfl) k38 (hK _ _ ?_); clear hK K)
                | (guard_target = wpList _ _ _ (⟨some 44, .load _ _, _, _, _, _⟩ :: _) _ _; refine wpl (o := ⟨some 44, .load _ _, _, _, _, _⟩) rfl fun K hK => op_load rfl (ad := ⟨bw, 0, none⟩) rfl (by kernel_rfl) k44 (hK _ _ ?_); clear hK K)
                | (guard_target = wpList _ _ _ (⟨some 50, .load _ _, _, _, _, _⟩ :: _) _ _; refine wpl (o := ⟨some 50, .load _ _, _, _, _, _⟩) rfl fun K hK => op_load rfl (ad := ⟨b9, 0, none⟩) rfl (by kernel_rfl) k50 (hK _ _ ?_); clear hK K)
                | (guard_target = wpList _ _ _ (⟨some 51, .load _ _, _, _, _, _⟩ :: _) _ _; refine wpl (o := ⟨some 51, .load _ _, _, _, _, _⟩) rfl fun K hK => op_load rfl (ad := ⟨bg, 0, none⟩) rfl (by kernel_rfl) k38 (hK _ _ ?_); clear hK K)
                | (guard_target = wpList _ _ _ (⟨some 56, .load _ _, _, _, _, _⟩ :: _) _ _; refine wpl (o := ⟨some 56, .load _ _, _, _, _, _⟩) rfl fun K hK => op_load rfl (ad := ⟨b9, 1, none⟩) rfl (by kernel_rfl) k56 (hK _ _ ?_); clear hK K)
                | (guard_target = wpList _ _ _ (⟨some 57, .load _ _, _, _, _, _⟩ :: _) _ _; refine wpl (o := ⟨some 57, .load _ _, _, _, _, _⟩) rfl fun K hK => op_load rfl (ad := ⟨bi, 0, none⟩) rfl (by kernel_rfl) k66 (hK _ _ ?_); clear hK K)
                | (guard_target = wpList _ _ _ (⟨some 63, .load _ _, _, _, _, _⟩ :: _) _ _; refine wpl (o := ⟨some 63, .load _ _, _, _, _, _⟩) rfl fun K hK => op_load rfl (ad := ⟨b9, 2, none⟩) rfl (by kernel_rfl) k63 (hK _ _ ?_); clear hK K)
                | (guard_target = wpList _ _ _ (⟨some 66, .load _ _, _, _, _, _⟩ :: _) _ _; refine wpl (o := ⟨some 66, .load _ _, _, _, _, _⟩) rfl fun K hK => op_load rfl (ad := ⟨bi, 0, none⟩) rfl (by kernel_rfl) k66 (hK _ _ ?_); clear hK K)
                | (guard_target = wpList _ _ _ (⟨some 70, .load _ _, _, _, _, _⟩ :: _) _ _; refine wpl (o := ⟨some 70, .load _ _, _, _, _, _⟩) rfl fun K hK => op_load rfl (ad := ⟨bi, 0, none⟩) rfl (by kernel_rfl) k66 (hK _ _ ?_); clear hK K)
                | (guard_target = wpList _ _ _ (⟨none, .store _ (.tmp 0) _, _, _, _, _⟩ :: _) _ _; refine wpl (o := ⟨none, .store _ (.tmp 0) _, _, _, _, _⟩) rfl fun K hK => ?_; go_must (refine op_store (hs.pick (A := row bi [.int .i64 (i : Nat)] 3) (by repeat (first | with_reducible exact Pick.here | with_reducible apply Pick.there))) rfl (b := bi) (i := 0) (v := .int .i64 (((i + 1 : Nat) : Int))) rfl rfl rfl (by kernel_rfl) (k := 0) rfl (by simp) fun w5 h => hK _ _ ?_); clear hs hK K; have hs := h; clear h; try dsimp only [List.set] at hs)
                | (guard_target = wpList _ _ _ (⟨some 72, .load _ _, _, _, _, _⟩ :: _) _ _; refine wpl (o := ⟨some 72, .load _ _, _, _, _, _⟩) rfl fun K hK => op_load_agg rfl (b := b9) (i := 0) rfl (frCells f (.slice Ax f.body.length cx)) (range_whole hs (by (try dsimp only [List.set]); repeat (first | with_reducible exact List.mem_cons_self | with_reducible apply List.mem_cons_of_mem))) (by kernel_rfl) (by kernel_rfl) (hK _ _ ?_); clear hK K)
                | (guard_target = wpList _ _ _ (⟨none, .store _ (.tmp 5) _, _, _, _, _⟩ :: _) _ _; refine wpl (o := ⟨none, .store _ (.tmp 5) _, _, _, _, _⟩) rfl fun K hK => ?_; go_must (refine op_store_whole (hs.pick (A := row b5 [.int .u32 0, .int .u32 0, .int .u8 0, .slice none 0 0] 107) (by repeat (first | with_reducible exact Pick.here | with_reducible apply Pick.there))) (b := b5) rfl rfl (frCells f (.slice Ax f.body.length cx)) rfl (by simp [frCells, Value.oneCell']) (by kernel_rfl) (k := 0) rfl rfl fun w3 h => hK _ _ ?_); clear hs hK K; have hs := h; clear h; try dsimp only [List.set] at hs))
              refine bodyPost_ret (run_results_cell_tmp' rfl (b := b5) rfl _ (range_whole hs m0) (by kernel_rfl) (by kernel_rfl)) rfl ?_
              refine ⟨.slice Ax f.body.length cx, by rw [HN.out]; rfl, ?_⟩
              exact hs.pack (by repeat (first | with_reducible exact Pack.refl | with_reducible exact Pack.nil | with_reducible refine Pack.cons (by repeat (first | with_reducible exact Pick.here | with_reducible apply Pick.there)) ?_ | with_reducible apply Pack.drop))
            · have HN : Box (slNext which i g f code = true) := ⟨by have c0 := C0.out; have c1 := C1.out; have c2 := C2.out; have c3 := C3.out; have c4 := C4.out; have hi0 := HI0.out; have hrb := HRB.out; simp [slNext, *]⟩
              go_enter Try.func70, Try.ntmps70
              go_wp2_with (first
                | (guard_target = wpList _ _ _ (⟨some 5, .alloc _, _, _, _, _⟩ :: _) _ _; refine wpl (o := ⟨some 5, .alloc _, _, _, _, _⟩) rfl fun K hK => ?_; go_must (refine op_alloc hs rfl _ zframe [.int .u32 0, .int .u32 0, .int .u8 0, .slice none 0 0] rfl fun b5 w1 h => hK _ _ ?_); clear hs hK K; have hs := h; clear h; try dsimp only [List.set] at hs)
                | (guard_target = wpList _ _ _ (⟨some 12, .load _ _, _, _, _, _⟩ :: _) _ _; refine wpl (o := ⟨some 12, .load _ _, _, _, _, _⟩) rfl fun K hK => op_load rfl (ad := ⟨bi, 0, none⟩) rfl (by kernel_rfl) (hs.cell m1 rfl) (hK _ _ ?_); clear hK K)
                | (guard_target = wpList _ _ _ (⟨some 14, .load _ _, _, _, _, _⟩ :: _) _ _; refine wpl (o := ⟨some 14, .load _ _, _, _, _, _⟩) rfl fun K hK => op_load rfl (ad := ⟨ba, 1, none⟩) rfl (by kernel_rfl) (hs.cell m2 rfl) (hK _ _ ?_); clear hK K))
              have cS : ∀ w M, Sat W w M → row bi [.int .i64 (i : Nat)] 3 ∈ M → row ba (areaC (first : Nat) (size : Nat)) 31 ∈ M → row bd [.pointer (some ⟨b, 0, none⟩)] 25 ∈ M → row bw [.int .i64 (which : Nat)] 3 ∈ M → rdS bi ba bd bw b (first : Nat) (size : Nat) which i w := fun w M h h1 h2 h3 h4 => ⟨h.cell h1 rfl, range_whole h h2, h.cell h3 rfl, h.cell h4 rfl⟩
              have d18 : ∀ w, rdS bi ba bd bw b (first : Nat) (size : Nat) which i w → w.cell? ⟨bd, 0, none⟩ = some (.pointer (some ⟨b, 0, none⟩)) := fun w h => h.2.2.1
              have d19 : ∀ w, rdS bi ba bd bw b (first : Nat) (size : Nat) which i w → w.rangeAt ba 0 (areaC (first : Nat) (size : Nat)) := fun w h => h.2.1
              have d20 : ∀ w, rdS bi ba bd bw b (first : Nat) (size : Nat) which i w → w.cell? ⟨bw, 0, none⟩ = some (.int .i64 (which : Nat)) := fun w h => h.2.2.2
              have d21 : ∀ w, rdS bi ba bd bw b (first : Nat) (size : Nat) which i w → w.cell? ⟨bi, 0, none⟩ = some (.int .i64 (i : Nat)) := fun w h => h.1
              have hS0 := cS _ _ hs.drew (by (try dsimp only [List.set]); repeat (first | with_reducible exact List.mem_cons_self | with_reducible apply List.mem_cons_of_mem)) (by (try dsimp only [List.set]); repeat (first | with_reducible exact List.mem_cons_self | with_reducible apply List.mem_cons_of_mem)) (by (try dsimp only [List.set]); repeat (first | with_reducible exact List.mem_cons_self | with_reducible apply List.mem_cons_of_mem)) (by (try dsimp only [List.set]); repeat (first | with_reducible exact List.mem_cons_self | with_reducible apply List.mem_cons_of_mem))
              refine wp_region_tree (rdS bi ba bd bw b (first : Nat) (size : Nat) which i) (.take 0 (.take 1 (.take 2 (.take 3 (.all [(4, .all [(5, .take 6 (.take 7 (.take 8 (.take 9 (.take 10 (DTree.done))))))])]))))) (by kernel_rfl) (by kernel_rfl) (by kernel_rfl) (fun _ _ d _ _ h => by cases d <;> exact h) hS0 ?_
              have hs' := hs.drew
              clear hs
              have hs := hs'
              clear hs'
              have hq := fun p : Prop => class_const hS0 p
              clear hS0
              repeat (first
                | (with_reducible refine tree_load (o := ⟨some 18, .load _ _, _, _, _, _⟩) rfl rfl rfl rfl rfl d18 ?_)
                | (with_reducible refine tree_load_agg (o := ⟨some 19, .load _ _, _, _, _, _⟩) (areaC (first : Nat) (size : Nat)) rfl rfl rfl rfl ?_ ?_ d19 ?_; (kernel_rfl); (kernel_rfl))
                | (with_reducible refine tree_load (o := ⟨some 20, .load _ _, _, _, _, _⟩) rfl rfl rfl rfl rfl d20 ?_)
                | (with_reducible refine tree_load (o := ⟨some 21, .load _ _, _, _, _, _⟩) rfl rfl rfl rfl rfl d21 ?_)
                | (refine tree_take rfl (fun K hK => ?_); go_simp; with_reducible refine hK _ ?_; clear hK K))
              refine tree_one_yes (o := _) rfl rfl (fun K hK => ?_) (cS _ _ hs (by (try dsimp only [List.set]); repeat (first | with_reducible exact List.mem_cons_self | with_reducible apply List.mem_cons_of_mem)) (by (try dsimp only [List.set]); repeat (first | with_reducible exact List.mem_cons_self | with_reducible apply List.mem_cons_of_mem)) (by (try dsimp only [List.set]); repeat (first | with_reducible exact List.mem_cons_self | with_reducible apply List.mem_cons_of_mem)) (by (try dsimp only [List.set]); repeat (first | with_reducible exact List.mem_cons_self | with_reducible apply List.mem_cons_of_mem)))
              try go_simp
              go_at_call 48
              refine (slat_spec W _ _ hs first size which i hle.out hwh (by omega)).mono ?_
              clear hs
              rintro e w5 ⟨rfl, hs⟩
              try go_simp
              refine hK _ _ (cS _ _ hs (by (try dsimp only [List.set]); repeat (first | with_reducible exact List.mem_cons_self | with_reducible apply List.mem_cons_of_mem)) (by (try dsimp only [List.set]); repeat (first | with_reducible exact List.mem_cons_self | with_reducible apply List.mem_cons_of_mem)) (by (try dsimp only [List.set]); repeat (first | with_reducible exact List.mem_cons_self | with_reducible apply List.mem_cons_of_mem)) (by (try dsimp only [List.set]); repeat (first | with_reducible exact List.mem_cons_self | with_reducible apply List.mem_cons_of_mem))) ?_
              clear hK K
              refine tree_one_yes (o := _) rfl rfl (fun K hK => ?_) (cS _ _ hs (by (try dsimp only [List.set]); repeat (first | with_reducible exact List.mem_cons_self | with_reducible apply List.mem_cons_of_mem)) (by (try dsimp only [List.set]); repeat (first | with_reducible exact List.mem_cons_self | with_reducible apply List.mem_cons_of_mem)) (by (try dsimp only [List.set]); repeat (first | with_reducible exact List.mem_cons_self | with_reducible apply List.mem_cons_of_mem)) (by (try dsimp only [List.set]); repeat (first | with_reducible exact List.mem_cons_self | with_reducible apply List.mem_cons_of_mem)))
              try go_simp
              go_at_call 35
              refine (read_spec W _ _ b D (hs.pick (A := disk b D) (by repeat (first | with_reducible exact Pick.here | with_reducible apply Pick.there))) (first + size * which + i) hHadr.out hr).mono ?_
              clear hs
              rintro e w5 ⟨bb, rfl, hs⟩
              rw [HP.out] at hs
              try go_simp
              refine hK _ _ (cS _ _ hs (by (try dsimp only [List.set]); repeat (first | with_reducible exact List.mem_cons_self | with_reducible apply List.mem_cons_of_mem)) (by (try dsimp only [List.set]); repeat (first | with_reducible exact List.mem_cons_self | with_reducible apply List.mem_cons_of_mem)) (by (try dsimp only [List.set]); repeat (first | with_reducible exact List.mem_cons_self | with_reducible apply List.mem_cons_of_mem)) (by (try dsimp only [List.set]); repeat (first | with_reducible exact List.mem_cons_self | with_reducible apply List.mem_cons_of_mem))) ?_
              clear hK K
              repeat (first
                | (with_reducible refine tree_load (o := ⟨some 18, .load _ _, _, _, _, _⟩) rfl rfl rfl rfl rfl d18 ?_)
                | (with_reducible refine tree_load_agg (o := ⟨some 19, .load _ _, _, _, _, _⟩) (areaC (first : Nat) (size : Nat)) rfl rfl rfl rfl ?_ ?_ d19 ?_; (kernel_rfl); (kernel_rfl))
                | (with_reducible refine tree_load (o := ⟨some 20, .load _ _, _, _, _, _⟩) rfl rfl rfl rfl rfl d20 ?_)
                | (with_reducible refine tree_load (o := ⟨some 21, .load _ _, _, _, _, _⟩) rfl rfl rfl rfl rfl d21 ?_)
                | (refine tree_take rfl (fun K hK => ?_); go_simp; with_reducible refine hK _ ?_; clear hK K))
              refine tree_done ?_
              clear hq cS d18 d19 d20 d21
              go_wp2_with (first
                | (go_at_call 71; go_must (refine (fparse_spec W _ _ hs _ P (lit_bytes (b := bb) (t := 111) 0 rfl 64 HL.out (by omega)) (by rw [HL.out]; omega)).mono ?_); clear hs; rintro e w1 ⟨vx, rfl, hs⟩; rw [HFC.out.1, HFC.out.2]; rw [HFC.out.1] at hs
                   obtain ⟨Ax, cx, rfl, _, _⟩ := slice_form (hs.bytes (bytesH_has 0 rfl)))
                | (guard_target = wpList _ _ _ (⟨some 9, .alloc _, _, _, _, _⟩ :: _) _ _; refine wpl (o := ⟨some 9, .alloc _, _, _, _, _⟩) rfl fun K hK => ?_; go_must (refine op_alloc hs rfl _ zframe [.int .u32 0, .int .u32 0, .int .u8 0, .slice none 0 0] rfl fun b9 w1 h => hK _ _ ?_); clear hs hK K; have hs := h; clear h; try dsimp only [List.set] at hs)
                | (guard_target = wpList _ _ _ (⟨none, .store _ (.tmp 9) _, _, _, _, _⟩ :: _) _ _; refine wpl (o := ⟨none, .store _ (.tmp 9) _, _, _, _, _⟩) rfl fun K hK => ?_; go_must (refine op_store_whole hs (b := b9) rfl rfl (frCells f (.slice Ax f.body.length cx)) rfl (by simp [frCells, Value.oneCell']) (by kernel_rfl) (k := 0) rfl rfl fun w9 h => hK _ _ ?_); clear hs hK K; have hs := h; clear h; dsimp only [List.set] at hs)
                | (guard_target = wpList _ _ _ (⟨some 31, .load _ _, _, _, _, _⟩ :: _) _ _; refine wpl (o := ⟨some 31, .load _ _, _, _, _, _⟩) rfl fun K hK => op_load rfl (ad := ⟨bi, 0, none⟩) rfl (by kernel_rfl) (hs.cell (l := [.int .i64 (i : Nat)]) (t := 3) (by (try dsimp only [List.set]); repeat (first | with_reducible exact List.mem_cons_self | with_reducible apply List.mem_cons_of_mem)) rfl) (hK _ _ ?_); clear hK K)
                | (guard_target = wpList _ _ _ (⟨some 34, .load _ _, _, _, _, _⟩ :: _) _ _; refine wpl (o := ⟨some 34, .load _ _, _, _, _, _⟩) rfl fun K hK => op_load rfl (ad := ⟨b9, 0, none⟩) rfl (by kernel_rfl) (hs.cell m0 rfl) (hK _ _ ?_); clear hK K)
                | (guard_target = wpList _ _ _ (⟨none, .store _ (.tmp 4) _, _, _, _, _⟩ :: _) _ _; refine wpl (o := ⟨none, .store _ (.tmp 4) _, _, _, _, _⟩) rfl fun K hK => ?_; go_must (refine op_store (hs.pick (A := row bg [.int .u32 (gen : Nat)] 27) (by repeat (first | with_reducible exact Pick.here | with_reducible apply Pick.there))) rfl (b := bg) (i := 0) (v := .int .u32 (f.epoch : Nat)) rfl rfl rfl (by kernel_rfl) (k := 0) rfl (by simp) fun w8 h => hK _ _ ?_); clear hs hK K; have hs := h; clear h; dsimp only [List.set] at hs; rw [HGE.out] at hs
                   have k38 : w8.cell? ⟨bg, 0, none⟩ = some (.int .u32 (g : Nat)) := hs.cell (l := [.int .u32 (g : Nat)]) (t := 27) (by (try dsimp only [List.set]); repeat (first | with_reducible exact List.mem_cons_self | with_reducible apply List.mem_cons_of_mem)) rfl
                   have k44 : w8.cell? ⟨bw, 0, none⟩ = some (.int .i64 (which : Nat)) := hs.cell (l := [.int .i64 (which : Nat)]) (t := 3) (by (try dsimp only [List.set]); repeat (first | with_reducible exact List.mem_cons_self | with_reducible apply List.mem_cons_of_mem)) rfl
                   have k50 : w8.cell? ⟨b9, 0, none⟩ = some (.int .u32 (f.epoch : Nat)) := hs.cell (l := (frCells f (.slice Ax f.body.length cx))) (t := 107) (by (try dsimp only [List.set]); repeat (first | with_reducible exact List.mem_cons_self | with_reducible apply List.mem_cons_of_mem)) rfl
                   have k56 : w8.cell? ⟨b9, 1, none⟩ = some (.int .u32 (f.seq : Nat)) := hs.cell (l := (frCells f (.slice Ax f.body.length cx))) (t := 107) (by (try dsimp only [List.set]); repeat (first | with_reducible exact List.mem_cons_self | with_reducible apply List.mem_cons_of_mem)) rfl
                   have k63 : w8.cell? ⟨b9, 2, none⟩ = some (.int .u8 f.flag.toNat) := hs.cell (l := (frCells f (.slice Ax f.body.length cx))) (t := 107) (by (try dsimp only [List.set]); repeat (first | with_reducible exact List.mem_cons_self | with_reducible apply List.mem_cons_of_mem)) rfl
                   have k66 : w8.cell? ⟨bi, 0, none⟩ = some (.int .i64 (i : Nat)) := hs.cell (l := [.int .i64 (i : Nat)]) (t := 3) (by (try dsimp only [List.set]); repeat (first | with_reducible exact List.mem_cons_self | with_reducible apply List.mem_cons_of_mem)) rfl)
                | (guard_target = wpList _ _ _ (⟨some 38, .load _ _, _, _, _, _⟩ :: _) _ _; refine wpl (o := ⟨some 38, .load _ _, _, _, _, _⟩) rfl fun K hK => op_load rfl (ad := ⟨bg, 0, none⟩) rfl (by kernel_rfl) k38 (hK _ _ ?_); clear hK K)
                | (guard_target = wpList _ _ _ (⟨some 42, .load _ _, _, _, _, _⟩ :: _) _ _; refine wpl (o := ⟨some 42, .load _ _, _, _, _, _⟩) rfl fun K hK => op_load rfl (ad := ⟨bg, 0, none⟩) rfl (by kernel_rfl) k38 (hK _ _ ?_); clear hK K)
                | (guard_target = wpList _ _ _ (⟨some 44, .load _ _, _, _, _, _⟩ :: _) _ _; refine wpl (o := ⟨some 44, .load _ _, _, _, _, _⟩) rfl fun K hK => op_load rfl (ad := ⟨bw, 0, none⟩) rfl (by kernel_rfl) k44 (hK _ _ ?_); clear hK K)
                | (guard_target = wpList _ _ _ (⟨some 50, .load _ _, _, _, _, _⟩ :: _) _ _; refine wpl (o := ⟨some 50, .load _ _, _, _, _, _⟩) rfl fun K hK => op_load rfl (ad := ⟨b9, 0, none⟩) rfl (by kernel_rfl) k50 (hK _ _ ?_); clear hK K)
                | (guard_target = wpList _ _ _ (⟨some 51, .load _ _, _, _, _, _⟩ :: _) _ _; refine wpl (o := ⟨some 51, .load _ _, _, _, _, _⟩) rfl fun K hK => op_load rfl (ad := ⟨bg, 0, none⟩) rfl (by kernel_rfl) k38 (hK _ _ ?_); clear hK K)
                | (guard_target = wpList _ _ _ (⟨some 56, .load _ _, _, _, _, _⟩ :: _) _ _; refine wpl (o := ⟨some 56, .load _ _, _, _, _, _⟩) rfl fun K hK => op_load rfl (ad := ⟨b9, 1, none⟩) rfl (by kernel_rfl) k56 (hK _ _ ?_); clear hK K)
                | (guard_target = wpList _ _ _ (⟨some 57, .load _ _, _, _, _, _⟩ :: _) _ _; refine wpl (o := ⟨some 57, .load _ _, _, _, _, _⟩) rfl fun K hK => op_load rfl (ad := ⟨bi, 0, none⟩) rfl (by kernel_rfl) k66 (hK _ _ ?_); clear hK K)
                | (guard_target = wpList _ _ _ (⟨some 63, .load _ _, _, _, _, _⟩ :: _) _ _; refine wpl (o := ⟨some 63, .load _ _, _, _, _, _⟩) rfl fun K hK => op_load rfl (ad := ⟨b9, 2, none⟩) rfl (by kernel_rfl) k63 (hK _ _ ?_); clear hK K)
                | (guard_target = wpList _ _ _ (⟨some 66, .load _ _, _, _, _, _⟩ :: _) _ _; refine wpl (o := ⟨some 66, .load _ _, _, _, _, _⟩) rfl fun K hK => op_load rfl (ad := ⟨bi, 0, none⟩) rfl (by kernel_rfl) k66 (hK _ _ ?_); clear hK K)
                | (guard_target = wpList _ _ _ (⟨some 70, .load _ _, _, _, _, _⟩ :: _) _ _; refine wpl (o := ⟨some 70, .load _ _, _, _, _, _⟩) rfl fun K hK => op_load rfl (ad := ⟨bi, 0, none⟩) rfl (by kernel_rfl) k66 (hK _ _ ?_); clear hK K)
                | (guard_target = wpList _ _ _ (⟨none, .store _ (.tmp 0) _, _, _, _, _⟩ :: _) _ _; refine wpl (o := ⟨none, .store _ (.tmp 0) _, _, _, _, _⟩) rfl fun K hK => ?_; go_must (refine op_store (hs.pick (A := row bi [.int .i64 (i : Nat)] 3) (by repeat (first | with_reducible exact Pick.here | with_reducible apply Pick.there))) rfl (b := bi) (i := 0) (v := .int .i64 (((i + 1 : Nat) : Int))) rfl rfl rfl (by kernel_rfl) (k := 0) rfl (by simp) fun w5 h => hK _ _ ?_); clear hs hK K; have hs := h; clear h; try dsimp only [List.set] at hs)
                | (guard_target = wpList _ _ _ (⟨some 72, .load _ _, _, _, _, _⟩ :: _) _ _; refine wpl (o := ⟨some 72, .load _ _, _, _, _, _⟩) rfl fun K hK => op_load_agg rfl (b := b9) (i := 0) rfl (frCells f (.slice Ax f.body.length cx)) (range_whole hs (by (try dsimp only [List.set]); repeat (first | with_reducible exact List.mem_cons_self | with_reducible apply List.mem_cons_of_mem))) (by kernel_rfl) (by kernel_rfl) (hK _ _ ?_); clear hK K)
                | (guard_target = wpList _ _ _ (⟨none, .store _ (.tmp 5) _, _, _, _, _⟩ :: _) _ _; refine wpl (o := ⟨none, .store _ (.tmp 5) _, _, _, _, _⟩) rfl fun K hK => ?_; go_must (refine op_store_whole (hs.pick (A := row b5 [.int .u32 0, .int .u32 0, .int .u8 0, .slice none 0 0] 107) (by repeat (first | with_reducible exact Pick.here | with_reducible apply Pick.there))) (b := b5) rfl rfl (frCells f (.slice Ax f.body.length cx)) rfl (by simp [frCells, Value.oneCell']) (by kernel_rfl) (k := 0) rfl rfl fun w3 h => hK _ _ ?_); clear hs hK K; have hs := h; clear h; try dsimp only [List.set] at hs))
              refine bodyPost_ret (run_results_cell_tmp' rfl (b := b5) rfl _ (range_whole hs m0) (by kernel_rfl) (by kernel_rfl)) rfl ?_
              refine ⟨.slice Ax f.body.length cx, by rw [HN.out]; rfl, ?_⟩
              exact hs.pack (by repeat (first | with_reducible exact Pack.refl | with_reducible exact Pack.nil | with_reducible refine Pack.cons (by repeat (first | with_reducible exact Pick.here | with_reducible apply Pick.there)) ?_ | with_reducible apply Pack.drop))
          · have e4 : ((f.seq : Int) == (i : Int)) = false := by simp; omega
            have HN : Box (slNext which i g f code = false) := ⟨by have c0 := C0.out; have c1 := C1.out; have c2 := C2.out; have c3 := C3.out; have hi0 := HI0.out; have hrb := HRB.out; (try rw [hi0] at c4); simp [slNext, *]⟩
            clear c4
            go_enter Try.func70, Try.ntmps70
            go_wp2_with (first
              | (guard_target = wpList _ _ _ (⟨some 5, .alloc _, _, _, _, _⟩ :: _) _ _; refine wpl (o := ⟨some 5, .alloc _, _, _, _, _⟩) rfl fun K hK => ?_; go_must (refine op_alloc hs rfl _ zframe [.int .u32 0, .int .u32 0, .int .u8 0, .slice none 0 0] rfl fun b5 w1 h => hK _ _ ?_); clear hs hK K; have hs := h; clear h; try dsimp only [List.set] at hs)
              | (guard_target = wpList _ _ _ (⟨some 12, .load _ _, _, _, _, _⟩ :: _) _ _; refine wpl (o := ⟨some 12, .load _ _, _, _, _, _⟩) rfl fun K hK => op_load rfl (ad := ⟨bi, 0, none⟩) rfl (by kernel_rfl) (hs.cell m1 rfl) (hK _ _ ?_); clear hK K)
              | (guard_target = wpList _ _ _ (⟨some 14, .load _ _, _, _, _, _⟩ :: _) _ _; refine wpl (o := ⟨some 14, .load _ _, _, _, _, _⟩) rfl fun K hK => op_load rfl (ad := ⟨ba, 1, none⟩) rfl (by kernel_rfl) (hs.cell m2 rfl) (hK _ _ ?_); clear hK K))
            have cS : ∀ w M, Sat W w M → row bi [.int .i64 (i : Nat)] 3 ∈ M → row ba (areaC (first : Nat) (size : Nat)) 31 ∈ M → row bd [.pointer (some ⟨b, 0, none⟩)] 25 ∈ M → row bw [.int .i64 (which : Nat)] 3 ∈ M → rdS bi ba bd bw b (first : Nat) (size : Nat) which i w := fun w M h h1 h2 h3 h4 => ⟨h.cell h1 rfl, range_whole h h2, h.cell h3 rfl, h.cell h4 rfl⟩
            have d18 : ∀ w, rdS bi ba bd bw b (first : Nat) (size : Nat) which i w → w.cell? ⟨bd, 0, none⟩ = some (.pointer (some ⟨b, 0, none⟩)) := fun w h => h.2.2.1
            have d19 : ∀ w, rdS bi ba bd bw b (first : Nat) (size : Nat) which i w → w.rangeAt ba 0 (areaC (first : Nat) (size : Nat)) := fun w h => h.2.1
            have d20 : ∀ w, rdS bi ba bd bw b (first : Nat) (size : Nat) which i w → w.cell? ⟨bw, 0, none⟩ = some (.int .i64 (which : Nat)) := fun w h => h.2.2.2
            have d21 : ∀ w, rdS bi ba bd bw b (first : Nat) (size : Nat) which i w → w.cell? ⟨bi, 0, none⟩ = some (.int .i64 (i : Nat)) := fun w h => h.1
            have hS0 := cS _ _ hs.drew (by (try dsimp only [List.set]); repeat (first | with_reducible exact List.mem_cons_self | with_reducible apply List.mem_cons_of_mem)) (by (try dsimp only [List.set]); repeat (first | with_reducible exact List.mem_cons_self | with_reducible apply List.mem_cons_of_mem)) (by (try dsimp only [List.set]); repeat (first | with_reducible exact List.mem_cons_self | with_reducible apply List.mem_cons_of_mem)) (by (try dsimp only [List.set]); repeat (first | with_reducible exact List.mem_cons_self | with_reducible apply List.mem_cons_of_mem))
            refine wp_region_tree (rdS bi ba bd bw b (first : Nat) (size : Nat) which i) (.take 0 (.take 1 (.take 2 (.take 3 (.all [(4, .all [(5, .take 6 (.take 7 (.take 8 (.take 9 (.take 10 (DTree.done))))))])]))))) (by kernel_rfl) (by kernel_rfl) (by kernel_rfl) (fun _ _ d _ _ h => by cases d <;> exact h) hS0 ?_
            have hs' := hs.drew
            clear hs
            have hs := hs'
            clear hs'
            have hq := fun p : Prop => class_const hS0 p
            clear hS0
            repeat (first
              | (with_reducible refine tree_load (o := ⟨some 18, .load _ _, _, _, _, _⟩) rfl rfl rfl rfl rfl d18 ?_)
              | (with_reducible refine tree_load_agg (o := ⟨some 19, .load _ _, _, _, _, _⟩) (areaC (first : Nat) (size : Nat)) rfl rfl rfl rfl ?_ ?_ d19 ?_; (kernel_rfl); (kernel_rfl))
              | (with_reducible refine tree_load (o := ⟨some 20, .load _ _, _, _, _, _⟩) rfl rfl rfl rfl rfl d20 ?_)
              | (with_reducible refine tree_load (o := ⟨some 21, .load _ _, _, _, _, _⟩) rfl rfl rfl rfl rfl d21 ?_)
              | (refine tree_take rfl (fun K hK => ?_); go_simp; with_reducible refine hK _ ?_; clear hK K))
            refine tree_one_yes (o := _) rfl rfl (fun K hK => ?_) (cS _ _ hs (by (try dsimp only [List.set]); repeat (first | with_reducible exact List.mem_cons_self | with_reducible apply List.mem_cons_of_mem)) (by (try dsimp only [List.set]); repeat (first | with_reducible exact List.mem_cons_self | with_reducible apply List.mem_cons_of_mem)) (by (try dsimp only [List.set]); repeat (first | with_reducible exact List.mem_cons_self | with_reducible apply List.mem_cons_of_mem)) (by (try dsimp only [List.set]); repeat (first | with_reducible exact List.mem_cons_self | with_reducible apply List.mem_cons_of_mem)))
            try go_simp
            go_at_call 48
            refine (slat_spec W _ _ hs first size which i hle.out hwh (by omega)).mono ?_
            clear hs
            rintro e w5 ⟨rfl, hs⟩
            try go_simp
            refine hK _ _ (cS _ _ hs (by (try dsimp only [List.set]); repeat (first | with_reducible exact List.mem_cons_self | with_reducible apply List.mem_cons_of_mem)) (by (try dsimp only [List.set]); repeat (first | with_reducible exact List.mem_cons_self | with_reducible apply List.mem_cons_of_mem)) (by (try dsimp only [List.set]); repeat (first | with_reducible exact List.mem_cons_self | with_reducible apply List.mem_cons_of_mem)) (by (try dsimp only [List.set]); repeat (first | with_reducible exact List.mem_cons_self | with_reducible apply List.mem_cons_of_mem))) ?_
            clear hK K
            refine tree_one_yes (o := _) rfl rfl (fun K hK => ?_) (cS _ _ hs (by (try dsimp only [List.set]); repeat (first | with_reducible exact List.mem_cons_self | with_reducible apply List.mem_cons_of_mem)) (by (try dsimp only [List.set]); repeat (first | with_reducible exact List.mem_cons_self | with_reducible apply List.mem_cons_of_mem)) (by (try dsimp only [List.set]); repeat (first | with_reducible exact List.mem_cons_self | with_reducible apply List.mem_cons_of_mem)) (by (try dsimp only [List.set]); repeat (first | with_reducible exact List.mem_cons_self | with_reducible apply List.mem_cons_of_mem)))
            try go_simp
            go_at_call 35
            refine (read_spec W _ _ b D (hs.pick (A := disk b D) (by repeat (first | with_reducible exact Pick.here | with_reducible apply Pick.there))) (first + size * which + i) hHadr.out hr).mono ?_
            clear hs
            rintro e w5 ⟨bb, rfl, hs⟩
            rw [HP.out] at hs
            try go_simp
            refine hK _ _ (cS _ _ hs (by (try dsimp only [List.set]); repeat (first | with_reducible exact List.mem_cons_self | with_reducible apply List.mem_cons_of_mem)) (by (try dsimp only [List.set]); repeat (first | with_reducible exact List.mem_cons_self | with_reducible apply List.mem_cons_of_mem)) (by (try dsimp only [List.set]); repeat (first | with_reducible exact List.mem_cons_self | with_reducible apply List.mem_cons_of_mem)) (by (try dsimp only [List.set]); repeat (first | with_reducible exact List.mem_cons_self | with_reducible apply List.mem_cons_of_mem))) ?_
            clear hK K
            repeat (first
              | (with_reducible refine tree_load (o := ⟨some 18, .load _ _, _, _, _, _⟩) rfl rfl rfl rfl rfl d18 ?_)
              | (with_reducible refine tree_load_agg (o := ⟨some 19, .load _ _, _, _, _, _⟩) (areaC (first : Nat) (size : Nat)) rfl rfl rfl rfl ?_ ?_ d19 ?_; (kernel_rfl); (kernel_rfl))
              | (with_reducible refine tree_load (o := ⟨some 20, .load _ _, _, _, _, _⟩) rfl rfl rfl rfl rfl d20 ?_)
              | (with_reducible refine tree_load (o := ⟨some 21, .load _ _, _, _, _, _⟩) rfl rfl rfl rfl rfl d21 ?_)
              | (refine tree_take rfl (fun K hK => ?_); go_simp; with_reducible refine hK _ ?_; clear hK K))
            refine tree_done ?_
            clear hq cS d18 d19 d20 d21
            go_wp2_with (first
              | (go_at_call 71; go_must (refine (fparse_spec W _ _ hs _ P (lit_bytes (b := bb) (t := 111) 0 rfl 64 HL.out (by omega)) (by rw [HL.out]; omega)).mono ?_); clear hs; rintro e w1 ⟨vx, rfl, hs⟩; rw [HFC.out.1, HFC.out.2]; rw [HFC.out.1] at hs
                 obtain ⟨Ax, cx, rfl, _, _⟩ := slice_form (hs.bytes (bytesH_has 0 rfl)))
              | (guard_target = wpList _ _ _ (⟨some 9, .alloc _, _, _, _, _⟩ :: _) _ _; refine wpl (o := ⟨some 9, .alloc _, _, _, _, _⟩) rfl fun K hK => ?_; go_must (refine op_alloc hs rfl _ zframe [.int .u32 0, .int .u32 0, .int .u8 0, .slice none 0 0] rfl fun b9 w1 h => hK _ _ ?_); clear hs hK K; have hs := h; clear h; try dsimp only [List.set] at hs)
              | (guard_target = wpList _ _ _ (⟨none, .store _ (.tmp 9) _, _, _, _, _⟩ :: _) _ _; refine wpl (o := ⟨none, .store _ (.tmp 9) _, _, _, _, _⟩) rfl fun K hK => ?_; go_must (refine op_store_whole hs (b := b9) rfl rfl (frCells f (.slice Ax f.body.length cx)) rfl (by simp [frCells, Value.oneCell']) (by kernel_rfl) (k := 0) rfl rfl fun w9 h => hK _ _ ?_); clear hs hK K; have hs := h; clear h; dsimp only [List.set] at hs)
              | (guard_target = wpList _ _ _ (⟨some 31, .load _ _, _, _, _, _⟩ :: _) _ _; refine wpl (o := ⟨some 31, .load _ _, _, _, _, _⟩) rfl fun K hK => op_load rfl (ad := ⟨bi, 0, none⟩) rfl (by kernel_rfl) (hs.cell (l := [.int .i64 (i : Nat)]) (t := 3) (by (try dsimp only [List.set]); repeat (first | with_reducible exact List.mem_cons_self | with_reducible apply List.mem_cons_of_mem)) rfl) (hK _ _ ?_); clear hK K)
              | (guard_target = wpList _ _ _ (⟨some 34, .load _ _, _, _, _, _⟩ :: _) _ _; refine wpl (o := ⟨some 34, .load _ _, _, _, _, _⟩) rfl fun K hK => op_load rfl (ad := ⟨b9, 0, none⟩) rfl (by kernel_rfl) (hs.cell m0 rfl) (hK _ _ ?_); clear hK K)
              | (guard_target = wpList _ _ _ (⟨none, .store _ (.tmp 4) _, _, _, _, _⟩ :: _) _ _; refine wpl (o := ⟨none, .store _ (.tmp 4) _, _, _, _, _⟩) rfl fun K hK => ?_; go_must (refine op_store (hs.pick (A := row bg [.int .u32 (gen : Nat)] 27) (by repeat (first | with_reducible exact Pick.here | with_reducible apply Pick.there))) rfl (b := bg) (i := 0) (v := .int .u32 (f.epoch : Nat)) rfl rfl rfl (by kernel_rfl) (k := 0) rfl (by simp) fun w8 h => hK _ _ ?_); clear hs hK K; have hs := h; clear h; dsimp only [List.set] at hs; rw [HGE.out] at hs
                 have k38 : w8.cell? ⟨bg, 0, none⟩ = some (.int .u32 (g : Nat)) := hs.cell (l := [.int .u32 (g : Nat)]) (t := 27) (by (try dsimp only [List.set]); repeat (first | with_reducible exact List.mem_cons_self | with_reducible apply List.mem_cons_of_mem)) rfl
                 have k44 : w8.cell? ⟨bw, 0, none⟩ = some (.int .i64 (which : Nat)) := hs.cell (l := [.int .i64 (which : Nat)]) (t := 3) (by (try dsimp only [List.set]); repeat (first | with_reducible exact List.mem_cons_self | with_reducible apply List.mem_cons_of_mem)) rfl
                 have k50 : w8.cell? ⟨b9, 0, none⟩ = some (.int .u32 (f.epoch : Nat)) := hs.cell (l := (frCells f (.slice Ax f.body.length cx))) (t := 107) (by (try dsimp only [List.set]); repeat (first | with_reducible exact List.mem_cons_self | with_reducible apply List.mem_cons_of_mem)) rfl
                 have k56 : w8.cell? ⟨b9, 1, none⟩ = some (.int .u32 (f.seq : Nat)) := hs.cell (l := (frCells f (.slice Ax f.body.length cx))) (t := 107) (by (try dsimp only [List.set]); repeat (first | with_reducible exact List.mem_cons_self | with_reducible apply List.mem_cons_of_mem)) rfl
                 have k63 : w8.cell? ⟨b9, 2, none⟩ = some (.int .u8 f.flag.toNat) := hs.cell (l := (frCells f (.slice Ax f.body.length cx))) (t := 107) (by (try dsimp only [List.set]); repeat (first | with_reducible exact List.mem_cons_self | with_reducible apply List.mem_cons_of_mem)) rfl
                 have k66 : w8.cell? ⟨bi, 0, none⟩ = some (.int .i64 (i : Nat)) := hs.cell (l := [.int .i64 (i : Nat)]) (t := 3) (by (try dsimp only [List.set]); repeat (first | with_reducible exact List.mem_cons_self | with_reducible apply List.mem_cons_of_mem)) rfl)
              | (guard_target = wpList _ _ _ (⟨some 38, .load _ _, _, _, _, _⟩ :: _) _ _; refine wpl (o := ⟨some 38, .load _ _, _, _, _, _⟩) rfl fun K hK => op_load rfl (ad := ⟨bg, 0, none⟩) rfl (by kernel_rfl) k38 (hK _ _ ?_); clear hK K)
              | (guard_target = wpList _ _ _ (⟨some 42, .load _ _, _, _, _, _⟩ :: _) _ _; refine wpl (o := ⟨some 42, .load _ _, _, _, _, _⟩) rfl fun K hK => op_load rfl (ad := ⟨bg, 0, none⟩) rfl (by kernel_rfl) k38 (hK _ _ ?_); clear hK K)
              | (guard_target = wpList _ _ _ (⟨some 44, .load _ _, _, _, _, _⟩ :: _) _ _; refine wpl (o := ⟨some 44, .load _ _, _, _, _, _⟩) rfl fun K hK => op_load rfl (ad := ⟨bw, 0, none⟩) rfl (by kernel_rfl) k44 (hK _ _ ?_); clear hK K)
              | (guard_target = wpList _ _ _ (⟨some 50, .load _ _, _, _, _, _⟩ :: _) _ _; refine wpl (o := ⟨some 50, .load _ _, _, _, _, _⟩) rfl fun K hK => op_load rfl (ad := ⟨b9, 0, none⟩) rfl (by kernel_rfl) k50 (hK _ _ ?_); clear hK K)
              | (guard_target = wpList _ _ _ (⟨some 51, .load _ _, _, _, _, _⟩ :: _) _ _; refine wpl (o := ⟨some 51, .load _ _, _, _, _, _⟩) rfl fun K hK => op_load rfl (ad := ⟨bg, 0, none⟩) rfl (by kernel_rfl) k38 (hK _ _ ?_); clear hK K)
              | (guard_target = wpList _ _ _ (⟨some 56, .load _ _, _, _, _, _⟩ :: _) _ _; refine wpl (o := ⟨some 56, .load _ _, _, _, _, _⟩) rfl fun K hK => op_load rfl (ad := ⟨b9, 1, none⟩) rfl (by kernel_rfl) k56 (hK _ _ ?_); clear hK K)
              | (guard_target = wpList _ _ _ (⟨some 57, .load _ _, _, _, _, _⟩ :: _) _ _; refine wpl (o := ⟨some 57, .load _ _, _, _, _, _⟩) rfl fun K hK => op_load rfl (ad := ⟨bi, 0, none⟩) rfl (by kernel_rfl) k66 (hK _ _ ?_); clear hK K)
              | (guard_target = wpList _ _ _ (⟨some 63, .load _ _, _, _, _, _⟩ :: _) _ _; refine wpl (o := ⟨some 63, .load _ _, _, _, _, _⟩) rfl fun K hK => op_load rfl (ad := ⟨b9, 2, none⟩) rfl (by kernel_rfl) k63 (hK _ _ ?_); clear hK K)
              | (guard_target = wpList _ _ _ (⟨some 66, .load _ _, _, _, _, _⟩ :: _) _ _; refine wpl (o := ⟨some 66, .load _ _, _, _, _, _⟩) rfl fun K hK => op_load rfl (ad := ⟨bi, 0, none⟩) rfl (by kernel_rfl) k66 (hK _ _ ?_); clear hK K)
              | (guard_target = wpList _ _ _ (⟨some 70, .load _ _, _, _, _, _⟩ :: _) _ _; refine wpl (o := ⟨some 70, .load _ _, _, _, _, _⟩) rfl fun K hK => op_load rfl (ad := ⟨bi, 0, none⟩) rfl (by kernel_rfl) k66 (hK _ _ ?_); clear hK K)
              | (guard_target = wpList _ _ _ (⟨none, .store _ (.tmp 0) _, _, _, _, _⟩ :: _) _ _; refine wpl (o := ⟨none, .store _ (.tmp 0) _, _, _, _, _⟩) rfl fun K hK => ?_; go_must (refine op_store (hs.pick (A := row bi [.int .i64 (i : Nat)] 3) (by repeat (first | with_reducible exact Pick.here | with_reducible apply Pick.there))) rfl (b := bi) (i := 0) (v := .int .i64 (((i + 1 : Nat) : Int))) rfl rfl rfl (by kernel_rfl) (k := 0) rfl (by simp) fun w5 h => hK _ _ ?_); clear hs hK K; have hs := h; clear h; try dsimp only [List.set] at hs)
              | (guard_target = wpList _ _ _ (⟨some 72, .load _ _, _, _, _, _⟩ :: _) _ _; refine wpl (o := ⟨some 72, .load _ _, _, _, _, _⟩) rfl fun K hK => op_load_agg rfl (b := b9) (i := 0) rfl (frCells f (.slice Ax f.body.length cx)) (range_whole hs (by (try dsimp only [List.set]); repeat (first | with_reducible exact List.mem_cons_self | with_reducible apply List.mem_cons_of_mem))) (by kernel_rfl) (by kernel_rfl) (hK _ _ ?_); clear hK K)
              | (guard_target = wpList _ _ _ (⟨none, .store _ (.tmp 5) _, _, _, _, _⟩ :: _) _ _; refine wpl (o := ⟨none, .store _ (.tmp 5) _, _, _, _, _⟩) rfl fun K hK => ?_; go_must (refine op_store_whole (hs.pick (A := row b5 [.int .u32 0, .int .u32 0, .int .u8 0, .slice none 0 0] 107) (by repeat (first | with_reducible exact Pick.here | with_reducible apply Pick.there))) (b := b5) rfl rfl (frCells f (.slice Ax f.body.length cx)) rfl (by simp [frCells, Value.oneCell']) (by kernel_rfl) (k := 0) rfl rfl fun w3 h => hK _ _ ?_); clear hs hK K; have hs := h; clear h; try dsimp only [List.set] at hs))
            refine bodyPost_ret (run_results_cell_tmp' rfl (b := b5) rfl _ (range_whole hs m0) (by kernel_rfl) (by kernel_rfl)) rfl ?_
            refine ⟨.slice Ax f.body.length cx, by rw [HN.out]; rfl, ?_⟩
            exact hs.pack (by repeat (first | with_reducible exact Pack.refl | with_reducible exact Pack.nil | with_reducible refine Pack.cons (by repeat (first | with_reducible exact Pick.here | with_reducible apply Pick.there)) ?_ | with_reducible apply Pack.drop))
        · have e2 : (((g % 2 : Nat) : Int) == (which : Int)) = false := by simp; omega
          have e2b : ((g : Int) % 2 == (which : Int)) = false := by rw [← e2]; push_cast; rfl
          have HN : Box (slNext which i g f code = false) := ⟨by have c0 := C0.out; have c1 := C1.out; have hi0 := HI0.out; have hrb := HRB.out; (try rw [hi0] at c2); simp [slNext, *]⟩
          clear c2
          go_enter Try.func70, Try.ntmps70
          go_wp2_with (first
            | (guard_target = wpList _ _ _ (⟨some 5, .alloc _, _, _, _, _⟩ :: _) _ _; refine wpl (o := ⟨some 5, .alloc _, _, _, _, _⟩) rfl fun K hK => ?_; go_must (refine op_alloc hs rfl _ zframe [.int .u32 0, .int .u32 0, .int .u8 0, .slice none 0 0] rfl fun b5 w1 h => hK _ _ ?_); clear hs hK K; have hs := h; clear h; try dsimp only [List.set] at hs)
            | (guard_target = wpList _ _ _ (⟨some 12, .load _ _, _, _, _, _⟩ :: _) _ _; refine wpl (o := ⟨some 12, .load _ _, _, _, _, _⟩) rfl fun K hK => op_load rfl (ad := ⟨bi, 0, none⟩) rfl (by kernel_rfl) (hs.cell m1 rfl) (hK _ _ ?_); clear hK K)
            | (guard_target = wpList _ _ _ (⟨some 14, .load _ _, _, _, _, _⟩ :: _) _ _; refine wpl (o := ⟨some 14, .load _ _, _, _, _, _⟩) rfl fun K hK => op_load rfl (ad := ⟨ba, 1, none⟩) rfl (by kernel_rfl) (hs.cell m2 rfl) (hK _ _ ?_); clear hK K))
          have cS : ∀ w M, Sat W w M → row bi [.int .i64 (i : Nat)] 3 ∈ M → row ba (areaC (first : Nat) (size : Nat)) 31 ∈ M → row bd [.pointer (some ⟨b, 0, none⟩)] 25 ∈ M → row bw [.int .i64 (which : Nat)] 3 ∈ M → rdS bi ba bd bw b (first : Nat) (size : Nat) which i w := fun w M h h1 h2 h3 h4 => ⟨h.cell h1 rfl, range_whole h h2, h.cell h3 rfl, h.cell h4 rfl⟩
          have d18 : ∀ w, rdS bi ba bd bw b (first : Nat) (size : Nat) which i w → w.cell? ⟨bd, 0, none⟩ = some (.pointer (some ⟨b, 0, none⟩)) := fun w h => h.2.2.1
          have d19 : ∀ w, rdS bi ba bd bw b (first : Nat) (size : Nat) which i w → w.rangeAt ba 0 (areaC (first : Nat) (size : Nat)) := fun w h => h.2.1
          have d20 : ∀ w, rdS bi ba bd bw b (first : Nat) (size : Nat) which i w → w.cell? ⟨bw, 0, none⟩ = some (.int .i64 (which : Nat)) := fun w h => h.2.2.2
          have d21 : ∀ w, rdS bi ba bd bw b (first : Nat) (size : Nat) which i w → w.cell? ⟨bi, 0, none⟩ = some (.int .i64 (i : Nat)) := fun w h => h.1
          have hS0 := cS _ _ hs.drew (by (try dsimp only [List.set]); repeat (first | with_reducible exact List.mem_cons_self | with_reducible apply List.mem_cons_of_mem)) (by (try dsimp only [List.set]); repeat (first | with_reducible exact List.mem_cons_self | with_reducible apply List.mem_cons_of_mem)) (by (try dsimp only [List.set]); repeat (first | with_reducible exact List.mem_cons_self | with_reducible apply List.mem_cons_of_mem)) (by (try dsimp only [List.set]); repeat (first | with_reducible exact List.mem_cons_self | with_reducible apply List.mem_cons_of_mem))
          refine wp_region_tree (rdS bi ba bd bw b (first : Nat) (size : Nat) which i) (.take 0 (.take 1 (.take 2 (.take 3 (.all [(4, .all [(5, .take 6 (.take 7 (.take 8 (.take 9 (.take 10 (DTree.done))))))])]))))) (by kernel_rfl) (by kernel_rfl) (by kernel_rfl) (fun _ _ d _ _ h => by cases d <;> exact h) hS0 ?_
          have hs' := hs.drew
          clear hs
          have hs := hs'
          clear hs'
          have hq := fun p : Prop => class_const hS0 p
          clear hS0
          repeat (first
            | (with_reducible refine tree_load (o := ⟨some 18, .load _ _, _, _, _, _⟩) rfl rfl rfl rfl rfl d18 ?_)
            | (with_reducible refine tree_load_agg (o := ⟨some 19, .load _ _, _, _, _, _⟩) (areaC (first : Nat) (size : Nat)) rfl rfl rfl rfl ?_ ?_ d19 ?_; (kernel_rfl); (kernel_rfl))
            | (with_reducible refine tree_load (o := ⟨some 20, .load _ _, _, _, _, _⟩) rfl rfl rfl rfl rfl d20 ?_)
            | (with_reducible refine tree_load (o := ⟨some 21, .load _ _, _, _, _, _⟩) rfl rfl rfl rfl rfl d21 ?_)
            | (refine tree_take rfl (fun K hK => ?_); go_simp; with_reducible refine hK _ ?_; clear hK K))
          refine tree_one_yes (o := _) rfl rfl (fun K hK => ?_) (cS _ _ hs (by (try dsimp only [List.set]); repeat (first | with_reducible exact List.mem_cons_self | with_reducible apply List.mem_cons_of_mem)) (by (try dsimp only [List.set]); repeat (first | with_reducible exact List.mem_cons_self | with_reducible apply List.mem_cons_of_mem)) (by (try dsimp only [List.set]); repeat (first | with_reducible exact List.mem_cons_self | with_reducible apply List.mem_cons_of_mem)) (by (try dsimp only [List.set]); repeat (first | with_reducible exact List.mem_cons_self | with_reducible apply List.mem_cons_of_mem)))
          try go_simp
          go_at_call 48
          refine (slat_spec W _ _ hs first size which i hle.out hwh (by omega)).mono ?_
          clear hs
          rintro e w5 ⟨rfl, hs⟩
          try go_simp
          refine hK _ _ (cS _ _ hs (by (try dsimp only [List.set]); repeat (first | with_reducible exact List.mem_cons_self | with_reducible apply List.mem_cons_of_mem)) (by (try dsimp only [List.set]); repeat (first | with_reducible exact List.mem_cons_self | with_reducible apply List.mem_cons_of_mem)) (by (try dsimp only [List.set]); repeat (first | with_reducible exact List.mem_cons_self | with_reducible apply List.mem_cons_of_mem)) (by (try dsimp only [List.set]); repeat (first | with_reducible exact List.mem_cons_self | with_reducible apply List.mem_cons_of_mem))) ?_
          clear hK K
          refine tree_one_yes (o := _) rfl rfl (fun K hK => ?_) (cS _ _ hs (by (try dsimp only [List.set]); repeat (first | with_reducible exact List.mem_cons_self | with_reducible apply List.mem_cons_of_mem)) (by (try dsimp only [List.set]); repeat (first | with_reducible exact List.mem_cons_self | with_reducible apply List.mem_cons_of_mem)) (by (try dsimp only [List.set]); repeat (first | with_reducible exact List.mem_cons_self | with_reducible apply List.mem_cons_of_mem)) (by (try dsimp only [List.set]); repeat (first | with_reducible exact List.mem_cons_self | with_reducible apply List.mem_cons_of_mem)))
          try go_simp
          go_at_call 35
          refine (read_spec W _ _ b D (hs.pick (A := disk b D) (by repeat (first | with_reducible exact Pick.here | with_reducible apply Pick.there))) (first + size * which + i) hHadr.out hr).mono ?_
          clear hs
          rintro e w5 ⟨bb, rfl, hs⟩
          rw [HP.out] at hs
          try go_simp
          refine hK _ _ (cS _ _ hs (by (try dsimp only [List.set]); repeat (first | with_reducible exact List.mem_cons_self | with_reducible apply List.mem_cons_of_mem)) (by (try dsimp only [List.set]); repeat (first | with_reducible exact List.mem_cons_self | with_reducible apply List.mem_cons_of_mem)) (by (try dsimp only [List.set]); repeat (first | with_reducible exact List.mem_cons_self | with_reducible apply List.mem_cons_of_mem)) (by (try dsimp only [List.set]); repeat (first | with_reducible exact List.mem_cons_self | with_reducible apply List.mem_cons_of_mem))) ?_
          clear hK K
          repeat (first
            | (with_reducible refine tree_load (o := ⟨some 18, .load _ _, _, _, _, _⟩) rfl rfl rfl rfl rfl d18 ?_)
            | (with_reducible refine tree_load_agg (o := ⟨some 19, .load _ _, _, _, _, _⟩) (areaC (first : Nat) (size : Nat)) rfl rfl rfl rfl ?_ ?_ d19 ?_; (kernel_rfl); (kernel_rfl))
            | (with_reducible refine tree_load (o := ⟨some 20, .load _ _, _, _, _, _⟩) rfl rfl rfl rfl rfl d20 ?_)
            | (with_reducible refine tree_load (o := ⟨some 21, .load _ _, _, _, _, _⟩) rfl rfl rfl rfl rfl d21 ?_)
            | (refine tree_take rfl (fun K hK => ?_); go_simp; with_reducible refine hK _ ?_; clear hK K))
          refine tree_done ?_
          clear hq cS d18 d19 d20 d21
          go_wp2_with (first
            | (go_at_call 71; go_must (refine (fparse_spec W _ _ hs _ P (lit_bytes (b := bb) (t := 111) 0 rfl 64 HL.out (by omega)) (by rw [HL.out]; omega)).mono ?_); clear hs; rintro e w1 ⟨vx, rfl, hs⟩; rw [HFC.out.1, HFC.out.2]; rw [HFC.out.1] at hs
               obtain ⟨Ax, cx, rfl, _, _⟩ := slice_form (hs.bytes (bytesH_has 0 rfl)))
            | (guard_target = wpList _ _ _ (⟨some 9, .alloc _, _, _, _, _⟩ :: _) _ _; refine wpl (o := ⟨some 9, .alloc _, _, _, _, _⟩) rfl fun K hK => ?_; go_must (refine op_alloc hs rfl _ zframe [.int .u32 0, .int .u32 0, .int .u8 0, .slice none 0 0] rfl fun b9 w1 h => hK _ _ ?_); clear hs hK K; have hs := h; clear h; try dsimp only [List.set] at hs)
            | (guard_target = wpList _ _ _ (⟨none, .store _ (.tmp 9) _, _, _, _, _⟩ :: _) _ _; refine wpl (o := ⟨none, .store _ (.tmp 9) _, _, _, _, _⟩) rfl fun K hK => ?_; go_must (refine op_store_whole hs (b := b9) rfl rfl (frCells f (.slice Ax f.body.length cx)) rfl (by simp [frCells, Value.oneCell']) (by kernel_rfl) (k := 0) rfl rfl fun w9 h => hK _ _ ?_); clear hs hK K; have hs := h; clear h; dsimp only [List.set] at hs)
            | (guard_target = wpList _ _ _ (⟨some 31, .load _ _, _, _, _, _⟩ :: _) _ _; refine wpl (o := ⟨some 31, .load _ _, _, _, _, _⟩) rfl fun K hK => op_load rfl (ad := ⟨bi, 0, none⟩) rfl (by kernel_rfl) (hs.cell (l := [.int .i64 (i : Nat)]) (t := 3) (by (try dsimp only [List.set]); repeat (first | with_reducible exact List.mem_cons_self | with_reducible apply List.mem_cons_of_mem)) rfl) (hK _ _ ?_); clear hK K)
            | (guard_target = wpList _ _ _ (⟨some 34, .load _ _, _, _, _, _⟩ :: _) _ _; refine wpl (o := ⟨some 34, .load _ _, _, _, _, _⟩) rfl fun K hK => op_load rfl (ad := ⟨b9, 0, none⟩) rfl (by kernel_rfl) (hs.cell m0 rfl) (hK _ _ ?_); clear hK K)
            | (guard_target = wpList _ _ _ (⟨none, .store _ (.tmp 4) _, _, _, _, _⟩ :: _) _ _; refine wpl (o := ⟨none, .store _ (.tmp 4) _, _, _, _, _⟩) rfl fun K hK => ?_; go_must (refine op_store (hs.pick (A := row bg [.int .u32 (gen : Nat)] 27) (by repeat (first | with_reducible exact Pick.here | with_reducible apply Pick.there))) rfl (b := bg) (i := 0) (v := .int .u32 (f.epoch : Nat)) rfl rfl rfl (by kernel_rfl) (k := 0) rfl (by simp) fun w8 h => hK _ _ ?_); clear hs hK K; have hs := h; clear h; dsimp only [List.set] at hs; rw [HGE.out] at hs
               have k38 : w8.cell? ⟨bg, 0, none⟩ = some (.int .u32 (g : Nat)) := hs.cell (l := [.int .u32 (g : Nat)]) (t := 27) (by (try dsimp only [List.set]); repeat (first | with_reducible exact List.mem_cons_self | with_reducible apply List.mem_cons_of_mem)) rfl
               have k44 : w8.cell? ⟨bw, 0, none⟩ = some (.int .i64 (which : Nat)) := hs.cell (l := [.int .i64 (which : Nat)]) (t := 3) (by (try dsimp only [List.set]); repeat (first | with_reducible exact List.mem_cons_self | with_reducible apply List.mem_cons_of_mem)) rfl
               have k50 : w8.cell? ⟨b9, 0, none⟩ = some (.int .u32 (f.epoch : Nat)) := hs.cell (l := (frCells f (.slice Ax f.body.length cx))) (t := 107) (by (try dsimp only [List.set]); repeat (first | with_reducible exact List.mem_cons_self | with_reducible apply List.mem_cons_of_mem)) rfl
               have k56 : w8.cell? ⟨b9, 1, none⟩ = some (.int .u32 (f.seq : Nat)) := hs.cell (l := (frCells f (.slice Ax f.body.length cx))) (t := 107) (by (try dsimp only [List.set]); repeat (first | with_reducible exact List.mem_cons_self | with_reducible apply List.mem_cons_of_mem)) rfl
               have k63 : w8.cell? ⟨b9, 2, none⟩ = some (.int .u8 f.flag.toNat) := hs.cell (l := (frCells f (.slice Ax f.body.length cx))) (t := 107) (by (try dsimp only [List.set]); repeat (first | with_reducible exact List.mem_cons_self | with_reducible apply List.mem_cons_of_mem)) rfl
               have k66 : w8.cell? ⟨bi, 0, none⟩ = some (.int .i64 (i : Nat)) := hs.cell (l := [.int .i64 (i : Nat)]) (t := 3) (by (try dsimp only [List.set]); repeat (first | with_reducible exact List.mem_cons_self | with_reducible apply List.mem_cons_of_mem)) rfl)
            | (guard_target = wpList _ _ _ (⟨some 38, .load _ _, _, _, _, _⟩ :: _) _ _; refine wpl (o := ⟨some 38, .load _ _, _, _, _, _⟩) rfl fun K hK => op_load rfl (ad := ⟨bg, 0, none⟩) rfl (by kernel_rfl) k38 (hK _ _ ?_); clear hK K)
            | (guard_target = wpList _ _ _ (⟨some 42, .load _ _, _, _, _, _⟩ :: _) _ _; refine wpl (o := ⟨some 42, .load _ _, _, _, _, _⟩) rfl fun K hK => op_load rfl (ad := ⟨bg, 0, none⟩) rfl (by kernel_rfl) k38 (hK _ _ ?_); clear hK K)
            | (guard_target = wpList _ _ _ (⟨some 44, .load _ _, _, _, _, _⟩ :: _) _ _; refine wpl (o := ⟨some 44, .load _ _, _, _, _, _⟩) rfl fun K hK => op_load rfl (ad := ⟨bw, 0, none⟩) rfl (by kernel_rfl) k44 (hK _ _ ?_); clear hK K)
            | (guard_target = wpList _ _ _ (⟨some 50, .load _ _, _, _, _, _⟩ :: _) _ _; refine wpl (o := ⟨some 50, .load _ _, _, _, _, _⟩) rfl fun K hK => op_load rfl (ad := ⟨b9, 0, none⟩) rfl (by kernel_rfl) k50 (hK _ _ ?_); clear hK K)
            | (guard_target = wpList _ _ _ (⟨some 51, .load _ _, _, _, _, _⟩ :: _) _ _; refine wpl (o := ⟨some 51, .load _ _, _, _, _, _⟩) rfl fun K hK => op_load rfl (ad := ⟨bg, 0, none⟩) rfl (by kernel_rfl) k38 (hK _ _ ?_); clear hK K)
            | (guard_target = wpList _ _ _ (⟨some 56, .load _ _, _, _, _, _⟩ :: _) _ _; refine wpl (o := ⟨some 56, .load _ _, _, _, _, _⟩) rfl fun K hK => op_load rfl (ad := ⟨b9, 1, none⟩) rfl (by kernel_rfl) k56 (hK _ _ ?_); clear hK K)
            | (guard_target = wpList _ _ _ (⟨some 57, .load _ _, _, _, _, _⟩ :: _) _ _; refine wpl (o := ⟨some 57, .load _ _, _, _, _, _⟩) rfl fun K hK => op_load rfl (ad := ⟨bi, 0, none⟩) rfl (by kernel_rfl) k66 (hK _ _ ?_); clear hK K)
            | (guard_target = wpList _ _ _ (⟨some 63, .load _ _, _, _, _, _⟩ :: _) _ _; refine wpl (o := ⟨some 63, .load _ _, _, _, _, _⟩) rfl fun K hK => op_load rfl (ad := ⟨b9, 2, none⟩) rfl (by kernel_rfl) k63 (hK _ _ ?_); clear hK K)
            | (guard_target = wpList _ _ _ (⟨some 66, .load _ _, _, _, _, _⟩ :: _) _ _; refine wpl (o := ⟨some 66, .load _ _, _, _, _, _⟩) rfl fun K hK => op_load rfl (ad := ⟨bi, 0, none⟩) rfl (by kernel_rfl) k66 (hK _ _ ?_); clear hK K)
            | (guard_target = wpList _ _ _ (⟨some 70, .load _ _, _, _, _, _⟩ :: _) _ _; refine wpl (o := ⟨some 70, .load _ _, _, _, _, _⟩) rfl fun K hK => op_load rfl (ad := ⟨bi, 0, none⟩) rfl (by kernel_rfl) k66 (hK _ _ ?_); clear hK K)
            | (guard_target = wpList _ _ _ (⟨none, .store _ (.tmp 0) _, _, _, _, _⟩ :: _) _ _; refine wpl (o := ⟨none, .store _ (.tmp 0) _, _, _, _, _⟩) rfl fun K hK => ?_; go_must (refine op_store (hs.pick (A := row bi [.int .i64 (i : Nat)] 3) (by repeat (first | with_reducible exact Pick.here | with_reducible apply Pick.there))) rfl (b := bi) (i := 0) (v := .int .i64 (((i + 1 : Nat) : Int))) rfl rfl rfl (by kernel_rfl) (k := 0) rfl (by simp) fun w5 h => hK _ _ ?_); clear hs hK K; have hs := h; clear h; try dsimp only [List.set] at hs)
            | (guard_target = wpList _ _ _ (⟨some 72, .load _ _, _, _, _, _⟩ :: _) _ _; refine wpl (o := ⟨some 72, .load _ _, _, _, _, _⟩) rfl fun K hK => op_load_agg rfl (b := b9) (i := 0) rfl (frCells f (.slice Ax f.body.length cx)) (range_whole hs (by (try dsimp only [List.set]); repeat (first | with_reducible exact List.mem_cons_self | with_reducible apply List.mem_cons_of_mem))) (by kernel_rfl) (by kernel_rfl) (hK _ _ ?_); clear hK K)
            | (guard_target = wpList _ _ _ (⟨none, .store _ (.tmp 5) _, _, _, _, _⟩ :: _) _ _; refine wpl (o := ⟨none, .store _ (.tmp 5) _, _, _, _, _⟩) rfl fun K hK => ?_; go_must (refine op_store_whole (hs.pick (A := row b5 [.int .u32 0, .int .u32 0, .int .u8 0, .slice none 0 0] 107) (by repeat (first | with_reducible exact Pick.here | with_reducible apply Pick.there))) (b := b5) rfl rfl (frCells f (.slice Ax f.body.length cx)) rfl (by simp [frCells, Value.oneCell']) (by kernel_rfl) (k := 0) rfl rfl fun w3 h => hK _ _ ?_); clear hs hK K; have hs := h; clear h; try dsimp only [List.set] at hs))
          refine bodyPost_ret (run_results_cell_tmp' rfl (b := b5) rfl _ (range_whole hs m0) (by kernel_rfl) (by kernel_rfl)) rfl ?_
          refine ⟨.slice Ax f.body.length cx, by rw [HN.out]; rfl, ?_⟩
          exact hs.pack (by repeat (first | with_reducible exact Pack.refl | with_reducible exact Pack.nil | with_reducible refine Pack.cons (by repeat (first | with_reducible exact Pick.here | with_reducible apply Pick.there)) ?_ | with_reducible apply Pack.drop))
      · have e1 : ((g : Int) != 0) = false := by simp; omega
        have HN : Box (slNext which i g f code = false) := ⟨by have c0 := C0.out; have hi0 := HI0.out; have hrb := HRB.out; (try rw [hi0] at c1); simp [slNext, *]⟩
        clear c1
        go_enter Try.func70, Try.ntmps70
        go_wp2_with (first
          | (guard_target = wpList _ _ _ (⟨some 5, .alloc _, _, _, _, _⟩ :: _) _ _; refine wpl (o := ⟨some 5, .alloc _, _, _, _, _⟩) rfl fun K hK => ?_; go_must (refine op_alloc hs rfl _ zframe [.int .u32 0, .int .u32 0, .int .u8 0, .slice none 0 0] rfl fun b5 w1 h => hK _ _ ?_); clear hs hK K; have hs := h; clear h; try dsimp only [List.set] at hs)
          | (guard_target = wpList _ _ _ (⟨some 12, .load _ _, _, _, _, _⟩ :: _) _ _; refine wpl (o := ⟨some 12, .load _ _, _, _, _, _⟩) rfl fun K hK => op_load rfl (ad := ⟨bi, 0, none⟩) rfl (by kernel_rfl) (hs.cell m1 rfl) (hK _ _ ?_); clear hK K)
          | (guard_target = wpList _ _ _ (⟨some 14, .load _ _, _, _, _, _⟩ :: _) _ _; refine wpl (o := ⟨some 14, .load _ _, _, _, _, _⟩) rfl fun K hK => op_load rfl (ad := ⟨ba, 1, none⟩) rfl (by kernel_rfl) (hs.cell m2 rfl) (hK _ _ ?_); clear hK K))
        have cS : ∀ w M, Sat W w M → row bi [.int .i64 (i : Nat)] 3 ∈ M → row ba (areaC (first : Nat) (size : Nat)) 31 ∈ M → row bd [.pointer (some ⟨b, 0, none⟩)] 25 ∈ M → row bw [.int .i64 (which : Nat)] 3 ∈ M → rdS bi ba bd bw b (first : Nat) (size : Nat) which i w := fun w M h h1 h2 h3 h4 => ⟨h.cell h1 rfl, range_whole h h2, h.cell h3 rfl, h.cell h4 rfl⟩
        have d18 : ∀ w, rdS bi ba bd bw b (first : Nat) (size : Nat) which i w → w.cell? ⟨bd, 0, none⟩ = some (.pointer (some ⟨b, 0, none⟩)) := fun w h => h.2.2.1
        have d19 : ∀ w, rdS bi ba bd bw b (first : Nat) (size : Nat) which i w → w.rangeAt ba 0 (areaC (first : Nat) (size : Nat)) := fun w h => h.2.1
        have d20 : ∀ w, rdS bi ba bd bw b (first : Nat) (size : Nat) which i w → w.cell? ⟨bw, 0, none⟩ = some (.int .i64 (which : Nat)) := fun w h => h.2.2.2
        have d21 : ∀ w, rdS bi ba bd bw b (first : Nat) (size : Nat) which i w → w.cell? ⟨bi, 0, none⟩ = some (.int .i64 (i : Nat)) := fun w h => h.1
        have hS0 := cS _ _ hs.drew (by (try dsimp only [List.set]); repeat (first | with_reducible exact List.mem_cons_self | with_reducible apply List.mem_cons_of_mem)) (by (try dsimp only [List.set]); repeat (first | with_reducible exact List.mem_cons_self | with_reducible apply List.mem_cons_of_mem)) (by (try dsimp only [List.set]); repeat (first | with_reducible exact List.mem_cons_self | with_reducible apply List.mem_cons_of_mem)) (by (try dsimp only [List.set]); repeat (first | with_reducible exact List.mem_cons_self | with_reducible apply List.mem_cons_of_mem))
        refine wp_region_tree (rdS bi ba bd bw b (first : Nat) (size : Nat) which i) (.take 0 (.take 1 (.take 2 (.take 3 (.all [(4, .all [(5, .take 6 (.take 7 (.take 8 (.take 9 (.take 10 (DTree.done))))))])]))))) (by kernel_rfl) (by kernel_rfl) (by kernel_rfl) (fun _ _ d _ _ h => by cases d <;> exact h) hS0 ?_
        have hs' := hs.drew
        clear hs
        have hs := hs'
        clear hs'
        have hq := fun p : Prop => class_const hS0 p
        clear hS0
        repeat (first
          | (with_reducible refine tree_load (o := ⟨some 18, .load _ _, _, _, _, _⟩) rfl rfl rfl rfl rfl d18 ?_)
          | (with_reducible refine tree_load_agg (o := ⟨some 19, .load _ _, _, _, _, _⟩) (areaC (first : Nat) (size : Nat)) rfl rfl rfl rfl ?_ ?_ d19 ?_; (kernel_rfl); (kernel_rfl))
          | (with_reducible refine tree_load (o := ⟨some 20, .load _ _, _, _, _, _⟩) rfl rfl rfl rfl rfl d20 ?_)
          | (with_reducible refine tree_load (o := ⟨some 21, .load _ _, _, _, _, _⟩) rfl rfl rfl rfl rfl d21 ?_)
          | (refine tree_take rfl (fun K hK => ?_); go_simp; with_reducible refine hK _ ?_; clear hK K))
        refine tree_one_yes (o := _) rfl rfl (fun K hK => ?_) (cS _ _ hs (by (try dsimp only [List.set]); repeat (first | with_reducible exact List.mem_cons_self | with_reducible apply List.mem_cons_of_mem)) (by (try dsimp only [List.set]); repeat (first | with_reducible exact List.mem_cons_self | with_reducible apply List.mem_cons_of_mem)) (by (try dsimp only [List.set]); repeat (first | with_reducible exact List.mem_cons_self | with_reducible apply List.mem_cons_of_mem)) (by (try dsimp only [List.set]); repeat (first | with_reducible exact List.mem_cons_self | with_reducible apply List.mem_cons_of_mem)))
        try go_simp
        go_at_call 48
        refine (slat_spec W _ _ hs first size which i hle.out hwh (by omega)).mono ?_
        clear hs
        rintro e w5 ⟨rfl, hs⟩
        try go_simp
        refine hK _ _ (cS _ _ hs (by (try dsimp only [List.set]); repeat (first | with_reducible exact List.mem_cons_self | with_reducible apply List.mem_cons_of_mem)) (by (try dsimp only [List.set]); repeat (first | with_reducible exact List.mem_cons_self | with_reducible apply List.mem_cons_of_mem)) (by (try dsimp only [List.set]); repeat (first | with_reducible exact List.mem_cons_self | with_reducible apply List.mem_cons_of_mem)) (by (try dsimp only [List.set]); repeat (first | with_reducible exact List.mem_cons_self | with_reducible apply List.mem_cons_of_mem))) ?_
        clear hK K
        refine tree_one_yes (o := _) rfl rfl (fun K hK => ?_) (cS _ _ hs (by (try dsimp only [List.set]); repeat (first | with_reducible exact List.mem_cons_self | with_reducible apply List.mem_cons_of_mem)) (by (try dsimp only [List.set]); repeat (first | with_reducible exact List.mem_cons_self | with_reducible apply List.mem_cons_of_mem)) (by (try dsimp only [List.set]); repeat (first | with_reducible exact List.mem_cons_self | with_reducible apply List.mem_cons_of_mem)) (by (try dsimp only [List.set]); repeat (first | with_reducible exact List.mem_cons_self | with_reducible apply List.mem_cons_of_mem)))
        try go_simp
        go_at_call 35
        refine (read_spec W _ _ b D (hs.pick (A := disk b D) (by repeat (first | with_reducible exact Pick.here | with_reducible apply Pick.there))) (first + size * which + i) hHadr.out hr).mono ?_
        clear hs
        rintro e w5 ⟨bb, rfl, hs⟩
        rw [HP.out] at hs
        try go_simp
        refine hK _ _ (cS _ _ hs (by (try dsimp only [List.set]); repeat (first | with_reducible exact List.mem_cons_self | with_reducible apply List.mem_cons_of_mem)) (by (try dsimp only [List.set]); repeat (first | with_reducible exact List.mem_cons_self | with_reducible apply List.mem_cons_of_mem)) (by (try dsimp only [List.set]); repeat (first | with_reducible exact List.mem_cons_self | with_reducible apply List.mem_cons_of_mem)) (by (try dsimp only [List.set]); repeat (first | with_reducible exact List.mem_cons_self | with_reducible apply List.mem_cons_of_mem))) ?_
        clear hK K
        repeat (first
          | (with_reducible refine tree_load (o := ⟨some 18, .load _ _, _, _, _, _⟩) rfl rfl rfl rfl rfl d18 ?_)
          | (with_reducible refine tree_load_agg (o := ⟨some 19, .load _ _, _, _, _, _⟩) (areaC (first : Nat) (size : Nat)) rfl rfl rfl rfl ?_ ?_ d19 ?_; (kernel_rfl); (kernel_rfl))
          | (with_reducible refine tree_load (o := ⟨some 20, .load _ _, _, _, _, _⟩) rfl rfl rfl rfl rfl d20 ?_)
          | (with_reducible refine tree_load (o := ⟨some 21, .load _ _, _, _, _, _⟩) rfl rfl rfl rfl rfl d21 ?_)
          | (refine tree_take rfl (fun K hK => ?_); go_simp; with_reducible refine hK _ ?_; clear hK K))
        refine tree_done ?_
        clear hq cS d18 d19 d20 d21
        go_wp2_with (first
          | (go_at_call 71; go_must (refine (fparse_spec W _ _ hs _ P (lit_bytes (b := bb) (t := 111) 0 rfl 64 HL.out (by omega)) (by rw [HL.out]; omega)).mono ?_); clear hs; rintro e w1 ⟨vx, rfl, hs⟩; rw [HFC.out.1, HFC.out.2]; rw [HFC.out.1] at hs
             obtain ⟨Ax, cx, rfl, _, _⟩ := slice_form (hs.bytes (bytesH_has 0 rfl)))
          | (guard_target = wpList _ _ _ (⟨some 9, .alloc _, _, _, _, _⟩ :: _) _ _; refine wpl (o := ⟨some 9, .alloc _, _, _, _, _⟩) rfl fun K hK => ?_; go_must (refine op_alloc hs rfl _ zframe [.int .u32 0, .int .u32 0, .int .u8 0, .slice none 0 0] rfl fun b9 w1 h => hK _ _ ?_); clear hs hK K; have hs := h; clear h; try dsimp only [List.set] at hs)
          | (guard_target = wpList _ _ _ (⟨none, .store _ (.tmp 9) _, _, _, _, _⟩ :: _) _ _; refine wpl (o := ⟨none, .store _ (.tmp 9) _, _, _, _, _⟩) rfl fun K hK => ?_; go_must (refine op_store_whole hs (b := b9) rfl rfl (frCells f (.slice Ax f.body.length cx)) rfl (by simp [frCells, Value.oneCell']) (by kernel_rfl) (k := 0) rfl rfl fun w9 h => hK _ _ ?_); clear hs hK K; have hs := h; clear h; dsimp only [List.set] at hs)
          | (guard_target = wpList _ _ _ (⟨some 31, .load _ _, _, _, _, _⟩ :: _) _ _; refine wpl (o := ⟨some 31, .load _ _, _, _, _, _⟩) rfl fun K hK => op_load rfl (ad := ⟨bi, 0, none⟩) rfl (by kernel_rfl) (hs.cell (l := [.int .i64 (i : Nat)]) (t := 3) (by (try dsimp only [List.set]); repeat (first | with_reducible exact List.mem_cons_self | with_reducible apply List.mem_cons_of_mem)) rfl) (hK _ _ ?_); clear hK K)
          | (guard_target = wpList _ _ _ (⟨some 34, .load _ _, _, _, _, _⟩ :: _) _ _; refine wpl (o := ⟨some 34, .load _ _, _, _, _, _⟩) rfl fun K hK => op_load rfl (ad := ⟨b9, 0, none⟩) rfl (by kernel_rfl) (hs.cell m0 rfl) (hK _ _ ?_); clear hK K)
          | (guard_target = wpList _ _ _ (⟨none, .store _ (.tmp 4) _, _, _, _, _⟩ :: _) _ _; refine wpl (o := ⟨none, .store _ (.tmp 4) _, _, _, _, _⟩) rfl fun K hK => ?_; go_must (refine op_store (hs.pick (A := row bg [.int .u32 (gen : Nat)] 27) (by repeat (first | with_reducible exact Pick.here | with_reducible apply Pick.there))) rfl (b := bg) (i := 0) (v := .int .u32 (f.epoch : Nat)) rfl rfl rfl (by kernel_rfl) (k := 0) rfl (by simp) fun w8 h => hK _ _ ?_); clear hs hK K; have hs := h; clear h; dsimp only [List.set] at hs; rw [HGE.out] at hs
             have k38 : w8.cell? ⟨bg, 0, none⟩ = some (.int .u32 (g : Nat)) := hs.cell (l := [.int .u32 (g : Nat)]) (t := 27) (by (try dsimp only [List.set]); repeat (first | with_reducible exact List.mem_cons_self | with_reducible apply List.mem_cons_of_mem)) rfl
             have k44 : w8.cell? ⟨bw, 0, none⟩ = some (.int .i64 (which : Nat)) := hs.cell (l := [.int .i64 (which : Nat)]) (t := 3) (by (try dsimp only [List.set]); repeat (first | with_reducible exact List.mem_cons_self | with_reducible apply List.mem_cons_of_mem)) rfl
             have k50 : w8.cell? ⟨b9, 0, none⟩ = some (.int .u32 (f.epoch : Nat)) := hs.cell (l := (frCells f (.slice Ax f.body.length cx))) (t := 107) (by (try dsimp only [List.set]); repeat (first | with_reducible exact List.mem_cons_self | with_reducible apply List.mem_cons_of_mem)) rfl
             have k56 : w8.cell? ⟨b9, 1, none⟩ = some (.int .u32 (f.seq : Nat)) := hs.cell (l := (frCells f (.slice Ax f.body.length cx))) (t := 107) (by (try dsimp only [List.set]); repeat (first | with_reducible exact List.mem_cons_self | with_reducible apply List.mem_cons_of_mem)) rfl
             have k63 : w8.cell? ⟨b9, 2, none⟩ = some (.int .u8 f.flag.toNat) := hs.cell (l := (frCells f (.slice Ax f.body.length cx))) (t := 107) (by (try dsimp only [List.set]); repeat (first | with_reducible exact List.mem_cons_self | with_reducible apply List.mem_cons_of_mem)) rfl
             have k66 : w8.cell? ⟨bi, 0, none⟩ = some (.int .i64 (i : Nat)) := hs.cell (l := [.int .i64 (i : Nat)]) (t := 3) (by (try dsimp only [List.set]); repeat (first | with_reducible exact List.mem_cons_self | with_reducible apply List.mem_cons_of_mem)) rfl)
          | (guard_target = wpList _ _ _ (⟨some 38, .load _ _, _, _, _, _⟩ :: _) _ _; refine wpl (o := ⟨some 38, .load _ _, _, _, _, _⟩) rfl fun K hK => op_load rfl (ad := ⟨bg, 0, none⟩) rfl (by kernel_rfl) k38 (hK _ _ ?_); clear hK K)
          | (guard_target = wpList _ _ _ (⟨some 42, .load _ _, _, _, _, _⟩ :: _) _ _; refine wpl (o := ⟨some 42, .load _ _, _, _, _, _⟩) rfl fun K hK => op_load rfl (ad := ⟨bg, 0, none⟩) rfl (by kernel_rfl) k38 (hK _ _ ?_); clear hK K)
          | (guard_target = wpList _ _ _ (⟨some 44, .load _ _, _, _, _, _⟩ :: _) _ _; refine wpl (o := ⟨some 44, .load _ _, _, _, _, _⟩) rfl fun K hK => op_load rfl (ad := ⟨bw, 0, none⟩) rfl (by kernel_rfl) k44 (hK _ _ ?_); clear hK K)
          | (guard_target = wpList _ _ _ (⟨some 50, .load _ _, _, _, _, _⟩ :: _) _ _; refine wpl (o := ⟨some 50, .load _ _, _, _, _, _⟩) rfl fun K hK => op_load rfl (ad := ⟨b9, 0, none⟩) rfl (by kernel_rfl) k50 (hK _ _ ?_); clear hK K)
          | (guard_target = wpList _ _ _ (⟨some 51, .load _ _, _, _, _, _⟩ :: _) _ _; refine wpl (o := ⟨some 51, .load _ _, _, _, _, _⟩) rfl fun K hK => op_load rfl (ad := ⟨bg, 0, none⟩) rfl (by kernel_rfl) k38 (hK _ _ ?_); clear hK K)
          | (guard_target = wpList _ _ _ (⟨some 56, .load _ _, _, _, _, _⟩ :: _) _ _; refine wpl (o := ⟨some 56, .load _ _, _, _, _, _⟩) rfl fun K hK => op_load rfl (ad := ⟨b9, 1, none⟩) rfl (by kernel_rfl) k56 (hK _ _ ?_); clear hK K)
          | (guard_target = wpList _ _ _ (⟨some 57, .load _ _, _, _, _, _⟩ :: _) _ _; refine wpl (o := ⟨some 57, .load _ _, _, _, _, _⟩) rfl fun K hK => op_load rfl (ad := ⟨bi, 0, none⟩) rfl (by kernel_rfl) k66 (hK _ _ ?_); clear hK K)
          | (guard_target = wpList _ _ _ (⟨some 63, .load _ _, _, _, _, _⟩ :: _) _ _; refine wpl (o := ⟨some 63, .load _ _, _, _, _, _⟩) rfl fun K hK => op_load rfl (ad := ⟨b9, 2, none⟩) rfl (by kernel_rfl) k63 (hK _ _ ?_); clear hK K)
          | (guard_target = wpList _ _ _ (⟨some 66, .load _ _, _, _, _, _⟩ :: _) _ _; refine wpl (o := ⟨some 66, .load _ _, _, _, _, _⟩) rfl fun K hK => op_load rfl (ad := ⟨bi, 0, none⟩) rfl (by kernel_rfl) k66 (hK _ _ ?_); clear hK K)
          | (guard_target = wpList _ _ _ (⟨some 70, .load _ _, _, _, _, _⟩ :: _) _ _; refine wpl (o := ⟨some 70, .load _ _, _, _, _, _⟩) rfl fun K hK => op_load rfl (ad := ⟨bi, 0, none⟩) rfl (by kernel_rfl) k66 (hK _ _ ?_); clear hK K)
          | (guard_target = wpList _ _ _ (⟨none, .store _ (.tmp 0) _, _, _, _, _⟩ :: _) _ _; refine wpl (o := ⟨none, .store _ (.tmp 0) _, _, _, _, _⟩) rfl fun K hK => ?_; go_must (refine op_store (hs.pick (A := row bi [.int .i64 (i : Nat)] 3) (by repeat (first | with_reducible exact Pick.here | with_reducible apply Pick.there))) rfl (b := bi) (i := 0) (v := .int .i64 (((i + 1 : Nat) : Int))) rfl rfl rfl (by kernel_rfl) (k := 0) rfl (by simp) fun w5 h => hK _ _ ?_); clear hs hK K; have hs := h; clear h; try dsimp only [List.set] at hs)
          | (guard_target = wpList _ _ _ (⟨some 72, .load _ _, _, _, _, _⟩ :: _) _ _; refine wpl (o := ⟨some 72, .load _ _, _, _, _, _⟩) rfl fun K hK => op_load_agg rfl (b := b9) (i := 0) rfl (frCells f (.slice Ax f.body.length cx)) (range_whole hs (by (try dsimp only [List.set]); repeat (first | with_reducible exact List.mem_cons_self | with_reducible apply List.mem_cons_of_mem))) (by kernel_rfl) (by kernel_rfl) (hK _ _ ?_); clear hK K)
          | (guard_target = wpList _ _ _ (⟨none, .store _ (.tmp 5) _, _, _, _, _⟩ :: _) _ _; refine wpl (o := ⟨none, .store _ (.tmp 5) _, _, _, _, _⟩) rfl fun K hK => ?_; go_must (refine op_store_whole (hs.pick (A := row b5 [.int .u32 0, .int .u32 0, .int .u8 0, .slice none 0 0] 107) (by repeat (first | with_reducible exact Pick.here | with_reducible apply Pick.there))) (b := b5) rfl rfl (frCells f (.slice Ax f.body.length cx)) rfl (by simp [frCells, Value.oneCell']) (by kernel_rfl) (k := 0) rfl rfl fun w3 h => hK _ _ ?_); clear hs hK K; have hs := h; clear h; try dsimp only [List.set] at hs))
        refine bodyPost_ret (run_results_cell_tmp' rfl (b := b5) rfl _ (range_whole hs m0) (by kernel_rfl) (by kernel_rfl)) rfl ?_
        refine ⟨.slice Ax f.body.length cx, by rw [HN.out]; rfl, ?_⟩
        exact hs.pack (by repeat (first | with_reducible exact Pack.refl | with_reducible exact Pack.nil | with_reducible refine Pack.cons (by repeat (first | with_reducible exact Pick.here | with_reducible apply Pick.there)) ?_ | with_reducible apply Pack.drop))
    · have e0 : ((code : Int) == 0) = false := by simp; omega
      have HN : Box (slNext which i g f code = false) := ⟨by have hi0 := HI0.out; have hrb := HRB.out; (try rw [hi0] at c0); simp [slNext, *]⟩
      clear c0
      go_enter Try.func70, Try.ntmps70
      go_wp2_with (first
        | (guard_target = wpList _ _ _ (⟨some 5, .alloc _, _, _, _, _⟩ :: _) _ _; refine wpl (o := ⟨some 5, .alloc _, _, _, _, _⟩) rfl fun K hK => ?_; go_must (refine op_alloc hs rfl _ zframe [.int .u32 0, .int .u32 0, .int .u8 0, .slice none 0 0] rfl fun b5 w1 h => hK _ _ ?_); clear hs hK K; have hs := h; clear h; try dsimp only [List.set] at hs)
        | (guard_target = wpList _ _ _ (⟨some 12, .load _ _, _, _, _, _⟩ :: _) _ _; refine wpl (o := ⟨some 12, .load _ _, _, _, _, _⟩) rfl fun K hK => op_load rfl (ad := ⟨bi, 0, none⟩) rfl (by kernel_rfl) (hs.cell m1 rfl) (hK _ _ ?_); clear hK K)
        | (guard_target = wpList _ _ _ (⟨some 14, .load _ _, _, _, _, _⟩ :: _) _ _; refine wpl (o := ⟨some 14, .load _ _, _, _, _, _⟩) rfl fun K hK => op_load rfl (ad := ⟨ba, 1, none⟩) rfl (by kernel_rfl) (hs.cell m2 rfl) (hK _ _ ?_); clear hK K))
      have cS : ∀ w M, Sat W w M → row bi [.int .i64 (i : Nat)] 3 ∈ M → row ba (areaC (first : Nat) (size : Nat)) 31 ∈ M → row bd [.pointer (some ⟨b, 0, none⟩)] 25 ∈ M → row bw [.int .i64 (which : Nat)] 3 ∈ M → rdS bi ba bd bw b (first : Nat) (size : Nat) which i w := fun w M h h1 h2 h3 h4 => ⟨h.cell h1 rfl, range_whole h h2, h.cell h3 rfl, h.cell h4 rfl⟩
      have d18 : ∀ w, rdS bi ba bd bw b (first : Nat) (size : Nat) which i w → w.cell? ⟨bd, 0, none⟩ = some (.pointer (some ⟨b, 0, none⟩)) := fun w h => h.2.2.1
      have d19 : ∀ w, rdS bi ba bd bw b (first : Nat) (size : Nat) which i w → w.rangeAt ba 0 (areaC (first : Nat) (size : Nat)) := fun w h => h.2.1
      have d20 : ∀ w, rdS bi ba bd bw b (first : Nat) (size : Nat) which i w → w.cell? ⟨bw, 0, none⟩ = some (.int .i64 (which : Nat)) := fun w h => h.2.2.2
      have d21 : ∀ w, rdS bi ba bd bw b (first : Nat) (size : Nat) which i w → w.cell? ⟨bi, 0, none⟩ = some (.int .i64 (i : Nat)) := fun w h => h.1
      have hS0 := cS _ _ hs.drew (by (try dsimp only [List.set]); repeat (first | with_reducible exact List.mem_cons_self | with_reducible apply List.mem_cons_of_mem)) (by (try dsimp only [List.set]); repeat (first | with_reducible exact List.mem_cons_self | with_reducible apply List.mem_cons_of_mem)) (by (try dsimp only [List.set]); repeat (first | with_reducible exact List.mem_cons_self | with_reducible apply List.mem_cons_of_mem)) (by (try dsimp only [List.set]); repeat (first | with_reducible exact List.mem_cons_self | with_reducible apply List.mem_cons_of_mem))
      refine wp_region_tree (rdS bi ba bd bw b (first : Nat) (size : Nat) which i) (.take 0 (.take 1 (.take 2 (.take 3 (.all [(4, .all [(5, .take 6 (.take 7 (.take 8 (.take 9 (.take 10 (DTree.done))))))])]))))) (by kernel_rfl) (by kernel_rfl) (by kernel_rfl) (fun _ _ d _ _ h => by cases d <;> exact h) hS0 ?_
      have hs' := hs.drew
      clear hs
      have hs := hs'
      clear hs'
      have hq := fun p : Prop => class_const hS0 p
      clear hS0
      repeat (first
        | (with_reducible refine tree_load (o := ⟨some 18, .load _ _, _, _, _, _⟩) rfl rfl rfl rfl rfl d18 ?_)
        | (with_reducible refine tree_load_agg (o := ⟨some 19, .load _ _, _, _, _, _⟩) (areaC (first : Nat) (size : Nat)) rfl rfl rfl rfl ?_ ?_ d19 ?_; (kernel_rfl); (kernel_rfl))
        | (with_reducible refine tree_load (o := ⟨some 20, .load _ _, _, _, _, _⟩) rfl rfl rfl rfl rfl d20 ?_)
        | (with_reducible refine tree_load (o := ⟨some 21, .load _ _, _, _, _, _⟩) rfl rfl rfl rfl rfl d21 ?_)
        | (refine tree_take rfl (fun K hK => ?_); go_simp; with_reducible refine hK _ ?_; clear hK K))
      refine tree_one_yes (o := _) rfl rfl (fun K hK => ?_) (cS _ _ hs (by (try dsimp only [List.set]); repeat (first | with_reducible exact List.mem_cons_self | with_reducible apply List.mem_cons_of_mem)) (by (try dsimp only [List.set]); repeat (first | with_reducible exact List.mem_cons_self | with_reducible apply List.mem_cons_of_mem)) (by (try dsimp only [List.set]); repeat (first | with_reducible exact List.mem_cons_self | with_reducible apply List.mem_cons_of_mem)) (by (try dsimp only [List.set]); repeat (first | with_reducible exact List.mem_cons_self | with_reducible apply List.mem_cons_of_mem)))
      try go_simp
      go_at_call 48
      refine (slat_spec W _ _ hs first size which i hle.out hwh (by omega)).mono ?_
      clear hs
      rintro e w5 ⟨rfl, hs⟩
      try go_simp
      refine hK _ _ (cS _ _ hs (by (try dsimp only [List.set]); repeat (first | with_reducible exact List.mem_cons_self | with_reducible apply List.mem_cons_of_mem)) (by (try dsimp only [List.set]); repeat (first | with_reducible exact List.mem_cons_self | with_reducible apply List.mem_cons_of_mem)) (by (try dsimp only [List.set]); repeat (first | with_reducible exact List.mem_cons_self | with_reducible apply List.mem_cons_of_mem)) (by (try dsimp only [List.set]); repeat (first | with_reducible exact List.mem_cons_self | with_reducible apply List.mem_cons_of_mem))) ?_
      clear hK K
      refine tree_one_yes (o := _) rfl rfl (fun K hK => ?_) (cS _ _ hs (by (try dsimp only [List.set]); repeat (first | with_reducible exact List.mem_cons_self | with_reducible apply List.mem_cons_of_mem)) (by (try dsimp only [List.set]); repeat (first | with_reducible exact List.mem_cons_self | with_reducible apply List.mem_cons_of_mem)) (by (try dsimp only [List.set]); repeat (first | with_reducible exact List.mem_cons_self | with_reducible apply List.mem_cons_of_mem)) (by (try dsimp only [List.set]); repeat (first | with_reducible exact List.mem_cons_self | with_reducible apply List.mem_cons_of_mem)))
      try go_simp
      go_at_call 35
      refine (read_spec W _ _ b D (hs.pick (A := disk b D) (by repeat (first | with_reducible exact Pick.here | with_reducible apply Pick.there))) (first + size * which + i) hHadr.out hr).mono ?_
      clear hs
      rintro e w5 ⟨bb, rfl, hs⟩
      rw [HP.out] at hs
      try go_simp
      refine hK _ _ (cS _ _ hs (by (try dsimp only [List.set]); repeat (first | with_reducible exact List.mem_cons_self | with_reducible apply List.mem_cons_of_mem)) (by (try dsimp only [List.set]); repeat (first | with_reducible exact List.mem_cons_self | with_reducible apply List.mem_cons_of_mem)) (by (try dsimp only [List.set]); repeat (first | with_reducible exact List.mem_cons_self | with_reducible apply List.mem_cons_of_mem)) (by (try dsimp only [List.set]); repeat (first | with_reducible exact List.mem_cons_self | with_reducible apply List.mem_cons_of_mem))) ?_
      clear hK K
      repeat (first
        | (with_reducible refine tree_load (o := ⟨some 18, .load _ _, _, _, _, _⟩) rfl rfl rfl rfl rfl d18 ?_)
        | (with_reducible refine tree_load_agg (o := ⟨some 19, .load _ _, _, _, _, _⟩) (areaC (first : Nat) (size : Nat)) rfl rfl rfl rfl ?_ ?_ d19 ?_; (kernel_rfl); (kernel_rfl))
        | (with_reducible refine tree_load (o := ⟨some 20, .load _ _, _, _, _, _⟩) rfl rfl rfl rfl rfl d20 ?_)
        | (with_reducible refine tree_load (o := ⟨some 21, .load _ _, _, _, _, _⟩) rfl rfl rfl rfl rfl d21 ?_)
        | (refine tree_take rfl (fun K hK => ?_); go_simp; with_reducible refine hK _ ?_; clear hK K))
      refine tree_done ?_
      clear hq cS d18 d19 d20 d21
      go_wp2_with (first
        | (go_at_call 71; go_must (refine (fparse_spec W _ _ hs _ P (lit_bytes (b := bb) (t := 111) 0 rfl 64 HL.out (by omega)) (by rw [HL.out]; omega)).mono ?_); clear hs; rintro e w1 ⟨vx, rfl, hs⟩; rw [HFC.out.1, HFC.out.2]; rw [HFC.out.1] at hs
           obtain ⟨Ax, cx, rfl, _, _⟩ := slice_form (hs.bytes (bytesH_has 0 rfl)))
        | (guard_target = wpList _ _ _ (⟨some 9, .alloc _, _, _, _, _⟩ :: _) _ _; refine wpl (o := ⟨some 9, .alloc _, _, _, _, _⟩) rfl fun K hK => ?_; go_must (refine op_alloc hs rfl _ zframe [.int .u32 0, .int .u32 0, .int .u8 0, .slice none 0 0] rfl fun b9 w1 h => hK _ _ ?_); clear hs hK K; have hs := h; clear h; try dsimp only [List.set] at hs)
        | (guard_target = wpList _ _ _ (⟨none, .store _ (.tmp 9) _, _, _, _, _⟩ :: _) _ _; refine wpl (o := ⟨none, .store _ (.tmp 9) _, _, _, _, _⟩) rfl fun K hK => ?_; go_must (refine op_store_whole hs (b := b9) rfl rfl (frCells f (.slice Ax f.body.length cx)) rfl (by simp [frCells, Value.oneCell']) (by kernel_rfl) (k := 0) rfl rfl fun w9 h => hK _ _ ?_); clear hs hK K; have hs := h; clear h; dsimp only [List.set] at hs)
        | (guard_target = wpList _ _ _ (⟨some 31, .load _ _, _, _, _, _⟩ :: _) _ _; refine wpl (o := ⟨some 31, .load _ _, _, _, _, _⟩) rfl fun K hK => op_load rfl (ad := ⟨bi, 0, none⟩) rfl (by kernel_rfl) (hs.cell (l := [.int .i64 (i : Nat)]) (t := 3) (by (try dsimp only [List.set]); repeat (first | with_reducible exact List.mem_cons_self | with_reducible apply List.mem_cons_of_mem)) rfl) (hK _ _ ?_); clear hK K)
        | (guard_target = wpList _ _ _ (⟨some 34, .load _ _, _, _, _, _⟩ :: _) _ _; refine wpl (o := ⟨some 34, .load _ _, _, _, _, _⟩) rfl fun K hK => op_load rfl (ad := ⟨b9, 0, none⟩) rfl (by kernel_rfl) (hs.cell m0 rfl) (hK _ _ ?_); clear hK K)
        | (guard_target = wpList _ _ _ (⟨none, .store _ (.tmp 4) _, _, _, _, _⟩ :: _) _ _; refine wpl (o := ⟨none, .store _ (.tmp 4) _, _, _, _, _⟩) rfl fun K hK => ?_; go_must (refine op_store (hs.pick (A := row bg [.int .u32 (gen : Nat)] 27) (by repeat (first | with_reducible exact Pick.here | with_reducible apply Pick.there))) rfl (b := bg) (i := 0) (v := .int .u32 (f.epoch : Nat)) rfl rfl rfl (by kernel_rfl) (k := 0) rfl (by simp) fun w8 h => hK _ _ ?_); clear hs hK K; have hs := h; clear h; dsimp only [List.set] at hs; rw [HGE.out] at hs
           have k38 : w8.cell? ⟨bg, 0, none⟩ = some (.int .u32 (g : Nat)) := hs.cell (l := [.int .u32 (g : Nat)]) (t := 27) (by (try dsimp only [List.set]); repeat (first | with_reducible exact List.mem_cons_self | with_reducible apply List.mem_cons_of_mem)) rfl
           have k44 : w8.cell? ⟨bw, 0, none⟩ = some (.int .i64 (which : Nat)) := hs.cell (l := [.int .i64 (which : Nat)]) (t := 3) (by (try dsimp only [List.set]); repeat (first | with_reducible exact List.mem_cons_self | with_reducible apply List.mem_cons_of_mem)) rfl
           have k50 : w8.cell? ⟨b9, 0, none⟩ = some (.int .u32 (f.epoch : Nat)) := hs.cell (l := (frCells f (.slice Ax f.body.length cx))) (t := 107) (by (try dsimp only [List.set]); repeat (first | with_reducible exact List.mem_cons_self | with_reducible apply List.mem_cons_of_mem)) rfl
           have k56 : w8.cell? ⟨b9, 1, none⟩ = some (.int .u32 (f.seq : Nat)) := hs.cell (l := (frCells f (.slice Ax f.body.length cx))) (t := 107) (by (try dsimp only [List.set]); repeat (first | with_reducible exact List.mem_cons_self | with_reducible apply List.mem_cons_of_mem)) rfl
           have k63 : w8.cell? ⟨b9, 2, none⟩ = some (.int .u8 f.flag.toNat) := hs.cell (l := (frCells f (.slice Ax f.body.length cx))) (t := 107) (by (try dsimp only [List.set]); repeat (first | with_reducible exact List.mem_cons_self | with_reducible apply List.mem_cons_of_mem)) rfl
           have k66 : w8.cell? ⟨bi, 0, none⟩ = some (.int .i64 (i : Nat)) := hs.cell (l := [.int .i64 (i : Nat)]) (t := 3) (by (try dsimp only [List.set]); repeat (first | with_reducible exact List.mem_cons_self | with_reducible apply List.mem_cons_of_mem)) rfl)
        | (guard_target = wpList _ _ _ (⟨some 38, .load _ _, _, _, _, _⟩ :: _) _ _; refine wpl (o := ⟨some 38, .load _ _, _, _, _, _⟩) rfl fun K hK => op_load rfl (ad := ⟨bg, 0, none⟩) rfl (by kernel_rfl) k38 (hK _ _ ?_); clear hK K)
        | (guard_target = wpList _ _ _ (⟨some 42, .load _ _, _, _, _, _⟩ :: _) _ _; refine wpl (o := ⟨some 42, .load _ _, _, _, _, _⟩) rfl fun K hK => op_load rfl (ad := ⟨bg, 0, none⟩) rfl (by kernel_rfl) k38 (hK _ _ ?_); clear hK K)
        | (guard_target = wpList _ _ _ (⟨some 44, .load _ _, _, _, _, _⟩ :: _) _ _; refine wpl (o := ⟨some 44, .load _ _, _, _, _, _⟩) rfl fun K hK => op_load rfl (ad := ⟨bw, 0, none⟩) rfl (by kernel_rfl) k44 (hK _ _ ?_); clear hK K)
        | (guard_target = wpList _ _ _ (⟨some 50, .load _ _, _, _, _, _⟩ :: _) _ _; refine wpl (o := ⟨some 50, .load _ _, _, _, _, _⟩) rfl fun K hK => op_load rfl (ad := ⟨b9, 0, none⟩) rfl (by kernel_rfl) k50 (hK _ _ ?_); clear hK K)
        | (guard_target = wpList _ _ _ (⟨some 51, .load _ _, _, _, _, _⟩ :: _) _ _; refine wpl (o := ⟨some 51, .load _ _, _, _, _, _⟩) rfl fun K hK => op_load rfl (ad := ⟨bg, 0, none⟩) rfl (by kernel_rfl) k38 (hK _ _ ?_); clear hK K)
        | (guard_target = wpList _ _ _ (⟨some 56, .load _ _, _, _, _, _⟩ :: _) _ _; refine wpl (o := ⟨some 56, .load _ _, _, _, _, _⟩) rfl fun K hK => op_load rfl (ad := ⟨b9, 1, none⟩) rfl (by kernel_rfl) k56 (hK _ _ ?_); clear hK K)
        | (guard_target = wpList _ _ _ (⟨some 57, .load _ _, _, _, _, _⟩ :: _) _ _; refine wpl (o := ⟨some 57, .load _ _, _, _, _, _⟩) rfl fun K hK => op_load rfl (ad := ⟨bi, 0, none⟩) rfl (by kernel_rfl) k66 (hK _ _ ?_); clear hK K)
        | (guard_target = wpList _ _ _ (⟨some 63, .load _ _, _, _, _, _⟩ :: _) _ _; refine wpl (o := ⟨some 63, .load _ _, _, _, _, _⟩) rfl fun K hK => op_load rfl (ad := ⟨b9, 2, none⟩) rfl (by kernel_rfl) k63 (hK _ _ ?_); clear hK K)
        | (guard_target = wpList _ _ _ (⟨some 66, .load _ _, _, _, _, _⟩ :: _) _ _; refine wpl (o := ⟨some 66, .load _ _, _, _, _, _⟩) rfl fun K hK => op_load rfl (ad := ⟨bi, 0, none⟩) rfl (by kernel_rfl) k66 (hK _ _ ?_); clear hK K)
        | (guard_target = wpList _ _ _ (⟨some 70, .load _ _, _, _, _, _⟩ :: _) _ _; refine wpl (o := ⟨some 70, .load _ _, _, _, _, _⟩) rfl fun K hK => op_load rfl (ad := ⟨bi, 0, none⟩) rfl (by kernel_rfl) k66 (hK _ _ ?_); clear hK K)
        | (guard_target = wpList _ _ _ (⟨none, .store _ (.tmp 0) _, _, _, _, _⟩ :: _) _ _; refine wpl (o := ⟨none, .store _ (.tmp 0) _, _, _, _, _⟩) rfl fun K hK => ?_; go_must (refine op_store (hs.pick (A := row bi [.int .i64 (i : Nat)] 3) (by repeat (first | with_reducible exact Pick.here | with_reducible apply Pick.there))) rfl (b := bi) (i := 0) (v := .int .i64 (((i + 1 : Nat) : Int))) rfl rfl rfl (by kernel_rfl) (k := 0) rfl (by simp) fun w5 h => hK _ _ ?_); clear hs hK K; have hs := h; clear h; try dsimp only [List.set] at hs)
        | (guard_target = wpList _ _ _ (⟨some 72, .load _ _, _, _, _, _⟩ :: _) _ _; refine wpl (o := ⟨some 72, .load _ _, _, _, _, _⟩) rfl fun K hK => op_load_agg rfl (b := b9) (i := 0) rfl (frCells f (.slice Ax f.body.length cx)) (range_whole hs (by (try dsimp only [List.set]); repeat (first | with_reducible exact List.mem_cons_self | with_reducible apply List.mem_cons_of_mem))) (by kernel_rfl) (by kernel_rfl) (hK _ _ ?_); clear hK K)
        | (guard_target = wpList _ _ _ (⟨none, .store _ (.tmp 5) _, _, _, _, _⟩ :: _) _ _; refine wpl (o := ⟨none, .store _ (.tmp 5) _, _, _, _, _⟩) rfl fun K hK => ?_; go_must (refine op_store_whole (hs.pick (A := row b5 [.int .u32 0, .int .u32 0, .int .u8 0, .slice none 0 0] 107) (by repeat (first | with_reducible exact Pick.here | with_reducible apply Pick.there))) (b := b5) rfl rfl (frCells f (.slice Ax f.body.length cx)) rfl (by simp [frCells, Value.oneCell']) (by kernel_rfl) (k := 0) rfl rfl fun w3 h => hK _ _ ?_); clear hs hK K; have hs := h; clear h; try dsimp only [List.set] at hs))
      refine bodyPost_ret (run_results_cell_tmp' rfl (b := b5) rfl _ (range_whole hs m0) (by kernel_rfl) (by kernel_rfl)) rfl ?_
      refine ⟨.slice Ax f.body.length cx, by rw [HN.out]; rfl, ?_⟩
      exact hs.pack (by repeat (first | with_reducible exact Pack.refl | with_reducible exact Pack.nil | with_reducible refine Pack.cons (by repeat (first | with_reducible exact Pick.here | with_reducible apply Pick.there)) ?_ | with_reducible apply Pack.drop))
  · have hz : ((i : Int) == 0) = false := by simp; omega
    have hgg : g = gen := by rw [← HG.out, if_neg hi0]
    subst hgg
    have HI0 := Box.mk hi0
    clear hi0
    by_cases c0 : code = 0
    · have e0 : ((code : Int) == 0) = true := by simp; omega
      have C0 := Box.mk c0
      clear c0
      by_cases c1 : g ≠ 0
      · have e1 : ((g : Int) != 0) = true := by simp; omega
        have C1 := Box.mk c1
        clear c1
        by_cases c2 : g % 2 = which
        · have e2 : (((g % 2 : Nat) : Int) == (which : Int)) = true := by simp; omega
          have e2b : ((g : Int) % 2 == (which : Int)) = true := by rw [← e2]; push_cast; rfl
          have C2 := Box.mk c2
          clear c2
          by_cases c3 : f.epoch = g
          · have e3 : ((f.epoch : Int) == (g : Int)) = true := by simp; omega
            have C3 := Box.mk c3
            clear c3
            by_cases c4 : f.seq = i
            · have e4 : ((f.seq : Int) == (i : Int)) = true := by simp; omega
              have C4 := Box.mk c4
              clear c4
              cases r1
              · have HN : Box (slNext which i g f code = true) := ⟨by have c0 := C0.out; have c1 := C1.out; have c2 := C2.out; have c3 := C3.out; have c4 := C4.out; have hi0 := HI0.out; have hrb := HRB.out; simp [slNext, *]⟩
                go_enter Try.func70, Try.ntmps70
                go_wp2_with (first
                  | (guard_target = wpList _ _ _ (⟨some 5, .alloc _, _, _, _, _⟩ :: _) _ _; refine wpl (o := ⟨some 5, .alloc _, _, _, _, _⟩) rfl fun K hK => ?_; go_must (refine op_alloc hs rfl _ zframe [.int .u32 0, .int .u32 0, .int .u8 0, .slice none 0 0] rfl fun b5 w1 h => hK _ _ ?_); clear hs hK K; have hs := h; clear h; try dsimp only [List.set] at hs)
                  | (guard_target = wpList _ _ _ (⟨some 12, .load _ _, _, _, _, _⟩ :: _) _ _; refine wpl (o := ⟨some 12, .load _ _, _, _, _, _⟩) rfl fun K hK => op_load rfl (ad := ⟨bi, 0, none⟩) rfl (by kernel_rfl) (hs.cell m1 rfl) (hK _ _ ?_); clear hK K)
                  | (guard_target = wpList _ _ _ (⟨some 14, .load _ _, _, _, _, _⟩ :: _) _ _; refine wpl (o := ⟨some 14, .load _ _, _, _, _, _⟩) rfl fun K hK => op_load rfl (ad := ⟨ba, 1, none⟩) rfl (by kernel_rfl) (hs.cell m2 rfl) (hK _ _ ?_); clear hK K))
                have cS : ∀ w M, Sat W w M → row bi [.int .i64 (i : Nat)] 3 ∈ M → row ba (areaC (first : Nat) (size : Nat)) 31 ∈ M → row bd [.pointer (some ⟨b, 0, none⟩)] 25 ∈ M → row bw [.int .i64 (which : Nat)] 3 ∈ M → rdS bi ba bd bw b (first : Nat) (size : Nat) which i w := fun w M h h1 h2 h3 h4 => ⟨h.cell h1 rfl, range_whole h h2, h.cell h3 rfl, h.cell h4 rfl⟩
                have d18 : ∀ w, rdS bi ba bd bw b (first : Nat) (size : Nat) which i w → w.cell? ⟨bd, 0, none⟩ = some (.pointer (some ⟨b, 0, none⟩)) := fun w h => h.2.2.1
                have d19 : ∀ w, rdS bi ba bd bw b (first : Nat) (size : Nat) which i w → w.rangeAt ba 0 (areaC (first : Nat) (size : Nat)) := fun w h => h.2.1
                have d20 : ∀ w, rdS bi ba bd bw b (first : Nat) (size : Nat) which i w → w.cell? ⟨bw, 0, none⟩ = some (.int .i64 (which : Nat)) := fun w h => h.2.2.2
                have d21 : ∀ w, rdS bi ba bd bw b (first : Nat) (size : Nat) which i w → w.cell? ⟨bi, 0, none⟩ = some (.int .i64 (i : Nat)) := fun w h => h.1
                have hS0 := cS _ _ hs.drew (by (try dsimp only [List.set]); repeat (first | with_reducible exact List.mem_cons_self | with_reducible apply List.mem_cons_of_mem)) (by (try dsimp only [List.set]); repeat (first | with_reducible exact List.mem_cons_self | with_reducible apply List.mem_cons_of_mem)) (by (try dsimp only [List.set]); repeat (first | with_reducible exact List.mem_cons_self | with_reducible apply List.mem_cons_of_mem)) (by (try dsimp only [List.set]); repeat (first | with_reducible exact List.mem_cons_self | with_reducible apply List.mem_cons_of_mem))
                refine wp_region_tree (rdS bi ba bd bw b (first : Nat) (size : Nat) which i) (.take 0 (.take 1 (.take 2 (.take 3 (.all [(4, .all [(5, .take 6 (.take 7 (.take 8 (.take 9 (.take 10 (DTree.done))))))])]))))) (by kernel_rfl) (by kernel_rfl) (by kernel_rfl) (fun _ _ d _ _ h => by cases d <;> exact h) hS0 ?_
                have hs' := hs.drew
                clear hs
                have hs := hs'
                clear hs'
                have hq := fun p : Prop => class_const hS0 p
                clear hS0
                repeat (first
                  | (with_reducible refine tree_load (o := ⟨some 18, .load _ _, _, _, _, _⟩) rfl rfl rfl rfl rfl d18 ?_)
                  | (with_reducible refine tree_load_agg (o := ⟨some 19, .load _ _, _, _, _, _⟩) (areaC (first : Nat) (size : Nat)) rfl rfl rfl rfl ?_ ?_ d19 ?_; (kernel_rfl); (kernel_rfl))
                  | (with_reducible refine tree_load (o := ⟨some 20, .load _ _, _, _, _, _⟩) rfl rfl rfl rfl rfl d20 ?_)
                  | (with_reducible refine tree_load (o := ⟨some 21, .load _ _, _, _, _, _⟩) rfl rfl rfl rfl rfl d21 ?_)
                  | (refine tree_take rfl (fun K hK => ?_); go_simp; with_reducible refine hK _ ?_; clear hK K))
                refine tree_one_yes (o := _) rfl rfl (fun K hK => ?_) (cS _ _ hs (by (try dsimp only [List.set]); repeat (first | with_reducible exact List.mem_cons_self | with_reducible apply List.mem_cons_of_mem)) (by (try dsimp only [List.set]); repeat (first | with_reducible exact List.mem_cons_self | with_reducible apply List.mem_cons_of_mem)) (by (try dsimp only [List.set]); repeat (first | with_reducible exact List.mem_cons_self | with_reducible apply List.mem_cons_of_mem)) (by (try dsimp only [List.set]); repeat (first | with_reducible exact List.mem_cons_self | with_reducible apply List.mem_cons_of_mem)))
                try go_simp
                go_at_call 48
                refine (slat_spec W _ _ hs first size which i hle.out hwh (by omega)).mono ?_
                clear hs
                rintro e w5 ⟨rfl, hs⟩
                try go_simp
                refine hK _ _ (cS _ _ hs (by (try dsimp only [List.set]); repeat (first | with_reducible exact List.mem_cons_self | with_reducible apply List.mem_cons_of_mem)) (by (try dsimp only [List.set]); repeat (first | with_reducible exact List.mem_cons_self | with_reducible apply List.mem_cons_of_mem)) (by (try dsimp only [List.set]); repeat (first | with_reducible exact List.mem_cons_self | with_reducible apply List.mem_cons_of_mem)) (by (try dsimp only [List.set]); repeat (first | with_reducible exact List.mem_cons_self | with_reducible apply List.mem_cons_of_mem))) ?_
                clear hK K
                refine tree_one_yes (o := _) rfl rfl (fun K hK => ?_) (cS _ _ hs (by (try dsimp only [List.set]); repeat (first | with_reducible exact List.mem_cons_self | with_reducible apply List.mem_cons_of_mem)) (by (try dsimp only [List.set]); repeat (first | with_reducible exact List.mem_cons_self | with_reducible apply List.mem_cons_of_mem)) (by (try dsimp only [List.set]); repeat (first | with_reducible exact List.mem_cons_self | with_reducible apply List.mem_cons_of_mem)) (by (try dsimp only [List.set]); repeat (first | with_reducible exact List.mem_cons_self | with_reducible apply List.mem_cons_of_mem)))
                try go_simp
                go_at_call 35
                refine (read_spec W _ _ b D (hs.pick (A := disk b D) (by repeat (first | with_reducible exact Pick.here | with_reducible apply Pick.there))) (first + size * which + i) hHadr.out hr).mono ?_
                clear hs
                rintro e w5 ⟨bb, rfl, hs⟩
                rw [HP.out] at hs
                try go_simp
                refine hK _ _ (cS _ _ hs (by (try dsimp only [List.set]); repeat (first | with_reducible exact List.mem_cons_self | with_reducible apply List.mem_cons_of_mem)) (by (try dsimp only [List.set]); repeat (first | with_reducible exact List.mem_cons_self | with_reducible apply List.mem_cons_of_mem)) (by (try dsimp only [List.set]); repeat (first | with_reducible exact List.mem_cons_self | with_reducible apply List.mem_cons_of_mem)) (by (try dsimp only [List.set]); repeat (first | with_reducible exact List.mem_cons_self | with_reducible apply List.mem_cons_of_mem))) ?_
                clear hK K
                repeat (first
                  | (with_reducible refine tree_load (o := ⟨some 18, .load _ _, _, _, _, _⟩) rfl rfl rfl rfl rfl d18 ?_)
                  | (with_reducible refine tree_load_agg (o := ⟨some 19, .load _ _, _, _, _, _⟩) (areaC (first : Nat) (size : Nat)) rfl rfl rfl rfl ?_ ?_ d19 ?_; (kernel_rfl); (kernel_rfl))
                  | (with_reducible refine tree_load (o := ⟨some 20, .load _ _, _, _, _, _⟩) rfl rfl rfl rfl rfl d20 ?_)
                  | (with_reducible refine tree_load (o := ⟨some 21, .load _ _, _, _, _, _⟩) rfl rfl rfl rfl rfl d21 ?_)
                  | (refine tree_take rfl (fun K hK => ?_); go_simp; with_reducible refine hK _ ?_; clear hK K))
                refine tree_done ?_
                clear hq cS d18 d19 d20 d21
                go_wp2_with (first
                  | (go_at_call 71; go_must (refine (fparse_spec W _ _ hs _ P (lit_bytes (b := bb) (t := 111) 0 rfl 64 HL.out (by omega)) (by rw [HL.out]; omega)).mono ?_); clear hs; rintro e w1 ⟨vx, rfl, hs⟩; rw [HFC.out.1, HFC.out.2]; rw [HFC.out.1] at hs
                     obtain ⟨Ax, cx, rfl, _, _⟩ := slice_form (hs.bytes (bytesH_has 0 rfl)))
                  | (guard_target = wpList _ _ _ (⟨some 9, .alloc _, _, _, _, _⟩ :: _) _ _; refine wpl (o := ⟨some 9, .alloc _, _, _, _, _⟩) rfl fun K hK => ?_; go_must (refine op_alloc hs rfl _ zframe [.int .u32 0, .int .u32 0, .int .u8 0, .slice none 0 0] rfl fun b9 w1 h => hK _ _ ?_); clear hs hK K; have hs := h; clear h; try dsimp only [List.set] at hs)
                  | (guard_target = wpList _ _ _ (⟨none, .store _ (.tmp 9) _, _, _, _, _⟩ :: _) _ _; refine wpl (o := ⟨none, .store _ (.tmp 9) _, _, _, _, _⟩) rfl fun K hK => ?_; go_must (refine op_store_whole hs (b := b9) rfl rfl (frCells f (.slice Ax f.body.length cx)) rfl (by simp [frCells, Value.oneCell']) (by kernel_rfl) (k := 0) rfl rfl fun w9 h => hK _ _ ?_); clear hs hK K; have hs := h; clear h; dsimp only [List.set] at hs
                     have k38 : w9.cell? ⟨bg, 0, none⟩ = some (.int .u32 (g : Nat)) := hs.cell (l := [.int .u32 (g : Nat)]) (t := 27) (by (try dsimp only [List.set]); repeat (first | with_reducible exact List.mem_cons_self | with_reducible apply List.mem_cons_of_mem)) rfl
                     have k44 : w9.cell? ⟨bw, 0, none⟩ = some (.int .i64 (which : Nat)) := hs.cell (l := [.int .i64 (which : Nat)]) (t := 3) (by (try dsimp only [List.set]); repeat (first | with_reducible exact List.mem_cons_self | with_reducible apply List.mem_cons_of_mem)) rfl
                     have k50 : w9.cell? ⟨b9, 0, none⟩ = some (.int .u32 (f.epoch : Nat)) := hs.cell (l := (frCells f (.slice Ax f.body.length cx))) (t := 107) (by (try dsimp only [List.set]); repeat (first | with_reducible exact List.mem_cons_self | with_reducible apply List.mem_cons_of_mem)) rfl
                     have k56 : w9.cell? ⟨b9, 1, none⟩ = some (.int .u32 (f.seq : Nat)) := hs.cell (l := (frCells f (.slice Ax f.body.length cx))) (t := 107) (by (try dsimp only [List.set]); repeat (first | with_reducible exact List.mem_cons_self | with_reducible apply List.mem_cons_of_mem)) rfl
                     have k63 : w9.cell? ⟨b9, 2, none⟩ = some (.int .u8 f.flag.toNat) := hs.cell (l := (frCells f (.slice Ax f.body.length cx))) (t := 107) (by (try dsimp only [List.set]); repeat (first | with_reducible exact List.mem_cons_self | with_reducible apply List.mem_cons_of_mem)) rfl
                     have k66 : w9.cell? ⟨bi, 0, none⟩ = some (.int .i64 (i : Nat)) := hs.cell (l := [.int .i64 (i : Nat)]) (t := 3) (by (try dsimp only [List.set]); repeat (first | with_reducible exact List.mem_cons_self | with_reducible apply List.mem_cons_of_mem)) rfl)
                  | (guard_target = wpList _ _ _ (⟨some 31, .load _ _, _, _, _, _⟩ :: _) _ _; refine wpl (o := ⟨some 31, .load _ _, _, _, _, _⟩) rfl fun K hK => op_load rfl (ad := ⟨bi, 0, none⟩) rfl (by kernel_rfl) (hs.cell (l := [.int .i64 (i : Nat)]) (t := 3) (by (try dsimp only [List.set]); repeat (first | with_reducible exact List.mem_cons_self | with_reducible apply List.mem_cons_of_mem)) rfl) (hK _ _ ?_); clear hK K)
                  | (guard_target = wpList _ _ _ (⟨some 38, .load _ _, _, _, _, _⟩ :: _) _ _; refine wpl (o := ⟨some 38, .load _ _, _, _, _, _⟩) rfl fun K hK => op_load rfl (ad := ⟨bg, 0, none⟩) rfl (by kernel_rfl) k38 (hK _ _ ?_); clear hK K)
                  | (guard_target = wpList _ _ _ (⟨some 42, .load _ _, _, _, _, _⟩ :: _) _ _; refine wpl (o := ⟨some 42, .load _ _, _, _, _, _⟩) rfl fun K hK => op_load rfl (ad := ⟨bg, 0, none⟩) rfl (by kernel_rfl) k38 (hK _ _ ?_); clear hK K)
                  | (guard_target = wpList _ _ _ (⟨some 44, .load _ _, _, _, _, _⟩ :: _) _ _; refine wpl (o := ⟨some 44, .load _ _, _, _, _, _⟩) rfl fun K hK => op_load rfl (ad := ⟨bw, 0, none⟩) rfl (by kernel_rfl) k44 (hK _ _ ?_); clear hK K)
                  | (guard_target = wpList _ _ _ (⟨some 50, .load _ _, _, _, _, _⟩ :: _) _ _; refine wpl (o := ⟨some 50, .load _ _, _, _, _, _⟩) rfl fun K hK => op_load rfl (ad := ⟨b9, 0, none⟩) rfl (by kernel_rfl) k50 (hK _ _ ?_); clear hK K)
                  | (guard_target = wpList _ _ _ (⟨some 51, .load _ _, _, _, _, _⟩ :: _) _ _; refine wpl (o := ⟨some 51, .load _ _, _, _, _, _⟩) rfl fun K hK => op_load rfl (ad := ⟨bg, 0, none⟩) rfl (by kernel_rfl) k38 (hK _ _ ?_); clear hK K)
                  | (guard_target = wpList _ _ _ (⟨some 56, .load _ _, _, _, _, _⟩ :: _) _ _; refine wpl (o := ⟨some 56, .load _ _, _, _, _, _⟩) rfl fun K hK => op_load rfl (ad := ⟨b9, 1, none⟩) rfl (by kernel_rfl) k56 (hK _ _ ?_); clear hK K)
                  | (guard_target = wpList _ _ _ (⟨some 57, .load _ _, _, _, _, _⟩ :: _) _ _; refine wpl (o := ⟨some 57, .load _ _, _, _, _, _⟩) rfl fun K hK => op_load rfl (ad := ⟨bi, 0, none⟩) rfl (by kernel_rfl) k66 (hK _ _ ?_); clear hK K)
                  | (guard_target = wpList _ _ _ (⟨some 63, .load _ _, _, _, _, _⟩ :: _) _ _; refine wpl (o := ⟨some 63, .load _ _, _, _, _, _⟩) rfl fun K hK => op_load rfl (ad := ⟨b9, 2, none⟩) rfl (by kernel_rfl) k63 (hK _ _ ?_); clear hK K)
                  | (guard_target = wpList _ _ _ (⟨some 66, .load _ _, _, _, _, _⟩ :: _) _ _; refine wpl (o := ⟨some 66, .load _ _, _, _, _, _⟩) rfl fun K hK => op_load rfl (ad := ⟨bi, 0, none⟩) rfl (by kernel_rfl) k66 (hK _ _ ?_); clear hK K)
                  | (guard_target = wpList _ _ _ (⟨some 70, .load _ _, _, _, _, _⟩ :: _) _ _; refine wpl (o := ⟨some 70, .load _ _, _, _, _, _⟩) rfl fun K hK => op_load rfl (ad := ⟨bi, 0, none⟩) rfl (by kernel_rfl) k66 (hK _ _ ?_); clear hK K)
                  | (guard_target = wpList _ _ _ (⟨none, .store _ (.tmp 0) _, _, _, _, _⟩ :: _) _ _; refine wpl (o := ⟨none, .store _ (.tmp 0) _, _, _, _, _⟩) rfl fun K hK => ?_; go_must (refine op_store (hs.pick (A := row bi [.int .i64 (i : Nat)] 3) (by repeat (first | with_reducible exact Pick.here | with_reducible apply Pick.there))) rfl (b := bi) (i := 0) (v := .int .i64 (((i + 1 : Nat) : Int))) rfl rfl rfl (by kernel_rfl) (k := 0) rfl (by simp) fun w5 h => hK _ _ ?_); clear hs hK K; have hs := h; clear h; try dsimp only [List.set] at hs)
                  | (guard_target = wpList _ _ _ (⟨some 72, .load _ _, _, _, _, _⟩ :: _) _ _; refine wpl (o := ⟨some 72, .load _ _, _, _, _, _⟩) rfl fun K hK => op_load_agg rfl (b := b9) (i := 0) rfl (frCells f (.slice Ax f.body.length cx)) (range_whole hs (by (try dsimp only [List.set]); repeat (first | with_reducible exact List.mem_cons_self | with_reducible apply List.mem_cons_of_mem))) (by kernel_rfl) (by kernel_rfl) (hK _ _ ?_); clear hK K)
                  | (guard_target = wpList _ _ _ (⟨none, .store _ (.tmp 5) _, _, _, _, _⟩ :: _) _ _; refine wpl (o := ⟨none, .store _ (.tmp 5) _, _, _, _, _⟩) rfl fun K hK => ?_; go_must (refine op_store_whole (hs.pick (A := row b5 [.int .u32 0, .int .u32 0, .int .u8 0, .slice none 0 0] 107) (by repeat (first | with_reducible exact Pick.here | with_reducible apply Pick.there))) (b := b5) rfl rfl (frCells f (.slice Ax f.body.length cx)) rfl (by simp [frCells, Value.oneCell']) (by kernel_rfl) (k := 0) rfl rfl fun w3 h => hK _ _ ?_); clear hs hK K; have hs := h; clear h; try dsimp only [List.set] at hs))
                refine bodyPost_ret (run_results_cell_tmp' rfl (b := b5) rfl _ (range_whole hs m0) (by kernel_rfl) (by kernel_rfl)) rfl ?_
                refine ⟨.slice Ax f.body.length cx, by rw [HN.out]; rfl, ?_⟩
                exact hs.pack (by repeat (first | with_reducible exact Pack.refl | with_reducible exact Pack.nil | with_reducible refine Pack.cons (by repeat (first | with_reducible exact Pick.here | with_reducible apply Pick.there)) ?_ | with_reducible apply Pack.drop))
              · have HN : Box (slNext which i g f code = false) := ⟨by have c0 := C0.out; have c1 := C1.out; have c2 := C2.out; have c3 := C3.out; have c4 := C4.out; have hi0 := HI0.out; have hrb := HRB.out; simp [slNext, *]⟩
                go_enter Try.func70, Try.ntmps70
                go_wp2_with (first
                  | (guard_target = wpList _ _ _ (⟨some 5, .alloc _, _, _, _, _⟩ :: _) _ _; refine wpl (o := ⟨some 5, .alloc _, _, _, _, _⟩) rfl fun K hK => ?_; go_must (refine op_alloc hs rfl _ zframe [.int .u32 0, .int .u32 0, .int .u8 0, .slice none 0 0] rfl fun b5 w1 h => hK _ _ ?_); clear hs hK K; have hs := h; clear h; try dsimp only [List.set] at hs)
                  | (guard_target = wpList _ _ _ (⟨some 12, .load _ _, _, _, _, _⟩ :: _) _ _; refine wpl (o := ⟨some 12, .load _ _, _, _, _, _⟩) rfl fun K hK => op_load rfl (ad := ⟨bi, 0, none⟩) rfl (by kernel_rfl) (hs.cell m1 rfl) (hK _ _ ?_); clear hK K)
                  | (guard_target = wpList _ _ _ (⟨some 14, .load _ _, _, _, _, _⟩ :: _) _ _; refine wpl (o := ⟨some 14, .load _ _, _, _, _, _⟩) rfl fun K hK => op_load rfl (ad := ⟨ba, 1, none⟩) rfl (by kernel_rfl) (hs.cell m2 rfl) (hK _ _ ?_); clear hK K))
                have cS : ∀ w M, Sat W w M → row bi [.int .i64 (i : Nat)] 3 ∈ M → row ba (areaC (first : Nat) (size : Nat)) 31 ∈ M → row bd [.pointer (some ⟨b, 0, none⟩)] 25 ∈ M → row bw [.int .i64 (which : Nat)] 3 ∈ M → rdS bi ba bd bw b (first : Nat) (size : Nat) which i w := fun w M h h1 h2 h3 h4 => ⟨h.cell h1 rfl, range_whole h h2, h.cell h3 rfl, h.cell h4 rfl⟩
                have d18 : ∀ w, rdS bi ba bd bw b (first : Nat) (size : Nat) which i w → w.cell? ⟨bd, 0, none⟩ = some (.pointer (some ⟨b, 0, none⟩)) := fun w h => h.2.2.1
                have d19 : ∀ w, rdS bi ba bd bw b (first : Nat) (size : Nat) which i w → w.rangeAt ba 0 (areaC (first : Nat) (size : Nat)) := fun w h => h.2.1
                have d20 : ∀ w, rdS bi ba bd bw b (first : Nat) (size : Nat) which i w → w.cell? ⟨bw, 0, none⟩ = some (.int .i64 (which : Nat)) := fun w h => h.2.2.2
                have d21 : ∀ w, rdS bi ba bd bw b (first : Nat) (size : Nat) which i w → w.cell? ⟨bi, 0, none⟩ = some (.int .i64 (i : Nat)) := fun w h => h.1
                have hS0 := cS _ _ hs.drew (by (try dsimp only [List.set]); repeat (first | with_reducible exact List.mem_cons_self | with_reducible apply List.mem_cons_of_mem)) (by (try dsimp only [List.set]); repeat (first | with_reducible exact List.mem_cons_self | with_reducible apply List.mem_cons_of_mem)) (by (try dsimp only [List.set]); repeat (first | with_reducible exact List.mem_cons_self | with_reducible apply List.mem_cons_of_mem)) (by (try dsimp only [List.set]); repeat (first | with_reducible exact List.mem_cons_self | with_reducible apply List.mem_cons_of_mem))
                refine wp_region_tree (rdS bi ba bd bw b (first : Nat) (size : Nat) which i) (.take 0 (.take 1 (.take 2 (.take 3 (.all [(4, .all [(5, .take 6 (.take 7 (.take 8 (.take 9 (.take 10 (DTree.done))))))])]))))) (by kernel_rfl) (by kernel_rfl) (by kernel_rfl) (fun _ _ d _ _ h => by cases d <;> exact h) hS0 ?_
                have hs' := hs.drew
                clear hs
                have hs := hs'
                clear hs'
                have hq := fun p : Prop => class_const hS0 p
                clear hS0
                repeat (first
                  | (with_reducible refine tree_load (o := ⟨some 18, .load _ _, _, _, _, _⟩) rfl rfl rfl rfl rfl d18 ?_)
                  | (with_reducible refine tree_load_agg (o := ⟨some 19, .load _ _, _, _, _, _⟩) (areaC (first : Nat) (size : Nat)) rfl rfl rfl rfl ?_ ?_ d19 ?_; (kernel_rfl); (kernel_rfl))
                  | (with_reducible refine tree_load (o := ⟨some 20, .load _ _, _, _, _, _⟩) rfl rfl rfl rfl rfl d20 ?_)
                  | (with_reducible refine tree_load (o := ⟨some 21, .load _ _, _, _, _, _⟩) rfl rfl rfl rfl rfl d21 ?_)
                  | (refine tree_take rfl (fun K hK => ?_); go_simp; with_reducible refine hK _ ?_; clear hK K))
                refine tree_one_yes (o := _) rfl rfl (fun K hK => ?_) (cS _ _ hs (by (try dsimp only [List.set]); repeat (first | with_reducible exact List.mem_cons_self | with_reducible apply List.mem_cons_of_mem)) (by (try dsimp only [List.set]); repeat (first | with_reducible exact List.mem_cons_self | with_reducible apply List.mem_cons_of_mem)) (by (try dsimp only [List.set]); repeat (first | with_reducible exact List.mem_cons_self | with_reducible apply List.mem_cons_of_mem)) (by (try dsimp only [List.set]); repeat (first | with_reducible exact List.mem_cons_self | with_reducible apply List.mem_cons_of_mem)))
                try go_simp
                go_at_call 48
                refine (slat_spec W _ _ hs first size which i hle.out hwh (by omega)).mono ?_
                clear hs
                rintro e w5 ⟨rfl, hs⟩
                try go_simp
                refine hK _ _ (cS _ _ hs (by (try dsimp only [List.set]); repeat (first | with_reducible exact List.mem_cons_self | with_reducible apply List.mem_cons_of_mem)) (by (try dsimp only [List.set]); repeat (first | with_reducible exact List.mem_cons_self | with_reducible apply List.mem_cons_of_mem)) (by (try dsimp only [List.set]); repeat (first | with_reducible exact List.mem_cons_self | with_reducible apply List.mem_cons_of_mem)) (by (try dsimp only [List.set]); repeat (first | with_reducible exact List.mem_cons_self | with_reducible apply List.mem_cons_of_mem))) ?_
                clear hK K
                refine tree_one_yes (o := _) rfl rfl (fun K hK => ?_) (cS _ _ hs (by (try dsimp only [List.set]); repeat (first | with_reducible exact List.mem_cons_self | with_reducible apply List.mem_cons_of_mem)) (by (try dsimp only [List.set]); repeat (first | with_reducible exact List.mem_cons_self | with_reducible apply List.mem_cons_of_mem)) (by (try dsimp only [List.set]); repeat (first | with_reducible exact List.mem_cons_self | with_reducible apply List.mem_cons_of_mem)) (by (try dsimp only [List.set]); repeat (first | with_reducible exact List.mem_cons_self | with_reducible apply List.mem_cons_of_mem)))
                try go_simp
                go_at_call 35
                refine (read_spec W _ _ b D (hs.pick (A := disk b D) (by repeat (first | with_reducible exact Pick.here | with_reducible apply Pick.there))) (first + size * which + i) hHadr.out hr).mono ?_
                clear hs
                rintro e w5 ⟨bb, rfl, hs⟩
                rw [HP.out] at hs
                try go_simp
                refine hK _ _ (cS _ _ hs (by (try dsimp only [List.set]); repeat (first | with_reducible exact List.mem_cons_self | with_reducible apply List.mem_cons_of_mem)) (by (try dsimp only [List.set]); repeat (first | with_reducible exact List.mem_cons_self | with_reducible apply List.mem_cons_of_mem)) (by (try dsimp only [List.set]); repeat (first | with_reducible exact List.mem_cons_self | with_reducible apply List.mem_cons_of_mem)) (by (try dsimp only [List.set]); repeat (first | with_reducible exact List.mem_cons_self | with_reducible apply List.mem_cons_of_mem))) ?_
                clear hK K
                repeat (first
                  | (with_reducible refine tree_load (o := ⟨some 18, .load _ _, _, _, _, _⟩) rfl rfl rfl rfl rfl d18 ?_)
                  | (with_reducible refine tree_load_agg (o := ⟨some 19, .load _ _, _, _, _, _⟩) (areaC (first : Nat) (size : Nat)) rfl rfl rfl rfl ?_ ?_ d19 ?_; (kernel_rfl); (kernel_rfl))
                  | (with_reducible refine tree_load (o := ⟨some 20, .load _ _, _, _, _, _⟩) rfl rfl rfl rfl rfl d20 ?_)
                  | (with_reducible refine tree_load (o := ⟨some 21, .load _ _, _, _, _, _⟩) rfl rfl rfl rfl rfl d21 ?_)
                  | (refine tree_take rfl (fun K hK => ?_); go_simp; with_reducible refine hK _ ?_; clear hK K))
                refine tree_done ?_
                clear hq cS d18 d19 d20 d21
                go_wp2_with (first
                  | (go_at_call 71; go_must (refine (fparse_spec W _ _ hs _ P (lit_bytes (b := bb) (t := 111) 0 rfl 64 HL.out (by omega)) (by rw [HL.out]; omega)).mono ?_); clear hs; rintro e w1 ⟨vx, rfl, hs⟩; rw [HFC.out.1, HFC.out.2]; rw [HFC.out.1] at hs
                     obtain ⟨Ax, cx, rfl, _, _⟩ := slice_form (hs.bytes (bytesH_has 0 rfl)))
                  | (guard_target = wpList _ _ _ (⟨some 9, .alloc _, _, _, _, _⟩ :: _) _ _; refine wpl (o := ⟨some 9, .alloc _, _, _, _, _⟩) rfl fun K hK => ?_; go_must (refine op_alloc hs rfl _ zframe [.int .u32 0, .int .u32 0, .int .u8 0, .slice none 0 0] rfl fun b9 w1 h => hK _ _ ?_); clear hs hK K; have hs := h; clear h; try dsimp only [List.set] at hs)
                  | (guard_target = wpList _ _ _ (⟨none, .store _ (.tmp 9) _, _, _, _, _⟩ :: _) _ _; refine wpl (o := ⟨none, .store _ (.tmp 9) _, _, _, _, _⟩) rfl fun K hK => ?_; go_must (refine op_store_whole hs (b := b9) rfl rfl (frCells f (.slice Ax f.body.length cx)) rfl (by simp [frCells, Value.oneCell']) (by kernel_rfl) (k := 0) rfl rfl fun w9 h => hK _ _ ?_); clear hs hK K; have hs := h; clear h; dsimp only [List.set] at hs
                     have k38 : w9.cell? ⟨bg, 0, none⟩ = some (.int .u32 (g : Nat)) := hs.cell (l := [.int .u32 (g : Nat)]) (t := 27) (by (try dsimp only [List.set]); repeat (first | with_reducible exact List.mem_cons_self | with_reducible apply List.mem_cons_of_mem)) rfl
                     have k44 : w9.cell? ⟨bw, 0, none⟩ = some (.int .i64 (which : Nat)) := hs.cell (l := [.int .i64 (which : Nat)]) (t := 3) (by (try dsimp only [List.set]); repeat (first | with_reducible exact List.mem_cons_self | with_reducible apply List.mem_cons_of_mem)) rfl
                     have k50 : w9.cell? ⟨b9, 0, none⟩ = some (.int .u32 (f.epoch : Nat)) := hs.cell (l := (frCells f (.slice Ax f.body.length cx))) (t := 107) (by (try dsimp only [List.set]); repeat (first | with_reducible exact List.mem_cons_self | with_reducible apply List.mem_cons_of_mem)) rfl
                     have k56 : w9.cell? ⟨b9, 1, none⟩ = some (.int .u32 (f.seq : Nat)) := hs.cell (l := (frCells f (.slice Ax f.body.length cx))) (t := 107) (by (try dsimp only [List.set]); repeat (first | with_reducible exact List.mem_cons_self | with_reducible apply List.mem_cons_of_mem)) rfl
                     have k63 : w9.cell? ⟨b9, 2, none⟩ = some (.int .u8 f.flag.toNat) := hs.cell (l := (frCells f (.slice Ax f.body.length cx))) (t := 107) (by (try dsimp only [List.set]); repeat (first | with_reducible exact List.mem_cons_self | with_reducible apply List.mem_cons_of_mem)) rfl
                     have k66 : w9.cell? ⟨bi, 0, none⟩ = some (.int .i64 (i : Nat)) := hs.cell (l := [.int .i64 (i : Nat)]) (t := 3) (by (try dsimp only [List.set]); repeat (first | with_reducible exact List.mem_cons_self | with_reducible apply List.mem_cons_of_mem)) rfl)
                  | (guard_target = wpList _ _ _ (⟨some 31, .load _ _, _, _, _, _⟩ :: _) _ _; refine wpl (o := ⟨some 31, .load _ _, _, _, _, _⟩) rfl fun K hK => op_load rfl (ad := ⟨bi, 0, none⟩) rfl (by kernel_rfl) (hs.cell (l := [.int .i64 (i : Nat)]) (t := 3) (by (try dsimp only [List.set]); repeat (first | with_reducible exact List.mem_cons_self | with_reducible apply List.mem_cons_of_mem)) rfl) (hK _ _ ?_); clear hK K)
                  | (guard_target = wpList _ _ _ (⟨some 38, .load _ _, _, _, _, _⟩ :: _) _ _; refine wpl (o := ⟨some 38, .load _ _, _, _, _, _⟩) rfl fun K hK => op_load rfl (ad := ⟨bg, 0, none⟩) rfl (by kernel_rfl) k38 (hK _ _ ?_); clear hK K)
                  | (guard_target = wpList _ _ _ (⟨some 42, .load _ _, _, _, _, _⟩ :: _) _ _; refine wpl (o := ⟨some 42, .load _ _, _, _, _, _⟩) rfl fun K hK => op_load rfl (ad := ⟨bg, 0, none⟩) rfl (by kernel_rfl) k38 (hK _ _ ?_); clear hK K)
                  | (guard_target = wpList _ _ _ (⟨some 44, .load _ _, _, _, _, _⟩ :: _) _ _; refine wpl (o := ⟨some 44, .load _ _, _, _, _, _⟩) rfl fun K hK => op_load rfl (ad := ⟨bw, 0, none⟩) rfl (by kernel_rfl) k44 (hK _ _ ?_); clear hK K)
                  | (guard_target = wpList _ _ _ (⟨some 50, .load _ _, _, _, _, _⟩ :: _) _ _; refine wpl (o := ⟨some 50, .load _ _, _, _, _, _⟩) rfl fun K hK => op_load rfl (ad := ⟨b9, 0, none⟩) rfl (by kernel_rfl) k50 (hK _ _ ?_); clear hK K)
                  | (guard_target = wpList _ _ _ (⟨some 51, .load _ _, _, _, _, _⟩ :: _) _ _; refine wpl (o := ⟨some 51, .load _ _, _, _, _, _⟩) rfl fun K hK => op_load rfl (ad := ⟨bg, 0, none⟩) rfl (by kernel_rfl) k38 (hK _ _ ?_); clear hK K)
                  | (guard_target = wpList _ _ _ (⟨some 56, .load _ _, _, _, _, _⟩ :: _) _ _; refine wpl (o := ⟨some 56, .load _ _, _, _, _, _⟩) rfl fun K hK => op_load rfl (ad := ⟨b9, 1, none⟩) rfl (by kernel_rfl) k56 (hK _ _ ?_); clear hK K)
                  | (guard_target = wpList _ _ _ (⟨some 57, .load _ _, _, _, _, _⟩ :: _) _ _; refine wpl (o := ⟨some 57, .load _ _, _, _, _, _⟩) rfl fun K hK => op_load rfl (ad := ⟨bi, 0, none⟩) rfl (by kernel_rfl) k66 (hK _ _ ?_); clear hK K)
                  | (guard_target = wpList _ _ _ (⟨some 63, .load _ _, _, _, _, _⟩ :: _) _ _; refine wpl (o := ⟨some 63, .load _ _, _, _, _, _⟩) rfl fun K hK => op_load rfl (ad := ⟨b9, 2, none⟩) rfl (by kernel_rfl) k63 (hK _ _ ?_); clear hK K)
                  | (guard_target = wpList _ _ _ (⟨some 66, .load _ _, _, _, _, _⟩ :: _) _ _; refine wpl (o := ⟨some 66, .load _ _, _, _, _, _⟩) rfl fun K hK => op_load rfl (ad := ⟨bi, 0, none⟩) rfl (by kernel_rfl) k66 (hK _ _ ?_); clear hK K)
                  | (guard_target = wpList _ _ _ (⟨some 70, .load _ _, _, _, _, _⟩ :: _) _ _; refine wpl (o := ⟨some 70, .load _ _, _, _, _, _⟩) rfl fun K hK => op_load rfl (ad := ⟨bi, 0, none⟩) rfl (by kernel_rfl) k66 (hK _ _ ?_); clear hK K)
                  | (guard_target = wpList _ _ _ (⟨none, .store _ (.tmp 0) _, _, _, _, _⟩ :: _) _ _; refine wpl (o := ⟨none, .store _ (.tmp 0) _, _, _, _, _⟩) rfl fun K hK => ?_; go_must (refine op_store (hs.pick (A := row bi [.int .i64 (i : Nat)] 3) (by repeat (first | with_reducible exact Pick.here | with_reducible apply Pick.there))) rfl (b := bi) (i := 0) (v := .int .i64 (((i + 1 : Nat) : Int))) rfl rfl rfl (by kernel_rfl) (k := 0) rfl (by simp) fun w5 h => hK _ _ ?_); clear hs hK K; have hs := h; clear h; try dsimp only [List.set] at hs)
                  | (guard_target = wpList _ _ _ (⟨some 72, .load _ _, _, _, _, _⟩ :: _) _ _; refine wpl (o := ⟨some 72, .load _ _, _, _, _, _⟩) rfl fun K hK => op_load_agg rfl (b := b9) (i := 0) rfl (frCells f (.slice Ax f.body.length cx)) (range_whole hs (by (try dsimp only [List.set]); repeat (first | with_reducible exact List.mem_cons_self | with_reducible apply List.mem_cons_of_mem))) (by kernel_rfl) (by kernel_rfl) (hK _ _ ?_); clear hK K)
                  | (guard_target = wpList _ _ _ (⟨none, .store _ (.tmp 5) _, _, _, _, _⟩ :: _) _ _; refine wpl (o := ⟨none, .store _ (.tmp 5) _, _, _, _, _⟩) rfl fun K hK => ?_; go_must (refine op_store_whole (hs.pick (A := row b5 [.int .u32 0, .int .u32 0, .int .u8 0, .slice none 0 0] 107) (by repeat (first | with_reducible exact Pick.here | with_reducible apply Pick.there))) (b := b5) rfl rfl (frCells f (.slice Ax f.body.length cx)) rfl (by simp [frCells, Value.oneCell']) (by kernel_rfl) (k := 0) rfl rfl fun w3 h => hK _ _ ?_); clear hs hK K; have hs := h; clear h; try dsimp only [List.set] at hs))
                refine bodyPost_ret (run_results_cell_tmp' rfl (b := b5) rfl _ (range_whole hs m0) (by kernel_rfl) (by kernel_rfl)) rfl ?_
                refine ⟨.slice Ax f.body.length cx, by rw [HN.out]; rfl, ?_⟩
                exact hs.pack (by repeat (first | with_reducible exact Pack.refl | with_reducible exact Pack.nil | with_reducible refine Pack.cons (by repeat (first | with_reducible exact Pick.here | with_reducible apply Pick.there)) ?_ | with_reducible apply Pack.drop))
            · have e4 : ((f.seq : Int) == (i : Int)) = false := by simp; omega
              have HN : Box (slNext which i g f code = false) := ⟨by have c0 := C0.out; have c1 := C1.out; have c2 := C2.out; have c3 := C3.out; have hi0 := HI0.out; have hrb := HRB.out; (try rw [hi0] at c4); simp [slNext, *]⟩
              clear c4
              go_enter Try.func70, Try.ntmps70
              go_wp2_with (first
                | (guard_target = wpList _ _ _ (⟨some 5, .alloc _, _, _, _, _⟩ :: _) _ _; refine wpl (o := ⟨some 5, .alloc _, _, _, _, _⟩) rfl fun K hK => ?_; go_must (refine op_alloc hs rfl _ zframe [.int .u32 0, .int .u32 0, .int .u8 0, .slice none 0 0] rfl fun b5 w1 h => hK _ _ ?_); clear hs hK K; have hs := h; clear h; try dsimp only [List.set] at hs)
                | (guard_target = wpList _ _ _ (⟨some 12, .load _ _, _, _, _, _⟩ :: _) _ _; refine wpl (o := ⟨some 12, .load _ _, _, _, _, _⟩) rfl fun K hK => op_load rfl (ad := ⟨bi, 0, none⟩) rfl (by kernel_rfl) (hs.cell m1 rfl) (hK _ _ ?_); clear hK K)
                | (guard_target = wpList _ _ _ (⟨some 14, .load _ _, _, _, _, _⟩ :: _) _ _; refine wpl (o := ⟨some 14, .load _ _, _, _, _, _⟩) rfl fun K hK => op_load rfl (ad := ⟨ba, 1, none⟩) rfl (by kernel_rfl) (hs.cell m2 rfl) (hK _ _ ?_); clear hK K))
              have cS : ∀ w M, Sat W w M → row bi [.int .i64 (i : Nat)] 3 ∈ M → row ba (areaC (first : Nat) (size : Nat)) 31 ∈ M → row bd [.pointer (some ⟨b, 0, none⟩)] 25 ∈ M → row bw [.int .i64 (which : Nat)] 3 ∈ M → rdS bi ba bd bw b (first : Nat) (size : Nat) which i w := fun w M h h1 h2 h3 h4 => ⟨h.cell h1 rfl, range_whole h h2, h.cell h3 rfl, h.cell h4 rfl⟩
              have d18 : ∀ w, rdS bi ba bd bw b (first : Nat) (size : Nat) which i w → w.cell? ⟨bd, 0, none⟩ = some (.pointer (some ⟨b, 0, none⟩)) := fun w h => h.2.2.1
              have d19 : ∀ w, rdS bi ba bd bw b (first : Nat) (size : Nat) which i w → w.rangeAt ba 0 (areaC (first : Nat) (size : Nat)) := fun w h => h.2.1
              have d20 : ∀ w, rdS bi ba bd bw b (first : Nat) (size : Nat) which i w → w.cell? ⟨bw, 0, none⟩ = some (.int .i64 (which : Nat)) := fun w h => h.2.2.2
              have d21 : ∀ w, rdS bi ba bd bw b (first : Nat) (size : Nat) which i w → w.cell? ⟨bi, 0, none⟩ = some (.int .i64 (i : Nat)) := fun w h => h.1
              have hS0 := cS _ _ hs.drew (by (try dsimp only [List.set]); repeat (first | with_reducible exact List.mem_cons_self | with_reducible apply List.mem_cons_of_mem)) (by (try dsimp only [List.set]); repeat (first | with_reducible exact List.mem_cons_self | with_reducible apply List.mem_cons_of_mem)) (by (try dsimp only [List.set]); repeat (first | with_reducible exact List.mem_cons_self | with_reducible apply List.mem_cons_of_mem)) (by (try dsimp only [List.set]); repeat (first | with_reducible exact List.mem_cons_self | with_reducible apply List.mem_cons_of_mem))
              refine wp_region_tree (rdS bi ba bd bw b (first : Nat) (size : Nat) which i) (.take 0 (.take 1 (.take 2 (.take 3 (.all [(4, .all [(5, .take 6 (.take 7 (.take 8 (.take 9 (.take 10 (DTree.done))))))])]))))) (by kernel_rfl) (by kernel_rfl) (by kernel_rfl) (fun _ _ d _ _ h => by cases d <;> exact h) hS0 ?_
              have hs' := hs.drew
              clear hs
              have hs := hs'
              clear hs'
              have hq := fun p : Prop => class_const hS0 p
              clear hS0
              repeat (first
                | (with_reducible refine tree_load (o := ⟨some 18, .load _ _, _, _, _, _⟩) rfl rfl rfl rfl rfl d18 ?_)
                | (with_reducible refine tree_load_agg (o := ⟨some 19, .load _ _, _, _, _, _⟩) (areaC (first : Nat) (size : Nat)) rfl rfl rfl rfl ?_ ?_ d19 ?_; (kernel_rfl); (kernel_rfl))
                | (with_reducible refine tree_load (o := ⟨some 20, .load _ _, _, _, _, _⟩) rfl rfl rfl rfl rfl d20 ?_)
                | (with_reducible refine tree_load (o := ⟨some 21, .load _ _, _, _, _, _⟩) rfl rfl rfl rfl rfl d21 ?_)
                | (refine tree_take rfl (fun K hK => ?_); go_simp; with_reducible refine hK _ ?_; clear hK K))
              refine tree_one_yes (o := _) rfl rfl (fun K hK => ?_) (cS _ _ hs (by (try dsimp only [List.set]); repeat (first | with_reducible exact List.mem_cons_self | with_reducible apply List.mem_cons_of_mem)) (by (try dsimp only [List.set]); repeat (first | with_reducible exact List.mem_cons_self | with_reducible apply List.mem_cons_of_mem)) (by (try dsimp only [List.set]); repeat (first | with_reducible exact List.mem_cons_self | with_reducible apply List.mem_cons_of_mem)) (by (try dsimp only [List.set]); repeat (first | with_reducible exact List.mem_cons_self | with_reducible apply List.mem_cons_of_mem)))
              try go_simp
              go_at_call 48
              refine (slat_spec W _ _ hs first size which i hle.out hwh (by omega)).mono ?_
              clear hs
              rintro e w5 ⟨rfl, hs⟩
              try go_simp
              refine hK _ _ (cS _ _ hs (by (try dsimp only [List.set]); repeat (first | with_reducible exact List.mem_cons_self | with_reducible apply List.mem_cons_of_mem)) (by (try dsimp only [List.set]); repeat (first | with_reducible exact List.mem_cons_self | with_reducible apply List.mem_cons_of_mem)) (by (try dsimp only [List.set]); repeat (first | with_reducible exact List.mem_cons_self | with_reducible apply List.mem_cons_of_mem)) (by (try dsimp only [List.set]); repeat (first | with_reducible exact List.mem_cons_self | with_reducible apply List.mem_cons_of_mem))) ?_
              clear hK K
              refine tree_one_yes (o := _) rfl rfl (fun K hK => ?_) (cS _ _ hs (by (try dsimp only [List.set]); repeat (first | with_reducible exact List.mem_cons_self | with_reducible apply List.mem_cons_of_mem)) (by (try dsimp only [List.set]); repeat (first | with_reducible exact List.mem_cons_self | with_reducible apply List.mem_cons_of_mem)) (by (try dsimp only [List.set]); repeat (first | with_reducible exact List.mem_cons_self | with_reducible apply List.mem_cons_of_mem)) (by (try dsimp only [List.set]); repeat (first | with_reducible exact List.mem_cons_self | with_reducible apply List.mem_cons_of_mem)))
              try go_simp
              go_at_call 35
              refine (read_spec W _ _ b D (hs.pick (A := disk b D) (by repeat (first | with_reducible exact Pick.here | with_reducible apply Pick.there))) (first + size * which + i) hHadr.out hr).mono ?_
              clear hs
              rintro e w5 ⟨bb, rfl, hs⟩
              rw [HP.out] at hs
              try go_simp
              refine hK _ _ (cS _ _ hs (by (try dsimp only [List.set]); repeat (first | with_reducible exact List.mem_cons_self | with_reducible apply List.mem_cons_of_mem)) (by (try dsimp only [List.set]); repeat (first | with_reducible exact List.mem_cons_self | with_reducible apply List.mem_cons_of_mem)) (by (try dsimp only [List.set]); repeat (first | with_reducible exact List.mem_cons_self | with_reducible apply List.mem_cons_of_mem)) (by (try dsimp only [List.set]); repeat (first | with_reducible exact List.mem_cons_self | with_reducible apply List.mem_cons_of_mem))) ?_
              clear hK K
              repeat (first
                | (with_reducible refine tree_load (o := ⟨some 18, .load _ _, _, _, _, _⟩) rfl rfl rfl rfl rfl d18 ?_)
                | (with_reducible refine tree_load_agg (o := ⟨some 19, .load _ _, _, _, _, _⟩) (areaC (first : Nat) (size : Nat)) rfl rfl rfl rfl ?_ ?_ d19 ?_; (kernel_rfl); (kernel_rfl))
                | (with_reducible refine tree_load (o := ⟨some 20, .load _ _, _, _, _, _⟩) rfl rfl rfl rfl rfl d20 ?_)
                | (with_reducible refine tree_load (o := ⟨some 21, .load _ _, _, _, _, _⟩) rfl rfl rfl rfl rfl d21 ?_)
                | (refine tree_take rfl (fun K hK => ?_); go_simp; with_reducible refine hK _ ?_; clear hK K))
              refine tree_done ?_
              clear hq cS d18 d19 d20 d21
              go_wp2_with (first
                | (go_at_call 71; go_must (refine (fparse_spec W _ _ hs _ P (lit_bytes (b := bb) (t := 111) 0 rfl 64 HL.out (by omega)) (by rw [HL.out]; omega)).mono ?_); clear hs; rintro e w1 ⟨vx, rfl, hs⟩; rw [HFC.out.1, HFC.out.2]; rw [HFC.out.1] at hs
                   obtain ⟨Ax, cx, rfl, _, _⟩ := slice_form (hs.bytes (bytesH_has 0 rfl)))
                | (guard_target = wpList _ _ _ (⟨some 9, .alloc _, _, _, _, _⟩ :: _) _ _; refine wpl (o := ⟨some 9, .alloc _, _, _, _, _⟩) rfl fun K hK => ?_; go_must (refine op_alloc hs rfl _ zframe [.int .u32 0, .int .u32 0, .int .u8 0, .slice none 0 0] rfl fun b9 w1 h => hK _ _ ?_); clear hs hK K; have hs := h; clear h; try dsimp only [List.set] at hs)
                | (guard_target = wpList _ _ _ (⟨none, .store _ (.tmp 9) _, _, _, _, _⟩ :: _) _ _; refine wpl (o := ⟨none, .store _ (.tmp 9) _, _, _, _, _⟩) rfl fun K hK => ?_; go_must (refine op_store_whole hs (b := b9) rfl rfl (frCells f (.slice Ax f.body.length cx)) rfl (by simp [frCells, Value.oneCell']) (by kernel_rfl) (k := 0) rfl rfl fun w9 h => hK _ _ ?_); clear hs hK K; have hs := h; clear h; dsimp only [List.set] at hs
                   have k38 : w9.cell? ⟨bg, 0, none⟩ = some (.int .u32 (g : Nat)) := hs.cell (l := [.int .u32 (g : Nat)]) (t := 27) (by (try dsimp only [List.set]); repeat (first | with_reducible exact List.mem_cons_self | with_reducible apply List.mem_cons_of_mem)) rfl
                   have k44 : w9.cell? ⟨bw, 0, none⟩ = some (.int .i64 (which : Nat)) := hs.cell (l := [.int .i64 (which : Nat)]) (t := 3) (by (try dsimp only [List.set]); repeat (first | with_reducible exact List.mem_cons_self | with_reducible apply List.mem_cons_of_mem)) rfl
                   have k50 : w9.cell? ⟨b9, 0, none⟩ = some (.int .u32 (f.epoch : Nat)) := hs.cell (l := (frCells f (.slice Ax f.body.length cx))) (t := 107) (by (try dsimp only [List.set]); repeat (first | with_reducible exact List.mem_cons_self | with_reducible apply List.mem_cons_of_mem)) rfl
                   have k56 : w9.cell? ⟨b9, 1, none⟩ = some (.int .u32 (f.seq : Nat)) := hs.cell (l := (frCells f (.slice Ax f.body.length cx))) (t := 107) (by (try dsimp only [List.set]); repeat (first | with_reducible exact List.mem_cons_self | with_reducible apply List.mem_cons_of_mem)) rfl
                   have k63 : w9.cell? ⟨b9, 2, none⟩ = some (.int .u8 f.flag.toNat) := hs.cell (l := (frCells f (.slice Ax f.body.length cx))) (t := 107) (by (try dsimp only [List.set]); repeat (first | with_reducible exact List.mem_cons_self | with_reducible apply List.mem_cons_of_mem)) rfl
                   have k66 : w9.cell? ⟨bi, 0, none⟩ = some (.int .i64 (i : Nat)) := hs.cell (l := [.int .i64 (i : Nat)]) (t := 3) (by (try dsimp only [List.set]); repeat (first | with_reducible exact List.mem_cons_self | with_reducible apply List.mem_cons_of_mem)) rfl)
                | (guard_target = wpList _ _ _ (⟨some 31, .load _ _, _, _, _, _⟩ :: _) _ _; refine wpl (o := ⟨some 31, .load _ _, _, _, _, _⟩) rfl fun K hK => op_load rfl (ad := ⟨bi, 0, none⟩) rfl (by kernel_rfl) (hs.cell (l := [.int .i64 (i : Nat)]) (t := 3) (by (try dsimp only [List.set]); repeat (first | with_reducible exact List.mem_cons_self | with_reducible apply List.mem_cons_of_mem)) rfl) (hK _ _ ?_); clear hK K)
                | (guard_target = wpList _ _ _ (⟨some 38, .load _ _, _, _, _, _⟩ :: _) _ _; refine wpl (o := ⟨some 38, .load _ _, _, _, _, _⟩) rfl fun K hK => op_load rfl (ad := ⟨bg, 0, none⟩) rfl (by kernel_rfl) k38 (hK _ _ ?_); clear hK K)
                | (guard_target = wpList _ _ _ (⟨some 42, .load _ _, _, _, _, _⟩ :: _) _ _; refine wpl (o := ⟨some 42, .load _ _, _, _, _, _⟩) rfl fun K hK => op_load rfl (ad := ⟨bg, 0, none⟩) rfl (by kernel_rfl) k38 (hK _ _ ?_); clear hK K)
                | (guard_target = wpList _ _ _ (⟨some 44, .load _ _, _, _, _, _⟩ :: _) _ _; refine wpl (o := ⟨some 44, .load _ _, _, _, _, _⟩) rfl fun K hK => op_load rfl (ad := ⟨bw, 0, none⟩) rfl (by kernel_rfl) k44 (hK _ _ ?_); clear hK K)
                | (guard_target = wpList _ _ _ (⟨some 50, .load _ _, _, _, _, _⟩ :: _) _ _; refine wpl (o := ⟨some 50, .load _ _, _, _, _, _⟩) rfl fun K hK => op_load rfl (ad := ⟨b9, 0, none⟩) rfl (by kernel_rfl) k50 (hK _ _ ?_); clear hK K)
                | (guard_target = wpList _ _ _ (⟨some 51, .load _ _, _, _, _, _⟩ :: _) _ _; refine wpl (o := ⟨some 51, .load _ _, _, _, _, _⟩) rfl fun K hK => op_load rfl (ad := ⟨bg, 0, none⟩) rfl (by kernel_rfl) k38 (hK _ _ ?_); clear hK K)
                | (guard_target = wpList _ _ _ (⟨some 56, .load _ _, _, _, _, _⟩ :: _) _ _; refine wpl (o := ⟨some 56, .load _ _, _, _, _, _⟩) rfl fun K hK => op_load rfl (ad := ⟨b9, 1, none⟩) rfl (by kernel_rfl) k56 (hK _ _ ?_); clear hK K)
                | (guard_target = wpList _ _ _ (⟨some 57, .load _ _, _, _, _, _⟩ :: _) _ _; refine wpl (o := ⟨some 57, .load _ _, _, _, _, _⟩) rfl fun K hK => op_load rfl (ad := ⟨bi, 0, none⟩) rfl (by kernel_rfl) k66 (hK _ _ ?_); clear hK K)
                | (guard_target = wpList _ _ _ (⟨some 63, .load _ _, _, _, _, _⟩ :: _) _ _; refine wpl (o := ⟨some 63, .load _ _, _, _, _, _⟩) rfl fun K hK => op_load rfl (ad := ⟨b9, 2, none⟩) rfl (by kernel_rfl) k63 (hK _ _ ?_); clear hK K)
                | (guard_target = wpList _ _ _ (⟨some 66, .load _ _, _, _, _, _⟩ :: _) _ _; refine wpl (o := ⟨some 66, .load _ _, _, _, _, _⟩) rfl fun K hK => op_load rfl (ad := ⟨bi, 0, none⟩) rfl (by kernel_rfl) k66 (hK _ _ ?_); clear hK K)
                | (guard_target = wpList _ _ _ (⟨some 70, .load _ _, _, _, _, _⟩ :: _) _ _; refine wpl (o := ⟨some 70, .load _ _, _, _, _, _⟩) rfl fun K hK => op_load rfl (ad := ⟨bi, 0, none⟩) rfl (by kernel_rfl) k66 (hK _ _ ?_); clear hK K)
                | (guard_target = wpList _ _ _ (⟨none, .store _ (.tmp 0) _, _, _, _, _⟩ :: _) _ _; refine wpl (o := ⟨none, .store _ (.tmp 0) _, _, _, _, _⟩) rfl fun K hK => ?_; go_must (refine op_store (hs.pick (A := row bi [.int .i64 (i : Nat)] 3) (by repeat (first | with_reducible exact Pick.here | with_reducible apply Pick.there))) rfl (b := bi) (i := 0) (v := .int .i64 (((i + 1 : Nat) : Int))) rfl rfl rfl (by kernel_rfl) (k := 0) rfl (by simp) fun w5 h => hK _ _ ?_); clear hs hK K; have hs := h; clear h; try dsimp only [List.set] at hs)
                | (guard_target = wpList _ _ _ (⟨some 72, .load _ _, _, _, _, _⟩ :: _) _ _; refine wpl (o := ⟨some 72, .load _ _, _, _, _, _⟩) rfl fun K hK => op_load_agg rfl (b := b9) (i := 0) rfl (frCells f (.slice Ax f.body.length cx)) (range_whole hs (by (try dsimp only [List.set]); repeat (first | with_reducible exact List.mem_cons_self | with_reducible apply List.mem_cons_of_mem))) (by kernel_rfl) (by kernel_rfl) (hK _ _ ?_); clear hK K)
                | (guard_target = wpList _ _ _ (⟨none, .store _ (.tmp 5) _, _, _, _, _⟩ :: _) _ _; refine wpl (o := ⟨none, .store _ (.tmp 5) _, _, _, _, _⟩) rfl fun K hK => ?_; go_must (refine op_store_whole (hs.pick (A := row b5 [.int .u32 0, .int .u32 0, .int .u8 0, .slice none 0 0] 107) (by repeat (first | with_reducible exact Pick.here | with_reducible apply Pick.there))) (b := b5) rfl rfl (frCells f (.slice Ax f.body.length cx)) rfl (by simp [frCells, Value.oneCell']) (by kernel_rfl) (k := 0) rfl rfl fun w3 h => hK _ _ ?_); clear hs hK K; have hs := h; clear h; try dsimp only [List.set] at hs))
              refine bodyPost_ret (run_results_cell_tmp' rfl (b := b5) rfl _ (range_whole hs m0) (by kernel_rfl) (by kernel_rfl)) rfl ?_
              refine ⟨.slice Ax f.body.length cx, by rw [HN.out]; rfl, ?_⟩
              exact hs.pack (by repeat (first | with_reducible exact Pack.refl | with_reducible exact Pack.nil | with_reducible refine Pack.cons (by repeat (first | with_reducible exact Pick.here | with_reducible apply Pick.there)) ?_ | with_reducible apply Pack.drop))
          · have e3 : ((f.epoch : Int) == (g : Int)) = false := by simp; omega
            have HN : Box (slNext which i g f code = false) := ⟨by have c0 := C0.out; have c1 := C1.out; have c2 := C2.out; have hi0 := HI0.out; have hrb := HRB.out; (try rw [hi0] at c3); simp [slNext, *]⟩
            clear c3
            go_enter Try.func70, Try.ntmps70
            go_wp2_with (first
              | (guard_target = wpList _ _ _ (⟨some 5, .alloc _, _, _, _, _⟩ :: _) _ _; refine wpl (o := ⟨some 5, .alloc _, _, _, _, _⟩) rfl fun K hK => ?_; go_must (refine op_alloc hs rfl _ zframe [.int .u32 0, .int .u32 0, .int .u8 0, .slice none 0 0] rfl fun b5 w1 h => hK _ _ ?_); clear hs hK K; have hs := h; clear h; try dsimp only [List.set] at hs)
              | (guard_target = wpList _ _ _ (⟨some 12, .load _ _, _, _, _, _⟩ :: _) _ _; refine wpl (o := ⟨some 12, .load _ _, _, _, _, _⟩) rfl fun K hK => op_load rfl (ad := ⟨bi, 0, none⟩) rfl (by kernel_rfl) (hs.cell m1 rfl) (hK _ _ ?_); clear hK K)
              | (guard_target = wpList _ _ _ (⟨some 14, .load _ _, _, _, _, _⟩ :: _) _ _; refine wpl (o := ⟨some 14, .load _ _, _, _, _, _⟩) rfl fun K hK => op_load rfl (ad := ⟨ba, 1, none⟩) rfl (by kernel_rfl) (hs.cell m2 rfl) (hK _ _ ?_); clear hK K))
            have cS : ∀ w M, Sat W w M → row bi [.int .i64 (i : Nat)] 3 ∈ M → row ba (areaC (first : Nat) (size : Nat)) 31 ∈ M → row bd [.pointer (some ⟨b, 0, none⟩)] 25 ∈ M → row bw [.int .i64 (which : Nat)] 3 ∈ M → rdS bi ba bd bw b (first : Nat) (size : Nat) which i w := fun w M h h1 h2 h3 h4 => ⟨h.cell h1 rfl, range_whole h h2, h.cell h3 rfl, h.cell h4 rfl⟩
            have d18 : ∀ w, rdS bi ba bd bw b (first : Nat) (size : Nat) which i w → w.cell? ⟨bd, 0, none⟩ = some (.pointer (some ⟨b, 0, none⟩)) := fun w h => h.2.2.1
            have d19 : ∀ w, rdS bi ba bd bw b (first : Nat) (size : Nat) which i w → w.rangeAt ba 0 (areaC (first : Nat) (size : Nat)) := fun w h => h.2.1
            have d20 : ∀ w, rdS bi ba bd bw b (first : Nat) (size : Nat) which i w → w.cell? ⟨bw, 0, none⟩ = some (.int .i64 (which : Nat)) := fun w h => h.2.2.2
            have d21 : ∀ w, rdS bi ba bd bw b (first : Nat) (size : Nat) which i w → w.cell? ⟨bi, 0, none⟩ = some (.int .i64 (i : Nat)) := fun w h => h.1
            have hS0 := cS _ _ hs.drew (by (try dsimp only [List.set]); repeat (first | with_reducible exact List.mem_cons_self | with_reducible apply List.mem_cons_of_mem)) (by (try dsimp only [List.set]); repeat (first | with_reducible exact List.mem_cons_self | with_reducible apply List.mem_cons_of_mem)) (by (try dsimp only [List.set]); repeat (first | with_reducible exact List.mem_cons_self | with_reducible apply List.mem_cons_of_mem)) (by (try dsimp only [List.set]); repeat (first | with_reducible exact List.mem_cons_self | with_reducible apply List.mem_cons_of_mem))
            refine wp_region_tree (rdS bi ba bd bw b (first : Nat) (size : Nat) which i) (.take 0 (.take 1 (.take 2 (.take 3 (.all [(4, .all [(5, .take 6 (.take 7 (.take 8 (.take 9 (.take 10 (DTree.done))))))])]))))) (by kernel_rfl) (by kernel_rfl) (by kernel_rfl) (fun _ _ d _ _ h => by cases d <;> exact h) hS0 ?_
            have hs' := hs.drew
            clear hs
            have hs := hs'
            clear hs'
            have hq := fun p : Prop => class_const hS0 p
            clear hS0
            repeat (first
              | (with_reducible refine tree_load (o := ⟨some 18, .load _ _, _, _, _, _⟩) rfl rfl rfl rfl rfl d18 ?_)
              | (with_reducible refine tree_load_agg (o := ⟨some 19, .load _ _, _, _, _, _⟩) (areaC (first : Nat) (size : Nat)) rfl rfl rfl rfl ?_ ?_ d19 ?_; (kernel_rfl); (kernel_rfl))
              | (with_reducible refine tree_load (o := ⟨some 20, .load _ _, _, _, _, _⟩) rfl rfl rfl rfl rfl d20 ?_)
              | (with_reducible refine tree_load (o := ⟨some 21, .load _ _, _, _, _, _⟩) rfl rfl rfl rfl rfl d21 ?_)
              | (refine tree_take rfl (fun K hK => ?_); go_simp; with_reducible refine hK _ ?_; clear hK K))
            refine tree_one_yes (o := _) rfl rfl (fun K hK => ?_) (cS _ _ hs (by (try dsimp only [List.set]); repeat (first | with_reducible exact List.mem_cons_self | with_reducible apply List.mem_cons_of_mem)) (by (try dsimp only [List.set]); repeat (first | with_reducible exact List.mem_cons_self | with_reducible apply List.mem_cons_of_mem)) (by (try dsimp only [List.set]); repeat (first | with_reducible exact List.mem_cons_self | with_reducible apply List.mem_cons_of_mem)) (by (try dsimp only [List.set]); repeat (first | with_reducible exact List.mem_cons_self | with_reducible apply List.mem_cons_of_mem)))
            try go_simp
            go_at_call 48
            refine (slat_spec W _ _ hs first size which i hle.out hwh (by omega)).mono ?_
            clear hs
            rintro e w5 ⟨rfl, hs⟩
            try go_simp
            refine hK _ _ (cS _ _ hs (by (try dsimp only [List.set]); repeat (first | with_reducible exact List.mem_cons_self | with_reducible apply List.mem_cons_of_mem)) (by (try dsimp only [List.set]); repeat (first | with_reducible exact List.mem_cons_self | with_reducible apply List.mem_cons_of_mem)) (by (try dsimp only [List.set]); repeat (first | with_reducible exact List.mem_cons_self | with_reducible apply List.mem_cons_of_mem)) (by (try dsimp only [List.set]); repeat (first | with_reducible exact List.mem_cons_self | with_reducible apply List.mem_cons_of_mem))) ?_
            clear hK K
            refine tree_one_yes (o := _) rfl rfl (fun K hK => ?_) (cS _ _ hs (by (try dsimp only [List.set]); repeat (first | with_reducible exact List.mem_cons_self | with_reducible apply List.mem_cons_of_mem)) (by (try dsimp only [List.set]); repeat (first | with_reducible exact List.mem_cons_self | with_reducible apply List.mem_cons_of_mem)) (by (try dsimp only [List.set]); repeat (first | with_reducible exact List.mem_cons_self | with_reducible apply List.mem_cons_of_mem)) (by (try dsimp only [List.set]); repeat (first | with_reducible exact List.mem_cons_self | with_reducible apply List.mem_cons_of_mem)))
            try go_simp
            go_at_call 35
            refine (read_spec W _ _ b D (hs.pick (A := disk b D) (by repeat (first | with_reducible exact Pick.here | with_reducible apply Pick.there))) (first + size * which + i) hHadr.out hr).mono ?_
            clear hs
            rintro e w5 ⟨bb, rfl, hs⟩
            rw [HP.out] at hs
            try go_simp
            refine hK _ _ (cS _ _ hs (by (try dsimp only [List.set]); repeat (first | with_reducible exact List.mem_cons_self | with_reducible apply List.mem_cons_of_mem)) (by (try dsimp only [List.set]); repeat (first | with_reducible exact List.mem_cons_self | with_reducible apply List.mem_cons_of_mem)) (by (try dsimp only [List.set]); repeat (first | with_reducible exact List.mem_cons_self | with_reducible apply List.mem_cons_of_mem)) (by (try dsimp only [List.set]); repeat (first | with_reducible exact List.mem_cons_self | with_reducible apply List.mem_cons_of_mem))) ?_
            clear hK K
            repeat (first
              | (with_reducible refine tree_load (o := ⟨some 18, .load _ _, _, _, _, _⟩) rfl rfl rfl rfl rfl d18 ?_)
              | (with_reducible refine tree_load_agg (o := ⟨some 19, .load _ _, _, _, _, _⟩) (areaC (first : Nat) (size : Nat)) rfl rfl rfl rfl ?_ ?_ d19 ?_; (kernel_rfl); (kernel_rfl))
              | (with_reducible refine tree_load (o := ⟨some 20, .load _ _, _, _, _, _⟩) rfl rfl rfl rfl rfl d20 ?_)
              | (with_reducible refine tree_load (o := ⟨some 21, .load _ _, _, _, _, _⟩) rfl rfl rfl rfl rfl d21 ?_)
              | (refine tree_take rfl (fun K hK => ?_); go_simp; with_reducible refine hK _ ?_; clear hK K))
            refine tree_done ?_
            clear hq cS d18 d19 d20 d21
            go_wp2_with (first
              | (go_at_call 71; go_must (refine (fparse_spec W _ _ hs _ P (lit_bytes (b := bb) (t := 111) 0 rfl 64 HL.out (by omega)) (by rw [HL.out]; omega)).mono ?_); clear hs; rintro e w1 ⟨vx, rfl, hs⟩; rw [HFC.out.1, HFC.out.2]; rw [HFC.out.1] at hs
                 obtain ⟨Ax, cx, rfl, _, _⟩ := slice_form (hs.bytes (bytesH_has 0 rfl)))
              | (guard_target = wpList _ _ _ (⟨some 9, .alloc _, _, _, _, _⟩ :: _) _ _; refine wpl (o := ⟨some 9, .alloc _, _, _, _, _⟩) rfl fun K hK => ?_; go_must (refine op_alloc hs rfl _ zframe [.int .u32 0, .int .u32 0, .int .u8 0, .slice none 0 0] rfl fun b9 w1 h => hK _ _ ?_); clear hs hK K; have hs := h; clear h; try dsimp only [List.set] at hs)
              | (guard_target = wpList _ _ _ (⟨none, .store _ (.tmp 9) _, _, _, _, _⟩ :: _) _ _; refine wpl (o := ⟨none, .store _ (.tmp 9) _, _, _, _, _⟩) rfl fun K hK => ?_; go_must (refine op_store_whole hs (b := b9) rfl rfl (frCells f (.slice Ax f.body.length cx)) rfl (by simp [frCells, Value.oneCell']) (by kernel_rfl) (k := 0) rfl rfl fun w9 h => hK _ _ ?_); clear hs hK K; have hs := h; clear h; dsimp only [List.set] at hs
                 have k38 : w9.cell? ⟨bg, 0, none⟩ = some (.int .u32 (g : Nat)) := hs.cell (l := [.int .u32 (g : Nat)]) (t := 27) (by (try dsimp only [List.set]); repeat (first | with_reducible exact List.mem_cons_self | with_reducible apply List.mem_cons_of_mem)) rfl
                 have k44 : w9.cell? ⟨bw, 0, none⟩ = some (.int .i64 (which : Nat)) := hs.cell (l := [.int .i64 (which : Nat)]) (t := 3) (by (try dsimp only [List.set]); repeat (first | with_reducible exact List.mem_cons_self | with_reducible apply List.mem_cons_of_mem)) rfl
                 have k50 : w9.cell? ⟨b9, 0, none⟩ = some (.int .u32 (f.epoch : Nat)) := hs.cell (l := (frCells f (.slice Ax f.body.length cx))) (t := 107) (by (try dsimp only [List.set]); repeat (first | with_reducible exact List.mem_cons_self | with_reducible apply List.mem_cons_of_mem)) rfl
                 have k56 : w9.cell? ⟨b9, 1, none⟩ = some (.int .u32 (f.seq : Nat)) := hs.cell (l := (frCells f (.slice Ax f.body.length cx))) (t := 107) (by (try dsimp only [List.set]); repeat (first | with_reducible exact List.mem_cons_self | with_reducible apply List.mem_cons_of_mem)) rfl
                 have k63 : w9.cell? ⟨b9, 2, none⟩ = some (.int .u8 f.flag.toNat) := hs.cell (l := (frCells f (.slice Ax f.body.length cx))) (t := 107) (by (try dsimp only [List.set]); repeat (first | with_reducible exact List.mem_cons_self | with_reducible apply List.mem_cons_of_mem)) rfl
                 have k66 : w9.cell? ⟨bi, 0, none⟩ = some (.int .i64 (i : Nat)) := hs.cell (l := [.int .i64 (i : Nat)]) (t := 3) (by (try dsimp only [List.set]); repeat (first | with_reducible exact List.mem_cons_self | with_reducible apply List.mem_cons_of_mem)) rfl)
              | (guard_target = wpList _ _ _ (⟨some 31, .load _ _, _, _, _, _⟩ :: _) _ _; refine wpl (o := ⟨some 31, .load _ _, _, _, _, _⟩) rfl fun K hK => op_load rfl (ad := ⟨bi, 0, none⟩) rfl (by kernel_rfl) (hs.cell (l := [.int .i64 (i : Nat)]) (t := 3) (by (try dsimp only [List.set]); repeat (first | with_reducible exact List.mem_cons_self | with_reducible apply List.mem_cons_of_mem)) rfl) (hK _ _ ?_); clear hK K)
              | (guard_target = wpList _ _ _ (⟨some 38, .load _ _, _, _, _, _⟩ :: _) _ _; refine wpl (o := ⟨some 38, .load _ _, _, _, _, _⟩) rfl fun K hK => op_load rfl (ad := ⟨bg, 0, none⟩) rfl (by kernel_rfl) k38 (hK _ _ ?_); clear hK K)
              | (guard_target = wpList _ _ _ (⟨some 42, .load _ _, _, _, _, _⟩ :: _) _ _; refine wpl (o := ⟨some 42, .load _ _, _, _, _, _⟩) rfl fun K hK => op_load rfl (ad := ⟨bg, 0, none⟩) rfl (by kernel_rfl) k38 (hK _ _ ?_); clear hK K)
              | (guard_target = wpList _ _ _ (⟨some 44, .load _ _, _, _, _, _⟩ :: _) _ _; refine wpl (o := ⟨some 44, .load _ _, _, _, _, _⟩) rfl fun K hK => op_load rfl (ad := ⟨bw, 0, none⟩) rfl (by kernel_rfl) k44 (hK _ _ ?_); clear hK K)
              | (guard_target = wpList _ _ _ (⟨some 50, .load _ _, _, _, _, _⟩ :: _) _ _; refine wpl (o := ⟨some 50, .load _ _, _, _, _, _⟩) rfl fun K hK => op_load rfl (ad := ⟨b9, 0, none⟩) rfl (by kernel_rfl) k50 (hK _ _ ?_); clear hK K)
              | (guard_target = wpList _ _ _ (⟨some 51, .load _ _, _, _, _, _⟩ :: _) _ _; refine wpl (o := ⟨some 51, .load _ _, _, _, _, _⟩) rfl fun K hK => op_load rfl (ad := ⟨bg, 0, none⟩) rfl (by kernel_rfl) k38 (hK _ _ ?_); clear hK K)
              | (guard_target = wpList _ _ _ (⟨some 56, .load _ _, _, _, _, _⟩ :: _) _ _; refine wpl (o := ⟨some 56, .load _ _, _, _, _, _⟩) rfl fun K hK => op_load rfl (ad := ⟨b9, 1, none⟩) rfl (by kernel_rfl) k56 (hK _ _ ?_); clear hK K)
              | (guard_target = wpList _ _ _ (⟨some 57, .load _ _, _, _, _, _⟩ :: _) _ _; refine wpl (o := ⟨some 57, .load _ _, _, _, _, _⟩) rfl fun K hK => op_load rfl (ad := ⟨bi, 0, none⟩) rfl (by kernel_rfl) k66 (hK _ _ ?_); clear hK K)
              | (guard_target = wpList _ _ _ (⟨some 63, .load _ _, _, _, _, _⟩ :: _) _ _; refine wpl (o := ⟨some 63, .load _ _, _, _, _, _⟩) rfl fun K hK => op_load rfl (ad := ⟨b9, 2, none⟩) rfl (by kernel_rfl) k63 (hK _ _ ?_); clear hK K)
              | (guard_target = wpList _ _ _ (⟨some 66, .load _ _, _, _, _, _⟩ :: _) _ _; refine wpl (o := ⟨some 66, .load _ _, _, _, _, _⟩) rfl fun K hK => op_load rfl (ad := ⟨bi, 0, none⟩) rfl (by kernel_rfl) k66 (hK _ _ ?_); clear hK K)
              | (guard_target = wpList _ _ _ (⟨some 70, .load _ _, _, _, _, _⟩ :: _) _ _; refine wpl (o := ⟨some 70, .load _ _, _, _, _, _⟩) rfl fun K hK => op_load rfl (ad := ⟨bi, 0, none⟩) rfl (by kernel_rfl) k66 (hK _ _ ?_); clear hK K)
              | (guard_target = wpList _ _ _ (⟨none, .store _ (.tmp 0) _, _, _, _, _⟩ :: _) _ _; refine wpl (o := ⟨none, .store _ (.tmp 0) _, _, _, _, _⟩) rfl fun K hK => ?_; go_must (refine op_store (hs.pick (A := row bi [.int .i64 (i : Nat)] 3) (by repeat (first | with_reducible exact Pick.here | with_reducible apply Pick.there))) rfl (b := bi) (i := 0) (v := .int .i64 (((i + 1 : Nat) : Int))) rfl rfl rfl (by kernel_rfl) (k := 0) rfl (by simp) fun w5 h => hK _ _ ?_); clear hs hK K; have hs := h; clear h; try dsimp only [List.set] at hs)
              | (guard_target = wpList _ _ _ (⟨some 72, .load _ _, _, _, _, _⟩ :: _) _ _; refine wpl (o := ⟨some 72, .load _ _, _, _, _, _⟩) rfl fun K hK => op_load_agg rfl (b := b9) (i := 0) rfl (frCells f (.slice Ax f.body.length cx)) (range_whole hs (by (try dsimp only [List.set]); repeat (first | with_reducible exact List.mem_cons_self | with_reducible apply List.mem_cons_of_mem))) (by kernel_rfl) (by kernel_rfl) (hK _ _ ?_); clear hK K)
              | (guard_target = wpList _ _ _ (⟨none, .store _ (.tmp 5) _, _, _, _, _⟩ :: _) _ _; refine wpl (o := ⟨none, .store _ (.tmp 5) _, _, _, _, _⟩) rfl fun K hK => ?_; go_must (refine op_store_whole (hs.pick (A := row b5 [.int .u32 0, .int .u32 0, .int .u8 0, .slice none 0 0] 107) (by repeat (first | with_reducible exact Pick.here | with_reducible apply Pick.there))) (b := b5) rfl rfl (frCells f (.slice Ax f.body.length cx)) rfl (by simp [frCells, Value.oneCell']) (by kernel_rfl) (k := 0) rfl rfl fun w3 h => hK _ _ ?_); clear hs hK K; have hs := h; clear h; try dsimp only [List.set] at hs))
            refine bodyPost_ret (run_results_cell_tmp' rfl (b := b5) rfl _ (range_whole hs m0) (by kernel_rfl) (by kernel_rfl)) rfl ?_
            refine ⟨.slice Ax f.body.length cx, by rw [HN.out]; rfl, ?_⟩
            exact hs.pack (by repeat (first | with_reducible exact Pack.refl | with_reducible exact Pack.nil | with_reducible refine Pack.cons (by repeat (first | with_reducible exact Pick.here | with_reducible apply Pick.there)) ?_ | with_reducible apply Pack.drop))
        · have e2 : (((g % 2 : Nat) : Int) == (which : Int)) = false := by simp; omega
          have e2b : ((g : Int) % 2 == (which : Int)) = false := by rw [← e2]; push_cast; rfl
          have HN : Box (slNext which i g f code = false) := ⟨by have c0 := C0.out; have c1 := C1.out; have hi0 := HI0.out; have hrb := HRB.out; (try rw [hi0] at c2); simp [slNext, *]⟩
          clear c2
          go_enter Try.func70, Try.ntmps70
          go_wp2_with (first
            | (guard_target = wpList _ _ _ (⟨some 5, .alloc _, _, _, _, _⟩ :: _) _ _; refine wpl (o := ⟨some 5, .alloc _, _, _, _, _⟩) rfl fun K hK => ?_; go_must (refine op_alloc hs rfl _ zframe [.int .u32 0, .int .u32 0, .int .u8 0, .slice none 0 0] rfl fun b5 w1 h => hK _ _ ?_); clear hs hK K; have hs := h; clear h; try dsimp only [List.set] at hs)
            | (guard_target = wpList _ _ _ (⟨some 12, .load _ _, _, _, _, _⟩ :: _) _ _; refine wpl (o := ⟨some 12, .load _ _, _, _, _, _⟩) rfl fun K hK => op_load rfl (ad := ⟨bi, 0, none⟩) rfl (by kernel_rfl) (hs.cell m1 rfl) (hK _ _ ?_); clear hK K)
            | (guard_target = wpList _ _ _ (⟨some 14, .load _ _, _, _, _, _⟩ :: _) _ _; refine wpl (o := ⟨some 14, .load _ _, _, _, _, _⟩) rfl fun K hK => op_load rfl (ad := ⟨ba, 1, none⟩) rfl (by kernel_rfl) (hs.cell m2 rfl) (hK _ _ ?_); clear hK K))
          have cS : ∀ w M, Sat W w M → row bi [.int .i64 (i : Nat)] 3 ∈ M → row ba (areaC (first : Nat) (size : Nat)) 31 ∈ M → row bd [.pointer (some ⟨b, 0, none⟩)] 25 ∈ M → row bw [.int .i64 (which : Nat)] 3 ∈ M → rdS bi ba bd bw b (first : Nat) (size : Nat) which i w := fun w M h h1 h2 h3 h4 => ⟨h.cell h1 rfl, range_whole h h2, h.cell h3 rfl, h.cell h4 rfl⟩
          have d18 : ∀ w, rdS bi ba bd bw b (first : Nat) (size : Nat) which i w → w.cell? ⟨bd, 0, none⟩ = some (.pointer (some ⟨b, 0, none⟩)) := fun w h => h.2.2.1
          have d19 : ∀ w, rdS bi ba bd bw b (first : Nat) (size : Nat) which i w → w.rangeAt ba 0 (areaC (first : Nat) (size : Nat)) := fun w h => h.2.1
          have d20 : ∀ w, rdS bi ba bd bw b (first : Nat) (size : Nat) which i w → w.cell? ⟨bw, 0, none⟩ = some (.int .i64 (which : Nat)) := fun w h => h.2.2.2
          have d21 : ∀ w, rdS bi ba bd bw b (first : Nat) (size : Nat) which i w → w.cell? ⟨bi, 0, none⟩ = some (.int .i64 (i : Nat)) := fun w h => h.1
          have hS0 := cS _ _ hs.drew (by (try dsimp only [List.set]); repeat (first | with_reducible exact List.mem_cons_self | with_reducible apply List.mem_cons_of_mem)) (by (try dsimp only [List.set]); repeat (first | with_reducible exact List.mem_cons_self | with_reducible apply List.mem_cons_of_mem)) (by (try dsimp only [List.set]); repeat (first | with_reducible exact List.mem_cons_self | with_reducible apply List.mem_cons_of_mem)) (by (try dsimp only [List.set]); repeat (first | with_reducible exact List.mem_cons_self | with_reducible apply List.mem_cons_of_mem))
          refine wp_region_tree (rdS bi ba bd bw b (first : Nat) (size : Nat) which i) (.take 0 (.take 1 (.take 2 (.take 3 (.all [(4, .all [(5, .take 6 (.take 7 (.take 8 (.take 9 (.take 10 (DTree.done))))))])]))))) (by kernel_rfl) (by kernel_rfl) (by kernel_rfl) (fun _ _ d _ _ h => by cases d <;> exact h) hS0 ?_
          have hs' := hs.drew
          clear hs
          have hs := hs'
          clear hs'
          have hq := fun p : Prop => class_const hS0 p
          clear hS0
          repeat (first
            | (with_reducible refine tree_load (o := ⟨some 18, .load _ _, _, _, _, _⟩) rfl rfl rfl rfl rfl d18 ?_)
            | (with_reducible refine tree_load_agg (o := ⟨some 19, .load _ _, _, _, _, _⟩) (areaC (first : Nat) (size : Nat)) rfl rfl rfl rfl ?_ ?_ d19 ?_; (kernel_rfl); (kernel_rfl))
            | (with_reducible refine tree_load (o := ⟨some 20, .load _ _, _, _, _, _⟩) rfl rfl rfl rfl rfl d20 ?_)
            | (with_reducible refine tree_load (o := ⟨some 21, .load _ _, _, _, _, _⟩) rfl rfl rfl rfl rfl d21 ?_)
            | (refine tree_take rfl (fun K hK => ?_); go_simp; with_reducible refine hK _ ?_; clear hK K))
          refine tree_one_yes (o := _) rfl rfl (fun K hK => ?_) (cS _ _ hs (by (try dsimp only [List.set]); repeat (first | with_reducible exact List.mem_cons_self | with_reducible apply List.mem_cons_of_mem)) (by (try dsimp only [List.set]); repeat (first | with_reducible exact List.mem_cons_self | with_reducible apply List.mem_cons_of_mem)) (by (try dsimp only [List.set]); repeat (first | with_reducible exact List.mem_cons_self | with_reducible apply List.mem_cons_of_mem)) (by (try dsimp only [List.set]); repeat (first | with_reducible exact List.mem_cons_self | with_reducible apply List.mem_cons_of_mem)))
          try go_simp
          go_at_call 48
          refine (slat_spec W _ _ hs first size which i hle.out hwh (by omega)).mono ?_
          clear hs
          rintro e w5 ⟨rfl, hs⟩
          try go_simp
          refine hK _ _ (cS _ _ hs (by (try dsimp only [List.set]); repeat (first | with_reducible exact List.mem_cons_self | with_reducible apply List.mem_cons_of_mem)) (by (try dsimp only [List.set]); repeat (first | with_reducible exact List.mem_cons_self | with_reducible apply List.mem_cons_of_mem)) (by (try dsimp only [List.set]); repeat (first | with_reducible exact List.mem_cons_self | with_reducible apply List.mem_cons_of_mem)) (by (try dsimp only [List.set]); repeat (first | with_reducible exact List.mem_cons_self | with_reducible apply List.mem_cons_of_mem))) ?_
          clear hK K
          refine tree_one_yes (o := _) rfl rfl (fun K hK => ?_) (cS _ _ hs (by (try dsimp only [List.set]); repeat (first | with_reducible exact List.mem_cons_self | with_reducible apply List.mem_cons_of_mem)) (by (try dsimp only [List.set]); repeat (first | with_reducible exact List.mem_cons_self | with_reducible apply List.mem_cons_of_mem)) (by (try dsimp only [List.set]); repeat (first | with_reducible exact List.mem_cons_self | with_reducible apply List.mem_cons_of_mem)) (by (try dsimp only [List.set]); repeat (first | with_reducible exact List.mem_cons_self | with_reducible apply List.mem_cons_of_mem)))
          try go_simp
          go_at_call 35
          refine (read_spec W _ _ b D (hs.pick (A := disk b D) (by repeat (first | with_reducible exact Pick.here | with_reducible apply Pick.there))) (first + size * which + i) hHadr.out hr).mono ?_
          clear hs
          rintro e w5 ⟨bb, rfl, hs⟩
          rw [HP.out] at hs
          try go_simp
          refine hK _ _ (cS _ _ hs (by (try dsimp only [List.set]); repeat (first | with_reducible exact List.mem_cons_self | with_reducible apply List.mem_cons_of_mem)) (by (try dsimp only [List.set]); repeat (first | with_reducible exact List.mem_cons_self | with_reducible apply List.mem_cons_of_mem)) (by (try dsimp only [List.set]); repeat (first | with_reducible exact List.mem_cons_self | with_reducible apply List.mem_cons_of_mem)) (by (try dsimp only [List.set]); repeat (first | with_reducible exact List.mem_cons_self | with_reducible apply List.mem_cons_of_mem))) ?_
          clear hK K
          repeat (first
            | (with_reducible refine tree_load (o := ⟨some 18, .load _ _, _, _, _, _⟩) rfl rfl rfl rfl rfl d18 ?_)
            | (with_reducible refine tree_load_agg (o := ⟨some 19, .load _ _, _, _, _, _⟩) (areaC (first : Nat) (size : Nat)) rfl rfl rfl rfl ?_ ?_ d19 ?_; (kernel_rfl); (kernel_rfl))
            | (with_reducible refine tree_load (o := ⟨some 20, .load _ _, _, _, _, _⟩) rfl rfl rfl rfl rfl d20 ?_)
            | (with_reducible refine tree_load (o := ⟨some 21, .load _ _, _, _, _, _⟩) rfl rfl rfl rfl rfl d21 ?_)
            | (refine tree_take rfl (fun K hK => ?_); go_simp; with_reducible refine hK _ ?_; clear hK K))
          refine tree_done ?_
          clear hq cS d18 d19 d20 d21
          go_wp2_with (first
            | (go_at_call 71; go_must (refine (fparse_spec W _ _ hs _ P (lit_bytes (b := bb) (t := 111) 0 rfl 64 HL.out (by omega)) (by rw [HL.out]; omega)).mono ?_); clear hs; rintro e w1 ⟨vx, rfl, hs⟩; rw [HFC.out.1, HFC.out.2]; rw [HFC.out.1] at hs
               obtain ⟨Ax, cx, rfl, _, _⟩ := slice_form (hs.bytes (bytesH_has 0 rfl)))
            | (guard_target = wpList _ _ _ (⟨some 9, .alloc _, _, _, _, _⟩ :: _) _ _; refine wpl (o := ⟨some 9, .alloc _, _, _, _, _⟩) rfl fun K hK => ?_; go_must (refine op_alloc hs rfl _ zframe [.int .u32 0, .int .u32 0, .int .u8 0, .slice none 0 0] rfl fun b9 w1 h => hK _ _ ?_); clear hs hK K; have hs := h; clear h; try dsimp only [List.set] at hs)
            | (guard_target = wpList _ _ _ (⟨none, .store _ (.tmp 9) _, _, _, _, _⟩ :: _) _ _; refine wpl (o := ⟨none, .store _ (.tmp 9) _, _, _, _, _⟩) rfl fun K hK => ?_; go_must (refine op_store_whole hs (b := b9) rfl rfl (frCells f (.slice Ax f.body.length cx)) rfl (by simp [frCells, Value.oneCell']) (by kernel_rfl) (k := 0) rfl rfl fun w9 h => hK _ _ ?_); clear hs hK K; have hs := h; clear h; dsimp only [List.set] at hs
               have k38 : w9.cell? ⟨bg, 0, none⟩ = some (.int .u32 (g : Nat)) := hs.cell (l := [.int .u32 (g : Nat)]) (t := 27) (by (try dsimp only [List.set]); repeat (first | with_reducible exact List.mem_cons_self | with_reducible apply List.mem_cons_of_mem)) rfl
               have k44 : w9.cell? ⟨bw, 0, none⟩ = some (.int .i64 (which : Nat)) := hs.cell (l := [.int .i64 (which : Nat)]) (t := 3) (by (try dsimp only [List.set]); repeat (first | with_reducible exact List.mem_cons_self | with_reducible apply List.mem_cons_of_mem)) rfl
               have k50 : w9.cell? ⟨b9, 0, none⟩ = some (.int .u32 (f.epoch : Nat)) := hs.cell (l := (frCells f (.slice Ax f.body.length cx))) (t := 107) (by (try dsimp only [List.set]); repeat (first | with_reducible exact List.mem_cons_self | with_reducible apply List.mem_cons_of_mem)) rfl
               have k56 : w9.cell? ⟨b9, 1, none⟩ = some (.int .u32 (f.seq : Nat)) := hs.cell (l := (frCells f (.slice Ax f.body.length cx))) (t := 107) (by (try dsimp only [List.set]); repeat (first | with_reducible exact List.mem_cons_self | with_reducible apply List.mem_cons_of_mem)) rfl
               have k63 : w9.cell? ⟨b9, 2, none⟩ = some (.int .u8 f.flag.toNat) := hs.cell (l := (frCells f (.slice Ax f.body.length cx))) (t := 107) (by (try dsimp only [List.set]); repeat (first | with_reducible exact List.mem_cons_self | with_reducible apply List.mem_cons_of_mem)) rfl
               have k66 : w9.cell? ⟨bi, 0, none⟩ = some (.int .i64 (i : Nat)) := hs.cell (l := [.int .i64 (i : Nat)]) (t := 3) (by (try dsimp only [List.set]); repeat (first | with_reducible exact List.mem_cons_self | with_reducible apply List.mem_cons_of_mem)) rfl)
            | (guard_target = wpList _ _ _ (⟨some 31, .load _ _, _, _, _, _⟩ :: _) _ _; refine wpl (o := ⟨some 31, .load _ _, _, _, _, _⟩) rfl fun K hK => op_load rfl (ad := ⟨bi, 0, none⟩) rfl (by kernel_rfl) (hs.cell (l := [.int .i64 (i : Nat)]) (t := 3) (by (try dsimp only [List.set]); repeat (first | with_reducible exact List.mem_cons_self | with_reducible apply List.mem_cons_of_mem)) rfl) (hK _ _ ?_); clear hK K)
            | (guard_target = wpList _ _ _ (⟨some 38, .load _ _, _, _, _, _⟩ :: _) _ _; refine wpl (o := ⟨some 38, .load _ _, _, _, _, _⟩) rfl fun K hK => op_load rfl (ad := ⟨bg, 0, none⟩) rfl (by kernel_rfl) k38 (hK _ _ ?_); clear hK K)
            | (guard_target = wpList _ _ _ (⟨some 42, .load _ _, _, _, _, _⟩ :: _) _ _; refine wpl (o := ⟨some 42, .load _ _, _, _, _, _⟩) rfl fun K hK => op_load rfl (ad := ⟨bg, 0, none⟩) rfl (by kernel_rfl) k38 (hK _ _ ?_); clear hK K)
            | (guard_target = wpList _ _ _ (⟨some 44, .load _ _, _, _, _, _⟩ :: _) _ _; refine wpl (o := ⟨some 44, .load _ _, _, _, _, _⟩) rfl fun K hK => op_load rfl (ad := ⟨bw, 0, none⟩) rfl (by kernel_rfl) k44 (hK _ _ ?_); clear hK K)
            | (guard_target = wpList _ _ _ (⟨some 50, .load _ _, _, _, _, _⟩ :: _) _ _; refine wpl (o := ⟨some 50, .load _ _, _, _, _, _⟩) rfl fun K hK => op_load rfl (ad := ⟨b9, 0, none⟩) rfl (by kernel_rfl) k50 (hK _ _ ?_); clear hK K)
            | (guard_target = wpList _ _ _ (⟨some 51, .load _ _, _, _, _, _⟩ :: _) _ _; refine wpl (o := ⟨some 51, .load _ _, _, _, _, _⟩) rfl fun K hK => op_load rfl (ad := ⟨bg, 0, none⟩) rfl (by kernel_rfl) k38 (hK _ _ ?_); clear hK K)
            | (guard_target = wpList _ _ _ (⟨some 56, .load _ _, _, _, _, _⟩ :: _) _ _; refine wpl (o := ⟨some 56, .load _ _, _, _, _, _⟩) rfl fun K hK => op_load rfl (ad := ⟨b9, 1, none⟩) rfl (by kernel_rfl) k56 (hK _ _ ?_); clear hK K)
            | (guard_target = wpList _ _ _ (⟨some 57, .load _ _, _, _, _, _⟩ :: _) _ _; refine wpl (o := ⟨some 57, .load _ _, _, _, _, _⟩) rfl fun K hK => op_load rfl (ad := ⟨bi, 0, none⟩) rfl (by kernel_rfl) k66 (hK _ _ ?_); clear hK K)
            | (guard_target = wpList _ _ _ (⟨some 63, .load _ _, _, _, _, _⟩ :: _) _ _; refine wpl (o := ⟨some 63, .load _ _, _, _, _, _⟩) rfl fun K hK => op_load rfl (ad := ⟨b9, 2, none⟩) rfl (by kernel_rfl) k63 (hK _ _ ?_); clear hK K)
            | (guard_target = wpList _ _ _ (⟨some 66, .load _ _, _, _, _, _⟩ :: _) _ _; refine wpl (o := ⟨some 66, .load _ _, _, _, _, _⟩) rfl fun K hK => op_load rfl (ad := ⟨bi, 0, none⟩) rfl (by kernel_rfl) k66 (hK _ _ ?_); clear hK K)
            | (guard_target = wpList _ _ _ (⟨some 70, .load _ _, _, _, _, _⟩ :: _) _ _; refine wpl (o := ⟨some 70, .load _ _, _, _, _, _⟩) rfl fun K hK => op_load rfl (ad := ⟨bi, 0, none⟩) rfl (by kernel_rfl) k66 (hK _ _ ?_); clear hK K)
            | (guard_target = wpList _ _ _ (⟨none, .store _ (.tmp 0) _, _, _, _, _⟩ :: _) _ _; refine wpl (o := ⟨none, .store _ (.tmp 0) _, _, _, _, _⟩) rfl fun K hK => ?_; go_must (refine op_store (hs.pick (A := row bi [.int .i64 (i : Nat)] 3) (by repeat (first | with_reducible exact Pick.here | with_reducible apply Pick.there))) rfl (b := bi) (i := 0) (v := .int .i64 (((i + 1 : Nat) : Int))) rfl rfl rfl (by kernel_rfl) (k := 0) rfl (by simp) fun w5 h => hK _ _ ?_); clear hs hK K; have hs := h; clear h; try dsimp only [List.set] at hs)
            | (guard_target = wpList _ _ _ (⟨some 72, .load _ _, _, _, _, _⟩ :: _) _ _; refine wpl (o := ⟨some 72, .load _ _, _, _, _, _⟩) rfl fun K hK => op_load_agg rfl (b := b9) (i := 0) rfl (frCells f (.slice Ax f.body.length cx)) (range_whole hs (by (try dsimp only [List.set]); repeat (first | with_reducible exact List.mem_cons_self | with_reducible apply List.mem_cons_of_mem))) (by kernel_rfl) (by kernel_rfl) (hK _ _ ?_); clear hK K)
            | (guard_target = wpList _ _ _ (⟨none, .store _ (.tmp 5) _, _, _, _, _⟩ :: _) _ _; refine wpl (o := ⟨none, .store _ (.tmp 5) _, _, _, _, _⟩) rfl fun K hK => ?_; go_must (refine op_store_whole (hs.pick (A := row b5 [.int .u32 0, .int .u32 0, .int .u8 0, .slice none 0 0] 107) (by repeat (first | with_reducible exact Pick.here | with_reducible apply Pick.there))) (b := b5) rfl rfl (frCells f (.slice Ax f.body.length cx)) rfl (by simp [frCells, Value.oneCell']) (by kernel_rfl) (k := 0) rfl rfl fun w3 h => hK _ _ ?_); clear hs hK K; have hs := h; clear h; try dsimp only [List.set] at hs))
          refine bodyPost_ret (run_results_cell_tmp' rfl (b := b5) rfl _ (range_whole hs m0) (by kernel_rfl) (by kernel_rfl)) rfl ?_
          refine ⟨.slice Ax f.body.length cx, by rw [HN.out]; rfl, ?_⟩
          exact hs.pack (by repeat (first | with_reducible exact Pack.refl | with_reducible exact Pack.nil | with_reducible refine Pack.cons (by repeat (first | with_reducible exact Pick.here | with_reducible apply Pick.there)) ?_ | with_reducible apply Pack.drop))
      · have e1 : ((g : Int) != 0) = false := by simp; omega
        have HN : Box (slNext which i g f code = false) := ⟨by have c0 := C0.out; have hi0 := HI0.out; have hrb := HRB.out; (try rw [hi0] at c1); simp [slNext, *]⟩
        clear c1
        go_enter Try.func70, Try.ntmps70
        go_wp2_with (first
          | (guard_target = wpList _ _ _ (⟨some 5, .alloc _, _, _, _, _⟩ :: _) _ _; refine wpl (o := ⟨some 5, .alloc _, _, _, _, _⟩) rfl fun K hK => ?_; go_must (refine op_alloc hs rfl _ zframe [.int .u32 0, .int .u32 0, .int .u8 0, .slice none 0 0] rfl fun b5 w1 h => hK _ _ ?_); clear hs hK K; have hs := h; clear h; try dsimp only [List.set] at hs)
          | (guard_target = wpList _ _ _ (⟨some 12, .load _ _, _, _, _, _⟩ :: _) _ _; refine wpl (o := ⟨some 12, .load _ _, _, _, _, _⟩) rfl fun K hK => op_load rfl (ad := ⟨bi, 0, none⟩) rfl (by kernel_rfl) (hs.cell m1 rfl) (hK _ _ ?_); clear hK K)
          | (guard_target = wpList _ _ _ (⟨some 14, .load _ _, _, _, _, _⟩ :: _) _ _; refine wpl (o := ⟨some 14, .load _ _, _, _, _, _⟩) rfl fun K hK => op_load rfl (ad := ⟨ba, 1, none⟩) rfl (by kernel_rfl) (hs.cell m2 rfl) (hK _ _ ?_); clear hK K))
        have cS : ∀ w M, Sat W w M → row bi [.int .i64 (i : Nat)] 3 ∈ M → row ba (areaC (first : Nat) (size : Nat)) 31 ∈ M → row bd [.pointer (some ⟨b, 0, none⟩)] 25 ∈ M → row bw [.int .i64 (which : Nat)] 3 ∈ M → rdS bi ba bd bw b (first : Nat) (size : Nat) which i w := fun w M h h1 h2 h3 h4 => ⟨h.cell h1 rfl, range_whole h h2, h.cell h3 rfl, h.cell h4 rfl⟩
        have d18 : ∀ w, rdS bi ba bd bw b (first : Nat) (size : Nat) which i w → w.cell? ⟨bd, 0, none⟩ = some (.pointer (some ⟨b, 0, none⟩)) := fun w h => h.2.2.1
        have d19 : ∀ w, rdS bi ba bd bw b (first : Nat) (size : Nat) which i w → w.rangeAt ba 0 (areaC (first : Nat) (size : Nat)) := fun w h => h.2.1
        have d20 : ∀ w, rdS bi ba bd bw b (first : Nat) (size : Nat) which i w → w.cell? ⟨bw, 0, none⟩ = some (.int .i64 (which : Nat)) := fun w h => h.2.2.2
        have d21 : ∀ w, rdS bi ba bd bw b (first : Nat) (size : Nat) which i w → w.cell? ⟨bi, 0, none⟩ = some (.int .i64 (i : Nat)) := fun w h => h.1
        have hS0 := cS _ _ hs.drew (by (try dsimp only [List.set]); repeat (first | with_reducible exact List.mem_cons_self | with_reducible apply List.mem_cons_of_mem)) (by (try dsimp only [List.set]); repeat (first | with_reducible exact List.mem_cons_self | with_reducible apply List.mem_cons_of_mem)) (by (try dsimp only [List.set]); repeat (first | with_reducible exact List.mem_cons_self | with_reducible apply List.mem_cons_of_mem)) (by (try dsimp only [List.set]); repeat (first | with_reducible exact List.mem_cons_self | with_reducible apply List.mem_cons_of_mem))
        refine wp_region_tree (rdS bi ba bd bw b (first : Nat) (size : Nat) which i) (.take 0 (.take 1 (.take 2 (.take 3 (.all [(4, .all [(5, .take 6 (.take 7 (.take 8 (.take 9 (.take 10 (DTree.done))))))])]))))) (by kernel_rfl) (by kernel_rfl) (by kernel_rfl) (fun _ _ d _ _ h => by cases d <;> exact h) hS0 ?_
        have hs' := hs.drew
        clear hs
        have hs := hs'
        clear hs'
        have hq := fun p : Prop => class_const hS0 p
        clear hS0
        repeat (first
          | (with_reducible refine tree_load (o := ⟨some 18, .load _ _, _, _, _, _⟩) rfl rfl rfl rfl rfl d18 ?_)
          | (with_reducible refine tree_load_agg (o := ⟨some 19, .load _ _, _, _, _, _⟩) (areaC (first : Nat) (size : Nat)) rfl rfl rfl rfl ?_ ?_ d19 ?_; (kernel_rfl); (kernel_rfl))
          | (with_reducible refine tree_load (o := ⟨some 20, .load _ _, _, _, _, _⟩) rfl rfl rfl rfl rfl d20 ?_)
          | (with_reducible refine tree_load (o := ⟨some 21, .load _ _, _, _, _, _⟩) rfl rfl rfl rfl rfl d21 ?_)
          | (refine tree_take rfl (fun K hK => ?_); go_simp; with_reducible refine hK _ ?_; clear hK K))
        refine tree_one_yes (o := _) rfl rfl (fun K hK => ?_) (cS _ _ hs (by (try dsimp only [List.set]); repeat (first | with_reducible exact List.mem_cons_self | with_reducible apply List.mem_cons_of_mem)) (by (try dsimp only [List.set]); repeat (first | with_reducible exact List.mem_cons_self | with_reducible apply List.mem_cons_of_mem)) (by (try dsimp only [List.set]); repeat (first | with_reducible exact List.mem_cons_self | with_reducible apply List.mem_cons_of_mem)) (by (try dsimp only [List.set]); repeat (first | with_reducible exact List.mem_cons_self | with_reducible apply List.mem_cons_of_mem)))
        try go_simp
        go_at_call 48
        refine (slat_spec W _ _ hs first size which i hle.out hwh (by omega)).mono ?_
        clear hs
        rintro e w5 ⟨rfl, hs⟩
        try go_simp
        refine hK _ _ (cS _ _ hs (by (try dsimp only [List.set]); repeat (first | with_reducible exact List.mem_cons_self | with_reducible apply List.mem_cons_of_mem)) (by (try dsimp only [List.set]); repeat (first | with_reducible exact List.mem_cons_self | with_reducible apply List.mem_cons_of_mem)) (by (try dsimp only [List.set]); repeat (first | with_reducible exact List.mem_cons_self | with_reducible apply List.mem_cons_of_mem)) (by (try dsimp only [List.set]); repeat (first | with_reducible exact List.mem_cons_self | with_reducible apply List.mem_cons_of_mem))) ?_
        clear hK K
        refine tree_one_yes (o := _) rfl rfl (fun K hK => ?_) (cS _ _ hs (by (try dsimp only [List.set]); repeat (first | with_reducible exact List.mem_cons_self | with_reducible apply List.mem_cons_of_mem)) (by (try dsimp only [List.set]); repeat (first | with_reducible exact List.mem_cons_self | with_reducible apply List.mem_cons_of_mem)) (by (try dsimp only [List.set]); repeat (first | with_reducible exact List.mem_cons_self | with_reducible apply List.mem_cons_of_mem)) (by (try dsimp only [List.set]); repeat (first | with_reducible exact List.mem_cons_self | with_reducible apply List.mem_cons_of_mem)))
        try go_simp
        go_at_call 35
        refine (read_spec W _ _ b D (hs.pick (A := disk b D) (by repeat (first | with_reducible exact Pick.here | with_reducible apply Pick.there))) (first + size * which + i) hHadr.out hr).mono ?_
        clear hs
        rintro e w5 ⟨bb, rfl, hs⟩
        rw [HP.out] at hs
        try go_simp
        refine hK _ _ (cS _ _ hs (by (try dsimp only [List.set]); repeat (first | with_reducible exact List.mem_cons_self | with_reducible apply List.mem_cons_of_mem)) (by (try dsimp only [List.set]); repeat (first | with_reducible exact List.mem_cons_self | with_reducible apply List.mem_cons_of_mem)) (by (try dsimp only [List.set]); repeat (first | with_reducible exact List.mem_cons_self | with_reducible apply List.mem_cons_of_mem)) (by (try dsimp only [List.set]); repeat (first | with_reducible exact List.mem_cons_self | with_reducible apply List.mem_cons_of_mem))) ?_
        clear hK K
        repeat (first
          | (with_reducible refine tree_load (o := ⟨some 18, .load _ _, _, _, _, _⟩) rfl rfl rfl rfl rfl d18 ?_)
          | (with_reducible refine tree_load_agg (o := ⟨some 19, .load _ _, _, _, _, _⟩) (areaC (first : Nat) (size : Nat)) rfl rfl rfl rfl ?_ ?_ d19 ?_; (kernel_rfl); (kernel_rfl))
          | (with_reducible refine tree_load (o := ⟨some 20, .load _ _, _, _, _, _⟩) rfl rfl rfl rfl rfl d20 ?_)
          | (with_reducible refine tree_load (o := ⟨some 21, .load _ _, _, _, _, _⟩) rfl rfl rfl rfl rfl d21 ?_)
          | (refine tree_take rfl (fun K hK => ?_); go_simp; with_reducible refine hK _ ?_; clear hK K))
        refine tree_done ?_
        clear hq cS d18 d19 d20 d21
        go_wp2_with (first
          | (go_at_call 71; go_must (refine (fparse_spec W _ _ hs _ P (lit_bytes (b := bb) (t := 111) 0 rfl 64 HL.out (by omega)) (by rw [HL.out]; omega)).mono ?_); clear hs; rintro e w1 ⟨vx, rfl, hs⟩; rw [HFC.out.1, HFC.out.2]; rw [HFC.out.1] at hs
             obtain ⟨Ax, cx, rfl, _, _⟩ := slice_form (hs.bytes (bytesH_has 0 rfl)))
          | (guard_target = wpList _ _ _ (⟨some 9, .alloc _, _, _, _, _⟩ :: _) _ _; refine wpl (o := ⟨some 9, .alloc _, _, _, _, _⟩) rfl fun K hK => ?_; go_must (refine op_alloc hs rfl _ zframe [.int .u32 0, .int .u32 0, .int .u8 0, .slice none 0 0] rfl fun b9 w1 h => hK _ _ ?_); clear hs hK K; have hs := h; clear h; try dsimp only [List.set] at hs)
          | (guard_target = wpList _ _ _ (⟨none, .store _ (.tmp 9) _, _, _, _, _⟩ :: _) _ _; refine wpl (o := ⟨none, .store _ (.tmp 9) _, _, _, _, _⟩) rfl fun K hK => ?_; go_must (refine op_store_whole hs (b := b9) rfl rfl (frCells f (.slice Ax f.body.length cx)) rfl (by simp [frCells, Value.oneCell']) (by kernel_rfl) (k := 0) rfl rfl fun w9 h => hK _ _ ?_); clear hs hK K; have hs := h; clear h; dsimp only [List.set] at hs
             have k38 : w9.cell? ⟨bg, 0, none⟩ = some (.int .u32 (g : Nat)) := hs.cell (l := [.int .u32 (g : Nat)]) (t := 27) (by (try dsimp only [List.set]); repeat (first | with_reducible exact List.mem_cons_self | with_reducible apply List.mem_cons_of_mem)) rfl
             have k44 : w9.cell? ⟨bw, 0, none⟩ = some (.int .i64 (which : Nat)) := hs.cell (l := [.int .i64 (which : Nat)]) (t := 3) (by (try dsimp only [List.set]); repeat (first | with_reducible exact List.mem_cons_self | with_reducible apply List.mem_cons_of_mem)) rfl
             have k50 : w9.cell? ⟨b9, 0, none⟩ = some (.int .u32 (f.epoch : Nat)) := hs.cell (l := (frCells f (.slice Ax f.body.length cx))) (t := 107) (by (try dsimp only [List.set]); repeat (first | with_reducible exact List.mem_cons_self | with_reducible apply List.mem_cons_of_mem)) rfl
             have k56 : w9.cell? ⟨b9, 1, none⟩ = some (.int .u32 (f.seq : Nat)) := hs.cell (l := (frCells f (.slice Ax f.body.length cx))) (t := 107) (by (try dsimp only [List.set]); repeat (first | with_reducible exact List.mem_cons_self | with_reducible apply List.mem_cons_of_mem)) rfl
             have k63 : w9.cell? ⟨b9, 2, none⟩ = some (.int .u8 f.flag.toNat) := hs.cell (l := (frCells f (.slice Ax f.body.length cx))) (t := 107) (by (try dsimp only [List.set]); repeat (first | with_reducible exact List.mem_cons_self | with_reducible apply List.mem_cons_of_mem)) rfl
             have k66 : w9.cell? ⟨bi, 0, none⟩ = some (.int .i64 (i : Nat)) := hs.cell (l := [.int .i64 (i : Nat)]) (t := 3) (by (try dsimp only [List.set]); repeat (first | with_reducible exact List.mem_cons_self | with_reducible apply List.mem_cons_of_mem)) rfl)
          | (guard_target = wpList _ _ _ (⟨some 31, .load _ _, _, _, _, _⟩ :: _) _ _; refine wpl (o := ⟨some 31, .load _ _, _, _, _, _⟩) rfl fun K hK => op_load rfl (ad := ⟨bi, 0, none⟩) rfl (by kernel_rfl) (hs.cell (l := [.int .i64 (i : Nat)]) (t := 3) (by (try dsimp only [List.set]); repeat (first | with_reducible exact List.mem_cons_self | with_reducible apply List.mem_cons_of_mem)) rfl) (hK _ _ ?_); clear hK K)
          | (guard_target = wpList _ _ _ (⟨some 38, .load _ _, _, _, _, _⟩ :: _) _ _; refine wpl (o := ⟨some 38, .load _ _, _, _, _, _⟩) rfl fun K hK => op_load rfl (ad := ⟨bg, 0, none⟩) rfl (by kernel_rfl) k38 (hK _ _ ?_); clear hK K)
          | (guard_target = wpList _ _ _ (⟨some 42, .load _ _, _, _, _, _⟩ :: _) _ _; refine wpl (o := ⟨some 42, .load _ _, _, _, _, _⟩) rfl fun K hK => op_load rfl (ad := ⟨bg, 0, none⟩) rfl (by kernel_rfl) k38 (hK _ _ ?_); clear hK K)
          | (guard_target = wpList _ _ _ (⟨some 44, .load _ _, _, _, _, _⟩ :: _) _ _; refine wpl (o := ⟨some 44, .load _ _, _, _, _, _⟩) rfl fun K hK => op_load rfl (ad := ⟨bw, 0, none⟩) rfl (by kernel_rfl) k44 (hK _ _ ?_); clear hK K)
          | (guard_target = wpList _ _ _ (⟨some 50, .load _ _, _, _, _, _⟩ :: _) _ _; refine wpl (o := ⟨some 50, .load _ _, _, _, _, _⟩) rfl fun K hK => op_load rfl (ad := ⟨b9, 0, none⟩) rfl (by kernel_rfl) k50 (hK _ _ ?_); clear hK K)
          | (guard_target = wpList _ _ _ (⟨some 51, .load _ _, _, _, _, _⟩ :: _) _ _; refine wpl (o := ⟨some 51, .load _ _, _, _, _, _⟩) rfl fun K hK => op_load rfl (ad := ⟨bg, 0, none⟩) rfl (by kernel_rfl) k38 (hK _ _ ?_); clear hK K)
          | (guard_target = wpList _ _ _ (⟨some 56, .load _ _, _, _, _, _⟩ :: _) _ _; refine wpl (o := ⟨some 56, .load _ _, _, _, _, _⟩) rfl fun K hK => op_load rfl (ad := ⟨b9, 1, none⟩) rfl (by kernel_rfl) k56 (hK _ _ ?_); clear hK K)
          | (guard_target = wpList _ _ _ (⟨some 57, .load _ _, _, _, _, _⟩ :: _) _ _; refine wpl (o := ⟨some 57, .load _ _, _, _, _, _⟩) rfl fun K hK => op_load rfl (ad := ⟨bi, 0, none⟩) rfl (by kernel_rfl) k66 (hK _ _ ?_); clear hK K)
          | (guard_target = wpList _ _ _ (⟨some 63, .load _ _, _, _, _, _⟩ :: _) _ _; refine wpl (o := ⟨some 63, .load _ _, _, _, _, _⟩) rfl fun K hK => op_load rfl (ad := ⟨b9, 2, none⟩) rfl (by kernel_rfl) k63 (hK _ _ ?_); clear hK K)
          | (guard_target = wpList _ _ _ (⟨some 66, .load _ _, _, _, _, _⟩ :: _) _ _; refine wpl (o := ⟨some 66, .load _ _, _, _, _, _⟩) rfl fun K hK => op_load rfl (ad := ⟨bi, 0, none⟩) rfl (by kernel_rfl) k66 (hK _ _ ?_); clear hK K)
          | (guard_target = wpList _ _ _ (⟨some 70, .load _ _, _, _, _, _⟩ :: _) _ _; refine wpl (o := ⟨some 70, .load _ _, _, _, _, _⟩) rfl fun K hK => op_load rfl (ad := ⟨bi, 0, none⟩) rfl (by kernel_rfl) k66 (hK _ _ ?_); clear hK K)
          | (guard_target = wpList _ _ _ (⟨none, .store _ (.tmp 0) _, _, _, _, _⟩ :: _) _ _; refine wpl (o := ⟨none, .store _ (.tmp 0) _, _, _, _, _⟩) rfl fun K hK => ?_; go_must (refine op_store (hs.pick (A := row bi [.int .i64 (i : Nat)] 3) (by repeat (first | with_reducible exact Pick.here | with_reducible apply Pick.there))) rfl (b := bi) (i := 0) (v := .int .i64 (((i + 1 : Nat) : Int))) rfl rfl rfl (by kernel_rfl) (k := 0) rfl (by simp) fun w5 h => hK _ _ ?_); clear hs hK K; have hs := h; clear h; try dsimp only [List.set] at hs)
          | (guard_target = wpList _ _ _ (⟨some 72, .load _ _, _, _, _, _⟩ :: _) _ _; refine wpl (o := ⟨some 72, .load _ _, _, _, _, _⟩) rfl fun K hK => op_load_agg rfl (b := b9) (i := 0) rfl (frCells f (.slice Ax f.body.length cx)) (range_whole hs (by (try dsimp only [List.set]); repeat (first | with_reducible exact List.mem_cons_self | with_reducible apply List.mem_cons_of_mem))) (by kernel_rfl) (by kernel_rfl) (hK _ _ ?_); clear hK K)
          | (guard_target = wpList _ _ _ (⟨none, .store _ (.tmp 5) _, _, _, _, _⟩ :: _) _ _; refine wpl (o := ⟨none, .store _ (.tmp 5) _, _, _, _, _⟩) rfl fun K hK => ?_; go_must (refine op_store_whole (hs.pick (A := row b5 [.int .u32 0, .int .u32 0, .int .u8 0, .slice none 0 0] 107) (by repeat (first | with_reducible exact Pick.here | with_reducible apply Pick.there))) (b := b5) rfl rfl (frCells f (.slice Ax f.body.length cx)) rfl (by simp [frCells, Value.oneCell']) (by kernel_rfl) (k := 0) rfl rfl fun w3 h => hK _ _ ?_); clear hs hK K; have hs := h; clear h; try dsimp only [List.set] at hs))
        refine bodyPost_ret (run_results_cell_tmp' rfl (b := b5) rfl _ (range_whole hs m0) (by kernel_rfl) (by kernel_rfl)) rfl ?_
        refine ⟨.slice Ax f.body.length cx, by rw [HN.out]; rfl, ?_⟩
        exact hs.pack (by repeat (first | with_reducible exact Pack.refl | with_reducible exact Pack.nil | with_reducible refine Pack.cons (by repeat (first | with_reducible exact Pick.here | with_reducible apply Pick.there)) ?_ | with_reducible apply Pack.drop))
    · have e0 : ((code : Int) == 0) = false := by simp; omega
      have HN : Box (slNext which i g f code = false) := ⟨by have hi0 := HI0.out; have hrb := HRB.out; (try rw [hi0] at c0); simp [slNext, *]⟩
      clear c0
      go_enter Try.func70, Try.ntmps70
      go_wp2_with (first
        | (guard_target = wpList _ _ _ (⟨some 5, .alloc _, _, _, _, _⟩ :: _) _ _; refine wpl (o := ⟨some 5, .alloc _, _, _, _, _⟩) rfl fun K hK => ?_; go_must (refine op_alloc hs rfl _ zframe [.int .u32 0, .int .u32 0, .int .u8 0, .slice none 0 0] rfl fun b5 w1 h => hK _ _ ?_); clear hs hK K; have hs := h; clear h; try dsimp only [List.set] at hs)
        | (guard_target = wpList _ _ _ (⟨some 12, .load _ _, _, _, _, _⟩ :: _) _ _; refine wpl (o := ⟨some 12, .load _ _, _, _, _, _⟩) rfl fun K hK => op_load rfl (ad := ⟨bi, 0, none⟩) rfl (by kernel_rfl) (hs.cell m1 rfl) (hK _ _ ?_); clear hK K)
        | (guard_target = wpList _ _ _ (⟨some 14, .load _ _, _, _, _, _⟩ :: _) _ _; refine wpl (o := ⟨some 14, .load _ _, _, _, _, _⟩) rfl fun K hK => op_load rfl (ad := ⟨ba, 1, none⟩) rfl (by kernel_rfl) (hs.cell m2 rfl) (hK _ _ ?_); clear hK K))
      have cS : ∀ w M, Sat W w M → row bi [.int .i64 (i : Nat)] 3 ∈ M → row ba (areaC (first : Nat) (size : Nat)) 31 ∈ M → row bd [.pointer (some ⟨b, 0, none⟩)] 25 ∈ M → row bw [.int .i64 (which : Nat)] 3 ∈ M → rdS bi ba bd bw b (first : Nat) (size : Nat) which i w := fun w M h h1 h2 h3 h4 => ⟨h.cell h1 rfl, range_whole h h2, h.cell h3 rfl, h.cell h4 rfl⟩
      have d18 : ∀ w, rdS bi ba bd bw b (first : Nat) (size : Nat) which i w → w.cell? ⟨bd, 0, none⟩ = some (.pointer (some ⟨b, 0, none⟩)) := fun w h => h.2.2.1
      have d19 : ∀ w, rdS bi ba bd bw b (first : Nat) (size : Nat) which i w → w.rangeAt ba 0 (areaC (first : Nat) (size : Nat)) := fun w h => h.2.1
      have d20 : ∀ w, rdS bi ba bd bw b (first : Nat) (size : Nat) which i w → w.cell? ⟨bw, 0, none⟩ = some (.int .i64 (which : Nat)) := fun w h => h.2.2.2
      have d21 : ∀ w, rdS bi ba bd bw b (first : Nat) (size : Nat) which i w → w.cell? ⟨bi, 0, none⟩ = some (.int .i64 (i : Nat)) := fun w h => h.1
      have hS0 := cS _ _ hs.drew (by (try dsimp only [List.set]); repeat (first | with_reducible exact List.mem_cons_self | with_reducible apply List.mem_cons_of_mem)) (by (try dsimp only [List.set]); repeat (first | with_reducible exact List.mem_cons_self | with_reducible apply List.mem_cons_of_mem)) (by (try dsimp only [List.set]); repeat (first | with_reducible exact List.mem_cons_self | with_reducible apply List.mem_cons_of_mem)) (by (try dsimp only [List.set]); repeat (first | with_reducible exact List.mem_cons_self | with_reducible apply List.mem_cons_of_mem))
      refine wp_region_tree (rdS bi ba bd bw b (first : Nat) (size : Nat) which i) (.take 0 (.take 1 (.take 2 (.take 3 (.all [(4, .all [(5, .take 6 (.take 7 (.take 8 (.take 9 (.take 10 (DTree.done))))))])]))))) (by kernel_rfl) (by kernel_rfl) (by kernel_rfl) (fun _ _ d _ _ h => by cases d <;> exact h) hS0 ?_
      have hs' := hs.drew
      clear hs
      have hs := hs'
      clear hs'
      have hq := fun p : Prop => class_const hS0 p
      clear hS0
      repeat (first
        | (with_reducible refine tree_load (o := ⟨some 18, .load _ _, _, _, _, _⟩) rfl rfl rfl rfl rfl d18 ?_)
        | (with_reducible refine tree_load_agg (o := ⟨some 19, .load _ _, _, _, _, _⟩) (areaC (first : Nat) (size : Nat)) rfl rfl rfl rfl ?_ ?_ d19 ?_; (kernel_rfl); (kernel_rfl))
        | (with_reducible refine tree_load (o := ⟨some 20, .load _ _, _, _, _, _⟩) rfl rfl rfl rfl rfl d20 ?_)
        | (with_reducible refine tree_load (o := ⟨some 21, .load _ _, _, _, _, _⟩) rfl rfl rfl rfl rfl d21 ?_)
        | (refine tree_take rfl (fun K hK => ?_); go_simp; with_reducible refine hK _ ?_; clear hK K))
      refine tree_one_yes (o := _) rfl rfl (fun K hK => ?_) (cS _ _ hs (by (try dsimp only [List.set]); repeat (first | with_reducible exact List.mem_cons_self | with_reducible apply List.mem_cons_of_mem)) (by (try dsimp only [List.set]); repeat (first | with_reducible exact List.mem_cons_self | with_reducible apply List.mem_cons_of_mem)) (by (try dsimp only [List.set]); repeat (first | with_reducible exact List.mem_cons_self | with_reducible apply List.mem_cons_of_mem)) (by (try dsimp only [List.set]); repeat (first | with_reducible exact List.mem_cons_self | with_reducible apply List.mem_cons_of_mem)))
      try go_simp
      go_at_call 48
      refine (slat_spec W _ _ hs first size which i hle.out hwh (by omega)).mono ?_
      clear hs
      rintro e w5 ⟨rfl, hs⟩
      try go_simp
      refine hK _ _ (cS _ _ hs (by (try dsimp only [List.set]); repeat (first | with_reducible exact List.mem_cons_self | with_reducible apply List.mem_cons_of_mem)) (by (try dsimp only [List.set]); repeat (first | with_reducible exact List.mem_cons_self | with_reducible apply List.mem_cons_of_mem)) (by (try dsimp only [List.set]); repeat (first | with_reducible exact List.mem_cons_self | with_reducible apply List.mem_cons_of_mem)) (by (try dsimp only [List.set]); repeat (first | with_reducible exact List.mem_cons_self | with_reducible apply List.mem_cons_of_mem))) ?_
      clear hK K
      refine tree_one_yes (o := _) rfl rfl (fun K hK => ?_) (cS _ _ hs (by (try dsimp only [List.set]); repeat (first | with_reducible exact List.mem_cons_self | with_reducible apply List.mem_cons_of_mem)) (by (try dsimp only [List.set]); repeat (first | with_reducible exact List.mem_cons_self | with_reducible apply List.mem_cons_of_mem)) (by (try dsimp only [List.set]); repeat (first | with_reducible exact List.mem_cons_self | with_reducible apply List.mem_cons_of_mem)) (by (try dsimp only [List.set]); repeat (first | with_reducible exact List.mem_cons_self | with_reducible apply List.mem_cons_of_mem)))
      try go_simp
      go_at_call 35
      refine (read_spec W _ _ b D (hs.pick (A := disk b D) (by repeat (first | with_reducible exact Pick.here | with_reducible apply Pick.there))) (first + size * which + i) hHadr.out hr).mono ?_
      clear hs
      rintro e w5 ⟨bb, rfl, hs⟩
      rw [HP.out] at hs
      try go_simp
      refine hK _ _ (cS _ _ hs (by (try dsimp only [List.set]); repeat (first | with_reducible exact List.mem_cons_self | with_reducible apply List.mem_cons_of_mem)) (by (try dsimp only [List.set]); repeat (first | with_reducible exact List.mem_cons_self | with_reducible apply List.mem_cons_of_mem)) (by (try dsimp only [List.set]); repeat (first | with_reducible exact List.mem_cons_self | with_reducible apply List.mem_cons_of_mem)) (by (try dsimp only [List.set]); repeat (first | with_reducible exact List.mem_cons_self | with_reducible apply List.mem_cons_of_mem))) ?_
      clear hK K
      repeat (first
        | (with_reducible refine tree_load (o := ⟨some 18, .load _ _, _, _, _, _⟩) rfl rfl rfl rfl rfl d18 ?_)
        | (with_reducible refine tree_load_agg (o := ⟨some 19, .load _ _, _, _, _, _⟩) (areaC (first : Nat) (size : Nat)) rfl rfl rfl rfl ?_ ?_ d19 ?_; (kernel_rfl); (kernel_rfl))
        | (with_reducible refine tree_load (o := ⟨some 20, .load _ _, _, _, _, _⟩) rfl rfl rfl rfl rfl d20 ?_)
        | (with_reducible refine tree_load (o := ⟨some 21, .load _ _, _, _, _, _⟩) rfl rfl rfl rfl rfl d21 ?_)
        | (refine tree_take rfl (fun K hK => ?_); go_simp; with_reducible refine hK _ ?_; clear hK K))
      refine tree_done ?_
      clear hq cS d18 d19 d20 d21
      go_wp2_with (first
        | (go_at_call 71; go_must (refine (fparse_spec W _ _ hs _ P (lit_bytes (b := bb) (t := 111) 0 rfl 64 HL.out (by omega)) (by rw [HL.out]; omega)).mono ?_); clear hs; rintro e w1 ⟨vx, rfl, hs⟩; rw [HFC.out.1, HFC.out.2]; rw [HFC.out.1] at hs
           obtain ⟨Ax, cx, rfl, _, _⟩ := slice_form (hs.bytes (bytesH_has 0 rfl)))
        | (guard_target = wpList _ _ _ (⟨some 9, .alloc _, _, _, _, _⟩ :: _) _ _; refine wpl (o := ⟨some 9, .alloc _, _, _, _, _⟩) rfl fun K hK => ?_; go_must (refine op_alloc hs rfl _ zframe [.int .u32 0, .int .u32 0, .int .u8 0, .slice none 0 0] rfl fun b9 w1 h => hK _ _ ?_); clear hs hK K; have hs := h; clear h; try dsimp only [List.set] at hs)
        | (guard_target = wpList _ _ _ (⟨none, .store _ (.tmp 9) _, _, _, _, _⟩ :: _) _ _; refine wpl (o := ⟨none, .store _ (.tmp 9) _, _, _, _, _⟩) rfl fun K hK => ?_; go_must (refine op_store_whole hs (b := b9) rfl rfl (frCells f (.slice Ax f.body.length cx)) rfl (by simp [frCells, Value.oneCell']) (by kernel_rfl) (k := 0) rfl rfl fun w9 h => hK _ _ ?_); clear hs hK K; have hs := h; clear h; dsimp only [List.set] at hs
           have k38 : w9.cell? ⟨bg, 0, none⟩ = some (.int .u32 (g : Nat)) := hs.cell (l := [.int .u32 (g : Nat)]) (t := 27) (by (try dsimp only [List.set]); repeat (first | with_reducible exact List.mem_cons_self | with_reducible apply List.mem_cons_of_mem)) rfl
           have k44 : w9.cell? ⟨bw, 0, none⟩ = some (.int .i64 (which : Nat)) := hs.cell (l := [.int .i64 (which : Nat)]) (t := 3) (by (try dsimp only [List.set]); repeat (first | with_reducible exact List.mem_cons_self | with_reducible apply List.mem_cons_of_mem)) rfl
           have k50 : w9.cell? ⟨b9, 0, none⟩ = some (.int .u32 (f.epoch : Nat)) := hs.cell (l := (frCells f (.slice Ax f.body.length cx))) (t := 107) (by (try dsimp only [List.set]); repeat (first | with_reducible exact List.mem_cons_self | with_reducible apply List.mem_cons_of_mem)) rfl
           have k56 : w9.cell? ⟨b9, 1, none⟩ = some (.int .u32 (f.seq : Nat)) := hs.cell (l := (frCells f (.slice Ax f.body.length cx))) (t := 107) (by (try dsimp only [List.set]); repeat (first | with_reducible exact List.mem_cons_self | with_reducible apply List.mem_cons_of_mem)) rfl
           have k63 : w9.cell? ⟨b9, 2, none⟩ = some (.int .u8 f.flag.toNat) := hs.cell (l := (frCells f (.slice Ax f.body.length cx))) (t := 107) (by (try dsimp only [List.set]); repeat (first | with_reducible exact List.mem_cons_self | with_reducible apply List.mem_cons_of_mem)) rfl
           have k66 : w9.cell? ⟨bi, 0, none⟩ = some (.int .i64 (i : Nat)) := hs.cell (l := [.int .i64 (i : Nat)]) (t := 3) (by (try dsimp only [List.set]); repeat (first | with_reducible exact List.mem_cons_self | with_reducible apply List.mem_cons_of_mem)) rfl)
        | (guard_target = wpList _ _ _ (⟨some 31, .load _ _, _, _, _, _⟩ :: _) _ _; refine wpl (o := ⟨some 31, .load _ _, _, _, _, _⟩) rfl fun K hK => op_load rfl (ad := ⟨bi, 0, none⟩) rfl (by kernel_rfl) (hs.cell (l := [.int .i64 (i : Nat)]) (t := 3) (by (try dsimp only [List.set]); repeat (first | with_reducible exact List.mem_cons_self | with_reducible apply List.mem_cons_of_mem)) rfl) (hK _ _ ?_); clear hK K)
        | (guard_target = wpList _ _ _ (⟨some 38, .load _ _, _, _, _, _⟩ :: _) _ _; refine wpl (o := ⟨some 38, .load _ _, _, _, _, _⟩) rfl fun K hK => op_load rfl (ad := ⟨bg, 0, none⟩) rfl (by kernel_rfl) k38 (hK _ _ ?_); clear hK K)
        | (guard_target = wpList _ _ _ (⟨some 42, .load _ _, _, _, _, _⟩ :: _) _ _; refine wpl (o := ⟨some 42, .load _ _, _, _, _, _⟩) rfl fun K hK => op_load rfl (ad := ⟨bg, 0, none⟩) rfl (by kernel_rfl) k38 (hK _ _ ?_); clear hK K)
        | (guard_target = wpList _ _ _ (⟨some 44, .load _ _, _, _, _, _⟩ :: _) _ _; refine wpl (o := ⟨some 44, .load _ _, _, _, _, _⟩) rfl fun K hK => op_load rfl (ad := ⟨bw, 0, none⟩) rfl (by kernel_rfl) k44 (hK _ _ ?_); clear hK K)
        | (guard_target = wpList _ _ _ (⟨some 50, .load _ _, _, _, _, _⟩ :: _) _ _; refine wpl (o := ⟨some 50, .load _ _, _, _, _, _⟩) rfl fun K hK => op_load rfl (ad := ⟨b9, 0, none⟩) rfl (by kernel_rfl) k50 (hK _ _ ?_); clear hK K)
        | (guard_target = wpList _ _ _ (⟨some 51, .load _ _, _, _, _, _⟩ :: _) _ _; refine wpl (o := ⟨some 51, .load _ _, _, _, _, _⟩) rfl fun K hK => op_load rfl (ad := ⟨bg, 0, none⟩) rfl (by kernel_rfl) k38 (hK _ _ ?_); clear hK K)
        | (guard_target = wpList _ _ _ (⟨some 56, .load _ _, _, _, _, _⟩ :: _) _ _; refine wpl (o := ⟨some 56, .load _ _, _, _, _, _⟩) rfl fun K hK => op_load rfl (ad := ⟨b9, 1, none⟩) rfl (by kernel_rfl) k56 (hK _ _ ?_); clear hK K)
        | (guard_target = wpList _ _ _ (⟨some 57, .load _ _, _, _, _, _⟩ :: _) _ _; refine wpl (o := ⟨some 57, .load _ _, _, _, _, _⟩) rfl fun K hK => op_load rfl (ad := ⟨bi, 0, none⟩) rfl (by kernel_rfl) k66 (hK _ _ ?_); clear hK K)
        | (guard_target = wpList _ _ _ (⟨some 63, .load _ _, _, _, _, _⟩ :: _) _ _; refine wpl (o := ⟨some 63, .load _ _, _, _, _, _⟩) rfl fun K hK => op_load rfl (ad := ⟨b9, 2, none⟩) rfl (by kernel_rfl) k63 (hK _ _ ?_); clear hK K)
        | (guard_target = wpList _ _ _ (⟨some 66, .load _ _, _, _, _, _⟩ :: _) _ _; refine wpl (o := ⟨some 66, .load _ _, _, _, _, _⟩) rfl fun K hK => op_load rfl (ad := ⟨bi, 0, none⟩) rfl (by kernel_rfl) k66 (hK _ _ ?_); clear hK K)
        | (guard_target = wpList _ _ _ (⟨some 70, .load _ _, _, _, _, _⟩ :: _) _ _; refine wpl (o := ⟨some 70, .load _ _, _, _, _, _⟩) rfl fun K hK => op_load rfl (ad := ⟨bi, 0, none⟩) rfl (by kernel_rfl) k66 (hK _ _ ?_); clear hK K)
        | (guard_target = wpList _ _ _ (⟨none, .store _ (.tmp 0) _, _, _, _, _⟩ :: _) _ _; refine wpl (o := ⟨none, .store _ (.tmp 0) _, _, _, _, _⟩) rfl fun K hK => ?_; go_must (refine op_store (hs.pick (A := row bi [.int .i64 (i : Nat)] 3) (by repeat (first | with_reducible exact Pick.here | with_reducible apply Pick.there))) rfl (b := bi) (i := 0) (v := .int .i64 (((i + 1 : Nat) : Int))) rfl rfl rfl (by kernel_rfl) (k := 0) rfl (by simp) fun w5 h => hK _ _ ?_); clear hs hK K; have hs := h; clear h; try dsimp only [List.set] at hs)
        | (guard_target = wpList _ _ _ (⟨some 72, .load _ _, _, _, _, _⟩ :: _) _ _; refine wpl (o := ⟨some 72, .load _ _, _, _, _, _⟩) rfl fun K hK => op_load_agg rfl (b := b9) (i := 0) rfl (frCells f (.slice Ax f.body.length cx)) (range_whole hs (by (try dsimp only [List.set]); repeat (first | with_reducible exact List.mem_cons_self | with_reducible apply List.mem_cons_of_mem))) (by kernel_rfl) (by kernel_rfl) (hK _ _ ?_); clear hK K)
        | (guard_target = wpList _ _ _ (⟨none, .store _ (.tmp 5) _, _, _, _, _⟩ :: _) _ _; refine wpl (o := ⟨none, .store _ (.tmp 5) _, _, _, _, _⟩) rfl fun K hK => ?_; go_must (refine op_store_whole (hs.pick (A := row b5 [.int .u32 0, .int .u32 0, .int .u8 0, .slice none 0 0] 107) (by repeat (first | with_reducible exact Pick.here | with_reducible apply Pick.there))) (b := b5) rfl rfl (frCells f (.slice Ax f.body.length cx)) rfl (by simp [frCells, Value.oneCell']) (by kernel_rfl) (k := 0) rfl rfl fun w3 h => hK _ _ ?_); clear hs hK K; have hs := h; clear h; try dsimp only [List.set] at hs))
      refine bodyPost_ret (run_results_cell_tmp' rfl (b := b5) rfl _ (range_whole hs m0) (by kernel_rfl) (by kernel_rfl)) rfl ?_
      refine ⟨.slice Ax f.body.length cx, by rw [HN.out]; rfl, ?_⟩
      exact hs.pack (by repeat (first | with_reducible exact Pack.refl | with_reducible exact Pack.nil | with_reducible refine Pack.cons (by repeat (first | with_reducible exact Pick.here | with_reducible apply Pick.there)) ?_ | with_reducible apply Pack.drop))
end Go.Proofs.Ytfpgmnnecnaheaa
