/- The contract of the reference's Cut. -/
import Derived.Test.YtimknlabhhopcaaOp2
import Derived.Test.YtimknlabhhopcaaCrcP
import Derived.Test.YtimknlabhhopcaaFrParse
import Derived.Test.YtimknlabhhopcaaCutP
import Derived.Test.YtimknlabhhopcaaFrames
set_option linter.unusedVariables false
set_option linter.unusedSimpArgs false
namespace Go.Proofs.Ytimknlabhhopcaa
open Go.RowKit
set_option maxRecDepth 100000 in
set_option maxHeartbeats 400000 in
theorem rsteps_spec (w : World) (c : BitVec 32) (n : Nat) (hn : n ≤ 1000) :
    Calls Try.prog 87 #[.int .u32 c.toNat, .int .i64 n] w fun e w' => e = .returned (.int .u32 (csteps n c).toNat) ∧ w' = w := by
  go_enter Try.func87, Try.ntmps87
  go_wp2_with fail
  go_loop [0, 5] (fun v0 v5 => ∃ k : Nat, k ≤ n ∧ v5 = .int .i64 k ∧ v0 = .int .u32 (csteps k c).toNat) (fun _ v5 => n - (intOf v5).toNat)
  case atStart => exact ⟨0, by omega, rfl, rfl⟩
  case round =>
    obtain ⟨k, hk, rfl, rfl⟩ := hrel
    by_cases hlt : k < n
    · by_cases hodd : (csteps k c).toNat % 2 = 1
      · have hb : (((csteps k c).toNat : Int) % 2 == 1) = true := by simp; omega
        have HE := Box.mk (cstep_odd _ hodd)
        clear hodd
        go_wp2_with fail
        go_round
        case measure => simp [intOf]; omega
        case rel => exact ⟨k + 1, by omega, by go_num, by rw [HE.out]; rfl⟩
      · have hb : (((csteps k c).toNat : Int) % 2 == 1) = false := by simp; omega
        have HE := Box.mk (cstep_even _ hodd)
        clear hodd
        go_wp2_with fail
        go_round
        case measure => simp [intOf]; omega
        case rel => exact ⟨k + 1, by omega, by go_num, by rw [HE.out]; rfl⟩
    · obtain rfl : k = n := by omega
      go_wp2_with fail
      go_ret
      exact ⟨rfl, rfl⟩
theorem rsteps8 (w : World) (c : BitVec 32) :
    Calls Try.prog 87 #[.int .u32 c.toNat, .int .i64 8] w fun e w' => e = .returned (.int .u32 (csteps 8 c).toNat) ∧ w' = w := rsteps_spec w c 8 (by omega)
theorem sub_not' (c : BitVec 32) : (4294967295 - (c.toNat : Int)) = ((~~~ c).toNat : Int) := by
  have := c.isLt
  rw [BitVec.toNat_not]; omega
set_option maxRecDepth 100000 in
set_option maxHeartbeats 400000 in
theorem rmore_spec (W w : World) (L : List HP) (hs : Sat W w L) (c : BitVec 32) (v : Value) (l : List UInt8) (hv : Has L (bytesAt v l)) (hl : l.length ≤ 140737488355328) :
    Calls Try.prog 85 #[.int .u32 c.toNat, v] w fun e w' => e = .returned (.int .u32 (crcMore c l).toNat) ∧ Sat W w' L := by
  rw [← crcMoreR_eq]
  obtain ⟨_, A, cap, rfl, _⟩ := hs.bytes hv
  go_enter Try.func85, Try.ntmps85
  go_wp2_with fail
  go_loop [0, 5] (fun v0 v5 => ∃ k : Nat, k ≤ l.length ∧ v5 = .int .i64 k ∧ v0 = .int .u32 ((l.take k).foldl (fun c x => csteps 8 (c ^^^ x.toBitVec.setWidth 32)) (~~~ c)).toNat) (fun _ v5 => l.length - (intOf v5).toNat)
  case atStart => exact ⟨0, by omega, rfl, by rw [sub_not']; rfl⟩
  case round =>
    obtain ⟨k, hk, rfl, rfl⟩ := hrel
    by_cases hlt : k < l.length
    · obtain ⟨_, A', cap', e1, _, _, h0 | ⟨b, o, rfl, hc⟩⟩ := hs.bytes hv
      · cases e1; exact absurd (by simpa [u8s] using h0) (show l ≠ [] by intro e; simp [e] at hlt)
      cases e1
      have hc1 : w.cell? ⟨b, o + k, none⟩ = some (.int .u8 l[k].toNat) := cellsAt_world hc k _ (by simp [u8s, hlt])
      clear hc
      have HF := Box.mk (foldl_take (fun c (x : UInt8) => csteps 8 (c ^^^ x.toBitVec.setWidth 32)) (~~~ c) l k hlt)
      generalize (l.take k).foldl (fun c (x : UInt8) => csteps 8 (c ^^^ x.toBitVec.setWidth 32)) (~~~ c) = s at *
      have hx : bits .xor .u32 (s.toNat : Int) ((l[k].toNat : Int) % 4294967296) = ((s ^^^ l[k].toBitVec.setWidth 32).toNat : Int) := by
        have := l[k].toNat_lt
        rw [← xor_byte]; congr 1; omega
      generalize s ^^^ l[k].toBitVec.setWidth 32 = s' at *
      go_wp2_with (first
        | (go_at_call 87; go_must ((with_reducible refine (rsteps8 _ s').mono ?_)); rintro e w1 ⟨rfl, rfl⟩))
      go_round
      case measure => simp [intOf]; omega
      case rel => exact ⟨k + 1, by omega, by go_num, by rw [HF.out]⟩
    · obtain rfl : k = l.length := by omega
      rw [List.take_length]
      have HC := Box.mk (sub_not' (l.foldl (fun c (x : UInt8) => csteps 8 (c ^^^ x.toBitVec.setWidth 32)) (~~~ c)))
      have HD : Box (crcMoreR c l = ~~~ (l.foldl (fun c (x : UInt8) => csteps 8 (c ^^^ x.toBitVec.setWidth 32)) (~~~ c))) := ⟨rfl⟩
      generalize l.foldl (fun c (x : UInt8) => csteps 8 (c ^^^ x.toBitVec.setWidth 32)) (~~~ c) = s at *
      go_wp2_with fail
      go_ret
      exact ⟨by rw [HD.out, ← HC.out]; rfl, hs⟩
theorem rof_spec (W w : World) (L : List HP) (hs : Sat W w L) (v : Value) (l : List UInt8) (hv : Has L (bytesAt v l)) (hl : l.length ≤ 140737488355328) :
    Calls Try.prog 79 #[v] w fun e w' => e = .returned (.int .u32 (crcOf l).toNat) ∧ Sat W w' L := by
  go_enter Try.func79, Try.ntmps79
  go_wp2_with (first
    | (go_at_call 85; refine (rmore_spec W _ _ hs 0 v l hv hl).mono ?_; clear hs; rintro e w1 ⟨rfl, hs⟩))
  go_ret
  exact ⟨rfl, hs⟩
/-- A frame as the document has it. -/
def rCells (f : Fr) : List Value := [.int .u32 (f.epoch : Nat), .int .u32 (f.seq : Nat), .int .u8 f.flag.toNat, .string ⟨f.body.toArray⟩]
theorem zrframe : (Try.prog.info? 118).bind (·.zero) = some (.agg [Value.int .u32 0, .int .u32 0, .int .u8 0, .string ⟨#[]⟩].toArray) := by kernel_rfl
/-- What is missing of a string of 60 bytes. -/
def strLeft (v : Value) : Nat := match v with | .string s => 60 - s.size | _ => 0
theorem strLeft_str (l : List UInt8) : strLeft (.string ⟨l.toArray⟩) = 60 - l.length := rfl
/-- The zeros behind a frame's head, one by one. -/
theorem f60_step (f : Fr) (k : Nat) : (f.head ++ List.replicate k (0 : UInt8)) ++ [0] = f.head ++ List.replicate (k + 1) 0 := by rw [List.append_assoc, List.replicate_succ']
set_option maxRecDepth 100000 in
set_option maxHeartbeats 4000000 in
theorem rpack_spec (W w : World) (L : List HP) (hs : Sat W w L) (f : Fr) (ok : f.Ok) (h50 : f.body.length ≤ 50) :
    Calls Try.prog 69 #[.agg #[.int .u32 (f.epoch : Nat), .int .u32 (f.seq : Nat), .int .u8 f.flag.toNat, .string ⟨f.body.toArray⟩]] w fun e w' => e = .returned (.tuple #[(.string ⟨(f.pack).toArray⟩), .int .i64 0]) ∧ Sat W w' L := by
  have h50I : ¬ (50 : Int) < (f.body.length : Int) := by omega
  have hx8 := Box.mk (u8_len f.body.length (by omega))
  go_enter Try.func69, Try.ntmps69
  go_wp2_with (first
    | (guard_target = wpList _ _ _ (⟨some 1, .box _ _, _, _, _, _⟩ :: _) _ _; refine wpl (o := ⟨some 1, .box _ _, _, _, _, _⟩) rfl fun K hK => ?_; go_must (refine op_box hs rfl _ rfl (rCells f) rfl fun b1 w1 h => hK _ _ ?_); clear hs hK K; have hs := h; clear h; try dsimp only [List.set] at hs)
    | (guard_target = wpList _ _ _ (⟨some 6, .load _ _, _, _, _, _⟩ :: _) _ _; refine wpl (o := ⟨some 6, .load _ _, _, _, _, _⟩) rfl fun K hK => op_load rfl (ad := ⟨b1, 3, none⟩) rfl (by kernel_rfl) (hs.cell m0 rfl) (hK _ _ ?_); clear hK K))
  have cS : ∀ w M, Sat W w M → row b1 (rCells f) 118 ∈ M → rngS b1 (rCells f) w := fun w M h hm => range_whole h hm
  have c0 : ∀ w, rngS b1 (rCells f) w → w.cell? ⟨b1, 0, none⟩ = some (.int .u32 (f.epoch : Nat)) := fun w h => h 0 _ rfl
  have c1 : ∀ w, rngS b1 (rCells f) w → w.cell? ⟨b1, 1, none⟩ = some (.int .u32 (f.seq : Nat)) := fun w h => h 1 _ rfl
  have c2 : ∀ w, rngS b1 (rCells f) w → w.cell? ⟨b1, 2, none⟩ = some (.int .u8 f.flag.toNat) := fun w h => h 2 _ rfl
  have c3 : ∀ w, rngS b1 (rCells f) w → w.cell? ⟨b1, 3, none⟩ = some (.string ⟨f.body.toArray⟩) := fun w h => h 3 _ rfl
  have k1 : ¬ 9223372036854775807 < 8 := by omega
  have k2 : ¬ 9223372036854775807 < 10 := by omega
  have k3 : ¬ 9223372036854775807 < 10 + f.body.length := by omega
  have hS0 := cS _ _ hs.drew (by (try dsimp only [List.set]); repeat (first | with_reducible exact List.mem_cons_self | with_reducible apply List.mem_cons_of_mem))
  refine wp_region_tree (rngS b1 (rCells f)) (.take 0 (.take 1 (.take 3 (.take 4 (.take 7 (.take 8 (.take 9 (.take 10 (.take 11 (.take 12 (.take 16 (.take 17 (.all [(2, .all [(5, .take 6 (.all [(13, .all [(14, .take 15 (.take 18 (.take 19 (DTree.done))))])])), (13, .all [(5, .take 6 (.all [(14, .take 15 (.take 18 (.take 19 (DTree.done))))])), (14, .all [(5, .take 6 (.take 15 (.take 18 (.take 19 (DTree.done)))))])])]), (13, .all [(2, .all [(5, .take 6 (.all [(14, .take 15 (.take 18 (.take 19 (DTree.done))))])), (14, .all [(5, .take 6 (.take 15 (.take 18 (.take 19 (DTree.done)))))])]), (14, .all [(2, .all [(5, .take 6 (.take 15 (.take 18 (.take 19 (DTree.done)))))])])])]))))))))))))) (by kernel_rfl) (by kernel_rfl) (by kernel_rfl) (fun _ _ d _ _ h => by cases d <;> exact h) hS0 ?_
  have hs' := hs.drew
  clear hs
  have hs := hs'
  clear hs'
  have hq := fun p : Prop => class_const hS0 p
  clear hS0
  repeat (first
    | (with_reducible refine tree_load (o := ⟨some 10, .load _ _, _, _, _, _⟩) rfl rfl rfl rfl rfl c0 ?_)
    | (with_reducible refine tree_load (o := ⟨some 13, .load _ _, _, _, _, _⟩) rfl rfl rfl rfl rfl c1 ?_)
    | (with_reducible refine tree_load (o := ⟨some 17, .load _ _, _, _, _, _⟩) rfl rfl rfl rfl rfl c2 ?_)
    | (with_reducible refine tree_load (o := ⟨some 19, .load _ _, _, _, _, _⟩) rfl rfl rfl rfl rfl c3 ?_)
    | (with_reducible refine tree_load (o := ⟨some 26, .load _ _, _, _, _, _⟩) rfl rfl rfl rfl rfl c3 ?_)
    | (refine tree_take rfl (fun K hK => ?_); go_simp; (first | with_reducible refine hK _ ?_ | (rw [if_neg (by decide)]; with_reducible refine hK _ ?_)); clear hK K))
  refine tree_all (trees_cons_yes (o := _) rfl rfl (fun K hK => ?_) (cS _ _ hs (by (try dsimp only [List.set]); repeat (first | with_reducible exact List.mem_cons_self | with_reducible apply List.mem_cons_of_mem))) (trees_cons_yes (o := _) rfl rfl (fun K hK => ?_) (cS _ _ hs (by (try dsimp only [List.set]); repeat (first | with_reducible exact List.mem_cons_self | with_reducible apply List.mem_cons_of_mem))) trees_nil))
  · try go_simp
    go_at_call 78
    refine (rnum_spec W _ _ hs f.epoch ok.e).mono ?_
    clear hs
    rintro e w5 ⟨rfl, hs⟩
    try go_simp
    refine hK _ _ (cS _ _ hs (by (try dsimp only [List.set]); repeat (first | with_reducible exact List.mem_cons_self | with_reducible apply List.mem_cons_of_mem))) ?_
    clear hK K
    refine tree_all (trees_cons_yes (o := _) rfl rfl (fun K hK => ?_) (cS _ _ hs (by (try dsimp only [List.set]); repeat (first | with_reducible exact List.mem_cons_self | with_reducible apply List.mem_cons_of_mem))) (trees_cons_yes (o := _) rfl rfl (fun K hK => ?_) (cS _ _ hs (by (try dsimp only [List.set]); repeat (first | with_reducible exact List.mem_cons_self | with_reducible apply List.mem_cons_of_mem))) trees_nil))
    · try go_simp
      go_at_call 78
      refine (rnum_spec W _ _ hs f.seq ok.s).mono ?_
      clear hs
      rintro e w5 ⟨rfl, hs⟩
      try go_simp
      refine hK _ _ (cS _ _ hs (by (try dsimp only [List.set]); repeat (first | with_reducible exact List.mem_cons_self | with_reducible apply List.mem_cons_of_mem))) ?_
      clear hK K
      repeat (first
        | (with_reducible refine tree_load (o := ⟨some 10, .load _ _, _, _, _, _⟩) rfl rfl rfl rfl rfl c0 ?_)
        | (with_reducible refine tree_load (o := ⟨some 13, .load _ _, _, _, _, _⟩) rfl rfl rfl rfl rfl c1 ?_)
        | (with_reducible refine tree_load (o := ⟨some 17, .load _ _, _, _, _, _⟩) rfl rfl rfl rfl rfl c2 ?_)
        | (with_reducible refine tree_load (o := ⟨some 19, .load _ _, _, _, _, _⟩) rfl rfl rfl rfl rfl c3 ?_)
        | (with_reducible refine tree_load (o := ⟨some 26, .load _ _, _, _, _, _⟩) rfl rfl rfl rfl rfl c3 ?_)
        | (refine tree_take rfl (fun K hK => ?_); go_simp; (first | with_reducible refine hK _ ?_ | (rw [if_neg (by decide)]; with_reducible refine hK _ ?_)); clear hK K))
      refine tree_one_yes (o := _) rfl rfl (fun K hK => ?_) (cS _ _ hs (by (try dsimp only [List.set]); repeat (first | with_reducible exact List.mem_cons_self | with_reducible apply List.mem_cons_of_mem)))
      refine op_lit1 hs rfl Try.underlying36 info_u8 rfl (u8s [f.flag, UInt8.ofNat f.body.length]) (by omega) rfl (u8s_one _) (by simp [u8s, Act.eval, Act.put, IntKind.wrap_u8]) fun b22 w1 h => hK _ _ (cS _ _ h (by (try dsimp only [List.set]); repeat (first | with_reducible exact List.mem_cons_self | with_reducible apply List.mem_cons_of_mem))) ?_
      clear hs hK K
      have hs := h
      clear h
      try dsimp only [List.set] at hs
      try go_simp
      refine tree_one_yes (o := _) rfl rfl (fun K hK => ?_) (cS _ _ hs (by (try dsimp only [List.set]); repeat (first | with_reducible exact List.mem_cons_self | with_reducible apply List.mem_cons_of_mem)))
      refine op_to_string rfl Try.underlying36 Try.underlying5 Try.underlying9 rfl (hs.bytes (lit_bytes (l := [f.flag, UInt8.ofNat f.body.length]) 0 rfl 2 rfl (by omega))) (hK _ _ (cS _ _ hs (by (try dsimp only [List.set]); repeat (first | with_reducible exact List.mem_cons_self | with_reducible apply List.mem_cons_of_mem))) ?_)
      clear hK K
      try go_simp
      repeat (first
        | (with_reducible refine tree_load (o := ⟨some 10, .load _ _, _, _, _, _⟩) rfl rfl rfl rfl rfl c0 ?_)
        | (with_reducible refine tree_load (o := ⟨some 13, .load _ _, _, _, _, _⟩) rfl rfl rfl rfl rfl c1 ?_)
        | (with_reducible refine tree_load (o := ⟨some 17, .load _ _, _, _, _, _⟩) rfl rfl rfl rfl rfl c2 ?_)
        | (with_reducible refine tree_load (o := ⟨some 19, .load _ _, _, _, _, _⟩) rfl rfl rfl rfl rfl c3 ?_)
        | (with_reducible refine tree_load (o := ⟨some 26, .load _ _, _, _, _, _⟩) rfl rfl rfl rfl rfl c3 ?_)
        | (refine tree_take rfl (fun K hK => ?_); go_simp; (first | with_reducible refine hK _ ?_ | (rw [if_neg (by decide)]; with_reducible refine hK _ ?_)); clear hK K))
      refine tree_done ?_
      clear hq
      have e0 : ({ data := (be 4 f.epoch).toArray } : ByteArray) ++ { data := (be 4 f.seq).toArray } ++ { data := [f.flag, UInt8.ofNat f.body.length].toArray } ++ { data := f.body.toArray } = ⟨(f.head ++ List.replicate 0 0).toArray⟩ := by rw [str_app, str_app, str_app]; simp [Fr.head]
      go_wp2_with fail
      go_loopw [4] (fun v4 wr => ∃ k : Nat, k ≤ 50 - f.body.length ∧ v4 = (.string ⟨(f.head ++ List.replicate k 0).toArray⟩) ∧ Sat W wr L) (fun v4 _ => strLeft v4)
      case atStart => exact ⟨0, by omega, congrArg Value.string e0, hs.pack (by repeat (first | with_reducible exact Pack.refl | with_reducible exact Pack.nil | with_reducible refine Pack.cons (by repeat (first | with_reducible exact Pick.here | with_reducible apply Pick.there)) ?_ | with_reducible apply Pack.drop))⟩
      case round =>
        clear hs e0
        obtain ⟨k, hk, rfl, hs⟩ := hrel
        have hlen : (f.head ++ List.replicate k 0).length = 10 + f.body.length + k := by simp [Fr.head_length]
        by_cases hlt : 10 + f.body.length + k < 60
        · have hltI : (10 : Int) + (f.body.length : Int) + (k : Int) < 60 := by omega
          go_wp2_with fail
          have e1 : ({ data := (f.head ++ List.replicate k 0).toArray } : ByteArray) ++ { data := #[0] } = ⟨(f.head ++ List.replicate (k + 1) 0).toArray⟩ := by
            have := str_app (f.head ++ List.replicate k 0) [0]
            rw [f60_step] at this
            exact this
          refine ⟨⟨k + 1, by omega, congrArg Value.string e1, hs⟩, ?_⟩
          rw [e1, strLeft_str, strLeft_str]
          simp [Fr.head_length]
          omega
        · have hltI : ¬ (10 : Int) + (f.body.length : Int) + (k : Int) < 60 := by omega
          have e60 : f.head ++ List.replicate k 0 = f.f60 := by unfold Fr.f60; rw [Fr.head_length]; congr 2; omega
          have hl60 := Fr.f60_length h50
          rw [e60]
          clear e60 hlen
          have hsz : Box (f.f60.length = 60) := ⟨hl60⟩
          have hcat : ¬ 9223372036854775807 < 64 := by omega
          go_wp2_with (first
            | (guard_target = wpList _ _ _ (⟨some 35, .convert _ _ _, _, _, _, _⟩ :: _) _ _; refine wpl (o := ⟨some 35, .convert _ _ _, _, _, _, _⟩) rfl fun K hK => ?_; go_must (refine op_to_bytes hs rfl Try.underlying9 Try.underlying36 Try.underlying5 (l := f.f60) rfl (by omega) fun v35 w4 h => hK _ _ ?_); clear hs hK K; have hs := h; clear h; try dsimp only [List.set] at hs)
            | (go_at_call 79; go_must (refine (rof_spec W _ _ hs _ f.f60 (own_bytes 0 rfl rfl rfl) (by omega)).mono ?_); clear hs; rintro e w1 ⟨rfl, hs⟩)
            | (go_at_call 78; go_must (refine (rnum_spec W _ _ hs (crcOf f.f60).toNat (crcOf f.f60).isLt).mono ?_); clear hs; rintro e w1 ⟨rfl, hs⟩))
          go_ret2
          exact ⟨congrArg (fun s => Ending.returned (.tuple #[.string s, .int .i64 0])) (str_app f.f60 (be 4 (crcOf f.f60).toNat)), hs.pack (by repeat (first | with_reducible exact Pack.refl | with_reducible exact Pack.nil | with_reducible refine Pack.cons (by repeat (first | with_reducible exact Pick.here | with_reducible apply Pick.there)) ?_ | with_reducible apply Pack.drop))⟩
    · refine op_lit1 hs rfl Try.underlying36 info_u8 rfl (u8s [f.flag, UInt8.ofNat f.body.length]) (by omega) rfl (u8s_one _) (by simp [u8s, Act.eval, Act.put, IntKind.wrap_u8]) fun b22 w1 h => hK _ _ (cS _ _ h (by (try dsimp only [List.set]); repeat (first | with_reducible exact List.mem_cons_self | with_reducible apply List.mem_cons_of_mem))) ?_
      clear hs hK K
      have hs := h
      clear h
      try dsimp only [List.set] at hs
      try go_simp
      refine tree_all (trees_cons_yes (o := _) rfl rfl (fun K hK => ?_) (cS _ _ hs (by (try dsimp only [List.set]); repeat (first | with_reducible exact List.mem_cons_self | with_reducible apply List.mem_cons_of_mem))) (trees_cons_yes (o := _) rfl rfl (fun K hK => ?_) (cS _ _ hs (by (try dsimp only [List.set]); repeat (first | with_reducible exact List.mem_cons_self | with_reducible apply List.mem_cons_of_mem))) trees_nil))
      · try go_simp
        go_at_call 78
        refine (rnum_spec W _ _ hs f.seq ok.s).mono ?_
        clear hs
        rintro e w5 ⟨rfl, hs⟩
        try go_simp
        refine hK _ _ (cS _ _ hs (by (try dsimp only [List.set]); repeat (first | with_reducible exact List.mem_cons_self | with_reducible apply List.mem_cons_of_mem))) ?_
        clear hK K
        repeat (first
          | (with_reducible refine tree_load (o := ⟨some 10, .load _ _, _, _, _, _⟩) rfl rfl rfl rfl rfl c0 ?_)
          | (with_reducible refine tree_load (o := ⟨some 13, .load _ _, _, _, _, _⟩) rfl rfl rfl rfl rfl c1 ?_)
          | (with_reducible refine tree_load (o := ⟨some 17, .load _ _, _, _, _, _⟩) rfl rfl rfl rfl rfl c2 ?_)
          | (with_reducible refine tree_load (o := ⟨some 19, .load _ _, _, _, _, _⟩) rfl rfl rfl rfl rfl c3 ?_)
          | (with_reducible refine tree_load (o := ⟨some 26, .load _ _, _, _, _, _⟩) rfl rfl rfl rfl rfl c3 ?_)
          | (refine tree_take rfl (fun K hK => ?_); go_simp; (first | with_reducible refine hK _ ?_ | (rw [if_neg (by decide)]; with_reducible refine hK _ ?_)); clear hK K))
        refine tree_one_yes (o := _) rfl rfl (fun K hK => ?_) (cS _ _ hs (by (try dsimp only [List.set]); repeat (first | with_reducible exact List.mem_cons_self | with_reducible apply List.mem_cons_of_mem)))
        refine op_to_string rfl Try.underlying36 Try.underlying5 Try.underlying9 rfl (hs.bytes (lit_bytes (l := [f.flag, UInt8.ofNat f.body.length]) 0 rfl 2 rfl (by omega))) (hK _ _ (cS _ _ hs (by (try dsimp only [List.set]); repeat (first | with_reducible exact List.mem_cons_self | with_reducible apply List.mem_cons_of_mem))) ?_)
        clear hK K
        try go_simp
        repeat (first
          | (with_reducible refine tree_load (o := ⟨some 10, .load _ _, _, _, _, _⟩) rfl rfl rfl rfl rfl c0 ?_)
          | (with_reducible refine tree_load (o := ⟨some 13, .load _ _, _, _, _, _⟩) rfl rfl rfl rfl rfl c1 ?_)
          | (with_reducible refine tree_load (o := ⟨some 17, .load _ _, _, _, _, _⟩) rfl rfl rfl rfl rfl c2 ?_)
          | (with_reducible refine tree_load (o := ⟨some 19, .load _ _, _, _, _, _⟩) rfl rfl rfl rfl rfl c3 ?_)
          | (with_reducible refine tree_load (o := ⟨some 26, .load _ _, _, _, _, _⟩) rfl rfl rfl rfl rfl c3 ?_)
          | (refine tree_take rfl (fun K hK => ?_); go_simp; (first | with_reducible refine hK _ ?_ | (rw [if_neg (by decide)]; with_reducible refine hK _ ?_)); clear hK K))
        refine tree_done ?_
        clear hq
        have e0 : ({ data := (be 4 f.epoch).toArray } : ByteArray) ++ { data := (be 4 f.seq).toArray } ++ { data := [f.flag, UInt8.ofNat f.body.length].toArray } ++ { data := f.body.toArray } = ⟨(f.head ++ List.replicate 0 0).toArray⟩ := by rw [str_app, str_app, str_app]; simp [Fr.head]
        go_wp2_with fail
        go_loopw [4] (fun v4 wr => ∃ k : Nat, k ≤ 50 - f.body.length ∧ v4 = (.string ⟨(f.head ++ List.replicate k 0).toArray⟩) ∧ Sat W wr L) (fun v4 _ => strLeft v4)
        case atStart => exact ⟨0, by omega, congrArg Value.string e0, hs.pack (by repeat (first | with_reducible exact Pack.refl | with_reducible exact Pack.nil | with_reducible refine Pack.cons (by repeat (first | with_reducible exact Pick.here | with_reducible apply Pick.there)) ?_ | with_reducible apply Pack.drop))⟩
        case round =>
          clear hs e0
          obtain ⟨k, hk, rfl, hs⟩ := hrel
          have hlen : (f.head ++ List.replicate k 0).length = 10 + f.body.length + k := by simp [Fr.head_length]
          by_cases hlt : 10 + f.body.length + k < 60
          · have hltI : (10 : Int) + (f.body.length : Int) + (k : Int) < 60 := by omega
            go_wp2_with fail
            have e1 : ({ data := (f.head ++ List.replicate k 0).toArray } : ByteArray) ++ { data := #[0] } = ⟨(f.head ++ List.replicate (k + 1) 0).toArray⟩ := by
              have := str_app (f.head ++ List.replicate k 0) [0]
              rw [f60_step] at this
              exact this
            refine ⟨⟨k + 1, by omega, congrArg Value.string e1, hs⟩, ?_⟩
            rw [e1, strLeft_str, strLeft_str]
            simp [Fr.head_length]
            omega
          · have hltI : ¬ (10 : Int) + (f.body.length : Int) + (k : Int) < 60 := by omega
            have e60 : f.head ++ List.replicate k 0 = f.f60 := by unfold Fr.f60; rw [Fr.head_length]; congr 2; omega
            have hl60 := Fr.f60_length h50
            rw [e60]
            clear e60 hlen
            have hsz : Box (f.f60.length = 60) := ⟨hl60⟩
            have hcat : ¬ 9223372036854775807 < 64 := by omega
            go_wp2_with (first
              | (guard_target = wpList _ _ _ (⟨some 35, .convert _ _ _, _, _, _, _⟩ :: _) _ _; refine wpl (o := ⟨some 35, .convert _ _ _, _, _, _, _⟩) rfl fun K hK => ?_; go_must (refine op_to_bytes hs rfl Try.underlying9 Try.underlying36 Try.underlying5 (l := f.f60) rfl (by omega) fun v35 w4 h => hK _ _ ?_); clear hs hK K; have hs := h; clear h; try dsimp only [List.set] at hs)
              | (go_at_call 79; go_must (refine (rof_spec W _ _ hs _ f.f60 (own_bytes 0 rfl rfl rfl) (by omega)).mono ?_); clear hs; rintro e w1 ⟨rfl, hs⟩)
              | (go_at_call 78; go_must (refine (rnum_spec W _ _ hs (crcOf f.f60).toNat (crcOf f.f60).isLt).mono ?_); clear hs; rintro e w1 ⟨rfl, hs⟩))
            go_ret2
            exact ⟨congrArg (fun s => Ending.returned (.tuple #[.string s, .int .i64 0])) (str_app f.f60 (be 4 (crcOf f.f60).toNat)), hs.pack (by repeat (first | with_reducible exact Pack.refl | with_reducible exact Pack.nil | with_reducible refine Pack.cons (by repeat (first | with_reducible exact Pick.here | with_reducible apply Pick.there)) ?_ | with_reducible apply Pack.drop))⟩
      · refine op_to_string rfl Try.underlying36 Try.underlying5 Try.underlying9 rfl (hs.bytes (lit_bytes (l := [f.flag, UInt8.ofNat f.body.length]) 0 rfl 2 rfl (by omega))) (hK _ _ (cS _ _ hs (by (try dsimp only [List.set]); repeat (first | with_reducible exact List.mem_cons_self | with_reducible apply List.mem_cons_of_mem))) ?_)
        clear hK K
        try go_simp
        refine tree_one_yes (o := _) rfl rfl (fun K hK => ?_) (cS _ _ hs (by (try dsimp only [List.set]); repeat (first | with_reducible exact List.mem_cons_self | with_reducible apply List.mem_cons_of_mem)))
        try go_simp
        go_at_call 78
        refine (rnum_spec W _ _ hs f.seq ok.s).mono ?_
        clear hs
        rintro e w5 ⟨rfl, hs⟩
        try go_simp
        refine hK _ _ (cS _ _ hs (by (try dsimp only [List.set]); repeat (first | with_reducible exact List.mem_cons_self | with_reducible apply List.mem_cons_of_mem))) ?_
        clear hK K
        repeat (first
          | (with_reducible refine tree_load (o := ⟨some 10, .load _ _, _, _, _, _⟩) rfl rfl rfl rfl rfl c0 ?_)
          | (with_reducible refine tree_load (o := ⟨some 13, .load _ _, _, _, _, _⟩) rfl rfl rfl rfl rfl c1 ?_)
          | (with_reducible refine tree_load (o := ⟨some 17, .load _ _, _, _, _, _⟩) rfl rfl rfl rfl rfl c2 ?_)
          | (with_reducible refine tree_load (o := ⟨some 19, .load _ _, _, _, _, _⟩) rfl rfl rfl rfl rfl c3 ?_)
          | (with_reducible refine tree_load (o := ⟨some 26, .load _ _, _, _, _, _⟩) rfl rfl rfl rfl rfl c3 ?_)
          | (refine tree_take rfl (fun K hK => ?_); go_simp; (first | with_reducible refine hK _ ?_ | (rw [if_neg (by decide)]; with_reducible refine hK _ ?_)); clear hK K))
        refine tree_done ?_
        clear hq
        have e0 : ({ data := (be 4 f.epoch).toArray } : ByteArray) ++ { data := (be 4 f.seq).toArray } ++ { data := [f.flag, UInt8.ofNat f.body.length].toArray } ++ { data := f.body.toArray } = ⟨(f.head ++ List.replicate 0 0).toArray⟩ := by rw [str_app, str_app, str_app]; simp [Fr.head]
        go_wp2_with fail
        go_loopw [4] (fun v4 wr => ∃ k : Nat, k ≤ 50 - f.body.length ∧ v4 = (.string ⟨(f.head ++ List.replicate k 0).toArray⟩) ∧ Sat W wr L) (fun v4 _ => strLeft v4)
        case atStart => exact ⟨0, by omega, congrArg Value.string e0, hs.pack (by repeat (first | with_reducible exact Pack.refl | with_reducible exact Pack.nil | with_reducible refine Pack.cons (by repeat (first | with_reducible exact Pick.here | with_reducible apply Pick.there)) ?_ | with_reducible apply Pack.drop))⟩
        case round =>
          clear hs e0
          obtain ⟨k, hk, rfl, hs⟩ := hrel
          have hlen : (f.head ++ List.replicate k 0).length = 10 + f.body.length + k := by simp [Fr.head_length]
          by_cases hlt : 10 + f.body.length + k < 60
          · have hltI : (10 : Int) + (f.body.length : Int) + (k : Int) < 60 := by omega
            go_wp2_with fail
            have e1 : ({ data := (f.head ++ List.replicate k 0).toArray } : ByteArray) ++ { data := #[0] } = ⟨(f.head ++ List.replicate (k + 1) 0).toArray⟩ := by
              have := str_app (f.head ++ List.replicate k 0) [0]
              rw [f60_step] at this
              exact this
            refine ⟨⟨k + 1, by omega, congrArg Value.string e1, hs⟩, ?_⟩
            rw [e1, strLeft_str, strLeft_str]
            simp [Fr.head_length]
            omega
          · have hltI : ¬ (10 : Int) + (f.body.length : Int) + (k : Int) < 60 := by omega
            have e60 : f.head ++ List.replicate k 0 = f.f60 := by unfold Fr.f60; rw [Fr.head_length]; congr 2; omega
            have hl60 := Fr.f60_length h50
            rw [e60]
            clear e60 hlen
            have hsz : Box (f.f60.length = 60) := ⟨hl60⟩
            have hcat : ¬ 9223372036854775807 < 64 := by omega
            go_wp2_with (first
              | (guard_target = wpList _ _ _ (⟨some 35, .convert _ _ _, _, _, _, _⟩ :: _) _ _; refine wpl (o := ⟨some 35, .convert _ _ _, _, _, _, _⟩) rfl fun K hK => ?_; go_must (refine op_to_bytes hs rfl Try.underlying9 Try.underlying36 Try.underlying5 (l := f.f60) rfl (by omega) fun v35 w4 h => hK _ _ ?_); clear hs hK K; have hs := h; clear h; try dsimp only [List.set] at hs)
              | (go_at_call 79; go_must (refine (rof_spec W _ _ hs _ f.f60 (own_bytes 0 rfl rfl rfl) (by omega)).mono ?_); clear hs; rintro e w1 ⟨rfl, hs⟩)
              | (go_at_call 78; go_must (refine (rnum_spec W _ _ hs (crcOf f.f60).toNat (crcOf f.f60).isLt).mono ?_); clear hs; rintro e w1 ⟨rfl, hs⟩))
            go_ret2
            exact ⟨congrArg (fun s => Ending.returned (.tuple #[.string s, .int .i64 0])) (str_app f.f60 (be 4 (crcOf f.f60).toNat)), hs.pack (by repeat (first | with_reducible exact Pack.refl | with_reducible exact Pack.nil | with_reducible refine Pack.cons (by repeat (first | with_reducible exact Pick.here | with_reducible apply Pick.there)) ?_ | with_reducible apply Pack.drop))⟩
  · refine op_lit1 hs rfl Try.underlying36 info_u8 rfl (u8s [f.flag, UInt8.ofNat f.body.length]) (by omega) rfl (u8s_one _) (by simp [u8s, Act.eval, Act.put, IntKind.wrap_u8]) fun b22 w1 h => hK _ _ (cS _ _ h (by (try dsimp only [List.set]); repeat (first | with_reducible exact List.mem_cons_self | with_reducible apply List.mem_cons_of_mem))) ?_
    clear hs hK K
    have hs := h
    clear h
    try dsimp only [List.set] at hs
    try go_simp
    refine tree_all (trees_cons_yes (o := _) rfl rfl (fun K hK => ?_) (cS _ _ hs (by (try dsimp only [List.set]); repeat (first | with_reducible exact List.mem_cons_self | with_reducible apply List.mem_cons_of_mem))) (trees_cons_yes (o := _) rfl rfl (fun K hK => ?_) (cS _ _ hs (by (try dsimp only [List.set]); repeat (first | with_reducible exact List.mem_cons_self | with_reducible apply List.mem_cons_of_mem))) trees_nil))
    · try go_simp
      go_at_call 78
      refine (rnum_spec W _ _ hs f.epoch ok.e).mono ?_
      clear hs
      rintro e w5 ⟨rfl, hs⟩
      try go_simp
      refine hK _ _ (cS _ _ hs (by (try dsimp only [List.set]); repeat (first | with_reducible exact List.mem_cons_self | with_reducible apply List.mem_cons_of_mem))) ?_
      clear hK K
      refine tree_all (trees_cons_yes (o := _) rfl rfl (fun K hK => ?_) (cS _ _ hs (by (try dsimp only [List.set]); repeat (first | with_reducible exact List.mem_cons_self | with_reducible apply List.mem_cons_of_mem))) (trees_cons_yes (o := _) rfl rfl (fun K hK => ?_) (cS _ _ hs (by (try dsimp only [List.set]); repeat (first | with_reducible exact List.mem_cons_self | with_reducible apply List.mem_cons_of_mem))) trees_nil))
      · try go_simp
        go_at_call 78
        refine (rnum_spec W _ _ hs f.seq ok.s).mono ?_
        clear hs
        rintro e w5 ⟨rfl, hs⟩
        try go_simp
        refine hK _ _ (cS _ _ hs (by (try dsimp only [List.set]); repeat (first | with_reducible exact List.mem_cons_self | with_reducible apply List.mem_cons_of_mem))) ?_
        clear hK K
        repeat (first
          | (with_reducible refine tree_load (o := ⟨some 10, .load _ _, _, _, _, _⟩) rfl rfl rfl rfl rfl c0 ?_)
          | (with_reducible refine tree_load (o := ⟨some 13, .load _ _, _, _, _, _⟩) rfl rfl rfl rfl rfl c1 ?_)
          | (with_reducible refine tree_load (o := ⟨some 17, .load _ _, _, _, _, _⟩) rfl rfl rfl rfl rfl c2 ?_)
          | (with_reducible refine tree_load (o := ⟨some 19, .load _ _, _, _, _, _⟩) rfl rfl rfl rfl rfl c3 ?_)
          | (with_reducible refine tree_load (o := ⟨some 26, .load _ _, _, _, _, _⟩) rfl rfl rfl rfl rfl c3 ?_)
          | (refine tree_take rfl (fun K hK => ?_); go_simp; (first | with_reducible refine hK _ ?_ | (rw [if_neg (by decide)]; with_reducible refine hK _ ?_)); clear hK K))
        refine tree_one_yes (o := _) rfl rfl (fun K hK => ?_) (cS _ _ hs (by (try dsimp only [List.set]); repeat (first | with_reducible exact List.mem_cons_self | with_reducible apply List.mem_cons_of_mem)))
        refine op_to_string rfl Try.underlying36 Try.underlying5 Try.underlying9 rfl (hs.bytes (lit_bytes (l := [f.flag, UInt8.ofNat f.body.length]) 0 rfl 2 rfl (by omega))) (hK _ _ (cS _ _ hs (by (try dsimp only [List.set]); repeat (first | with_reducible exact List.mem_cons_self | with_reducible apply List.mem_cons_of_mem))) ?_)
        clear hK K
        try go_simp
        repeat (first
          | (with_reducible refine tree_load (o := ⟨some 10, .load _ _, _, _, _, _⟩) rfl rfl rfl rfl rfl c0 ?_)
          | (with_reducible refine tree_load (o := ⟨some 13, .load _ _, _, _, _, _⟩) rfl rfl rfl rfl rfl c1 ?_)
          | (with_reducible refine tree_load (o := ⟨some 17, .load _ _, _, _, _, _⟩) rfl rfl rfl rfl rfl c2 ?_)
          | (with_reducible refine tree_load (o := ⟨some 19, .load _ _, _, _, _, _⟩) rfl rfl rfl rfl rfl c3 ?_)
          | (with_reducible refine tree_load (o := ⟨some 26, .load _ _, _, _, _, _⟩) rfl rfl rfl rfl rfl c3 ?_)
          | (refine tree_take rfl (fun K hK => ?_); go_simp; (first | with_reducible refine hK _ ?_ | (rw [if_neg (by decide)]; with_reducible refine hK _ ?_)); clear hK K))
        refine tree_done ?_
        clear hq
        have e0 : ({ data := (be 4 f.epoch).toArray } : ByteArray) ++ { data := (be 4 f.seq).toArray } ++ { data := [f.flag, UInt8.ofNat f.body.length].toArray } ++ { data := f.body.toArray } = ⟨(f.head ++ List.replicate 0 0).toArray⟩ := by rw [str_app, str_app, str_app]; simp [Fr.head]
        go_wp2_with fail
        go_loopw [4] (fun v4 wr => ∃ k : Nat, k ≤ 50 - f.body.length ∧ v4 = (.string ⟨(f.head ++ List.replicate k 0).toArray⟩) ∧ Sat W wr L) (fun v4 _ => strLeft v4)
        case atStart => exact ⟨0, by omega, congrArg Value.string e0, hs.pack (by repeat (first | with_reducible exact Pack.refl | with_reducible exact Pack.nil | with_reducible refine Pack.cons (by repeat (first | with_reducible exact Pick.here | with_reducible apply Pick.there)) ?_ | with_reducible apply Pack.drop))⟩
        case round =>
          clear hs e0
          obtain ⟨k, hk, rfl, hs⟩ := hrel
          have hlen : (f.head ++ List.replicate k 0).length = 10 + f.body.length + k := by simp [Fr.head_length]
          by_cases hlt : 10 + f.body.length + k < 60
          · have hltI : (10 : Int) + (f.body.length : Int) + (k : Int) < 60 := by omega
            go_wp2_with fail
            have e1 : ({ data := (f.head ++ List.replicate k 0).toArray } : ByteArray) ++ { data := #[0] } = ⟨(f.head ++ List.replicate (k + 1) 0).toArray⟩ := by
              have := str_app (f.head ++ List.replicate k 0) [0]
              rw [f60_step] at this
              exact this
            refine ⟨⟨k + 1, by omega, congrArg Value.string e1, hs⟩, ?_⟩
            rw [e1, strLeft_str, strLeft_str]
            simp [Fr.head_length]
            omega
          · have hltI : ¬ (10 : Int) + (f.body.length : Int) + (k : Int) < 60 := by omega
            have e60 : f.head ++ List.replicate k 0 = f.f60 := by unfold Fr.f60; rw [Fr.head_length]; congr 2; omega
            have hl60 := Fr.f60_length h50
            rw [e60]
            clear e60 hlen
            have hsz : Box (f.f60.length = 60) := ⟨hl60⟩
            have hcat : ¬ 9223372036854775807 < 64 := by omega
            go_wp2_with (first
              | (guard_target = wpList _ _ _ (⟨some 35, .convert _ _ _, _, _, _, _⟩ :: _) _ _; refine wpl (o := ⟨some 35, .convert _ _ _, _, _, _, _⟩) rfl fun K hK => ?_; go_must (refine op_to_bytes hs rfl Try.underlying9 Try.underlying36 Try.underlying5 (l := f.f60) rfl (by omega) fun v35 w4 h => hK _ _ ?_); clear hs hK K; have hs := h; clear h; try dsimp only [List.set] at hs)
              | (go_at_call 79; go_must (refine (rof_spec W _ _ hs _ f.f60 (own_bytes 0 rfl rfl rfl) (by omega)).mono ?_); clear hs; rintro e w1 ⟨rfl, hs⟩)
              | (go_at_call 78; go_must (refine (rnum_spec W _ _ hs (crcOf f.f60).toNat (crcOf f.f60).isLt).mono ?_); clear hs; rintro e w1 ⟨rfl, hs⟩))
            go_ret2
            exact ⟨congrArg (fun s => Ending.returned (.tuple #[.string s, .int .i64 0])) (str_app f.f60 (be 4 (crcOf f.f60).toNat)), hs.pack (by repeat (first | with_reducible exact Pack.refl | with_reducible exact Pack.nil | with_reducible refine Pack.cons (by repeat (first | with_reducible exact Pick.here | with_reducible apply Pick.there)) ?_ | with_reducible apply Pack.drop))⟩
      · refine op_to_string rfl Try.underlying36 Try.underlying5 Try.underlying9 rfl (hs.bytes (lit_bytes (l := [f.flag, UInt8.ofNat f.body.length]) 0 rfl 2 rfl (by omega))) (hK _ _ (cS _ _ hs (by (try dsimp only [List.set]); repeat (first | with_reducible exact List.mem_cons_self | with_reducible apply List.mem_cons_of_mem))) ?_)
        clear hK K
        try go_simp
        refine tree_one_yes (o := _) rfl rfl (fun K hK => ?_) (cS _ _ hs (by (try dsimp only [List.set]); repeat (first | with_reducible exact List.mem_cons_self | with_reducible apply List.mem_cons_of_mem)))
        try go_simp
        go_at_call 78
        refine (rnum_spec W _ _ hs f.seq ok.s).mono ?_
        clear hs
        rintro e w5 ⟨rfl, hs⟩
        try go_simp
        refine hK _ _ (cS _ _ hs (by (try dsimp only [List.set]); repeat (first | with_reducible exact List.mem_cons_self | with_reducible apply List.mem_cons_of_mem))) ?_
        clear hK K
        repeat (first
          | (with_reducible refine tree_load (o := ⟨some 10, .load _ _, _, _, _, _⟩) rfl rfl rfl rfl rfl c0 ?_)
          | (with_reducible refine tree_load (o := ⟨some 13, .load _ _, _, _, _, _⟩) rfl rfl rfl rfl rfl c1 ?_)
          | (with_reducible refine tree_load (o := ⟨some 17, .load _ _, _, _, _, _⟩) rfl rfl rfl rfl rfl c2 ?_)
          | (with_reducible refine tree_load (o := ⟨some 19, .load _ _, _, _, _, _⟩) rfl rfl rfl rfl rfl c3 ?_)
          | (with_reducible refine tree_load (o := ⟨some 26, .load _ _, _, _, _, _⟩) rfl rfl rfl rfl rfl c3 ?_)
          | (refine tree_take rfl (fun K hK => ?_); go_simp; (first | with_reducible refine hK _ ?_ | (rw [if_neg (by decide)]; with_reducible refine hK _ ?_)); clear hK K))
        refine tree_done ?_
        clear hq
        have e0 : ({ data := (be 4 f.epoch).toArray } : ByteArray) ++ { data := (be 4 f.seq).toArray } ++ { data := [f.flag, UInt8.ofNat f.body.length].toArray } ++ { data := f.body.toArray } = ⟨(f.head ++ List.replicate 0 0).toArray⟩ := by rw [str_app, str_app, str_app]; simp [Fr.head]
        go_wp2_with fail
        go_loopw [4] (fun v4 wr => ∃ k : Nat, k ≤ 50 - f.body.length ∧ v4 = (.string ⟨(f.head ++ List.replicate k 0).toArray⟩) ∧ Sat W wr L) (fun v4 _ => strLeft v4)
        case atStart => exact ⟨0, by omega, congrArg Value.string e0, hs.pack (by repeat (first | with_reducible exact Pack.refl | with_reducible exact Pack.nil | with_reducible refine Pack.cons (by repeat (first | with_reducible exact Pick.here | with_reducible apply Pick.there)) ?_ | with_reducible apply Pack.drop))⟩
        case round =>
          clear hs e0
          obtain ⟨k, hk, rfl, hs⟩ := hrel
          have hlen : (f.head ++ List.replicate k 0).length = 10 + f.body.length + k := by simp [Fr.head_length]
          by_cases hlt : 10 + f.body.length + k < 60
          · have hltI : (10 : Int) + (f.body.length : Int) + (k : Int) < 60 := by omega
            go_wp2_with fail
            have e1 : ({ data := (f.head ++ List.replicate k 0).toArray } : ByteArray) ++ { data := #[0] } = ⟨(f.head ++ List.replicate (k + 1) 0).toArray⟩ := by
              have := str_app (f.head ++ List.replicate k 0) [0]
              rw [f60_step] at this
              exact this
            refine ⟨⟨k + 1, by omega, congrArg Value.string e1, hs⟩, ?_⟩
            rw [e1, strLeft_str, strLeft_str]
            simp [Fr.head_length]
            omega
          · have hltI : ¬ (10 : Int) + (f.body.length : Int) + (k : Int) < 60 := by omega
            have e60 : f.head ++ List.replicate k 0 = f.f60 := by unfold Fr.f60; rw [Fr.head_length]; congr 2; omega
            have hl60 := Fr.f60_length h50
            rw [e60]
            clear e60 hlen
            have hsz : Box (f.f60.length = 60) := ⟨hl60⟩
            have hcat : ¬ 9223372036854775807 < 64 := by omega
            go_wp2_with (first
              | (guard_target = wpList _ _ _ (⟨some 35, .convert _ _ _, _, _, _, _⟩ :: _) _ _; refine wpl (o := ⟨some 35, .convert _ _ _, _, _, _, _⟩) rfl fun K hK => ?_; go_must (refine op_to_bytes hs rfl Try.underlying9 Try.underlying36 Try.underlying5 (l := f.f60) rfl (by omega) fun v35 w4 h => hK _ _ ?_); clear hs hK K; have hs := h; clear h; try dsimp only [List.set] at hs)
              | (go_at_call 79; go_must (refine (rof_spec W _ _ hs _ f.f60 (own_bytes 0 rfl rfl rfl) (by omega)).mono ?_); clear hs; rintro e w1 ⟨rfl, hs⟩)
              | (go_at_call 78; go_must (refine (rnum_spec W _ _ hs (crcOf f.f60).toNat (crcOf f.f60).isLt).mono ?_); clear hs; rintro e w1 ⟨rfl, hs⟩))
            go_ret2
            exact ⟨congrArg (fun s => Ending.returned (.tuple #[.string s, .int .i64 0])) (str_app f.f60 (be 4 (crcOf f.f60).toNat)), hs.pack (by repeat (first | with_reducible exact Pack.refl | with_reducible exact Pack.nil | with_reducible refine Pack.cons (by repeat (first | with_reducible exact Pick.here | with_reducible apply Pick.there)) ?_ | with_reducible apply Pack.drop))⟩
    · refine op_to_string rfl Try.underlying36 Try.underlying5 Try.underlying9 rfl (hs.bytes (lit_bytes (l := [f.flag, UInt8.ofNat f.body.length]) 0 rfl 2 rfl (by omega))) (hK _ _ (cS _ _ hs (by (try dsimp only [List.set]); repeat (first | with_reducible exact List.mem_cons_self | with_reducible apply List.mem_cons_of_mem))) ?_)
      clear hK K
      try go_simp
      refine tree_one_yes (o := _) rfl rfl (fun K hK => ?_) (cS _ _ hs (by (try dsimp only [List.set]); repeat (first | with_reducible exact List.mem_cons_self | with_reducible apply List.mem_cons_of_mem)))
      try go_simp
      go_at_call 78
      refine (rnum_spec W _ _ hs f.epoch ok.e).mono ?_
      clear hs
      rintro e w5 ⟨rfl, hs⟩
      try go_simp
      refine hK _ _ (cS _ _ hs (by (try dsimp only [List.set]); repeat (first | with_reducible exact List.mem_cons_self | with_reducible apply List.mem_cons_of_mem))) ?_
      clear hK K
      refine tree_one_yes (o := _) rfl rfl (fun K hK => ?_) (cS _ _ hs (by (try dsimp only [List.set]); repeat (first | with_reducible exact List.mem_cons_self | with_reducible apply List.mem_cons_of_mem)))
      try go_simp
      go_at_call 78
      refine (rnum_spec W _ _ hs f.seq ok.s).mono ?_
      clear hs
      rintro e w5 ⟨rfl, hs⟩
      try go_simp
      refine hK _ _ (cS _ _ hs (by (try dsimp only [List.set]); repeat (first | with_reducible exact List.mem_cons_self | with_reducible apply List.mem_cons_of_mem))) ?_
      clear hK K
      repeat (first
        | (with_reducible refine tree_load (o := ⟨some 10, .load _ _, _, _, _, _⟩) rfl rfl rfl rfl rfl c0 ?_)
        | (with_reducible refine tree_load (o := ⟨some 13, .load _ _, _, _, _, _⟩) rfl rfl rfl rfl rfl c1 ?_)
        | (with_reducible refine tree_load (o := ⟨some 17, .load _ _, _, _, _, _⟩) rfl rfl rfl rfl rfl c2 ?_)
        | (with_reducible refine tree_load (o := ⟨some 19, .load _ _, _, _, _, _⟩) rfl rfl rfl rfl rfl c3 ?_)
        | (with_reducible refine tree_load (o := ⟨some 26, .load _ _, _, _, _, _⟩) rfl rfl rfl rfl rfl c3 ?_)
        | (refine tree_take rfl (fun K hK => ?_); go_simp; (first | with_reducible refine hK _ ?_ | (rw [if_neg (by decide)]; with_reducible refine hK _ ?_)); clear hK K))
      refine tree_done ?_
      clear hq
      have e0 : ({ data := (be 4 f.epoch).toArray } : ByteArray) ++ { data := (be 4 f.seq).toArray } ++ { data := [f.flag, UInt8.ofNat f.body.length].toArray } ++ { data := f.body.toArray } = ⟨(f.head ++ List.replicate 0 0).toArray⟩ := by rw [str_app, str_app, str_app]; simp [Fr.head]
      go_wp2_with fail
      go_loopw [4] (fun v4 wr => ∃ k : Nat, k ≤ 50 - f.body.length ∧ v4 = (.string ⟨(f.head ++ List.replicate k 0).toArray⟩) ∧ Sat W wr L) (fun v4 _ => strLeft v4)
      case atStart => exact ⟨0, by omega, congrArg Value.string e0, hs.pack (by repeat (first | with_reducible exact Pack.refl | with_reducible exact Pack.nil | with_reducible refine Pack.cons (by repeat (first | with_reducible exact Pick.here | with_reducible apply Pick.there)) ?_ | with_reducible apply Pack.drop))⟩
      case round =>
        clear hs e0
        obtain ⟨k, hk, rfl, hs⟩ := hrel
        have hlen : (f.head ++ List.replicate k 0).length = 10 + f.body.length + k := by simp [Fr.head_length]
        by_cases hlt : 10 + f.body.length + k < 60
        · have hltI : (10 : Int) + (f.body.length : Int) + (k : Int) < 60 := by omega
          go_wp2_with fail
          have e1 : ({ data := (f.head ++ List.replicate k 0).toArray } : ByteArray) ++ { data := #[0] } = ⟨(f.head ++ List.replicate (k + 1) 0).toArray⟩ := by
            have := str_app (f.head ++ List.replicate k 0) [0]
            rw [f60_step] at this
            exact this
          refine ⟨⟨k + 1, by omega, congrArg Value.string e1, hs⟩, ?_⟩
          rw [e1, strLeft_str, strLeft_str]
          simp [Fr.head_length]
          omega
        · have hltI : ¬ (10 : Int) + (f.body.length : Int) + (k : Int) < 60 := by omega
          have e60 : f.head ++ List.replicate k 0 = f.f60 := by unfold Fr.f60; rw [Fr.head_length]; congr 2; omega
          have hl60 := Fr.f60_length h50
          rw [e60]
          clear e60 hlen
          have hsz : Box (f.f60.length = 60) := ⟨hl60⟩
          have hcat : ¬ 9223372036854775807 < 64 := by omega
          go_wp2_with (first
            | (guard_target = wpList _ _ _ (⟨some 35, .convert _ _ _, _, _, _, _⟩ :: _) _ _; refine wpl (o := ⟨some 35, .convert _ _ _, _, _, _, _⟩) rfl fun K hK => ?_; go_must (refine op_to_bytes hs rfl Try.underlying9 Try.underlying36 Try.underlying5 (l := f.f60) rfl (by omega) fun v35 w4 h => hK _ _ ?_); clear hs hK K; have hs := h; clear h; try dsimp only [List.set] at hs)
            | (go_at_call 79; go_must (refine (rof_spec W _ _ hs _ f.f60 (own_bytes 0 rfl rfl rfl) (by omega)).mono ?_); clear hs; rintro e w1 ⟨rfl, hs⟩)
            | (go_at_call 78; go_must (refine (rnum_spec W _ _ hs (crcOf f.f60).toNat (crcOf f.f60).isLt).mono ?_); clear hs; rintro e w1 ⟨rfl, hs⟩))
          go_ret2
          exact ⟨congrArg (fun s => Ending.returned (.tuple #[.string s, .int .i64 0])) (str_app f.f60 (be 4 (crcOf f.f60).toNat)), hs.pack (by repeat (first | with_reducible exact Pack.refl | with_reducible exact Pack.nil | with_reducible refine Pack.cons (by repeat (first | with_reducible exact Pick.here | with_reducible apply Pick.there)) ?_ | with_reducible apply Pack.drop))⟩
set_option maxRecDepth 100000 in
set_option maxHeartbeats 400000 in
theorem rpack_full (W w : World) (L : List HP) (hs : Sat W w L) (f : Fr) (h50 : 50 < f.body.length) :
    Calls Try.prog 69 #[.agg #[.int .u32 (f.epoch : Nat), .int .u32 (f.seq : Nat), .int .u8 f.flag.toNat, .string ⟨f.body.toArray⟩]] w fun e w' => e = .returned (.tuple #[.string ⟨#[]⟩, .int .i64 3]) ∧ Sat W w' L := by
  have h50I : (50 : Int) < (f.body.length : Int) := by omega
  go_enter Try.func69, Try.ntmps69
  go_wp2_with (first
    | (guard_target = wpList _ _ _ (⟨some 1, .box _ _, _, _, _, _⟩ :: _) _ _; refine wpl (o := ⟨some 1, .box _ _, _, _, _, _⟩) rfl fun K hK => ?_; go_must (refine op_box hs rfl _ rfl (rCells f) rfl fun b1 w1 h => hK _ _ ?_); clear hs hK K; have hs := h; clear h; try dsimp only [List.set] at hs)
    | (guard_target = wpList _ _ _ (⟨some 6, .load _ _, _, _, _, _⟩ :: _) _ _; refine wpl (o := ⟨some 6, .load _ _, _, _, _, _⟩) rfl fun K hK => op_load rfl (ad := ⟨b1, 3, none⟩) rfl (by kernel_rfl) (hs.cell m0 rfl) (hK _ _ ?_); clear hK K))
  go_ret2
  exact ⟨rfl, hs.tail⟩
def rfs (l : List Fr) : List Value := l.flatMap rCells
@[simp] theorem rCells_length (f : Fr) : (rCells f).length = 4 := rfl
theorem rfs_length (l : List Fr) : (rfs l).length = l.length * 4 := by
  induction l with
  | nil => rfl
  | cons x l ih => simp only [rfs, List.flatMap_cons, List.length_append, List.length_cons] at ih ⊢; rw [ih]; simp; omega
theorem rfs_snoc (l : List Fr) (f : Fr) : rfs (l ++ [f]) = rfs l ++ rCells f := by simp [rfs]
def strLen (v : Value) : Nat := match v with | .string s => s.size | _ => 0
theorem strLen_str (l : List UInt8) : strLen (.string ⟨l.toArray⟩) = l.length := rfl
theorem info_rframe : (Try.prog.info? 118).map (fun i => (i.zero, i.size, i.bytes)) = some (some (.agg #[Value.int .u32 0, .int .u32 0, .int .u8 0, .string ⟨#[]⟩]), 4, 32) := by kernel_rfl
/-- The last body's frame, and the first one's flag. -/
def lastFr (epoch seq i : Nat) (b : List UInt8) : Fr := ⟨epoch, (seq + i) % 4294967296, 2, b⟩
theorem cutF_form (epoch seq : Nat) (l : List UInt8) (done : List (List UInt8)) (rest : List UInt8) (h : cuts l = done ++ [rest]) :
    cutF epoch seq l = (rawFrs epoch seq done ++ [lastFr epoch seq done.length rest]).modify 0 (·.or 1) := by
  have hlen : (rawFrs epoch seq done).length = done.length := rawFrs_length _ _ _
  unfold cutF flagged
  rw [h, rawFrs_snoc]
  generalize rawFrs epoch seq done = t at hlen
  apply List.ext_getElem?
  intro j
  simp only [List.getElem?_modify, List.length_append, List.length_cons, List.length_nil, hlen, Nat.add_sub_cancel, Nat.zero_add]
  rcases Nat.lt_trichotomy j done.length with hj | hj | hj
  · rw [List.getElem?_append_left (by omega), List.getElem?_append_left (by omega)]
    simp [show ¬ done.length = j by omega]
  · subst hj
    rw [List.getElem?_append_right (by omega), List.getElem?_append_right (by omega), hlen, Nat.sub_self]
    by_cases h0 : 0 = done.length
    · simp [h0, rawFr, lastFr, Fr.or]; rfl
    · simp [h0, rawFr, lastFr, Fr.or]
  · rw [List.getElem?_eq_none (by simp; omega), List.getElem?_eq_none (by simp; omega)]
    simp
theorem rfs_get (l : List Fr) (i : Nat) (h : i < l.length) (j : Nat) (hj : j < 4) : (rfs l)[i * 4 + j]? = (rCells l[i])[j]? := by
  induction l generalizing i with
  | nil => simp at h
  | cons x l ih =>
    simp only [rfs, List.flatMap_cons]
    cases i with
    | zero => rw [List.getElem?_append_left (by simp; omega)]; simp
    | succ i =>
      rw [List.getElem?_append_right (by simp; omega)]
      have e : (i + 1) * 4 + j - (rCells x).length = i * 4 + j := by simp; omega
      rw [e]
      exact ih i (by simpa using h)
/-- The first one's flag, laid by an addition. -/
theorem rfs_set (l : List Fr) (h : 0 < l.length) (hf : l[0].flag = 0 ∨ l[0].flag = 2) : (rfs l).set 2 (.int .u8 (((l[0].flag.toNat : Int) + 1) % 256)) = rfs (l.modify 0 (·.or 1)) := by
  cases l with
  | nil => simp at h
  | cons f l =>
    simp only [List.getElem_cons_zero] at hf ⊢
    rcases hf with hf | hf <;> simp [rfs, rCells, Fr.or, List.modify, hf] <;> rfl
theorem flag0 (epoch seq : Nat) (done : List (List UInt8)) (rest : List UInt8) (h : 0 < (rawFrs epoch seq done ++ [lastFr epoch seq done.length rest]).length) : (rawFrs epoch seq done ++ [lastFr epoch seq done.length rest])[0].flag = 0 ∨ (rawFrs epoch seq done ++ [lastFr epoch seq done.length rest])[0].flag = 2 := by
  cases done with
  | nil => right; simp [rawFrs, lastFr]
  | cons d done => left; simp [rawFrs, rawFr]
set_option maxRecDepth 100000 in
set_option maxHeartbeats 4000000 in
theorem rcut_spec (W w : World) (L : List HP) (hs : Sat W w L) (epoch seq : Nat) (he : epoch < 4294967296) (hseq : seq < 4294967296) (l : List UInt8) (hl : l.length ≤ 1000000) :
    Calls Try.prog 35 #[.int .u32 (epoch : Nat), .int .u32 (seq : Nat), .string ⟨l.toArray⟩] w fun e w' => ∃ v, e = .returned v ∧ Sat W w' (own v 118 (cuts l).length 4 (rfs (cutF epoch seq l)) :: L) := by
  have hs0 := hs.addNil none 118 4
  clear hs
  have hs := hs0
  clear hs0
  go_enter Try.func35, Try.ntmps35
  go_wp2_with fail
  go_loopw [1, 2, 7] (fun v1 v2 v7 wr => ∃ (done : List (List UInt8)) (rest : List UInt8) (n1 : Nat), Box (cuts l = done ++ cuts rest) ∧ done.length + rest.length ≤ l.length ∧ Box (n1 = (seq + done.length) % 4294967296) ∧ v1 = .int .u32 (n1 : Nat) ∧ v2 = .string ⟨rest.toArray⟩ ∧ Sat W wr (own v7 118 done.length 4 (rfs (rawFrs epoch seq done)) :: L)) (fun _ v2 _ _ => strLen v2)
  case atStart => exact ⟨[], l, seq, ⟨by simp⟩, by simp, ⟨by simp; omega⟩, rfl, rfl, hs⟩
  case round =>
    clear hs
    obtain ⟨done, rest, n1, hcut, hlen, hn1, rfl, rfl, hs⟩ := hrel
    obtain ⟨A7, c7, rfl, _, _⟩ := own_slice hs (i := 0) rfl
    by_cases hmore : 50 < rest.length
    · have hmoreI : (50 : Int) < (rest.length : Int) := by omega
      go_wp2_with (first
        | (guard_target = wpList _ _ _ (⟨some 17, .buildSlice _ _ _, _, _, _, _⟩ :: _) _ _; refine wpl (o := ⟨some 17, .buildSlice _ _ _, _, _, _, _⟩) rfl fun K hK => ?_; go_must (refine op_lit_agg1 hs rfl Try.underlying74 info_rframe [.int .u32 (epoch : Nat), .int .u32 (n1 : Nat), .int .u8 0, .string (ByteArray.extract ⟨rest.toArray⟩ 0 50)] rfl rfl (by omega) (by omega) fun b17 w1 h => hK _ _ ?_); clear hs hK K; have hs := h; clear h; try dsimp only [List.set] at hs)
        | (guard_target = wpList _ _ _ (⟨some 18, .call _, _, _, _, _⟩ :: _) _ _; refine wpl (o := ⟨some 18, .call _, _, _, _, _⟩) rfl fun K hK => ?_; go_must (refine op_append (hs.pick (A := own (.slice A7 done.length c7) 118 done.length 4 _) (by repeat (first | with_reducible exact Pick.here | with_reducible apply Pick.there))) rfl Try.underlying74 Try.underlying74 info_rframe rfl (by omega) (k := 0) rfl rfl rfl (Has.of (A := row b17 _ 118) (by (try dsimp only [List.set]); repeat (first | with_reducible exact List.mem_cons_self | with_reducible apply List.mem_cons_of_mem)) fun F hF => own_sliceAt F (own_exact (n := 1) (sz := 4) rfl (by omega) F hF)) (by simp [Value.oneCell']) (by omega) (by omega) fun v18 w2 h => hK _ _ ?_); clear hs hK K; have hs := h; clear h; try dsimp only [List.set] at hs))
      refine ⟨⟨done ++ [rest.take 50], rest.drop 50, (n1 + 1) % 4294967296, ⟨by rw [hcut.out, cuts_more hmore]; simp⟩, by simp; omega, ⟨by rw [hn1.out]; simp; omega⟩, rfl, by rw [str_extract, List.take_of_length_le (Nat.le_refl _)], ?_⟩, ?_⟩
      · have e1 : rfs (rawFrs epoch seq done) ++ [Value.int .u32 (epoch : Nat), .int .u32 (n1 : Nat), .int .u8 0, .string (ByteArray.extract ⟨rest.toArray⟩ 0 50)] = rfs (rawFrs epoch seq (done ++ [rest.take 50])) := by
          rw [rawFrs_snoc, rfs_snoc, str_extract, hn1.out]; simp [rCells, rawFr]
        rw [e1] at hs
        have hL : done.length + 1 = (done ++ [rest.take 50]).length := by simp
        rw [hL] at hs
        exact hs.pack (by repeat (first | with_reducible exact Pack.refl | with_reducible exact Pack.nil | with_reducible refine Pack.cons (by repeat (first | with_reducible exact Pick.here | with_reducible apply Pick.there)) ?_ | with_reducible apply Pack.drop))
      · rw [str_extract, strLen_str, strLen_str]; simp; omega
    · have hmoreI : ¬ (50 : Int) < (rest.length : Int) := by omega
      have hfin : Box (cutF epoch seq l = (rawFrs epoch seq done ++ [lastFr epoch seq done.length rest]).modify 0 (·.or 1)) := ⟨cutF_form epoch seq l done rest (by rw [hcut.out, cuts_last hmore])⟩
      obtain ⟨M7, hM7⟩ : ∃ M7, M7 = rawFrs epoch seq done ++ [lastFr epoch seq done.length rest] := ⟨_, rfl⟩
      have hl7 : Box (M7.length = done.length + 1) := ⟨by rw [hM7]; simp⟩
      have h07 : 0 < M7.length := by rw [hl7.out]; omega
      have e1 : Box (rfs (rawFrs epoch seq done) ++ [Value.int .u32 (epoch : Nat), .int .u32 (n1 : Nat), .int .u8 2, .string ⟨rest.toArray⟩] = rfs M7) := ⟨by
        rw [hM7, rfs_snoc, hn1.out]; simp [rCells, lastFr]⟩
      have hset : Box ((rfs M7).set 2 (.int .u8 (((M7[0].flag.toNat : Int) + 1) % 256)) = rfs (cutF epoch seq l)) := ⟨by
        rw [rfs_set M7 h07 (by subst hM7; exact flag0 _ _ _ _ h07), hfin.out, hM7]⟩
      have hcl : Box ((cuts l).length = done.length + 1) := ⟨by rw [← cutF_length epoch seq, hfin.out]; simp⟩
      clear hM7 hfin
      go_wp2_with (first
        | (guard_target = wpList _ _ _ (⟨some 28, .buildSlice _ _ _, _, _, _, _⟩ :: _) _ _; refine wpl (o := ⟨some 28, .buildSlice _ _ _, _, _, _, _⟩) rfl fun K hK => ?_; go_must (refine op_lit_agg1 hs rfl Try.underlying74 info_rframe [.int .u32 (epoch : Nat), .int .u32 (n1 : Nat), .int .u8 2, .string ⟨rest.toArray⟩] rfl rfl (by omega) (by omega) fun b28 w1 h => hK _ _ ?_); clear hs hK K; have hs := h; clear h; try dsimp only [List.set] at hs)
        | (guard_target = wpList _ _ _ (⟨some 29, .call _, _, _, _, _⟩ :: _) _ _; refine wpl (o := ⟨some 29, .call _, _, _, _, _⟩) rfl fun K hK => ?_; go_must (refine op_append (hs.pick (A := own (.slice A7 done.length c7) 118 done.length 4 _) (by repeat (first | with_reducible exact Pick.here | with_reducible apply Pick.there))) rfl Try.underlying74 Try.underlying74 info_rframe rfl (by omega) (k := 0) rfl rfl rfl (Has.of (A := row b28 _ 118) (by (try dsimp only [List.set]); repeat (first | with_reducible exact List.mem_cons_self | with_reducible apply List.mem_cons_of_mem)) fun F hF => own_sliceAt F (own_exact (n := 1) (sz := 4) rfl (by omega) F hF)) (by simp [Value.oneCell']) (by omega) (by omega) fun v29 w2 h => hK _ _ ?_); clear hs hK K; have hs := h; clear h; dsimp only [List.set] at hs; rw [e1.out] at hs
           obtain ⟨bo, co, sp, rfl, _, _, _, _⟩ := hs.ownOpen (i := 0) rfl (by omega)
           have k2 := own_cell (j := 2) hs m0 (rfs_get M7 0 h07 2 (by omega)))
        | (guard_target = wpList _ _ _ (⟨some 34, .load _ _, _, _, _, _⟩ :: _) _ _; refine wpl (o := ⟨some 34, .load _ _, _, _, _, _⟩) rfl fun K hK => op_load rfl (ad := ⟨bo, 2, none⟩) rfl (by kernel_rfl) k2 (hK _ _ ?_); clear hK K)
        | (guard_target = wpList _ _ _ (⟨none, .store _ (.tmp 37) _, _, _, _, _⟩ :: _) _ _; refine wpl (o := ⟨none, .store _ (.tmp 37) _, _, _, _, _⟩) rfl fun K hK => ?_; go_must (refine op_store_own1 hs rfl (b := bo) (i := 2) 0 rfl (by omega) rfl (.int .u8 (((M7[0].flag.toNat : Int) + 1) % 256)) rfl rfl (by kernel_rfl) (by rw [rfs_length, hl7.out]; omega) fun w5 h => hK _ _ ?_); clear hs hK K; have hs := h; clear h; dsimp only [List.set] at hs; rw [hset.out] at hs))
      go_ret
      refine ⟨.slice (some ⟨bo, 0, none⟩) (done.length + 1) co, rfl, ?_⟩
      rw [hcl.out]
      exact hs.pack (by repeat (first | with_reducible exact Pack.refl | with_reducible exact Pack.nil | with_reducible refine Pack.cons (by repeat (first | with_reducible exact Pick.here | with_reducible apply Pick.there)) ?_ | with_reducible apply Pack.drop))
end Go.Proofs.Ytimknlabhhopcaa
