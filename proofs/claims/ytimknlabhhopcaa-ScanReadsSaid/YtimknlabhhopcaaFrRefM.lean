/- The contracts of the reference's Of, Pack, Parse (layers 2 and 5). -/
import Derived.Test.YtimknlabhhopcaaOp2
import Derived.Test.YtimknlabhhopcaaCrcP
import Derived.Test.YtimknlabhhopcaaFrParse
set_option linter.unusedVariables false
set_option linter.unusedSimpArgs false
namespace Go.Proofs.Ytimknlabhhopcaa
open Go.RowKit
set_option maxRecDepth 100000 in
set_option maxHeartbeats 400000 in
theorem rsteps_spec (w : World) (c : BitVec 32) (n : Nat) (hn : n ≤ 1000) :
    Calls Try.prog 87 #[.int .u32 c.toNat, .int .i64 n] w fun e w' => e = .returned (.int .u32 (csteps n c).toNat) ∧ w' = w := by
  go_enter Try.func87, Try.ntmps87
  go_wp2_with fail
  go_loop [0, 5] (fun v0 v5 => ∃ k : Nat, k ≤ n ∧ v5 = .int .i64 k ∧ v0 = .int .u32 (csteps k c).toNat) (fun _ v5 => n - (intOf v5).toNat)
  case atStart => exact ⟨0, by omega, rfl, rfl⟩
  case round =>
    obtain ⟨k, hk, rfl, rfl⟩ := hrel
    by_cases hlt : k < n
    · by_cases hodd : (csteps k c).toNat % 2 = 1
      · have hb : (((csteps k c).toNat : Int) % 2 == 1) = true := by simp; omega
        have HE := Box.mk (cstep_odd _ hodd)
        clear hodd
        go_wp2_with fail
        go_round
        case measure => simp [intOf]; omega
        case rel => exact ⟨k + 1, by omega, by go_num, by rw [HE.out]; rfl⟩
      · have hb : (((csteps k c).toNat : Int) % 2 == 1) = false := by simp; omega
        have HE := Box.mk (cstep_even _ hodd)
        clear hodd
        go_wp2_with fail
        go_round
        case measure => simp [intOf]; omega
        case rel => exact ⟨k + 1, by omega, by go_num, by rw [HE.out]; rfl⟩
    · obtain rfl : k = n := by omega
      go_wp2_with fail
      go_ret
      exact ⟨rfl, rfl⟩
theorem rsteps8 (w : World) (c : BitVec 32) :
    Calls Try.prog 87 #[.int .u32 c.toNat, .int .i64 8] w fun e w' => e = .returned (.int .u32 (csteps 8 c).toNat) ∧ w' = w := rsteps_spec w c 8 (by omega)
theorem sub_not' (c : BitVec 32) : (4294967295 - (c.toNat : Int)) = ((~~~ c).toNat : Int) := by
  have := c.isLt
  rw [BitVec.toNat_not]; omega
set_option maxRecDepth 100000 in
set_option maxHeartbeats 400000 in
theorem rmore_spec (W w : World) (L : List HP) (hs : Sat W w L) (c : BitVec 32) (v : Value) (l : List UInt8) (hv : Has L (bytesAt v l)) (hl : l.length ≤ 140737488355328) :
    Calls Try.prog 85 #[.int .u32 c.toNat, v] w fun e w' => e = .returned (.int .u32 (crcMore c l).toNat) ∧ Sat W w' L := by
  rw [← crcMoreR_eq]
  obtain ⟨_, A, cap, rfl, _⟩ := hs.bytes hv
  go_enter Try.func85, Try.ntmps85
  go_wp2_with fail
  go_loop [0, 5] (fun v0 v5 => ∃ k : Nat, k ≤ l.length ∧ v5 = .int .i64 k ∧ v0 = .int .u32 ((l.take k).foldl (fun c x => csteps 8 (c ^^^ x.toBitVec.setWidth 32)) (~~~ c)).toNat) (fun _ v5 => l.length - (intOf v5).toNat)
  case atStart => exact ⟨0, by omega, rfl, by rw [sub_not']; rfl⟩
  case round =>
    obtain ⟨k, hk, rfl, rfl⟩ := hrel
    by_cases hlt : k < l.length
    · obtain ⟨_, A', cap', e1, _, _, h0 | ⟨b, o, rfl, hc⟩⟩ := hs.bytes hv
      · cases e1; exact absurd (by simpa [u8s] using h0) (show l ≠ [] by intro e; simp [e] at hlt)
      cases e1
      have hc1 : w.cell? ⟨b, o + k, none⟩ = some (.int .u8 l[k].toNat) := cellsAt_world hc k _ (by simp [u8s, hlt])
      clear hc
      have HF := Box.mk (foldl_take (fun c (x : UInt8) => csteps 8 (c ^^^ x.toBitVec.setWidth 32)) (~~~ c) l k hlt)
      generalize (l.take k).foldl (fun c (x : UInt8) => csteps 8 (c ^^^ x.toBitVec.setWidth 32)) (~~~ c) = s at *
      have hx : bits .xor .u32 (s.toNat : Int) ((l[k].toNat : Int) % 4294967296) = ((s ^^^ l[k].toBitVec.setWidth 32).toNat : Int) := by
        have := l[k].toNat_lt
        rw [← xor_byte]; congr 1; omega
      generalize s ^^^ l[k].toBitVec.setWidth 32 = s' at *
      go_wp2_with (first
        | (go_at_call 87; go_must ((with_reducible refine (rsteps8 _ s').mono ?_)); rintro e w1 ⟨rfl, rfl⟩))
      go_round
      case measure => simp [intOf]; omega
      case rel => exact ⟨k + 1, by omega, by go_num, by rw [HF.out]⟩
    · obtain rfl : k = l.length := by omega
      rw [List.take_length]
      have HC := Box.mk (sub_not' (l.foldl (fun c (x : UInt8) => csteps 8 (c ^^^ x.toBitVec.setWidth 32)) (~~~ c)))
      have HD : Box (crcMoreR c l = ~~~ (l.foldl (fun c (x : UInt8) => csteps 8 (c ^^^ x.toBitVec.setWidth 32)) (~~~ c))) := ⟨rfl⟩
      generalize l.foldl (fun c (x : UInt8) => csteps 8 (c ^^^ x.toBitVec.setWidth 32)) (~~~ c) = s at *
      go_wp2_with fail
      go_ret
      exact ⟨by rw [HD.out, ← HC.out]; rfl, hs⟩
theorem rof_spec (W w : World) (L : List HP) (hs : Sat W w L) (v : Value) (l : List UInt8) (hv : Has L (bytesAt v l)) (hl : l.length ≤ 140737488355328) :
    Calls Try.prog 79 #[v] w fun e w' => e = .returned (.int .u32 (crcOf l).toNat) ∧ Sat W w' L := by
  go_enter Try.func79, Try.ntmps79
  go_wp2_with (first
    | (go_at_call 85; refine (rmore_spec W _ _ hs 0 v l hv hl).mono ?_; clear hs; rintro e w1 ⟨rfl, hs⟩))
  go_ret
  exact ⟨rfl, hs⟩
/-- A frame as the document has it. -/
def rCells (f : Fr) : List Value := [.int .u32 (f.epoch : Nat), .int .u32 (f.seq : Nat), .int .u8 f.flag.toNat, .string ⟨f.body.toArray⟩]
theorem zrframe : (Try.prog.info? 118).bind (·.zero) = some (.agg [Value.int .u32 0, .int .u32 0, .int .u8 0, .string ⟨#[]⟩].toArray) := by kernel_rfl
/-- What is missing of a string of 60 bytes. -/
def strLeft (v : Value) : Nat := match v with | .string s => 60 - s.size | _ => 0
theorem strLeft_str (l : List UInt8) : strLeft (.string ⟨l.toArray⟩) = 60 - l.length := rfl
/-- The zeros behind a frame's head, one by one. -/
theorem f60_step (f : Fr) (k : Nat) : (f.head ++ List.replicate k (0 : UInt8)) ++ [0] = f.head ++ List.replicate (k + 1) 0 := by rw [List.append_assoc, List.replicate_succ']
set_option maxRecDepth 100000 in
set_option maxHeartbeats 4000000 in
theorem rpack_spec (W w : World) (L : List HP) (hs : Sat W w L) (f : Fr) (ok : f.Ok) (h50 : f.body.length ≤ 50) :
    Calls Try.prog 69 #[.agg #[.int .u32 (f.epoch : Nat), .int .u32 (f.seq : Nat), .int .u8 f.flag.toNat, .string ⟨f.body.toArray⟩]] w fun e w' => e = .returned (.tuple #[(.string ⟨(f.pack).toArray⟩), .int .i64 0]) ∧ Sat W w' L := by
  have h50I : ¬ (50 : Int) < (f.body.length : Int) := by omega
  have hx8 := Box.mk (u8_len f.body.length (by omega))
  go_enter Try.func69, Try.ntmps69
  go_wp2_with (first
    | (guard_target = wpList _ _ _ (⟨some 1, .box _ _, _, _, _, _⟩ :: _) _ _; refine wpl (o := ⟨some 1, .box _ _, _, _, _, _⟩) rfl fun K hK => ?_; go_must (refine op_box hs rfl _ rfl (rCells f) rfl fun b1 w1 h => hK _ _ ?_); clear hs hK K; have hs := h; clear h; try dsimp only [List.set] at hs)
    | (guard_target = wpList _ _ _ (⟨some 6, .load _ _, _, _, _, _⟩ :: _) _ _; refine wpl (o := ⟨some 6, .load _ _, _, _, _, _⟩) rfl fun K hK => op_load rfl (ad := ⟨b1, 3, none⟩) rfl (by kernel_rfl) (hs.cell m0 rfl) (hK _ _ ?_); clear hK K))
  have cS : ∀ w M, Sat W w M → row b1 (rCells f) 118 ∈ M → rngS b1 (rCells f) w := fun w M h hm => range_whole h hm
  have c0 : ∀ w, rngS b1 (rCells f) w → w.cell? ⟨b1, 0, none⟩ = some (.int .u32 (f.epoch : Nat)) := fun w h => h 0 _ rfl
  have c1 : ∀ w, rngS b1 (rCells f) w → w.cell? ⟨b1, 1, none⟩ = some (.int .u32 (f.seq : Nat)) := fun w h => h 1 _ rfl
  have c2 : ∀ w, rngS b1 (rCells f) w → w.cell? ⟨b1, 2, none⟩ = some (.int .u8 f.flag.toNat) := fun w h => h 2 _ rfl
  have c3 : ∀ w, rngS b1 (rCells f) w → w.cell? ⟨b1, 3, none⟩ = some (.string ⟨f.body.toArray⟩) := fun w h => h 3 _ rfl
  have k1 : ¬ 9223372036854775807 < 8 := by omega
  have k2 : ¬ 9223372036854775807 < 10 := by omega
  have k3 : ¬ 9223372036854775807 < 10 + f.body.length := by omega
  have hS0 := cS _ _ hs.drew (by (try dsimp only [List.set]); repeat (first | with_reducible exact List.mem_cons_self | with_reducible apply List.mem_cons_of_mem))
  refine wp_region_tree (rngS b1 (rCells f)) (.take 0 (.take 1 (.take 3 (.take 4 (.take 7 (.take 8 (.take 9 (.take 10 (.take 11 (.take 12 (.take 16 (.take 17 (.all [(2, .all [(5, .take 6 (.all [(13, .all [(14, .take 15 (.take 18 (.take 19 (DTree.done))))])])), (13, .all [(5, .take 6 (.all [(14, .take 15 (.take 18 (.take 19 (DTree.done))))])), (14, .all [(5, .take 6 (.take 15 (.take 18 (.take 19 (DTree.done)))))])])]), (13, .all [(2, .all [(5, .take 6 (.all [(14, .take 15 (.take 18 (.take 19 (DTree.done))))])), (14, .all [(5, .take 6 (.take 15 (.take 18 (.take 19 (DTree.done)))))])]), (14, .all [(2, .all [(5, .take 6 (.take 15 (.take 18 (.take 19 (DTree.done)))))])])])]))))))))))))) (by kernel_rfl) (by kernel_rfl) (by kernel_rfl) (fun _ _ d _ _ h => by cases d <;> exact h) hS0 ?_
  have hs' := hs.drew
  clear hs
  have hs := hs'
  clear hs'
  have hq := fun p : Prop => class_const hS0 p
  clear hS0
  repeat (first
    | (with_reducible refine tree_load (o := ⟨some 10, .load _ _, _, _, _, _⟩) rfl rfl rfl rfl rfl c0 ?_)
    | (with_reducible refine tree_load (o := ⟨some 13, .load _ _, _, _, _, _⟩) rfl rfl rfl rfl rfl c1 ?_)
    | (with_reducible refine tree_load (o := ⟨some 17, .load _ _, _, _, _, _⟩) rfl rfl rfl rfl rfl c2 ?_)
    | (with_reducible refine tree_load (o := ⟨some 19, .load _ _, _, _, _, _⟩) rfl rfl rfl rfl rfl c3 ?_)
    | (with_reducible refine tree_load (o := ⟨some 26, .load _ _, _, _, _, _⟩) rfl rfl rfl rfl rfl c3 ?_)
    | (refine tree_take rfl (fun K hK => ?_); go_simp; with_reducible refine hK _ ?_; clear hK K))
  refine tree_all (trees_cons_yes (o := _) rfl rfl (fun K hK => ?_) (cS _ _ hs (by (try dsimp only [List.set]); repeat (first | with_reducible exact List.mem_cons_self | with_reducible apply List.mem_cons_of_mem))) (trees_cons_yes (o := _) rfl rfl (fun K hK => ?_) (cS _ _ hs (by (try dsimp only [List.set]); repeat (first | with_reducible exact List.mem_cons_self | with_reducible apply List.mem_cons_of_mem))) trees_nil))
  · try go_simp
    go_at_call 78
    refine (rnum_spec W _ _ hs f.epoch ok.e).mono ?_
    clear hs
    rintro e w5 ⟨rfl, hs⟩
    try go_simp
    refine hK _ _ (cS _ _ hs (by (try dsimp only [List.set]); repeat (first | with_reducible exact List.mem_cons_self | with_reducible apply List.mem_cons_of_mem))) ?_
    clear hK K
    refine tree_all (trees_cons_yes (o := _) rfl rfl (fun K hK => ?_) (cS _ _ hs (by (try dsimp only [List.set]); repeat (first | with_reducible exact List.mem_cons_self | with_reducible apply List.mem_cons_of_mem))) (trees_cons_yes (o := _) rfl rfl (fun K hK => ?_) (cS _ _ hs (by (try dsimp only [List.set]); repeat (first | with_reducible exact List.mem_cons_self | with_reducible apply List.mem_cons_of_mem))) trees_nil))
    · try go_simp
      go_at_call 78
      refine (rnum_spec W _ _ hs f.seq ok.s).mono ?_
      clear hs
      rintro e w5 ⟨rfl, hs⟩
      try go_simp
      refine hK _ _ (cS _ _ hs (by (try dsimp only [List.set]); repeat (first | with_reducible exact List.mem_cons_self | with_reducible apply List.mem_cons_of_mem))) ?_
      clear hK K
      repeat (first
        | (with_reducible refine tree_load (o := ⟨some 10, .load _ _, _, _, _, _⟩) rfl rfl rfl rfl rfl c0 ?_)
        | (with_reducible refine tree_load (o := ⟨some 13, .load _ _, _, _, _, _⟩) rfl rfl rfl rfl rfl c1 ?_)
        | (with_reducible refine tree_load (o := ⟨some 17, .load _ _, _, _, _, _⟩) rfl rfl rfl rfl rfl c2 ?_)
        | (with_reducible refine tree_load (o := ⟨some 19, .load _ _, _, _, _, _⟩) rfl rfl rfl rfl rfl c3 ?_)
        | (with_reducible refine tree_load (o := ⟨some 26, .load _ _, _, _, _, _⟩) rfl rfl rfl rfl rfl c3 ?_)
        | (refine tree_take rfl (fun K hK => ?_); go_simp; with_reducible refine hK _ ?_; clear hK K))
      refine tree_one_yes (o := _) rfl rfl (fun K hK => ?_) (cS _ _ hs (by (try dsimp only [List.set]); repeat (first | with_reducible exact List.mem_cons_self | with_reducible apply List.mem_cons_of_mem)))
      refine op_lit1 hs rfl Try.underlying36 info_u8 rfl (u8s [f.flag, UInt8.ofNat f.body.length]) (by omega) rfl (u8s_one _) (by simp [u8s, Act.eval, Act.put, IntKind.wrap_u8]) fun b22 w1 h => hK _ _ (cS _ _ h (by (try dsimp only [List.set]); repeat (first | with_reducible exact List.mem_cons_self | with_reducible apply List.mem_cons_of_mem))) ?_
      clear hs hK K
      have hs := h
      clear h
      try dsimp only [List.set] at hs
      try go_simp
      refine tree_one_yes (o := _) rfl rfl (fun K hK => ?_) (cS _ _ hs (by (try dsimp only [List.set]); repeat (first | with_reducible exact List.mem_cons_self | with_reducible apply List.mem_cons_of_mem)))
      refine op_to_string rfl Try.underlying36 Try.underlying5 Try.underlying9 rfl (hs.bytes (lit_bytes (l := [f.flag, UInt8.ofNat f.body.length]) 0 rfl 2 rfl (by omega))) (hK _ _ (cS _ _ hs (by (try dsimp only [List.set]); repeat (first | with_reducible exact List.mem_cons_self | with_reducible apply List.mem_cons_of_mem))) ?_)
      clear hK K
      try go_simp
      repeat (first
        | (with_reducible refine tree_load (o := ⟨some 10, .load _ _, _, _, _, _⟩) rfl rfl rfl rfl rfl c0 ?_)
        | (with_reducible refine tree_load (o := ⟨some 13, .load _ _, _, _, _, _⟩) rfl rfl rfl rfl rfl c1 ?_)
        | (with_reducible refine tree_load (o := ⟨some 17, .load _ _, _, _, _, _⟩) rfl rfl rfl rfl rfl c2 ?_)
        | (with_reducible refine tree_load (o := ⟨some 19, .load _ _, _, _, _, _⟩) rfl rfl rfl rfl rfl c3 ?_)
        | (with_reducible refine tree_load (o := ⟨some 26, .load _ _, _, _, _, _⟩) rfl rfl rfl rfl rfl c3 ?_)
        | (refine tree_take rfl (fun K hK => ?_); go_simp; with_reducible refine hK _ ?_; clear hK K))
      refine tree_done ?_
      clear hq
      have e0 : ({ data := (be 4 f.epoch).toArray } : ByteArray) ++ { data := (be 4 f.seq).toArray } ++ { data := [f.flag, UInt8.ofNat f.body.length].toArray } ++ { data := f.body.toArray } = ⟨(f.head ++ List.replicate 0 0).toArray⟩ := by rw [str_app, str_app, str_app]; simp [Fr.head]
      go_wp2_with fail
      go_loopw [4] (fun v4 wr => ∃ k : Nat, k ≤ 50 - f.body.length ∧ v4 = (.string ⟨(f.head ++ List.replicate k 0).toArray⟩) ∧ Sat W wr L) (fun v4 _ => strLeft v4)
      case atStart => exact ⟨0, by omega, congrArg Value.string e0, hs.pack (by repeat (first | with_reducible exact Pack.refl | with_reducible exact Pack.nil | with_reducible refine Pack.cons (by repeat (first | with_reducible exact Pick.here | with_reducible apply Pick.there)) ?_ | with_reducible apply Pack.drop))⟩
      case round =>
        clear hs e0
        obtain ⟨k, hk, rfl, hs⟩ := hrel
        have hlen : (f.head ++ List.replicate k 0).length = 10 + f.body.length + k := by simp [Fr.head_length]
        by_cases hlt : 10 + f.body.length + k < 60
        · have hltI : (10 : Int) + (f.body.length : Int) + (k : Int) < 60 := by omega
          go_wp2_with fail
          have e1 : ({ data := (f.head ++ List.replicate k 0).toArray } : ByteArray) ++ { data := #[0] } = ⟨(f.head ++ List.replicate (k + 1) 0).toArray⟩ := by
            have := str_app (f.head ++ List.replicate k 0) [0]
            rw [f60_step] at this
            exact this
          refine ⟨⟨k + 1, by omega, congrArg Value.string e1, hs⟩, ?_⟩
          rw [e1, strLeft_str, strLeft_str]
          simp [Fr.head_length]
          omega
        · have hltI : ¬ (10 : Int) + (f.body.length : Int) + (k : Int) < 60 := by omega
          have e60 : f.head ++ List.replicate k 0 = f.f60 := by unfold Fr.f60; rw [Fr.head_length]; congr 2; omega
          have hl60 := Fr.f60_length h50
          rw [e60]
          clear e60 hlen
          have hsz : Box (f.f60.length = 60) := ⟨hl60⟩
          have hcat : ¬ 9223372036854775807 < 64 := by omega
          go_wp2_with (first
            | (guard_target = wpList _ _ _ (⟨some 35, .convert _ _ _, _, _, _, _⟩ :: _) _ _; refine wpl (o := ⟨some 35, .convert _ _ _, _, _, _, _⟩) rfl fun K hK => ?_; go_must (refine op_to_bytes hs rfl Try.underlying9 Try.underlying36 Try.underlying5 (l := f.f60) rfl (by omega) fun v35 w4 h => hK _ _ ?_); clear hs hK K; have hs := h; clear h; try dsimp only [List.set] at hs)
            | (go_at_call 79; go_must (refine (rof_spec W _ _ hs _ f.f60 (own_bytes 0 rfl rfl rfl) (by omega)).mono ?_); clear hs; rintro e w1 ⟨rfl, hs⟩)
            | (go_at_call 78; go_must (refine (rnum_spec W _ _ hs (crcOf f.f60).toNat (crcOf f.f60).isLt).mono ?_); clear hs; rintro e w1 ⟨rfl, hs⟩))
          go_ret2
          exact ⟨congrArg (fun s => Ending.returned (.tuple #[.string s, .int .i64 0])) (str_app f.f60 (be 4 (crcOf f.f60).toNat)), hs.pack (by repeat (first | with_reducible exact Pack.refl | with_reducible exact Pack.nil | with_reducible refine Pack.cons (by repeat (first | with_reducible exact Pick.here | with_reducible apply Pick.there)) ?_ | with_reducible apply Pack.drop))⟩
    · refine op_lit1 hs rfl Try.underlying36 info_u8 rfl (u8s [f.flag, UInt8.ofNat f.body.length]) (by omega) rfl (u8s_one _) (by simp [u8s, Act.eval, Act.put, IntKind.wrap_u8]) fun b22 w1 h => hK _ _ (cS _ _ h (by (try dsimp only [List.set]); repeat (first | with_reducible exact List.mem_cons_self | with_reducible apply List.mem_cons_of_mem))) ?_
      clear hs hK K
      have hs := h
      clear h
      try dsimp only [List.set] at hs
      try go_simp
      refine tree_all (trees_cons_yes (o := _) rfl rfl (fun K hK => ?_) (cS _ _ hs (by (try dsimp only [List.set]); repeat (first | with_reducible exact List.mem_cons_self | with_reducible apply List.mem_cons_of_mem))) (trees_cons_yes (o := _) rfl rfl (fun K hK => ?_) (cS _ _ hs (by (try dsimp only [List.set]); repeat (first | with_reducible exact List.mem_cons_self | with_reducible apply List.mem_cons_of_mem))) trees_nil))
      · try go_simp
        go_at_call 78
        refine (rnum_spec W _ _ hs f.seq ok.s).mono ?_
        clear hs
        rintro e w5 ⟨rfl, hs⟩
        try go_simp
        refine hK _ _ (cS _ _ hs (by (try dsimp only [List.set]); repeat (first | with_reducible exact List.mem_cons_self | with_reducible apply List.mem_cons_of_mem))) ?_
        clear hK K
        repeat (first
          | (with_reducible refine tree_load (o := ⟨some 10, .load _ _, _, _, _, _⟩) rfl rfl rfl rfl rfl c0 ?_)
          | (with_reducible refine tree_load (o := ⟨some 13, .load _ _, _, _, _, _⟩) rfl rfl rfl rfl rfl c1 ?_)
          | (with_reducible refine tree_load (o := ⟨some 17, .load _ _, _, _, _, _⟩) rfl rfl rfl rfl rfl c2 ?_)
          | (with_reducible refine tree_load (o := ⟨some 19, .load _ _, _, _, _, _⟩) rfl rfl rfl rfl rfl c3 ?_)
          | (with_reducible refine tree_load (o := ⟨some 26, .load _ _, _, _, _, _⟩) rfl rfl rfl rfl rfl c3 ?_)
          | (refine tree_take rfl (fun K hK => ?_); go_simp; with_reducible refine hK _ ?_; clear hK K))
        refine tree_one_yes (o := _) rfl rfl (fun K hK => ?_) (cS _ _ hs (by (try dsimp only [List.set]); repeat (first | with_reducible exact List.mem_cons_self | with_reducible apply List.mem_cons_of_mem)))
        refine op_to_string rfl Try.underlying36 Try.underlying5 Try.underlying9 rfl (hs.bytes (lit_bytes (l := [f.flag, UInt8.ofNat f.body.length]) 0 rfl 2 rfl (by omega))) (hK _ _ (cS _ _ hs (by (try dsimp only [List.set]); repeat (first | with_reducible exact List.mem_cons_self | with_reducible apply List.mem_cons_of_mem))) ?_)
        clear hK K
        try go_simp
        repeat (first
          | (with_reducible refine tree_load (o := ⟨some 10, .load _ _, _, _, _, _⟩) rfl rfl rfl rfl rfl c0 ?_)
          | (with_reducible refine tree_load (o := ⟨some 13, .load _ _, _, _, _, _⟩) rfl rfl rfl rfl rfl c1 ?_)
          | (with_reducible refine tree_load (o := ⟨some 17, .load _ _, _, _, _, _⟩) rfl rfl rfl rfl rfl c2 ?_)
          | (with_reducible refine tree_load (o := ⟨some 19, .load _ _, _, _, _, _⟩) rfl rfl rfl rfl rfl c3 ?_)
          | (with_reducible refine tree_load (o := ⟨some 26, .load _ _, _, _, _, _⟩) rfl rfl rfl rfl rfl c3 ?_)
          | (refine tree_take rfl (fun K hK => ?_); go_simp; with_reducible refine hK _ ?_; clear hK K))
        refine tree_done ?_
        clear hq
        have e0 : ({ data := (be 4 f.epoch).toArray } : ByteArray) ++ { data := (be 4 f.seq).toArray } ++ { data := [f.flag, UInt8.ofNat f.body.length].toArray } ++ { data := f.body.toArray } = ⟨(f.head ++ List.replicate 0 0).toArray⟩ := by rw [str_app, str_app, str_app]; simp [Fr.head]
        go_wp2_with fail
        go_loopw [4] (fun v4 wr => ∃ k : Nat, k ≤ 50 - f.body.length ∧ v4 = (.string ⟨(f.head ++ List.replicate k 0).toArray⟩) ∧ Sat W wr L) (fun v4 _ => strLeft v4)
        case atStart => exact ⟨0, by omega, congrArg Value.string e0, hs.pack (by repeat (first | with_reducible exact Pack.refl | with_reducible exact Pack.nil | with_reducible refine Pack.cons (by repeat (first | with_reducible exact Pick.here | with_reducible apply Pick.there)) ?_ | with_reducible apply Pack.drop))⟩
        case round =>
          clear hs e0
          obtain ⟨k, hk, rfl, hs⟩ := hrel
          have hlen : (f.head ++ List.replicate k 0).length = 10 + f.body.length + k := by simp [Fr.head_length]
          by_cases hlt : 10 + f.body.length + k < 60
          · have hltI : (10 : Int) + (f.body.length : Int) + (k : Int) < 60 := by omega
            go_wp2_with fail
            have e1 : ({ data := (f.head ++ List.replicate k 0).toArray } : ByteArray) ++ { data := #[0] } = ⟨(f.head ++ List.replicate (k + 1) 0).toArray⟩ := by
              have := str_app (f.head ++ List.replicate k 0) [0]
              rw [f60_step] at this
              exact this
            refine ⟨⟨k + 1, by omega, congrArg Value.string e1, hs⟩, ?_⟩
            rw [e1, strLeft_str, strLeft_str]
            simp [Fr.head_length]
            omega
          · have hltI : ¬ (10 : Int) + (f.body.length : Int) + (k : Int) < 60 := by omega
            have e60 : f.head ++ List.replicate k 0 = f.f60 := by unfold Fr.f60; rw [Fr.head_length]; congr 2; omega
            have hl60 := Fr.f60_length h50
            rw [e60]
            clear e60 hlen
            have hsz : Box (f.f60.length = 60) := ⟨hl60⟩
            have hcat : ¬ 9223372036854775807 < 64 := by omega
            go_wp2_with (first
              | (guard_target = wpList _ _ _ (⟨some 35, .convert _ _ _, _, _, _, _⟩ :: _) _ _; refine wpl (o := ⟨some 35, .convert _ _ _, _, _, _, _⟩) rfl fun K hK => ?_; go_must (refine op_to_bytes hs rfl Try.underlying9 Try.underlying36 Try.underlying5 (l := f.f60) rfl (by omega) fun v35 w4 h => hK _ _ ?_); clear hs hK K; have hs := h; clear h; try dsimp only [List.set] at hs)
              | (go_at_call 79; go_must (refine (rof_spec W _ _ hs _ f.f60 (own_bytes 0 rfl rfl rfl) (by omega)).mono ?_); clear hs; rintro e w1 ⟨rfl, hs⟩)
              | (go_at_call 78; go_must (refine (rnum_spec W _ _ hs (crcOf f.f60).toNat (crcOf f.f60).isLt).mono ?_); clear hs; rintro e w1 ⟨rfl, hs⟩))
            go_ret2
            exact ⟨congrArg (fun s => Ending.returned (.tuple #[.string s, .int .i64 0])) (str_app f.f60 (be 4 (crcOf f.f60).toNat)), hs.pack (by repeat (first | with_reducible exact Pack.refl | with_reducible exact Pack.nil | with_reducible refine Pack.cons (by repeat (first | with_reducible exact Pick.here | with_reducible apply Pick.there)) ?_ | with_reducible apply Pack.drop))⟩
      · refine op_to_string rfl Try.underlying36 Try.underlying5 Try.underlying9 rfl (hs.bytes (lit_bytes (l := [f.flag, UInt8.ofNat f.body.length]) 0 rfl 2 rfl (by omega))) (hK _ _ (cS _ _ hs (by (try dsimp only [List.set]); repeat (first | with_reducible exact List.mem_cons_self | with_reducible apply List.mem_cons_of_mem))) ?_)
        clear hK K
        try go_simp
        refine tree_one_yes (o := _) rfl rfl (fun K hK => ?_) (cS _ _ hs (by (try dsimp only [List.set]); repeat (first | with_reducible exact List.mem_cons_self | with_reducible apply List.mem_cons_of_mem)))
        try go_simp
        go_at_call 78
        refine (rnum_spec W _ _ hs f.seq ok.s).mono ?_
        clear hs
        rintro e w5 ⟨rfl, hs⟩
        try go_simp
        refine hK _ _ (cS _ _ hs (by (try dsimp only [List.set]); repeat (first | with_reducible exact List.mem_cons_self | with_reducible apply List.mem_cons_of_mem))) ?_
        clear hK K
        repeat (first
          | (with_reducible refine tree_load (o := ⟨some 10, .load _ _, _, _, _, _⟩) rfl rfl rfl rfl rfl c0 ?_)
          | (with_reducible refine tree_load (o := ⟨some 13, .load _ _, _, _, _, _⟩) rfl rfl rfl rfl rfl c1 ?_)
          | (with_reducible refine tree_load (o := ⟨some 17, .load _ _, _, _, _, _⟩) rfl rfl rfl rfl rfl c2 ?_)
          | (with_reducible refine tree_load (o := ⟨some 19, .load _ _, _, _, _, _⟩) rfl rfl rfl rfl rfl c3 ?_)
          | (with_reducible refine tree_load (o := ⟨some 26, .load _ _, _, _, _, _⟩) rfl rfl rfl rfl rfl c3 ?_)
          | (refine tree_take rfl (fun K hK => ?_); go_simp; with_reducible refine hK _ ?_; clear hK K))
        refine tree_done ?_
        clear hq
        have e0 : ({ data := (be 4 f.epoch).toArray } : ByteArray) ++ { data := (be 4 f.seq).toArray } ++ { data := [f.flag, UInt8.ofNat f.body.length].toArray } ++ { data := f.body.toArray } = ⟨(f.head ++ List.replicate 0 0).toArray⟩ := by rw [str_app, str_app, str_app]; simp [Fr.head]
        go_wp2_with fail
        go_loopw [4] (fun v4 wr => ∃ k : Nat, k ≤ 50 - f.body.length ∧ v4 = (.string ⟨(f.head ++ List.replicate k 0).toArray⟩) ∧ Sat W wr L) (fun v4 _ => strLeft v4)
        case atStart => exact ⟨0, by omega, congrArg Value.string e0, hs.pack (by repeat (first | with_reducible exact Pack.refl | with_reducible exact Pack.nil | with_reducible refine Pack.cons (by repeat (first | with_reducible exact Pick.here | with_reducible apply Pick.there)) ?_ | with_reducible apply Pack.drop))⟩
        case round =>
          clear hs e0
          obtain ⟨k, hk, rfl, hs⟩ := hrel
          have hlen : (f.head ++ List.replicate k 0).length = 10 + f.body.length + k := by simp [Fr.head_length]
          by_cases hlt : 10 + f.body.length + k < 60
          · have hltI : (10 : Int) + (f.body.length : Int) + (k : Int) < 60 := by omega
            go_wp2_with fail
            have e1 : ({ data := (f.head ++ List.replicate k 0).toArray } : ByteArray) ++ { data := #[0] } = ⟨(f.head ++ List.replicate (k + 1) 0).toArray⟩ := by
              have := str_app (f.head ++ List.replicate k 0) [0]
              rw [f60_step] at this
              exact this
            refine ⟨⟨k + 1, by omega, congrArg Value.string e1, hs⟩, ?_⟩
            rw [e1, strLeft_str, strLeft_str]
            simp [Fr.head_length]
            omega
          · have hltI : ¬ (10 : Int) + (f.body.length : Int) + (k : Int) < 60 := by omega
            have e60 : f.head ++ List.replicate k 0 = f.f60 := by unfold Fr.f60; rw [Fr.head_length]; congr 2; omega
            have hl60 := Fr.f60_length h50
            rw [e60]
            clear e60 hlen
            have hsz : Box (f.f60.length = 60) := ⟨hl60⟩
            have hcat : ¬ 9223372036854775807 < 64 := by omega
            go_wp2_with (first
              | (guard_target = wpList _ _ _ (⟨some 35, .convert _ _ _, _, _, _, _⟩ :: _) _ _; refine wpl (o := ⟨some 35, .convert _ _ _, _, _, _, _⟩) rfl fun K hK => ?_; go_must (refine op_to_bytes hs rfl Try.underlying9 Try.underlying36 Try.underlying5 (l := f.f60) rfl (by omega) fun v35 w4 h => hK _ _ ?_); clear hs hK K; have hs := h; clear h; try dsimp only [List.set] at hs)
              | (go_at_call 79; go_must (refine (rof_spec W _ _ hs _ f.f60 (own_bytes 0 rfl rfl rfl) (by omega)).mono ?_); clear hs; rintro e w1 ⟨rfl, hs⟩)
              | (go_at_call 78; go_must (refine (rnum_spec W _ _ hs (crcOf f.f60).toNat (crcOf f.f60).isLt).mono ?_); clear hs; rintro e w1 ⟨rfl, hs⟩))
            go_ret2
            exact ⟨congrArg (fun s => Ending.returned (.tuple #[.string s, .int .i64 0])) (str_app f.f60 (be 4 (crcOf f.f60).toNat)), hs.pack (by repeat (first | with_reducible exact Pack.refl | with_reducible exact Pack.nil | with_reducible refine Pack.cons (by repeat (first | with_reducible exact Pick.here | with_reducible apply Pick.there)) ?_ | with_reducible apply Pack.drop))⟩
  · refine op_lit1 hs rfl Try.underlying36 info_u8 rfl (u8s [f.flag, UInt8.ofNat f.body.length]) (by omega) rfl (u8s_one _) (by simp [u8s, Act.eval, Act.put, IntKind.wrap_u8]) fun b22 w1 h => hK _ _ (cS _ _ h (by (try dsimp only [List.set]); repeat (first | with_reducible exact List.mem_cons_self | with_reducible apply List.mem_cons_of_mem))) ?_
    clear hs hK K
    have hs := h
    clear h
    try dsimp only [List.set] at hs
    try go_simp
    refine tree_all (trees_cons_yes (o := _) rfl rfl (fun K hK => ?_) (cS _ _ hs (by (try dsimp only [List.set]); repeat (first | with_reducible exact List.mem_cons_self | with_reducible apply List.mem_cons_of_mem))) (trees_cons_yes (o := _) rfl rfl (fun K hK => ?_) (cS _ _ hs (by (try dsimp only [List.set]); repeat (first | with_reducible exact List.mem_cons_self | with_reducible apply List.mem_cons_of_mem))) trees_nil))
    · try go_simp
      go_at_call 78
      refine (rnum_spec W _ _ hs f.epoch ok.e).mono ?_
      clear hs
      rintro e w5 ⟨rfl, hs⟩
      try go_simp
      refine hK _ _ (cS _ _ hs (by (try dsimp only [List.set]); repeat (first | with_reducible exact List.mem_cons_self | with_reducible apply List.mem_cons_of_mem))) ?_
      clear hK K
      refine tree_all (trees_cons_yes (o := _) rfl rfl (fun K hK => ?_) (cS _ _ hs (by (try dsimp only [List.set]); repeat (first | with_reducible exact List.mem_cons_self | with_reducible apply List.mem_cons_of_mem))) (trees_cons_yes (o := _) rfl rfl (fun K hK => ?_) (cS _ _ hs (by (try dsimp only [List.set]); repeat (first | with_reducible exact List.mem_cons_self | with_reducible apply List.mem_cons_of_mem))) trees_nil))
      · try go_simp
        go_at_call 78
        refine (rnum_spec W _ _ hs f.seq ok.s).mono ?_
        clear hs
        rintro e w5 ⟨rfl, hs⟩
        try go_simp
        refine hK _ _ (cS _ _ hs (by (try dsimp only [List.set]); repeat (first | with_reducible exact List.mem_cons_self | with_reducible apply List.mem_cons_of_mem))) ?_
        clear hK K
        repeat (first
          | (with_reducible refine tree_load (o := ⟨some 10, .load _ _, _, _, _, _⟩) rfl rfl rfl rfl rfl c0 ?_)
          | (with_reducible refine tree_load (o := ⟨some 13, .load _ _, _, _, _, _⟩) rfl rfl rfl rfl rfl c1 ?_)
          | (with_reducible refine tree_load (o := ⟨some 17, .load _ _, _, _, _, _⟩) rfl rfl rfl rfl rfl c2 ?_)
          | (with_reducible refine tree_load (o := ⟨some 19, .load _ _, _, _, _, _⟩) rfl rfl rfl rfl rfl c3 ?_)
          | (with_reducible refine tree_load (o := ⟨some 26, .load _ _, _, _, _, _⟩) rfl rfl rfl rfl rfl c3 ?_)
          | (refine tree_take rfl (fun K hK => ?_); go_simp; with_reducible refine hK _ ?_; clear hK K))
        refine tree_one_yes (o := _) rfl rfl (fun K hK => ?_) (cS _ _ hs (by (try dsimp only [List.set]); repeat (first | with_reducible exact List.mem_cons_self | with_reducible apply List.mem_cons_of_mem)))
        refine op_to_string rfl Try.underlying36 Try.underlying5 Try.underlying9 rfl (hs.bytes (lit_bytes (l := [f.flag, UInt8.ofNat f.body.length]) 0 rfl 2 rfl (by omega))) (hK _ _ (cS _ _ hs (by (try dsimp only [List.set]); repeat (first | with_reducible exact List.mem_cons_self | with_reducible apply List.mem_cons_of_mem))) ?_)
        clear hK K
        try go_simp
        repeat (first
          | (with_reducible refine tree_load (o := ⟨some 10, .load _ _, _, _, _, _⟩) rfl rfl rfl rfl rfl c0 ?_)
          | (with_reducible refine tree_load (o := ⟨some 13, .load _ _, _, _, _, _⟩) rfl rfl rfl rfl rfl c1 ?_)
          | (with_reducible refine tree_load (o := ⟨some 17, .load _ _, _, _, _, _⟩) rfl rfl rfl rfl rfl c2 ?_)
          | (with_reducible refine tree_load (o := ⟨some 19, .load _ _, _, _, _, _⟩) rfl rfl rfl rfl rfl c3 ?_)
          | (with_reducible refine tree_load (o := ⟨some 26, .load _ _, _, _, _, _⟩) rfl rfl rfl rfl rfl c3 ?_)
          | (refine tree_take rfl (fun K hK => ?_); go_simp; with_reducible refine hK _ ?_; clear hK K))
        refine tree_done ?_
        clear hq
        have e0 : ({ data := (be 4 f.epoch).toArray } : ByteArray) ++ { data := (be 4 f.seq).toArray } ++ { data := [f.flag, UInt8.ofNat f.body.length].toArray } ++ { data := f.body.toArray } = ⟨(f.head ++ List.replicate 0 0).toArray⟩ := by rw [str_app, str_app, str_app]; simp [Fr.head]
        go_wp2_with fail
        go_loopw [4] (fun v4 wr => ∃ k : Nat, k ≤ 50 - f.body.length ∧ v4 = (.string ⟨(f.head ++ List.replicate k 0).toArray⟩) ∧ Sat W wr L) (fun v4 _ => strLeft v4)
        case atStart => exact ⟨0, by omega, congrArg Value.string e0, hs.pack (by repeat (first | with_reducible exact Pack.refl | with_reducible exact Pack.nil | with_reducible refine Pack.cons (by repeat (first | with_reducible exact Pick.here | with_reducible apply Pick.there)) ?_ | with_reducible apply Pack.drop))⟩
        case round =>
          clear hs e0
          obtain ⟨k, hk, rfl, hs⟩ := hrel
          have hlen : (f.head ++ List.replicate k 0).length = 10 + f.body.length + k := by simp [Fr.head_length]
          by_cases hlt : 10 + f.body.length + k < 60
          · have hltI : (10 : Int) + (f.body.length : Int) + (k : Int) < 60 := by omega
            go_wp2_with fail
            have e1 : ({ data := (f.head ++ List.replicate k 0).toArray } : ByteArray) ++ { data := #[0] } = ⟨(f.head ++ List.replicate (k + 1) 0).toArray⟩ := by
              have := str_app (f.head ++ List.replicate k 0) [0]
              rw [f60_step] at this
              exact this
            refine ⟨⟨k + 1, by omega, congrArg Value.string e1, hs⟩, ?_⟩
            rw [e1, strLeft_str, strLeft_str]
            simp [Fr.head_length]
            omega
          · have hltI : ¬ (10 : Int) + (f.body.length : Int) + (k : Int) < 60 := by omega
            have e60 : f.head ++ List.replicate k 0 = f.f60 := by unfold Fr.f60; rw [Fr.head_length]; congr 2; omega
            have hl60 := Fr.f60_length h50
            rw [e60]
            clear e60 hlen
            have hsz : Box (f.f60.length = 60) := ⟨hl60⟩
            have hcat : ¬ 9223372036854775807 < 64 := by omega
            go_wp2_with (first
              | (guard_target = wpList _ _ _ (⟨some 35, .convert _ _ _, _, _, _, _⟩ :: _) _ _; refine wpl (o := ⟨some 35, .convert _ _ _, _, _, _, _⟩) rfl fun K hK => ?_; go_must (refine op_to_bytes hs rfl Try.underlying9 Try.underlying36 Try.underlying5 (l := f.f60) rfl (by omega) fun v35 w4 h => hK _ _ ?_); clear hs hK K; have hs := h; clear h; try dsimp only [List.set] at hs)
              | (go_at_call 79; go_must (refine (rof_spec W _ _ hs _ f.f60 (own_bytes 0 rfl rfl rfl) (by omega)).mono ?_); clear hs; rintro e w1 ⟨rfl, hs⟩)
              | (go_at_call 78; go_must (refine (rnum_spec W _ _ hs (crcOf f.f60).toNat (crcOf f.f60).isLt).mono ?_); clear hs; rintro e w1 ⟨rfl, hs⟩))
            go_ret2
            exact ⟨congrArg (fun s => Ending.returned (.tuple #[.string s, .int .i64 0])) (str_app f.f60 (be 4 (crcOf f.f60).toNat)), hs.pack (by repeat (first | with_reducible exact Pack.refl | with_reducible exact Pack.nil | with_reducible refine Pack.cons (by repeat (first | with_reducible exact Pick.here | with_reducible apply Pick.there)) ?_ | with_reducible apply Pack.drop))⟩
      · refine op_to_string rfl Try.underlying36 Try.underlying5 Try.underlying9 rfl (hs.bytes (lit_bytes (l := [f.flag, UInt8.ofNat f.body.length]) 0 rfl 2 rfl (by omega))) (hK _ _ (cS _ _ hs (by (try dsimp only [List.set]); repeat (first | with_reducible exact List.mem_cons_self | with_reducible apply List.mem_cons_of_mem))) ?_)
        clear hK K
        try go_simp
        refine tree_one_yes (o := _) rfl rfl (fun K hK => ?_) (cS _ _ hs (by (try dsimp only [List.set]); repeat (first | with_reducible exact List.mem_cons_self | with_reducible apply List.mem_cons_of_mem)))
        try go_simp
        go_at_call 78
        refine (rnum_spec W _ _ hs f.seq ok.s).mono ?_
        clear hs
        rintro e w5 ⟨rfl, hs⟩
        try go_simp
        refine hK _ _ (cS _ _ hs (by (try dsimp only [List.set]); repeat (first | with_reducible exact List.mem_cons_self | with_reducible apply List.mem_cons_of_mem))) ?_
        clear hK K
        repeat (first
          | (with_reducible refine tree_load (o := ⟨some 10, .load _ _, _, _, _, _⟩) rfl rfl rfl rfl rfl c0 ?_)
          | (with_reducible refine tree_load (o := ⟨some 13, .load _ _, _, _, _, _⟩) rfl rfl rfl rfl rfl c1 ?_)
          | (with_reducible refine tree_load (o := ⟨some 17, .load _ _, _, _, _, _⟩) rfl rfl rfl rfl rfl c2 ?_)
          | (with_reducible refine tree_load (o := ⟨some 19, .load _ _, _, _, _, _⟩) rfl rfl rfl rfl rfl c3 ?_)
          | (with_reducible refine tree_load (o := ⟨some 26, .load _ _, _, _, _, _⟩) rfl rfl rfl rfl rfl c3 ?_)
          | (refine tree_take rfl (fun K hK => ?_); go_simp; with_reducible refine hK _ ?_; clear hK K))
        refine tree_done ?_
        clear hq
        have e0 : ({ data := (be 4 f.epoch).toArray } : ByteArray) ++ { data := (be 4 f.seq).toArray } ++ { data := [f.flag, UInt8.ofNat f.body.length].toArray } ++ { data := f.body.toArray } = ⟨(f.head ++ List.replicate 0 0).toArray⟩ := by rw [str_app, str_app, str_app]; simp [Fr.head]
        go_wp2_with fail
        go_loopw [4] (fun v4 wr => ∃ k : Nat, k ≤ 50 - f.body.length ∧ v4 = (.string ⟨(f.head ++ List.replicate k 0).toArray⟩) ∧ Sat W wr L) (fun v4 _ => strLeft v4)
        case atStart => exact ⟨0, by omega, congrArg Value.string e0, hs.pack (by repeat (first | with_reducible exact Pack.refl | with_reducible exact Pack.nil | with_reducible refine Pack.cons (by repeat (first | with_reducible exact Pick.here | with_reducible apply Pick.there)) ?_ | with_reducible apply Pack.drop))⟩
        case round =>
          clear hs e0
          obtain ⟨k, hk, rfl, hs⟩ := hrel
          have hlen : (f.head ++ List.replicate k 0).length = 10 + f.body.length + k := by simp [Fr.head_length]
          by_cases hlt : 10 + f.body.length + k < 60
          · have hltI : (10 : Int) + (f.body.length : Int) + (k : Int) < 60 := by omega
            go_wp2_with fail
            have e1 : ({ data := (f.head ++ List.replicate k 0).toArray } : ByteArray) ++ { data := #[0] } = ⟨(f.head ++ List.replicate (k + 1) 0).toArray⟩ := by
              have := str_app (f.head ++ List.replicate k 0) [0]
              rw [f60_step] at this
              exact this
            refine ⟨⟨k + 1, by omega, congrArg Value.string e1, hs⟩, ?_⟩
            rw [e1, strLeft_str, strLeft_str]
            simp [Fr.head_length]
            omega
          · have hltI : ¬ (10 : Int) + (f.body.length : Int) + (k : Int) < 60 := by omega
            have e60 : f.head ++ List.replicate k 0 = f.f60 := by unfold Fr.f60; rw [Fr.head_length]; congr 2; omega
            have hl60 := Fr.f60_length h50
            rw [e60]
            clear e60 hlen
            have hsz : Box (f.f60.length = 60) := ⟨hl60⟩
            have hcat : ¬ 9223372036854775807 < 64 := by omega
            go_wp2_with (first
              | (guard_target = wpList _ _ _ (⟨some 35, .convert _ _ _, _, _, _, _⟩ :: _) _ _; refine wpl (o := ⟨some 35, .convert _ _ _, _, _, _, _⟩) rfl fun K hK => ?_; go_must (refine op_to_bytes hs rfl Try.underlying9 Try.underlying36 Try.underlying5 (l := f.f60) rfl (by omega) fun v35 w4 h => hK _ _ ?_); clear hs hK K; have hs := h; clear h; try dsimp only [List.set] at hs)
              | (go_at_call 79; go_must (refine (rof_spec W _ _ hs _ f.f60 (own_bytes 0 rfl rfl rfl) (by omega)).mono ?_); clear hs; rintro e w1 ⟨rfl, hs⟩)
              | (go_at_call 78; go_must (refine (rnum_spec W _ _ hs (crcOf f.f60).toNat (crcOf f.f60).isLt).mono ?_); clear hs; rintro e w1 ⟨rfl, hs⟩))
            go_ret2
            exact ⟨congrArg (fun s => Ending.returned (.tuple #[.string s, .int .i64 0])) (str_app f.f60 (be 4 (crcOf f.f60).toNat)), hs.pack (by repeat (first | with_reducible exact Pack.refl | with_reducible exact Pack.nil | with_reducible refine Pack.cons (by repeat (first | with_reducible exact Pick.here | with_reducible apply Pick.there)) ?_ | with_reducible apply Pack.drop))⟩
    · refine op_to_string rfl Try.underlying36 Try.underlying5 Try.underlying9 rfl (hs.bytes (lit_bytes (l := [f.flag, UInt8.ofNat f.body.length]) 0 rfl 2 rfl (by omega))) (hK _ _ (cS _ _ hs (by (try dsimp only [List.set]); repeat (first | with_reducible exact List.mem_cons_self | with_reducible apply List.mem_cons_of_mem))) ?_)
      clear hK K
      try go_simp
      refine tree_one_yes (o := _) rfl rfl (fun K hK => ?_) (cS _ _ hs (by (try dsimp only [List.set]); repeat (first | with_reducible exact List.mem_cons_self | with_reducible apply List.mem_cons_of_mem)))
      try go_simp
      go_at_call 78
      refine (rnum_spec W _ _ hs f.epoch ok.e).mono ?_
      clear hs
      rintro e w5 ⟨rfl, hs⟩
      try go_simp
      refine hK _ _ (cS _ _ hs (by (try dsimp only [List.set]); repeat (first | with_reducible exact List.mem_cons_self | with_reducible apply List.mem_cons_of_mem))) ?_
      clear hK K
      refine tree_one_yes (o := _) rfl rfl (fun K hK => ?_) (cS _ _ hs (by (try dsimp only [List.set]); repeat (first | with_reducible exact List.mem_cons_self | with_reducible apply List.mem_cons_of_mem)))
      try go_simp
      go_at_call 78
      refine (rnum_spec W _ _ hs f.seq ok.s).mono ?_
      clear hs
      rintro e w5 ⟨rfl, hs⟩
      try go_simp
      refine hK _ _ (cS _ _ hs (by (try dsimp only [List.set]); repeat (first | with_reducible exact List.mem_cons_self | with_reducible apply List.mem_cons_of_mem))) ?_
      clear hK K
      repeat (first
        | (with_reducible refine tree_load (o := ⟨some 10, .load _ _, _, _, _, _⟩) rfl rfl rfl rfl rfl c0 ?_)
        | (with_reducible refine tree_load (o := ⟨some 13, .load _ _, _, _, _, _⟩) rfl rfl rfl rfl rfl c1 ?_)
        | (with_reducible refine tree_load (o := ⟨some 17, .load _ _, _, _, _, _⟩) rfl rfl rfl rfl rfl c2 ?_)
        | (with_reducible refine tree_load (o := ⟨some 19, .load _ _, _, _, _, _⟩) rfl rfl rfl rfl rfl c3 ?_)
        | (with_reducible refine tree_load (o := ⟨some 26, .load _ _, _, _, _, _⟩) rfl rfl rfl rfl rfl c3 ?_)
        | (refine tree_take rfl (fun K hK => ?_); go_simp; with_reducible refine hK _ ?_; clear hK K))
      refine tree_done ?_
      clear hq
      have e0 : ({ data := (be 4 f.epoch).toArray } : ByteArray) ++ { data := (be 4 f.seq).toArray } ++ { data := [f.flag, UInt8.ofNat f.body.length].toArray } ++ { data := f.body.toArray } = ⟨(f.head ++ List.replicate 0 0).toArray⟩ := by rw [str_app, str_app, str_app]; simp [Fr.head]
      go_wp2_with fail
      go_loopw [4] (fun v4 wr => ∃ k : Nat, k ≤ 50 - f.body.length ∧ v4 = (.string ⟨(f.head ++ List.replicate k 0).toArray⟩) ∧ Sat W wr L) (fun v4 _ => strLeft v4)
      case atStart => exact ⟨0, by omega, congrArg Value.string e0, hs.pack (by repeat (first | with_reducible exact Pack.refl | with_reducible exact Pack.nil | with_reducible refine Pack.cons (by repeat (first | with_reducible exact Pick.here | with_reducible apply Pick.there)) ?_ | with_reducible apply Pack.drop))⟩
      case round =>
        clear hs e0
        obtain ⟨k, hk, rfl, hs⟩ := hrel
        have hlen : (f.head ++ List.replicate k 0).length = 10 + f.body.length + k := by simp [Fr.head_length]
        by_cases hlt : 10 + f.body.length + k < 60
        · have hltI : (10 : Int) + (f.body.length : Int) + (k : Int) < 60 := by omega
          go_wp2_with fail
          have e1 : ({ data := (f.head ++ List.replicate k 0).toArray } : ByteArray) ++ { data := #[0] } = ⟨(f.head ++ List.replicate (k + 1) 0).toArray⟩ := by
            have := str_app (f.head ++ List.replicate k 0) [0]
            rw [f60_step] at this
            exact this
          refine ⟨⟨k + 1, by omega, congrArg Value.string e1, hs⟩, ?_⟩
          rw [e1, strLeft_str, strLeft_str]
          simp [Fr.head_length]
          omega
        · have hltI : ¬ (10 : Int) + (f.body.length : Int) + (k : Int) < 60 := by omega
          have e60 : f.head ++ List.replicate k 0 = f.f60 := by unfold Fr.f60; rw [Fr.head_length]; congr 2; omega
          have hl60 := Fr.f60_length h50
          rw [e60]
          clear e60 hlen
          have hsz : Box (f.f60.length = 60) := ⟨hl60⟩
          have hcat : ¬ 9223372036854775807 < 64 := by omega
          go_wp2_with (first
            | (guard_target = wpList _ _ _ (⟨some 35, .convert _ _ _, _, _, _, _⟩ :: _) _ _; refine wpl (o := ⟨some 35, .convert _ _ _, _, _, _, _⟩) rfl fun K hK => ?_; go_must (refine op_to_bytes hs rfl Try.underlying9 Try.underlying36 Try.underlying5 (l := f.f60) rfl (by omega) fun v35 w4 h => hK _ _ ?_); clear hs hK K; have hs := h; clear h; try dsimp only [List.set] at hs)
            | (go_at_call 79; go_must (refine (rof_spec W _ _ hs _ f.f60 (own_bytes 0 rfl rfl rfl) (by omega)).mono ?_); clear hs; rintro e w1 ⟨rfl, hs⟩)
            | (go_at_call 78; go_must (refine (rnum_spec W _ _ hs (crcOf f.f60).toNat (crcOf f.f60).isLt).mono ?_); clear hs; rintro e w1 ⟨rfl, hs⟩))
          go_ret2
          exact ⟨congrArg (fun s => Ending.returned (.tuple #[.string s, .int .i64 0])) (str_app f.f60 (be 4 (crcOf f.f60).toNat)), hs.pack (by repeat (first | with_reducible exact Pack.refl | with_reducible exact Pack.nil | with_reducible refine Pack.cons (by repeat (first | with_reducible exact Pick.here | with_reducible apply Pick.there)) ?_ | with_reducible apply Pack.drop))⟩
set_option maxRecDepth 100000 in
set_option maxHeartbeats 400000 in
theorem rpack_full (W w : World) (L : List HP) (hs : Sat W w L) (f : Fr) (h50 : 50 < f.body.length) :
    Calls Try.prog 69 #[.agg #[.int .u32 (f.epoch : Nat), .int .u32 (f.seq : Nat), .int .u8 f.flag.toNat, .string ⟨f.body.toArray⟩]] w fun e w' => e = .returned (.tuple #[.string ⟨#[]⟩, .int .i64 3]) ∧ Sat W w' L := by
  have h50I : (50 : Int) < (f.body.length : Int) := by omega
  go_enter Try.func69, Try.ntmps69
  go_wp2_with (first
    | (guard_target = wpList _ _ _ (⟨some 1, .box _ _, _, _, _, _⟩ :: _) _ _; refine wpl (o := ⟨some 1, .box _ _, _, _, _, _⟩) rfl fun K hK => ?_; go_must (refine op_box hs rfl _ rfl (rCells f) rfl fun b1 w1 h => hK _ _ ?_); clear hs hK K; have hs := h; clear h; try dsimp only [List.set] at hs)
    | (guard_target = wpList _ _ _ (⟨some 6, .load _ _, _, _, _, _⟩ :: _) _ _; refine wpl (o := ⟨some 6, .load _ _, _, _, _, _⟩) rfl fun K hK => op_load rfl (ad := ⟨b1, 3, none⟩) rfl (by kernel_rfl) (hs.cell m0 rfl) (hK _ _ ?_); clear hK K))
  go_ret2
  exact ⟨rfl, hs.tail⟩
def rparsePost (l : List UInt8) (W : World) (L : List HP) (e : Ending) (w' : World) : Prop := e = .returned (.tuple #[.agg (rCells (Fr.parse l)).toArray, .int .i64 (Fr.code l : Nat)]) ∧ Sat W w' L
theorem rparse_not {l : List UInt8} {W w' : World} {L : List HP} {e : Ending} (h : Fr.is l = false) (he : e = .returned (.tuple #[.agg #[.int .u32 0, .int .u32 0, .int .u8 0, .string ⟨#[]⟩], .int .i64 2])) (hs : Sat W w' L) : rparsePost l W L e w' := by
  subst he
  exact ⟨by simp [Fr.parse, Fr.code, h, Fr.none, rCells], hs⟩
set_option maxRecDepth 100000 in
set_option maxHeartbeats 4000000 in
theorem rparse_spec (W w : World) (L : List HP) (hs : Sat W w L) (l : List UInt8) (hl : l.length ≤ 1000000) :
    Calls Try.prog 52 #[.string ⟨l.toArray⟩] w (rparsePost l W L) := by
  have hz := run_zero (P := Try.prog) zrframe
  by_cases h64 : l.length = 64
  · have hlt9 : 9 < l.length := by omega
    have hlt8 : 8 < l.length := by omega
    have h64I : (l.length : Int) = 64 := by omega
    by_cases hbig : 50 < l[9].toNat
    · have hbigI : (50 : Int) < (((⟨l.toArray⟩ : ByteArray)[9]'hlt9).toNat : Int) := by rw [str_get l 9 hlt9]; omega
      go_enter Try.func52, Try.ntmps52
      go_wp2_with (first
        | (guard_target = wpList _ _ _ (⟨some 2, .alloc _, _, _, _, _⟩ :: _) _ _; refine wpl (o := ⟨some 2, .alloc _, _, _, _, _⟩) rfl fun K hK => ?_; go_must (refine op_alloc hs rfl _ zrframe [.int .u32 0, .int .u32 0, .int .u8 0, .string ⟨#[]⟩] rfl fun b2 w1 h => hK _ _ ?_); clear hs hK K; have hs := h; clear h; try dsimp only [List.set] at hs)
        | (guard_target = wpList _ _ _ (⟨none, .store _ (.tmp 2) _, _, _, _, _⟩ :: _) _ _; refine wpl (o := ⟨none, .store _ (.tmp 2) _, _, _, _, _⟩) rfl fun K hK => ?_; go_must (refine op_store_whole hs (b := b2) rfl rfl [.int .u32 0, .int .u32 0, .int .u8 0, .string ⟨#[]⟩] rfl (by simp [Value.oneCell']) (by kernel_rfl) (k := 0) rfl rfl fun w3 h => hK _ _ ?_); clear hs hK K; have hs := h; clear h; try dsimp only [List.set] at hs))
      have hno : Fr.is l = false := by
        have h9 : l.getD 9 0 = l[9] := by rw [List.getD_eq_getElem?_getD, List.getElem?_eq_getElem (by omega)]; rfl
        have : ¬ l[9].toNat ≤ 50 := by omega
        simp only [Fr.is, h9, this]
        simp
      exact bodyPost_ret (run_results_cell_tmp rfl (b := b2) rfl [.int .u32 0, .int .u32 0, .int .u8 0, .string ⟨#[]⟩] (range_whole hs m0) (by kernel_rfl) (by kernel_rfl)) rfl (rparse_not hno rfl hs.tail)
    · have h9 : (l.getD 9 0).toNat = l[9].toNat := by rw [List.getD_eq_getElem?_getD, List.getElem?_eq_getElem (by omega)]; rfl
      have h8 : l.getD 8 0 = l[8] := by rw [List.getD_eq_getElem?_getD, List.getElem?_eq_getElem (by omega)]; rfl
      obtain ⟨n9, hg⟩ : ∃ n, ((⟨l.toArray⟩ : ByteArray)[9]'hlt9).toNat = n := ⟨_, rfl⟩
      have hn50 : n9 ≤ 50 := by rw [← hg, str_get l 9 hlt9]; omega
      have hbody : Box ((Fr.told l).body = (l.drop 10).take n9) := ⟨by simp only [Fr.told]; rw [h9, ← hg, str_get l 9 hlt9]⟩
      have hflag : Box ((Fr.told l).flag = l[8]) := ⟨by simp only [Fr.told]; rw [h8]⟩
      have H64 := Box.mk h64
      clear h9 h8 h64 hbig
      have hn9 : (0 : Int) ≤ n9 := by omega
      have hn9' : (n9 : Int) ≤ 50 := by omega
      have hw1 : IntKind.i64.wrap (n9 : Int) = n9 := wi64 (by omega) (by omega)
      have hw2 : IntKind.i64.wrap (10 + (n9 : Int)) = 10 + n9 := wi64 (by omega) (by omega)
      have hq0 : (0 : Int) ≤ 10 + n9 := by omega
      have hq1 : (10 + n9 : Int) ≤ 64 := by omega
      have hq2 : max (10 + (n9 : Int)) 0 = 10 + n9 := by omega
      have hq3 : (10 : Int) ≤ 10 + n9 := by omega
      go_enter Try.func52, Try.ntmps52
      go_wp2_with (first
        | (guard_target = wpList _ _ _ (⟨some 2, .alloc _, _, _, _, _⟩ :: _) _ _; refine wpl (o := ⟨some 2, .alloc _, _, _, _, _⟩) rfl fun K hK => ?_; go_must (refine op_alloc hs rfl _ zrframe [.int .u32 0, .int .u32 0, .int .u8 0, .string ⟨#[]⟩] rfl fun b2 w1 h => hK _ _ ?_); clear hs hK K; have hs := h; clear h; try dsimp only [List.set] at hs)
        | (go_at_call 68; with_reducible refine (rtakeNum_spec W _ _ hs l (by have := H64.out; omega)).mono ?_; clear hs; rintro e w1 ⟨rfl, hs⟩; rw [if_neg (by have := H64.out; omega)])
        | (go_at_call 68; go_must (rw [str_extract]; refine (rtakeNum_spec W _ _ hs ((l.take l.length).drop 4) (by have := H64.out; simp; omega)).mono ?_); clear hs; rintro e w1 ⟨rfl, hs⟩; rw [if_neg (by have := H64.out; simp; omega)]))
      have hS0 := hs.drew.trueS
      refine wp_region_tree (trueS) (.take 0 (.take 1 (.take 2 (.take 3 (.take 4 (.take 5 (.take 6 (.take 7 (.take 8 (.take 9 (.take 10 (.all [(11, .all [(12, DTree.done)])])))))))))))) (by kernel_rfl) (by kernel_rfl) (by kernel_rfl) (fun _ _ d _ _ h => by cases d <;> exact h) hS0 ?_
      have hs' := hs.drew
      clear hs
      have hs := hs'
      clear hs'
      have hq := fun p : Prop => class_const hS0 p
      clear hS0
      repeat (first
        | (refine tree_take rfl (fun K hK => ?_); go_simp; with_reducible refine hK _ ?_; clear hK K))
      refine tree_one_yes (o := _) rfl rfl (fun K hK => ?_) (hs.trueS)
      refine op_alloc hs rfl _ zrframe [.int .u32 0, .int .u32 0, .int .u8 0, .string ⟨#[]⟩] rfl fun b10 w1 h => hK _ _ (h.trueS) ?_
      clear hs hK K
      have hs := h
      clear h
      try dsimp only [List.set] at hs
      try go_simp
      refine tree_one_yes (o := _) rfl rfl (fun K hK => ?_) (hs.trueS)
      refine op_store_whole hs (b := b10) rfl rfl [.int .u32 (num (l.take 4) : Nat), .int .u32 (num ((l.drop 4).take 4) : Nat), .int .u8 ((⟨l.toArray⟩ : ByteArray)[8]'hlt8).toNat, .string (ByteArray.extract ⟨l.toArray⟩ 10 (10 + (n9 : Int)).toNat)] rfl (by simp [Value.oneCell']) (by kernel_rfl) (k := 0) rfl rfl fun w3 h => hK _ _ (h.trueS) ?_
      clear hs hK K
      have hs := h
      clear h
      try dsimp only [List.set] at hs
      try go_simp
      refine tree_done ?_
      have hs1 : Sat W w3 (row b10 (rCells (Fr.told l)) 118 :: row b2 [.int .u32 0, .int .u32 0, .int .u8 0, .string ⟨#[]⟩] 118 :: L) := by
        rw [str_extract, List.drop_take, show (10 + (n9 : Int)).toNat - 10 = n9 by omega, ← hbody.out, str_get l 8 hlt8, ← hflag.out] at hs
        exact hs
      clear hs
      have hs := hs1
      clear hs1
      have hlb : Box ((Fr.told l).body.length = n9) := ⟨by rw [hbody.out]; simp [H64.out]; omega⟩
      have h9 : Box ((l.getD 9 0).toNat ≤ 50) := ⟨by rw [List.getD_eq_getElem?_getD, List.getElem?_eq_getElem hlt9]; show l[9].toNat ≤ 50; rw [← str_get l 9 hlt9]; omega⟩
      cases hpl0 : ((Fr.told l).pack == l) with
      | true =>
        have heq := Box.mk (show (Fr.told l).pack = l by simpa using hpl0)
        clear hpl0
        clear hq
        go_wp2_with (first
          | (guard_target = wpList _ _ _ (⟨some 47, .load _ _, _, _, _, _⟩ :: _) _ _; refine wpl (o := ⟨some 47, .load _ _, _, _, _, _⟩) rfl fun K hK => op_load_agg rfl (b := b10) (i := 0) rfl (rCells (Fr.told l)) (range_whole hs (by (try dsimp only [List.set]); repeat (first | with_reducible exact List.mem_cons_self | with_reducible apply List.mem_cons_of_mem))) (by kernel_rfl) (by kernel_rfl) (hK _ _ ?_); clear hK K)
          | (go_at_call 69; go_must (refine (rpack_spec W _ _ hs (Fr.told l) (Fr.told_ok l) (by have := hlb.out; omega)).mono ?_); clear hs; rintro e w1 ⟨rfl, hs⟩; rw [heq.out])
          | (guard_target = wpList _ _ _ (⟨some 55, .load _ _, _, _, _, _⟩ :: _) _ _; refine wpl (o := ⟨some 55, .load _ _, _, _, _, _⟩) rfl fun K hK => op_load_agg rfl (b := b10) (i := 0) rfl (rCells (Fr.told l)) (range_whole hs (by (try dsimp only [List.set]); repeat (first | with_reducible exact List.mem_cons_self | with_reducible apply List.mem_cons_of_mem))) (by kernel_rfl) (by kernel_rfl) (hK _ _ ?_); clear hK K)
          | (guard_target = wpList _ _ _ (⟨none, .store _ (.tmp 2) _, _, _, _, _⟩ :: _) _ _; refine wpl (o := ⟨none, .store _ (.tmp 2) _, _, _, _, _⟩) rfl fun K hK => ?_; go_must (refine op_store_whole hs (b := b2) rfl rfl (rCells (Fr.told l)) rfl (by simp [rCells, Value.oneCell']) (by kernel_rfl) (k := 1) rfl rfl fun w3 h => hK _ _ ?_); clear hs hK K; have hs := h; clear h; try dsimp only [List.set] at hs))
        have his : Fr.is l = true := by simp only [Fr.is, H64.out, heq.out, h9.out]; simp
        refine bodyPost_ret (run_results_cell_tmp rfl (b := b2) rfl (rCells (Fr.told l)) (range_whole hs (by (try dsimp only [List.set]); repeat (first | with_reducible exact List.mem_cons_self | with_reducible apply List.mem_cons_of_mem))) (by kernel_rfl) (by kernel_rfl)) rfl ⟨?_, hs.pack (by repeat (first | with_reducible exact Pack.refl | with_reducible exact Pack.nil | with_reducible refine Pack.cons (by repeat (first | with_reducible exact Pick.here | with_reducible apply Pick.there)) ?_ | with_reducible apply Pack.drop))⟩
        simp only [Fr.parse, Fr.code, his, if_true]; rfl
      | false =>
        have hne : ((Fr.told l).pack != l) = true := by simp only [bne, hpl0]; rfl
        clear hq
        go_wp2_with (first
          | (guard_target = wpList _ _ _ (⟨some 47, .load _ _, _, _, _, _⟩ :: _) _ _; refine wpl (o := ⟨some 47, .load _ _, _, _, _, _⟩) rfl fun K hK => op_load_agg rfl (b := b10) (i := 0) rfl (rCells (Fr.told l)) (range_whole hs (by (try dsimp only [List.set]); repeat (first | with_reducible exact List.mem_cons_self | with_reducible apply List.mem_cons_of_mem))) (by kernel_rfl) (by kernel_rfl) (hK _ _ ?_); clear hK K)
          | (go_at_call 69; go_must (refine (rpack_spec W _ _ hs (Fr.told l) (Fr.told_ok l) (by have := hlb.out; omega)).mono ?_); clear hs; rintro e w1 ⟨rfl, hs⟩)
          | (guard_target = wpList _ _ _ (⟨some 55, .load _ _, _, _, _, _⟩ :: _) _ _; refine wpl (o := ⟨some 55, .load _ _, _, _, _, _⟩) rfl fun K hK => op_load_agg rfl (b := b10) (i := 0) rfl (rCells (Fr.told l)) (range_whole hs (by (try dsimp only [List.set]); repeat (first | with_reducible exact List.mem_cons_self | with_reducible apply List.mem_cons_of_mem))) (by kernel_rfl) (by kernel_rfl) (hK _ _ ?_); clear hK K)
          | (guard_target = wpList _ _ _ (⟨none, .store _ (.tmp 2) _, _, _, _, _⟩ :: _) _ _; refine wpl (o := ⟨none, .store _ (.tmp 2) _, _, _, _, _⟩) rfl fun K hK => ?_; go_must (refine op_store_whole hs (b := b2) rfl rfl [.int .u32 0, .int .u32 0, .int .u8 0, .string ⟨#[]⟩] rfl (by simp [rCells, Value.oneCell']) (by kernel_rfl) (k := 1) rfl rfl fun w3 h => hK _ _ ?_); clear hs hK K; have hs := h; clear h; try dsimp only [List.set] at hs))
        have hno : Fr.is l = false := by simp only [Fr.is, hpl0]; simp
        exact bodyPost_ret (run_results_cell_tmp rfl (b := b2) rfl [.int .u32 0, .int .u32 0, .int .u8 0, .string ⟨#[]⟩] (range_whole hs (by (try dsimp only [List.set]); repeat (first | with_reducible exact List.mem_cons_self | with_reducible apply List.mem_cons_of_mem))) (by kernel_rfl) (by kernel_rfl)) rfl (rparse_not hno rfl (hs.pack (by repeat (first | with_reducible exact Pack.refl | with_reducible exact Pack.nil | with_reducible refine Pack.cons (by repeat (first | with_reducible exact Pick.here | with_reducible apply Pick.there)) ?_ | with_reducible apply Pack.drop))))
  · have h64I : ¬ (l.length : Int) = 64 := by omega
    go_enter Try.func52, Try.ntmps52
    go_wp2_with (first
      | (guard_target = wpList _ _ _ (⟨some 2, .alloc _, _, _, _, _⟩ :: _) _ _; refine wpl (o := ⟨some 2, .alloc _, _, _, _, _⟩) rfl fun K hK => ?_; go_must (refine op_alloc hs rfl _ zrframe [.int .u32 0, .int .u32 0, .int .u8 0, .string ⟨#[]⟩] rfl fun b2 w1 h => hK _ _ ?_); clear hs hK K; have hs := h; clear h; try dsimp only [List.set] at hs)
      | (guard_target = wpList _ _ _ (⟨none, .store _ (.tmp 2) _, _, _, _, _⟩ :: _) _ _; refine wpl (o := ⟨none, .store _ (.tmp 2) _, _, _, _, _⟩) rfl fun K hK => ?_; go_must (refine op_store_whole hs (b := b2) rfl rfl [.int .u32 0, .int .u32 0, .int .u8 0, .string ⟨#[]⟩] rfl (by simp [Value.oneCell']) (by kernel_rfl) (k := 0) rfl rfl fun w3 h => hK _ _ ?_); clear hs hK K; have hs := h; clear h; try dsimp only [List.set] at hs))
    have hno : Fr.is l = false := by simp [Fr.is, h64]
    exact bodyPost_ret (run_results_cell_tmp rfl (b := b2) rfl [.int .u32 0, .int .u32 0, .int .u8 0, .string ⟨#[]⟩] (range_whole hs m0) (by kernel_rfl) (by kernel_rfl)) rfl (rparse_not hno rfl hs.tail)
end Go.Proofs.Ytimknlabhhopcaa
