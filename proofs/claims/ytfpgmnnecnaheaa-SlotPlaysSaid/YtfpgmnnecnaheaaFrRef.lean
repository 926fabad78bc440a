/- The contracts of the reference's Pack and Parse, and of the law's real. -/
import Derived.Test.YtfpgmnnecnaheaaFrParse
import Derived.Test.YtfpgmnnecnaheaaCrcR
set_option linter.unusedVariables false
set_option linter.unusedSimpArgs false
namespace Go.Proofs.Ytfpgmnnecnaheaa
open Go.RowKit
/-- A frame as the document has it. -/
def rCells (f : Fr) : List Value := [.int .u32 (f.epoch : Nat), .int .u32 (f.seq : Nat), .int .u8 f.flag.toNat, .string ⟨f.body.toArray⟩]
theorem zrframe : (Try.prog.info? 125).bind (·.zero) = some (.agg [Value.int .u32 0, .int .u32 0, .int .u8 0, .string ⟨#[]⟩].toArray) := by kernel_rfl
/-- What is missing of a string of 60 bytes. -/
def strLeft (v : Value) : Nat := match v with | .string s => 60 - s.size | _ => 0
theorem strLeft_str (l : List UInt8) : strLeft (.string ⟨l.toArray⟩) = 60 - l.length := rfl
/-- The zeros behind a frame's head, one by one. -/
theorem f60_step (f : Fr) (k : Nat) : (f.head ++ List.replicate k (0 : UInt8)) ++ [0] = f.head ++ List.replicate (k + 1) 0 := by rw [List.append_assoc, List.replicate_succ']
set_option maxRecDepth 100000 in
set_option maxHeartbeats 4000000 in
theorem rpack_spec (W w : World) (L : List HP) (hs : Sat W w L) (f : Fr) (ok : f.Ok) (h50 : f.body.length ≤ 50) :
    Calls Try.prog 73 #[.agg #[.int .u32 (f.epoch : Nat), .int .u32 (f.seq : Nat), .int .u8 f.flag.toNat, .string ⟨f.body.toArray⟩]] w fun e w' => e = .returned (.tuple #[(.string ⟨(f.pack).toArray⟩), .int .i64 0]) ∧ Sat W w' L := by
  have h50I : ¬ (50 : Int) < (f.body.length : Int) := by omega
  have hx8 := Box.mk (u8_len f.body.length (by omega))
  go_enter Try.func73, Try.ntmps73
  go_wp2_with (first
    | (guard_target = wpList _ _ _ (⟨some 1, .box _ _, _, _, _, _⟩ :: _) _ _; refine wpl (o := ⟨some 1, .box _ _, _, _, _, _⟩) rfl fun K hK => ?_; go_must (refine op_box hs rfl _ rfl (rCells f) rfl fun b1 w1 h => hK _ _ ?_); clear hs hK K; have hs := h; clear h; try dsimp only [List.set] at hs)
    | (guard_target = wpList _ _ _ (⟨some 6, .load _ _, _, _, _, _⟩ :: _) _ _; refine wpl (o := ⟨some 6, .load _ _, _, _, _, _⟩) rfl fun K hK => op_load rfl (ad := ⟨b1, 3, none⟩) rfl (by kernel_rfl) (hs.cell m0 rfl) (hK _ _ ?_); clear hK K))
  have cS : ∀ w M, Sat W w M → row b1 (rCells f) 125 ∈ M → rngS b1 (rCells f) w := fun w M h hm => range_whole h hm
  have c0 : ∀ w, rngS b1 (rCells f) w → w.cell? ⟨b1, 0, none⟩ = some (.int .u32 (f.epoch : Nat)) := fun w h => h 0 _ rfl
  have c1 : ∀ w, rngS b1 (rCells f) w → w.cell? ⟨b1, 1, none⟩ = some (.int .u32 (f.seq : Nat)) := fun w h => h 1 _ rfl
  have c2 : ∀ w, rngS b1 (rCells f) w → w.cell? ⟨b1, 2, none⟩ = some (.int .u8 f.flag.toNat) := fun w h => h 2 _ rfl
  have c3 : ∀ w, rngS b1 (rCells f) w → w.cell? ⟨b1, 3, none⟩ = some (.string ⟨f.body.toArray⟩) := fun w h => h 3 _ rfl
  have k1 : ¬ 9223372036854775807 < 8 := by omega
  have k2 : ¬ 9223372036854775807 < 10 := by omega
  have k3 : ¬ 9223372036854775807 < 10 + f.body.length := by omega
  have hS0 := cS _ _ hs.drew (by (try dsimp only [List.set]); repeat (first | with_reducible exact List.mem_cons_self | with_reducible apply List.mem_cons_of_mem))
  refine wp_region_tree (rngS b1 (rCells f)) (.take 0 (.take 1 (.take 3 (.take 4 (.take 7 (.take 8 (.take 9 (.take 10 (.take 11 (.take 12 (.take 16 (.take 17 (.all [(2, .all [(5, .take 6 (.all [(13, .all [(14, .take 15 (.take 18 (.take 19 (DTree.done))))])])), (13, .all [(5, .take 6 (.all [(14, .take 15 (.take 18 (.take 19 (DTree.done))))])), (14, .all [(5, .take 6 (.take 15 (.take 18 (.take 19 (DTree.done)))))])])]), (13, .all [(2, .all [(5, .take 6 (.all [(14, .take 15 (.take 18 (.take 19 (DTree.done))))])), (14, .all [(5, .take 6 (.take 15 (.take 18 (.take 19 (DTree.done)))))])]), (14, .all [(2, .all [(5, .take 6 (.take 15 (.take 18 (.take 19 (DTree.done)))))])])])]))))))))))))) (by kernel_rfl) (by kernel_rfl) (by kernel_rfl) (fun _ _ d _ _ h => by cases d <;> exact h) hS0 ?_
  have hs' := hs.drew
  clear hs
  have hs := hs'
  clear hs'
  have hq := fun p : Prop => class_const hS0 p
  clear hS0
  repeat (first
    | (with_reducible refine tree_load (o := ⟨some 10, .load _ _, _, _, _, _⟩) rfl rfl rfl rfl rfl c0 ?_)
    | (with_reducible refine tree_load (o := ⟨some 13, .load _ _, _, _, _, _⟩) rfl rfl rfl rfl rfl c1 ?_)
    | (with_reducible refine tree_load (o := ⟨some 17, .load _ _, _, _, _, _⟩) rfl rfl rfl rfl rfl c2 ?_)
    | (with_reducible refine tree_load (o := ⟨some 19, .load _ _, _, _, _, _⟩) rfl rfl rfl rfl rfl c3 ?_)
    | (with_reducible refine tree_load (o := ⟨some 26, .load _ _, _, _, _, _⟩) rfl rfl rfl rfl rfl c3 ?_)
    | (refine tree_take rfl (fun K hK => ?_); go_simp; with_reducible refine hK _ ?_; clear hK K))
  refine tree_all (trees_cons_yes (o := _) rfl rfl (fun K hK => ?_) (cS _ _ hs (by (try dsimp only [List.set]); repeat (first | with_reducible exact List.mem_cons_self | with_reducible apply List.mem_cons_of_mem))) (trees_cons_yes (o := _) rfl rfl (fun K hK => ?_) (cS _ _ hs (by (try dsimp only [List.set]); repeat (first | with_reducible exact List.mem_cons_self | with_reducible apply List.mem_cons_of_mem))) trees_nil))
  · try go_simp
    go_at_call 81
    refine (rnum_spec W _ _ hs f.epoch ok.e).mono ?_
    clear hs
    rintro e w5 ⟨rfl, hs⟩
    try go_simp
    refine hK _ _ (cS _ _ hs (by (try dsimp only [List.set]); repeat (first | with_reducible exact List.mem_cons_self | with_reducible apply List.mem_cons_of_mem))) ?_
    clear hK K
    refine tree_all (trees_cons_yes (o := _) rfl rfl (fun K hK => ?_) (cS _ _ hs (by (try dsimp only [List.set]); repeat (first | with_reducible exact List.mem_cons_self | with_reducible apply List.mem_cons_of_mem))) (trees_cons_yes (o := _) rfl rfl (fun K hK => ?_) (cS _ _ hs (by (try dsimp only [List.set]); repeat (first | with_reducible exact List.mem_cons_self | with_reducible apply List.mem_cons_of_mem))) trees_nil))
    · try go_simp
      go_at_call 81
      refine (rnum_spec W _ _ hs f.seq ok.s).mono ?_
      clear hs
      rintro e w5 ⟨rfl, hs⟩
      try go_simp
      refine hK _ _ (cS _ _ hs (by (try dsimp only [List.set]); repeat (first | with_reducible exact List.mem_cons_self | with_reducible apply List.mem_cons_of_mem))) ?_
      clear hK K
      repeat (first
        | (with_reducible refine tree_load (o := ⟨some 10, .load _ _, _, _, _, _⟩) rfl rfl rfl rfl rfl c0 ?_)
        | (with_reducible refine tree_load (o := ⟨some 13, .load _ _, _, _, _, _⟩) rfl rfl rfl rfl rfl c1 ?_)
        | (with_reducible refine tree_load (o := ⟨some 17, .load _ _, _, _, _, _⟩) rfl rfl rfl rfl rfl c2 ?_)
        | (with_reducible refine tree_load (o := ⟨some 19, .load _ _, _, _, _, _⟩) rfl rfl rfl rfl rfl c3 ?_)
        | (with_reducible refine tree_load (o := ⟨some 26, .load _ _, _, _, _, _⟩) rfl rfl rfl rfl rfl c3 ?_)
        | (refine tree_take rfl (fun K hK => ?_); go_simp; with_reducible refine hK _ ?_; clear hK K))
      refine tree_one_yes (o := _) rfl rfl (fun K hK => ?_) (cS _ _ hs (by (try dsimp only [List.set]); repeat (first | with_reducible exact List.mem_cons_self | with_reducible apply List.mem_cons_of_mem)))
      refine op_lit1 hs rfl Try.underlying23 info_u8 rfl (u8s [f.flag, UInt8.ofNat f.body.length]) (by omega) rfl (u8s_one _) (by simp [u8s, Act.eval, Act.put, IntKind.wrap_u8]) fun b22 w1 h => hK _ _ (cS _ _ h (by (try dsimp only [List.set]); repeat (first | with_reducible exact List.mem_cons_self | with_reducible apply List.mem_cons_of_mem))) ?_
      clear hs hK K
      have hs := h
      clear h
      try dsimp only [List.set] at hs
      try go_simp
      refine tree_one_yes (o := _) rfl rfl (fun K hK => ?_) (cS _ _ hs (by (try dsimp only [List.set]); repeat (first | with_reducible exact List.mem_cons_self | with_reducible apply List.mem_cons_of_mem)))
      refine op_to_string rfl Try.underlying23 Try.underlying5 Try.underlying9 rfl (hs.bytes (lit_bytes (l := [f.flag, UInt8.ofNat f.body.length]) 0 rfl 2 rfl (by omega))) (hK _ _ (cS _ _ hs (by (try dsimp only [List.set]); repeat (first | with_reducible exact List.mem_cons_self | with_reducible apply List.mem_cons_of_mem))) ?_)
      clear hK K
      try go_simp
      repeat (first
        | (with_reducible refine tree_load (o := ⟨some 10, .load _ _, _, _, _, _⟩) rfl rfl rfl rfl rfl c0 ?_)
        | (with_reducible refine tree_load (o := ⟨some 13, .load _ _, _, _, _, _⟩) rfl rfl rfl rfl rfl c1 ?_)
        | (with_reducible refine tree_load (o := ⟨some 17, .load _ _, _, _, _, _⟩) rfl rfl rfl rfl rfl c2 ?_)
        | (with_reducible refine tree_load (o := ⟨some 19, .load _ _, _, _, _, _⟩) rfl rfl rfl rfl rfl c3 ?_)
        | (with_reducible refine tree_load (o := ⟨some 26, .load _ _, _, _, _, _⟩) rfl rfl rfl rfl rfl c3 ?_)
        | (refine tree_take rfl (fun K hK => ?_); go_simp; with_reducible refine hK _ ?_; clear hK K))
      refine tree_done ?_
      clear hq
      have e0 : ({ data := (be 4 f.epoch).toArray } : ByteArray) ++ { data := (be 4 f.seq).toArray } ++ { data := [f.flag, UInt8.ofNat f.body.length].toArray } ++ { data := f.body.toArray } = ⟨(f.head ++ List.replicate 0 0).toArray⟩ := by rw [str_app, str_app, str_app]; simp [Fr.head]
      go_wp2_with fail
      go_loopw [4] (fun v4 wr => ∃ k : Nat, k ≤ 50 - f.body.length ∧ v4 = (.string ⟨(f.head ++ List.replicate k 0).toArray⟩) ∧ Sat W wr L) (fun v4 _ => strLeft v4)
      case atStart => exact ⟨0, by omega, congrArg Value.string e0, hs.pack (by repeat (first | with_reducible exact Pack.refl | with_reducible exact Pack.nil | with_reducible refine Pack.cons (by repeat (first | with_reducible exact Pick.here | with_reducible apply Pick.there)) ?_ | with_reducible apply Pack.drop))⟩
      case round =>
        clear hs e0
        obtain ⟨k, hk, rfl, hs⟩ := hrel
        have hlen : (f.head ++ List.replicate k 0).length = 10 + f.body.length + k := by simp [Fr.head_length]
        by_cases hlt : 10 + f.body.length + k < 60
        · have hltI : (10 : Int) + (f.body.length : Int) + (k : Int) < 60 := by omega
          go_wp2_with fail
          have e1 : ({ data := (f.head ++ List.replicate k 0).toArray } : ByteArray) ++ { data := #[0] } = ⟨(f.head ++ List.replicate (k + 1) 0).toArray⟩ := by
            have := str_app (f.head ++ List.replicate k 0) [0]
            rw [f60_step] at this
            exact this
          refine ⟨⟨k + 1, by omega, congrArg Value.string e1, hs⟩, ?_⟩
          rw [e1, strLeft_str, strLeft_str]
          simp [Fr.head_length]
          omega
        · have hltI : ¬ (10 : Int) + (f.body.length : Int) + (k : Int) < 60 := by omega
          have e60 : f.head ++ List.replicate k 0 = f.f60 := by unfold Fr.f60; rw [Fr.head_length]; congr 2; omega
          have hl60 := Fr.f60_length h50
          rw [e60]
          clear e60 hlen
          have hsz : Box (f.f60.length = 60) := ⟨hl60⟩
          have hcat : ¬ 9223372036854775807 < 64 := by omega
          go_wp2_with (first
            | (guard_target = wpList _ _ _ (⟨some 35, .convert _ _ _, _, _, _, _⟩ :: _) _ _; refine wpl (o := ⟨some 35, .convert _ _ _, _, _, _, _⟩) rfl fun K hK => ?_; go_must (refine op_to_bytes hs rfl Try.underlying9 Try.underlying23 Try.underlying5 (l := f.f60) rfl (by omega) fun v35 w4 h => hK _ _ ?_); clear hs hK K; have hs := h; clear h; try dsimp only [List.set] at hs)
            | (go_at_call 82; go_must (refine (rof_spec W _ _ hs _ f.f60 (own_bytes 0 rfl rfl rfl) (by omega)).mono ?_); clear hs; rintro e w1 ⟨rfl, hs⟩)
            | (go_at_call 81; go_must (refine (rnum_spec W _ _ hs (crcOf f.f60).toNat (crcOf f.f60).isLt).mono ?_); clear hs; rintro e w1 ⟨rfl, hs⟩))
          go_ret2
          exact ⟨congrArg (fun s => Ending.returned (.tuple #[.string s, .int .i64 0])) (str_app f.f60 (be 4 (crcOf f.f60).toNat)), hs.pack (by repeat (first | with_reducible exact Pack.refl | with_reducible exact Pack.nil | with_reducible refine Pack.cons (by repeat (first | with_reducible exact Pick.here | with_reducible apply Pick.there)) ?_ | with_reducible apply Pack.drop))⟩
    · refine op_lit1 hs rfl Try.underlying23 info_u8 rfl (u8s [f.flag, UInt8.ofNat f.body.length]) (by omega) rfl (u8s_one _) (by simp [u8s, Act.eval, Act.put, IntKind.wrap_u8]) fun b22 w1 h => hK _ _ (cS _ _ h (by (try dsimp only [List.set]); repeat (first | with_reducible exact List.mem_cons_self | with_reducible apply List.mem_cons_of_mem))) ?_
      clear hs hK K
      have hs := h
      clear h
      try dsimp only [List.set] at hs
      try go_simp
      refine tree_all (trees_cons_yes (o := _) rfl rfl (fun K hK => ?_) (cS _ _ hs (by (try dsimp only [List.set]); repeat (first | with_reducible exact List.mem_cons_self | with_reducible apply List.mem_cons_of_mem))) (trees_cons_yes (o := _) rfl rfl (fun K hK => ?_) (cS _ _ hs (by (try dsimp only [List.set]); repeat (first | with_reducible exact List.mem_cons_self | with_reducible apply List.mem_cons_of_mem))) trees_nil))
      · try go_simp
        go_at_call 81
        refine (rnum_spec W _ _ hs f.seq ok.s).mono ?_
        clear hs
        rintro e w5 ⟨rfl, hs⟩
        try go_simp
        refine hK _ _ (cS _ _ hs (by (try dsimp only [List.set]); repeat (first | with_reducible exact List.mem_cons_self | with_reducible apply List.mem_cons_of_mem))) ?_
        clear hK K
        repeat (first
          | (with_reducible refine tree_load (o := ⟨some 10, .load _ _, _, _, _, _⟩) rfl rfl rfl rfl rfl c0 ?_)
          | (with_reducible refine tree_load (o := ⟨some 13, .load _ _, _, _, _, _⟩) rfl rfl rfl rfl rfl c1 ?_)
          | (with_reducible refine tree_load (o := ⟨some 17, .load _ _, _, _, _, _⟩) rfl rfl rfl rfl rfl c2 ?_)
          | (with_reducible refine tree_load (o := ⟨some 19, .load _ _, _, _, _, _⟩) rfl rfl rfl rfl rfl c3 ?_)
          | (with_reducible refine tree_load (o := ⟨some 26, .load _ _, _, _, _, _⟩) rfl rfl rfl rfl rfl c3 ?_)
          | (refine tree_take rfl (fun K hK => ?_); go_simp; with_reducible refine hK _ ?_; clear hK K))
        refine tree_one_yes (o := _) rfl rfl (fun K hK => ?_) (cS _ _ hs (by (try dsimp only [List.set]); repeat (first | with_reducible exact List.mem_cons_self | with_reducible apply List.mem_cons_of_mem)))
        refine op_to_string rfl Try.underlying23 Try.underlying5 Try.underlying9 rfl (hs.bytes (lit_bytes (l := [f.flag, UInt8.ofNat f.body.length]) 0 rfl 2 rfl (by omega))) (hK _ _ (cS _ _ hs (by (try dsimp only [List.set]); repeat (first | with_reducible exact List.mem_cons_self | with_reducible apply List.mem_cons_of_mem))) ?_)
        clear hK K
        try go_simp
        repeat (first
          | (with_reducible refine tree_load (o := ⟨some 10, .load _ _, _, _, _, _⟩) rfl rfl rfl rfl rfl c0 ?_)
          | (with_reducible refine tree_load (o := ⟨some 13, .load _ _, _, _, _, _⟩) rfl rfl rfl rfl rfl c1 ?_)
          | (with_reducible refine tree_load (o := ⟨some 17, .load _ _, _, _, _, _⟩) rfl rfl rfl rfl rfl c2 ?_)
          | (with_reducible refine tree_load (o := ⟨some 19, .load _ _, _, _, _, _⟩) rfl rfl rfl rfl rfl c3 ?_)
          | (with_reducible refine tree_load (o := ⟨some 26, .load _ _, _, _, _, _⟩) rfl rfl rfl rfl rfl c3 ?_)
          | (refine tree_take rfl (fun K hK => ?_); go_simp; with_reducible refine hK _ ?_; clear hK K))
        refine tree_done ?_
        clear hq
        have e0 : ({ data := (be 4 f.epoch).toArray } : ByteArray) ++ { data := (be 4 f.seq).toArray } ++ { data := [f.flag, UInt8.ofNat f.body.length].toArray } ++ { data := f.body.toArray } = ⟨(f.head ++ List.replicate 0 0).toArray⟩ := by rw [str_app, str_app, str_app]; simp [Fr.head]
        go_wp2_with fail
        go_loopw [4] (fun v4 wr => ∃ k : Nat, k ≤ 50 - f.body.length ∧ v4 = (.string ⟨(f.head ++ List.replicate k 0).toArray⟩) ∧ Sat W wr L) (fun v4 _ => strLeft v4)
        case atStart => exact ⟨0, by omega, congrArg Value.string e0, hs.pack (by repeat (first | with_reducible exact Pack.refl | with_reducible exact Pack.nil | with_reducible refine Pack.cons (by repeat (first | with_reducible exact Pick.here | with_reducible apply Pick.there)) ?_ | with_reducible apply Pack.drop))⟩
        case round =>
          clear hs e0
          obtain ⟨k, hk, rfl, hs⟩ := hrel
          have hlen : (f.head ++ List.replicate k 0).length = 10 + f.body.length + k := by simp [Fr.head_length]
          by_cases hlt : 10 + f.body.length + k < 60
          · have hltI : (10 : Int) + (f.body.length : Int) + (k : Int) < 60 := by omega
            go_wp2_with fail
            have e1 : ({ data := (f.head ++ List.replicate k 0).toArray } : ByteArray) ++ { data := #[0] } = ⟨(f.head ++ List.replicate (k + 1) 0).toArray⟩ := by
              have := str_app (f.head ++ List.replicate k 0) [0]
              rw [f60_step] at this
              exact this
            refine ⟨⟨k + 1, by omega, congrArg Value.string e1, hs⟩, ?_⟩
            rw [e1, strLeft_str, strLeft_str]
            simp [Fr.head_length]
            omega
          · have hltI : ¬ (10 : Int) + (f.body.length : Int) + (k : Int) < 60 := by omega
            have e60 : f.head ++ List.replicate k 0 = f.f60 := by unfold Fr.f60; rw [Fr.head_length]; congr 2; omega
            have hl60 := Fr.f60_length h50
            rw [e60]
            clear e60 hlen
            have hsz : Box (f.f60.length = 60) := ⟨hl60⟩
            have hcat : ¬ 9223372036854775807 < 64 := by omega
            go_wp2_with (first
              | (guard_target = wpList _ _ _ (⟨some 35, .convert _ _ _, _, _, _, _⟩ :: _) _ _; refine wpl (o := ⟨some 35, .convert _ _ _, _, _, _, _⟩) rfl fun K hK => ?_; go_must (refine op_to_bytes hs rfl Try.underlying9 Try.underlying23 Try.underlying5 (l := f.f60) rfl (by omega) fun v35 w4 h => hK _ _ ?_); clear hs hK K; have hs := h; clear h; try dsimp only [List.set] at hs)
              | (go_at_call 82; go_must (refine (rof_spec W _ _ hs _ f.f60 (own_bytes 0 rfl rfl rfl) (by omega)).mono ?_); clear hs; rintro e w1 ⟨rfl, hs⟩)
              | (go_at_call 81; go_must (refine (rnum_spec W _ _ hs (crcOf f.f60).toNat (crcOf f.f60).isLt).mono ?_); clear hs; rintro e w1 ⟨rfl, hs⟩))
            go_ret2
            exact ⟨congrArg (fun s => Ending.returned (.tuple #[.string s, .int .i64 0])) (str_app f.f60 (be 4 (crcOf f.f60).toNat)), hs.pack (by repeat (first | with_reducible exact Pack.refl | with_reducible exact Pack.nil | with_reducible refine Pack.cons (by repeat (first | with_reducible exact Pick.here | with_reducible apply Pick.there)) ?_ | with_reducible apply Pack.drop))⟩
      · refine op_to_string rfl Try.underlying23 Try.underlying5 Try.underlying9 rfl (hs.bytes (lit_bytes (l := [f.flag, UInt8.ofNat f.body.length]) 0 rfl 2 rfl (by omega))) (hK _ _ (cS _ _ hs (by (try dsimp only [List.set]); repeat (first | with_reducible exact List.mem_cons_self | with_reducible apply List.mem_cons_of_mem))) ?_)
        clear hK K
        try go_simp
        refine tree_one_yes (o := _) rfl rfl (fun K hK => ?_) (cS _ _ hs (by (try dsimp only [List.set]); repeat (first | with_reducible exact List.mem_cons_self | with_reducible apply List.mem_cons_of_mem)))
        try go_simp
        go_at_call 81
        refine (rnum_spec W _ _ hs f.seq ok.s).mono ?_
        clear hs
        rintro e w5 ⟨rfl, hs⟩
        try go_simp
        refine hK _ _ (cS _ _ hs (by (try dsimp only [List.set]); repeat (first | with_reducible exact List.mem_cons_self | with_reducible apply List.mem_cons_of_mem))) ?_
        clear hK K
        repeat (first
          | (with_reducible refine tree_load (o := ⟨some 10, .load _ _, _, _, _, _⟩) rfl rfl rfl rfl rfl c0 ?_)
          | (with_reducible refine tree_load (o := ⟨some 13, .load _ _, _, _, _, _⟩) rfl rfl rfl rfl rfl c1 ?_)
          | (with_reducible refine tree_load (o := ⟨some 17, .load _ _, _, _, _, _⟩) rfl rfl rfl rfl rfl c2 ?_)
          | (with_reducible refine tree_load (o := ⟨some 19, .load _ _, _, _, _, _⟩) rfl rfl rfl rfl rfl c3 ?_)
          | (with_reducible refine tree_load (o := ⟨some 26, .load _ _, _, _, _, _⟩) rfl rfl rfl rfl rfl c3 ?_)
          | (refine tree_take rfl (fun K hK => ?_); go_simp; with_reducible refine hK _ ?_; clear hK K))
        refine tree_done ?_
        clear hq
        have e0 : ({ data := (be 4 f.epoch).toArray } : ByteArray) ++ { data := (be 4 f.seq).toArray } ++ { data := [f.flag, UInt8.ofNat f.body.length].toArray } ++ { data := f.body.toArray } = ⟨(f.head ++ List.replicate 0 0).toArray⟩ := by rw [str_app, str_app, str_app]; simp [Fr.head]
        go_wp2_with fail
        go_loopw [4] (fun v4 wr => ∃ k : Nat, k ≤ 50 - f.body.length ∧ v4 = (.string ⟨(f.head ++ List.replicate k 0).toArray⟩) ∧ Sat W wr L) (fun v4 _ => strLeft v4)
        case atStart => exact ⟨0, by omega, congrArg Value.string e0, hs.pack (by repeat (first | with_reducible exact Pack.refl | with_reducible exact Pack.nil | with_reducible refine Pack.cons (by repeat (first | with_reducible exact Pick.here | with_reducible apply Pick.there)) ?_ | with_reducible apply Pack.drop))⟩
        case round =>
          clear hs e0
          obtain ⟨k, hk, rfl, hs⟩ := hrel
          have hlen : (f.head ++ List.replicate k 0).length = 10 + f.body.length + k := by simp [Fr.head_length]
          by_cases hlt : 10 + f.body.length + k < 60
          · have hltI : (10 : Int) + (f.body.length : Int) + (k : Int) < 60 := by omega
            go_wp2_with fail
            have e1 : ({ data := (f.head ++ List.replicate k 0).toArray } : ByteArray) ++ { data := #[0] } = ⟨(f.head ++ List.replicate (k + 1) 0).toArray⟩ := by
              have := str_app (f.head ++ List.replicate k 0) [0]
              rw [f60_step] at this
              exact this
            refine ⟨⟨k + 1, by omega, congrArg Value.string e1, hs⟩, ?_⟩
            rw [e1, strLeft_str, strLeft_str]
            simp [Fr.head_length]
            omega
          · have hltI : ¬ (10 : Int) + (f.body.length : Int) + (k : Int) < 60 := by omega
            have e60 : f.head ++ List.replicate k 0 = f.f60 := by unfold Fr.f60; rw [Fr.head_length]; congr 2; omega
            have hl60 := Fr.f60_length h50
            rw [e60]
            clear e60 hlen
            have hsz : Box (f.f60.length = 60) := ⟨hl60⟩
            have hcat : ¬ 9223372036854775807 < 64 := by omega
            go_wp2_with (first
              | (guard_target = wpList _ _ _ (⟨some 35, .convert _ _ _, _, _, _, _⟩ :: _) _ _; refine wpl (o := ⟨some 35, .convert _ _ _, _, _, _, _⟩) rfl fun K hK => ?_; go_must (refine op_to_bytes hs rfl Try.underlying9 Try.underlying23 Try.underlying5 (l := f.f60) rfl (by omega) fun v35 w4 h => hK _ _ ?_); clear hs hK K; have hs := h; clear h; try dsimp only [List.set] at hs)
              | (go_at_call 82; go_must (refine (rof_spec W _ _ hs _ f.f60 (own_bytes 0 rfl rfl rfl) (by omega)).mono ?_); clear hs; rintro e w1 ⟨rfl, hs⟩)
              | (go_at_call 81; go_must (refine (rnum_spec W _ _ hs (crcOf f.f60).toNat (crcOf f.f60).isLt).mono ?_); clear hs; rintro e w1 ⟨rfl, hs⟩))
            go_ret2
            exact ⟨congrArg (fun s => Ending.returned (.tuple #[.string s, .int .i64 0])) (str_app f.f60 (be 4 (crcOf f.f60).toNat)), hs.pack (by repeat (first | with_reducible exact Pack.refl | with_reducible exact Pack.nil | with_reducible refine Pack.cons (by repeat (first | with_reducible exact Pick.here | with_reducible apply Pick.there)) ?_ | with_reducible apply Pack.drop))⟩
  · refine op_lit1 hs rfl Try.underlying23 info_u8 rfl (u8s [f.flag, UInt8.ofNat f.body.length]) (by omega) rfl (u8s_one _) (by simp [u8s, Act.eval, Act.put, IntKind.wrap_u8]) fun b22 w1 h => hK _ _ (cS _ _ h (by (try dsimp only [List.set]); repeat (first | with_reducible exact List.mem_cons_self | with_reducible apply List.mem_cons_of_mem))) ?_
    clear hs hK K
    have hs := h
    clear h
    try dsimp only [List.set] at hs
    try go_simp
    refine tree_all (trees_cons_yes (o := _) rfl rfl (fun K hK => ?_) (cS _ _ hs (by (try dsimp only [List.set]); repeat (first | with_reducible exact List.mem_cons_self | with_reducible apply List.mem_cons_of_mem))) (trees_cons_yes (o := _) rfl rfl (fun K hK => ?_) (cS _ _ hs (by (try dsimp only [List.set]); repeat (first | with_reducible exact List.mem_cons_self | with_reducible apply List.mem_cons_of_mem))) trees_nil))
    · try go_simp
      go_at_call 81
      refine (rnum_spec W _ _ hs f.epoch ok.e).mono ?_
      clear hs
      rintro e w5 ⟨rfl, hs⟩
      try go_simp
      refine hK _ _ (cS _ _ hs (by (try dsimp only [List.set]); repeat (first | with_reducible exact List.mem_cons_self | with_reducible apply List.mem_cons_of_mem))) ?_
      clear hK K
      refine tree_all (trees_cons_yes (o := _) rfl rfl (fun K hK => ?_) (cS _ _ hs (by (try dsimp only [List.set]); repeat (first | with_reducible exact List.mem_cons_self | with_reducible apply List.mem_cons_of_mem))) (trees_cons_yes (o := _) rfl rfl (fun K hK => ?_) (cS _ _ hs (by (try dsimp only [List.set]); repeat (first | with_reducible exact List.mem_cons_self | with_reducible apply List.mem_cons_of_mem))) trees_nil))
      · try go_simp
        go_at_call 81
        refine (rnum_spec W _ _ hs f.seq ok.s).mono ?_
        clear hs
        rintro e w5 ⟨rfl, hs⟩
        try go_simp
        refine hK _ _ (cS _ _ hs (by (try dsimp only [List.set]); repeat (first | with_reducible exact List.mem_cons_self | with_reducible apply List.mem_cons_of_mem))) ?_
        clear hK K
        repeat (first
          | (with_reducible refine tree_load (o := ⟨some 10, .load _ _, _, _, _, _⟩) rfl rfl rfl rfl rfl c0 ?_)
          | (with_reducible refine tree_load (o := ⟨some 13, .load _ _, _, _, _, _⟩) rfl rfl rfl rfl rfl c1 ?_)
          | (with_reducible refine tree_load (o := ⟨some 17, .load _ _, _, _, _, _⟩) rfl rfl rfl rfl rfl c2 ?_)
          | (with_reducible refine tree_load (o := ⟨some 19, .load _ _, _, _, _, _⟩) rfl rfl rfl rfl rfl c3 ?_)
          | (with_reducible refine tree_load (o := ⟨some 26, .load _ _, _, _, _, _⟩) rfl rfl rfl rfl rfl c3 ?_)
          | (refine tree_take rfl (fun K hK => ?_); go_simp; with_reducible refine hK _ ?_; clear hK K))
        refine tree_one_yes (o := _) rfl rfl (fun K hK => ?_) (cS _ _ hs (by (try dsimp only [List.set]); repeat (first | with_reducible exact List.mem_cons_self | with_reducible apply List.mem_cons_of_mem)))
        refine op_to_string rfl Try.underlying23 Try.underlying5 Try.underlying9 rfl (hs.bytes (lit_bytes (l := [f.flag, UInt8.ofNat f.body.length]) 0 rfl 2 rfl (by omega))) (hK _ _ (cS _ _ hs (by (try dsimp only [List.set]); repeat (first | with_reducible exact List.mem_cons_self | with_reducible apply List.mem_cons_of_mem))) ?_)
        clear hK K
        try go_simp
        repeat (first
          | (with_reducible refine tree_load (o := ⟨some 10, .load _ _, _, _, _, _⟩) rfl rfl rfl rfl rfl c0 ?_)
          | (with_reducible refine tree_load (o := ⟨some 13, .load _ _, _, _, _, _⟩) rfl rfl rfl rfl rfl c1 ?_)
          | (with_reducible refine tree_load (o := ⟨some 17, .load _ _, _, _, _, _⟩) rfl rfl rfl rfl rfl c2 ?_)
          | (with_reducible refine tree_load (o := ⟨some 19, .load _ _, _, _, _, _⟩) rfl rfl rfl rfl rfl c3 ?_)
          | (with_reducible refine tree_load (o := ⟨some 26, .load _ _, _, _, _, _⟩) rfl rfl rfl rfl rfl c3 ?_)
          | (refine tree_take rfl (fun K hK => ?_); go_simp; with_reducible refine hK _ ?_; clear hK K))
        refine tree_done ?_
        clear hq
        have e0 : ({ data := (be 4 f.epoch).toArray } : ByteArray) ++ { data := (be 4 f.seq).toArray } ++ { data := [f.flag, UInt8.ofNat f.body.length].toArray } ++ { data := f.body.toArray } = ⟨(f.head ++ List.replicate 0 0).toArray⟩ := by rw [str_app, str_app, str_app]; simp [Fr.head]
        go_wp2_with fail
        go_loopw [4] (fun v4 wr => ∃ k : Nat, k ≤ 50 - f.body.length ∧ v4 = (.string ⟨(f.head ++ List.replicate k 0).toArray⟩) ∧ Sat W wr L) (fun v4 _ => strLeft v4)
        case atStart => exact ⟨0, by omega, congrArg Value.string e0, hs.pack (by repeat (first | with_reducible exact Pack.refl | with_reducible exact Pack.nil | with_reducible refine Pack.cons (by repeat (first | with_reducible exact Pick.here | with_reducible apply Pick.there)) ?_ | with_reducible apply Pack.drop))⟩
        case round =>
          clear hs e0
          obtain ⟨k, hk, rfl, hs⟩ := hrel
          have hlen : (f.head ++ List.replicate k 0).length = 10 + f.body.length + k := by simp [Fr.head_length]
          by_cases hlt : 10 + f.body.length + k < 60
          · have hltI : (10 : Int) + (f.body.length : Int) + (k : Int) < 60 := by omega
            go_wp2_with fail
            have e1 : ({ data := (f.head ++ List.replicate k 0).toArray } : ByteArray) ++ { data := #[0] } = ⟨(f.head ++ List.replicate (k + 1) 0).toArray⟩ := by
              have := str_app (f.head ++ List.replicate k 0) [0]
              rw [f60_step] at this
              exact this
            refine ⟨⟨k + 1, by omega, congrArg Value.string e1, hs⟩, ?_⟩
            rw [e1, strLeft_str, strLeft_str]
            simp [Fr.head_length]
            omega
          · have hltI : ¬ (10 : Int) + (f.body.length : Int) + (k : Int) < 60 := by omega
            have e60 : f.head ++ List.replicate k 0 = f.f60 := by unfold Fr.f60; rw [Fr.head_length]; congr 2; omega
            have hl60 := Fr.f60_length h50
            rw [e60]
            clear e60 hlen
            have hsz : Box (f.f60.length = 60) := ⟨hl60⟩
            have hcat : ¬ 9223372036854775807 < 64 := by omega
            go_wp2_with (first
              | (guard_target = wpList _ _ _ (⟨some 35, .convert _ _ _, _, _, _, _⟩ :: _) _ _; refine wpl (o := ⟨some 35, .convert _ _ _, _, _, _, _⟩) rfl fun K hK => ?_; go_must (refine op_to_bytes hs rfl Try.underlying9 Try.underlying23 Try.underlying5 (l := f.f60) rfl (by omega) fun v35 w4 h => hK _ _ ?_); clear hs hK K; have hs := h; clear h; try dsimp only [List.set] at hs)
              | (go_at_call 82; go_must (refine (rof_spec W _ _ hs _ f.f60 (own_bytes 0 rfl rfl rfl) (by omega)).mono ?_); clear hs; rintro e w1 ⟨rfl, hs⟩)
              | (go_at_call 81; go_must (refine (rnum_spec W _ _ hs (crcOf f.f60).toNat (crcOf f.f60).isLt).mono ?_); clear hs; rintro e w1 ⟨rfl, hs⟩))
            go_ret2
            exact ⟨congrArg (fun s => Ending.returned (.tuple #[.string s, .int .i64 0])) (str_app f.f60 (be 4 (crcOf f.f60).toNat)), hs.pack (by repeat (first | with_reducible exact Pack.refl | with_reducible exact Pack.nil | with_reducible refine Pack.cons (by repeat (first | with_reducible exact Pick.here | with_reducible apply Pick.there)) ?_ | with_reducible apply Pack.drop))⟩
      · refine op_to_string rfl Try.underlying23 Try.underlying5 Try.underlying9 rfl (hs.bytes (lit_bytes (l := [f.flag, UInt8.ofNat f.body.length]) 0 rfl 2 rfl (by omega))) (hK _ _ (cS _ _ hs (by (try dsimp only [List.set]); repeat (first | with_reducible exact List.mem_cons_self | with_reducible apply List.mem_cons_of_mem))) ?_)
        clear hK K
        try go_simp
        refine tree_one_yes (o := _) rfl rfl (fun K hK => ?_) (cS _ _ hs (by (try dsimp only [List.set]); repeat (first | with_reducible exact List.mem_cons_self | with_reducible apply List.mem_cons_of_mem)))
        try go_simp
        go_at_call 81
        refine (rnum_spec W _ _ hs f.seq ok.s).mono ?_
        clear hs
        rintro e w5 ⟨rfl, hs⟩
        try go_simp
        refine hK _ _ (cS _ _ hs (by (try dsimp only [List.set]); repeat (first | with_reducible exact List.mem_cons_self | with_reducible apply List.mem_cons_of_mem))) ?_
        clear hK K
        repeat (first
          | (with_reducible refine tree_load (o := ⟨some 10, .load _ _, _, _, _, _⟩) rfl rfl rfl rfl rfl c0 ?_)
          | (with_reducible refine tree_load (o := ⟨some 13, .load _ _, _, _, _, _⟩) rfl rfl rfl rfl rfl c1 ?_)
          | (with_reducible refine tree_load (o := ⟨some 17, .load _ _, _, _, _, _⟩) rfl rfl rfl rfl rfl c2 ?_)
          | (with_reducible refine tree_load (o := ⟨some 19, .load _ _, _, _, _, _⟩) rfl rfl rfl rfl rfl c3 ?_)
          | (with_reducible refine tree_load (o := ⟨some 26, .load _ _, _, _, _, _⟩) rfl rfl rfl rfl rfl c3 ?_)
          | (refine tree_take rfl (fun K hK => ?_); go_simp; with_reducible refine hK _ ?_; clear hK K))
        refine tree_done ?_
        clear hq
        have e0 : ({ data := (be 4 f.epoch).toArray } : ByteArray) ++ { data := (be 4 f.seq).toArray } ++ { data := [f.flag, UInt8.ofNat f.body.length].toArray } ++ { data := f.body.toArray } = ⟨(f.head ++ List.replicate 0 0).toArray⟩ := by rw [str_app, str_app, str_app]; simp [Fr.head]
        go_wp2_with fail
        go_loopw [4] (fun v4 wr => ∃ k : Nat, k ≤ 50 - f.body.length ∧ v4 = (.string ⟨(f.head ++ List.replicate k 0).toArray⟩) ∧ Sat W wr L) (fun v4 _ => strLeft v4)
        case atStart => exact ⟨0, by omega, congrArg Value.string e0, hs.pack (by repeat (first | with_reducible exact Pack.refl | with_reducible exact Pack.nil | with_reducible refine Pack.cons (by repeat (first | with_reducible exact Pick.here | with_reducible apply Pick.there)) ?_ | with_reducible apply Pack.drop))⟩
        case round =>
          clear hs e0
          obtain ⟨k, hk, rfl, hs⟩ := hrel
          have hlen : (f.head ++ List.replicate k 0).length = 10 + f.body.length + k := by simp [Fr.head_length]
          by_cases hlt : 10 + f.body.length + k < 60
          · have hltI : (10 : Int) + (f.body.length : Int) + (k : Int) < 60 := by omega
            go_wp2_with fail
            have e1 : ({ data := (f.head ++ List.replicate k 0).toArray } : ByteArray) ++ { data := #[0] } = ⟨(f.head ++ List.replicate (k + 1) 0).toArray⟩ := by
              have := str_app (f.head ++ List.replicate k 0) [0]
              rw [f60_step] at this
              exact this
            refine ⟨⟨k + 1, by omega, congrArg Value.string e1, hs⟩, ?_⟩
            rw [e1, strLeft_str, strLeft_str]
            simp [Fr.head_length]
            omega
          · have hltI : ¬ (10 : Int) + (f.body.length : Int) + (k : Int) < 60 := by omega
            have e60 : f.head ++ List.replicate k 0 = f.f60 := by unfold Fr.f60; rw [Fr.head_length]; congr 2; omega
            have hl60 := Fr.f60_length h50
            rw [e60]
            clear e60 hlen
            have hsz : Box (f.f60.length = 60) := ⟨hl60⟩
            have hcat : ¬ 9223372036854775807 < 64 := by omega
            go_wp2_with (first
              | (guard_target = wpList _ _ _ (⟨some 35, .convert _ _ _, _, _, _, _⟩ :: _) _ _; refine wpl (o := ⟨some 35, .convert _ _ _, _, _, _, _⟩) rfl fun K hK => ?_; go_must (refine op_to_bytes hs rfl Try.underlying9 Try.underlying23 Try.underlying5 (l := f.f60) rfl (by omega) fun v35 w4 h => hK _ _ ?_); clear hs hK K; have hs := h; clear h; try dsimp only [List.set] at hs)
              | (go_at_call 82; go_must (refine (rof_spec W _ _ hs _ f.f60 (own_bytes 0 rfl rfl rfl) (by omega)).mono ?_); clear hs; rintro e w1 ⟨rfl, hs⟩)
              | (go_at_call 81; go_must (refine (rnum_spec W _ _ hs (crcOf f.f60).toNat (crcOf f.f60).isLt).mono ?_); clear hs; rintro e w1 ⟨rfl, hs⟩))
            go_ret2
            exact ⟨congrArg (fun s => Ending.returned (.tuple #[.string s, .int .i64 0])) (str_app f.f60 (be 4 (crcOf f.f60).toNat)), hs.pack (by repeat (first | with_reducible exact Pack.refl | with_reducible exact Pack.nil | with_reducible refine Pack.cons (by repeat (first | with_reducible exact Pick.here | with_reducible apply Pick.there)) ?_ | with_reducible apply Pack.drop))⟩
    · refine op_to_string rfl Try.underlying23 Try.underlying5 Try.underlying9 rfl (hs.bytes (lit_bytes (l := [f.flag, UInt8.ofNat f.body.length]) 0 rfl 2 rfl (by omega))) (hK _ _ (cS _ _ hs (by (try dsimp only [List.set]); repeat (first | with_reducible exact List.mem_cons_self | with_reducible apply List.mem_cons_of_mem))) ?_)
      clear hK K
      try go_simp
      refine tree_one_yes (o := _) rfl rfl (fun K hK => ?_) (cS _ _ hs (by (try dsimp only [List.set]); repeat (first | with_reducible exact List.mem_cons_self | with_reducible apply List.mem_cons_of_mem)))
      try go_simp
      go_at_call 81
      refine (rnum_spec W _ _ hs f.epoch ok.e).mono ?_
      clear hs
      rintro e w5 ⟨rfl, hs⟩
      try go_simp
      refine hK _ _ (cS _ _ hs (by (try dsimp only [List.set]); repeat (first | with_reducible exact List.mem_cons_self | with_reducible apply List.mem_cons_of_mem))) ?_
      clear hK K
      refine tree_one_yes (o := _) rfl rfl (fun K hK => ?_) (cS _ _ hs (by (try dsimp only [List.set]); repeat (first | with_reducible exact List.mem_cons_self | with_reducible apply List.mem_cons_of_mem)))
      try go_simp
      go_at_call 81
      refine (rnum_spec W _ _ hs f.seq ok.s).mono ?_
      clear hs
      rintro e w5 ⟨rfl, hs⟩
      try go_simp
      refine hK _ _ (cS _ _ hs (by (try dsimp only [List.set]); repeat (first | with_reducible exact List.mem_cons_self | with_reducible apply List.mem_cons_of_mem))) ?_
      clear hK K
      repeat (first
        | (with_reducible refine tree_load (o := ⟨some 10, .load _ _, _, _, _, _⟩) rfl rfl rfl rfl rfl c0 ?_)
        | (with_reducible refine tree_load (o := ⟨some 13, .load _ _, _, _, _, _⟩) rfl rfl rfl rfl rfl c1 ?_)
        | (with_reducible refine tree_load (o := ⟨some 17, .load _ _, _, _, _, _⟩) rfl rfl rfl rfl rfl c2 ?_)
        | (with_reducible refine tree_load (o := ⟨some 19, .load _ _, _, _, _, _⟩) rfl rfl rfl rfl rfl c3 ?_)
        | (with_reducible refine tree_load (o := ⟨some 26, .load _ _, _, _, _, _⟩) rfl rfl rfl rfl rfl c3 ?_)
        | (refine tree_take rfl (fun K hK => ?_); go_simp; with_reducible refine hK _ ?_; clear hK K))
      refine tree_done ?_
      clear hq
      have e0 : ({ data := (be 4 f.epoch).toArray } : ByteArray) ++ { data := (be 4 f.seq).toArray } ++ { data := [f.flag, UInt8.ofNat f.body.length].toArray } ++ { data := f.body.toArray } = ⟨(f.head ++ List.replicate 0 0).toArray⟩ := by rw [str_app, str_app, str_app]; simp [Fr.head]
      go_wp2_with fail
      go_loopw [4] (fun v4 wr => ∃ k : Nat, k ≤ 50 - f.body.length ∧ v4 = (.string ⟨(f.head ++ List.replicate k 0).toArray⟩) ∧ Sat W wr L) (fun v4 _ => strLeft v4)
      case atStart => exact ⟨0, by omega, congrArg Value.string e0, hs.pack (by repeat (first | with_reducible exact Pack.refl | with_reducible exact Pack.nil | with_reducible refine Pack.cons (by repeat (first | with_reducible exact Pick.here | with_reducible apply Pick.there)) ?_ | with_reducible apply Pack.drop))⟩
      case round =>
        clear hs e0
        obtain ⟨k, hk, rfl, hs⟩ := hrel
        have hlen : (f.head ++ List.replicate k 0).length = 10 + f.body.length + k := by simp [Fr.head_length]
        by_cases hlt : 10 + f.body.length + k < 60
        · have hltI : (10 : Int) + (f.body.length : Int) + (k : Int) < 60 := by omega
          go_wp2_with fail
          have e1 : ({ data := (f.head ++ List.replicate k 0).toArray } : ByteArray) ++ { data := #[0] } = ⟨(f.head ++ List.replicate (k + 1) 0).toArray⟩ := by
            have := str_app (f.head ++ List.replicate k 0) [0]
            rw [f60_step] at this
            exact this
          refine ⟨⟨k + 1, by omega, congrArg Value.string e1, hs⟩, ?_⟩
          rw [e1, strLeft_str, strLeft_str]
          simp [Fr.head_length]
          omega
        · have hltI : ¬ (10 : Int) + (f.body.length : Int) + (k : Int) < 60 := by omega
          have e60 : f.head ++ List.replicate k 0 = f.f60 := by unfold Fr.f60; rw [Fr.head_length]; congr 2; omega
          have hl60 := Fr.f60_length h50
          rw [e60]
          clear e60 hlen
          have hsz : Box (f.f60.length = 60) := ⟨hl60⟩
          have hcat : ¬ 9223372036854775807 < 64 := by omega
          go_wp2_with (first
            | (guard_target = wpList _ _ _ (⟨some 35, .convert _ _ _, _, _, _, _⟩ :: _) _ _; refine wpl (o := ⟨some 35, .convert _ _ _, _, _, _, _⟩) rfl fun K hK => ?_; go_must (refine op_to_bytes hs rfl Try.underlying9 Try.underlying23 Try.underlying5 (l := f.f60) rfl (by omega) fun v35 w4 h => hK _ _ ?_); clear hs hK K; have hs := h; clear h; try dsimp only [List.set] at hs)
            | (go_at_call 82; go_must (refine (rof_spec W _ _ hs _ f.f60 (own_bytes 0 rfl rfl rfl) (by omega)).mono ?_); clear hs; rintro e w1 ⟨rfl, hs⟩)
            | (go_at_call 81; go_must (refine (rnum_spec W _ _ hs (crcOf f.f60).toNat (crcOf f.f60).isLt).mono ?_); clear hs; rintro e w1 ⟨rfl, hs⟩))
          go_ret2
          exact ⟨congrArg (fun s => Ending.returned (.tuple #[.string s, .int .i64 0])) (str_app f.f60 (be 4 (crcOf f.f60).toNat)), hs.pack (by repeat (first | with_reducible exact Pack.refl | with_reducible exact Pack.nil | with_reducible refine Pack.cons (by repeat (first | with_reducible exact Pick.here | with_reducible apply Pick.there)) ?_ | with_reducible apply Pack.drop))⟩
set_option maxRecDepth 100000 in
set_option maxHeartbeats 400000 in
theorem rpack_full (W w : World) (L : List HP) (hs : Sat W w L) (f : Fr) (h50 : 50 < f.body.length) :
    Calls Try.prog 73 #[.agg #[.int .u32 (f.epoch : Nat), .int .u32 (f.seq : Nat), .int .u8 f.flag.toNat, .string ⟨f.body.toArray⟩]] w fun e w' => e = .returned (.tuple #[.string ⟨#[]⟩, .int .i64 3]) ∧ Sat W w' L := by
  have h50I : (50 : Int) < (f.body.length : Int) := by omega
  go_enter Try.func73, Try.ntmps73
  go_wp2_with (first
    | (guard_target = wpList _ _ _ (⟨some 1, .box _ _, _, _, _, _⟩ :: _) _ _; refine wpl (o := ⟨some 1, .box _ _, _, _, _, _⟩) rfl fun K hK => ?_; go_must (refine op_box hs rfl _ rfl (rCells f) rfl fun b1 w1 h => hK _ _ ?_); clear hs hK K; have hs := h; clear h; try dsimp only [List.set] at hs)
    | (guard_target = wpList _ _ _ (⟨some 6, .load _ _, _, _, _, _⟩ :: _) _ _; refine wpl (o := ⟨some 6, .load _ _, _, _, _, _⟩) rfl fun K hK => op_load rfl (ad := ⟨b1, 3, none⟩) rfl (by kernel_rfl) (hs.cell m0 rfl) (hK _ _ ?_); clear hK K))
  go_ret2
  exact ⟨rfl, hs.tail⟩
end Go.Proofs.Ytfpgmnnecnaheaa
